
/- A disk's Crash: what stays of the files. (Printed by wip/genDk11.py.) -/

import Derived.Test.YtelbofikcpchiaaGreatDk10

namespace Go.Proofs.YtelbofikcpchiaaGreat

set_option linter.unusedVariables false

set_option linter.unusedSimpArgs false

set_option linter.unusedSectionVars false

open Go.RowKit

/-- a row of bytes cut down -/
theorem own_cut {w : World} {N n c k : Nat} {e : TypeId} {A : Option Addr} {xs : List Value} (h : w.ownsRow N e 1 (.slice A n c) n xs) (hk : k ≤ n) : w.ownsRow N e 1 (.slice A k c) k (xs.take k) := by
  obtain ⟨h1, h2⟩ := h
  refine ⟨by rw [List.length_take, h1]; omega, ?_⟩
  rcases h2 with ⟨e1, e2⟩ | ⟨g, cap, cur, e1, hb, hg, hn, hc, hs, ht⟩
  · cases e1
    exact .inl ⟨by have : k = 0 := by omega
                   subst this; rfl, by omega⟩
  · cases e1
    refine .inr ⟨g, c, cur, rfl, hb, hg, by omega, hc, hs, ?_⟩
    rw [← ht, List.take_take, Nat.mul_one, Nat.mul_one, Nat.min_eq_left hk]
theorem exec_slice_hi {P : Program} {a : Act} {o : Oper} {w : World} (T : TypeId) (x y : Operand) (ho : o.op = .slice T x none (some y) none) (A : Option Addr) (n c : Nat) (k : Nat) (hx : a.eval x = .slice A n c) (hy : a.eval y = .int .i64 (k : Int)) (hk : k ≤ c) (ht : P.underlying T = some (.slice (P.elem T))) {sz : Nat} (hi' : (P.info? (P.elem T)).map (·.size) = some sz) (hA : ∀ a, A = some a → a.spot = none) : (execOp a.eval o).run P w = .ok (.value (.slice A k c)) w := by
  obtain ⟨i, hi, hs⟩ := Option.map_eq_some_iff.1 hi'
  have e : (if c = 0 then A else A.map (·.add (0 * i.size))) = A := by
    split
    · rfl
    · cases A with
      | none => rfl
      | some a =>
        obtain ⟨b, off, s⟩ := a
        have := hA _ rfl
        subst this
        rw [Option.map_some, Addr.add_lit]
        simp
  simp [execOp, ho, hx, hy, run_sliceAt_slice w T _ none _ none ht, run_slice_h w T A n c ht .i64 (k : Int) (by omega) (by omega), sizeOf, typeInfo, hi, sliced]
  simpa using e
theorem exec_slice_lo {P : Program} {a : Act} {o : Oper} {w : World} (T : TypeId) (x y : Operand) (ho : o.op = .slice T x (some y) none none) (A : Option Addr) (n c : Nat) (hx : a.eval x = .slice A n c) (hy : a.eval y = .int .i64 1) (hk : 1 ≤ n) (ht : P.underlying T = some (.slice (P.elem T))) (hi' : (P.info? (P.elem T)).map (·.size) = some 1) : (execOp a.eval o).run P w = .ok (.value (.slice (if c = 1 then A else A.map (·.add (1 * 1))) (n - 1) (c - 1))) w := by
  obtain ⟨i, hi, hs⟩ := Option.map_eq_some_iff.1 hi'
  simp [execOp, ho, hx, hy, run_sliceAt_slice w T _ _ none none ht, run_slice_l w T A n c ht .i64 1 (by omega) (by omega), sizeOf, typeInfo, hi, hs, sliced]

/-- where the walk over the names stands -/
structure CutAt (m mj : DM) (keep kp : List Int) (j : Nat) : Prop where
  now : mj.now = m.now
  fl : mj.files.length = m.files.length
  len : ∀ f ∈ mj.files, f.b.length ≤ 1099511627776 ∧ f.safe ≤ f.b.length
  cut : cutM (m.now.drop j) kp mj = cutM m.now keep m
theorem CutAt.start {m : DM} (hB : Bnd m) (keep : List Int) : CutAt m m keep keep 0 := ⟨rfl, rfl, hB.len, rfl⟩
theorem CutAt.done {m mj : DM} {keep kp : List Int} {j : Nat} (h : CutAt m mj keep kp j) (hj : j = m.now.length) : mj = cutM m.now keep m := by
  have := h.cut
  rw [List.drop_eq_nil_of_le (by omega)] at this
  exact this
section

variable {m mj : DM} {keep kp : List Int} {j f lo : Nat} {s : List UInt8} {x : FM}

theorem CutAt.zero (h : CutAt m mj keep kp j) (hj : j < m.now.length) (hp : m.now[j] = (s, f)) (hx : mj.files[f]? = some x) (hl : x.b.length = x.safe) : CutAt m mj keep kp (j + 1) := by
  refine ⟨h.now, h.fl, h.len, ?_⟩
  rw [← h.cut, List.drop_eq_getElem_cons hj, hp]
  show _ = cutM _ _ _
  conv => rhs; rw [cutM.eq_def]
  simp only [fileM_at hx, hl, Nat.sub_self, if_true]
theorem CutAt.set_len (h : CutAt m mj keep kp j) (hx : mj.files[f]? = some x) {q : Nat} (hq : q ≤ x.b.length) : ∀ y ∈ (setF mj f ⟨x.b.take q, q⟩).files, y.b.length ≤ 1099511627776 ∧ y.safe ≤ y.b.length := by
  intro y hy
  dsimp only [setF] at hy
  rcases List.mem_or_eq_of_mem_set hy with h1 | h1
  · exact h.len y h1
  · subst h1
    have h2 := h.len x (List.mem_of_getElem? hx)
    dsimp only
    rw [List.length_take]
    omega
theorem CutAt.none_ (h : CutAt m mj keep [] j) (hj : j < m.now.length) (hp : m.now[j] = (s, f)) (hx : mj.files[f]? = some x) (hl : x.b.length = x.safe + lo) (h0 : 0 < lo) : CutAt m (setF mj f ⟨x.b.take (x.safe + 0), x.safe + 0⟩) keep [] (j + 1) := by
  refine ⟨h.now, by simp [setF, h.fl], h.set_len hx (by omega), ?_⟩
  rw [← h.cut, List.drop_eq_getElem_cons hj, hp]
  show _ = cutM _ _ _
  conv => rhs; rw [cutM]
  have e : x.b.length - x.safe ≠ 0 := by omega
  simp only [fileM_at hx]
  rw [if_neg e]
  rfl
theorem CutAt.some_ {z : Int} (h : CutAt m mj keep (z :: kp) j) (hj : j < m.now.length) (hp : m.now[j] = (s, f)) (hx : mj.files[f]? = some x) (hl : x.b.length = x.safe + lo) (h0 : 0 < lo) : CutAt m (setF mj f ⟨x.b.take (x.safe + (min (max z 0) (lo : Int)).toNat), x.safe + (min (max z 0) (lo : Int)).toNat⟩) keep kp (j + 1) := by
  refine ⟨h.now, by simp [setF, h.fl], h.set_len hx (by omega), ?_⟩
  rw [← h.cut, List.drop_eq_getElem_cons hj, hp]
  show _ = cutM _ _ _
  conv => rhs; rw [cutM]
  have e : x.b.length - x.safe = lo := by omega
  simp only [fileM_at hx, e]
  rw [if_neg (by omega)]
  rfl
end

/-- a name of a rising list leads where it says -/
theorem find_at {ns : NM} (h : risesN ns) {s : List UInt8} {f : Nat} (hm : (s, f) ∈ ns) : findN ns s = some f := by
  unfold findN
  induction ns with
  | nil => cases hm
  | cons p r ih =>
    have h1 := List.pairwise_cons.1 h
    rw [List.find?_cons]
    rcases List.mem_cons.1 hm with e | e
    · subst e
      simp
    · have hne : (p.1 == s) = false := by
        rw [beq_eq_false_iff_ne]
        rintro rfl
        have := h1.1 _ e
        rw [WideAt.bytes_irrefl] at this
        cases this
      rw [hne]
      exact ih h1.2 e

set_option maxRecDepth 1000000 in
set_option maxHeartbeats 8000000 in
theorem cr_cut {u1 u3 u4 u5 u6 u7 u8 u9 u10 u11 u12 u13 u14 u15 u16 u17 u18 u19 u20 u21 u22 u23 u24 u25 u26 u27 u28 u29 u30 u31 u32 u33 u34 u35 u36 u37 u38 u39 u40 u41 u42 u43 u44 u45 u46 u47 u48 u49 u50 u51 u52 u53 u54 u55 u59 u60 u61 u62 u63 u64 u65 u66 u67 u68 u69 u70 u71 u72 u73 u74 u75 u76 u77 u78 u79 u80 u81 u82 u83 u84 u85 u86 u87 u88 u89 u90 u91 u92 u93 u94 u95 u96 u97 u98 u99 u100 u101 u102 u103 u104 u105 u106 u107 u108 u109 u110 u111 u112 u113 : Value} (N g : Nat) (m : DM) (d : DA) (HB : Hid (Bnd m)) (HI : Hid (IdsOk m)) (An : Option Addr) (nn cn : Nat) (HNN : Hid (m.now.length = nn)) (hnm : nn ≤ 1000000) (Ak : Option Addr) (keep : List Int) (kl kc : Nat) (HKL : Hid (keep.length = kl)) (HKC : Hid (kl ≤ kc)) (hkm : kl ≤ 9223372036854775807) (wr : World) (HD : Hid (DiskIn N wr g m d)) (HRN : Hid (Rd wr An (namesC m.now))) (HNF : Hid (∀ a, An = some a → ¬ foot g d a.block)) (HRK : Hid (Rd wr Ak (keep.map (Value.int .i64)))) (HKF : Hid (keep ≠ [] → ∀ a, Ak = some a → ¬ foot g d a.block)) (Q : Exit → Act → World → Prop)
    (hexit : ∀ (x2 x9 x10 x11 x12 x58 x59 x60 x61 x62 x63 x64 x65 x66 x67 x68 x69 x70 x71 x72 x73 x74 x75 x76 x77 x78 x79 x80 x81 x82 x83 x84 x85 x86 x87 x88 x89 x90 x91 x92 x93 x94 x95 x96 x97 x98 x99 x100 x101 x102 x103 x104 x105 x106 x107 x108 x109 x110 x111 x112 x113 : Value) (wx : World) (d' : DA), Hid (Aft N g wr wx (cutM m.now keep m) d d') → Q .normal ⟨#[.pointer (some ⟨g, 0, none⟩), u1, x2, u3, u4, u5, u6, u7, u8, x9, x10, x11, x12, u13, u14, u15, u16, u17, u18, u19, u20, u21, u22, u23, u24, u25, u26, u27, u28, u29, u30, u31, u32, u33, u34, u35, u36, u37, u38, u39, u40, u41, u42, u43, u44, u45, u46, u47, u48, u49, u50, u51, u52, u53, u54, u55, .slice An nn cn, .int .i64 (nn : Int), x58, x59, x60, x61, x62, x63, x64, x65, x66, x67, x68, x69, x70, x71, x72, x73, x74, x75, x76, x77, x78, x79, x80, x81, x82, x83, x84, x85, x86, x87, x88, x89, x90, x91, x92, x93, x94, x95, x96, x97, x98, x99, x100, x101, x102, x103, x104, x105, x106, x107, x108, x109, x110, x111, x112, x113], []⟩ wx) :
    Code.wp Tryz.prog (crBlk 2) Q ⟨#[.pointer (some ⟨g, 0, none⟩), u1, .slice Ak kl kc, u3, u4, u5, u6, u7, u8, u9, u10, u11, u12, u13, u14, u15, u16, u17, u18, u19, u20, u21, u22, u23, u24, u25, u26, u27, u28, u29, u30, u31, u32, u33, u34, u35, u36, u37, u38, u39, u40, u41, u42, u43, u44, u45, u46, u47, u48, u49, u50, u51, u52, u53, u54, u55, .slice An nn cn, .int .i64 (nn : Int), .int .i64 0, u59, u60, u61, u62, u63, u64, u65, u66, u67, u68, u69, u70, u71, u72, u73, u74, u75, u76, u77, u78, u79, u80, u81, u82, u83, u84, u85, u86, u87, u88, u89, u90, u91, u92, u93, u94, u95, u96, u97, u98, u99, u100, u101, u102, u103, u104, u105, u106, u107, u108, u109, u110, u111, u112, u113], []⟩ wr := by
  have HEX := Lib.hid hexit
  clear hexit
  conv => arg 2; whnf
  obtain ⟨w0, hw0⟩ : ∃ x, x = wr := ⟨_, rfl⟩
  subst hw0
  go_wp2_with fail
  go_loopg [2, 58] (nn * 1) (fun gk_ v2 iv wr => ∃ (j : Nat) (kp : List Int) (A' : Option Addr) (kl' kc' : Nat) (mj : DM) (dj : DA), j ≤ nn ∧ gk_ = nn - j ∧ v2 = .slice A' kl' kc' ∧ iv = .int .i64 (j : Int) ∧ kl' ≤ 9223372036854775807 ∧ Hid (kp.length = kl') ∧ Hid (kl' ≤ kc') ∧ Hid (Aft N g w0 wr mj d dj) ∧ Hid (CutAt m mj keep kp j) ∧ Hid (Rd w0 A' (kp.map (Value.int .i64))) ∧ Hid (kp ≠ [] → ∀ a, A' = some a → ¬ foot g d a.block))
  case atStart => exact ⟨0, keep, Ak, kl, kc, m, d, by omega, by omega, rfl, rfl, hkm, HKL, HKC, Lib.hid (Aft.refl HD.out), Lib.hid (CutAt.start HB.out keep), HRK, HKF⟩
  case round =>
  obtain ⟨j, kp, A', kl', kc', mj, dj, hj, rfl, rfl, rfl, hkm', HKL', HKC', HA, HCU, HRK', HKF'⟩ := hrel
  by_cases hlt : j < nn
  · have i1 : (j : Int) < (nn : Int) := by omega
    have hjm : j < m.now.length := by have := HNN.out; omega
    have HJM := Lib.hid hjm
    obtain ⟨s, f, hp⟩ : ∃ s f, m.now[j] = (s, f) := ⟨_, _, rfl⟩
    have hmem : (s, f) ∈ m.now := by rw [← hp]; exact List.getElem_mem hjm
    have hsl := HB.out.nl _ hmem
    dsimp only at hsl
    have hfl : f < mj.files.length := by rw [HCU.out.fl]; exact HI.out.now _ hmem
    obtain ⟨x, hxf⟩ : ∃ x, mj.files[f]? = some x := ⟨_, List.getElem?_eq_getElem hfl⟩
    have hxl := HCU.out.len x (List.mem_of_getElem? hxf)
    have hlk := look_any HA.out.disk.now ⟨s.toArray⟩ (by rw [toArray_size]; unfold maxLen; omega)
    rw [toArray_data, HCU.out.now, find_at HB.out.rn hmem] at hlk
    obtain ⟨b, v, q1, q2, q3, q4, q5⟩ := HA.out.disk.row_of hxf
    have e2 : ptrO dj.bs (some f) = .pointer (some ⟨b, 0, none⟩) := by rw [← q3]; rfl
    rw [e2] at hlk
    obtain ⟨Av, cv, rfl, hcv, _, _, _⟩ := own_slice q5
    obtain ⟨sf, hsf⟩ : ∃ sf, x.safe = sf := ⟨_, rfl⟩
    obtain ⟨xn, hxn⟩ : ∃ xn, x.b.length = xn := ⟨_, rfl⟩
    obtain ⟨lo, hlo⟩ : ∃ lo, xn = sf + lo := ⟨xn - sf, by omega⟩
    have HAV : Hid (∀ a, Av = some a → a.spot = none) := Lib.hid (fun a ha => by
      subst ha
      rcases q5.2 with ⟨e, _⟩ | ⟨g', cap, cur, e, _⟩
      · cases e
      · cases e
        rfl)
    rw [hxn] at hcv hxl q2 q4 q5
    rw [hsf] at q4 hxl
    have HXB : Hid (xn = sf + lo ∧ xn ≤ cv ∧ xn ≤ 1099511627776) := Lib.hid ⟨hlo, hcv, hxl.1⟩
    have HXN := Lib.hid hxn
    have HSF := Lib.hid hsf
    have HXF := Lib.hid hxf
    have HQ1 := Lib.hid q1
    have HQ2 := Lib.hid q2
    have HQ4 := Lib.hid q4
    have HQ5 := Lib.hid q5
    have HP : Hid (∀ h : j < m.now.length, m.now[j] = (s, f)) := Lib.hid (fun _ => hp)
    have hrd : Rd wr An (namesC m.now) := HRN.out.keep (fun ad e hlt => HA.out.frm.block _ hlt (HNF.out ad e))
    obtain ⟨gn, on, hAn, _⟩ := hrd.all (by simp [namesC]; exact Nat.pos_of_ne_zero (fun e => by rw [e] at hjm; cases hjm))
    have hcn : wr.cell? ⟨gn, on + j, none⟩ = some (.string ⟨s.toArray⟩) := by
      obtain ⟨b', o', e', hc'⟩ := hrd j (strV s) (by unfold namesC; rw [List.getElem?_map, show m.now[j]? = some (s, f) from (List.getElem?_eq_getElem hjm).trans (congrArg some hp)]; rfl)
      rw [hAn] at e'
      cases e'
      exact hc'
    have hc0 := HA.out.disk.cells.1
    have HAN := Lib.hid hAn
    obtain ⟨S, hS⟩ : ∃ S : ByteArray, (⟨s.toArray⟩ : ByteArray) = S := ⟨_, rfl⟩
    rw [hS] at hlk hcn
    rw [hAn]
    have k0 : wr.cell? ⟨b, 0, none⟩ = some (.slice Av xn cv) := row_cell q4 0
    have k1 : wr.cell? ⟨b, 1, none⟩ = some (.int .i64 (sf : Int)) := row_cell q4 1
    have hsub : ∀ w : World, (binOp .sub 3 (.int .i64 (xn : Int)) (.int .i64 (sf : Int))).run Tryz.prog w = .ok (.int .i64 (lo : Int)) w := fun w => bin_sub _ _ _ w (by omega) (by omega) (by omega)
    clear hp hmem hsl hfl hxf hxl q1 q2 q3 q4 q5 e2 hsf hxn hcv hlo hrd hAn hS hjm
    go_wp2_with fail
    refine wp_region_sched (fun w' => w'.cell? ⟨b, 0, none⟩ = some (.slice Av xn cv) ∧ w'.cell? ⟨b, 1, none⟩ = some (.int .i64 (sf : Int))) [(true, 0), (true, 1), (true, 2), (true, 3), (true, 4), (true, 5), (true, 6), (true, 7), (true, 8), (true, 9), (true, 10)] (by kernel_rfl) (by kernel_rfl) rfl (by kernel_rfl) ⟨k0, k1⟩ ?_
    (first | (refine wpS_pass _ rfl (by rfl) ?_; simp only [Act.put, List.getElem_toArray, List.getElem_cons_zero, List.getElem_cons_succ, List.setIfInBounds_toArray, List.set_cons_zero, List.set_cons_succ]) | (refine wpS_take _ ?_ rfl (by rfl) ?_ ?_; rotate_left; (focus (intro w' hS'; (try dsimp only at hS'); (repeat (have hS1 := hS'.1; replace hS' := hS'.2)); go_simp; (try with_reducible rfl); done)); simp only [Act.put, List.getElem_toArray, List.getElem_cons_zero, List.getElem_cons_succ, List.setIfInBounds_toArray, List.set_cons_zero, List.set_cons_succ]))
    (first | (refine wpS_pass _ rfl (by rfl) ?_; simp only [Act.put, List.getElem_toArray, List.getElem_cons_zero, List.getElem_cons_succ, List.setIfInBounds_toArray, List.set_cons_zero, List.set_cons_succ]) | (refine wpS_take _ ?_ rfl (by rfl) ?_ ?_; rotate_left; (focus (intro w' hS'; (try dsimp only at hS'); (repeat (have hS1 := hS'.1; replace hS' := hS'.2)); go_simp; (try with_reducible rfl); done)); simp only [Act.put, List.getElem_toArray, List.getElem_cons_zero, List.getElem_cons_succ, List.setIfInBounds_toArray, List.set_cons_zero, List.set_cons_succ]))
    (first | (refine wpS_pass _ rfl (by rfl) ?_; simp only [Act.put, List.getElem_toArray, List.getElem_cons_zero, List.getElem_cons_succ, List.setIfInBounds_toArray, List.set_cons_zero, List.set_cons_succ]) | (refine wpS_take _ ?_ rfl (by rfl) ?_ ?_; rotate_left; (focus (intro w' hS'; (try dsimp only at hS'); (repeat (have hS1 := hS'.1; replace hS' := hS'.2)); go_simp; (try with_reducible rfl); done)); simp only [Act.put, List.getElem_toArray, List.getElem_cons_zero, List.getElem_cons_succ, List.setIfInBounds_toArray, List.set_cons_zero, List.set_cons_succ]))
    refine wpS_take _ (.slice Av xn cv) rfl (by rfl) (fun w' hS' => ?_) ?_
    · have hS1 := hS'.1
      go_simp
    simp only [Act.put, List.getElem_toArray, List.getElem_cons_zero, List.getElem_cons_succ, List.setIfInBounds_toArray, List.set_cons_zero, List.set_cons_succ]
    (first | (refine wpS_pass _ rfl (by rfl) ?_; simp only [Act.put, List.getElem_toArray, List.getElem_cons_zero, List.getElem_cons_succ, List.setIfInBounds_toArray, List.set_cons_zero, List.set_cons_succ]) | (refine wpS_take _ ?_ rfl (by rfl) ?_ ?_; rotate_left; (focus (intro w' hS'; (try dsimp only at hS'); (repeat (have hS1 := hS'.1; replace hS' := hS'.2)); go_simp; (try with_reducible rfl); done)); simp only [Act.put, List.getElem_toArray, List.getElem_cons_zero, List.getElem_cons_succ, List.setIfInBounds_toArray, List.set_cons_zero, List.set_cons_succ]))
    (first | (refine wpS_pass _ rfl (by rfl) ?_; simp only [Act.put, List.getElem_toArray, List.getElem_cons_zero, List.getElem_cons_succ, List.setIfInBounds_toArray, List.set_cons_zero, List.set_cons_succ]) | (refine wpS_take _ ?_ rfl (by rfl) ?_ ?_; rotate_left; (focus (intro w' hS'; (try dsimp only at hS'); (repeat (have hS1 := hS'.1; replace hS' := hS'.2)); go_simp; (try with_reducible rfl); done)); simp only [Act.put, List.getElem_toArray, List.getElem_cons_zero, List.getElem_cons_succ, List.setIfInBounds_toArray, List.set_cons_zero, List.set_cons_succ]))
    (first | (refine wpS_pass _ rfl (by rfl) ?_; simp only [Act.put, List.getElem_toArray, List.getElem_cons_zero, List.getElem_cons_succ, List.setIfInBounds_toArray, List.set_cons_zero, List.set_cons_succ]) | (refine wpS_take _ ?_ rfl (by rfl) ?_ ?_; rotate_left; (focus (intro w' hS'; (try dsimp only at hS'); (repeat (have hS1 := hS'.1; replace hS' := hS'.2)); go_simp; (try with_reducible rfl); done)); simp only [Act.put, List.getElem_toArray, List.getElem_cons_zero, List.getElem_cons_succ, List.setIfInBounds_toArray, List.set_cons_zero, List.set_cons_succ]))
    (first | (refine wpS_pass _ rfl (by rfl) ?_; simp only [Act.put, List.getElem_toArray, List.getElem_cons_zero, List.getElem_cons_succ, List.setIfInBounds_toArray, List.set_cons_zero, List.set_cons_succ]) | (refine wpS_take _ ?_ rfl (by rfl) ?_ ?_; rotate_left; (focus (intro w' hS'; (try dsimp only at hS'); (repeat (have hS1 := hS'.1; replace hS' := hS'.2)); go_simp; (try with_reducible rfl); done)); simp only [Act.put, List.getElem_toArray, List.getElem_cons_zero, List.getElem_cons_succ, List.setIfInBounds_toArray, List.set_cons_zero, List.set_cons_succ]))
    refine wpS_take _ (.int .i64 (sf : Int)) rfl (by rfl) (fun w' hS' => ?_) ?_
    · have hS1 := hS'.2
      go_simp
    simp only [Act.put, List.getElem_toArray, List.getElem_cons_zero, List.getElem_cons_succ, List.setIfInBounds_toArray, List.set_cons_zero, List.set_cons_succ]
    refine wpS_take _ _ rfl (by rfl) (fun w' hS' => exec_bin _ _ _ _ _ rfl _ _ _ rfl rfl rfl (hsub w')) ?_
    simp only [Act.put, List.getElem_toArray, List.getElem_cons_zero, List.getElem_cons_succ, List.setIfInBounds_toArray, List.set_cons_zero, List.set_cons_succ]
    (first | (refine wpS_pass _ rfl (by rfl) ?_; simp only [Act.put, List.getElem_toArray, List.getElem_cons_zero, List.getElem_cons_succ, List.setIfInBounds_toArray, List.set_cons_zero, List.set_cons_succ]) | (refine wpS_take _ ?_ rfl (by rfl) ?_ ?_; rotate_left; (focus (intro w' hS'; (try dsimp only at hS'); (repeat (have hS1 := hS'.1; replace hS' := hS'.2)); go_simp; (try with_reducible rfl); done)); simp only [Act.put, List.getElem_toArray, List.getElem_cons_zero, List.getElem_cons_succ, List.setIfInBounds_toArray, List.set_cons_zero, List.set_cons_succ]))
    refine wpS_done ?_
    have HAD : Hid (Aft N g w0 wr.drew mj d dj) := Lib.hid (HA.out.trans ⟨HA.out.disk.drew, ⟨rfl, rfl, rfl, Nat.le_refl _, fun _ _ _ => rfl⟩, fun b hb => .inl hb⟩)
    replace HQ4 : Hid (wr.drew.heap[b]? = some (.cells #[.slice Av xn cv, .int .i64 (sf : Int)] 112 (0, 0))) := Lib.hid HQ4.out
    replace HQ5 : Hid (wr.drew.ownsRow N 5 1 (.slice Av xn cv) xn (b8s x.b)) := Lib.hid (own_keep HQ5.out (fun _ _ _ => rfl))
    clear hlk hc0 hcn k0 k1 hsub HA
    have HA := HAD
    clear HAD
    generalize wr.drew = wr at *
    by_cases hlz : lo = 0
    · have i2 : ((lo : Int) == 0) = true := by rw [hlz]; rfl
      have HNX : Hid (CutAt m mj keep kp (j + 1)) := Lib.hid (HCU.out.zero HJM.out (HP.out HJM.out) HXF.out (by rw [HXN.out, HSF.out]; have := HXB.out; omega))
      go_wp2_with fail
      rw [← HAN.out]
      go_roundg (nn - (j + 1))
      case measure => omega
      case rel => exact ⟨j + 1, kp, A', kl', kc', mj, dj, by omega, rfl, rfl, by first | rfl | exact congrArg (Value.int .i64) (by omega) | go_num, hkm', HKL', HKC', HA, HNX, HRK', HKF'⟩
    have i2 : ((lo : Int) == 0) = false := by rw [beq_eq_false_iff_ne]; omega
    cases kp with
    | nil =>
      obtain rfl : kl' = 0 := by have := HKL'.out; simpa using this.symm
      obtain ⟨q, hq⟩ : ∃ q, q = sf + 0 := ⟨_, rfl⟩
      have HQE : Hid (q = sf + 0 ∧ q ≤ xn) := Lib.hid ⟨hq, by have := HXB.out; omega⟩
      have HNX : Hid (CutAt m (setF mj f ⟨x.b.take q, q⟩) keep [] (j + 1)) := Lib.hid (by
        have := HCU.out.none_ HJM.out (HP.out HJM.out) HXF.out (lo := lo) (by rw [HXN.out, HSF.out]; exact HXB.out.1) (by omega)
        rw [HSF.out, ← hq] at this
        exact this)
      clear hq
      go_wp2_with fail
      have k0 : wr.cell? ⟨b, 0, none⟩ = some (.slice Av xn cv) := row_cell HQ4.out 0
      have k1 : wr.cell? ⟨b, 1, none⟩ = some (.int .i64 (sf : Int)) := row_cell HQ4.out 1
      have hadd : ∀ w : World, (binOp .add 3 (.int .i64 (sf : Int)) (.int .i64 0)).run Tryz.prog w = .ok (.int .i64 (q : Int)) w := fun w => bin_add _ _ _ w (by have := HQE.out; omega) (by omega) (by have := HQE.out; have := HXB.out; omega)
      refine wp_region_sched (fun w' => w'.cell? ⟨b, 1, none⟩ = some (.int .i64 (sf : Int))) [(true, 0), (true, 1), (true, 2), (true, 3), (true, 5), (true, 6), (true, 7), (true, 8), (true, 9), (true, 10), (false, 4), (true, 11), (true, 12), (true, 13), (false, 14)] (by kernel_rfl) (by kernel_rfl) rfl (by kernel_rfl) k1 ?_
      (first | (refine wpS_pass _ rfl (by rfl) ?_; simp only [Act.put, List.getElem_toArray, List.getElem_cons_zero, List.getElem_cons_succ, List.setIfInBounds_toArray, List.set_cons_zero, List.set_cons_succ]) | (refine wpS_take _ ?_ rfl (by rfl) ?_ ?_; rotate_left; (focus (intro w' hS'; (try dsimp only at hS'); (repeat (have hS1 := hS'.1; replace hS' := hS'.2)); go_simp; (try with_reducible rfl); done)); simp only [Act.put, List.getElem_toArray, List.getElem_cons_zero, List.getElem_cons_succ, List.setIfInBounds_toArray, List.set_cons_zero, List.set_cons_succ]))
      (first | (refine wpS_pass _ rfl (by rfl) ?_; simp only [Act.put, List.getElem_toArray, List.getElem_cons_zero, List.getElem_cons_succ, List.setIfInBounds_toArray, List.set_cons_zero, List.set_cons_succ]) | (refine wpS_take _ ?_ rfl (by rfl) ?_ ?_; rotate_left; (focus (intro w' hS'; (try dsimp only at hS'); (repeat (have hS1 := hS'.1; replace hS' := hS'.2)); go_simp; (try with_reducible rfl); done)); simp only [Act.put, List.getElem_toArray, List.getElem_cons_zero, List.getElem_cons_succ, List.setIfInBounds_toArray, List.set_cons_zero, List.set_cons_succ]))
      (first | (refine wpS_pass _ rfl (by rfl) ?_; simp only [Act.put, List.getElem_toArray, List.getElem_cons_zero, List.getElem_cons_succ, List.setIfInBounds_toArray, List.set_cons_zero, List.set_cons_succ]) | (refine wpS_take _ ?_ rfl (by rfl) ?_ ?_; rotate_left; (focus (intro w' hS'; (try dsimp only at hS'); (repeat (have hS1 := hS'.1; replace hS' := hS'.2)); go_simp; (try with_reducible rfl); done)); simp only [Act.put, List.getElem_toArray, List.getElem_cons_zero, List.getElem_cons_succ, List.setIfInBounds_toArray, List.set_cons_zero, List.set_cons_succ]))
      (first | (refine wpS_pass _ rfl (by rfl) ?_; simp only [Act.put, List.getElem_toArray, List.getElem_cons_zero, List.getElem_cons_succ, List.setIfInBounds_toArray, List.set_cons_zero, List.set_cons_succ]) | (refine wpS_take _ ?_ rfl (by rfl) ?_ ?_; rotate_left; (focus (intro w' hS'; (try dsimp only at hS'); (repeat (have hS1 := hS'.1; replace hS' := hS'.2)); go_simp; (try with_reducible rfl); done)); simp only [Act.put, List.getElem_toArray, List.getElem_cons_zero, List.getElem_cons_succ, List.setIfInBounds_toArray, List.set_cons_zero, List.set_cons_succ]))
      (first | (refine wpS_pass _ rfl (by rfl) ?_; simp only [Act.put, List.getElem_toArray, List.getElem_cons_zero, List.getElem_cons_succ, List.setIfInBounds_toArray, List.set_cons_zero, List.set_cons_succ]) | (refine wpS_take _ ?_ rfl (by rfl) ?_ ?_; rotate_left; (focus (intro w' hS'; (try dsimp only at hS'); (repeat (have hS1 := hS'.1; replace hS' := hS'.2)); go_simp; (try with_reducible rfl); done)); simp only [Act.put, List.getElem_toArray, List.getElem_cons_zero, List.getElem_cons_succ, List.setIfInBounds_toArray, List.set_cons_zero, List.set_cons_succ]))
      (first | (refine wpS_pass _ rfl (by rfl) ?_; simp only [Act.put, List.getElem_toArray, List.getElem_cons_zero, List.getElem_cons_succ, List.setIfInBounds_toArray, List.set_cons_zero, List.set_cons_succ]) | (refine wpS_take _ ?_ rfl (by rfl) ?_ ?_; rotate_left; (focus (intro w' hS'; (try dsimp only at hS'); (repeat (have hS1 := hS'.1; replace hS' := hS'.2)); go_simp; (try with_reducible rfl); done)); simp only [Act.put, List.getElem_toArray, List.getElem_cons_zero, List.getElem_cons_succ, List.setIfInBounds_toArray, List.set_cons_zero, List.set_cons_succ]))
      (first | (refine wpS_pass _ rfl (by rfl) ?_; simp only [Act.put, List.getElem_toArray, List.getElem_cons_zero, List.getElem_cons_succ, List.setIfInBounds_toArray, List.set_cons_zero, List.set_cons_succ]) | (refine wpS_take _ ?_ rfl (by rfl) ?_ ?_; rotate_left; (focus (intro w' hS'; (try dsimp only at hS'); (repeat (have hS1 := hS'.1; replace hS' := hS'.2)); go_simp; (try with_reducible rfl); done)); simp only [Act.put, List.getElem_toArray, List.getElem_cons_zero, List.getElem_cons_succ, List.setIfInBounds_toArray, List.set_cons_zero, List.set_cons_succ]))
      (first | (refine wpS_pass _ rfl (by rfl) ?_; simp only [Act.put, List.getElem_toArray, List.getElem_cons_zero, List.getElem_cons_succ, List.setIfInBounds_toArray, List.set_cons_zero, List.set_cons_succ]) | (refine wpS_take _ ?_ rfl (by rfl) ?_ ?_; rotate_left; (focus (intro w' hS'; (try dsimp only at hS'); (repeat (have hS1 := hS'.1; replace hS' := hS'.2)); go_simp; (try with_reducible rfl); done)); simp only [Act.put, List.getElem_toArray, List.getElem_cons_zero, List.getElem_cons_succ, List.setIfInBounds_toArray, List.set_cons_zero, List.set_cons_succ]))
      (first | (refine wpS_pass _ rfl (by rfl) ?_; simp only [Act.put, List.getElem_toArray, List.getElem_cons_zero, List.getElem_cons_succ, List.setIfInBounds_toArray, List.set_cons_zero, List.set_cons_succ]) | (refine wpS_take _ ?_ rfl (by rfl) ?_ ?_; rotate_left; (focus (intro w' hS'; (try dsimp only at hS'); (repeat (have hS1 := hS'.1; replace hS' := hS'.2)); go_simp; (try with_reducible rfl); done)); simp only [Act.put, List.getElem_toArray, List.getElem_cons_zero, List.getElem_cons_succ, List.setIfInBounds_toArray, List.set_cons_zero, List.set_cons_succ]))
      refine wpS_take _ _ rfl (by rfl) (fun w' hS' => exec_bin _ _ _ _ _ rfl _ _ _ rfl rfl rfl (hadd w')) ?_
      simp only [Act.put, List.getElem_toArray, List.getElem_cons_zero, List.getElem_cons_succ, List.setIfInBounds_toArray, List.set_cons_zero, List.set_cons_succ]
      refine wpS_do _ rfl (by rfl) (fun K hK => ?_)
      go_simp
      refine hK.out _ _ k1 (fun hS' => ?_)
      clear hS' hK
      refine wpS_take _ _ rfl (by rfl) (fun w' hS' => exec_slice_hi _ _ _ rfl Av xn cv q rfl rfl (by have := HQE.out; have := HXB.out; omega) Tryz.underlying29 (sz := 1) (by kernel_rfl) HAV.out) ?_
      simp only [Act.put, List.getElem_toArray, List.getElem_cons_zero, List.getElem_cons_succ, List.setIfInBounds_toArray, List.set_cons_zero, List.set_cons_succ]
      (first | (refine wpS_pass _ rfl (by rfl) ?_; simp only [Act.put, List.getElem_toArray, List.getElem_cons_zero, List.getElem_cons_succ, List.setIfInBounds_toArray, List.set_cons_zero, List.set_cons_succ]) | (refine wpS_take _ ?_ rfl (by rfl) ?_ ?_; rotate_left; (focus (intro w' hS'; (try dsimp only at hS'); (repeat (have hS1 := hS'.1; replace hS' := hS'.2)); go_simp; (try with_reducible rfl); done)); simp only [Act.put, List.getElem_toArray, List.getElem_cons_zero, List.getElem_cons_succ, List.setIfInBounds_toArray, List.set_cons_zero, List.set_cons_succ]))
      (first | (refine wpS_pass _ rfl (by rfl) ?_; simp only [Act.put, List.getElem_toArray, List.getElem_cons_zero, List.getElem_cons_succ, List.setIfInBounds_toArray, List.set_cons_zero, List.set_cons_succ]) | (refine wpS_take _ ?_ rfl (by rfl) ?_ ?_; rotate_left; (focus (intro w' hS'; (try dsimp only at hS'); (repeat (have hS1 := hS'.1; replace hS' := hS'.2)); go_simp; (try with_reducible rfl); done)); simp only [Act.put, List.getElem_toArray, List.getElem_cons_zero, List.getElem_cons_succ, List.setIfInBounds_toArray, List.set_cons_zero, List.set_cons_succ]))
      have hr5 : (wr.drew.setCell ⟨b, 0, none⟩ (.slice Av q cv)).heap[b]? = some (.cells #[.slice Av q cv, .int .i64 (sf : Int)] 112 (0, 0)) := set_row (j := 0) (.slice Av q cv) HQ4.out
      refine wpS_store_cell _ rfl (by rfl) 29 _ _ rfl b 0 rfl (.slice Av q cv) rfl rfl (.slice Av xn cv) k0 (row_froz HQ4.out) (by kernel_rfl) (row_cell hr5 1) ?_
      simp only [Act.put, List.getElem_toArray, List.getElem_cons_zero, List.getElem_cons_succ, List.setIfInBounds_toArray, List.set_cons_zero, List.set_cons_succ]
      refine wpS_done ?_
      have HR5 := Lib.hid hr5
      have c5 : (wr.drew.setCell ⟨b, 0, none⟩ (.slice Av q cv)).cell? ⟨b, 0, none⟩ = some (.slice Av q cv) := row_cell hr5 0
      have c6 : (wr.drew.setCell ⟨b, 0, none⟩ (.slice Av q cv)).cell? ⟨b, 1, none⟩ = some (.int .i64 (sf : Int)) := row_cell hr5 1
      have f6 : (wr.drew.setCell ⟨b, 0, none⟩ (.slice Av q cv)).frozen? ⟨b, 1, none⟩ = false := row_froz (j := 1) hr5
      obtain ⟨W5, hW5⟩ : ∃ W, wr.drew.setCell ⟨b, 0, none⟩ (.slice Av q cv) = W := ⟨_, rfl⟩
      have HW5 := Lib.hid hW5
      rw [hW5] at c5 c6 f6 HR5 ⊢
      clear hr5 hW5 k0 k1 hadd
      go_wp2_with fail
      have A6 : Hid (∃ d', Aft N g w0 (W5.setCell ⟨b, 1, none⟩ (.int .i64 (q : Int))) (setF mj f ⟨x.b.take q, q⟩) d d') := Lib.hid (by
        have hr6 := set_row (j := 1) (.int .i64 (q : Int)) HR5.out
        have hob : (Value.slice Av q cv).ownBlock = (Value.slice Av xn cv).ownBlock := by cases Av <;> rfl
        have hbm := List.mem_of_getElem? HQ1.out
        have hvm := List.mem_of_getElem? HQ2.out
        have hkb : ∀ c, c ≠ b → (W5.setCell ⟨b, 1, none⟩ (.int .i64 (q : Int))).heap[c]? = wr.heap[c]? := fun c hc => by
          rw [← HW5.out]
          exact (Below.heap_setCell _ _ _ _ hc).trans (Below.heap_setCell _ _ _ _ hc)
        have hlen : (x.b.take q).length = q := by rw [List.length_take]; have := HXN.out; have := HQE.out; have := HXB.out; omega
        have hown : (W5.setCell ⟨b, 1, none⟩ (.int .i64 (q : Int))).ownsRow N 5 1 (.slice Av q cv) (x.b.take q).length (b8s (x.b.take q)) := by
          rw [hlen, b8s_take]
          exact own_keep (own_cut HQ5.out (by have := HQE.out; have := HXB.out; omega)) (fun c hc _ => hkb c (Ne.symm (tyAt_ne (HA.out.disk.ty_b hbm) (HA.out.disk.ty_v hvm (by rw [← hob]; exact hc)) (by decide))))
        have D6 := HA.out.disk.fileSet HQ1.out HQ2.out HXF.out ⟨x.b.take q, q⟩ (.slice Av q cv) hr6 hown (fun c _ hc _ => hkb c hc) (.inl hob)
        have hF : Frm (foot g dj) wr (W5.setCell ⟨b, 1, none⟩ (.int .i64 (q : Int))) := by
          rw [← HW5.out]
          have h1 : Frm (foot g dj) wr wr.drew := ⟨rfl, rfl, rfl, Nat.le_refl _, fun _ _ _ => rfl⟩
          exact (h1.trans (Frm.of_cell (F := foot g dj) (.inr (.inr (.inr (.inr (.inl hbm)))))) (fun i hi => .inl hi)).trans (Frm.of_cell (F := foot g dj) (.inr (.inr (.inr (.inr (.inl hbm)))))) (fun i hi => .inl hi)
        refine ⟨_, HA.out.trans (Aft.mk D6 hF (fun c hc => ?_))⟩
        rcases foot_set c hc with h1 | h1
        · exact .inl h1
        · exact .inl (.inr (.inr (.inr (.inr (.inr ⟨_, hvm, h1.trans hob⟩))))))
      obtain ⟨d6, A6⟩ : ∃ d', Hid (Aft N g w0 (W5.setCell ⟨b, 1, none⟩ (.int .i64 (q : Int))) (setF mj f ⟨x.b.take q, q⟩) d d') := by
        obtain ⟨d', h'⟩ := A6.out
        exact ⟨d', Lib.hid h'⟩
      rw [← HAN.out]
      go_roundg (nn - (j + 1))
      case measure => omega
      case rel => exact ⟨j + 1, [], A', 0, kc', _, d6, by omega, rfl, rfl, by first | rfl | exact congrArg (Value.int .i64) (by omega) | go_num, by omega, HKL', HKC', A6, HNX, HRK', HKF'⟩
    | cons z kp =>
      obtain ⟨kr, rfl⟩ : ∃ kr, kl' = kr + 1 := ⟨kp.length, by have := HKL'.out; simpa using this.symm⟩
      obtain ⟨kt, hkt⟩ : ∃ kt : Nat, (min (max z 0) (lo : Int)).toNat = kt := ⟨_, rfl⟩
      have hkz : min (max z 0) (lo : Int) = (kt : Int) := by omega
      obtain ⟨q, hq⟩ : ∃ q, q = sf + kt := ⟨_, rfl⟩
      have HQE : Hid (q = sf + kt ∧ q ≤ xn) := Lib.hid ⟨hq, by have := HXB.out; omega⟩
      have HNX : Hid (CutAt m (setF mj f ⟨x.b.take q, q⟩) keep kp (j + 1)) := Lib.hid (by
        have := HCU.out.some_ HJM.out (HP.out HJM.out) HXF.out (lo := lo) (by rw [HXN.out, HSF.out]; exact HXB.out.1) (by omega)
        rw [HSF.out, hkt, ← hq] at this
        exact this)
      have hmx := fun (w : World) => run_max2c (P := Tryz.prog) w #[3, 3] 3 .i64 .i64 z 0
      have hmn : ∀ w : World, (Builtin.min_ #[3, 3] 3 #[.int .i64 (max z 0), .int .i64 (lo : Int)]).run Tryz.prog w = .ok (.int .i64 (kt : Int)) w := fun w => by rw [run_min2c, hkz]
      obtain ⟨gk, ok, hAk, _⟩ := HRK'.out.all (by simp)
      subst hAk
      have hck : wr.cell? ⟨gk, ok, none⟩ = some (.int .i64 z) := by
        have hrd : Rd wr (some ⟨gk, ok, none⟩) ((z :: kp).map (Value.int .i64)) := HRK'.out.keep (fun ad e hlt => HA.out.frm.block _ hlt (HKF'.out (by simp) ad e))
        obtain ⟨b', o', e', hc'⟩ := hrd 0 (.int .i64 z) rfl
        cases e'
        exact hc'
      have i3 : (0 : Int) < (kr : Int) + 1 := by omega
      have i4 : ((0 : Int) < ((kr + 1 : Nat) : Int)) := by omega
      obtain ⟨A2, hA2⟩ : ∃ A2, (if kc' = 1 then some (⟨gk, ok, none⟩ : Addr) else (some (⟨gk, ok, none⟩ : Addr)).map (·.add (1 * 1))) = A2 := ⟨_, rfl⟩
      have HR2 : Hid (Rd w0 A2 (kp.map (Value.int .i64))) := Lib.hid (by
        have := HRK'.out.drop (k := 1) (size := 1) (cap := kc') (by have h1 := HKL'.out; have h2 := HKC'.out; rw [List.length_map, Nat.mul_one]; omega)
        rw [hA2] at this
        exact this)
      have HF2 : Hid (kp ≠ [] → ∀ a, A2 = some a → ¬ foot g d a.block) := Lib.hid (fun _ a ha => by
        subst ha
        have h0 := HKF'.out (by simp) _ rfl
        split at hA2
        · cases hA2; exact h0
        · rw [Option.map_some, Addr.add_lit] at hA2
          cases hA2
          exact h0)
      have HKL2 : Hid (kp.length = kr) := Lib.hid (by have := HKL'.out; simpa using this)
      have HKC2 : Hid (kr ≤ kc' - 1) := Lib.hid (by have := HKC'.out; omega)
      have HA2 := Lib.hid hA2
      clear hq hkt hkz hA2
      go_wp2_with fail
      refine wp_region_sched (fun w' => w'.cell? ⟨gk, ok, none⟩ = some (.int .i64 z)) [(true, 0), (true, 1), (true, 2), (true, 3), (true, 4), (true, 5), (true, 6), (true, 7), (true, 8), (true, 9)] (by kernel_rfl) (by kernel_rfl) rfl (by kernel_rfl) hck ?_
      (first | (refine wpS_pass _ rfl (by rfl) ?_; simp only [Act.put, List.getElem_toArray, List.getElem_cons_zero, List.getElem_cons_succ, List.setIfInBounds_toArray, List.set_cons_zero, List.set_cons_succ]) | (refine wpS_take _ ?_ rfl (by rfl) ?_ ?_; rotate_left; (focus (intro w' hS'; (try dsimp only at hS'); (repeat (have hS1 := hS'.1; replace hS' := hS'.2)); go_simp; (try with_reducible rfl); done)); simp only [Act.put, List.getElem_toArray, List.getElem_cons_zero, List.getElem_cons_succ, List.setIfInBounds_toArray, List.set_cons_zero, List.set_cons_succ]))
      (first | (refine wpS_pass _ rfl (by rfl) ?_; simp only [Act.put, List.getElem_toArray, List.getElem_cons_zero, List.getElem_cons_succ, List.setIfInBounds_toArray, List.set_cons_zero, List.set_cons_succ]) | (refine wpS_take _ ?_ rfl (by rfl) ?_ ?_; rotate_left; (focus (intro w' hS'; (try dsimp only at hS'); (repeat (have hS1 := hS'.1; replace hS' := hS'.2)); go_simp; (try with_reducible rfl); done)); simp only [Act.put, List.getElem_toArray, List.getElem_cons_zero, List.getElem_cons_succ, List.setIfInBounds_toArray, List.set_cons_zero, List.set_cons_succ]))
      (first | (refine wpS_pass _ rfl (by rfl) ?_; simp only [Act.put, List.getElem_toArray, List.getElem_cons_zero, List.getElem_cons_succ, List.setIfInBounds_toArray, List.set_cons_zero, List.set_cons_succ]) | (refine wpS_take _ ?_ rfl (by rfl) ?_ ?_; rotate_left; (focus (intro w' hS'; (try dsimp only at hS'); (repeat (have hS1 := hS'.1; replace hS' := hS'.2)); go_simp; (try with_reducible rfl); done)); simp only [Act.put, List.getElem_toArray, List.getElem_cons_zero, List.getElem_cons_succ, List.setIfInBounds_toArray, List.set_cons_zero, List.set_cons_succ]))
      (first | (refine wpS_pass _ rfl (by rfl) ?_; simp only [Act.put, List.getElem_toArray, List.getElem_cons_zero, List.getElem_cons_succ, List.setIfInBounds_toArray, List.set_cons_zero, List.set_cons_succ]) | (refine wpS_take _ ?_ rfl (by rfl) ?_ ?_; rotate_left; (focus (intro w' hS'; (try dsimp only at hS'); (repeat (have hS1 := hS'.1; replace hS' := hS'.2)); go_simp; (try with_reducible rfl); done)); simp only [Act.put, List.getElem_toArray, List.getElem_cons_zero, List.getElem_cons_succ, List.setIfInBounds_toArray, List.set_cons_zero, List.set_cons_succ]))
      (first | (refine wpS_pass _ rfl (by rfl) ?_; simp only [Act.put, List.getElem_toArray, List.getElem_cons_zero, List.getElem_cons_succ, List.setIfInBounds_toArray, List.set_cons_zero, List.set_cons_succ]) | (refine wpS_take _ ?_ rfl (by rfl) ?_ ?_; rotate_left; (focus (intro w' hS'; (try dsimp only at hS'); (repeat (have hS1 := hS'.1; replace hS' := hS'.2)); go_simp; (try with_reducible rfl); done)); simp only [Act.put, List.getElem_toArray, List.getElem_cons_zero, List.getElem_cons_succ, List.setIfInBounds_toArray, List.set_cons_zero, List.set_cons_succ]))
      (first | (refine wpS_pass _ rfl (by rfl) ?_; simp only [Act.put, List.getElem_toArray, List.getElem_cons_zero, List.getElem_cons_succ, List.setIfInBounds_toArray, List.set_cons_zero, List.set_cons_succ]) | (refine wpS_take _ ?_ rfl (by rfl) ?_ ?_; rotate_left; (focus (intro w' hS'; (try dsimp only at hS'); (repeat (have hS1 := hS'.1; replace hS' := hS'.2)); go_simp; (try with_reducible rfl); done)); simp only [Act.put, List.getElem_toArray, List.getElem_cons_zero, List.getElem_cons_succ, List.setIfInBounds_toArray, List.set_cons_zero, List.set_cons_succ]))
      (first | (refine wpS_pass _ rfl (by rfl) ?_; simp only [Act.put, List.getElem_toArray, List.getElem_cons_zero, List.getElem_cons_succ, List.setIfInBounds_toArray, List.set_cons_zero, List.set_cons_succ]) | (refine wpS_take _ ?_ rfl (by rfl) ?_ ?_; rotate_left; (focus (intro w' hS'; (try dsimp only at hS'); (repeat (have hS1 := hS'.1; replace hS' := hS'.2)); go_simp; (try with_reducible rfl); done)); simp only [Act.put, List.getElem_toArray, List.getElem_cons_zero, List.getElem_cons_succ, List.setIfInBounds_toArray, List.set_cons_zero, List.set_cons_succ]))
      refine wpS_take _ _ rfl (by rfl) (fun w' hS' => exec_slice_lo _ _ _ rfl (some ⟨gk, ok, none⟩) (kr + 1) kc' rfl rfl (by omega) Tryz.underlying74 (by kernel_rfl)) ?_
      rw [HA2.out]
      simp only [Act.put, List.getElem_toArray, List.getElem_cons_zero, List.getElem_cons_succ, List.setIfInBounds_toArray, List.set_cons_zero, List.set_cons_succ]
      (first | (refine wpS_pass _ rfl (by rfl) ?_; simp only [Act.put, List.getElem_toArray, List.getElem_cons_zero, List.getElem_cons_succ, List.setIfInBounds_toArray, List.set_cons_zero, List.set_cons_succ]) | (refine wpS_take _ ?_ rfl (by rfl) ?_ ?_; rotate_left; (focus (intro w' hS'; (try dsimp only at hS'); (repeat (have hS1 := hS'.1; replace hS' := hS'.2)); go_simp; (try with_reducible rfl); done)); simp only [Act.put, List.getElem_toArray, List.getElem_cons_zero, List.getElem_cons_succ, List.setIfInBounds_toArray, List.set_cons_zero, List.set_cons_succ]))
      (first | (refine wpS_pass _ rfl (by rfl) ?_; simp only [Act.put, List.getElem_toArray, List.getElem_cons_zero, List.getElem_cons_succ, List.setIfInBounds_toArray, List.set_cons_zero, List.set_cons_succ]) | (refine wpS_take _ ?_ rfl (by rfl) ?_ ?_; rotate_left; (focus (intro w' hS'; (try dsimp only at hS'); (repeat (have hS1 := hS'.1; replace hS' := hS'.2)); go_simp; (try with_reducible rfl); done)); simp only [Act.put, List.getElem_toArray, List.getElem_cons_zero, List.getElem_cons_succ, List.setIfInBounds_toArray, List.set_cons_zero, List.set_cons_succ]))
      refine wpS_done ?_
      have HAD : Hid (Aft N g w0 wr.drew mj d dj) := Lib.hid (HA.out.trans ⟨HA.out.disk.drew, ⟨rfl, rfl, rfl, Nat.le_refl _, fun _ _ _ => rfl⟩, fun b hb => .inl hb⟩)
      replace HQ4 : Hid (wr.drew.heap[b]? = some (.cells #[.slice Av xn cv, .int .i64 (sf : Int)] 112 (0, 0))) := Lib.hid HQ4.out
      replace HQ5 : Hid (wr.drew.ownsRow N 5 1 (.slice Av xn cv) xn (b8s x.b)) := Lib.hid (own_keep HQ5.out (fun _ _ _ => rfl))
      clear HA hck
      have HA := HAD
      clear HAD
      generalize wr.drew = wr at *
      go_wp2_with fail
      have k0 : wr.cell? ⟨b, 0, none⟩ = some (.slice Av xn cv) := row_cell HQ4.out 0
      have k1 : wr.cell? ⟨b, 1, none⟩ = some (.int .i64 (sf : Int)) := row_cell HQ4.out 1
      have hadd : ∀ w : World, (binOp .add 3 (.int .i64 (sf : Int)) (.int .i64 (kt : Int))).run Tryz.prog w = .ok (.int .i64 (q : Int)) w := fun w => bin_add _ _ _ w (by have := HQE.out; omega) (by omega) (by have := HQE.out; have := HXB.out; omega)
      refine wp_region_sched (fun w' => w'.cell? ⟨b, 1, none⟩ = some (.int .i64 (sf : Int))) [(true, 0), (true, 1), (true, 2), (true, 3), (true, 5), (true, 6), (true, 7), (true, 8), (true, 9), (true, 10), (false, 4), (true, 11), (true, 12), (true, 13), (false, 14)] (by kernel_rfl) (by kernel_rfl) rfl (by kernel_rfl) k1 ?_
      (first | (refine wpS_pass _ rfl (by rfl) ?_; simp only [Act.put, List.getElem_toArray, List.getElem_cons_zero, List.getElem_cons_succ, List.setIfInBounds_toArray, List.set_cons_zero, List.set_cons_succ]) | (refine wpS_take _ ?_ rfl (by rfl) ?_ ?_; rotate_left; (focus (intro w' hS'; (try dsimp only at hS'); (repeat (have hS1 := hS'.1; replace hS' := hS'.2)); go_simp; (try with_reducible rfl); done)); simp only [Act.put, List.getElem_toArray, List.getElem_cons_zero, List.getElem_cons_succ, List.setIfInBounds_toArray, List.set_cons_zero, List.set_cons_succ]))
      (first | (refine wpS_pass _ rfl (by rfl) ?_; simp only [Act.put, List.getElem_toArray, List.getElem_cons_zero, List.getElem_cons_succ, List.setIfInBounds_toArray, List.set_cons_zero, List.set_cons_succ]) | (refine wpS_take _ ?_ rfl (by rfl) ?_ ?_; rotate_left; (focus (intro w' hS'; (try dsimp only at hS'); (repeat (have hS1 := hS'.1; replace hS' := hS'.2)); go_simp; (try with_reducible rfl); done)); simp only [Act.put, List.getElem_toArray, List.getElem_cons_zero, List.getElem_cons_succ, List.setIfInBounds_toArray, List.set_cons_zero, List.set_cons_succ]))
      (first | (refine wpS_pass _ rfl (by rfl) ?_; simp only [Act.put, List.getElem_toArray, List.getElem_cons_zero, List.getElem_cons_succ, List.setIfInBounds_toArray, List.set_cons_zero, List.set_cons_succ]) | (refine wpS_take _ ?_ rfl (by rfl) ?_ ?_; rotate_left; (focus (intro w' hS'; (try dsimp only at hS'); (repeat (have hS1 := hS'.1; replace hS' := hS'.2)); go_simp; (try with_reducible rfl); done)); simp only [Act.put, List.getElem_toArray, List.getElem_cons_zero, List.getElem_cons_succ, List.setIfInBounds_toArray, List.set_cons_zero, List.set_cons_succ]))
      (first | (refine wpS_pass _ rfl (by rfl) ?_; simp only [Act.put, List.getElem_toArray, List.getElem_cons_zero, List.getElem_cons_succ, List.setIfInBounds_toArray, List.set_cons_zero, List.set_cons_succ]) | (refine wpS_take _ ?_ rfl (by rfl) ?_ ?_; rotate_left; (focus (intro w' hS'; (try dsimp only at hS'); (repeat (have hS1 := hS'.1; replace hS' := hS'.2)); go_simp; (try with_reducible rfl); done)); simp only [Act.put, List.getElem_toArray, List.getElem_cons_zero, List.getElem_cons_succ, List.setIfInBounds_toArray, List.set_cons_zero, List.set_cons_succ]))
      (first | (refine wpS_pass _ rfl (by rfl) ?_; simp only [Act.put, List.getElem_toArray, List.getElem_cons_zero, List.getElem_cons_succ, List.setIfInBounds_toArray, List.set_cons_zero, List.set_cons_succ]) | (refine wpS_take _ ?_ rfl (by rfl) ?_ ?_; rotate_left; (focus (intro w' hS'; (try dsimp only at hS'); (repeat (have hS1 := hS'.1; replace hS' := hS'.2)); go_simp; (try with_reducible rfl); done)); simp only [Act.put, List.getElem_toArray, List.getElem_cons_zero, List.getElem_cons_succ, List.setIfInBounds_toArray, List.set_cons_zero, List.set_cons_succ]))
      (first | (refine wpS_pass _ rfl (by rfl) ?_; simp only [Act.put, List.getElem_toArray, List.getElem_cons_zero, List.getElem_cons_succ, List.setIfInBounds_toArray, List.set_cons_zero, List.set_cons_succ]) | (refine wpS_take _ ?_ rfl (by rfl) ?_ ?_; rotate_left; (focus (intro w' hS'; (try dsimp only at hS'); (repeat (have hS1 := hS'.1; replace hS' := hS'.2)); go_simp; (try with_reducible rfl); done)); simp only [Act.put, List.getElem_toArray, List.getElem_cons_zero, List.getElem_cons_succ, List.setIfInBounds_toArray, List.set_cons_zero, List.set_cons_succ]))
      (first | (refine wpS_pass _ rfl (by rfl) ?_; simp only [Act.put, List.getElem_toArray, List.getElem_cons_zero, List.getElem_cons_succ, List.setIfInBounds_toArray, List.set_cons_zero, List.set_cons_succ]) | (refine wpS_take _ ?_ rfl (by rfl) ?_ ?_; rotate_left; (focus (intro w' hS'; (try dsimp only at hS'); (repeat (have hS1 := hS'.1; replace hS' := hS'.2)); go_simp; (try with_reducible rfl); done)); simp only [Act.put, List.getElem_toArray, List.getElem_cons_zero, List.getElem_cons_succ, List.setIfInBounds_toArray, List.set_cons_zero, List.set_cons_succ]))
      (first | (refine wpS_pass _ rfl (by rfl) ?_; simp only [Act.put, List.getElem_toArray, List.getElem_cons_zero, List.getElem_cons_succ, List.setIfInBounds_toArray, List.set_cons_zero, List.set_cons_succ]) | (refine wpS_take _ ?_ rfl (by rfl) ?_ ?_; rotate_left; (focus (intro w' hS'; (try dsimp only at hS'); (repeat (have hS1 := hS'.1; replace hS' := hS'.2)); go_simp; (try with_reducible rfl); done)); simp only [Act.put, List.getElem_toArray, List.getElem_cons_zero, List.getElem_cons_succ, List.setIfInBounds_toArray, List.set_cons_zero, List.set_cons_succ]))
      (first | (refine wpS_pass _ rfl (by rfl) ?_; simp only [Act.put, List.getElem_toArray, List.getElem_cons_zero, List.getElem_cons_succ, List.setIfInBounds_toArray, List.set_cons_zero, List.set_cons_succ]) | (refine wpS_take _ ?_ rfl (by rfl) ?_ ?_; rotate_left; (focus (intro w' hS'; (try dsimp only at hS'); (repeat (have hS1 := hS'.1; replace hS' := hS'.2)); go_simp; (try with_reducible rfl); done)); simp only [Act.put, List.getElem_toArray, List.getElem_cons_zero, List.getElem_cons_succ, List.setIfInBounds_toArray, List.set_cons_zero, List.set_cons_succ]))
      refine wpS_take _ _ rfl (by rfl) (fun w' hS' => exec_bin _ _ _ _ _ rfl _ _ _ rfl rfl rfl (hadd w')) ?_
      simp only [Act.put, List.getElem_toArray, List.getElem_cons_zero, List.getElem_cons_succ, List.setIfInBounds_toArray, List.set_cons_zero, List.set_cons_succ]
      refine wpS_do _ rfl (by rfl) (fun K hK => ?_)
      go_simp
      refine hK.out _ _ k1 (fun hS' => ?_)
      clear hS' hK
      refine wpS_take _ _ rfl (by rfl) (fun w' hS' => exec_slice_hi _ _ _ rfl Av xn cv q rfl rfl (by have := HQE.out; have := HXB.out; omega) Tryz.underlying29 (sz := 1) (by kernel_rfl) HAV.out) ?_
      simp only [Act.put, List.getElem_toArray, List.getElem_cons_zero, List.getElem_cons_succ, List.setIfInBounds_toArray, List.set_cons_zero, List.set_cons_succ]
      (first | (refine wpS_pass _ rfl (by rfl) ?_; simp only [Act.put, List.getElem_toArray, List.getElem_cons_zero, List.getElem_cons_succ, List.setIfInBounds_toArray, List.set_cons_zero, List.set_cons_succ]) | (refine wpS_take _ ?_ rfl (by rfl) ?_ ?_; rotate_left; (focus (intro w' hS'; (try dsimp only at hS'); (repeat (have hS1 := hS'.1; replace hS' := hS'.2)); go_simp; (try with_reducible rfl); done)); simp only [Act.put, List.getElem_toArray, List.getElem_cons_zero, List.getElem_cons_succ, List.setIfInBounds_toArray, List.set_cons_zero, List.set_cons_succ]))
      (first | (refine wpS_pass _ rfl (by rfl) ?_; simp only [Act.put, List.getElem_toArray, List.getElem_cons_zero, List.getElem_cons_succ, List.setIfInBounds_toArray, List.set_cons_zero, List.set_cons_succ]) | (refine wpS_take _ ?_ rfl (by rfl) ?_ ?_; rotate_left; (focus (intro w' hS'; (try dsimp only at hS'); (repeat (have hS1 := hS'.1; replace hS' := hS'.2)); go_simp; (try with_reducible rfl); done)); simp only [Act.put, List.getElem_toArray, List.getElem_cons_zero, List.getElem_cons_succ, List.setIfInBounds_toArray, List.set_cons_zero, List.set_cons_succ]))
      have hr5 : (wr.drew.setCell ⟨b, 0, none⟩ (.slice Av q cv)).heap[b]? = some (.cells #[.slice Av q cv, .int .i64 (sf : Int)] 112 (0, 0)) := set_row (j := 0) (.slice Av q cv) HQ4.out
      refine wpS_store_cell _ rfl (by rfl) 29 _ _ rfl b 0 rfl (.slice Av q cv) rfl rfl (.slice Av xn cv) k0 (row_froz HQ4.out) (by kernel_rfl) (row_cell hr5 1) ?_
      simp only [Act.put, List.getElem_toArray, List.getElem_cons_zero, List.getElem_cons_succ, List.setIfInBounds_toArray, List.set_cons_zero, List.set_cons_succ]
      refine wpS_done ?_
      have HR5 := Lib.hid hr5
      have c5 : (wr.drew.setCell ⟨b, 0, none⟩ (.slice Av q cv)).cell? ⟨b, 0, none⟩ = some (.slice Av q cv) := row_cell hr5 0
      have c6 : (wr.drew.setCell ⟨b, 0, none⟩ (.slice Av q cv)).cell? ⟨b, 1, none⟩ = some (.int .i64 (sf : Int)) := row_cell hr5 1
      have f6 : (wr.drew.setCell ⟨b, 0, none⟩ (.slice Av q cv)).frozen? ⟨b, 1, none⟩ = false := row_froz (j := 1) hr5
      obtain ⟨W5, hW5⟩ : ∃ W, wr.drew.setCell ⟨b, 0, none⟩ (.slice Av q cv) = W := ⟨_, rfl⟩
      have HW5 := Lib.hid hW5
      rw [hW5] at c5 c6 f6 HR5 ⊢
      clear hr5 hW5 k0 k1 hadd
      go_wp2_with fail
      have A6 : Hid (∃ d', Aft N g w0 (W5.setCell ⟨b, 1, none⟩ (.int .i64 (q : Int))) (setF mj f ⟨x.b.take q, q⟩) d d') := Lib.hid (by
        have hr6 := set_row (j := 1) (.int .i64 (q : Int)) HR5.out
        have hob : (Value.slice Av q cv).ownBlock = (Value.slice Av xn cv).ownBlock := by cases Av <;> rfl
        have hbm := List.mem_of_getElem? HQ1.out
        have hvm := List.mem_of_getElem? HQ2.out
        have hkb : ∀ c, c ≠ b → (W5.setCell ⟨b, 1, none⟩ (.int .i64 (q : Int))).heap[c]? = wr.heap[c]? := fun c hc => by
          rw [← HW5.out]
          exact (Below.heap_setCell _ _ _ _ hc).trans (Below.heap_setCell _ _ _ _ hc)
        have hlen : (x.b.take q).length = q := by rw [List.length_take]; have := HXN.out; have := HQE.out; have := HXB.out; omega
        have hown : (W5.setCell ⟨b, 1, none⟩ (.int .i64 (q : Int))).ownsRow N 5 1 (.slice Av q cv) (x.b.take q).length (b8s (x.b.take q)) := by
          rw [hlen, b8s_take]
          exact own_keep (own_cut HQ5.out (by have := HQE.out; have := HXB.out; omega)) (fun c hc _ => hkb c (Ne.symm (tyAt_ne (HA.out.disk.ty_b hbm) (HA.out.disk.ty_v hvm (by rw [← hob]; exact hc)) (by decide))))
        have D6 := HA.out.disk.fileSet HQ1.out HQ2.out HXF.out ⟨x.b.take q, q⟩ (.slice Av q cv) hr6 hown (fun c _ hc _ => hkb c hc) (.inl hob)
        have hF : Frm (foot g dj) wr (W5.setCell ⟨b, 1, none⟩ (.int .i64 (q : Int))) := by
          rw [← HW5.out]
          have h1 : Frm (foot g dj) wr wr.drew := ⟨rfl, rfl, rfl, Nat.le_refl _, fun _ _ _ => rfl⟩
          exact (h1.trans (Frm.of_cell (F := foot g dj) (.inr (.inr (.inr (.inr (.inl hbm)))))) (fun i hi => .inl hi)).trans (Frm.of_cell (F := foot g dj) (.inr (.inr (.inr (.inr (.inl hbm)))))) (fun i hi => .inl hi)
        refine ⟨_, HA.out.trans (Aft.mk D6 hF (fun c hc => ?_))⟩
        rcases foot_set c hc with h1 | h1
        · exact .inl h1
        · exact .inl (.inr (.inr (.inr (.inr (.inr ⟨_, hvm, h1.trans hob⟩))))))
      obtain ⟨d6, A6⟩ : ∃ d', Hid (Aft N g w0 (W5.setCell ⟨b, 1, none⟩ (.int .i64 (q : Int))) (setF mj f ⟨x.b.take q, q⟩) d d') := by
        obtain ⟨d', h'⟩ := A6.out
        exact ⟨d', Lib.hid h'⟩
      rw [← HAN.out]
      go_roundg (nn - (j + 1))
      case measure => omega
      case rel => exact ⟨j + 1, kp, A2, kr, kc' - 1, _, d6, by omega, rfl, rfl, by first | rfl | exact congrArg (Value.int .i64) (by omega) | go_num, by omega, HKL2, HKC2, A6, HNX, HR2, HF2⟩
  · obtain rfl : j = nn := by omega
    have HFIN : Hid (mj = cutM m.now keep m) := Lib.hid (HCU.out.done HNN.out.symm)
    go_wp2_with fail
    rw [HFIN.out] at HA
    exact HEX.out _ _ _ _ _ _ _ _ _ _ _ _ _ _ _ _ _ _ _ _ _ _ _ _ _ _ _ _ _ _ _ _ _ _ _ _ _ _ _ _ _ _ _ _ _ _ _ _ _ _ _ _ _ _ _ _ _ _ _ _ _ _ dj HA
end Go.Proofs.YtelbofikcpchiaaGreat
