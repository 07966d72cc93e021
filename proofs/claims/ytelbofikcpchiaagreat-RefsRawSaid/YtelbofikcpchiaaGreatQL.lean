/- The document's example is answered rightly. (With the texts that it stands on.) -/
import Derived.Test.YtelbofikcpchiaaGreatQE
import Derived.Test.YtelbofikcpchiaaGreatDkIter
import Derived.Deep.CutBlock
import Derived.Test.YtelbofikcpchiaaGreatQD
import Derived.Lib.SlBytesConst
namespace Go.Proofs.YtelbofikcpchiaaGreat
open Go.RowKit
open Go.Sort
theorem bytes_lt {x y : List UInt8} (h : bytesBefore x y = true) : x < y := by
 induction x generalizing y with
 | nil => cases y with
   | nil => cases h
   | cons b s => exact List.nil_lt_cons b s
 | cons a r ih => cases y with
   | nil => cases h
   | cons b s =>
     simp only [bytesBefore, Bool.or_eq_true, decide_eq_true_eq, Bool.and_eq_true, beq_iff_eq] at h
     rw [List.cons_lt_cons_iff]
     rcases h with h | ⟨h1, h2⟩
     ·exact .inl h
     ·exact .inr ⟨h1, ih h2⟩
theorem keys_sorted {ns : NM} (h : risesN ns) : (ns.map (·.1)).mergeSort (fun x y => decide (x ≤ y)) = ns.map (·.1) := by
 refine List.mergeSort_of_pairwise ?_
 rw [List.pairwise_map]
 refine h.imp fun {a b} hab => ?_
 rw [decide_eq_true_eq]
 exact List.le_of_lt (bytes_lt hab)
theorem strKeys_names (bs : List Nat) (ns : NM) : strKeys (namesD bs ns) = ns.map (·.1) := by
 show (ns.map (entD bs)).map (fun p => strOf p.1) = _
 rw [List.map_map]
 rfl
def namesC (ns : NM) : List Value := ns.map fun p => strV p.1
set_option maxRecDepth 100000 in
set_option maxHeartbeats 4000000 in
theorem names_any (N g : Nat) (m : DM) (d : DA) (w : World) (h : DiskIn N w g m d) (hB : Bnd m) :
  Calls Tryz.prog 63 #[.pointer (some ⟨g, 0, none⟩)] w fun e w' => ∃ v, e = .returned v ∧ w'.ownsRow w.heap.size 9 1 v m.now.length (namesC m.now) ∧ Below w.heap.size w w' := by
 have c0 := h.cells.1
 have hown := h.now
 have hsz := namesD_size d.bs m.now
 have hn := hB.now
 have HK : Hid (∀ ss : List (List UInt8), ss.Perm (strKeys (namesD d.bs m.now)) → ss.length = m.now.length ∧ (ss.mergeSort (fun x y => decide (x ≤ y))).map strV = namesC m.now) := h_ (fun ss hp => by
  rw [strKeys_names] at hp
  refine ⟨by rw [hp.length_eq, List.length_map], ?_⟩
  have h1 := mergeSort_of_perm hp
  have h2 : (ss.mergeSort (fun x y => decide (x ≤ y))) = ss.mergeSort leB := rfl
  rw [h2, h1]
  have h3 := keys_sorted hB.rn
  have h4 : ((m.now.map (·.1)).mergeSort leB) = m.now.map (·.1) := h3
  rw [h4, List.map_map]
  rfl)
 have hSO := fun W (ho : World.ownsMap W Tryz.prog 9 ptrR d.mb m.now.length (namesD d.bs m.now)) => Tryz.slices_Sorted_keys_35_95 d.mb m.now.length (namesD d.bs m.now) ptrR W ho (by rw [hsz]; unfold maxLen; omega) (by rw [hsz]; omega)
 have HSO := h_ (hSO w hown)
 clear h hsz hn hB hSO hown
 refine (callsIn_wide (n := 6)).1 ?_
 have hfK : Fence.wide.fn 95 := trivial
 have hfS : Fence.wide.fn 35 := trivial
 refine callsIn_of_wp Tryz.func63 rfl trivial ?_ rfl
 simp only [Tryz.ntmps63, List.size_toArray, List.length_cons, List.length_nil, Nat.reduceAdd, Nat.reduceSub, Array.replicate_succ, Array.replicate_zero, List.push_toArray, List.append_toArray, List.nil_append, List.cons_append]
 gi_wp2_with (first
  | (gi_at_call 95; refine (Tryz.maps_Keys_95 _ _).mono ?_; rintro e w' ⟨rfl, rfl⟩)
  | (gi_at_call 35; refine HSO.out.mono ?_; rintro e w' ⟨v, ss, rfl, hS, hrow, hnil, hb⟩))
 go_ret
 obtain ⟨k1, k2⟩ := HK.out ss hS
 refine ⟨v, rfl, ?_, ((Below.refl _ w).alloc (Nat.le_refl _) _).trans (hb.mono (by simp))⟩
 have h2 : (ss.mergeSort (fun x y => decide (x ≤ y))).map encStr = namesC m.now := k2
 rw [h2, k1] at hrow
 exact own_mono hrow (by simp)
def findBlk (n : Nat) : Code → Option Code
 | .block k c => if k = n then some (.block k c) else findBlk n c
 | .loop c => findBlk n c
 | .scope c => findBlk n c
 | .seq a b => match findBlk n a with
  | some c => some c
  | none => findBlk n b
 | .cond _ a b => match findBlk n a with
  | some c => some c
  | none => findBlk n b
 | _ => none
noncomputable def crBlk (n : Nat) : Code := ((Tryz.f25.body.bind (findBlk n)).getD .skip)
def turnP (bs : List Nat) (t : TM) : Option Addr := if t.to_ = [] then none else some ⟨bs.getD t.f 0, 0, none⟩
theorem turnC_form (bs : List Nat) (t : TM) : turnC bs t = [.string ⟨t.fr.toArray⟩, .string ⟨t.to_.toArray⟩, .pointer (turnP bs t)] := by
 unfold turnC turnP ptrV strV
 split <;> rfl
theorem rd_turn {w : World} {b off : Nat} {bs : List Nat} {ts : List TM} (hr : Rd w (some ⟨b, off, none⟩) (turnsC bs ts)) (i : Nat) (hi : i < ts.length) : w.rangeAt b (off + i * 3) (turnC bs ts[i]) := rd_flat hr (fun _ _ => rfl) i hi
theorem toArray_data (l : List UInt8) : (⟨l.toArray⟩ : ByteArray).data.toList = l := by simp
theorem toArray_size (l : List UInt8) : (⟨l.toArray⟩ : ByteArray).size = l.length := rfl
set_option maxRecDepth 1000000 in
set_option maxHeartbeats 8000000 in
theorem cr_turns {u1 u2 u3 u4 u5 u6 u7 u8 u9 u10 u11 u12 u13 u14 u15 u16 u17 u18 u19 u20 u21 u22 u23 u24 u25 u26 u27 u28 u29 u30 u34 u35 u36 u37 u38 u39 u40 u41 u42 u43 u44 u45 u46 u47 u48 u49 u50 u51 u52 u53 u54 u55 u56 u57 u58 u59 u60 u61 u62 u63 u64 u65 u66 u67 u68 u69 u70 u71 u72 u73 u74 u75 u76 u77 u78 u79 u80 u81 u82 u83 u84 u85 u86 u87 u88 u89 u90 u91 u92 u93 u94 u95 u96 u97 u98 u99 u100 u101 u102 u103 u104 u105 u106 u107 u108 u109 u110 u111 u112 u113 : Value} (N g : Nat) (m : DM) (d : DA) (hB : Bnd m) (At : Option Addr) (k ct n0 : Nat) (HTV : Hid (d.tv = .slice At n0 ct)) (hk : k ≤ m.turns.length) (hkm : k ≤ 1000000) (wr : World) (HD : Hid (DiskIn N wr g m d)) (Q : Exit → Act → World → Prop)
  (hexit : ∀ (x7 x33 x34 x35 x36 x37 x38 x39 x40 x41 x42 x43 : Value) (wx : World), Hid (Aft N g wr wx { m with sure := (m.turns.take k).foldl doN m.sure } d d) → Q .normal ⟨#[.pointer (some ⟨g, 0, none⟩), u1, u2, u3, u4, u5, u6, x7, u8, u9, u10, u11, u12, u13, u14, u15, u16, u17, u18, u19, u20, u21, u22, u23, u24, u25, u26, u27, u28, u29, u30, .slice At k ct, .int .i64 (k : Int), x33, x34, x35, x36, x37, x38, x39, x40, x41, x42, x43, u44, u45, u46, u47, u48, u49, u50, u51, u52, u53, u54, u55, u56, u57, u58, u59, u60, u61, u62, u63, u64, u65, u66, u67, u68, u69, u70, u71, u72, u73, u74, u75, u76, u77, u78, u79, u80, u81, u82, u83, u84, u85, u86, u87, u88, u89, u90, u91, u92, u93, u94, u95, u96, u97, u98, u99, u100, u101, u102, u103, u104, u105, u106, u107, u108, u109, u110, u111, u112, u113], []⟩ wx) :
  Code.wp Tryz.prog (crBlk 0) Q ⟨#[.pointer (some ⟨g, 0, none⟩), u1, u2, u3, u4, u5, u6, u7, u8, u9, u10, u11, u12, u13, u14, u15, u16, u17, u18, u19, u20, u21, u22, u23, u24, u25, u26, u27, u28, u29, u30, .slice At k ct, .int .i64 (k : Int), .int .i64 0, u34, u35, u36, u37, u38, u39, u40, u41, u42, u43, u44, u45, u46, u47, u48, u49, u50, u51, u52, u53, u54, u55, u56, u57, u58, u59, u60, u61, u62, u63, u64, u65, u66, u67, u68, u69, u70, u71, u72, u73, u74, u75, u76, u77, u78, u79, u80, u81, u82, u83, u84, u85, u86, u87, u88, u89, u90, u91, u92, u93, u94, u95, u96, u97, u98, u99, u100, u101, u102, u103, u104, u105, u106, u107, u108, u109, u110, u111, u112, u113], []⟩ wr := by
 have HEX := h_ hexit
 clear hexit
 conv => arg 2; whnf
 obtain ⟨w0, hw0⟩ : ∃ x, x = wr := ⟨_, rfl⟩
 subst hw0
 go_wp2_with fail
 go_loopg [33] (k * 1) (fun gk_ iv wr => ∃ (j : Nat), j ≤ k ∧ gk_ = k - j ∧ iv = .int .i64 (j : Int) ∧ Hid (Aft N g w0 wr { m with sure := (m.turns.take j).foldl doN m.sure } d d) ∧ Hid (((m.turns.take j).foldl doN m.sure).length ≤ m.sure.length + j))
 case atStart => exact ⟨0, by omega, by omega, rfl, h_ (Aft.refl HD.out), h_ (by simp)⟩
 case round =>
 obtain ⟨j, hj, rfl, rfl, HA, HLS⟩ := hrel
 by_cases hlt : j < k
 ·have i1 : (j : Int) < (k : Int) := by omega
  have hlt' : j < m.turns.length := by omega
  obtain ⟨t, ht⟩ := eX (m.turns[j])
  obtain ⟨sm, hsm⟩ := eX ((m.turns.take j).foldl doN m.sure)
  rw [hsm] at HA HLS
  have HNX : Hid ((m.turns.take (j + 1)).foldl doN m.sure = doN sm t) := h_ (by rw [List.take_succ_eq_append_getElem hlt', List.foldl_append, hsm, ht]; rfl)
  have htl := hB.tl t (by rw [← ht]; exact List.getElem_mem hlt')
  have hown := HA.out.disk.turns
  have hrd : Rd wr At (turnsC d.bs m.turns) := by
   rw [HTV.out] at hown
   exact own_rd hown
  obtain ⟨gt, ot, hAt, _⟩ := hrd.all (by rw [turnsC_len]; omega)
  rw [hAt] at hrd
  have hrow := rd_turn hrd j hlt'
  rw [ht, turnC_form] at hrow
  have HAT := h_ hAt
  have HROW := h_ hrow
  have HTL := h_ htl
  obtain ⟨tb, htb⟩ := eX wr.heap.size
  obtain ⟨W5, hW5⟩ := eX (wr.alloc (.cells #[.string ⟨t.fr.toArray⟩, .string ⟨t.to_.toArray⟩, .pointer (turnP d.bs t)] 114))
  obtain ⟨r5, b5, s5⟩ := new_row hW5
  rw [htb] at r5
  have HR5 := h_ r5
  have A5 := h_ (HA.out.trans (Aft.below HA.out.disk b5))
  have HFT : Hid (∀ b, foot g d b → b < tb) := h_ (fun b hb => by have := HA.out.disk.foot_lt hb; omega)
  have HTB := h_ htb
  have hc1 : W5.cell? ⟨g, 1, none⟩ = some (.map (some d.sb)) := A5.out.disk.cells.2.1
  obtain ⟨S, hS⟩ : ∃ S : ByteArray, (⟨t.fr.toArray⟩ : ByteArray) = S := ⟨_, rfl⟩
  obtain ⟨T, hT⟩ : ∃ T : ByteArray, (⟨t.to_.toArray⟩ : ByteArray) = T := ⟨_, rfl⟩
  obtain ⟨p, hp⟩ := eX (turnP d.bs t)
  have hSs : S.data.toList = t.fr := by rw [← hS]
  have hTs : T.data.toList = t.to_ := by rw [← hT]
  have HDO : Hid (∀ w', w'.ownsMap Tryz.prog 9 ptrR d.sb sm.length (namesD d.bs sm) → Calls Tryz.prog 62 #[.map (some d.sb), .agg #[.string S, .string T, .pointer p]] w' fun e w'' => e = .returned (.tuple #[]) ∧ w''.ownsMap Tryz.prog 9 ptrR d.sb (doN sm t).length (namesD d.bs (doN sm t)) ∧ w'.grownBy w'' (some d.sb)) := h_ (fun w' ho => by
   have := do_any d.sb sm.length d.bs sm S T p t.f w' ho (by have := HLS.out; have := hB.sure; unfold maxLen; omega) (by rw [← hS, toArray_size]; unfold maxLen; omega) (by rw [← hT, toArray_size]; unfold maxLen; omega) (fun e => by rw [← hp]; unfold turnP; rw [if_neg (by rw [← hTs]; exact e)])
   rw [hSs, hTs] at this
   exact this)
  have HLN : Hid ((doN sm t).length ≤ sm.length + 1) := h_ (by
   unfold doN
   dsimp only
   have h1 := delN_length sm t.fr
   split
   ·split
    ·omega
    ·omega
   ·split
    ·exact putN_length _ _ _
    ·have := putN_length (delN sm t.fr) t.to_ t.f; omega)
  rw [hS, hT, hp] at HROW HR5 hW5
  rw [hAt]
  clear hsm hown hrd hAt hrow htl r5 b5 s5 htb hS hT hp hSs hTs ht
  go_wp2_with ((with_reducible (refine wpList_load_cells 114 _ gt (ot + j * 3) ([.string S, .string T, .pointer p]) HROW.out Tryz.underlying114 rfl info_turn3 ?_ rfl ?_ ?_)); exact rfl; (exact rfl))
  rw [HTB.out]
  refine wp_region_sched (fun w' => w'.cell? ⟨g, 1, none⟩ = some (.map (some d.sb)) ∧ w'.rangeAt tb 0 [.string S, .string T, .pointer p]) [(true, 0), (true, 1), (true, 2), (true, 3), (true, 4), (false, 5)] (by kernel_rfl) (by kernel_rfl) rfl (by kernel_rfl) ⟨hc1, range_of_row (cs := [.string S, .string T, .pointer p]) HR5.out⟩ ?_
  iterate 4 ((first | refine wpS_pass _ rfl (by rfl) ?_ | (refine wpS_take _ ?_ rfl (by rfl) ?_ ?_; rotate_left; (focus (intro w' hS'; (try dsimp only at hS'); (repeat (have hS1 := hS'.1; replace hS' := hS'.2)); go_simp; (try with_reducible rfl); done)))); simp only [LY])
  refine wpS_load _ rfl (by rfl) 114 _ rfl tb 0 rfl [.string S, .string T, .pointer p] _ (fun w' hS => hS.2) Tryz.underlying114 rfl info_turn3 ?_
  simp only [LY]
  refine wpS_do _ rfl (by rfl) (fun K hK => ?_)
  go_simp
  have hO5 : W5.drew.ownsMap Tryz.prog 9 ptrR d.sb sm.length (namesD d.bs sm) := A5.out.disk.sure
  refine (HDO.out W5.drew hO5).mono ?_
  rintro e w6 ⟨rfl, ho6, hg6⟩
  dsimp only
  have hg6' : W5.grownBy w6 (some d.sb) := ⟨hg6.os, hg6.tape, hg6.output, hg6.size, hg6.block⟩
  have D6 := A5.out.disk.sureSet _ hg6' ho6
  have A6 : Hid (Aft N g w0 w6 { m with sure := doN sm t } d d) := h_ (A5.out.trans (Aft.mk D6 (grown_frm hg6' (.inr (.inr (.inl rfl)))) (fun b hb => .inl hb)))
  have HR6 : Hid (w6.heap[tb]? = some (.cells #[.string S, .string T, .pointer p] 114 (0, 0))) := h_ ((hg6'.block tb (b_ HR5) (fun e => by have := HFT.out d.sb (.inr (.inr (.inl rfl))); have := Option.some.inj e; omega)).trans HR5.out)
  refine hK.out _ _ ⟨A6.out.disk.cells.2.1, range_of_row (cs := [.string S, .string T, .pointer p]) HR6.out⟩ (fun hS' => ?_)
  clear hS' hK ho6 hg6 hg6' hO5 hc1 D6
  refine wpS_done ?_
  clear hW5
  go_wp2_with fail
  rw [← HAT.out]
  go_roundg (k - (j + 1))
  case measure => omega
  case rel => exact ⟨j + 1, by omega, rfl, by first | rfl | exact congrArg (Value.int .i64) (by omega) | go_num, h_ (by rw [HNX.out]; exact A6.out), h_ (by rw [HNX.out]; have h1 := HLN.out; have h2 := HLS.out; omega)⟩
 ·obtain rfl : j = k := by omega
  go_wp2_with fail
  exact HEX.out _ _ _ _ _ _ _ _ _ _ _ _ _ HA
theorem own_cut {w : World} {N n c k : Nat} {e : TypeId} {A : Option Addr} {xs : List Value} (h : w.ownsRow N e 1 (.slice A n c) n xs) (hk : k ≤ n) : w.ownsRow N e 1 (.slice A k c) k (xs.take k) := by
 obtain ⟨h1, h2⟩ := h
 refine ⟨by rw [List.length_take, h1]; omega, ?_⟩
 rcases h2 with ⟨e1, e2⟩ | ⟨g, cap, cur, e1, hb, hg, hn, hc, hs, ht⟩
 ·cases e1
  exact .inl ⟨by have : k = 0 := by omega
                 subst this; rfl, by omega⟩
 ·cases e1
  refine .inr ⟨g, c, cur, rfl, hb, hg, by omega, hc, hs, ?_⟩
  rw [← ht, List.take_take, Nat.mul_one, Nat.mul_one, Nat.min_eq_left hk]
theorem exec_slice_hi {P : Program} {a : Act} {o : Oper} {w : World} (T : TypeId) (x y : Operand) (ho : o.op = .slice T x none (some y) none) (A : Option Addr) (n c : Nat) (k : Nat) (hx : a.eval x = .slice A n c) (hy : a.eval y = .int .i64 (k : Int)) (hk : k ≤ c) (ht : P.underlying T = some (.slice (P.elem T))) {sz : Nat} (hi' : (P.info? (P.elem T)).map (·.size) = some sz) (hA : ∀ a, A = some a → a.spot = none) : (execOp a.eval o).run P w = .ok (.value (.slice A k c)) w := by
 obtain ⟨i, hi, hs⟩ := Option.map_eq_some_iff.1 hi'
 have e : (if c = 0 then A else A.map (·.add (0 * i.size))) = A := by
  split
  ·rfl
  ·cases A with
   | none => rfl
   | some a =>
     obtain ⟨b, off, s⟩ := a
     have := hA _ rfl
     subst this
     rw [Option.map_some, Addr.add_lit]
     simp
 simp [execOp, ho, hx, hy, run_sliceAt_slice w T _ none _ none ht, run_slice_h w T A n c ht .i64 (k : Int) (by omega) (by omega), sizeOf, typeInfo, hi, sliced]
 simpa using e
theorem exec_slice_lo {P : Program} {a : Act} {o : Oper} {w : World} (T : TypeId) (x y : Operand) (ho : o.op = .slice T x (some y) none none) (A : Option Addr) (n c : Nat) (hx : a.eval x = .slice A n c) (hy : a.eval y = .int .i64 1) (hk : 1 ≤ n) (ht : P.underlying T = some (.slice (P.elem T))) (hi' : (P.info? (P.elem T)).map (·.size) = some 1) : (execOp a.eval o).run P w = .ok (.value (.slice (if c = 1 then A else A.map (·.add (1 * 1))) (n - 1) (c - 1))) w := by
 obtain ⟨i, hi, hs⟩ := Option.map_eq_some_iff.1 hi'
 simp [execOp, ho, hx, hy, run_sliceAt_slice w T _ _ none none ht, run_slice_l w T A n c ht .i64 1 (by omega) (by omega), sizeOf, typeInfo, hi, hs, sliced]
structure CutAt (m mj : DM) (keep kp : List Int) (j : Nat) : Prop where
 now : mj.now = m.now
 fl : mj.files.length = m.files.length
 len : ∀ f ∈ mj.files, f.b.length ≤ 1099511627776 ∧ f.safe ≤ f.b.length
 cut : cutM (m.now.drop j) kp mj = cutM m.now keep m
theorem CutAt.start {m : DM} (hB : Bnd m) (keep : List Int) : CutAt m m keep keep 0 := ⟨rfl, rfl, hB.len, rfl⟩
theorem CutAt.done {m mj : DM} {keep kp : List Int} {j : Nat} (h : CutAt m mj keep kp j) (hj : j = m.now.length) : mj = cutM m.now keep m := by
 have := h.cut
 rw [List.drop_eq_nil_of_le (by omega)] at this
 exact this
set_option linter.unusedSectionVars false
section
variable {m mj : DM} {keep kp : List Int} {j f lo : Nat} {s : List UInt8} {x : FM}
theorem CutAt.zero (h : CutAt m mj keep kp j) (hj : j < m.now.length) (hp : m.now[j] = (s, f)) (hx : mj.files[f]? = some x) (hl : x.b.length = x.safe) : CutAt m mj keep kp (j + 1) := by
 refine ⟨h.now, h.fl, h.len, ?_⟩
 rw [← h.cut, List.drop_eq_getElem_cons hj, hp]
 show _ = cutM _ _ _
 conv => rhs; rw [cutM.eq_def]
 simp only [fileM_at hx, hl, Nat.sub_self, if_true]
theorem CutAt.set_len (h : CutAt m mj keep kp j) (hx : mj.files[f]? = some x) {q : Nat} (hq : q ≤ x.b.length) : ∀ y ∈ (setF mj f ⟨x.b.take q, q⟩).files, y.b.length ≤ 1099511627776 ∧ y.safe ≤ y.b.length := by
 intro y hy
 dsimp only [setF] at hy
 rcases List.mem_or_eq_of_mem_set hy with h1 | h1
 ·exact h.len y h1
 ·subst h1
  have h2 := h.len x (List.mem_of_getElem? hx)
  dsimp only
  rw [List.length_take]
  omega
theorem CutAt.none_ (h : CutAt m mj keep [] j) (hj : j < m.now.length) (hp : m.now[j] = (s, f)) (hx : mj.files[f]? = some x) (hl : x.b.length = x.safe + lo) (h0 : 0 < lo) : CutAt m (setF mj f ⟨x.b.take (x.safe + 0), x.safe + 0⟩) keep [] (j + 1) := by
 refine ⟨h.now, by simp [setF, h.fl], h.set_len hx (by omega), ?_⟩
 rw [← h.cut, List.drop_eq_getElem_cons hj, hp]
 show _ = cutM _ _ _
 conv => rhs; rw [cutM]
 have e : x.b.length - x.safe ≠ 0 := by omega
 simp only [fileM_at hx]
 rw [if_neg e]
 rfl
theorem CutAt.some_ {z : Int} (h : CutAt m mj keep (z :: kp) j) (hj : j < m.now.length) (hp : m.now[j] = (s, f)) (hx : mj.files[f]? = some x) (hl : x.b.length = x.safe + lo) (h0 : 0 < lo) : CutAt m (setF mj f ⟨x.b.take (x.safe + (min (max z 0) (lo : Int)).toNat), x.safe + (min (max z 0) (lo : Int)).toNat⟩) keep kp (j + 1) := by
 refine ⟨h.now, by simp [setF, h.fl], h.set_len hx (by omega), ?_⟩
 rw [← h.cut, List.drop_eq_getElem_cons hj, hp]
 show _ = cutM _ _ _
 conv => rhs; rw [cutM]
 have e : x.b.length - x.safe = lo := by omega
 simp only [fileM_at hx, e]
 rw [if_neg (by omega)]
 rfl
end
theorem find_at {ns : NM} (h : risesN ns) {s : List UInt8} {f : Nat} (hm : (s, f) ∈ ns) : findN ns s = some f := by
 unfold findN
 induction ns with
 | nil => cases hm
 | cons p r ih =>
   have h1 := List.pairwise_cons.1 h
   rw [List.find?_cons]
   rcases List.mem_cons.1 hm with e | e
   ·subst e
    simp
   ·have hne : (p.1 == s) = false := by
     rw [beq_eq_false_iff_ne]
     rintro rfl
     have := h1.1 _ e
     rw [WideAt.bytes_irrefl] at this
     cases this
    rw [hne]
    exact ih h1.2 e
set_option maxRecDepth 1000000 in
set_option maxHeartbeats 8000000 in
theorem cr_cut {u1 u3 u4 u5 u6 u7 u8 u9 u10 u11 u12 u13 u14 u15 u16 u17 u18 u19 u20 u21 u22 u23 u24 u25 u26 u27 u28 u29 u30 u31 u32 u33 u34 u35 u36 u37 u38 u39 u40 u41 u42 u43 u44 u45 u46 u47 u48 u49 u50 u51 u52 u53 u54 u55 u59 u60 u61 u62 u63 u64 u65 u66 u67 u68 u69 u70 u71 u72 u73 u74 u75 u76 u77 u78 u79 u80 u81 u82 u83 u84 u85 u86 u87 u88 u89 u90 u91 u92 u93 u94 u95 u96 u97 u98 u99 u100 u101 u102 u103 u104 u105 u106 u107 u108 u109 u110 u111 u112 u113 : Value} (N g : Nat) (m : DM) (d : DA) (HB : Hid (Bnd m)) (HI : Hid (IdsOk m)) (An : Option Addr) (nn cn : Nat) (HNN : Hid (m.now.length = nn)) (hnm : nn ≤ 1000000) (Ak : Option Addr) (keep : List Int) (kl kc : Nat) (HKL : Hid (keep.length = kl)) (HKC : Hid (kl ≤ kc)) (hkm : kl ≤ 9223372036854775807) (wr : World) (HD : Hid (DiskIn N wr g m d)) (HRN : Hid (Rd wr An (namesC m.now))) (HNF : Hid (∀ a, An = some a → ¬ foot g d a.block)) (HRK : Hid (Rd wr Ak (keep.map (Value.int .i64)))) (HKF : Hid (keep ≠ [] → ∀ a, Ak = some a → ¬ foot g d a.block)) (Q : Exit → Act → World → Prop)
  (hexit : ∀ (x2 x9 x10 x11 x12 x58 x59 x60 x61 x62 x63 x64 x65 x66 x67 x68 x69 x70 x71 x72 x73 x74 x75 x76 x77 x78 x79 x80 x81 x82 x83 x84 x85 x86 x87 x88 x89 x90 x91 x92 x93 x94 x95 x96 x97 x98 x99 x100 x101 x102 x103 x104 x105 x106 x107 x108 x109 x110 x111 x112 x113 : Value) (wx : World) (d' : DA), Hid (Aft N g wr wx (cutM m.now keep m) d d') → Q .normal ⟨#[.pointer (some ⟨g, 0, none⟩), u1, x2, u3, u4, u5, u6, u7, u8, x9, x10, x11, x12, u13, u14, u15, u16, u17, u18, u19, u20, u21, u22, u23, u24, u25, u26, u27, u28, u29, u30, u31, u32, u33, u34, u35, u36, u37, u38, u39, u40, u41, u42, u43, u44, u45, u46, u47, u48, u49, u50, u51, u52, u53, u54, u55, .slice An nn cn, .int .i64 (nn : Int), x58, x59, x60, x61, x62, x63, x64, x65, x66, x67, x68, x69, x70, x71, x72, x73, x74, x75, x76, x77, x78, x79, x80, x81, x82, x83, x84, x85, x86, x87, x88, x89, x90, x91, x92, x93, x94, x95, x96, x97, x98, x99, x100, x101, x102, x103, x104, x105, x106, x107, x108, x109, x110, x111, x112, x113], []⟩ wx) :
  Code.wp Tryz.prog (crBlk 2) Q ⟨#[.pointer (some ⟨g, 0, none⟩), u1, .slice Ak kl kc, u3, u4, u5, u6, u7, u8, u9, u10, u11, u12, u13, u14, u15, u16, u17, u18, u19, u20, u21, u22, u23, u24, u25, u26, u27, u28, u29, u30, u31, u32, u33, u34, u35, u36, u37, u38, u39, u40, u41, u42, u43, u44, u45, u46, u47, u48, u49, u50, u51, u52, u53, u54, u55, .slice An nn cn, .int .i64 (nn : Int), .int .i64 0, u59, u60, u61, u62, u63, u64, u65, u66, u67, u68, u69, u70, u71, u72, u73, u74, u75, u76, u77, u78, u79, u80, u81, u82, u83, u84, u85, u86, u87, u88, u89, u90, u91, u92, u93, u94, u95, u96, u97, u98, u99, u100, u101, u102, u103, u104, u105, u106, u107, u108, u109, u110, u111, u112, u113], []⟩ wr := by
 have HEX := h_ hexit
 clear hexit
 conv => arg 2; whnf
 obtain ⟨w0, hw0⟩ : ∃ x, x = wr := ⟨_, rfl⟩
 subst hw0
 go_wp2_with fail
 go_loopg [2, 58] (nn * 1) (fun gk_ v2 iv wr => ∃ (j : Nat) (kp : List Int) (A' : Option Addr) (kl' kc' : Nat) (mj : DM) (dj : DA), j ≤ nn ∧ gk_ = nn - j ∧ v2 = .slice A' kl' kc' ∧ iv = .int .i64 (j : Int) ∧ kl' ≤ 9223372036854775807 ∧ Hid (kp.length = kl') ∧ Hid (kl' ≤ kc') ∧ Hid (Aft N g w0 wr mj d dj) ∧ Hid (CutAt m mj keep kp j) ∧ Hid (Rd w0 A' (kp.map (Value.int .i64))) ∧ Hid (kp ≠ [] → ∀ a, A' = some a → ¬ foot g d a.block))
 case atStart => exact ⟨0, keep, Ak, kl, kc, m, d, by omega, by omega, rfl, rfl, hkm, HKL, HKC, h_ (Aft.refl HD.out), h_ (CutAt.start HB.out keep), HRK, HKF⟩
 case round =>
 obtain ⟨j, kp, A', kl', kc', mj, dj, hj, rfl, rfl, rfl, hkm', HKL', HKC', HA, HCU, HRK', HKF'⟩ := hrel
 by_cases hlt : j < nn
 ·have i1 : (j : Int) < (nn : Int) := by omega
  have hjm : j < m.now.length := by have := HNN.out; omega
  have HJM := h_ hjm
  obtain ⟨s, f, hp⟩ : ∃ s f, m.now[j] = (s, f) := ⟨_, _, rfl⟩
  have hmem : (s, f) ∈ m.now := by rw [← hp]; exact List.getElem_mem hjm
  have hsl := HB.out.nl _ hmem
  dsimp only at hsl
  have hfl : f < mj.files.length := by rw [HCU.out.fl]; exact HI.out.now _ hmem
  obtain ⟨x, hxf⟩ : ∃ x, mj.files[f]? = some x := ⟨_, List.getElem?_eq_getElem hfl⟩
  have hxl := HCU.out.len x (List.mem_of_getElem? hxf)
  have hlk := look_any HA.out.disk.now ⟨s.toArray⟩ (by rw [toArray_size]; unfold maxLen; omega)
  rw [toArray_data, HCU.out.now, find_at HB.out.rn hmem] at hlk
  obtain ⟨b, v, q1, q2, q3, q4, q5⟩ := HA.out.disk.row_of hxf
  have e2 : ptrO dj.bs (some f) = .pointer (some ⟨b, 0, none⟩) := by rw [← q3]; rfl
  rw [e2] at hlk
  obtain ⟨Av, cv, rfl, hcv, _, _, _⟩ := own_slice q5
  obtain ⟨sf, hsf⟩ := eX x.safe
  obtain ⟨xn, hxn⟩ := eX x.b.length
  obtain ⟨lo, hlo⟩ : ∃ lo, xn = sf + lo := ⟨xn - sf, by omega⟩
  have HAV : Hid (∀ a, Av = some a → a.spot = none) := h_ (fun a ha => by
   subst ha
   rcases q5.2 with ⟨e, _⟩ | ⟨g', cap, cur, e, _⟩
   ·cases e
   ·cases e
    rfl)
  rw [hxn] at hcv hxl q2 q4 q5
  rw [hsf] at q4 hxl
  have HXB : Hid (xn = sf + lo ∧ xn ≤ cv ∧ xn ≤ 1099511627776) := h_ ⟨hlo, hcv, hxl.1⟩
  have HXN := h_ hxn
  have HSF := h_ hsf
  have HXF := h_ hxf
  have HQ1 := h_ q1
  have HQ2 := h_ q2
  have HQ4 := h_ q4
  have HQ5 := h_ q5
  have HP : Hid (∀ h : j < m.now.length, m.now[j] = (s, f)) := h_ (fun _ => hp)
  have hrd : Rd wr An (namesC m.now) := HRN.out.keep (fun ad e hlt => HA.out.frm.block _ hlt (HNF.out ad e))
  obtain ⟨gn, on, hAn, _⟩ := hrd.all (by simp [namesC]; exact Nat.pos_of_ne_zero (fun e => by rw [e] at hjm; cases hjm))
  have hcn : wr.cell? ⟨gn, on + j, none⟩ = some (.string ⟨s.toArray⟩) := by
   obtain ⟨b', o', e', hc'⟩ := hrd j (strV s) (by unfold namesC; rw [List.getElem?_map, show m.now[j]? = some (s, f) from (List.getElem?_eq_getElem hjm).trans (congrArg some hp)]; rfl)
   rw [hAn] at e'
   cases e'
   exact hc'
  have hc0 := HA.out.disk.cells.1
  have HAN := h_ hAn
  obtain ⟨S, hS⟩ : ∃ S : ByteArray, (⟨s.toArray⟩ : ByteArray) = S := ⟨_, rfl⟩
  rw [hS] at hlk hcn
  rw [hAn]
  have k0 : wr.cell? ⟨b, 0, none⟩ = some (.slice Av xn cv) := row_cell q4 0
  have k1 : wr.cell? ⟨b, 1, none⟩ = some (.int .i64 (sf : Int)) := row_cell q4 1
  have hsub : ∀ w : World, (binOp .sub 3 (.int .i64 (xn : Int)) (.int .i64 (sf : Int))).run Tryz.prog w = .ok (.int .i64 (lo : Int)) w := fun w => bin_sub _ _ _ w (by omega) (by omega) (by omega)
  clear hp hmem hsl hfl hxf hxl q1 q2 q3 q4 q5 e2 hsf hxn hcv hlo hrd hAn hS hjm
  go_wp2_with fail
  refine wp_region_sched (fun w' => w'.cell? ⟨b, 0, none⟩ = some (.slice Av xn cv) ∧ w'.cell? ⟨b, 1, none⟩ = some (.int .i64 (sf : Int))) [(true, 0), (true, 1), (true, 2), (true, 3), (true, 4), (true, 5), (true, 6), (true, 7), (true, 8), (true, 9), (true, 10)] (by kernel_rfl) (by kernel_rfl) rfl (by kernel_rfl) ⟨k0, k1⟩ ?_
  iterate 3 ((first | refine wpS_pass _ rfl (by rfl) ?_ | (refine wpS_take _ ?_ rfl (by rfl) ?_ ?_; rotate_left; (focus (intro w' hS'; (try dsimp only at hS'); (repeat (have hS1 := hS'.1; replace hS' := hS'.2)); go_simp; (try with_reducible rfl); done)))); simp only [LY])
  refine wpS_take _ (.slice Av xn cv) rfl (by rfl) (fun w' hS' => ?_) ?_
  ·have hS1 := hS'.1
   go_simp
  simp only [LY]
  iterate 4 ((first | refine wpS_pass _ rfl (by rfl) ?_ | (refine wpS_take _ ?_ rfl (by rfl) ?_ ?_; rotate_left; (focus (intro w' hS'; (try dsimp only at hS'); (repeat (have hS1 := hS'.1; replace hS' := hS'.2)); go_simp; (try with_reducible rfl); done)))); simp only [LY])
  refine wpS_take _ (.int .i64 (sf : Int)) rfl (by rfl) (fun w' hS' => ?_) ?_
  ·have hS1 := hS'.2
   go_simp
  simp only [LY]
  refine wpS_take _ _ rfl (by rfl) (fun w' hS' => exec_bin _ _ _ _ _ rfl _ _ _ rfl rfl rfl (hsub w')) ?_
  simp only [LY]
  ((first | refine wpS_pass _ rfl (by rfl) ?_ | (refine wpS_take _ ?_ rfl (by rfl) ?_ ?_; rotate_left; (focus (intro w' hS'; (try dsimp only at hS'); (repeat (have hS1 := hS'.1; replace hS' := hS'.2)); go_simp; (try with_reducible rfl); done)))); simp only [LY])
  refine wpS_done ?_
  have HAD : Hid (Aft N g w0 wr.drew mj d dj) := h_ (HA.out.trans ⟨HA.out.disk.drew, ⟨rfl, rfl, rfl, Nat.le_refl _, fun _ _ _ => rfl⟩, fun b hb => .inl hb⟩)
  replace HQ4 : Hid (wr.drew.heap[b]? = some (.cells #[.slice Av xn cv, .int .i64 (sf : Int)] 112 (0, 0))) := h_ HQ4.out
  replace HQ5 : Hid (wr.drew.ownsRow N 5 1 (.slice Av xn cv) xn (b8s x.b)) := h_ (own_keep HQ5.out (fun _ _ _ => rfl))
  clear hlk hc0 hcn k0 k1 hsub HA
  have HA := HAD
  clear HAD
  generalize wr.drew = wr at *
  by_cases hlz : lo = 0
  ·have i2 : ((lo : Int) == 0) = true := by rw [hlz]; rfl
   have HNX : Hid (CutAt m mj keep kp (j + 1)) := h_ (HCU.out.zero HJM.out (HP.out HJM.out) HXF.out (by rw [HXN.out, HSF.out]; have := HXB.out; omega))
   go_wp2_with fail
   rw [← HAN.out]
   go_roundg (nn - (j + 1))
   case measure => omega
   case rel => exact ⟨j + 1, kp, A', kl', kc', mj, dj, by omega, rfl, rfl, by first | rfl | exact congrArg (Value.int .i64) (by omega) | go_num, hkm', HKL', HKC', HA, HNX, HRK', HKF'⟩
  have i2 : ((lo : Int) == 0) = false := by rw [beq_eq_false_iff_ne]; omega
  cases kp with
  | nil =>
    obtain rfl : kl' = 0 := by have := HKL'.out; simpa using this.symm
    obtain ⟨q, hq⟩ : ∃ q, q = sf + 0 := ⟨_, rfl⟩
    have HQE : Hid (q = sf + 0 ∧ q ≤ xn) := h_ ⟨hq, by have := HXB.out; omega⟩
    have HNX : Hid (CutAt m (setF mj f ⟨x.b.take q, q⟩) keep [] (j + 1)) := h_ (by
     have := HCU.out.none_ HJM.out (HP.out HJM.out) HXF.out (lo := lo) (by rw [HXN.out, HSF.out]; exact HXB.out.1) (by omega)
     rw [HSF.out, ← hq] at this
     exact this)
    clear hq
    go_wp2_with fail
    have k0 : wr.cell? ⟨b, 0, none⟩ = some (.slice Av xn cv) := row_cell HQ4.out 0
    have k1 : wr.cell? ⟨b, 1, none⟩ = some (.int .i64 (sf : Int)) := row_cell HQ4.out 1
    have hadd : ∀ w : World, (binOp .add 3 (.int .i64 (sf : Int)) (.int .i64 0)).run Tryz.prog w = .ok (.int .i64 (q : Int)) w := fun w => bin_add _ _ _ w (by have := HQE.out; omega) (by omega) (by have := HQE.out; have := HXB.out; omega)
    refine wp_region_sched (fun w' => w'.cell? ⟨b, 1, none⟩ = some (.int .i64 (sf : Int))) [(true, 0), (true, 1), (true, 2), (true, 3), (true, 5), (true, 6), (true, 7), (true, 8), (true, 9), (true, 10), (false, 4), (true, 11), (true, 12), (true, 13), (false, 14)] (by kernel_rfl) (by kernel_rfl) rfl (by kernel_rfl) k1 ?_
    iterate 9 ((first | refine wpS_pass _ rfl (by rfl) ?_ | (refine wpS_take _ ?_ rfl (by rfl) ?_ ?_; rotate_left; (focus (intro w' hS'; (try dsimp only at hS'); (repeat (have hS1 := hS'.1; replace hS' := hS'.2)); go_simp; (try with_reducible rfl); done)))); simp only [LY])
    refine wpS_take _ _ rfl (by rfl) (fun w' hS' => exec_bin _ _ _ _ _ rfl _ _ _ rfl rfl rfl (hadd w')) ?_
    simp only [LY]
    refine wpS_do _ rfl (by rfl) (fun K hK => ?_)
    go_simp
    refine hK.out _ _ k1 (fun hS' => ?_)
    clear hS' hK
    refine wpS_take _ _ rfl (by rfl) (fun w' hS' => exec_slice_hi _ _ _ rfl Av xn cv q rfl rfl (by have := HQE.out; have := HXB.out; omega) Tryz.underlying29 (sz := 1) (by kernel_rfl) HAV.out) ?_
    simp only [LY]
    iterate 2 ((first | refine wpS_pass _ rfl (by rfl) ?_ | (refine wpS_take _ ?_ rfl (by rfl) ?_ ?_; rotate_left; (focus (intro w' hS'; (try dsimp only at hS'); (repeat (have hS1 := hS'.1; replace hS' := hS'.2)); go_simp; (try with_reducible rfl); done)))); simp only [LY])
    have hr5 : (wr.drew.setCell ⟨b, 0, none⟩ (.slice Av q cv)).heap[b]? = some (.cells #[.slice Av q cv, .int .i64 (sf : Int)] 112 (0, 0)) := set_row (j := 0) (.slice Av q cv) HQ4.out
    refine wpS_store_cell _ rfl (by rfl) 29 _ _ rfl b 0 rfl (.slice Av q cv) rfl rfl (.slice Av xn cv) k0 (row_froz HQ4.out) (by kernel_rfl) (row_cell hr5 1) ?_
    simp only [LY]
    refine wpS_done ?_
    have HR5 := h_ hr5
    have c5 : (wr.drew.setCell ⟨b, 0, none⟩ (.slice Av q cv)).cell? ⟨b, 0, none⟩ = some (.slice Av q cv) := row_cell hr5 0
    have c6 : (wr.drew.setCell ⟨b, 0, none⟩ (.slice Av q cv)).cell? ⟨b, 1, none⟩ = some (.int .i64 (sf : Int)) := row_cell hr5 1
    have f6 : (wr.drew.setCell ⟨b, 0, none⟩ (.slice Av q cv)).frozen? ⟨b, 1, none⟩ = false := row_froz (j := 1) hr5
    obtain ⟨W5, hW5⟩ := eX (wr.drew.setCell ⟨b, 0, none⟩ (.slice Av q cv))
    have HW5 := h_ hW5
    rw [hW5] at c5 c6 f6 HR5 ⊢
    clear hr5 hW5 k0 k1 hadd
    go_wp2_with fail
    have A6 : Hid (∃ d', Aft N g w0 (W5.setCell ⟨b, 1, none⟩ (.int .i64 (q : Int))) (setF mj f ⟨x.b.take q, q⟩) d d') := h_ (by
     have hr6 := set_row (j := 1) (.int .i64 (q : Int)) HR5.out
     have hob : (Value.slice Av q cv).ownBlock = (Value.slice Av xn cv).ownBlock := by cases Av <;> rfl
     have hbm := List.mem_of_getElem? HQ1.out
     have hvm := List.mem_of_getElem? HQ2.out
     have hkb : ∀ c, c ≠ b → (W5.setCell ⟨b, 1, none⟩ (.int .i64 (q : Int))).heap[c]? = wr.heap[c]? := fun c hc => by
      rw [← HW5.out]
      exact (Below.heap_setCell _ _ _ _ hc).trans (Below.heap_setCell _ _ _ _ hc)
     have hlen : (x.b.take q).length = q := by rw [List.length_take]; have := HXN.out; have := HQE.out; have := HXB.out; omega
     have hown : (W5.setCell ⟨b, 1, none⟩ (.int .i64 (q : Int))).ownsRow N 5 1 (.slice Av q cv) (x.b.take q).length (b8s (x.b.take q)) := by
      rw [hlen, b8s_take]
      exact own_keep (own_cut HQ5.out (by have := HQE.out; have := HXB.out; omega)) (fun c hc _ => hkb c (Ne.symm (tyAt_ne (HA.out.disk.ty_b hbm) (HA.out.disk.ty_v hvm (by rw [← hob]; exact hc)) (by decide))))
     have D6 := HA.out.disk.fileSet HQ1.out HQ2.out HXF.out ⟨x.b.take q, q⟩ (.slice Av q cv) hr6 hown (fun c _ hc _ => hkb c hc) (.inl hob)
     have hF : Frm (foot g dj) wr (W5.setCell ⟨b, 1, none⟩ (.int .i64 (q : Int))) := by
      rw [← HW5.out]
      have h1 : Frm (foot g dj) wr wr.drew := ⟨rfl, rfl, rfl, Nat.le_refl _, fun _ _ _ => rfl⟩
      exact (h1.trans (Frm.of_cell (F := foot g dj) (.inr (.inr (.inr (.inr (.inl hbm)))))) (fun i hi => .inl hi)).trans (Frm.of_cell (F := foot g dj) (.inr (.inr (.inr (.inr (.inl hbm)))))) (fun i hi => .inl hi)
     refine ⟨_, HA.out.trans (Aft.mk D6 hF (fun c hc => ?_))⟩
     rcases foot_set c hc with h1 | h1
     ·exact .inl h1
     ·exact .inl (.inr (.inr (.inr (.inr (.inr ⟨_, hvm, h1.trans hob⟩))))))
    obtain ⟨d6, A6⟩ : ∃ d', Hid (Aft N g w0 (W5.setCell ⟨b, 1, none⟩ (.int .i64 (q : Int))) (setF mj f ⟨x.b.take q, q⟩) d d') := by
     obtain ⟨d', h'⟩ := A6.out
     exact ⟨d', h_ h'⟩
    rw [← HAN.out]
    go_roundg (nn - (j + 1))
    case measure => omega
    case rel => exact ⟨j + 1, [], A', 0, kc', _, d6, by omega, rfl, rfl, by first | rfl | exact congrArg (Value.int .i64) (by omega) | go_num, by omega, HKL', HKC', A6, HNX, HRK', HKF'⟩
  | cons z kp =>
    obtain ⟨kr, rfl⟩ : ∃ kr, kl' = kr + 1 := ⟨kp.length, by have := HKL'.out; simpa using this.symm⟩
    obtain ⟨kt, hkt⟩ : ∃ kt : Nat, (min (max z 0) (lo : Int)).toNat = kt := ⟨_, rfl⟩
    have hkz : min (max z 0) (lo : Int) = (kt : Int) := by omega
    obtain ⟨q, hq⟩ : ∃ q, q = sf + kt := ⟨_, rfl⟩
    have HQE : Hid (q = sf + kt ∧ q ≤ xn) := h_ ⟨hq, by have := HXB.out; omega⟩
    have HNX : Hid (CutAt m (setF mj f ⟨x.b.take q, q⟩) keep kp (j + 1)) := h_ (by
     have := HCU.out.some_ HJM.out (HP.out HJM.out) HXF.out (lo := lo) (by rw [HXN.out, HSF.out]; exact HXB.out.1) (by omega)
     rw [HSF.out, hkt, ← hq] at this
     exact this)
    have hmx := fun (w : World) => run_max2c (P := Tryz.prog) w #[3, 3] 3 .i64 .i64 z 0
    have hmn : ∀ w : World, (Builtin.min_ #[3, 3] 3 #[.int .i64 (max z 0), .int .i64 (lo : Int)]).run Tryz.prog w = .ok (.int .i64 (kt : Int)) w := fun w => by rw [run_min2c, hkz]
    obtain ⟨gk, ok, hAk, _⟩ := HRK'.out.all (by simp)
    subst hAk
    have hck : wr.cell? ⟨gk, ok, none⟩ = some (.int .i64 z) := by
     have hrd : Rd wr (some ⟨gk, ok, none⟩) ((z :: kp).map (Value.int .i64)) := HRK'.out.keep (fun ad e hlt => HA.out.frm.block _ hlt (HKF'.out (by simp) ad e))
     obtain ⟨b', o', e', hc'⟩ := hrd 0 (.int .i64 z) rfl
     cases e'
     exact hc'
    have i3 : (0 : Int) < (kr : Int) + 1 := by omega
    have i4 : ((0 : Int) < ((kr + 1 : Nat) : Int)) := by omega
    obtain ⟨A2, hA2⟩ := eX ((if kc' = 1 then some (⟨gk, ok, none⟩ : Addr) else (some (⟨gk, ok, none⟩ : Addr)).map (·.add (1 * 1))))
    have HR2 : Hid (Rd w0 A2 (kp.map (Value.int .i64))) := h_ (by
     have := HRK'.out.drop (k := 1) (size := 1) (cap := kc') (by have h1 := HKL'.out; have h2 := HKC'.out; rw [List.length_map, Nat.mul_one]; omega)
     rw [hA2] at this
     exact this)
    have HF2 : Hid (kp ≠ [] → ∀ a, A2 = some a → ¬ foot g d a.block) := h_ (fun _ a ha => by
     subst ha
     have h0 := HKF'.out (by simp) _ rfl
     split at hA2
     ·cases hA2; exact h0
     ·rw [Option.map_some, Addr.add_lit] at hA2
      cases hA2
      exact h0)
    have HKL2 : Hid (kp.length = kr) := h_ (by have := HKL'.out; simpa using this)
    have HKC2 : Hid (kr ≤ kc' - 1) := h_ (by have := HKC'.out; omega)
    have HA2 := h_ hA2
    clear hq hkt hkz hA2
    go_wp2_with fail
    refine wp_region_sched (fun w' => w'.cell? ⟨gk, ok, none⟩ = some (.int .i64 z)) [(true, 0), (true, 1), (true, 2), (true, 3), (true, 4), (true, 5), (true, 6), (true, 7), (true, 8), (true, 9)] (by kernel_rfl) (by kernel_rfl) rfl (by kernel_rfl) hck ?_
    iterate 7 ((first | refine wpS_pass _ rfl (by rfl) ?_ | (refine wpS_take _ ?_ rfl (by rfl) ?_ ?_; rotate_left; (focus (intro w' hS'; (try dsimp only at hS'); (repeat (have hS1 := hS'.1; replace hS' := hS'.2)); go_simp; (try with_reducible rfl); done)))); simp only [LY])
    refine wpS_take _ _ rfl (by rfl) (fun w' hS' => exec_slice_lo _ _ _ rfl (some ⟨gk, ok, none⟩) (kr + 1) kc' rfl rfl (by omega) Tryz.underlying74 (by kernel_rfl)) ?_
    rw [HA2.out]
    simp only [LY]
    iterate 2 ((first | refine wpS_pass _ rfl (by rfl) ?_ | (refine wpS_take _ ?_ rfl (by rfl) ?_ ?_; rotate_left; (focus (intro w' hS'; (try dsimp only at hS'); (repeat (have hS1 := hS'.1; replace hS' := hS'.2)); go_simp; (try with_reducible rfl); done)))); simp only [LY])
    refine wpS_done ?_
    have HAD : Hid (Aft N g w0 wr.drew mj d dj) := h_ (HA.out.trans ⟨HA.out.disk.drew, ⟨rfl, rfl, rfl, Nat.le_refl _, fun _ _ _ => rfl⟩, fun b hb => .inl hb⟩)
    replace HQ4 : Hid (wr.drew.heap[b]? = some (.cells #[.slice Av xn cv, .int .i64 (sf : Int)] 112 (0, 0))) := h_ HQ4.out
    replace HQ5 : Hid (wr.drew.ownsRow N 5 1 (.slice Av xn cv) xn (b8s x.b)) := h_ (own_keep HQ5.out (fun _ _ _ => rfl))
    clear HA hck
    have HA := HAD
    clear HAD
    generalize wr.drew = wr at *
    go_wp2_with fail
    have k0 : wr.cell? ⟨b, 0, none⟩ = some (.slice Av xn cv) := row_cell HQ4.out 0
    have k1 : wr.cell? ⟨b, 1, none⟩ = some (.int .i64 (sf : Int)) := row_cell HQ4.out 1
    have hadd : ∀ w : World, (binOp .add 3 (.int .i64 (sf : Int)) (.int .i64 (kt : Int))).run Tryz.prog w = .ok (.int .i64 (q : Int)) w := fun w => bin_add _ _ _ w (by have := HQE.out; omega) (by omega) (by have := HQE.out; have := HXB.out; omega)
    refine wp_region_sched (fun w' => w'.cell? ⟨b, 1, none⟩ = some (.int .i64 (sf : Int))) [(true, 0), (true, 1), (true, 2), (true, 3), (true, 5), (true, 6), (true, 7), (true, 8), (true, 9), (true, 10), (false, 4), (true, 11), (true, 12), (true, 13), (false, 14)] (by kernel_rfl) (by kernel_rfl) rfl (by kernel_rfl) k1 ?_
    iterate 9 ((first | refine wpS_pass _ rfl (by rfl) ?_ | (refine wpS_take _ ?_ rfl (by rfl) ?_ ?_; rotate_left; (focus (intro w' hS'; (try dsimp only at hS'); (repeat (have hS1 := hS'.1; replace hS' := hS'.2)); go_simp; (try with_reducible rfl); done)))); simp only [LY])
    refine wpS_take _ _ rfl (by rfl) (fun w' hS' => exec_bin _ _ _ _ _ rfl _ _ _ rfl rfl rfl (hadd w')) ?_
    simp only [LY]
    refine wpS_do _ rfl (by rfl) (fun K hK => ?_)
    go_simp
    refine hK.out _ _ k1 (fun hS' => ?_)
    clear hS' hK
    refine wpS_take _ _ rfl (by rfl) (fun w' hS' => exec_slice_hi _ _ _ rfl Av xn cv q rfl rfl (by have := HQE.out; have := HXB.out; omega) Tryz.underlying29 (sz := 1) (by kernel_rfl) HAV.out) ?_
    simp only [LY]
    iterate 2 ((first | refine wpS_pass _ rfl (by rfl) ?_ | (refine wpS_take _ ?_ rfl (by rfl) ?_ ?_; rotate_left; (focus (intro w' hS'; (try dsimp only at hS'); (repeat (have hS1 := hS'.1; replace hS' := hS'.2)); go_simp; (try with_reducible rfl); done)))); simp only [LY])
    have hr5 : (wr.drew.setCell ⟨b, 0, none⟩ (.slice Av q cv)).heap[b]? = some (.cells #[.slice Av q cv, .int .i64 (sf : Int)] 112 (0, 0)) := set_row (j := 0) (.slice Av q cv) HQ4.out
    refine wpS_store_cell _ rfl (by rfl) 29 _ _ rfl b 0 rfl (.slice Av q cv) rfl rfl (.slice Av xn cv) k0 (row_froz HQ4.out) (by kernel_rfl) (row_cell hr5 1) ?_
    simp only [LY]
    refine wpS_done ?_
    have HR5 := h_ hr5
    have c5 : (wr.drew.setCell ⟨b, 0, none⟩ (.slice Av q cv)).cell? ⟨b, 0, none⟩ = some (.slice Av q cv) := row_cell hr5 0
    have c6 : (wr.drew.setCell ⟨b, 0, none⟩ (.slice Av q cv)).cell? ⟨b, 1, none⟩ = some (.int .i64 (sf : Int)) := row_cell hr5 1
    have f6 : (wr.drew.setCell ⟨b, 0, none⟩ (.slice Av q cv)).frozen? ⟨b, 1, none⟩ = false := row_froz (j := 1) hr5
    obtain ⟨W5, hW5⟩ := eX (wr.drew.setCell ⟨b, 0, none⟩ (.slice Av q cv))
    have HW5 := h_ hW5
    rw [hW5] at c5 c6 f6 HR5 ⊢
    clear hr5 hW5 k0 k1 hadd
    go_wp2_with fail
    have A6 : Hid (∃ d', Aft N g w0 (W5.setCell ⟨b, 1, none⟩ (.int .i64 (q : Int))) (setF mj f ⟨x.b.take q, q⟩) d d') := h_ (by
     have hr6 := set_row (j := 1) (.int .i64 (q : Int)) HR5.out
     have hob : (Value.slice Av q cv).ownBlock = (Value.slice Av xn cv).ownBlock := by cases Av <;> rfl
     have hbm := List.mem_of_getElem? HQ1.out
     have hvm := List.mem_of_getElem? HQ2.out
     have hkb : ∀ c, c ≠ b → (W5.setCell ⟨b, 1, none⟩ (.int .i64 (q : Int))).heap[c]? = wr.heap[c]? := fun c hc => by
      rw [← HW5.out]
      exact (Below.heap_setCell _ _ _ _ hc).trans (Below.heap_setCell _ _ _ _ hc)
     have hlen : (x.b.take q).length = q := by rw [List.length_take]; have := HXN.out; have := HQE.out; have := HXB.out; omega
     have hown : (W5.setCell ⟨b, 1, none⟩ (.int .i64 (q : Int))).ownsRow N 5 1 (.slice Av q cv) (x.b.take q).length (b8s (x.b.take q)) := by
      rw [hlen, b8s_take]
      exact own_keep (own_cut HQ5.out (by have := HQE.out; have := HXB.out; omega)) (fun c hc _ => hkb c (Ne.symm (tyAt_ne (HA.out.disk.ty_b hbm) (HA.out.disk.ty_v hvm (by rw [← hob]; exact hc)) (by decide))))
     have D6 := HA.out.disk.fileSet HQ1.out HQ2.out HXF.out ⟨x.b.take q, q⟩ (.slice Av q cv) hr6 hown (fun c _ hc _ => hkb c hc) (.inl hob)
     have hF : Frm (foot g dj) wr (W5.setCell ⟨b, 1, none⟩ (.int .i64 (q : Int))) := by
      rw [← HW5.out]
      have h1 : Frm (foot g dj) wr wr.drew := ⟨rfl, rfl, rfl, Nat.le_refl _, fun _ _ _ => rfl⟩
      exact (h1.trans (Frm.of_cell (F := foot g dj) (.inr (.inr (.inr (.inr (.inl hbm)))))) (fun i hi => .inl hi)).trans (Frm.of_cell (F := foot g dj) (.inr (.inr (.inr (.inr (.inl hbm)))))) (fun i hi => .inl hi)
     refine ⟨_, HA.out.trans (Aft.mk D6 hF (fun c hc => ?_))⟩
     rcases foot_set c hc with h1 | h1
     ·exact .inl h1
     ·exact .inl (.inr (.inr (.inr (.inr (.inr ⟨_, hvm, h1.trans hob⟩))))))
    obtain ⟨d6, A6⟩ : ∃ d', Hid (Aft N g w0 (W5.setCell ⟨b, 1, none⟩ (.int .i64 (q : Int))) (setF mj f ⟨x.b.take q, q⟩) d d') := by
     obtain ⟨d', h'⟩ := A6.out
     exact ⟨d', h_ h'⟩
    rw [← HAN.out]
    go_roundg (nn - (j + 1))
    case measure => omega
    case rel => exact ⟨j + 1, kp, A2, kr, kc' - 1, _, d6, by omega, rfl, rfl, by first | rfl | exact congrArg (Value.int .i64) (by omega) | go_num, by omega, HKL2, HKC2, A6, HNX, HR2, HF2⟩
 ·obtain rfl : j = nn := by omega
  have HFIN : Hid (mj = cutM m.now keep m) := h_ (HCU.out.done HNN.out.symm)
  go_wp2_with fail
  rw [HFIN.out] at HA
  exact HEX.out _ _ _ _ _ _ _ _ _ _ _ _ _ _ _ _ _ _ _ _ _ _ _ _ _ _ _ _ _ _ _ _ _ _ _ _ _ _ _ _ _ _ _ _ _ _ _ _ _ _ _ _ _ _ _ _ _ _ _ _ _ _ dj HA
theorem doN_len (ns : NM) (t : TM) : (doN ns t).length ≤ ns.length + 1 := by
 unfold doN
 dsimp only
 have h1 := delN_length ns t.fr
 split
 ·split
  ·omega
  ·omega
 ·split
  ·exact putN_length _ _ _
  ·have := putN_length (delN ns t.fr) t.to_ t.f; omega
theorem doN_mem {ns : NM} {t : TM} {p : List UInt8 × Nat} (h : p ∈ doN ns t) : p ∈ ns ∨ (p = (t.to_, t.f) ∧ t.to_ ≠ []) := by
 unfold doN at h
 dsimp only at h
 have hd : ∀ {p}, p ∈ (if t.fr = [] then ns else delN ns t.fr) → p ∈ ns := fun {p} h => by
  split at h
  ·exact h
  ·exact (delN_mem.1 h).1
 by_cases ht : t.to_ = []
 ·rw [if_pos ht] at h
  exact .inl (hd h)
 ·rw [if_neg ht] at h
  unfold putN at h
  rcases insN_mem.1 h with h | h
  ·exact .inr ⟨h, ht⟩
  ·exact .inl (hd (delN_mem.1 h).1)
theorem foldN_len : ∀ (ts : List TM) (ns : NM), (ts.foldl doN ns).length ≤ ns.length + ts.length
 | [], ns => by simp
 | t :: ts, ns => by
   have h1 := foldN_len ts (doN ns t)
   have h2 := doN_len ns t
   simp only [List.foldl_cons, List.length_cons]
   omega
theorem foldN_rises : ∀ (ts : List TM) {ns : NM}, risesN ns → risesN (ts.foldl doN ns)
 | [], _, h => h
 | t :: ts, _, h => foldN_rises ts (risesN_do h t)
theorem foldN_mem : ∀ (ts : List TM) {ns : NM} {p : List UInt8 × Nat}, p ∈ ts.foldl doN ns → p ∈ ns ∨ ∃ t ∈ ts, p = (t.to_, t.f) ∧ t.to_ ≠ []
 | [], _, _, h => .inl h
 | t :: ts, ns, p, h => by
   rcases foldN_mem ts (ns := doN ns t) h with h | ⟨u, hu, he⟩
   ·rcases doN_mem h with h | h
    ·exact .inl h
    ·exact .inr ⟨t, by simp, h⟩
   ·exact .inr ⟨u, by simp [hu], he⟩
def crash0 (m : DM) (turns : Int) : DM :=
 { m with down := false, fuse := 0, sure := (m.turns.take (min (max turns 0) m.turns.length).toNat).foldl doN m.sure, now := (m.turns.take (min (max turns 0) m.turns.length).toNat).foldl doN m.sure, turns := [] }
theorem crashM_eq (m : DM) (turns : Int) (keep : List Int) : crashM m turns keep = cutM (crash0 m turns).now keep (crash0 m turns) := rfl
theorem crash0_bnd {m : DM} (hB : Bnd m) (turns : Int) (hl : m.sure.length + m.turns.length < 1000000) : Bnd (crash0 m turns) := by
 have h1 := foldN_len (m.turns.take (min (max turns 0) m.turns.length).toNat) m.sure
 rw [List.length_take] at h1
 have h2 : ∀ p ∈ (m.turns.take (min (max turns 0) m.turns.length).toNat).foldl doN m.sure, p.1.length ≤ 100 := fun p hp => by
  rcases foldN_mem _ hp with h | ⟨t, ht, rfl, _⟩
  ·exact hB.sl p h
  ·exact (hB.tl t (List.mem_of_mem_take ht)).2
 have h3 := foldN_rises (m.turns.take (min (max turns 0) m.turns.length).toNat) hB.rs
 exact ⟨by simp [crash0], hB.most, by dsimp only [crash0]; omega, by dsimp only [crash0]; omega, by simp [crash0], hB.files, hB.len, h3, h3, by simp [crash0], h2, h2⟩
theorem crash0_ids {m : DM} (hI : IdsOk m) (turns : Int) : IdsOk (crash0 m turns) := by
 have h2 : ∀ p ∈ (m.turns.take (min (max turns 0) m.turns.length).toNat).foldl doN m.sure, p.2 < m.files.length := fun p hp => by
  rcases foldN_mem _ hp with h | ⟨t, ht, rfl, h⟩
  ·exact hI.sure p h
  ·rcases hI.turns t (List.mem_of_mem_take ht) with h' | h'
   ·exact absurd h' h
   ·exact h'
 exact ⟨h2, h2, by simp [crash0]⟩
section
variable {N g : Nat} {w w' : World} {m : DM} {d : DA}
theorem DiskIn.crash (h : DiskIn N w g m d) {mb' : Nat} (hmN : N ≤ mb') (hne : mb' ≠ d.sb) (ho : w.ownsMap Tryz.prog 9 ptrR mb' m.sure.length (namesD d.bs m.sure)) :
  DiskIn N ((w.setCell ⟨g, 0, none⟩ (.map (some mb'))).setCell ⟨g, 2, none⟩ (.slice none 0 0)) g { m with now := m.sure, turns := [] } { d with mb := mb', tv := .slice none 0 0 } := by
 have hk : ∀ b, b ≠ g → ((w.setCell ⟨g, 0, none⟩ (.map (some mb'))).setCell ⟨g, 2, none⟩ (.slice none 0 0)).heap[b]? = w.heap[b]? := fun b hn => (Below.heap_setCell _ _ _ _ hn).trans (Below.heap_setCell _ _ _ _ hn)
 refine h.setG ?_ (fun b _ hb => hk b hb) ⟨rfl, rfl⟩ rfl ho h.sure (World.ownsRow_nil _ _ _ _) hne hmN h.base.2.2.1
 have := h.row
 simp only [World.setCell, Array.getElem?_modify, this, if_true, Option.map_some]
 rfl
end
set_option maxRecDepth 1000000 in
set_option maxHeartbeats 8000000 in
theorem crash_any (N g : Nat) (m : DM) (d : DA) (turns : Int) (Ak : Option Addr) (keep : List Int) (kl kc : Nat) (hkl : keep.length = kl) (hkc : kl ≤ kc) (hkm : kl ≤ 9223372036854775807) (w : World) (h : DiskIn N w g m d) (hB : Bnd m) (hI : IdsOk m) (hl : m.sure.length + m.turns.length < 1000000)
  (hrk : Rd w Ak (keep.map (Value.int .i64))) (hkf : keep ≠ [] → ∀ a, Ak = some a → a.block < w.heap.size ∧ ¬ foot g d a.block) :
  Calls Tryz.prog 25 #[.pointer (some ⟨g, 0, none⟩), .int .i64 turns, .slice Ak kl kc] w fun e w' => e = .returned (.tuple #[]) ∧ ∃ d', Aft N g w w' (crashM m turns keep) d d' := by
 have H := h_ h
 have HKL := h_ hkl
 have HKC := h_ hkc
 have HRK := h_ hrk
 have HKF := h_ hkf
 have HB4 := h_ (crash0_bnd hB turns hl)
 have HI4 := h_ (crash0_ids hI turns)
 obtain ⟨c0, c1, c2, c3, c4, c5⟩ := h.cells
 have f5 := h.froz 5
 have H1 : Hid (DiskIn N (w.setCell ⟨g, 5, none⟩ (.bool false)) g { m with down := false } d) := h_ (h.cellG 5 _ rfl ⟨rfl, rfl, rfl, rfl⟩)
 have H2 : Hid (DiskIn N ((w.setCell ⟨g, 5, none⟩ (.bool false)).setCell ⟨g, 4, none⟩ (.int .i64 0)) g { m with down := false, fuse := 0 } d) := h_ (H1.out.cellG 4 _ rfl ⟨rfl, rfl, rfl, rfl⟩)
 have HF2 : Hid (Frm (foot g d) w ((w.setCell ⟨g, 5, none⟩ (.bool false)).setCell ⟨g, 4, none⟩ (.int .i64 0))) := h_ ((Frm.of_cell (.inl rfl)).trans (Frm.of_cell (F := foot g d) (.inl rfl)) (fun i hi => .inl hi))
 obtain ⟨W1, hW1⟩ := eX (w.setCell ⟨g, 5, none⟩ (.bool false))
 rw [hW1] at H1 H2 HF2
 have d4 := H1.out.cells.2.2.2.2.1
 dsimp only at d4
 have g4 := H1.out.froz 4
 obtain ⟨W2, hW2⟩ := eX (W1.setCell ⟨g, 4, none⟩ (.int .i64 0))
 rw [hW2] at H2 HF2
 have A2 : Hid (Aft N g w W2 { m with down := false, fuse := 0 } d d) := h_ ⟨H2.out, HF2.out, fun b hb => .inl hb⟩
 have hto := h.turns
 obtain ⟨At, ct, htv, hct, hct2, _, _⟩ := own_slice hto
 have HAT : Hid (∀ a, At = some a → a.spot = none) := h_ (fun a ha => by
  subst ha
  rcases hto.2 with ⟨e, _⟩ | ⟨g', cap, cur, e, _⟩
  ·rw [htv] at e; cases e
  ·rw [htv] at e
   cases e
   rfl)
 have hB2 : Bnd { m with down := false, fuse := 0 } := ⟨by simp, hB.most, hB.now, hB.sure, hB.turns, hB.files, hB.len, hB.rn, hB.rs, hB.tl, hB.nl, hB.sl⟩
 have HB2 := h_ hB2
 have htl := hB.turns
 obtain ⟨n0, hn0⟩ := eX m.turns.length
 obtain ⟨k, hk⟩ := eX ((min (max turns 0) (m.turns.length : Int)).toNat)
 have HK := h_ hk
 have HKM : Hid (k ≤ m.turns.length ∧ k ≤ 1000000 ∧ k ≤ ct ∧ k ≤ n0) := h_ (by omega)
 have hkz : min (max turns 0) (n0 : Int) = (k : Int) := by rw [← hn0]; omega
 have hmx := fun (w : World) => run_max2c (P := Tryz.prog) w #[3, 3] 3 .i64 .i64 turns 0
 have hmn : ∀ w : World, (Builtin.min_ #[3, 3] 3 #[.int .i64 (max turns 0), .int .i64 (n0 : Int)]).run Tryz.prog w = .ok (.int .i64 (k : Int)) w := fun w => by rw [run_min2c, hkz]
 rw [hn0] at htv
 have HTV := h_ htv
 have e2 : W2.cell? ⟨g, 2, none⟩ = some (.slice At n0 ct) := by rw [← htv]; exact H2.out.cells.2.2.1
 clear c0 c1 c2 c3 c4 h hB hI hl hrk hkf hkl hkc hk hkz hct hct2 htv hto hn0 htl H1 hB2
 go_enter Tryz.func25, Tryz.ntmps25
 go_wp2_with fail
 refine wp_region_sched (fun w' => w'.cell? ⟨g, 2, none⟩ = some (.slice At n0 ct)) [(true, 0), (true, 1), (true, 2), (true, 3), (true, 4), (true, 5), (true, 6), (true, 7), (true, 8), (true, 9), (true, 10), (true, 11), (true, 12), (true, 13), (true, 14)] (by kernel_rfl) (by kernel_rfl) rfl (by kernel_rfl) e2 ?_
 iterate 12 ((first | refine wpS_pass _ rfl (by rfl) ?_ | (refine wpS_take _ ?_ rfl (by rfl) ?_ ?_; rotate_left; (focus (intro w' hS'; (try dsimp only at hS'); (repeat (have hS1 := hS'.1; replace hS' := hS'.2)); go_simp; (try with_reducible rfl); done)))); simp only [LY])
 refine wpS_take _ _ rfl (by rfl) (fun w' hS' => exec_slice_hi _ _ _ rfl At n0 ct k rfl rfl HKM.out.2.2.1 Tryz.underlying78 (sz := 3) (by kernel_rfl) HAT.out) ?_
 simp only [LY]
 iterate 2 ((first | refine wpS_pass _ rfl (by rfl) ?_ | (refine wpS_take _ ?_ rfl (by rfl) ?_ ?_; rotate_left; (focus (intro w' hS'; (try dsimp only at hS'); (repeat (have hS1 := hS'.1; replace hS' := hS'.2)); go_simp; (try with_reducible rfl); done)))); simp only [LY])
 refine wpS_done ?_
 have HD2 : Hid (DiskIn N W2.drew g { m with down := false, fuse := 0 } d) := h_ H2.out.drew
 have A2' : Hid (Aft N g w W2.drew { m with down := false, fuse := 0 } d d) := h_ ⟨H2.out.drew, ⟨HF2.out.os, HF2.out.tape, HF2.out.output, HF2.out.size, HF2.out.block⟩, fun b hb => .inl hb⟩
 clear A2 e2 hmx hmn d4 g4 c5 f5 HF2 H2
 go_upto_block 0 with (fail)
 refine cr_turns N g _ d HB2.out At k ct n0 HTV HKM.out.1 HKM.out.2.1 _ HD2 _ ?_
 intros
 rename_i wx HA
 obtain ⟨sr, hsr⟩ := eX ((m.turns.take k).foldl doN m.sure)
 have HC0 : Hid (crash0 m turns = { m with down := false, fuse := 0, sure := sr, now := sr, turns := [] }) := h_ (by unfold crash0; rw [HK.out, hsr])
 have HA3 : Hid (Aft N g w wx { m with down := false, fuse := 0, sure := sr } d d) := h_ (by have := A2'.out.trans HA.out; rw [← hsr]; exact this)
 have hc1 := HA3.out.disk.cells.2.1
 have hsn : sr.length < 1000000 := by have := HB4.out.now; rw [HC0.out] at this; exact this
 have HCL := h_ (AnyW.maps_Clone_owns Tryz.clone52 9 ptrR d.sb sr.length (namesD d.bs sr) wx HA3.out.disk.sure)
 clear HA hsr
 go_wp2_with fail
 refine HCL.out.mono ?_
 rintro e w3 ⟨rfl, ho1, ho2, hb3⟩
 obtain ⟨mb', hmb⟩ := eX wx.heap.size
 have D3 := h_ (HA3.out.disk.below hb3)
 have A3 := h_ (HA3.out.then hb3)
 rw [hmb] at ho1
 have HO1 := h_ ho1
 have HMB : Hid (wx.heap.size = mb' ∧ N ≤ mb' ∧ mb' ≠ d.sb ∧ w.heap.size ≤ mb') := h_ ⟨hmb, by have := HA3.out.disk.size; omega, by have := HA3.out.disk.foot_lt (b := d.sb) (.inr (.inr (.inl rfl))); omega, by have := HA3.out.frm.size; omega⟩
 have c1' : w3.cell? ⟨g, 0, none⟩ = some (.map (some d.mb)) := D3.out.cells.1
 have f1 := D3.out.froz 0
 obtain ⟨W4, hW4⟩ := eX (w3.setCell ⟨g, 0, none⟩ (.map (some mb')))
 have hr4 := set_row (j := 0) (.map (some mb')) D3.out.row
 rw [hW4] at hr4
 have c2' : W4.cell? ⟨g, 2, none⟩ = some d.tv := row_cell hr4 2
 have f2 := row_froz (j := 2) hr4
 have D5 := D3.out.crash HMB.out.2.1 HMB.out.2.2.1 HO1.out
 have hF : Frm (foot g d) w3 (W4.setCell ⟨g, 2, none⟩ (.slice none 0 0)) := by
  rw [← hW4]
  exact (Frm.of_cell (.inl rfl)).trans (Frm.of_cell (F := foot g d) (.inl rfl)) (fun i hi => .inl hi)
 rw [hW4] at D5
 have A5 : Hid (Aft N g w (W4.setCell ⟨g, 2, none⟩ (.slice none 0 0)) (crash0 m turns) d { d with mb := mb', tv := .slice none 0 0 }) := h_ (by
  rw [HC0.out]
  refine ⟨D5, A3.out.frm.trans hF (fun i hi => .inl hi), fun b hb => ?_⟩
  rcases hb with h1 | h1 | h1 | h1 | h1
  ·exact .inl (.inl h1)
  ·right
   have h2 : b = mb' := h1
   have := HMB.out.2.2.2
   omega
  ·exact .inl (.inr (.inr (.inl h1)))
  ·cases h1
  ·exact .inl (.inr (.inr (.inr (.inr h1)))))
 rw [hmb]
 clear ho1 ho2 hb3 hmb hc1 hr4 D5 hF HO1
 obtain ⟨m4, hm4⟩ := eX (crash0 m turns)
 have HM4 := h_ hm4
 rw [hm4] at HB4 HI4 A5 HC0
 have hnn : m4.now.length < 1000000 := HB4.out.now
 obtain ⟨d4, hd4⟩ := eX (({ d with mb := mb', tv := .slice none 0 0 } : DA))
 rw [hd4] at A5
 have HNA := h_ (names_any N g m4 d4 _ A5.out.disk HB4.out)
 obtain ⟨W5, hW5⟩ := eX (W4.setCell ⟨g, 2, none⟩ (.slice none 0 0))
 rw [hW5] at A5 HNA
 clear hm4 hd4
 go_wp2_with fail
 refine HNA.out.mono ?_
 rintro e w6 ⟨v, rfl, ho6, hb6⟩
 obtain ⟨nn, hnn'⟩ := eX m4.now.length
 rw [hnn'] at ho6 hnn
 obtain ⟨An, cn, rfl, _, _, hAn, _⟩ := own_slice ho6
 have A6 := h_ (A5.out.then hb6)
 have HRN := h_ (own_rd ho6)
 have HNN := h_ hnn'
 have HNF : Hid (∀ a, An = some a → ¬ foot g d4 a.block) := h_ (fun a ha hf => by
  have h1 := (hAn a ha).1
  have h2 := A5.out.disk.foot_lt hf
  omega)
 have HRK6 : Hid (Rd w6 Ak (keep.map (Value.int .i64))) := h_ (by
  by_cases hk0 : keep = []
  ·rw [hk0]; exact Rd.nil
  ·exact HRK.out.keep (fun ad e hlt => A6.out.frm.block _ hlt (HKF.out hk0 ad e).2))
 have HKF6 : Hid (keep ≠ [] → ∀ a, Ak = some a → ¬ foot g d4 a.block) := h_ (fun hk0 a ha hf => by
  rcases A6.out.ext _ hf with h1 | h1
  ·exact (HKF.out hk0 a ha).2 h1
  ·have := (HKF.out hk0 a ha).1
   omega)
 have HD6 := h_ A6.out.disk
 clear ho6 hb6 hAn hnn'
 go_upto_block 2 with (fail)
 refine cr_cut N g m4 d4 HB4 HI4 An nn cn HNN (by omega) Ak keep kl kc HKL HKC hkm _ HD6 HRN HNF HRK6 HKF6 _ ?_
 intros
 rename_i wz d7 HZ
 have HFIN : Hid (Aft N g w wz (crashM m turns keep) d d7) := h_ (by
  rw [crashM_eq, HM4.out]
  exact A6.out.trans HZ.out)
 go_wp2_with fail
 go_end0
 exact ⟨rfl, d7, HFIN.out⟩
structure Fit (K L : Nat) (m : DM) : Prop where
 fuse : m.fuse ≤ 9223372036854775807
 most : m.most ≤ 9223372036854775807
 now : m.now.length ≤ K
 st : m.sure.length + m.turns.length ≤ K
 files : m.files.length ≤ K
 len : ∀ f ∈ m.files, f.b.length ≤ L ∧ f.safe ≤ f.b.length
 rn : risesN m.now
 rs : risesN m.sure
 tl : ∀ t ∈ m.turns, t.fr.length ≤ 100 ∧ t.to_.length ≤ 100
 nl : ∀ p ∈ m.now, p.1.length ≤ 100
 sl : ∀ p ∈ m.sure, p.1.length ≤ 100
 ids : IdsOk m
section
variable {K L : Nat} {m : DM}
theorem Fit.bnd (h : Fit K L m) (hK : K < 1000000) (hL : L ≤ 1099511627776) : Bnd m := by
 have h1 := h.now
 have h2 := h.st
 have h3 := h.files
 exact ⟨h.fuse, h.most, by omega, by omega, by omega, by omega, fun f hf => ⟨Nat.le_trans (h.len f hf).1 hL, (h.len f hf).2⟩, h.rn, h.rs, h.tl, h.nl, h.sl⟩
theorem Fit.mono {K' L' : Nat} (h : Fit K L m) (hK : K ≤ K') (hL : L ≤ L') : Fit K' L' m :=
 ⟨h.fuse, h.most, Nat.le_trans h.now hK, Nat.le_trans h.st hK, Nat.le_trans h.files hK, fun f hf => ⟨Nat.le_trans (h.len f hf).1 hL, (h.len f hf).2⟩, h.rn, h.rs, h.tl, h.nl, h.sl, h.ids⟩
theorem fit_new (n : Int) (hn : n ≤ 9223372036854775807) : Fit 0 0 (newM n) := by
 refine ⟨by simp [newM], by dsimp only [newM]; omega, by simp [newM], by simp [newM], by simp [newM], by simp [newM], .nil, .nil, by simp [newM], by simp [newM], by simp [newM], ⟨by simp [newM], by simp [newM], by simp [newM]⟩⟩
theorem Fit.step (h : Fit K L m) : Fit K L (stepM m).1 := by
 obtain ⟨e1, e2, e3, e4, e5⟩ := step_same m
 have hf : (stepM m).1.fuse ≤ m.fuse := by
  unfold stepM
  split
  ·split
   ·exact Nat.zero_le _
   ·exact Nat.sub_le _ _
  ·exact Nat.le_refl _
 exact ⟨Nat.le_trans hf h.fuse, by rw [e5]; exact h.most, by rw [e1]; exact h.now, by rw [e2, e3]; exact h.st, by rw [e4]; exact h.files, by rw [e4]; exact h.len, by rw [e1]; exact h.rn, by rw [e2]; exact h.rs, by rw [e3]; exact h.tl, by rw [e1]; exact h.nl, by rw [e2]; exact h.sl, ⟨by rw [e1, e4]; exact h.ids.now, by rw [e2, e4]; exact h.ids.sure, by rw [e3, e4]; exact h.ids.turns⟩⟩
theorem Fit.turn (h : Fit K L m) (t : TM) (h1 : t.fr.length ≤ 100) (h2 : t.to_.length ≤ 100) (h3 : t.to_ = [] ∨ t.f < m.files.length) : Fit (K + 1) L (turnM m t).1 := by
 have hs := h.step
 have e4 := (step_same m).2.2.2.1
 unfold turnM
 dsimp only
 split
 ·have hn := doN_len (stepM m).1.now t
  refine ⟨hs.fuse, hs.most, ?_, ?_, Nat.le_succ_of_le hs.files, hs.len, risesN_do hs.rn t, hs.rs, ?_, ?_, hs.sl, ⟨?_, hs.ids.sure, ?_⟩⟩
  ·have := hs.now
   dsimp only
   omega
  ·have := hs.st
   simp only [List.length_append, List.length_cons, List.length_nil]
   omega
  ·intro u hu
   rcases List.mem_append.1 hu with h' | h'
   ·exact hs.tl u h'
   ·simp at h'
    subst h'
    exact ⟨h1, h2⟩
  ·intro p hp
   rcases doN_mem hp with h' | ⟨rfl, _⟩
   ·exact hs.nl p h'
   ·exact h2
  ·intro p hp
   rcases doN_mem hp with h' | ⟨rfl, h'⟩
   ·exact hs.ids.now p h'
   ·rcases h3 with h3 | h3
    ·exact absurd h3 h'
    ·dsimp only
     rw [e4]
     exact h3
  ·intro u hu
   rcases List.mem_append.1 hu with h' | h'
   ·exact hs.ids.turns u h'
   ·simp at h'
    subst h'
    dsimp only
    rw [e4]
    exact h3
 ·exact hs.mono (by omega) (Nat.le_refl _)
theorem namedB_len {s : List UInt8} (h : namedB s = true) : s.length ≤ 100 := by
 unfold namedB at h
 simp at h
 exact h.2
theorem Fit.create (h : Fit K L m) (s : List UInt8) : Fit (K + 1) L (createM m s).1 := by
 have hm := h.mono (Nat.le_succ K) (Nat.le_refl L)
 unfold createM
 split
 ·exact hm
 split
 ·exact hm
 rename_i hn
 split
 ·exact hm
 split
 ·exact hm
 split
 ·have h0 : Fit K L m := h
  have e4 := (step_same { m with files := m.files ++ [⟨[], 0⟩] })
  have hs := h.step
  unfold turnM
  dsimp only
  obtain ⟨q1, q2, q3, q4, q5⟩ := e4
  have hfz : (stepM { m with files := m.files ++ [⟨[], 0⟩] }).1.fuse ≤ m.fuse := by
   unfold stepM
   dsimp only
   split
   ·split
    ·exact Nat.zero_le _
    ·exact Nat.sub_le _ _
   ·exact Nat.le_refl _
  have hlen : ∀ f ∈ m.files ++ [(⟨[], 0⟩ : FM)], f.b.length ≤ L ∧ f.safe ≤ f.b.length := fun f hf => by
   rcases List.mem_append.1 hf with h' | h'
   ·exact h.len f h'
   ·simp at h'
    subst h'
    exact ⟨Nat.zero_le _, Nat.le_refl _⟩
  have hfl : (m.files ++ [(⟨[], 0⟩ : FM)]).length = m.files.length + 1 := by simp
  have hnl : s.length ≤ 100 := namedB_len (by simpa using hn)
  split
  ·have hn := doN_len (stepM { m with files := m.files ++ [⟨[], 0⟩] }).1.now ⟨[], s, m.files.length⟩
   refine ⟨Nat.le_trans hfz h.fuse, by dsimp only; rw [q5]; exact h.most, ?_, ?_, by dsimp only; rw [q4]; dsimp only; rw [hfl]; have := h.files; omega, by dsimp only; rw [q4]; exact hlen, ?_, by dsimp only; rw [q2]; exact h.rs, ?_, ?_, by dsimp only; rw [q2]; exact h.sl, ⟨?_, ?_, ?_⟩⟩
   ·dsimp only
    rw [q1] at hn ⊢
    have := h.now
    dsimp only at hn ⊢
    omega
   ·dsimp only
    rw [q2, q3]
    have := h.st
    simp only [List.length_append, List.length_cons, List.length_nil]
    omega
   ·dsimp only
    rw [q1]
    exact risesN_do h.rn _
   ·dsimp only
    rw [q3]
    intro u hu
    rcases List.mem_append.1 hu with h' | h'
    ·exact h.tl u h'
    ·simp at h'
     subst h'
     exact ⟨Nat.zero_le _, hnl⟩
   ·dsimp only
    rw [q1]
    intro p hp
    rcases doN_mem hp with h' | ⟨rfl, _⟩
    ·exact h.nl p h'
    ·exact hnl
   ·dsimp only
    rw [q1, q4]
    dsimp only
    rw [hfl]
    intro p hp
    rcases doN_mem hp with h' | ⟨rfl, _⟩
    ·have := h.ids.now p h'
     omega
    ·exact Nat.lt_succ_self _
   ·dsimp only
    rw [q2, q4]
    dsimp only
    rw [hfl]
    intro p hp
    have := h.ids.sure p hp
    omega
   ·dsimp only
    rw [q3, q4]
    dsimp only
    rw [hfl]
    intro u hu
    rcases List.mem_append.1 hu with h' | h'
    ·rcases h.ids.turns u h' with h2 | h2
     ·exact .inl h2
     ·exact .inr (by omega)
    ·simp at h'
     subst h'
     exact .inr (Nat.lt_succ_self _)
  ·refine ⟨Nat.le_trans hfz h.fuse, by rw [q5]; exact h.most, ?_, ?_, by rw [q4]; dsimp only; rw [hfl]; have := h.files; omega, by rw [q4]; exact hlen, by rw [q1]; exact h.rn, by rw [q2]; exact h.rs, by rw [q3]; exact h.tl, by rw [q1]; exact h.nl, by rw [q2]; exact h.sl, ⟨?_, ?_, ?_⟩⟩
   ·rw [q1]; have := h.now; dsimp only; omega
   ·rw [q2, q3]; have := h.st; dsimp only; omega
   ·rw [q1, q4]; dsimp only; rw [hfl]; intro p hp; have := h.ids.now p hp; omega
   ·rw [q2, q4]; dsimp only; rw [hfl]; intro p hp; have := h.ids.sure p hp; omega
   ·rw [q3, q4]; dsimp only; rw [hfl]; intro u hu
    rcases h.ids.turns u hu with h2 | h2
    ·exact .inl h2
    ·exact .inr (by omega)
 ·exact h.step.mono (Nat.le_succ K) (Nat.le_refl L)
theorem Fit.setF (h : Fit K L m) (f : Nat) (x : FM) (h1 : x.b.length ≤ L ∧ x.safe ≤ x.b.length) : Fit K L (setF m f x) :=
 ⟨h.fuse, h.most, h.now, h.st, by simpa [Go.Proofs.YtelbofikcpchiaaGreat.setF] using h.files, fun y hy => by
   dsimp only [Go.Proofs.YtelbofikcpchiaaGreat.setF] at hy
   rcases List.mem_or_eq_of_mem_set hy with h' | h'
   ·exact h.len y h'
   ·rw [h']; exact h1, h.rn, h.rs, h.tl, h.nl, h.sl, ⟨by simpa [Go.Proofs.YtelbofikcpchiaaGreat.setF] using h.ids.now, by simpa [Go.Proofs.YtelbofikcpchiaaGreat.setF] using h.ids.sure, by simpa [Go.Proofs.YtelbofikcpchiaaGreat.setF] using h.ids.turns⟩⟩
theorem Fit.fileM (h : Fit K L m) (f : Nat) : (fileM m f).b.length ≤ L ∧ (fileM m f).safe ≤ (fileM m f).b.length := by
 unfold Go.Proofs.YtelbofikcpchiaaGreat.fileM
 rw [List.getD]
 cases hf : m.files[f]? with
 | none => exact ⟨Nat.zero_le _, Nat.le_refl _⟩
 | some x => exact h.len x (List.mem_of_getElem? hf)
theorem Fit.append (h : Fit K L m) (s b : List UInt8) : Fit K (L + b.length) (appendM m s b).1 := by
 have hm : Fit K (L + b.length) m := h.mono (Nat.le_refl _) (by omega)
 unfold appendM
 split
 ·exact hm
 ·rename_i f _ _
  split
  ·exact hm
  ·split
   ·refine hm.step.setF f _ ?_
    have := h.fileM f
    dsimp only
    rw [List.length_append]
    omega
   ·exact hm.step
theorem Fit.sync (h : Fit K L m) (s : List UInt8) : Fit K L (syncM m s).1 := by
 unfold syncM
 split
 ·exact h
 ·rename_i f _ _
  split
  ·refine h.step.setF f _ ?_
   have := h.fileM f
   exact ⟨this.1, Nat.le_refl _⟩
  ·exact h.step
theorem Fit.flush (h : Fit K L m) : Fit K L (flushM m).1 := by
 unfold flushM
 split
 ·exact h
 ·split
  ·have hs := h.step
   have e1 := (step_same m).1
   rw [← e1]
   exact ⟨hs.fuse, hs.most, hs.now, by have := hs.now; simpa using this, hs.files, hs.len, hs.rn, hs.rn, by simp, hs.nl, hs.nl, ⟨hs.ids.now, hs.ids.now, by simp⟩⟩
  ·exact h.step
theorem Fit.rename (h : Fit K L m) (s t : List UInt8) : Fit (K + 1) L (renameM m s t).1 := by
 have hm := h.mono (Nat.le_succ K) (Nat.le_refl L)
 unfold renameM
 split
 ·exact hm
 ·rename_i hb
  rcases find_cases m s with ⟨f, hf, hd, hfn⟩ | ⟨e, hf, _⟩
  ·rw [hf]
   have hmem := find_mem hfn
   exact h.turn _ (h.nl _ hmem) (namedB_len (by
    cases hn : namedB t with
    | true => rfl
    | false => exact absurd ⟨hd, hn⟩ hb)) (.inr (h.ids.now _ hmem))
  ·rw [hf]
   exact hm
theorem Fit.fail (h : Fit K L m) (n : Int) (hn : n ≤ 9223372036854775807) : Fit K L (failM m n) :=
 ⟨by dsimp only [failM]; omega, h.most, h.now, h.st, h.files, h.len, h.rn, h.rs, h.tl, h.nl, h.sl, ⟨h.ids.now, h.ids.sure, h.ids.turns⟩⟩
theorem Fit.crash0 (h : Fit K L m) (turns : Int) : Fit K L (crash0 m turns) := by
 have hI := crash0_ids h.ids turns
 have h1 := foldN_len (m.turns.take (min (max turns 0) m.turns.length).toNat) m.sure
 rw [List.length_take] at h1
 have h2 : ∀ p ∈ (m.turns.take (min (max turns 0) m.turns.length).toNat).foldl doN m.sure, p.1.length ≤ 100 := fun p hp => by
  rcases foldN_mem _ hp with h' | ⟨t, ht, rfl, _⟩
  ·exact h.sl p h'
  ·exact (h.tl t (List.mem_of_mem_take ht)).2
 have h3 := foldN_rises (m.turns.take (min (max turns 0) m.turns.length).toNat) h.rs
 have h4 := h.st
 exact ⟨by simp [Go.Proofs.YtelbofikcpchiaaGreat.crash0], h.most, by dsimp only [Go.Proofs.YtelbofikcpchiaaGreat.crash0]; omega, by simp only [Go.Proofs.YtelbofikcpchiaaGreat.crash0, List.length_nil]; omega, h.files, h.len, h3, h3, by simp [Go.Proofs.YtelbofikcpchiaaGreat.crash0], h2, h2, hI⟩
theorem Fit.cut : ∀ (ns : NM) (keep : List Int) {m : DM}, Fit K L m → Fit K L (cutM ns keep m)
 | [], _, m, h => h
 | p :: ns, keep, m, h => by
   rw [cutM.eq_def]
   dsimp only
   split
   ·exact Fit.cut ns keep h
   ·refine Fit.cut ns keep.tail (h.setF p.2 _ ?_)
    have hx := h.fileM p.2
    rename_i hlo
    cases keep with
    | nil =>
      dsimp only
      rw [List.length_take]
      omega
    | cons z r =>
      dsimp only
      rw [List.length_take]
      omega
theorem Fit.crash (h : Fit K L m) (turns : Int) (keep : List Int) : Fit K L (crashM m turns keep) := by
 rw [crashM_eq]
 exact Fit.cut _ _ (h.crash0 turns)
end
def sts (xs : List ByteArray) : List Value := xs.map Value.string
theorem sts_get (xs : List ByteArray) (k : Nat) (h : k < xs.length) : (sts xs)[k]? = some (.string xs[k]) := by simp [sts, h]
set_option maxRecDepth 100000 in
set_option maxHeartbeats 2000000 in
theorem texts_any (A B : Option Addr) (xs ys : List ByteArray) (c c' : Nat) (w : World) (ha : Rd w A (sts xs)) (hb : Rd w B (sts ys)) (hma : xs.length ≤ 9223372036854775807) (hmb : ys.length ≤ 9223372036854775807) :
  Calls Tryz.prog 58 #[.slice A xs.length c, .slice B ys.length c'] w fun e w' => e = .returned (.bool (decide (xs = ys))) ∧ Below w.heap.size w w' := by
 have HA := h_ ha
 have HB := h_ hb
 obtain ⟨n, hn⟩ := eX xs.length
 obtain ⟨m, hm⟩ := eX ys.length
 have HN := h_ hn
 have HM := h_ hm
 rw [hn] at hma
 rw [hm] at hmb
 rw [hn, hm]
 obtain ⟨q, hq⟩ := eX (decide (xs = ys))
 have HQ := h_ hq
 rw [hq]
 clear ha hb hn hm hq
 by_cases hl : n = m
 ·have HNM := h_ hl
  subst hl
  have z0 : ((n : Int) != (n : Int)) = false := by simp
  go_enter Tryz.func58, Tryz.ntmps58
  go_wp2_with fail
  go_loopg [5] (n * 1) (fun gk_ i wr => ∃ (k : Nat), k ≤ n ∧ gk_ = n - k ∧ i = .int .i64 (k : Int) ∧ Hid (xs.take k = ys.take k) ∧ Hid (Below w.heap.size w wr))
  case atStart => exact ⟨0, by omega, by omega, rfl, h_ rfl, h_ (Below.refl _ _)⟩
  case round =>
  obtain ⟨k, hk, rfl, rfl, HE, HBW⟩ := hrel
  by_cases hlt : k < n
  ·have i1 : (k : Int) < (n : Int) := by omega
   have k1 : k < xs.length := by rw [HN.out]; exact hlt
   have k2 : k < ys.length := by rw [HM.out]; exact hlt
   obtain ⟨b, o, hA1, hA2⟩ := (HA.out.below HBW.out) k _ (sts_get xs k k1)
   obtain ⟨b', o', hB1, hB2⟩ := (HB.out.below HBW.out) k _ (sts_get ys k k2)
   have hiff := take_eq_succ k1 k2 HE.out
   obtain ⟨x, hx⟩ := eX (xs[k])
   obtain ⟨y, hy⟩ := eX (ys[k])
   rw [hx] at hA2
   rw [hy] at hB2
   rw [hx, hy] at hiff
   have HIFF := h_ hiff
   have HXA := h_ hA1
   have HXB := h_ hB1
   rw [hA1, hB1]
   clear hA1 hB1 hiff hx hy k1 k2
   by_cases hxy : x = y
   ·have hne : ∀ w, (binOp .neq 9 (.string x) (.string y)).run Tryz.prog w = .ok (.bool false) w := fun w => by rw [bin_strne Tryz.underlying9, decide_eq_true hxy]; rfl
    have HT := h_ (HIFF.out.2 hxy)
    clear hxy
    go_wp2_with fail
    refine wp_region_sched (fun w' => w'.cell? ⟨b, o + k, none⟩ = some (.string x) ∧ w'.cell? ⟨b', o' + k, none⟩ = some (.string y)) [(true, 0), (true, 1), (true, 2), (true, 3), (true, 4), (true, 5), (true, 6), (true, 7), (true, 8)] (by kernel_rfl) (by kernel_rfl) rfl (by kernel_rfl) ⟨hA2, hB2⟩ ?_
    iterate 8 ((first | refine wpS_pass _ rfl (by rfl) ?_ | (refine wpS_take _ ?_ rfl (by rfl) ?_ ?_; rotate_left; (focus (intro w' hS'; (try dsimp only at hS'); (repeat (have hS1 := hS'.1; replace hS' := hS'.2)); go_simp; (try with_reducible rfl); done)))); simp only [LY])
    refine wpS_take _ _ rfl (by rfl) (fun w' hS' => exec_bin _ _ _ _ _ rfl _ _ _ rfl rfl rfl (hne w')) ?_
    simp only [LY]
    refine wpS_done ?_
    clear hA2 hB2
    go_wp2_with fail
    rw [← HXA.out, ← HXB.out]
    go_roundg (n - (k + 1))
    case measure => omega
    case rel => exact ⟨k + 1, by omega, rfl, by first | rfl | exact congrArg (Value.int .i64) (by omega) | go_num, HT, h_ HBW.out.drew⟩
   ·have hne : ∀ w, (binOp .neq 9 (.string x) (.string y)).run Tryz.prog w = .ok (.bool true) w := fun w => by rw [bin_strne Tryz.underlying9, decide_eq_false hxy]; rfl
    have HT : Hid (q = false) := h_ (by
     rw [← HQ.out, decide_eq_false_iff_not]
     intro e
     exact hxy (HIFF.out.1 (by rw [e])))
    clear hxy
    go_wp2_with fail
    refine wp_region_sched (fun w' => w'.cell? ⟨b, o + k, none⟩ = some (.string x) ∧ w'.cell? ⟨b', o' + k, none⟩ = some (.string y)) [(true, 0), (true, 1), (true, 2), (true, 3), (true, 4), (true, 5), (true, 6), (true, 7), (true, 8)] (by kernel_rfl) (by kernel_rfl) rfl (by kernel_rfl) ⟨hA2, hB2⟩ ?_
    iterate 8 ((first | refine wpS_pass _ rfl (by rfl) ?_ | (refine wpS_take _ ?_ rfl (by rfl) ?_ ?_; rotate_left; (focus (intro w' hS'; (try dsimp only at hS'); (repeat (have hS1 := hS'.1; replace hS' := hS'.2)); go_simp; (try with_reducible rfl); done)))); simp only [LY])
    refine wpS_take _ _ rfl (by rfl) (fun w' hS' => exec_bin _ _ _ _ _ rfl _ _ _ rfl rfl rfl (hne w')) ?_
    simp only [LY]
    refine wpS_done ?_
    go_wp2_with fail
    go_ret
    exact ⟨by rw [HT.out]; rfl, HBW.out.drew⟩
  ·obtain rfl : k = n := by omega
   have HT : Hid (q = true) := h_ (by
    have h := HE.out
    have h1 := HN.out
    have h2 := HM.out
    have e1 : xs.take k = xs := by rw [← h1, List.take_length]
    have e2 : ys.take k = ys := by rw [← h2, List.take_length]
    rw [e1, e2] at h
    rw [← HQ.out, decide_eq_true h])
   go_wp2_with fail
   go_ret
   exact ⟨by rw [HT.out]; rfl, HBW.out⟩
 ·have z0 : ((n : Int) != (m : Int)) = true := by rw [bne_iff_ne]; omega
  have HT : Hid (q = false) := h_ (by
   rw [← HQ.out, decide_eq_false_iff_not]
   intro e
   apply hl
   rw [← HN.out, ← HM.out, e])
  clear hl
  go_enter Tryz.func58, Tryz.ntmps58
  go_wp2_with fail
  go_ret
  exact ⟨by rw [HT.out]; rfl, Below.refl _ _⟩
section
variable {N g K L : Nat} {w : World} {m m' : DM} {d : DA} {e' : Int}
theorem create_st {S : ByteArray} (h : DiskIn N w g m d) (hf : Fit K L m) (hK : K < 999999) (hL : L ≤ 1099511627776) (hS : S.size ≤ maxLen) (he : createM m S.data.toList = (m', e')) :
  Calls Tryz.prog 19 #[.pointer (some ⟨g, 0, none⟩), .string S] w fun e w' => e = .returned (.int .i64 e') ∧ ∃ d', Aft N g w w' m' d d' ∧ Fit (K + 1) L m' := by
 have hc := create_any N g m d S hS w h (hf.bnd (by omega) hL) hf.ids
 have hf' := hf.create S.data.toList
 rw [he] at hc hf'
 exact hc.mono fun e w' ⟨h1, d', h2⟩ => ⟨h1, d', h2, hf'⟩
theorem sync_st {S : ByteArray} (h : DiskIn N w g m d) (hf : Fit K L m) (hK : K < 999999) (hL : L ≤ 1099511627776) (hS : S.size ≤ maxLen) (he : syncM m S.data.toList = (m', e')) :
  Calls Tryz.prog 21 #[.pointer (some ⟨g, 0, none⟩), .string S] w fun e w' => e = .returned (.int .i64 e') ∧ ∃ d', Aft N g w w' m' d d' ∧ Fit K L m' := by
 have hc := sync_any N g m d S hS w h (hf.bnd (by omega) hL) hf.ids
 have hf' := hf.sync S.data.toList
 rw [he] at hc hf'
 exact hc.mono fun e w' ⟨h1, d', h2⟩ => ⟨h1, d', h2, hf'⟩
theorem flush_st (h : DiskIn N w g m d) (hf : Fit K L m) (hK : K < 999999) (hL : L ≤ 1099511627776) (he : flushM m = (m', e')) :
  Calls Tryz.prog 22 #[.pointer (some ⟨g, 0, none⟩)] w fun e w' => e = .returned (.int .i64 e') ∧ ∃ d', Aft N g w w' m' d d' ∧ Fit K L m' := by
 have hc := flush_any N g m d w h (hf.bnd (by omega) hL)
 have hf' := hf.flush
 rw [he] at hc hf'
 exact hc.mono fun e w' ⟨h1, d', h2⟩ => ⟨h1, d', h2, hf'⟩
theorem rename_st {S T : ByteArray} (h : DiskIn N w g m d) (hf : Fit K L m) (hK : K < 999999) (hL : L ≤ 1099511627776) (hS : S.size ≤ maxLen) (hT : T.size ≤ maxLen) (he : renameM m S.data.toList T.data.toList = (m', e')) :
  Calls Tryz.prog 74 #[.pointer (some ⟨g, 0, none⟩), .string S, .string T] w fun e w' => e = .returned (.int .i64 e') ∧ ∃ d', Aft N g w w' m' d d' ∧ Fit (K + 1) L m' := by
 have hc := rename_any N g m d S T hS hT w h (hf.bnd (by omega) hL)
 have hf' := hf.rename S.data.toList T.data.toList
 rw [he] at hc hf'
 exact hc.mono fun e w' ⟨h1, d', h2⟩ => ⟨h1, d', h2, hf'⟩
theorem append_st {S : ByteArray} {A : Option Addr} {bs : List UInt8} {n c : Nat} (h : DiskIn N w g m d) (hf : Fit K L m) (hK : K < 999999) (hL : L ≤ 1099511627776) (hS : S.size ≤ maxLen) (hn : n = bs.length) (hr : Rd w A (b8s bs)) (hA : bs ≠ [] → ∀ a, A = some a → ¬ foot g d a.block) (hl : bs.length ≤ 1099511627776) (he : appendM m S.data.toList bs = (m', e')) :
  Calls Tryz.prog 20 #[.pointer (some ⟨g, 0, none⟩), .string S, .slice A n c] w fun e w' => e = .returned (.int .i64 e') ∧ ∃ d', Aft N g w w' m' d d' ∧ Fit K (L + bs.length) m' := by
 have hc := append_any N g m d S hS A bs c w h (hf.bnd (by omega) hL) hf.ids hr hA hl
 have hf' := hf.append S.data.toList bs
 rw [he] at hc hf'
 rw [← hn] at hc
 exact hc.mono fun e w' ⟨h1, d', h2⟩ => ⟨h1, d', h2, hf'⟩
theorem crash_st {turns : Int} {Ak : Option Addr} {keep : List Int} {kl kc : Nat} (h : DiskIn N w g m d) (hf : Fit K L m) (hK : K < 999999) (hL : L ≤ 1099511627776) (hkl : keep.length = kl) (hkc : kl ≤ kc) (hkm : kl ≤ 9223372036854775807) (hrk : Rd w Ak (keep.map (Value.int .i64))) (hkf : keep ≠ [] → ∀ a, Ak = some a → a.block < w.heap.size ∧ ¬ foot g d a.block) (he : crashM m turns keep = m') :
  Calls Tryz.prog 25 #[.pointer (some ⟨g, 0, none⟩), .int .i64 turns, .slice Ak kl kc] w fun e w' => e = .returned (.tuple #[]) ∧ ∃ d', Aft N g w w' m' d d' ∧ Fit K L m' := by
 have hc := crash_any N g m d turns Ak keep kl kc hkl hkc hkm w h (hf.bnd (by omega) hL) hf.ids (by have := hf.st; omega) hrk hkf
 have hf' := hf.crash turns keep
 rw [he] at hc hf'
 exact hc.mono fun e w' ⟨h1, d', h2⟩ => ⟨h1, d', h2, hf'⟩
theorem read_st {S : ByteArray} {bs : List UInt8} (h : DiskIn N w g m d) (hf : Fit K L m) (hK : K < 999999) (hL : L ≤ 1099511627776) (hS : S.size ≤ maxLen) (he : readM m S.data.toList = (bs, e')) :
  Calls Tryz.prog 28 #[.pointer (some ⟨g, 0, none⟩), .string S] w fun e w' => ∃ v, e = .returned (.tuple #[v, .int .i64 e']) ∧ Own8 w.heap.size w w' v bs := by
 have hc := dread_any N g m d S hS w h (hf.bnd (by omega) hL) hf.ids
 rw [he] at hc
 exact hc
theorem names_st {ns : NM} (h : DiskIn N w g m d) (hf : Fit K L m) (hK : K < 999999) (hL : L ≤ 1099511627776) (he : m.now = ns) :
  Calls Tryz.prog 63 #[.pointer (some ⟨g, 0, none⟩)] w fun e w' => ∃ v, e = .returned v ∧ w'.ownsRow w.heap.size 9 1 v ns.length (namesC ns) ∧ Below w.heap.size w w' := by
 have hc := names_any N g m d w h (hf.bnd (by omega) hL)
 rw [he] at hc
 exact hc
end
end Go.Proofs.YtelbofikcpchiaaGreat
