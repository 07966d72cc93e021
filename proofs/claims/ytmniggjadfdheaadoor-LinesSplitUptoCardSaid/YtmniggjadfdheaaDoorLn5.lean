
/- Diff. (Printed by wip/genLn5.py.) -/

import Derived.Test.YtmniggjadfdheaaDoorLn4

namespace Go.Proofs.YtmniggjadfdheaaDoor

set_option linter.unusedVariables false

set_option linter.unusedSimpArgs false

set_option linter.unusedSectionVars false

open Go.RowKit

theorem ed_built (k : Int) (s : ByteArray) : Tryd.prog.built 36 [(0, .int .i64 k), (1, .string s)] = some #[.int .i64 k, .string s] := by kernel_rfl
theorem ln_get (a : List ByteArray) (m : Nat) (h : m < a.length) : ln a (m : Int) = a[m] := by
  unfold ln
  rw [List.getD_eq_getElem?_getD, show ((m : Int)).toNat = m by omega, List.getElem?_eq_getElem h]; rfl
theorem keepsB_len (a : List ByteArray) (f x : Nat) : (keepsB a (f : Int) (x : Int)).length = x - f := by
  have key : ∀ (n : Nat) (x : Int), (keepsN a n x).length = n := by
    intro n
    induction n with
    | zero => intro x; rfl
    | succ n ih => intro x; simp [keepsN, ih]
  unfold keepsB
  rw [key]
  omega
theorem bkE_0 {a b : List ByteArray} {x k f : Int} (h : dnX (fS a b 0) ((0 : Nat) : Int) k = f) : bkE a b 0 x k = keepsB a f x := by
  subst h; rfl
theorem bkE_s {a b : List ByteArray} {d : Nat} {x k f : Int} (h : dnX (fS a b (d + 1)) ((d + 1 : Nat) : Int) k = f) : bkE a b (d + 1) x k = keepsB a f x ++ (if dnB (fS a b (d + 1)) ((d + 1 : Nat) : Int) k then ⟨2, ln b (f - k - 1)⟩ :: bkE a b d f (k + 1) else ⟨1, ln a (f - 1)⟩ :: bkE a b d (f - 1) (k - 1)) := by
  subst h; rfl
theorem ed_count (s : List EdM) : s.length ≤ (srcE s).length + (dstE s).length := by
  induction s with
  | nil => simp
  | cons e s ih =>
    have e0 : e :: s = [e] ++ s := rfl
    rw [e0, srcE_app, dstE_app, List.length_append, List.length_append, List.length_append]
    have : 1 ≤ (srcE [e]).length + (dstE [e]).length := by
      by_cases h : e.kind = 2
      · have : dstE [e] = [e.line] := by simp [dstE, h]
        rw [this]; simp
      · have : srcE [e] = [e.line] := by simp [srcE, h]
        rw [this]; simp
    simp only [List.length_cons, List.length_nil]
    omega
theorem raw_len (a b : List ByteArray) : (bkE a b (levL a b) a.length ((a.length : Int) - b.length)).length ≤ a.length + b.length := by
  have h := rawS_ok a b
  have h2 := ed_count (rawS a b)
  rw [h.1, h.2.1] at h2
  unfold rawS at h2
  rwa [List.length_reverse] at h2

set_option maxRecDepth 100000 in
set_option maxHeartbeats 2000000 in
theorem rev_nil (w : World) : Calls Tryd.prog 29 #[.slice none 0 0] w fun e w' => e = .returned (.tuple #[]) ∧ w = w' := by
  go_enter Tryd.func29, Tryd.ntmps29
  go_wp2_with fail
  refine wp_loop_rounds 1 ?_
  rw [rounds_succ]
  go_wp2
  go_end0
  exact ⟨rfl, rfl⟩
/-- a row of the call's own grows -/
theorem bel_own {w1 X w8 : World} {lo : Nat} {T : TypeId} {sz n : Nat} {v : Value} {xs : List Value} (h : Below w1.heap.size w1 X) (hlo : w1.heap.size = lo) (ho : X.ownsRow lo T sz v n xs) (hg : X.grownBy w8 v.ownBlock) : Below w1.heap.size w1 w8 := by
  cases hv : v.ownBlock with
  | none => rw [hv] at hg; exact h.trans ((grown_none hg).mono h.size)
  | some i => rw [hv] at hg; exact bel_grown h h.size hg (by rw [hlo]; exact (ho.lt i hv).1)
set_option maxRecDepth 100000 in
set_option maxHeartbeats 2000000 in
theorem rev_zero (g c : Nat) (w : World) : Calls Tryd.prog 29 #[.slice (some ⟨g, 0, none⟩) 0 c] w fun e w' => e = .returned (.tuple #[]) ∧ w = w' := by
  go_enter Tryd.func29, Tryd.ntmps29
  go_wp2_with fail
  refine wp_loop_rounds 1 ?_
  rw [rounds_succ]
  go_wp2
  go_end0
  exact ⟨rfl, rfl⟩
/-- Reverse of a row of the call's own -/
theorem rev_own (N0 : Nat) (v : Value) (n : Nat) (s : List EdM) (w : World) (h : w.ownsRow N0 36 2 v n (edc s)) (hn : n = s.length) (hl : s.length ≤ 1000000) :
    Calls Tryd.prog 29 #[v] w fun e w' => e = .returned (.tuple #[]) ∧ w'.ownsRow N0 36 2 v n (edc s.reverse) ∧ w.grownBy w' v.ownBlock := by
  subst hn
  rcases h.2 with ⟨rfl, h0⟩ | ⟨g, cap, cur, rfl, hb, hh, hn, hc, hs, ht⟩
  · have : s = [] := List.eq_nil_of_length_eq_zero h0
    subst this
    refine (rev_nil w).mono ?_
    rintro e w' ⟨rfl, rfl⟩
    exact ⟨rfl, h, World.grownBy.refl _ _⟩
  · rcases Nat.eq_zero_or_pos s.length with h0 | h0
    · have : s = [] := List.eq_nil_of_length_eq_zero h0
      subst this
      refine (rev_zero g cap w).mono ?_
      rintro e w' ⟨rfl, rfl⟩
      exact ⟨rfl, h, World.grownBy.refl _ _⟩
    · have e1 : (edc s ++ cur.toList.drop (s.length * 2)).toArray = cur := by
        rw [← ht, List.take_append_drop]
      have hr : RowE w g s (cur.toList.drop (s.length * 2)) := by unfold RowE; rw [e1]; exact hh
      refine (rev_row g s _ cap w hr hl h0 hn).mono ?_
      rintro e w' ⟨rfl, hr', hg⟩
      refine ⟨rfl, ⟨by rw [edc_len]; simp, .inr ⟨g, cap, _, rfl, hb, hr', hn, hc, ?_, ?_⟩⟩, hg⟩
      · have hcl : cur.toList.length = cap * 2 := by rw [Array.length_toList]; exact hs
        have h3 : s.length * 2 ≤ cap * 2 := Nat.mul_le_mul_right _ hn
        rw [List.size_toArray, List.length_append, edc_len, List.length_reverse, List.length_drop, hcl]
        omega
      · have e2 : (edc s.reverse).length = s.length * 2 := by rw [edc_len, List.length_reverse]
        show ((edc s.reverse ++ _).toArray).toList.take (s.length * 2) = _
        rw [← e2]
        simp

set_option maxRecDepth 100000 in
set_option maxHeartbeats 8000000 in
theorem diff_any (A B : Option Addr) (a b : List ByteArray) (c c' : Nat) (w : World) (ha : Rd w A (sts a)) (hb : Rd w B (sts b)) (hla : a.length ≤ 1000) (hlb : b.length ≤ 1000) :
    Calls Tryd.prog 10 #[.slice A a.length c, .slice B b.length c'] w fun e w' => ∃ A' c', e = .returned (.slice A' (diffS a b).length c') ∧ w'.ownsRow w.heap.size 36 2 (.slice A' (diffS a b).length c') (diffS a b).length (edc (diffS a b)) ∧ Below w.heap.size w w' := by
  have HTR := Lib.hid (trace_any A B a b c c' w ha hb hla hlb)
  have HIV := Lib.hid (inv_start a b)
  have HLE := Lib.hid (levL_le a b)
  have HTL := Lib.hid (raw_len a b)
  have HDS : Hid (diffS a b = tidyP (bkE a b (levL a b) a.length ((a.length : Int) - b.length)).reverse) := Lib.hid rfl
  have HA := Lib.hid ha
  have HB := Lib.hid hb
  obtain ⟨TOT, hT⟩ : ∃ s, bkE a b (levL a b) a.length ((a.length : Int) - b.length) = s := ⟨_, rfl⟩
  obtain ⟨N, hN⟩ : ∃ n, a.length = n := ⟨_, rfl⟩
  obtain ⟨M, hM⟩ : ∃ n, b.length = n := ⟨_, rfl⟩
  obtain ⟨L, hL⟩ : ∃ n, levL a b = n := ⟨_, rfl⟩
  rw [hT] at HTL HDS
  rw [hN, hM] at HTR HTL HLE
  rw [hN, hM, hL] at hT
  rw [hN, hM, hL] at HIV
  rw [hL] at HTR HLE
  have HN := Lib.hid hN
  have HM := Lib.hid hM
  have HT := Lib.hid hT
  rw [hN] at hla
  rw [hM] at hlb
  rw [hN, hM]
  have hLb : L ≤ 2000 := by have := HLE.out; omega
  have hTb : TOT.length ≤ 2000 := by have := HTL.out; omega
  clear ha hb hN hM hL hT
  go_enter Tryd.func10, Tryd.ntmps10
  go_wp2_with fail
  refine HTR.out.mono ?_
  rintro e w1 ⟨A1, c1, bs, rfl, ht1⟩
  have HT1 := Lib.hid ht1
  obtain ⟨gw, cw, hgw, _, _, _, _⟩ := own_head ht1.own (by omega)
  cases hgw
  obtain ⟨lo, hlo⟩ : ∃ n, w1.heap.size = n := ⟨_, rfl⟩
  have HLO := Lib.hid hlo
  clear ht1 HTR hlo
  go_wp2_with fail
  go_loopg [6, 7, 8, 9] ((L + 1) * 1) (fun gk_ sx sy so sd wr => ∃ (d x y : Nat) (Ao : Option Addr) (no co : Nat) (out : List EdM), d ≤ L ∧ x ≤ N ∧ y ≤ M ∧ no ≤ 2000 ∧ gk_ = d + 1 ∧ sx = .int .i64 (x : Int) ∧ sy = .int .i64 (y : Int) ∧ so = .slice Ao no co ∧ sd = .int .i64 (d : Int) ∧
    Hid (no = out.length) ∧ Hid (Inv a b d (x : Int) ((x : Int) - (y : Int))) ∧ Hid (out ++ bkE a b d (x : Int) ((x : Int) - (y : Int)) = TOT) ∧ Hid (wr.ownsRow lo 36 2 (.slice Ao no co) no (edc out)) ∧ Hid (Below w1.heap.size w1 wr))
  case atStart => exact ⟨L, N, M, none, 0, 0, [], by omega, by omega, by omega, by omega, by omega, rfl, rfl, rfl, by first | rfl | exact congrArg (Value.int .i64) (by omega), Lib.hid rfl, HIV, HT, Lib.hid (World.ownsRow_nil _ _ _ _), Lib.hid (Below.refl _ _)⟩
  case round =>
  obtain ⟨d, x, y, Ao, no, co, out, hd, hx, hy, hno, rfl, rfl, rfl, rfl, rfl, HNO, HI, HE, HO, HBW⟩ := hrel
  obtain ⟨wo, rfl⟩ : ∃ wo : World, wo = wr := ⟨_, rfl⟩
  have HTd := Lib.hid (HT1.out.below HBW.out)
  obtain ⟨bm, hbm⟩ : ∃ g, bs[d]'(by rw [HT1.out.len]; omega) = g := ⟨_, rfl⟩
  have MF : Hid (MapF wo bm 100000000 (fS a b d)) := Lib.hid (by rw [← hbm]; exact HTd.out.maps d (by rw [HT1.out.len]; omega))
  have cw0 : wo.cell? ⟨gw, d, none⟩ = some (.map (some bm)) := by
    obtain ⟨b', o', he, hc⟩ := own_rd HTd.out.own d (.map (some bm)) (by rw [List.getElem?_map, List.getElem?_eq_getElem (by rw [HT1.out.len]; omega), hbm]; rfl)
    cases he
    rwa [Nat.zero_add] at hc
  have HFB := Lib.hid (fun j => fS_bound a b d j)
  have HON := Lib.hid HI.out.1
  have HLW := Lib.hid HI.out.lo
  have HNN := Lib.hid (dnX_nonneg (a := a) (b := b) HI.out.1)
  have HX0 := Lib.hid (dnX_bound a b d ((x : Int) - (y : Int)))
  have i1 : (d : Int) < (L : Int) + 1 := by omega
  clear hbm
  go_wp2_with fail
  clear cw0 i1
  refine (down_any bm 100000000 (fS a b d) ((x : Int) - (y : Int)) d wo MF.out (by omega) (by omega) (fun j => by have := HFB.out j; have := HN.out; omega)).mono ?_
  rintro e w5 ⟨rfl, nd, rfl⟩
  have HB5 : Hid (Below w1.heap.size w1 (wo.drewN nd)) := Lib.hid (below_drewN HBW.out nd)
  have HO5 : Hid ((wo.drewN nd).ownsRow lo 36 2 (.slice Ao no co) no (edc out)) := Lib.hid (own_below HO.out (below_drewN (Below.refl _ _) nd))
  generalize wo.drewN nd = w5 at *
  obtain ⟨f, hf⟩ : ∃ f : Nat, dnX (fS a b d) d ((x : Int) - (y : Int)) = (f : Int) := ⟨(dnX (fS a b d) d ((x : Int) - (y : Int))).toNat, by have := HX0.out; omega⟩
  have HF := Lib.hid hf
  rw [hf] at HLW HNN ⊢
  have hfx : f ≤ x := by have := HLW.out.1; omega
  obtain ⟨ad, had⟩ : ∃ ad, dnB (fS a b d) d ((x : Int) - (y : Int)) = ad := ⟨_, rfl⟩
  have HAD := Lib.hid had
  rw [had]
  have HR0 : Hid (∃ R0, (out ++ keepsB a (f : Int) (x : Int)) ++ R0 = TOT) := Lib.hid (by
    have h := HE.out
    cases d with
    | zero =>
      rw [bkE_0 hf] at h
      exact ⟨[], by rw [List.append_nil]; exact h⟩
    | succ d =>
      rw [bkE_s hf, ← List.append_assoc] at h
      exact ⟨_, h⟩)
  clear hf had HX0 HFB MF
  go_wp2_with fail
  go_loopg [6, 7, 8] ((x - f) * 1) (fun gk_ sx sy so wr => ∃ (x' y' : Nat) (Ao' : Option Addr) (no' co' : Nat) (out' : List EdM), x' ≤ x ∧ y' ≤ y ∧ f ≤ x' ∧ no' ≤ 2000 ∧ gk_ = x' - f ∧ sx = .int .i64 (x' : Int) ∧ sy = .int .i64 (y' : Int) ∧ so = .slice Ao' no' co' ∧
    Hid (no' = out'.length) ∧ Hid ((x' : Int) - (y' : Int) = (x : Int) - (y : Int)) ∧ Hid (out' ++ keepsB a (f : Int) (x' : Int) = out ++ keepsB a (f : Int) (x : Int)) ∧ Hid (wr.ownsRow lo 36 2 (.slice Ao' no' co') no' (edc out')) ∧ Hid (Below w1.heap.size w1 wr))
  case atStart => exact ⟨x, y, Ao, no, co, out, by omega, by omega, hfx, hno, by omega, rfl, rfl, rfl, HNO, Lib.hid rfl, Lib.hid rfl, HO5, HB5⟩
  case round =>
  clear HO5 HB5
  obtain ⟨x', y', Ao', no', co', out', hx', hy', hf', hno', rfl, rfl, rfl, rfl, HNO', HK, HE', HO', HBW'⟩ := hrel
  have hno2 : no' + (x' - f) ≤ 2000 := by
    obtain ⟨R0, hR0⟩ := HR0.out
    rw [← HE'.out] at hR0
    have h := congrArg List.length hR0
    simp only [List.length_append, keepsB_len] at h
    have := HNO'.out
    omega
  by_cases hgt : f < x'
  · have HGO := Lib.hid (HLW.out.2 ((x' : Int) - 1) (by omega) (by omega))
    obtain ⟨x1, hx1⟩ : ∃ x1, x' = x1 + 1 := ⟨x' - 1, by omega⟩
    have hyp : 0 < y' := by have h := HGO.out.2.2.1; have := HK.out; omega
    obtain ⟨y1, hy1⟩ : ∃ y1, y' = y1 + 1 := ⟨y' - 1, by omega⟩
    subst hx1 hy1
    have hxN : x1 < N := by omega
    have hyM : y1 < M := by omega
    obtain ⟨bA, oA, hA1, hA2⟩ := (HA.out.below (HT1.out.bel.trans (HBW'.out.mono HT1.out.bel.size))).at_ x1 (by unfold sts; rw [List.length_map, HN.out]; exact hxN)
    obtain ⟨bB, oB, hB1, hB2⟩ := (HB.out.below (HT1.out.bel.trans (HBW'.out.mono HT1.out.bel.size))).at_ y1 (by unfold sts; rw [List.length_map, HM.out]; exact hyM)
    obtain ⟨sa, hsa⟩ : ∃ s, a[x1]'(by rw [HN.out]; exact hxN) = s := ⟨_, rfl⟩
    have HLN : Hid (ln a (((x1 + 1 : Nat) : Int) - 1) = sa) := Lib.hid (by
      rw [show (((x1 + 1 : Nat) : Int) - 1) = (x1 : Int) by omega, ln_get a x1 (by rw [HN.out]; exact hxN), hsa])
    have hsb : b[y1]'(by rw [HM.out]; exact hyM) = sa := by
      have h := HGO.out.ln (by omega)
      have e1 : ((x1 + 1 : Nat) : Int) - 1 - ((x : Int) - (y : Int)) = (y1 : Int) := by have := HK.out; omega
      rw [HLN.out, e1, ln_get b y1 (by rw [HM.out]; exact hyM)] at h
      exact h.symm
    have ea : (sts a)[x1]'(by unfold sts; rw [List.length_map, HN.out]; exact hxN) = .string sa := by rw [← hsa]; simp [sts]
    have eb : (sts b)[y1]'(by unfold sts; rw [List.length_map, HM.out]; exact hyM) = .string sa := by rw [← hsb]; simp [sts]
    rw [ea] at hA2
    rw [eb] at hB2
    have HXA := Lib.hid hA1
    have HXB := Lib.hid hB1
    have hs1 := fun w => bin_sub (P := Tryd.prog) (t := 3) ((x1 : Int) + 1) 1 (x1 : Int) w (by omega) (by omega) (by omega)
    have hs2 := fun w => bin_sub (P := Tryd.prog) (t := 3) ((y1 : Int) + 1) 1 (y1 : Int) w (by omega) (by omega) (by omega)
    have heq := fun w => bin_streq (P := Tryd.prog) Tryd.underlying9 sa sa w
    have z3 : decide (sa = sa) = true := decide_eq_true rfl
    have j1 : (f : Int) < (x1 : Int) + 1 := by omega
    have j2 : (0 : Int) < (x1 : Int) + 1 := by omega
    have j3 : (0 : Int) < (y1 : Int) + 1 := by omega
    have j4 : (x1 : Int) < (N : Int) := by omega
    have j5 : (y1 : Int) < (M : Int) := by omega
    clear hsa hsb ea eb
    rw [hA1, hB1]
    clear hA1 hB1
    go_wp2_with fail
    refine wp_region_sched (fun w' => w'.cell? ⟨bA, oA + x1, none⟩ = some (.string sa) ∧ w'.cell? ⟨bB, oB + y1, none⟩ = some (.string sa)) [(true, 0), (true, 1), (true, 2), (true, 3), (true, 4), (true, 5), (true, 6), (true, 7), (true, 8), (true, 9), (true, 10), (true, 11), (true, 12), (true, 13), (true, 14), (true, 15), (true, 16), (true, 17), (true, 18), (true, 19), (true, 20), (true, 21), (true, 22), (true, 23)] (by kernel_rfl) (by kernel_rfl) rfl (by kernel_rfl) ⟨hA2, hB2⟩ ?_
    (first | (refine wpS_pass _ rfl (by rfl) ?_; simp only [Act.put, List.getElem_toArray, List.getElem_cons_zero, List.getElem_cons_succ, List.setIfInBounds_toArray, List.set_cons_zero, List.set_cons_succ]) | (refine wpS_take _ ?_ rfl (by rfl) ?_ ?_; rotate_left; (focus (intro w' hS'; (try dsimp only at hS'); (repeat (have hS1 := hS'.1; replace hS' := hS'.2)); go_simp; (try with_reducible rfl); done)); simp only [Act.put, List.getElem_toArray, List.getElem_cons_zero, List.getElem_cons_succ, List.setIfInBounds_toArray, List.set_cons_zero, List.set_cons_succ]))
    (first | (refine wpS_pass _ rfl (by rfl) ?_; simp only [Act.put, List.getElem_toArray, List.getElem_cons_zero, List.getElem_cons_succ, List.setIfInBounds_toArray, List.set_cons_zero, List.set_cons_succ]) | (refine wpS_take _ ?_ rfl (by rfl) ?_ ?_; rotate_left; (focus (intro w' hS'; (try dsimp only at hS'); (repeat (have hS1 := hS'.1; replace hS' := hS'.2)); go_simp; (try with_reducible rfl); done)); simp only [Act.put, List.getElem_toArray, List.getElem_cons_zero, List.getElem_cons_succ, List.setIfInBounds_toArray, List.set_cons_zero, List.set_cons_succ]))
    (first | (refine wpS_pass _ rfl (by rfl) ?_; simp only [Act.put, List.getElem_toArray, List.getElem_cons_zero, List.getElem_cons_succ, List.setIfInBounds_toArray, List.set_cons_zero, List.set_cons_succ]) | (refine wpS_take _ ?_ rfl (by rfl) ?_ ?_; rotate_left; (focus (intro w' hS'; (try dsimp only at hS'); (repeat (have hS1 := hS'.1; replace hS' := hS'.2)); go_simp; (try with_reducible rfl); done)); simp only [Act.put, List.getElem_toArray, List.getElem_cons_zero, List.getElem_cons_succ, List.setIfInBounds_toArray, List.set_cons_zero, List.set_cons_succ]))
    (first | (refine wpS_pass _ rfl (by rfl) ?_; simp only [Act.put, List.getElem_toArray, List.getElem_cons_zero, List.getElem_cons_succ, List.setIfInBounds_toArray, List.set_cons_zero, List.set_cons_succ]) | (refine wpS_take _ ?_ rfl (by rfl) ?_ ?_; rotate_left; (focus (intro w' hS'; (try dsimp only at hS'); (repeat (have hS1 := hS'.1; replace hS' := hS'.2)); go_simp; (try with_reducible rfl); done)); simp only [Act.put, List.getElem_toArray, List.getElem_cons_zero, List.getElem_cons_succ, List.setIfInBounds_toArray, List.set_cons_zero, List.set_cons_succ]))
    (first | (refine wpS_pass _ rfl (by rfl) ?_; simp only [Act.put, List.getElem_toArray, List.getElem_cons_zero, List.getElem_cons_succ, List.setIfInBounds_toArray, List.set_cons_zero, List.set_cons_succ]) | (refine wpS_take _ ?_ rfl (by rfl) ?_ ?_; rotate_left; (focus (intro w' hS'; (try dsimp only at hS'); (repeat (have hS1 := hS'.1; replace hS' := hS'.2)); go_simp; (try with_reducible rfl); done)); simp only [Act.put, List.getElem_toArray, List.getElem_cons_zero, List.getElem_cons_succ, List.setIfInBounds_toArray, List.set_cons_zero, List.set_cons_succ]))
    (first | (refine wpS_pass _ rfl (by rfl) ?_; simp only [Act.put, List.getElem_toArray, List.getElem_cons_zero, List.getElem_cons_succ, List.setIfInBounds_toArray, List.set_cons_zero, List.set_cons_succ]) | (refine wpS_take _ ?_ rfl (by rfl) ?_ ?_; rotate_left; (focus (intro w' hS'; (try dsimp only at hS'); (repeat (have hS1 := hS'.1; replace hS' := hS'.2)); go_simp; (try with_reducible rfl); done)); simp only [Act.put, List.getElem_toArray, List.getElem_cons_zero, List.getElem_cons_succ, List.setIfInBounds_toArray, List.set_cons_zero, List.set_cons_succ]))
    (first | (refine wpS_pass _ rfl (by rfl) ?_; simp only [Act.put, List.getElem_toArray, List.getElem_cons_zero, List.getElem_cons_succ, List.setIfInBounds_toArray, List.set_cons_zero, List.set_cons_succ]) | (refine wpS_take _ ?_ rfl (by rfl) ?_ ?_; rotate_left; (focus (intro w' hS'; (try dsimp only at hS'); (repeat (have hS1 := hS'.1; replace hS' := hS'.2)); go_simp; (try with_reducible rfl); done)); simp only [Act.put, List.getElem_toArray, List.getElem_cons_zero, List.getElem_cons_succ, List.setIfInBounds_toArray, List.set_cons_zero, List.set_cons_succ]))
    (first | (refine wpS_pass _ rfl (by rfl) ?_; simp only [Act.put, List.getElem_toArray, List.getElem_cons_zero, List.getElem_cons_succ, List.setIfInBounds_toArray, List.set_cons_zero, List.set_cons_succ]) | (refine wpS_take _ ?_ rfl (by rfl) ?_ ?_; rotate_left; (focus (intro w' hS'; (try dsimp only at hS'); (repeat (have hS1 := hS'.1; replace hS' := hS'.2)); go_simp; (try with_reducible rfl); done)); simp only [Act.put, List.getElem_toArray, List.getElem_cons_zero, List.getElem_cons_succ, List.setIfInBounds_toArray, List.set_cons_zero, List.set_cons_succ]))
    (first | (refine wpS_pass _ rfl (by rfl) ?_; simp only [Act.put, List.getElem_toArray, List.getElem_cons_zero, List.getElem_cons_succ, List.setIfInBounds_toArray, List.set_cons_zero, List.set_cons_succ]) | (refine wpS_take _ ?_ rfl (by rfl) ?_ ?_; rotate_left; (focus (intro w' hS'; (try dsimp only at hS'); (repeat (have hS1 := hS'.1; replace hS' := hS'.2)); go_simp; (try with_reducible rfl); done)); simp only [Act.put, List.getElem_toArray, List.getElem_cons_zero, List.getElem_cons_succ, List.setIfInBounds_toArray, List.set_cons_zero, List.set_cons_succ]))
    (first | (refine wpS_pass _ rfl (by rfl) ?_; simp only [Act.put, List.getElem_toArray, List.getElem_cons_zero, List.getElem_cons_succ, List.setIfInBounds_toArray, List.set_cons_zero, List.set_cons_succ]) | (refine wpS_take _ ?_ rfl (by rfl) ?_ ?_; rotate_left; (focus (intro w' hS'; (try dsimp only at hS'); (repeat (have hS1 := hS'.1; replace hS' := hS'.2)); go_simp; (try with_reducible rfl); done)); simp only [Act.put, List.getElem_toArray, List.getElem_cons_zero, List.getElem_cons_succ, List.setIfInBounds_toArray, List.set_cons_zero, List.set_cons_succ]))
    (first | (refine wpS_pass _ rfl (by rfl) ?_; simp only [Act.put, List.getElem_toArray, List.getElem_cons_zero, List.getElem_cons_succ, List.setIfInBounds_toArray, List.set_cons_zero, List.set_cons_succ]) | (refine wpS_take _ ?_ rfl (by rfl) ?_ ?_; rotate_left; (focus (intro w' hS'; (try dsimp only at hS'); (repeat (have hS1 := hS'.1; replace hS' := hS'.2)); go_simp; (try with_reducible rfl); done)); simp only [Act.put, List.getElem_toArray, List.getElem_cons_zero, List.getElem_cons_succ, List.setIfInBounds_toArray, List.set_cons_zero, List.set_cons_succ]))
    (first | (refine wpS_pass _ rfl (by rfl) ?_; simp only [Act.put, List.getElem_toArray, List.getElem_cons_zero, List.getElem_cons_succ, List.setIfInBounds_toArray, List.set_cons_zero, List.set_cons_succ]) | (refine wpS_take _ ?_ rfl (by rfl) ?_ ?_; rotate_left; (focus (intro w' hS'; (try dsimp only at hS'); (repeat (have hS1 := hS'.1; replace hS' := hS'.2)); go_simp; (try with_reducible rfl); done)); simp only [Act.put, List.getElem_toArray, List.getElem_cons_zero, List.getElem_cons_succ, List.setIfInBounds_toArray, List.set_cons_zero, List.set_cons_succ]))
    (first | (refine wpS_pass _ rfl (by rfl) ?_; simp only [Act.put, List.getElem_toArray, List.getElem_cons_zero, List.getElem_cons_succ, List.setIfInBounds_toArray, List.set_cons_zero, List.set_cons_succ]) | (refine wpS_take _ ?_ rfl (by rfl) ?_ ?_; rotate_left; (focus (intro w' hS'; (try dsimp only at hS'); (repeat (have hS1 := hS'.1; replace hS' := hS'.2)); go_simp; (try with_reducible rfl); done)); simp only [Act.put, List.getElem_toArray, List.getElem_cons_zero, List.getElem_cons_succ, List.setIfInBounds_toArray, List.set_cons_zero, List.set_cons_succ]))
    (first | (refine wpS_pass _ rfl (by rfl) ?_; simp only [Act.put, List.getElem_toArray, List.getElem_cons_zero, List.getElem_cons_succ, List.setIfInBounds_toArray, List.set_cons_zero, List.set_cons_succ]) | (refine wpS_take _ ?_ rfl (by rfl) ?_ ?_; rotate_left; (focus (intro w' hS'; (try dsimp only at hS'); (repeat (have hS1 := hS'.1; replace hS' := hS'.2)); go_simp; (try with_reducible rfl); done)); simp only [Act.put, List.getElem_toArray, List.getElem_cons_zero, List.getElem_cons_succ, List.setIfInBounds_toArray, List.set_cons_zero, List.set_cons_succ]))
    refine wpS_take _ _ rfl (by rfl) (fun w' hS' => exec_bin _ _ _ _ _ rfl _ _ _ rfl rfl rfl (hs1 w')) ?_
    simp only [Act.put, List.getElem_toArray, List.getElem_cons_zero, List.getElem_cons_succ, List.setIfInBounds_toArray, List.set_cons_zero, List.set_cons_succ]
    (first | (refine wpS_pass _ rfl (by rfl) ?_; simp only [Act.put, List.getElem_toArray, List.getElem_cons_zero, List.getElem_cons_succ, List.setIfInBounds_toArray, List.set_cons_zero, List.set_cons_succ]) | (refine wpS_take _ ?_ rfl (by rfl) ?_ ?_; rotate_left; (focus (intro w' hS'; (try dsimp only at hS'); (repeat (have hS1 := hS'.1; replace hS' := hS'.2)); go_simp; (try with_reducible rfl); done)); simp only [Act.put, List.getElem_toArray, List.getElem_cons_zero, List.getElem_cons_succ, List.setIfInBounds_toArray, List.set_cons_zero, List.set_cons_succ]))
    (first | (refine wpS_pass _ rfl (by rfl) ?_; simp only [Act.put, List.getElem_toArray, List.getElem_cons_zero, List.getElem_cons_succ, List.setIfInBounds_toArray, List.set_cons_zero, List.set_cons_succ]) | (refine wpS_take _ ?_ rfl (by rfl) ?_ ?_; rotate_left; (focus (intro w' hS'; (try dsimp only at hS'); (repeat (have hS1 := hS'.1; replace hS' := hS'.2)); go_simp; (try with_reducible rfl); done)); simp only [Act.put, List.getElem_toArray, List.getElem_cons_zero, List.getElem_cons_succ, List.setIfInBounds_toArray, List.set_cons_zero, List.set_cons_succ]))
    (first | (refine wpS_pass _ rfl (by rfl) ?_; simp only [Act.put, List.getElem_toArray, List.getElem_cons_zero, List.getElem_cons_succ, List.setIfInBounds_toArray, List.set_cons_zero, List.set_cons_succ]) | (refine wpS_take _ ?_ rfl (by rfl) ?_ ?_; rotate_left; (focus (intro w' hS'; (try dsimp only at hS'); (repeat (have hS1 := hS'.1; replace hS' := hS'.2)); go_simp; (try with_reducible rfl); done)); simp only [Act.put, List.getElem_toArray, List.getElem_cons_zero, List.getElem_cons_succ, List.setIfInBounds_toArray, List.set_cons_zero, List.set_cons_succ]))
    (first | (refine wpS_pass _ rfl (by rfl) ?_; simp only [Act.put, List.getElem_toArray, List.getElem_cons_zero, List.getElem_cons_succ, List.setIfInBounds_toArray, List.set_cons_zero, List.set_cons_succ]) | (refine wpS_take _ ?_ rfl (by rfl) ?_ ?_; rotate_left; (focus (intro w' hS'; (try dsimp only at hS'); (repeat (have hS1 := hS'.1; replace hS' := hS'.2)); go_simp; (try with_reducible rfl); done)); simp only [Act.put, List.getElem_toArray, List.getElem_cons_zero, List.getElem_cons_succ, List.setIfInBounds_toArray, List.set_cons_zero, List.set_cons_succ]))
    refine wpS_take _ _ rfl (by rfl) (fun w' hS' => exec_bin _ _ _ _ _ rfl _ _ _ rfl rfl rfl (hs2 w')) ?_
    simp only [Act.put, List.getElem_toArray, List.getElem_cons_zero, List.getElem_cons_succ, List.setIfInBounds_toArray, List.set_cons_zero, List.set_cons_succ]
    (first | (refine wpS_pass _ rfl (by rfl) ?_; simp only [Act.put, List.getElem_toArray, List.getElem_cons_zero, List.getElem_cons_succ, List.setIfInBounds_toArray, List.set_cons_zero, List.set_cons_succ]) | (refine wpS_take _ ?_ rfl (by rfl) ?_ ?_; rotate_left; (focus (intro w' hS'; (try dsimp only at hS'); (repeat (have hS1 := hS'.1; replace hS' := hS'.2)); go_simp; (try with_reducible rfl); done)); simp only [Act.put, List.getElem_toArray, List.getElem_cons_zero, List.getElem_cons_succ, List.setIfInBounds_toArray, List.set_cons_zero, List.set_cons_succ]))
    (first | (refine wpS_pass _ rfl (by rfl) ?_; simp only [Act.put, List.getElem_toArray, List.getElem_cons_zero, List.getElem_cons_succ, List.setIfInBounds_toArray, List.set_cons_zero, List.set_cons_succ]) | (refine wpS_take _ ?_ rfl (by rfl) ?_ ?_; rotate_left; (focus (intro w' hS'; (try dsimp only at hS'); (repeat (have hS1 := hS'.1; replace hS' := hS'.2)); go_simp; (try with_reducible rfl); done)); simp only [Act.put, List.getElem_toArray, List.getElem_cons_zero, List.getElem_cons_succ, List.setIfInBounds_toArray, List.set_cons_zero, List.set_cons_succ]))
    refine wpS_take _ _ rfl (by rfl) (fun w' hS' => exec_bin _ _ _ _ _ rfl _ _ _ rfl rfl rfl (heq w')) ?_
    simp only [Act.put, List.getElem_toArray, List.getElem_cons_zero, List.getElem_cons_succ, List.setIfInBounds_toArray, List.set_cons_zero, List.set_cons_succ]
    (repeat (first | (refine wpS_pass _ rfl (by rfl) ?_; simp only [Act.put, List.getElem_toArray, List.getElem_cons_zero, List.getElem_cons_succ, List.setIfInBounds_toArray, List.set_cons_zero, List.set_cons_succ]) | (refine wpS_take _ ?_ rfl (by rfl) ?_ ?_; rotate_left; (focus (intro w' hS'; (try dsimp only at hS'); (repeat (have hS1 := hS'.1; replace hS' := hS'.2)); go_simp; (try with_reducible rfl); done)); simp only [Act.put, List.getElem_toArray, List.getElem_cons_zero, List.getElem_cons_succ, List.setIfInBounds_toArray, List.set_cons_zero, List.set_cons_succ])))
    refine wpS_done ?_
    have cA : wr.drew.cell? ⟨bA, oA + x1, none⟩ = some (.string sa) := hA2
    have HO7 : Hid (wr.drew.ownsRow lo 36 2 (.slice Ao' no' co') no' (edc out')) := Lib.hid (own_below HO'.out (Below.refl _ _).drew)
    have HB7 : Hid (Below w1.heap.size w1 wr.drew) := Lib.hid HBW'.out.drew
    clear hA2 hB2 heq hs1 hs2 z3
    generalize wr.drew = W7 at *
    have HBE1 : Hid (Tryd.prog.built 36 [(0, .int .i64 0), (1, .string sa)] = some #[.int .i64 0, .string sa]) := Lib.hid (ed_built 0 sa)
    obtain ⟨X1, hX1⟩ : ∃ W, W7.alloc (.cells #[.int .i64 0, .string sa] 36) = W := ⟨_, rfl⟩
    obtain ⟨rX1, bX1, sX1⟩ := new_row hX1
    have HOX1 := Lib.hid (own_below HO7.out bX1)
    have HRX1 : Hid (Rd X1 (some ⟨W7.heap.size, 0, none⟩) [.int .i64 0, .string sa]) := Lib.hid (range_rd (range_of_row (cs := [.int .i64 0, .string sa]) rX1))
    have HBX1 := Lib.hid (ext_trans HB7.out bX1)
    have HBA1 : Hid (lo ≤ X1.heap.size) := Lib.hid (by rw [← HLO.out]; exact HBX1.out.size)
    clear rX1 bX1 sX1
    go_wp2_with (first
      | ((with_reducible (refine wpList_built ?_ _ #[(0, .const (.int .i64 0)), (1, .tmp 72)] ?_ _ ?_ _ HBE1.out ?_)); (exact rfl); (exact rfl); (exact rfl))
      | (at_builtin; refine wpList_append_rd _ rfl _ _ 24 rfl lo 36 _ 2 24 Tryd.underlying24 info_ed2 rfl (by decide) (.slice Ao' no' co') no' _ rfl HOX1.out _ 1 1 [.int .i64 0, .string sa] rfl rfl HRX1.out (edc_cell [⟨0, sa⟩]) (by unfold maxLen; omega) (by omega) HBA1.out ?_; intro v8 w8 ho8 hg8 hvb8; obtain ⟨A8, c8, e8, _⟩ := own_slice ho8; subst e8; have HO8 := Lib.hid ho8; have HB8 := Lib.hid (bel_own HBX1.out HLO.out HOX1.out hg8); clear ho8 hg8 hvb8))
    clear cA hX1
    rw [← HXA.out, ← HXB.out]
    go_roundg (x1 - f)
    case measure => omega
    case rel => exact ⟨x1, y1, A8, no' + 1, c8, out' ++ [⟨0, sa⟩], by omega, by omega, by omega, by omega, rfl, by first | rfl | exact congrArg (Value.int .i64) (by omega) | go_num, by first | rfl | exact congrArg (Value.int .i64) (by omega) | go_num, rfl, Lib.hid (by have := HNO'.out; simp; omega), Lib.hid (by have := HK.out; omega), Lib.hid (by
        rw [← HE'.out, keepsB_cons (by omega : (f : Int) < ((x1 + 1 : Nat) : Int)), HLN.out, List.append_assoc]
        rw [show (((x1 + 1 : Nat) : Int) - 1) = (x1 : Int) by omega]
        rfl), Lib.hid (by rw [edc_snoc]; exact HO8.out), HB8⟩
  · obtain rfl : x' = f := by omega
    have j1 : ¬ (x' : Int) < (x' : Int) := by omega
    have HK2 : Hid (out' = out ++ keepsB a (x' : Int) (x : Int)) := Lib.hid (by have h := HE'.out; rw [keepsB_nil, List.append_nil] at h; exact h)
    go_wp2_with fail
    refine wp_region_sched (fun w' => True) [(true, 0), (true, 1), (true, 2), (true, 3), (true, 4), (true, 5), (true, 6), (true, 7), (true, 8), (true, 9), (true, 10), (true, 11), (true, 12), (true, 13), (true, 14), (true, 15), (true, 16), (true, 17), (true, 18), (true, 19), (true, 20), (true, 21), (true, 22), (true, 23)] (by kernel_rfl) (by kernel_rfl) rfl (by kernel_rfl) trivial ?_
    (repeat (first | (refine wpS_pass _ rfl (by rfl) ?_; simp only [Act.put, List.getElem_toArray, List.getElem_cons_zero, List.getElem_cons_succ, List.setIfInBounds_toArray, List.set_cons_zero, List.set_cons_succ]) | (refine wpS_take _ ?_ rfl (by rfl) ?_ ?_; rotate_left; (focus (intro w' hS'; (try dsimp only at hS'); (repeat (have hS1 := hS'.1; replace hS' := hS'.2)); go_simp; (try with_reducible rfl); done)); simp only [Act.put, List.getElem_toArray, List.getElem_cons_zero, List.getElem_cons_succ, List.setIfInBounds_toArray, List.set_cons_zero, List.set_cons_succ])))
    refine wpS_done ?_
    have HO7 : Hid (wr.drew.ownsRow lo 36 2 (.slice Ao' no' co') no' (edc out')) := Lib.hid (own_below HO'.out (Below.refl _ _).drew)
    have HB7 : Hid (Below w1.heap.size w1 wr.drew) := Lib.hid HBW'.out.drew
    generalize wr.drew = W7 at *
    clear j1
    rcases Nat.eq_zero_or_pos d with h0 | h0
    · subst h0
      have HTT : Hid (out' = TOT) := Lib.hid (by
        have h := HE.out
        rw [bkE_0 HF.out] at h
        rw [HK2.out, h])
      go_wp2_with fail
      refine (rev_own lo _ no' out' W7 HO7.out HNO'.out (by have := HNO'.out; omega)).mono ?_
      rintro e w8 ⟨rfl, ho8, hg8⟩
      have HB8 := Lib.hid (bel_own HB7.out HLO.out HO7.out hg8)
      obtain ⟨A8, c8, e8, _⟩ := own_slice ho8
      have HO8 := Lib.hid ho8
      have hsl : Value.slice Ao' no' co' = Value.slice Ao' no' co' := rfl
      clear ho8 hg8 e8 hsl
      go_wp2_with fail
      have HL8 : Hid (no' = out'.reverse.length) := Lib.hid (by rw [List.length_reverse]; exact HNO'.out)
      have htd := tidy_any Ao' out'.reverse co' w8 (own_rd HO8.out) (by have h1 := HL8.out; omega)
      rw [← HL8.out] at htd
      refine htd.mono ?_
      rintro e w9 ⟨A9, c9, rfl, ho9, hb9⟩
      go_wp2_with fail
      go_ret
      have hn9 : no' = (diffS a b).length := by rw [HDS.out, tidyP_len, ← HTT.out]; exact HL8.out
      have hlow : w.heap.size ≤ w8.heap.size := by have h1 := HT1.out.bel.size; have h2 := HB8.out.size; omega
      refine ⟨A9, c9, by rw [← hn9]; rfl, ?_, (HT1.out.bel.trans (HB8.out.mono HT1.out.bel.size)).trans (hb9.mono hlow)⟩
      rw [← hn9, HDS.out, ← HTT.out]
      exact own_mono ho9 hlow
    · obtain ⟨d1, rfl⟩ : ∃ d1, d = d1 + 1 := ⟨d - 1, by omega⟩
      have z1 : ((d1 : Int) + 1 == 0) = false := by rw [beq_eq_false_iff_ne]; omega
      have hA := HAD.out
      have hE := HE.out
      rw [bkE_s HF.out, hA] at hE
      have HHE := Lib.hid hE
      clear hE hA
      cases ad
      · obtain ⟨hi, p1, p2, p3⟩ := HI.out.right HAD.out
        rw [HF.out] at hi p1 p2 p3
        have hno3 : no' + 1 ≤ 2000 := by
          have h := HHE.out
          rw [if_neg Bool.false_ne_true, ← List.append_assoc, ← HK2.out] at h
          have h2 := congrArg List.length h
          simp only [List.length_append, List.length_cons] at h2
          have := HNO'.out
          omega
        obtain ⟨x1, hx1⟩ : ∃ x1, x' = x1 + 1 := ⟨x' - 1, by omega⟩
        subst hx1
        have HHI := Lib.hid hi
        have hxN : x1 < N := by have := HN.out; omega
        obtain ⟨bA, oA, hA1, hA2⟩ := (HA.out.below (HT1.out.bel.trans (HB7.out.mono HT1.out.bel.size))).at_ x1 (by unfold sts; rw [List.length_map, HN.out]; exact hxN)
        obtain ⟨sa, hsa⟩ : ∃ s, a[x1]'(by rw [HN.out]; exact hxN) = s := ⟨_, rfl⟩
        have HLN : Hid (ln a (((x1 + 1 : Nat) : Int) - 1) = sa) := Lib.hid (by
          rw [show (((x1 + 1 : Nat) : Int) - 1) = (x1 : Int) by omega, ln_get a x1 (by rw [HN.out]; exact hxN), hsa])
        have ea : (sts a)[x1]'(by unfold sts; rw [List.length_map, HN.out]; exact hxN) = .string sa := by rw [← hsa]; simp [sts]
        rw [ea] at hA2
        have HXA := Lib.hid hA1
        have j4 : (x1 : Int) < (N : Int) := by omega
        clear hsa ea hi p1 p2 p3
        rw [hA1]
        clear hA1
        have HBE1 : Hid (Tryd.prog.built 36 [(0, .int .i64 1), (1, .string sa)] = some #[.int .i64 1, .string sa]) := Lib.hid (ed_built 1 sa)
        obtain ⟨X1, hX1⟩ : ∃ W, W7.alloc (.cells #[.int .i64 1, .string sa] 36) = W := ⟨_, rfl⟩
        obtain ⟨rX1, bX1, sX1⟩ := new_row hX1
        have HOX1 := Lib.hid (own_below HO7.out bX1)
        have HRX1 : Hid (Rd X1 (some ⟨W7.heap.size, 0, none⟩) [.int .i64 1, .string sa]) := Lib.hid (range_rd (range_of_row (cs := [.int .i64 1, .string sa]) rX1))
        have HBX1 := Lib.hid (ext_trans HB7.out bX1)
        have HBA1 : Hid (lo ≤ X1.heap.size) := Lib.hid (by rw [← HLO.out]; exact HBX1.out.size)
        clear rX1 bX1 sX1
        go_wp2_with (first
          | ((with_reducible (refine wpList_built ?_ _ #[(0, .const (.int .i64 1)), (1, .tmp 95)] ?_ _ ?_ _ HBE1.out ?_)); (exact rfl); (exact rfl); (exact rfl))
          | (at_builtin; refine wpList_append_rd _ rfl _ _ 24 rfl lo 36 _ 2 24 Tryd.underlying24 info_ed2 rfl (by decide) (.slice Ao' no' co') no' _ rfl HOX1.out _ 1 1 [.int .i64 1, .string sa] rfl rfl HRX1.out (edc_cell [⟨1, sa⟩]) (by unfold maxLen; omega) (by omega) HBA1.out ?_; intro v8 w8 ho8 hg8 hvb8; obtain ⟨A8, c8, e8, _⟩ := own_slice ho8; subst e8; have HO8 := Lib.hid ho8; have HB8 := Lib.hid (bel_own HBX1.out HLO.out HOX1.out hg8); clear ho8 hg8 hvb8))
        clear hA2 hX1 z1
        rw [← HXA.out]
        go_roundg (d1 + 1)
        case measure => omega
        case rel => exact ⟨d1, x1, y', A8, no' + 1, c8, out' ++ [⟨1, sa⟩], by omega, by omega, by omega, by omega, rfl, by first | rfl | exact congrArg (Value.int .i64) (by omega) | go_num, rfl, rfl, by first | rfl | exact congrArg (Value.int .i64) (by omega) | go_num, Lib.hid (by have := HNO'.out; simp; omega), Lib.hid (by
            have h := HHI.out
            have e1 : ((x1 + 1 : Nat) : Int) - 1 = (x1 : Int) := by omega
            have e2 : (x : Int) - (y : Int) - 1 = (x1 : Int) - (y' : Int) := by have := HK.out; omega
            rw [e1, e2] at h
            exact h), Lib.hid (by
            have h := HHE.out
            have e1 : ((x1 + 1 : Nat) : Int) - 1 = (x1 : Int) := by omega
            have e2 : (x : Int) - (y : Int) - 1 = (x1 : Int) - (y' : Int) := by have := HK.out; omega
            rw [if_neg Bool.false_ne_true, HLN.out, e1, e2, ← List.append_assoc, ← HK2.out] at h
            rw [List.append_assoc]
            exact h), Lib.hid (by rw [edc_snoc]; exact HO8.out), HB8⟩
      · obtain ⟨hi, p1, p2⟩ := HI.out.down HAD.out
        rw [HF.out] at hi p1 p2
        have hno3 : no' + 1 ≤ 2000 := by
          have h := HHE.out
          change out ++ (keepsB a (x' : Int) (x : Int) ++ (⟨2, ln b ((x' : Int) - ((x : Int) - (y : Int)) - 1)⟩ :: bkE a b d1 (x' : Int) ((x : Int) - (y : Int) + 1))) = TOT at h
          rw [← List.append_assoc, ← HK2.out] at h
          have h2 := congrArg List.length h
          simp only [List.length_append, List.length_cons] at h2
          have := HNO'.out
          omega
        have hk' := HK.out
        obtain ⟨y1, hy1⟩ : ∃ y1, y' = y1 + 1 := ⟨y' - 1, by omega⟩
        subst hy1
        have HHI := Lib.hid hi
        have hyM : y1 < M := by have := HM.out; omega
        obtain ⟨bB, oB, hB1, hB2⟩ := (HB.out.below (HT1.out.bel.trans (HB7.out.mono HT1.out.bel.size))).at_ y1 (by unfold sts; rw [List.length_map, HM.out]; exact hyM)
        obtain ⟨sb, hsb⟩ : ∃ s, b[y1]'(by rw [HM.out]; exact hyM) = s := ⟨_, rfl⟩
        have HLN : Hid (ln b ((x' : Int) - ((x : Int) - (y : Int)) - 1) = sb) := Lib.hid (by
          rw [show (x' : Int) - ((x : Int) - (y : Int)) - 1 = (y1 : Int) by omega, ln_get b y1 (by rw [HM.out]; exact hyM), hsb])
        have eb : (sts b)[y1]'(by unfold sts; rw [List.length_map, HM.out]; exact hyM) = .string sb := by rw [← hsb]; simp [sts]
        rw [eb] at hB2
        have HXB := Lib.hid hB1
        have j4 : (y1 : Int) < (M : Int) := by omega
        clear hsb eb hi p1 p2 hk'
        rw [hB1]
        clear hB1
        have HBE1 : Hid (Tryd.prog.built 36 [(0, .int .i64 2), (1, .string sb)] = some #[.int .i64 2, .string sb]) := Lib.hid (ed_built 2 sb)
        obtain ⟨X1, hX1⟩ : ∃ W, W7.alloc (.cells #[.int .i64 2, .string sb] 36) = W := ⟨_, rfl⟩
        obtain ⟨rX1, bX1, sX1⟩ := new_row hX1
        have HOX1 := Lib.hid (own_below HO7.out bX1)
        have HRX1 : Hid (Rd X1 (some ⟨W7.heap.size, 0, none⟩) [.int .i64 2, .string sb]) := Lib.hid (range_rd (range_of_row (cs := [.int .i64 2, .string sb]) rX1))
        have HBX1 := Lib.hid (ext_trans HB7.out bX1)
        have HBA1 : Hid (lo ≤ X1.heap.size) := Lib.hid (by rw [← HLO.out]; exact HBX1.out.size)
        clear rX1 bX1 sX1
        go_wp2_with (first
          | ((with_reducible (refine wpList_built ?_ _ #[(0, .const (.int .i64 2)), (1, .tmp 85)] ?_ _ ?_ _ HBE1.out ?_)); (exact rfl); (exact rfl); (exact rfl))
          | (at_builtin; refine wpList_append_rd _ rfl _ _ 24 rfl lo 36 _ 2 24 Tryd.underlying24 info_ed2 rfl (by decide) (.slice Ao' no' co') no' _ rfl HOX1.out _ 1 1 [.int .i64 2, .string sb] rfl rfl HRX1.out (edc_cell [⟨2, sb⟩]) (by unfold maxLen; omega) (by omega) HBA1.out ?_; intro v8 w8 ho8 hg8 hvb8; obtain ⟨A8, c8, e8, _⟩ := own_slice ho8; subst e8; have HO8 := Lib.hid ho8; have HB8 := Lib.hid (bel_own HBX1.out HLO.out HOX1.out hg8); clear ho8 hg8 hvb8))
        clear hB2 hX1 z1
        rw [← HXB.out]
        go_roundg (d1 + 1)
        case measure => omega
        case rel => exact ⟨d1, x', y1, A8, no' + 1, c8, out' ++ [⟨2, sb⟩], by omega, by omega, by omega, by omega, rfl, rfl, by first | rfl | exact congrArg (Value.int .i64) (by omega) | go_num, rfl, by first | rfl | exact congrArg (Value.int .i64) (by omega) | go_num, Lib.hid (by have := HNO'.out; simp; omega), Lib.hid (by
            have h := HHI.out
            have e2 : (x : Int) - (y : Int) + 1 = (x' : Int) - (y1 : Int) := by have := HK.out; omega
            rw [e2] at h
            exact h), Lib.hid (by
            have h := HHE.out
            have e2 : (x : Int) - (y : Int) + 1 = (x' : Int) - (y1 : Int) := by have := HK.out; omega
            change out ++ (keepsB a (x' : Int) (x : Int) ++ (⟨2, ln b ((x' : Int) - ((x : Int) - (y : Int)) - 1)⟩ :: bkE a b d1 (x' : Int) ((x : Int) - (y : Int) + 1))) = TOT at h
            rw [HLN.out, e2, ← List.append_assoc, ← HK2.out] at h
            rw [List.append_assoc]
            exact h), Lib.hid (by rw [edc_snoc]; exact HO8.out), HB8⟩
end Go.Proofs.YtmniggjadfdheaaDoor
