
/- StampGood: the walk. -/

import Derived.Test.YtabkgoandfpclaaOp7

namespace Go.Proofs.Ytabkgoandfpclaa

set_option linter.unusedVariables false

set_option linter.unusedSimpArgs false

open Go.RowKit

set_option maxRecDepth 100000 in
set_option maxHeartbeats 4000000 in
theorem stampGood_any (a b : OpM) (w : World) (ha : OpIn w a) (hb : OpIn w b) : Calls Try.prog 4 #[a.val, b.val] w fun e w' => e = .returned (.bool true) ∧ Below w.heap.size w w' := by
  obtain ⟨W1, W2, g, g', hg, hg', hW1, hW2, hra, hrb, hbel⟩ := two_rows a b ha hb
  have HIA : Hid ((Try.prog.info? 33).map (·.size) = some a.cells.length) := Lib.hid (by rw [a.cells_len ha.len]; exact info_op)
  have HIB : Hid ((Try.prog.info? 33).map (·.size) = some b.cells.length) := Lib.hid (by rw [b.cells_len hb.len]; exact info_op)
  have HA := Lib.hid (range_of_row hra)
  have HBR := Lib.hid (range_of_row hrb)
  have HAL := Lib.hid (Array.getElem?_eq_some_iff.1 hra).1
  have HBL := Lib.hid (Array.getElem?_eq_some_iff.1 hrb).1
  have HBEL := Lib.hid hbel
  have HGL : Hid (g ≤ W2.heap.size) := Lib.hid (by have := hbel.size; omega)
  have HIN : Hid (∀ W, Below W2.heap.size W2 W → OpIn W a ∧ OpIn W b) := Lib.hid (fun W h => ⟨(ha.below (hg ▸ hbel)).below h, (hb.below (hg ▸ hbel)).below h⟩)
  obtain ⟨x, hx⟩ : ∃ x, goodO a = x := ⟨_, rfl⟩
  obtain ⟨y, hy⟩ : ∃ y, sameO a b = y := ⟨_, rfl⟩
  have HX := Lib.hid hx
  have HY := Lib.hid hy
  unfold OpM.val
  rw [hg]
  clear hra hrb hbel ha hb hx hy
  go_enter Try.func4, Try.ntmps4
  go_wp2_with fail
  clear hg hg' hW1 hW2
  refine wp_region_sched (fun w' => Below W2.heap.size W2 w')
    [(false, 0), (true, 1), (true, 2), (true, 4), (false, 3), (false, 5), (true, 6), (true, 7), (true, 8), (true, 9), (true, 10), (true, 12), (true, 13), (false, 11), (false, 14), (true, 15), (true, 16), (true, 17), (true, 18), (true, 19), (false, 20), (true, 21), (true, 22)] (by kernel_rfl) (by kernel_rfl) rfl (by kernel_rfl) (Below.refl _ _).drew ?_
  refine wpS_do _ rfl (by rfl) (fun K hK => ?_)
  go_simp
  refine (alive_any _).mono ?_
  rintro e u1 ⟨rfl, k1⟩
  have m1 := (Below.refl W2.heap.size W2).drew.trans (k1.mono (Below.refl W2.heap.size W2).drew.size)
  refine hK.out _ _ m1 (fun hS => ?_)
  clear hK hS
  (repeat (first | (refine wpS_pass _ rfl (by rfl) ?_; simp only [Act.put, List.getElem_toArray, List.getElem_cons_zero, List.getElem_cons_succ, List.setIfInBounds_toArray, List.set_cons_zero, List.set_cons_succ]) | (refine wpS_take _ ?_ rfl (by rfl) ?_ ?_; rotate_left; (focus (intro w' hS'; (try dsimp only at hS'); (repeat (have hS1 := hS'.1; replace hS' := hS'.2)); go_simp; (try with_reducible rfl); done)); simp only [Act.put, List.getElem_toArray, List.getElem_cons_zero, List.getElem_cons_succ, List.setIfInBounds_toArray, List.set_cons_zero, List.set_cons_succ])))
  refine wpS_load _ rfl (by rfl) _ _ rfl _ _ rfl a.cells _ (fun w' hS' => range_below HA.out HAL.out hS') Try.underlying33 rfl HIA.out ?_
  simp only [Act.put, List.getElem_toArray, List.getElem_cons_zero, List.getElem_cons_succ, List.setIfInBounds_toArray, List.set_cons_zero, List.set_cons_succ]
  refine wpS_load _ rfl (by rfl) _ _ rfl _ _ rfl a.cells _ (fun w' hS' => range_below HA.out HAL.out hS') Try.underlying33 rfl HIA.out ?_
  simp only [Act.put, List.getElem_toArray, List.getElem_cons_zero, List.getElem_cons_succ, List.setIfInBounds_toArray, List.set_cons_zero, List.set_cons_succ]
  refine wpS_do _ rfl (by rfl) (fun K hK => ?_)
  go_simp
  refine (good_any' a u1 (HIN.out _ m1).1).mono ?_
  rintro e u2 ⟨rfl, k2⟩
  rw [HX.out]
  have m2 := m1.trans (k2.mono m1.size)
  refine hK.out _ _ m2 (fun hS => ?_)
  clear hK hS
  refine wpS_do _ rfl (by rfl) (fun K hK => ?_)
  go_simp
  refine (rgood_any a u2 (HIN.out _ m2).1).mono ?_
  rintro e u3 ⟨rfl, k3⟩
  rw [HX.out]
  have m3 := m2.trans (k3.mono m2.size)
  refine hK.out _ _ m3 (fun hS => ?_)
  clear hK hS
  (repeat (first | (refine wpS_pass _ rfl (by rfl) ?_; simp only [Act.put, List.getElem_toArray, List.getElem_cons_zero, List.getElem_cons_succ, List.setIfInBounds_toArray, List.set_cons_zero, List.set_cons_succ]) | (refine wpS_take _ ?_ rfl (by rfl) ?_ ?_; rotate_left; (focus (intro w' hS'; (try dsimp only at hS'); (repeat (have hS1 := hS'.1; replace hS' := hS'.2)); go_simp; (try with_reducible rfl); done)); simp only [Act.put, List.getElem_toArray, List.getElem_cons_zero, List.getElem_cons_succ, List.setIfInBounds_toArray, List.set_cons_zero, List.set_cons_succ])))
  refine wpS_load _ rfl (by rfl) _ _ rfl _ _ rfl a.cells _ (fun w' hS' => range_below HA.out HAL.out hS') Try.underlying33 rfl HIA.out ?_
  simp only [Act.put, List.getElem_toArray, List.getElem_cons_zero, List.getElem_cons_succ, List.setIfInBounds_toArray, List.set_cons_zero, List.set_cons_succ]
  refine wpS_load _ rfl (by rfl) _ _ rfl _ _ rfl b.cells _ (fun w' hS' => range_below HBR.out HBL.out hS') Try.underlying33 rfl HIB.out ?_
  simp only [Act.put, List.getElem_toArray, List.getElem_cons_zero, List.getElem_cons_succ, List.setIfInBounds_toArray, List.set_cons_zero, List.set_cons_succ]
  refine wpS_load _ rfl (by rfl) _ _ rfl _ _ rfl a.cells _ (fun w' hS' => range_below HA.out HAL.out hS') Try.underlying33 rfl HIA.out ?_
  simp only [Act.put, List.getElem_toArray, List.getElem_cons_zero, List.getElem_cons_succ, List.setIfInBounds_toArray, List.set_cons_zero, List.set_cons_succ]
  refine wpS_load _ rfl (by rfl) _ _ rfl _ _ rfl b.cells _ (fun w' hS' => range_below HBR.out HBL.out hS') Try.underlying33 rfl HIB.out ?_
  simp only [Act.put, List.getElem_toArray, List.getElem_cons_zero, List.getElem_cons_succ, List.setIfInBounds_toArray, List.set_cons_zero, List.set_cons_succ]
  refine wpS_do _ rfl (by rfl) (fun K hK => ?_)
  go_simp
  refine (opsame_any a b u3 (HIN.out _ m3).1 (HIN.out _ m3).2).mono ?_
  rintro e u4 ⟨rfl, k4⟩
  rw [HY.out]
  have m4 := m3.trans (k4.mono m3.size)
  refine hK.out _ _ m4 (fun hS => ?_)
  clear hK hS
  refine wpS_do _ rfl (by rfl) (fun K hK => ?_)
  go_simp
  refine (opsameR_any a b u4 (HIN.out _ m4).1 (HIN.out _ m4).2).mono ?_
  rintro e u5 ⟨rfl, k5⟩
  rw [HY.out]
  have m5 := m4.trans (k5.mono m4.size)
  refine hK.out _ _ m5 (fun hS => ?_)
  clear hK hS
  (repeat (first | (refine wpS_pass _ rfl (by rfl) ?_; simp only [Act.put, List.getElem_toArray, List.getElem_cons_zero, List.getElem_cons_succ, List.setIfInBounds_toArray, List.set_cons_zero, List.set_cons_succ]) | (refine wpS_take _ ?_ rfl (by rfl) ?_ ?_; rotate_left; (focus (intro w' hS'; (try dsimp only at hS'); (repeat (have hS1 := hS'.1; replace hS' := hS'.2)); go_simp; (try with_reducible rfl); done)); simp only [Act.put, List.getElem_toArray, List.getElem_cons_zero, List.getElem_cons_succ, List.setIfInBounds_toArray, List.set_cons_zero, List.set_cons_succ])))
  refine wpS_load _ rfl (by rfl) _ _ rfl _ _ rfl a.cells _ (fun w' hS' => range_below HA.out HAL.out hS') Try.underlying33 rfl HIA.out ?_
  simp only [Act.put, List.getElem_toArray, List.getElem_cons_zero, List.getElem_cons_succ, List.setIfInBounds_toArray, List.set_cons_zero, List.set_cons_succ]
  refine wpS_load _ rfl (by rfl) _ _ rfl _ _ rfl a.cells _ (fun w' hS' => range_below HA.out HAL.out hS') Try.underlying33 rfl HIA.out ?_
  simp only [Act.put, List.getElem_toArray, List.getElem_cons_zero, List.getElem_cons_succ, List.setIfInBounds_toArray, List.set_cons_zero, List.set_cons_succ]
  refine wpS_do _ rfl (by rfl) (fun K hK => ?_)
  go_simp
  refine (opsame_any a a u5 (HIN.out _ m5).1 (HIN.out _ m5).1).mono ?_
  rintro e u6 ⟨rfl, k6⟩
  rw [same_o1]
  have m6 := m5.trans (k6.mono m5.size)
  refine hK.out _ _ m6 (fun hS => ?_)
  clear hK hS
  (repeat (first | (refine wpS_pass _ rfl (by rfl) ?_; simp only [Act.put, List.getElem_toArray, List.getElem_cons_zero, List.getElem_cons_succ, List.setIfInBounds_toArray, List.set_cons_zero, List.set_cons_succ]) | (refine wpS_take _ ?_ rfl (by rfl) ?_ ?_; rotate_left; (focus (intro w' hS'; (try dsimp only at hS'); (repeat (have hS1 := hS'.1; replace hS' := hS'.2)); go_simp; (try with_reducible rfl); done)); simp only [Act.put, List.getElem_toArray, List.getElem_cons_zero, List.getElem_cons_succ, List.setIfInBounds_toArray, List.set_cons_zero, List.set_cons_succ])))
  refine wpS_done ?_
  go_wp2_with fail
  go_ret
  exact ⟨rfl, HBEL.out.trans (m6.mono HGL.out)⟩
end Go.Proofs.Ytabkgoandfpclaa
