
/- Right. (Printed by wip/genL9.py.) -/

import Derived.Test.YtfjfidhhmidflaaLet7

namespace Go.Proofs.Ytfjfidhhmidflaa

set_option linter.unusedVariables false

set_option linter.unusedSimpArgs false

open Go.RowKit

/-! ### plain -/

def headB (l : Lt) : Bool := withinB l.from_ 1 65536 && withinB l.to_ 1 65536 && !(l.from_ == l.to_) && !decide (l.session < 1) && !decide (1099511627776 < l.session)
def kindB (l : Lt) : Bool :=
  if l.kind = 1 then true
  else if l.kind = 2 then rightRefsB l.refs
  else if l.kind = 3 then withinB l.wants.length 1 100 && decide (l.haves.length ≤ 200) && risingB zeros32 l.wants && risingB zeros32 l.haves && withinB l.off 0 1048576
  else if l.kind = 4 then !decide (l.pack = zeros32) && withinB l.off 0 1048576 && withinB l.total 0 1048576 && decide (l.data.length ≤ 500) && decide (l.off ≤ l.total - (l.data.length : Int)) && (decide (0 < l.data.length) || (l.off == l.total))
  else false
def rightL (l : Lt) : Bool := headB l && sameL l (bareL l) && kindB l
theorem rightL_head {l : Lt} (h : headB l = false) : rightL l = false := by unfold rightL; rw [h]; rfl
theorem rightL_same {l : Lt} (h : sameL l (bareL l) = false) : rightL l = false := by unfold rightL; rw [h]; simp
theorem rightL_rest {l : Lt} (h : headB l = true) (h2 : sameL l (bareL l) = true) : rightL l = kindB l := by unfold rightL; rw [h, h2]; rfl
theorem kindB_1 {l : Lt} (h : l.kind = 1) : kindB l = true := by unfold kindB; rw [if_pos h]
theorem kindB_2 {l : Lt} (h : l.kind = 2) : kindB l = rightRefsB l.refs := by unfold kindB; rw [if_neg (by omega), if_pos h]
theorem kindB_3 {l : Lt} (h : l.kind = 3) : kindB l = (withinB l.wants.length 1 100 && decide (l.haves.length ≤ 200) && risingB zeros32 l.wants && risingB zeros32 l.haves && withinB l.off 0 1048576) := by unfold kindB; rw [if_neg (by omega), if_neg (by omega), if_pos h]
theorem kindB_4 {l : Lt} (h : l.kind = 4) : kindB l = (!decide (l.pack = zeros32) && withinB l.off 0 1048576 && withinB l.total 0 1048576 && decide (l.data.length ≤ 500) && decide (l.off ≤ l.total - (l.data.length : Int)) && (decide (0 < l.data.length) || (l.off == l.total))) := by unfold kindB; rw [if_neg (by omega), if_neg (by omega), if_neg (by omega), if_pos h]
theorem kindB_0 {l : Lt} (h1 : l.kind ≠ 1) (h2 : l.kind ≠ 2) (h3 : l.kind ≠ 3) (h4 : l.kind ≠ 4) : kindB l = false := by unfold kindB; rw [if_neg h1, if_neg h2, if_neg h3, if_neg h4]

set_option maxRecDepth 100000 in
set_option maxHeartbeats 8000000 in
theorem lright_any (l : Lt) (p : LtP) (w : World) (hin : LtIn w l p) (ht : -9223372036854775808 ≤ l.total ∧ l.total ≤ 9223372036854775807) : Calls Try.prog 12 #[l.val p] w fun e w' => e = .returned (.bool (rightL l)) ∧ Below w.heap.size w w' := by
  obtain ⟨W1, hW1⟩ : ∃ W, w.alloc (.cells (l.cells p).toArray 28) = W := ⟨_, rfl⟩
  obtain ⟨r1, b1, s1⟩ := new_row hW1
  obtain ⟨g, hg⟩ : ∃ g, w.heap.size = g := ⟨_, rfl⟩
  rw [hg] at r1
  have HGS : Hid (g < W1.heap.size) := Lib.hid (Array.getElem?_eq_some_iff.1 r1).1
  have HR1 := Lib.hid r1
  have HB1 := Lib.hid b1
  have HIN := Lib.hid (hin.below b1)
  have HLN := Lib.hid hin.len
  have HT := Lib.hid ht
  have HF : Hid (∀ W, Below W1.heap.size W1 W → W.heap[g]? = some (.cells (l.cells p).toArray 28 (0, 0))) := Lib.hid (fun W h => (h.block g HGS.out).trans HR1.out)
  have HBW : Hid (∀ W, Below W1.heap.size W1 W → Below g w W) := Lib.hid (fun W h => hg ▸ HB1.out.trans (h.mono (by rw [hg]; exact Nat.le_of_lt HGS.out)))
  have HS : Hid (∀ W, Below W1.heap.size W1 W → W.cell? ⟨g, 1, none⟩ = some (.int .i64 l.from_) ∧ W.cell? ⟨g, 2, none⟩ = some (.int .i64 l.to_) ∧ W.cell? ⟨g, 3, none⟩ = some (.int .i64 l.session) ∧ Below W1.heap.size W1 W) := Lib.hid (fun W h => by
    obtain ⟨x0, x1, x2, x3, _⟩ := ltRow_of (HF.out W h) HLN.out
    exact ⟨x1, x2, x3, h⟩)
  obtain ⟨V, hV⟩ : ∃ V, rightL l = V := ⟨_, rfl⟩
  have HV := Lib.hid hV
  have HIL := Lib.hid (info_let l p hin.len)
  rw [hV]
  unfold Lt.val
  rw [hg]
  clear r1 b1 s1 hin hV ht
  have HS0 := Lib.hid (HS.out W1.drew (Below.refl _ _).drew)
  go_enter Try.func12, Try.ntmps12
  go_wp2_with fail
  clear hW1 hg
  refine wp_region_sched (fun w' => w'.cell? ⟨g, 1, none⟩ = some (.int .i64 l.from_) ∧ w'.cell? ⟨g, 2, none⟩ = some (.int .i64 l.to_) ∧ w'.cell? ⟨g, 3, none⟩ = some (.int .i64 l.session) ∧ Below W1.heap.size W1 w') [(true, 0), (true, 1), (false, 2), (true, 3), (true, 4), (true, 5), (true, 6), (false, 7), (true, 8), (true, 9), (true, 10), (true, 11), (true, 12), (true, 13), (true, 14), (true, 15), (true, 16), (true, 17), (true, 18), (true, 19), (true, 20), (true, 21), (true, 22), (true, 23), (true, 24), (true, 25), (true, 26), (true, 27), (true, 28), (true, 29), (false, 30), (false, 31), (true, 32), (true, 33)] (by kernel_rfl) (by kernel_rfl) rfl (by kernel_rfl) HS0.out ?_
  (repeat (first | (refine wpS_pass _ rfl (by rfl) ?_; simp only [Act.put, List.getElem_toArray, List.getElem_cons_zero, List.getElem_cons_succ, List.setIfInBounds_toArray, List.set_cons_zero, List.set_cons_succ]) | (refine wpS_take _ ?_ rfl (by rfl) ?_ ?_; rotate_left; (focus (intro w' hS'; (try dsimp only at hS'); (repeat (have hS1 := hS'.1; replace hS' := hS'.2)); go_simp; (try with_reducible rfl); done)); simp only [Act.put, List.getElem_toArray, List.getElem_cons_zero, List.getElem_cons_succ, List.setIfInBounds_toArray, List.set_cons_zero, List.set_cons_succ])))
  refine wpS_do _ rfl (by rfl) (fun K hK => ?_)
  go_simp
  refine (within_any l.from_ 1 65536 _).mono ?_
  rintro e w3 ⟨rfl, rfl⟩
  refine hK.out _ _ HS0.out (fun hS => ?_)
  clear hK hS
  have HBD : Hid (Below W1.heap.size W1 W1.drew) := Lib.hid (Below.refl _ _).drew
  cases c1 : withinB l.from_ 1 65536
  · have C1 := Lib.hid c1
    clear c1
    (repeat (first | (refine wpS_pass _ rfl (by rfl) ?_; simp only [Act.put, List.getElem_toArray, List.getElem_cons_zero, List.getElem_cons_succ, List.setIfInBounds_toArray, List.set_cons_zero, List.set_cons_succ]) | (refine wpS_take _ ?_ rfl (by rfl) ?_ ?_; rotate_left; (focus (intro w' hS'; (try dsimp only at hS'); (repeat (have hS1 := hS'.1; replace hS' := hS'.2)); go_simp; (try with_reducible rfl); done)); simp only [Act.put, List.getElem_toArray, List.getElem_cons_zero, List.getElem_cons_succ, List.setIfInBounds_toArray, List.set_cons_zero, List.set_cons_succ])))
    refine wpS_skip _ rfl (by rfl) HS0.out ?_
    simp only [Act.put, List.getElem_toArray, List.getElem_cons_zero, List.getElem_cons_succ, List.setIfInBounds_toArray, List.set_cons_zero, List.set_cons_succ]
    (repeat (first | (refine wpS_pass _ rfl (by rfl) ?_; simp only [Act.put, List.getElem_toArray, List.getElem_cons_zero, List.getElem_cons_succ, List.setIfInBounds_toArray, List.set_cons_zero, List.set_cons_succ]) | (refine wpS_take _ ?_ rfl (by rfl) ?_ ?_; rotate_left; (focus (intro w' hS'; (try dsimp only at hS'); (repeat (have hS1 := hS'.1; replace hS' := hS'.2)); go_simp; (try with_reducible rfl); done)); simp only [Act.put, List.getElem_toArray, List.getElem_cons_zero, List.getElem_cons_succ, List.setIfInBounds_toArray, List.set_cons_zero, List.set_cons_succ])))
    refine wpS_skip _ rfl (by rfl) HS0.out ?_
    simp only [Act.put, List.getElem_toArray, List.getElem_cons_zero, List.getElem_cons_succ, List.setIfInBounds_toArray, List.set_cons_zero, List.set_cons_succ]
    (repeat (first | (refine wpS_pass _ rfl (by rfl) ?_; simp only [Act.put, List.getElem_toArray, List.getElem_cons_zero, List.getElem_cons_succ, List.setIfInBounds_toArray, List.set_cons_zero, List.set_cons_succ]) | (refine wpS_take _ ?_ rfl (by rfl) ?_ ?_; rotate_left; (focus (intro w' hS'; (try dsimp only at hS'); (repeat (have hS1 := hS'.1; replace hS' := hS'.2)); go_simp; (try with_reducible rfl); done)); simp only [Act.put, List.getElem_toArray, List.getElem_cons_zero, List.getElem_cons_succ, List.setIfInBounds_toArray, List.set_cons_zero, List.set_cons_succ])))
    refine wpS_skip _ rfl (by rfl) HS0.out ?_
    simp only [Act.put, List.getElem_toArray, List.getElem_cons_zero, List.getElem_cons_succ, List.setIfInBounds_toArray, List.set_cons_zero, List.set_cons_succ]
    (repeat (first | (refine wpS_pass _ rfl (by rfl) ?_; simp only [Act.put, List.getElem_toArray, List.getElem_cons_zero, List.getElem_cons_succ, List.setIfInBounds_toArray, List.set_cons_zero, List.set_cons_succ]) | (refine wpS_take _ ?_ rfl (by rfl) ?_ ?_; rotate_left; (focus (intro w' hS'; (try dsimp only at hS'); (repeat (have hS1 := hS'.1; replace hS' := hS'.2)); go_simp; (try with_reducible rfl); done)); simp only [Act.put, List.getElem_toArray, List.getElem_cons_zero, List.getElem_cons_succ, List.setIfInBounds_toArray, List.set_cons_zero, List.set_cons_succ])))
    refine wpS_done ?_
    go_wp2_with fail
    go_ret
    exact ⟨ret_bool (by rw [← HV.out]; exact (rightL_head (by unfold headB; rw [C1.out]; simp)).symm), HBW.out _ HBD.out⟩
  have C1 := Lib.hid c1
  clear c1
  (repeat (first | (refine wpS_pass _ rfl (by rfl) ?_; simp only [Act.put, List.getElem_toArray, List.getElem_cons_zero, List.getElem_cons_succ, List.setIfInBounds_toArray, List.set_cons_zero, List.set_cons_succ]) | (refine wpS_take _ ?_ rfl (by rfl) ?_ ?_; rotate_left; (focus (intro w' hS'; (try dsimp only at hS'); (repeat (have hS1 := hS'.1; replace hS' := hS'.2)); go_simp; (try with_reducible rfl); done)); simp only [Act.put, List.getElem_toArray, List.getElem_cons_zero, List.getElem_cons_succ, List.setIfInBounds_toArray, List.set_cons_zero, List.set_cons_succ])))
  refine wpS_do _ rfl (by rfl) (fun K hK => ?_)
  go_simp
  refine (within_any l.to_ 1 65536 _).mono ?_
  rintro e w3 ⟨rfl, rfl⟩
  refine hK.out _ _ HS0.out (fun hS => ?_)
  clear hK hS
  cases c2 : withinB l.to_ 1 65536
  · have C2 := Lib.hid c2
    clear c2
    (repeat (first | (refine wpS_pass _ rfl (by rfl) ?_; simp only [Act.put, List.getElem_toArray, List.getElem_cons_zero, List.getElem_cons_succ, List.setIfInBounds_toArray, List.set_cons_zero, List.set_cons_succ]) | (refine wpS_take _ ?_ rfl (by rfl) ?_ ?_; rotate_left; (focus (intro w' hS'; (try dsimp only at hS'); (repeat (have hS1 := hS'.1; replace hS' := hS'.2)); go_simp; (try with_reducible rfl); done)); simp only [Act.put, List.getElem_toArray, List.getElem_cons_zero, List.getElem_cons_succ, List.setIfInBounds_toArray, List.set_cons_zero, List.set_cons_succ])))
    refine wpS_skip _ rfl (by rfl) HS0.out ?_
    simp only [Act.put, List.getElem_toArray, List.getElem_cons_zero, List.getElem_cons_succ, List.setIfInBounds_toArray, List.set_cons_zero, List.set_cons_succ]
    (repeat (first | (refine wpS_pass _ rfl (by rfl) ?_; simp only [Act.put, List.getElem_toArray, List.getElem_cons_zero, List.getElem_cons_succ, List.setIfInBounds_toArray, List.set_cons_zero, List.set_cons_succ]) | (refine wpS_take _ ?_ rfl (by rfl) ?_ ?_; rotate_left; (focus (intro w' hS'; (try dsimp only at hS'); (repeat (have hS1 := hS'.1; replace hS' := hS'.2)); go_simp; (try with_reducible rfl); done)); simp only [Act.put, List.getElem_toArray, List.getElem_cons_zero, List.getElem_cons_succ, List.setIfInBounds_toArray, List.set_cons_zero, List.set_cons_succ])))
    refine wpS_skip _ rfl (by rfl) HS0.out ?_
    simp only [Act.put, List.getElem_toArray, List.getElem_cons_zero, List.getElem_cons_succ, List.setIfInBounds_toArray, List.set_cons_zero, List.set_cons_succ]
    (repeat (first | (refine wpS_pass _ rfl (by rfl) ?_; simp only [Act.put, List.getElem_toArray, List.getElem_cons_zero, List.getElem_cons_succ, List.setIfInBounds_toArray, List.set_cons_zero, List.set_cons_succ]) | (refine wpS_take _ ?_ rfl (by rfl) ?_ ?_; rotate_left; (focus (intro w' hS'; (try dsimp only at hS'); (repeat (have hS1 := hS'.1; replace hS' := hS'.2)); go_simp; (try with_reducible rfl); done)); simp only [Act.put, List.getElem_toArray, List.getElem_cons_zero, List.getElem_cons_succ, List.setIfInBounds_toArray, List.set_cons_zero, List.set_cons_succ])))
    refine wpS_done ?_
    go_wp2_with fail
    go_ret
    exact ⟨ret_bool (by rw [← HV.out]; exact (rightL_head (by unfold headB; rw [C2.out]; simp)).symm), HBW.out _ HBD.out⟩
  have C2 := Lib.hid c2
  clear c2
  cases c3 : (l.from_ == l.to_)
  rotate_left
  · have C3 := Lib.hid c3
    (repeat (first | (refine wpS_pass _ rfl (by rfl) ?_; simp only [Act.put, List.getElem_toArray, List.getElem_cons_zero, List.getElem_cons_succ, List.setIfInBounds_toArray, List.set_cons_zero, List.set_cons_succ]) | (refine wpS_take _ ?_ rfl (by rfl) ?_ ?_; rotate_left; (focus (intro w' hS'; (try dsimp only at hS'); (repeat (have hS1 := hS'.1; replace hS' := hS'.2)); go_simp; (try with_reducible rfl); done)); simp only [Act.put, List.getElem_toArray, List.getElem_cons_zero, List.getElem_cons_succ, List.setIfInBounds_toArray, List.set_cons_zero, List.set_cons_succ])))
    refine wpS_skip _ rfl (by rfl) HS0.out ?_
    simp only [Act.put, List.getElem_toArray, List.getElem_cons_zero, List.getElem_cons_succ, List.setIfInBounds_toArray, List.set_cons_zero, List.set_cons_succ]
    (repeat (first | (refine wpS_pass _ rfl (by rfl) ?_; simp only [Act.put, List.getElem_toArray, List.getElem_cons_zero, List.getElem_cons_succ, List.setIfInBounds_toArray, List.set_cons_zero, List.set_cons_succ]) | (refine wpS_take _ ?_ rfl (by rfl) ?_ ?_; rotate_left; (focus (intro w' hS'; (try dsimp only at hS'); (repeat (have hS1 := hS'.1; replace hS' := hS'.2)); go_simp; (try with_reducible rfl); done)); simp only [Act.put, List.getElem_toArray, List.getElem_cons_zero, List.getElem_cons_succ, List.setIfInBounds_toArray, List.set_cons_zero, List.set_cons_succ])))
    refine wpS_skip _ rfl (by rfl) HS0.out ?_
    simp only [Act.put, List.getElem_toArray, List.getElem_cons_zero, List.getElem_cons_succ, List.setIfInBounds_toArray, List.set_cons_zero, List.set_cons_succ]
    (repeat (first | (refine wpS_pass _ rfl (by rfl) ?_; simp only [Act.put, List.getElem_toArray, List.getElem_cons_zero, List.getElem_cons_succ, List.setIfInBounds_toArray, List.set_cons_zero, List.set_cons_succ]) | (refine wpS_take _ ?_ rfl (by rfl) ?_ ?_; rotate_left; (focus (intro w' hS'; (try dsimp only at hS'); (repeat (have hS1 := hS'.1; replace hS' := hS'.2)); go_simp; (try with_reducible rfl); done)); simp only [Act.put, List.getElem_toArray, List.getElem_cons_zero, List.getElem_cons_succ, List.setIfInBounds_toArray, List.set_cons_zero, List.set_cons_succ])))
    refine wpS_done ?_
    go_wp2_with fail
    go_ret
    exact ⟨ret_bool (by rw [← HV.out]; exact (rightL_head (by unfold headB; rw [C3.out]; simp)).symm), HBW.out _ HBD.out⟩
  have C3 := Lib.hid c3
  cases c4 : decide (l.session < 1)
  rotate_left
  · have C4 := Lib.hid c4
    (repeat (first | (refine wpS_pass _ rfl (by rfl) ?_; simp only [Act.put, List.getElem_toArray, List.getElem_cons_zero, List.getElem_cons_succ, List.setIfInBounds_toArray, List.set_cons_zero, List.set_cons_succ]) | (refine wpS_take _ ?_ rfl (by rfl) ?_ ?_; rotate_left; (focus (intro w' hS'; (try dsimp only at hS'); (repeat (have hS1 := hS'.1; replace hS' := hS'.2)); go_simp; (try with_reducible rfl); done)); simp only [Act.put, List.getElem_toArray, List.getElem_cons_zero, List.getElem_cons_succ, List.setIfInBounds_toArray, List.set_cons_zero, List.set_cons_succ])))
    refine wpS_skip _ rfl (by rfl) HS0.out ?_
    simp only [Act.put, List.getElem_toArray, List.getElem_cons_zero, List.getElem_cons_succ, List.setIfInBounds_toArray, List.set_cons_zero, List.set_cons_succ]
    (repeat (first | (refine wpS_pass _ rfl (by rfl) ?_; simp only [Act.put, List.getElem_toArray, List.getElem_cons_zero, List.getElem_cons_succ, List.setIfInBounds_toArray, List.set_cons_zero, List.set_cons_succ]) | (refine wpS_take _ ?_ rfl (by rfl) ?_ ?_; rotate_left; (focus (intro w' hS'; (try dsimp only at hS'); (repeat (have hS1 := hS'.1; replace hS' := hS'.2)); go_simp; (try with_reducible rfl); done)); simp only [Act.put, List.getElem_toArray, List.getElem_cons_zero, List.getElem_cons_succ, List.setIfInBounds_toArray, List.set_cons_zero, List.set_cons_succ])))
    refine wpS_skip _ rfl (by rfl) HS0.out ?_
    simp only [Act.put, List.getElem_toArray, List.getElem_cons_zero, List.getElem_cons_succ, List.setIfInBounds_toArray, List.set_cons_zero, List.set_cons_succ]
    (repeat (first | (refine wpS_pass _ rfl (by rfl) ?_; simp only [Act.put, List.getElem_toArray, List.getElem_cons_zero, List.getElem_cons_succ, List.setIfInBounds_toArray, List.set_cons_zero, List.set_cons_succ]) | (refine wpS_take _ ?_ rfl (by rfl) ?_ ?_; rotate_left; (focus (intro w' hS'; (try dsimp only at hS'); (repeat (have hS1 := hS'.1; replace hS' := hS'.2)); go_simp; (try with_reducible rfl); done)); simp only [Act.put, List.getElem_toArray, List.getElem_cons_zero, List.getElem_cons_succ, List.setIfInBounds_toArray, List.set_cons_zero, List.set_cons_succ])))
    refine wpS_done ?_
    go_wp2_with fail
    go_ret
    exact ⟨ret_bool (by rw [← HV.out]; exact (rightL_head (by unfold headB; rw [C4.out]; simp)).symm), HBW.out _ HBD.out⟩
  have C4 := Lib.hid c4
  cases c5 : decide (1099511627776 < l.session)
  rotate_left
  · have C5 := Lib.hid c5
    (repeat (first | (refine wpS_pass _ rfl (by rfl) ?_; simp only [Act.put, List.getElem_toArray, List.getElem_cons_zero, List.getElem_cons_succ, List.setIfInBounds_toArray, List.set_cons_zero, List.set_cons_succ]) | (refine wpS_take _ ?_ rfl (by rfl) ?_ ?_; rotate_left; (focus (intro w' hS'; (try dsimp only at hS'); (repeat (have hS1 := hS'.1; replace hS' := hS'.2)); go_simp; (try with_reducible rfl); done)); simp only [Act.put, List.getElem_toArray, List.getElem_cons_zero, List.getElem_cons_succ, List.setIfInBounds_toArray, List.set_cons_zero, List.set_cons_succ])))
    refine wpS_skip _ rfl (by rfl) HS0.out ?_
    simp only [Act.put, List.getElem_toArray, List.getElem_cons_zero, List.getElem_cons_succ, List.setIfInBounds_toArray, List.set_cons_zero, List.set_cons_succ]
    (repeat (first | (refine wpS_pass _ rfl (by rfl) ?_; simp only [Act.put, List.getElem_toArray, List.getElem_cons_zero, List.getElem_cons_succ, List.setIfInBounds_toArray, List.set_cons_zero, List.set_cons_succ]) | (refine wpS_take _ ?_ rfl (by rfl) ?_ ?_; rotate_left; (focus (intro w' hS'; (try dsimp only at hS'); (repeat (have hS1 := hS'.1; replace hS' := hS'.2)); go_simp; (try with_reducible rfl); done)); simp only [Act.put, List.getElem_toArray, List.getElem_cons_zero, List.getElem_cons_succ, List.setIfInBounds_toArray, List.set_cons_zero, List.set_cons_succ])))
    refine wpS_skip _ rfl (by rfl) HS0.out ?_
    simp only [Act.put, List.getElem_toArray, List.getElem_cons_zero, List.getElem_cons_succ, List.setIfInBounds_toArray, List.set_cons_zero, List.set_cons_succ]
    (repeat (first | (refine wpS_pass _ rfl (by rfl) ?_; simp only [Act.put, List.getElem_toArray, List.getElem_cons_zero, List.getElem_cons_succ, List.setIfInBounds_toArray, List.set_cons_zero, List.set_cons_succ]) | (refine wpS_take _ ?_ rfl (by rfl) ?_ ?_; rotate_left; (focus (intro w' hS'; (try dsimp only at hS'); (repeat (have hS1 := hS'.1; replace hS' := hS'.2)); go_simp; (try with_reducible rfl); done)); simp only [Act.put, List.getElem_toArray, List.getElem_cons_zero, List.getElem_cons_succ, List.setIfInBounds_toArray, List.set_cons_zero, List.set_cons_succ])))
    refine wpS_done ?_
    go_wp2_with fail
    go_ret
    exact ⟨ret_bool (by rw [← HV.out]; exact (rightL_head (by unfold headB; rw [C5.out]; simp)).symm), HBW.out _ HBD.out⟩
  have C5 := Lib.hid c5
  have HHD : Hid (headB l = true) := Lib.hid (by unfold headB; rw [C1.out, C2.out, C3.out, C4.out, C5.out]; rfl)
  (repeat (first | (refine wpS_pass _ rfl (by rfl) ?_; simp only [Act.put, List.getElem_toArray, List.getElem_cons_zero, List.getElem_cons_succ, List.setIfInBounds_toArray, List.set_cons_zero, List.set_cons_succ]) | (refine wpS_take _ ?_ rfl (by rfl) ?_ ?_; rotate_left; (focus (intro w' hS'; (try dsimp only at hS'); (repeat (have hS1 := hS'.1; replace hS' := hS'.2)); go_simp; (try with_reducible rfl); done)); simp only [Act.put, List.getElem_toArray, List.getElem_cons_zero, List.getElem_cons_succ, List.setIfInBounds_toArray, List.set_cons_zero, List.set_cons_succ])))
  refine wpS_load _ rfl (by rfl) _ _ rfl g 0 rfl (l.cells p) _ (fun w' hS' => range_of_row (HF.out w' hS'.2.2.2)) Try.underlying28 rfl HIL.out ?_
  simp only [Act.put, List.getElem_toArray, List.getElem_cons_zero, List.getElem_cons_succ, List.setIfInBounds_toArray, List.set_cons_zero, List.set_cons_succ]
  refine wpS_load _ rfl (by rfl) _ _ rfl g 0 rfl (l.cells p) _ (fun w' hS' => range_of_row (HF.out w' hS'.2.2.2)) Try.underlying28 rfl HIL.out ?_
  simp only [Act.put, List.getElem_toArray, List.getElem_cons_zero, List.getElem_cons_succ, List.setIfInBounds_toArray, List.set_cons_zero, List.set_cons_succ]
  clear c3 c4 c5
  refine wpS_do _ rfl (by rfl) (fun K hK => ?_)
  go_simp
  refine (bare_any l p _ HLN.out).mono ?_
  rintro e w4 ⟨rfl, hb4⟩
  have HB4 : Hid (Below W1.heap.size W1 w4) := Lib.hid (HBD.out.trans hb4)
  refine hK.out _ _ (HS.out _ HB4.out) (fun hS => ?_)
  clear hK hS hb4
  have HIN4 := Lib.hid (HIN.out.below HB4.out)
  refine wpS_do _ rfl (by rfl) (fun K hK => ?_)
  go_simp
  refine (lsame_any l (bareL l) p (bareP l.kind p) w4 HIN4.out (bare_in HIN4.out)).mono ?_
  rintro e w5 ⟨rfl, hb5⟩
  have HB5 : Hid (Below W1.heap.size W1 w5) := Lib.hid (ext_trans HB4.out hb5)
  refine hK.out _ _ (HS.out _ HB5.out) (fun hS => ?_)
  clear hK hS hb5
  cases c6 : sameL l (bareL l)
  · have C6 := Lib.hid c6
    clear c6
    (repeat (first | (refine wpS_pass _ rfl (by rfl) ?_; simp only [Act.put, List.getElem_toArray, List.getElem_cons_zero, List.getElem_cons_succ, List.setIfInBounds_toArray, List.set_cons_zero, List.set_cons_succ]) | (refine wpS_take _ ?_ rfl (by rfl) ?_ ?_; rotate_left; (focus (intro w' hS'; (try dsimp only at hS'); (repeat (have hS1 := hS'.1; replace hS' := hS'.2)); go_simp; (try with_reducible rfl); done)); simp only [Act.put, List.getElem_toArray, List.getElem_cons_zero, List.getElem_cons_succ, List.setIfInBounds_toArray, List.set_cons_zero, List.set_cons_succ])))
    refine wpS_done ?_
    go_wp2_with fail
    go_ret
    exact ⟨ret_bool (by rw [← HV.out]; exact (rightL_same C6.out).symm), HBW.out _ HB5.out⟩
  have HRR : Hid (rightL l = kindB l) := Lib.hid (rightL_rest HHD.out c6)
  clear c6
  (repeat (first | (refine wpS_pass _ rfl (by rfl) ?_; simp only [Act.put, List.getElem_toArray, List.getElem_cons_zero, List.getElem_cons_succ, List.setIfInBounds_toArray, List.set_cons_zero, List.set_cons_succ]) | (refine wpS_take _ ?_ rfl (by rfl) ?_ ?_; rotate_left; (focus (intro w' hS'; (try dsimp only at hS'); (repeat (have hS1 := hS'.1; replace hS' := hS'.2)); go_simp; (try with_reducible rfl); done)); simp only [Act.put, List.getElem_toArray, List.getElem_cons_zero, List.getElem_cons_succ, List.setIfInBounds_toArray, List.set_cons_zero, List.set_cons_succ])))
  refine wpS_done ?_
  obtain ⟨x0, x1, x2, x3, x4, x5, x6, x7, x8, x9, xp⟩ := ltRow_of (HF.out _ HB5.out) HLN.out
  clear x1 x2 x3
  have HIN5 := Lib.hid (HIN.out.below HB5.out)
  by_cases e1 : l.kind = 1
  · have d1 : (l.kind == 1) = true := by rw [e1]; rfl
    have E1 := Lib.hid (kindB_1 e1)
    clear e1
    go_wp2_with fail
    go_ret
    exact ⟨ret_bool (by rw [← HV.out, HRR.out, E1.out]), HBW.out _ HB5.out⟩
  have d1 : (l.kind == 1) = false := by simpa using e1
  by_cases e2 : l.kind = 2
  · have d2 : (l.kind == 2) = true := by rw [e2]; rfl
    have E2 := Lib.hid (kindB_2 e2)
    clear e1 e2
    go_wp2_with fail
    refine (rightRefs_any p.rA l.refs p.rc w5 HIN5.out.rr.1 HIN5.out.rok HIN5.out.rr.2.1 HIN5.out.rr.2.2).mono ?_
    rintro e w6 ⟨rfl, hb6⟩
    go_wp2_with fail
    go_ret
    exact ⟨ret_bool (by rw [← HV.out, HRR.out, E2.out]), HBW.out _ (ext_trans HB5.out hb6)⟩
  have d2 : (l.kind == 2) = false := by simpa using e2
  by_cases e3 : l.kind = 3
  · have d3 : (l.kind == 3) = true := by rw [e3]; rfl
    have E3 := Lib.hid (kindB_3 e3)
    clear e1 e2 e3
    go_wp2_with fail
    refine (within_any (l.wants.length : Int) 1 100 _).mono ?_
    rintro e w6 ⟨rfl, rfl⟩
    clear d1 d2 d3
    cases c7 : withinB (l.wants.length : Int) 1 100
    · have C7 := Lib.hid c7
      clear c7
      go_wp2_with fail
      go_ret
      exact ⟨ret_bool (by rw [← HV.out, HRR.out, E3.out, C7.out]; rfl), HBW.out _ HB5.out⟩
    have C7 := Lib.hid c7
    clear c7
    by_cases c8 : l.haves.length ≤ 200
    rotate_left
    · have i1 : ¬ (l.haves.length : Int) ≤ 200 := by omega
      have C8 := Lib.hid c8
      clear c8
      go_wp2_with fail
      go_ret
      exact ⟨ret_bool (by rw [← HV.out, HRR.out, E3.out, decide_eq_false C8.out]; simp), HBW.out _ HB5.out⟩
    have i1 : (l.haves.length : Int) ≤ 200 := by omega
    have C8 := Lib.hid c8
    clear c8
    go_wp2_with fail
    refine (rising_any p.wA l.wants p.wc w5 HIN5.out.wr.1 HIN5.out.wok HIN5.out.wr.2.1 HIN5.out.wr.2.2).mono ?_
    rintro e w6 ⟨rfl, hb6⟩
    have HB6 := Lib.hid (ext_trans HB5.out hb6)
    clear hb6 x0 x4 x5 x6 x7 x8 x9 xp
    cases c9 : risingB zeros32 l.wants
    · have C9 := Lib.hid c9
      clear c9
      go_wp2_with fail
      go_ret
      exact ⟨ret_bool (by rw [← HV.out, HRR.out, E3.out, C9.out]; simp), HBW.out _ HB6.out⟩
    have C9 := Lib.hid c9
    clear c9
    have HIN6 := Lib.hid (HIN.out.below HB6.out)
    obtain ⟨_, _, _, _, _, _, x6, _, _, _, _⟩ := ltRow_of (HF.out _ HB6.out) HLN.out
    go_wp2_with fail
    refine (rising_any p.hA l.haves p.hc w6 HIN6.out.hr.1 HIN6.out.hok HIN6.out.hr.2.1 HIN6.out.hr.2.2).mono ?_
    rintro e w7 ⟨rfl, hb7⟩
    have HB7 := Lib.hid (ext_trans HB6.out hb7)
    clear hb7 x6
    cases c10 : risingB zeros32 l.haves
    · have C10 := Lib.hid c10
      clear c10
      go_wp2_with fail
      go_ret
      exact ⟨ret_bool (by rw [← HV.out, HRR.out, E3.out, C10.out]; simp), HBW.out _ HB7.out⟩
    have C10 := Lib.hid c10
    clear c10
    obtain ⟨_, _, _, _, _, _, _, x7, _, _, _⟩ := ltRow_of (HF.out _ HB7.out) HLN.out
    go_wp2_with fail
    refine (within_any l.off 0 1048576 _).mono ?_
    rintro e w8 ⟨rfl, rfl⟩
    go_wp2_with fail
    go_ret
    exact ⟨ret_bool (by rw [← HV.out, HRR.out, E3.out, C7.out, C9.out, C10.out, decide_eq_true C8.out]; simp), HBW.out _ HB7.out⟩
  have d3 : (l.kind == 3) = false := by simpa using e3
  by_cases e4 : l.kind = 4
  rotate_left
  · have d4 : (l.kind == 4) = false := by simpa using e4
    have E0 := Lib.hid (kindB_0 e1 e2 e3 e4)
    clear e1 e2 e3 e4
    go_wp2_with fail
    go_ret
    exact ⟨ret_bool (by rw [← HV.out, HRR.out, E0.out]), HBW.out _ HB5.out⟩
  have d4 : (l.kind == 4) = true := by rw [e4]; rfl
  have E4 := Lib.hid (kindB_4 e4)
  clear e1 e2 e3 e4
  have HIX := Lib.hid (info_id32 l.pack HLN.out)
  obtain ⟨z, hz⟩ : ∃ z, decide (l.pack = zeros32) = z := ⟨_, rfl⟩
  have HZ := Lib.hid hz
  have heq : ∀ w, (binOp .neq 25 (.agg (b8s l.pack).toArray) (.agg #[Value.int .u8 0, Value.int .u8 0, Value.int .u8 0, Value.int .u8 0, Value.int .u8 0, Value.int .u8 0, Value.int .u8 0, Value.int .u8 0, Value.int .u8 0, Value.int .u8 0, Value.int .u8 0, Value.int .u8 0, Value.int .u8 0, Value.int .u8 0, Value.int .u8 0, Value.int .u8 0, Value.int .u8 0, Value.int .u8 0, Value.int .u8 0, Value.int .u8 0, Value.int .u8 0, Value.int .u8 0, Value.int .u8 0, Value.int .u8 0, Value.int .u8 0, Value.int .u8 0, Value.int .u8 0, Value.int .u8 0, Value.int .u8 0, Value.int .u8 0, Value.int .u8 0, Value.int .u8 0])).run Try.prog w = .ok (.bool (!z)) w := fun w => by
    have := neq_id 25 Try.underlying25 l.pack zeros32 HLN.out rfl w
    rw [zeros32_cells] at this
    rw [this, HZ.out]
  have heqi : ∀ w, (Op.equalIn 10000 25 (.agg (b8s l.pack).toArray) (.agg #[Value.int .u8 0, Value.int .u8 0, Value.int .u8 0, Value.int .u8 0, Value.int .u8 0, Value.int .u8 0, Value.int .u8 0, Value.int .u8 0, Value.int .u8 0, Value.int .u8 0, Value.int .u8 0, Value.int .u8 0, Value.int .u8 0, Value.int .u8 0, Value.int .u8 0, Value.int .u8 0, Value.int .u8 0, Value.int .u8 0, Value.int .u8 0, Value.int .u8 0, Value.int .u8 0, Value.int .u8 0, Value.int .u8 0, Value.int .u8 0, Value.int .u8 0, Value.int .u8 0, Value.int .u8 0, Value.int .u8 0, Value.int .u8 0, Value.int .u8 0, Value.int .u8 0, Value.int .u8 0])).run Try.prog w = .ok z w := fun w => by
    have := eqin_id 25 Try.underlying25 9998 l.pack zeros32 HLN.out rfl w
    rw [zeros32_cells] at this
    rw [this, HZ.out]
  have hgd : ∀ o x y w, (eqGuard o 25 x y (.agg (b8s l.pack).toArray) (.agg #[Value.int .u8 0, Value.int .u8 0, Value.int .u8 0, Value.int .u8 0, Value.int .u8 0, Value.int .u8 0, Value.int .u8 0, Value.int .u8 0, Value.int .u8 0, Value.int .u8 0, Value.int .u8 0, Value.int .u8 0, Value.int .u8 0, Value.int .u8 0, Value.int .u8 0, Value.int .u8 0, Value.int .u8 0, Value.int .u8 0, Value.int .u8 0, Value.int .u8 0, Value.int .u8 0, Value.int .u8 0, Value.int .u8 0, Value.int .u8 0, Value.int .u8 0, Value.int .u8 0, Value.int .u8 0, Value.int .u8 0, Value.int .u8 0, Value.int .u8 0, Value.int .u8 0, Value.int .u8 0])).run Try.prog w = .ok () w := fun o x y w => guard_arr o 25 x y _ _ w (by kernel_rfl)
  clear hz
  cases z
  rotate_left
  · go_wp2_with ((with_reducible (refine wpList_load_cells 25 _ g 9 (b8s l.pack) xp Try.underlying25 rfl HIX.out ?_ rfl ?_ ?_)); (exact rfl); (exact rfl))
    go_ret
    exact ⟨ret_bool (by rw [← HV.out, HRR.out, E4.out, HZ.out]; simp), HBW.out _ HB5.out⟩
  go_wp2_with ((with_reducible (refine wpList_load_cells 25 _ g 9 (b8s l.pack) xp Try.underlying25 rfl HIX.out ?_ rfl ?_ ?_)); (exact rfl); (exact rfl))
  refine (within_any l.off 0 1048576 _).mono ?_
  rintro e w6 ⟨rfl, rfl⟩
  clear d1 d2 d3 d4 heq heqi hgd
  cases c7 : withinB l.off 0 1048576
  · have C7 := Lib.hid c7
    clear c7
    go_wp2_with fail
    go_ret
    exact ⟨ret_bool (by rw [← HV.out, HRR.out, E4.out, C7.out]; simp), HBW.out _ HB5.out⟩
  have C7 := Lib.hid c7
  clear c7
  go_wp2_with fail
  refine (within_any l.total 0 1048576 _).mono ?_
  rintro e w6 ⟨rfl, rfl⟩
  cases c8 : withinB l.total 0 1048576
  · have C8 := Lib.hid c8
    clear c8
    go_wp2_with fail
    go_ret
    exact ⟨ret_bool (by rw [← HV.out, HRR.out, E4.out, C8.out]; simp), HBW.out _ HB5.out⟩
  have htb : 0 ≤ l.total ∧ l.total ≤ 1048576 := by simpa [withinB] using c8
  obtain ⟨n, hn⟩ : ∃ n, l.data.length = n := ⟨_, rfl⟩
  have HNN := Lib.hid hn
  rw [hn] at x9
  have C8 := Lib.hid c8
  clear c8
  by_cases c9 : n ≤ 500
  rotate_left
  · have i1 : ¬ (n : Int) ≤ 500 := by omega
    have C9 := (show Hid (decide (l.data.length ≤ 500) = false) from Lib.hid (by rw [hn]; exact decide_eq_false c9))
    clear c9 htb hn
    go_wp2_with fail
    go_ret
    exact ⟨ret_bool (by rw [← HV.out, HRR.out, E4.out, C9.out]; simp), HBW.out _ HB5.out⟩
  have i1 : (n : Int) ≤ 500 := by omega
  have C9 := (show Hid (decide (l.data.length ≤ 500) = true) from Lib.hid (by rw [hn]; exact decide_eq_true c9))
  have hw : IntKind.i64.wrap (l.total - (n : Int)) = l.total - (n : Int) := wrap64_in _ (by omega) (by omega)
  clear c9 hn
  by_cases c10 : l.off ≤ l.total - (n : Int)
  rotate_left
  · have C10 : Hid (decide (l.off ≤ l.total - (l.data.length : Int)) = false) := Lib.hid (by rw [HNN.out]; exact decide_eq_false c10)
    go_wp2_with fail
    go_ret
    exact ⟨ret_bool (by rw [← HV.out, HRR.out, E4.out, C10.out]; simp), HBW.out _ HB5.out⟩
  have C10 : Hid (decide (l.off ≤ l.total - (l.data.length : Int)) = true) := Lib.hid (by rw [HNN.out]; exact decide_eq_true c10)
  by_cases c11 : 0 < n
  · have C11 := Lib.hid (decide_eq_true c11)
    go_wp2_with fail
    go_ret
    exact ⟨ret_bool (by rw [← HV.out, HRR.out, E4.out, HZ.out, C7.out, C8.out, C9.out, C10.out, HNN.out, C11.out]; rfl), HBW.out _ HB5.out⟩
  have C11 := Lib.hid (decide_eq_false c11)
  cases c12 : (l.off == l.total)
  · have C12 := Lib.hid c12
    go_wp2_with fail
    go_ret
    exact ⟨ret_bool (by rw [← HV.out, HRR.out, E4.out, HZ.out, C7.out, C8.out, C9.out, C10.out, HNN.out, C11.out, C12.out]; rfl), HBW.out _ HB5.out⟩
  have C12 := Lib.hid c12
  go_wp2_with fail
  go_ret
  exact ⟨ret_bool (by rw [← HV.out, HRR.out, E4.out, HZ.out, C7.out, C8.out, C9.out, C10.out, HNN.out, C11.out, C12.out]; rfl), HBW.out _ HB5.out⟩
end Go.Proofs.Ytfjfidhhmidflaa
