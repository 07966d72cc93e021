
/- StampOrders: the walk. -/

import Derived.Test.YtabkgoandfpclaaStAl1

namespace Go.Proofs.Ytabkgoandfpclaa

set_option linter.unusedVariables false

set_option linter.unusedSimpArgs false

open Go.RowKit

theorem cmpI_three (a b : Int) : (cmpI a b = -1 ∧ cmpI b a = 1) ∨ (cmpI a b = 0 ∧ cmpI b a = 0 ∧ a = b) ∨ (cmpI a b = 1 ∧ cmpI b a = -1) := by
  unfold cmpI
  rcases Int.lt_trichotomy a b with h | h | h
  · left
    rw [if_pos h, if_neg (by omega), if_pos h]
    exact ⟨rfl, rfl⟩
  · subst h
    right; left
    simp
  · right; right
    rw [if_neg (by omega), if_pos h, if_pos h]
    exact ⟨rfl, rfl⟩
theorem cmpS_three (a b : Stm) : (cmpS a b = -1 ∧ cmpS b a = 1) ∨ (cmpS a b = 0 ∧ cmpS b a = 0 ∧ a = b) ∨ (cmpS a b = 1 ∧ cmpS b a = -1) := by
  obtain ⟨t, r⟩ := a
  obtain ⟨t', r'⟩ := b
  unfold cmpS
  dsimp only
  rcases cmpI_three t t' with ⟨h1, h2⟩ | ⟨h1, h2, h3⟩ | ⟨h1, h2⟩
  · left; rw [h1, h2]; exact ⟨rfl, rfl⟩
  · rw [h1, h2]
    rcases cmpI_three r r' with ⟨k1, k2⟩ | ⟨k1, k2, k3⟩ | ⟨k1, k2⟩
    · left; rw [k1, k2]; exact ⟨rfl, rfl⟩
    · right; left; rw [k1, k2, h3, k3]; exact ⟨rfl, rfl, rfl⟩
    · right; right; rw [k1, k2]; exact ⟨rfl, rfl⟩
  · right; right; rw [h1, h2]; exact ⟨rfl, rfl⟩

set_option maxRecDepth 100000 in
set_option maxHeartbeats 4000000 in
theorem stampOrders_any (a b : Stm) (s : ByteArray) (w : World) (hm : s.size ≤ 9223372036854775807) :
    Calls Try.prog 3 #[a.val, b.val, .string s] w fun e w' => e = .returned (.bool true) ∧ Below w.heap.size w w' := by
  obtain ⟨W1, hW1⟩ : ∃ W1, w.alloc (.cells a.cells.toArray 23) = W1 := ⟨_, rfl⟩
  obtain ⟨W2, hW2⟩ : ∃ W2, W1.alloc (.cells b.cells.toArray 23) = W2 := ⟨_, rfl⟩
  have hr1 : W1.heap[w.heap.size]? = some (.cells a.cells.toArray 23 (0, 0)) := by rw [← hW1]; exact heap_alloc_new w _
  have hr2 : W2.heap[W1.heap.size]? = some (.cells b.cells.toArray 23 (0, 0)) := by rw [← hW2]; exact heap_alloc_new W1 _
  have hb1 : Below w.heap.size w W1 := by rw [← hW1]; exact (Below.refl _ _).alloc (Nat.le_refl _) _
  have hb2 : Below W1.heap.size W1 W2 := by rw [← hW2]; exact (Below.refl _ _).alloc (Nat.le_refl _) _
  have hr3 := (hb2.block _ (Array.getElem?_eq_some_iff.1 hr1).1).trans hr1
  have HB2 := Lib.hid (ext_trans hb1 hb2)
  obtain ⟨x, hx⟩ : ∃ x, cmpS a b = x := ⟨_, rfl⟩
  obtain ⟨y, hy⟩ : ∃ y, cmpS b a = y := ⟨_, rfl⟩
  obtain ⟨q, hq⟩ : ∃ q, rightB a = q := ⟨_, rfl⟩
  obtain ⟨n, hn⟩ : ∃ n, nameS s = n := ⟨_, rfl⟩
  have HX := Lib.hid hx
  have HY := Lib.hid hy
  have HQ := Lib.hid hq
  have HN := Lib.hid hn
  have h3 := cmpS_three a b
  rw [hx, hy] at h3
  have h4 : (x = -1 ∧ y = 1) ∨ (x = 0 ∧ y = 0) ∨ (x = 1 ∧ y = -1) := by
    rcases h3 with h | h | h
    · exact .inl h
    · exact .inr (.inl ⟨h.1, h.2.1⟩)
    · exact .inr (.inr h)
  have HA := Lib.hid (range_of_row hr3)
  have HAL := Lib.hid (Array.getElem?_eq_some_iff.1 hr3).1
  have HBR := Lib.hid (range_of_row hr2)
  have HBL := Lib.hid (Array.getElem?_eq_some_iff.1 hr2).1
  obtain ⟨g, hg⟩ : ∃ g, w.heap.size = g := ⟨_, rfl⟩
  obtain ⟨g', hg'⟩ : ∃ g, W1.heap.size = g := ⟨_, rfl⟩
  rw [hg] at HA HAL HB2 ⊢
  rw [hg'] at HBR HBL
  rw [Stm.val_cells, Stm.val_cells]
  clear hr1 hr2 hb1 hb2 hr3 hx hy hq hn h3
  go_enter Try.func3, Try.ntmps3
  go_wp2_with fail
  clear hg hg' hW1 hW2
  refine (alive_any W2).mono ?_
  rintro e w3 ⟨rfl, hb3⟩
  have hgw : g ≤ W2.heap.size := Nat.le_of_lt HAL.out
  have HB3 := Lib.hid (HB2.out.trans (hb3.mono hgw))
  have HA3 := Lib.hid (range_below HA.out HAL.out hb3)
  have HR3 := Lib.hid (range_below HBR.out HBL.out hb3)
  have HAL3 := Lib.hid (Nat.lt_of_lt_of_le HAL.out hb3.size)
  have HBL3 := Lib.hid (Nat.lt_of_lt_of_le HBL.out hb3.size)
  clear hb3 hgw
  go_wp2_with fail
  rcases h4 with ⟨rfl, rfl⟩ | ⟨rfl, rfl⟩ | ⟨rfl, rfl⟩
  all_goals
    refine wp_region_sched (fun w' => Below w3.heap.size w3 w')
      [(true, 0), (true, 1), (true, 3), (true, 4), (false, 2), (false, 5), (true, 6), (true, 7), (true, 8), (true, 9), (true, 11), (true, 12), (false, 10), (false, 13), (true, 14), (true, 15), (true, 16), (true, 17), (true, 18), (true, 20), (false, 19), (false, 21), (true, 22), (true, 23), (true, 24), (true, 25), (true, 27), (false, 26), (false, 28), (true, 29), (true, 30), (true, 31)] (by kernel_rfl) (by kernel_rfl) rfl (by kernel_rfl) (Below.refl _ _).drew ?_
    refine wpS_load_stm _ rfl (by rfl) _ _ rfl _ _ rfl a _ (fun w' hS' => range_below HA3.out HAL3.out hS') Try.underlying23 rfl info_stm ?_
    simp only [Act.put, List.getElem_toArray, List.getElem_cons_zero, List.getElem_cons_succ, List.setIfInBounds_toArray, List.set_cons_zero, List.set_cons_succ]
    refine wpS_load_stm _ rfl (by rfl) _ _ rfl _ _ rfl b _ (fun w' hS' => range_below HR3.out HBL3.out hS') Try.underlying23 rfl info_stm ?_
    simp only [Act.put, List.getElem_toArray, List.getElem_cons_zero, List.getElem_cons_succ, List.setIfInBounds_toArray, List.set_cons_zero, List.set_cons_succ]
    refine wpS_load_stm _ rfl (by rfl) _ _ rfl _ _ rfl a _ (fun w' hS' => range_below HA3.out HAL3.out hS') Try.underlying23 rfl info_stm ?_
    simp only [Act.put, List.getElem_toArray, List.getElem_cons_zero, List.getElem_cons_succ, List.setIfInBounds_toArray, List.set_cons_zero, List.set_cons_succ]
    refine wpS_load_stm _ rfl (by rfl) _ _ rfl _ _ rfl b _ (fun w' hS' => range_below HR3.out HBL3.out hS') Try.underlying23 rfl info_stm ?_
    simp only [Act.put, List.getElem_toArray, List.getElem_cons_zero, List.getElem_cons_succ, List.setIfInBounds_toArray, List.set_cons_zero, List.set_cons_succ]
    refine wpS_do _ rfl (by rfl) (fun K hK => ?_)
    go_simp
    refine (cmp_any a b _).mono ?_
    rintro e w4 ⟨rfl, hb4⟩
    rw [HX.out]
    have hc4 : Below w3.heap.size w3 w4 := (Below.refl _ _).drew.trans hb4
    refine hK.out _ _ hc4 (fun hS => ?_)
    clear hK hS
    refine wpS_do _ rfl (by rfl) (fun K hK => ?_)
    go_simp
    refine (rcmp_any a b _).mono ?_
    rintro e w5 ⟨rfl, hb5⟩
    rw [HX.out]
    have hc5 := hc4.trans (hb5.mono hc4.size)
    refine hK.out _ _ hc5 (fun hS => ?_)
    clear hK hS
    (repeat (first | (refine wpS_pass _ rfl (by rfl) ?_; simp only [Act.put, List.getElem_toArray, List.getElem_cons_zero, List.getElem_cons_succ, List.setIfInBounds_toArray, List.set_cons_zero, List.set_cons_succ]) | (refine wpS_take _ ?_ rfl (by rfl) ?_ ?_; rotate_left; (focus (intro w' hS'; (try dsimp only at hS'); (repeat (have hS1 := hS'.1; replace hS' := hS'.2)); go_simp; (try with_reducible rfl); done)); simp only [Act.put, List.getElem_toArray, List.getElem_cons_zero, List.getElem_cons_succ, List.setIfInBounds_toArray, List.set_cons_zero, List.set_cons_succ])))
    refine wpS_load_stm _ rfl (by rfl) _ _ rfl _ _ rfl b _ (fun w' hS' => range_below HR3.out HBL3.out hS') Try.underlying23 rfl info_stm ?_
    simp only [Act.put, List.getElem_toArray, List.getElem_cons_zero, List.getElem_cons_succ, List.setIfInBounds_toArray, List.set_cons_zero, List.set_cons_succ]
    refine wpS_load_stm _ rfl (by rfl) _ _ rfl _ _ rfl a _ (fun w' hS' => range_below HA3.out HAL3.out hS') Try.underlying23 rfl info_stm ?_
    simp only [Act.put, List.getElem_toArray, List.getElem_cons_zero, List.getElem_cons_succ, List.setIfInBounds_toArray, List.set_cons_zero, List.set_cons_succ]
    refine wpS_load_stm _ rfl (by rfl) _ _ rfl _ _ rfl a _ (fun w' hS' => range_below HA3.out HAL3.out hS') Try.underlying23 rfl info_stm ?_
    simp only [Act.put, List.getElem_toArray, List.getElem_cons_zero, List.getElem_cons_succ, List.setIfInBounds_toArray, List.set_cons_zero, List.set_cons_succ]
    refine wpS_load_stm _ rfl (by rfl) _ _ rfl _ _ rfl b _ (fun w' hS' => range_below HR3.out HBL3.out hS') Try.underlying23 rfl info_stm ?_
    simp only [Act.put, List.getElem_toArray, List.getElem_cons_zero, List.getElem_cons_succ, List.setIfInBounds_toArray, List.set_cons_zero, List.set_cons_succ]
    refine wpS_do _ rfl (by rfl) (fun K hK => ?_)
    go_simp
    refine (cmp_any b a _).mono ?_
    rintro e w6 ⟨rfl, hb6⟩
    rw [HY.out]
    have hc6 := hc5.trans (hb6.mono hc5.size)
    refine hK.out _ _ hc6 (fun hS => ?_)
    clear hK hS
    refine wpS_do _ rfl (by rfl) (fun K hK => ?_)
    go_simp
    refine (cmp_any a b _).mono ?_
    rintro e w7 ⟨rfl, hb7⟩
    rw [HX.out]
    have hc7 := hc6.trans (hb7.mono hc6.size)
    refine hK.out _ _ hc7 (fun hS => ?_)
    clear hK hS
    (repeat (first | (refine wpS_pass _ rfl (by rfl) ?_; simp only [Act.put, List.getElem_toArray, List.getElem_cons_zero, List.getElem_cons_succ, List.setIfInBounds_toArray, List.set_cons_zero, List.set_cons_succ]) | (refine wpS_take _ ?_ rfl (by rfl) ?_ ?_; rotate_left; (focus (intro w' hS'; (try dsimp only at hS'); (repeat (have hS1 := hS'.1; replace hS' := hS'.2)); go_simp; (try with_reducible rfl); done)); simp only [Act.put, List.getElem_toArray, List.getElem_cons_zero, List.getElem_cons_succ, List.setIfInBounds_toArray, List.set_cons_zero, List.set_cons_succ])))
    refine wpS_load_stm _ rfl (by rfl) _ _ rfl _ _ rfl a _ (fun w' hS' => range_below HA3.out HAL3.out hS') Try.underlying23 rfl info_stm ?_
    simp only [Act.put, List.getElem_toArray, List.getElem_cons_zero, List.getElem_cons_succ, List.setIfInBounds_toArray, List.set_cons_zero, List.set_cons_succ]
    refine wpS_load_stm _ rfl (by rfl) _ _ rfl _ _ rfl a _ (fun w' hS' => range_below HA3.out HAL3.out hS') Try.underlying23 rfl info_stm ?_
    simp only [Act.put, List.getElem_toArray, List.getElem_cons_zero, List.getElem_cons_succ, List.setIfInBounds_toArray, List.set_cons_zero, List.set_cons_succ]
    refine wpS_do _ rfl (by rfl) (fun K hK => ?_)
    go_simp
    refine (right_any a _).mono ?_
    rintro e w8 ⟨rfl, hb8⟩
    rw [HQ.out]
    have hc8 := hc7.trans (hb8.mono hc7.size)
    refine hK.out _ _ hc8 (fun hS => ?_)
    clear hK hS
    refine wpS_do _ rfl (by rfl) (fun K hK => ?_)
    go_simp
    refine (rright_any a _).mono ?_
    rintro e w9 ⟨rfl, hb9⟩
    rw [HQ.out]
    have hc9 := hc8.trans (hb9.mono hc8.size)
    refine hK.out _ _ hc9 (fun hS => ?_)
    clear hK hS
    (repeat (first | (refine wpS_pass _ rfl (by rfl) ?_; simp only [Act.put, List.getElem_toArray, List.getElem_cons_zero, List.getElem_cons_succ, List.setIfInBounds_toArray, List.set_cons_zero, List.set_cons_succ]) | (refine wpS_take _ ?_ rfl (by rfl) ?_ ?_; rotate_left; (focus (intro w' hS'; (try dsimp only at hS'); (repeat (have hS1 := hS'.1; replace hS' := hS'.2)); go_simp; (try with_reducible rfl); done)); simp only [Act.put, List.getElem_toArray, List.getElem_cons_zero, List.getElem_cons_succ, List.setIfInBounds_toArray, List.set_cons_zero, List.set_cons_succ])))
    refine wpS_do _ rfl (by rfl) (fun K hK => ?_)
    go_simp
    refine (name_any s hm _).mono ?_
    rintro e w10 ⟨rfl, hb10⟩
    rw [HN.out]
    have hc10 := hc9.trans (hb10.mono hc9.size)
    refine hK.out _ _ hc10 (fun hS => ?_)
    clear hK hS
    refine wpS_do _ rfl (by rfl) (fun K hK => ?_)
    go_simp
    refine (rname_any s hm _).mono ?_
    rintro e w11 ⟨rfl, rfl⟩
    rw [HN.out]
    refine hK.out _ _ hc10 (fun hS => ?_)
    clear hK hS
    (repeat (first | (refine wpS_pass _ rfl (by rfl) ?_; simp only [Act.put, List.getElem_toArray, List.getElem_cons_zero, List.getElem_cons_succ, List.setIfInBounds_toArray, List.set_cons_zero, List.set_cons_succ]) | (refine wpS_take _ ?_ rfl (by rfl) ?_ ?_; rotate_left; (focus (intro w' hS'; (try dsimp only at hS'); (repeat (have hS1 := hS'.1; replace hS' := hS'.2)); go_simp; (try with_reducible rfl); done)); simp only [Act.put, List.getElem_toArray, List.getElem_cons_zero, List.getElem_cons_succ, List.setIfInBounds_toArray, List.set_cons_zero, List.set_cons_succ])))
    refine wpS_done ?_
    go_wp2_with fail
    go_ret
    exact ⟨rfl, HB3.out.trans (hc10.mono (Nat.le_of_lt HAL3.out))⟩
end Go.Proofs.Ytabkgoandfpclaa
