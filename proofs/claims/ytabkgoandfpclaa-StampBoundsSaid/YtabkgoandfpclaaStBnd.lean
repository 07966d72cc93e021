
/- StampBounds: the walk. -/

import Derived.Test.YtabkgoandfpclaaStOrd

namespace Go.Proofs.Ytabkgoandfpclaa

set_option linter.unusedVariables false

set_option linter.unusedSimpArgs false

open Go.RowKit

theorem cmpI_lt {a b : Int} (h : a < b) : cmpI a b = -1 := by unfold cmpI; rw [if_pos h]
theorem cmpI_eq (a : Int) : cmpI a a = 0 := by unfold cmpI; rw [if_neg (by omega), if_neg (by omega)]
theorem cmpI_gt {a b : Int} (h : b < a) : cmpI a b = 1 := by unfold cmpI; rw [if_neg (by omega), if_pos h]
theorem cmpI_le {a b : Int} : cmpI a b ≤ 0 ↔ a ≤ b := by
  rcases Int.lt_trichotomy a b with h | h | h
  · rw [cmpI_lt h]; exact ⟨fun _ => by omega, fun _ => by decide⟩
  · subst h; rw [cmpI_eq]; exact ⟨fun _ => Int.le_refl _, fun _ => by decide⟩
  · rw [cmpI_gt h]; exact ⟨fun h' => absurd h' (by decide), fun h' => by omega⟩
theorem cmpS_le {a b : Stm} : cmpS a b ≤ 0 ↔ a.t < b.t ∨ (a.t = b.t ∧ a.r ≤ b.r) := by
  unfold cmpS
  rcases Int.lt_trichotomy a.t b.t with h | h | h
  · rw [cmpI_lt h, if_neg (by decide)]
    exact ⟨fun _ => .inl h, fun _ => by decide⟩
  · rw [h, cmpI_eq, if_pos rfl, cmpI_le]
    exact ⟨fun h' => .inr ⟨rfl, h'⟩, fun h' => by rcases h' with h' | h'; omega; exact h'.2⟩
  · rw [cmpI_gt h, if_neg (by decide)]
    exact ⟨fun h' => absurd h' (by decide), fun h' => by rcases h' with h' | h' <;> omega⟩
theorem cmpS_trans (a b c : Stm) (h1 : cmpS a b ≤ 0) (h2 : cmpS b c ≤ 0) : cmpS a c ≤ 0 := by
  rw [cmpS_le] at *
  omega

set_option maxRecDepth 100000 in
set_option maxHeartbeats 8000000 in
theorem stampBounds_any (a b c : Stm) (w : World) :
    Calls Try.prog 7 #[a.val, b.val, c.val] w fun e w' => e = .returned (.bool true) ∧ Below w.heap.size w w' := by
  obtain ⟨W1, hW1⟩ : ∃ W1, w.alloc (.cells a.cells.toArray 23) = W1 := ⟨_, rfl⟩
  obtain ⟨W2, hW2⟩ : ∃ W2, W1.alloc (.cells b.cells.toArray 23) = W2 := ⟨_, rfl⟩
  obtain ⟨W3, hW3⟩ : ∃ W3, W2.alloc (.cells c.cells.toArray 23) = W3 := ⟨_, rfl⟩
  have hr1 : W1.heap[w.heap.size]? = some (.cells a.cells.toArray 23 (0, 0)) := by rw [← hW1]; exact heap_alloc_new w _
  have hr2 : W2.heap[W1.heap.size]? = some (.cells b.cells.toArray 23 (0, 0)) := by rw [← hW2]; exact heap_alloc_new W1 _
  have hr3 : W3.heap[W2.heap.size]? = some (.cells c.cells.toArray 23 (0, 0)) := by rw [← hW3]; exact heap_alloc_new W2 _
  have hb1 : Below w.heap.size w W1 := by rw [← hW1]; exact (Below.refl _ _).alloc (Nat.le_refl _) _
  have hb2 : Below W1.heap.size W1 W2 := by rw [← hW2]; exact (Below.refl _ _).alloc (Nat.le_refl _) _
  have hb3 : Below W2.heap.size W2 W3 := by rw [← hW3]; exact (Below.refl _ _).alloc (Nat.le_refl _) _
  have ha3 := (hb3.block _ (Nat.lt_of_lt_of_le (Array.getElem?_eq_some_iff.1 hr1).1 hb2.size)).trans ((hb2.block _ (Array.getElem?_eq_some_iff.1 hr1).1).trans hr1)
  have hb3' := (hb3.block _ (Array.getElem?_eq_some_iff.1 hr2).1).trans hr2
  have HB3 := Lib.hid (ext_trans hb1 (ext_trans hb2 hb3))
  obtain ⟨g, hg⟩ : ∃ g, w.heap.size = g := ⟨_, rfl⟩
  obtain ⟨g', hg'⟩ : ∃ g, W1.heap.size = g := ⟨_, rfl⟩
  obtain ⟨g'', hg''⟩ : ∃ g, W2.heap.size = g := ⟨_, rfl⟩
  have HGL : Hid (g ≤ W3.heap.size) := Lib.hid (by rw [← hg]; exact HB3.out.size)
  rw [hg] at ha3 HB3 ⊢
  rw [hg'] at hb3'
  rw [hg''] at hr3
  have HA := Lib.hid (range_of_row ha3)
  have HAL := Lib.hid (Array.getElem?_eq_some_iff.1 ha3).1
  have HBR := Lib.hid (range_of_row hb3')
  have HBL := Lib.hid (Array.getElem?_eq_some_iff.1 hb3').1
  have HC := Lib.hid (range_of_row hr3)
  have HCL := Lib.hid (Array.getElem?_eq_some_iff.1 hr3).1
  rw [Stm.val_cells, Stm.val_cells, Stm.val_cells]
  clear hr1 hr2 hr3 hb1 hb2 hb3 ha3 hb3'
  go_enter Try.func7, Try.ntmps7
  go_wp2_with fail
  clear hg hg' hg'' hW1 hW2 hW3
  refine (alive_any W3).mono ?_
  rintro e w3 ⟨rfl, hb3⟩
  have HB4 := Lib.hid (HB3.out.trans (hb3.mono HGL.out))
  have HA3 := Lib.hid (range_below HA.out HAL.out hb3)
  have HR3 := Lib.hid (range_below HBR.out HBL.out hb3)
  have HC3 := Lib.hid (range_below HC.out HCL.out hb3)
  have HAL3 := Lib.hid (Nat.lt_of_lt_of_le HAL.out hb3.size)
  have HBL3 := Lib.hid (Nat.lt_of_lt_of_le HBL.out hb3.size)
  have HCL3 := Lib.hid (Nat.lt_of_lt_of_le HCL.out hb3.size)
  have t0 : w3.cell? ⟨g, 0, none⟩ = some (.int .i64 a.t) := HA3.out 0 _ rfl
  have t1 : w3.cell? ⟨g, 1, none⟩ = some (.int .i64 a.r) := HA3.out 1 _ rfl
  have t2 : w3.cell? ⟨g', 0, none⟩ = some (.int .i64 b.t) := HR3.out 0 _ rfl
  have t3 : w3.cell? ⟨g', 1, none⟩ = some (.int .i64 b.r) := HR3.out 1 _ rfl
  have t4 : w3.cell? ⟨g'', 0, none⟩ = some (.int .i64 c.t) := HC3.out 0 _ rfl
  have t5 : w3.cell? ⟨g'', 1, none⟩ = some (.int .i64 c.r) := HC3.out 1 _ rfl
  obtain ⟨W4, hW4⟩ : ∃ W4, w3.alloc (.cells #[.int .i64 a.t, .int .i64 a.r, .int .i64 b.t, .int .i64 b.r, .int .i64 c.t, .int .i64 c.r] 23) = W4 := ⟨_, rfl⟩
  have hb34 : Below w3.heap.size w3 W4 := by rw [← hW4]; exact (Below.refl _ _).alloc (Nat.le_refl _) _
  have HRD : Hid (Rd W4 (some ⟨w3.heap.size, 0, none⟩) (stc [a, b, c])) := Lib.hid (by rw [← hW4]; exact Rd.new w3 (stc [a, b, c]) 23)
  have H34 := Lib.hid hb34
  have HW3L : Hid (W3.heap.size ≤ w3.heap.size) := Lib.hid hb3.size
  have H3L : Hid (w3.heap.size < W4.heap.size) := Lib.hid (by rw [← hW4]; simp)
  have hB0 := Below.refl W4.heap.size W4
  clear hb3 hb34
  go_wp2_with fail
  clear t0 t1 t2 t3 t4 t5 hW4
  go_loopg [16] 3 (fun gk_ s wr => ∃ k : Nat, k ≤ 3 ∧ gk_ = 3 - k ∧ s = .int .i64 (k : Int) ∧ Below W4.heap.size W4 wr)
  case atStart => exact ⟨0, by omega, by omega, rfl, hB0⟩
  case round =>
    clear hB0
    obtain ⟨k, hk, rfl, rfl, hB⟩ := hrel
    by_cases hlt : k < 3
    · have hrd2 := HRD.out.below hB
      obtain ⟨s, hs⟩ : ∃ s, ([a, b, c] : List Stm)[k]'hlt = s := ⟨_, rfl⟩
      have RS := rd_stm hrd2 k hlt
      rw [hs, Nat.zero_add] at RS
      obtain ⟨Wa, W5, hWa, hW5, HTH, HRS, HB5⟩ := row_place (w := wr) 23 [.int .i64 0, .int .i64 0] s.cells rfl
      have HW5 := Lib.hid hW5
      have i1 : (k : Int) < 3 := by omega
      clear hW5 hs hrd2
      go_wp2_with (first
        | ((with_reducible (refine wpList_load_stm 23 _ w3.heap.size (k * 2) s RS Try.underlying23 rfl info_stm ?_ rfl ?_ ?_)); (exact rfl); (exact rfl))
        | ((with_reducible (refine wpList_store_mid rfl _ _ _ rfl ?_ ?_ ?_ ?_ ?_ ?_ ?_ ?_ ?_)); (exact wr.heap.size); (exact 0); (exact s.cells.toArray); (exact rfl); (exact rfl); (exact HTH.out); (exact info_stm); (exact s.cells_one); rw [HW5.out]))
      have HS5 := Lib.hid (range_of_row HRS.out)
      have HL5 := Lib.hid (Array.getElem?_eq_some_iff.1 HRS.out).1
      have s0 : W5.cell? ⟨wr.heap.size, 0, none⟩ = some (.int .i64 s.t) := HS5.out 0 _ rfl
      have s1 : W5.cell? ⟨wr.heap.size, 1, none⟩ = some (.int .i64 s.r) := HS5.out 1 _ rfl
      have HBB := Lib.hid (hB.trans (HB5.out.mono hB.size))
      have HZ : Hid (W4.heap.size ≤ W5.heap.size) := Lib.hid HBB.out.size
      clear RS hWa
      by_cases q0 : 1 ≤ s.t
      · skip
        by_cases q1 : s.t ≤ 1099511627776
        · skip
          by_cases q2 : 1 ≤ s.r
          · skip
            by_cases q3 : s.r ≤ 65536
            · skip
              have d0 : decide (1 ≤ s.t) = true := decide_eq_true (by omega)
              have d1 : decide (s.t ≤ 1099511627776) = true := decide_eq_true (by omega)
              have d2 : decide (1 ≤ s.r) = true := decide_eq_true (by omega)
              have d3 : decide (s.r ≤ 65536) = true := decide_eq_true (by omega)
              have hR : rightB s = true := by unfold rightB; simp only [d0, d1, d2, d3, Bool.true_and, Bool.and_true, Bool.and_false, Bool.false_and]
              refine wp_region_sched (fun w' => Below W5.heap.size W5 w' ∧ w'.cell? ⟨wr.heap.size, 0, none⟩ = some (.int .i64 s.t) ∧ w'.cell? ⟨wr.heap.size, 1, none⟩ = some (.int .i64 s.r))
                [(true, 0), (true, 2), (true, 3), (true, 4), (false, 1), (true, 5), (true, 6), (true, 7), (true, 8), (true, 9), (true, 10), (true, 11), (true, 12), (true, 13), (true, 14), (true, 15), (true, 16), (true, 17), (true, 18), (true, 19), (true, 20)] (by kernel_rfl) (by kernel_rfl) rfl (by kernel_rfl) ⟨(Below.refl _ _).drew, s0, s1⟩ ?_
              refine wpS_load_stm _ rfl (by rfl) _ _ rfl _ _ rfl s _ (fun w' hS' => range_below HS5.out HL5.out hS'.1) Try.underlying23 rfl info_stm ?_
              simp only [Act.put, List.getElem_toArray, List.getElem_cons_zero, List.getElem_cons_succ, List.setIfInBounds_toArray, List.set_cons_zero, List.set_cons_succ]
              (repeat (first | (refine wpS_pass _ rfl (by rfl) ?_; simp only [Act.put, List.getElem_toArray, List.getElem_cons_zero, List.getElem_cons_succ, List.setIfInBounds_toArray, List.set_cons_zero, List.set_cons_succ]) | (refine wpS_take _ ?_ rfl (by rfl) ?_ ?_; rotate_left; (focus (intro w' hS'; (try dsimp only at hS'); (repeat (have hS1 := hS'.1; replace hS' := hS'.2)); go_simp; (try with_reducible rfl); done)); simp only [Act.put, List.getElem_toArray, List.getElem_cons_zero, List.getElem_cons_succ, List.setIfInBounds_toArray, List.set_cons_zero, List.set_cons_succ])))
              refine wpS_do _ rfl (by rfl) (fun K hK => ?_)
              go_simp
              refine (right_any s _).mono ?_
              rintro e w7 ⟨rfl, hb7⟩
              rw [hR]
              have hb57 : Below W5.heap.size W5 w7 := (Below.refl _ _).drew.trans hb7
              refine hK.out _ _ ⟨hb57, cell_below s0 HL5.out hb57, cell_below s1 HL5.out hb57⟩ (fun hS => ?_)
              clear hK hS hR
              (repeat (first | (refine wpS_pass _ rfl (by rfl) ?_; simp only [Act.put, List.getElem_toArray, List.getElem_cons_zero, List.getElem_cons_succ, List.setIfInBounds_toArray, List.set_cons_zero, List.set_cons_succ]) | (refine wpS_take _ ?_ rfl (by rfl) ?_ ?_; rotate_left; (focus (intro w' hS'; (try dsimp only at hS'); (repeat (have hS1 := hS'.1; replace hS' := hS'.2)); go_simp; (try with_reducible rfl); done)); simp only [Act.put, List.getElem_toArray, List.getElem_cons_zero, List.getElem_cons_succ, List.setIfInBounds_toArray, List.set_cons_zero, List.set_cons_succ])))
              refine wpS_done ?_
              go_wp2_with fail
              go_roundg (3 - (k + 1))
              case measure => omega
              case rel => exact ⟨k + 1, by omega, rfl, by first | rfl | exact congrArg (Value.int .i64) (by omega) | go_num, HBB.out.trans (hb57.mono HZ.out)⟩
            · skip
              have d0 : decide (1 ≤ s.t) = true := decide_eq_true (by omega)
              have d1 : decide (s.t ≤ 1099511627776) = true := decide_eq_true (by omega)
              have d2 : decide (1 ≤ s.r) = true := decide_eq_true (by omega)
              have d3 : decide (s.r ≤ 65536) = false := decide_eq_false (by omega)
              have hR : rightB s = false := by unfold rightB; simp only [d0, d1, d2, d3, Bool.true_and, Bool.and_true, Bool.and_false, Bool.false_and]
              refine wp_region_sched (fun w' => Below W5.heap.size W5 w' ∧ w'.cell? ⟨wr.heap.size, 0, none⟩ = some (.int .i64 s.t) ∧ w'.cell? ⟨wr.heap.size, 1, none⟩ = some (.int .i64 s.r))
                [(true, 0), (true, 2), (true, 3), (true, 4), (false, 1), (true, 5), (true, 6), (true, 7), (true, 8), (true, 9), (true, 10), (true, 11), (true, 12), (true, 13), (true, 14), (true, 15), (true, 16), (true, 17), (true, 18), (true, 19), (true, 20)] (by kernel_rfl) (by kernel_rfl) rfl (by kernel_rfl) ⟨(Below.refl _ _).drew, s0, s1⟩ ?_
              refine wpS_load_stm _ rfl (by rfl) _ _ rfl _ _ rfl s _ (fun w' hS' => range_below HS5.out HL5.out hS'.1) Try.underlying23 rfl info_stm ?_
              simp only [Act.put, List.getElem_toArray, List.getElem_cons_zero, List.getElem_cons_succ, List.setIfInBounds_toArray, List.set_cons_zero, List.set_cons_succ]
              (repeat (first | (refine wpS_pass _ rfl (by rfl) ?_; simp only [Act.put, List.getElem_toArray, List.getElem_cons_zero, List.getElem_cons_succ, List.setIfInBounds_toArray, List.set_cons_zero, List.set_cons_succ]) | (refine wpS_take _ ?_ rfl (by rfl) ?_ ?_; rotate_left; (focus (intro w' hS'; (try dsimp only at hS'); (repeat (have hS1 := hS'.1; replace hS' := hS'.2)); go_simp; (try with_reducible rfl); done)); simp only [Act.put, List.getElem_toArray, List.getElem_cons_zero, List.getElem_cons_succ, List.setIfInBounds_toArray, List.set_cons_zero, List.set_cons_succ])))
              refine wpS_do _ rfl (by rfl) (fun K hK => ?_)
              go_simp
              refine (right_any s _).mono ?_
              rintro e w7 ⟨rfl, hb7⟩
              rw [hR]
              have hb57 : Below W5.heap.size W5 w7 := (Below.refl _ _).drew.trans hb7
              refine hK.out _ _ ⟨hb57, cell_below s0 HL5.out hb57, cell_below s1 HL5.out hb57⟩ (fun hS => ?_)
              clear hK hS hR
              (repeat (first | (refine wpS_pass _ rfl (by rfl) ?_; simp only [Act.put, List.getElem_toArray, List.getElem_cons_zero, List.getElem_cons_succ, List.setIfInBounds_toArray, List.set_cons_zero, List.set_cons_succ]) | (refine wpS_take _ ?_ rfl (by rfl) ?_ ?_; rotate_left; (focus (intro w' hS'; (try dsimp only at hS'); (repeat (have hS1 := hS'.1; replace hS' := hS'.2)); go_simp; (try with_reducible rfl); done)); simp only [Act.put, List.getElem_toArray, List.getElem_cons_zero, List.getElem_cons_succ, List.setIfInBounds_toArray, List.set_cons_zero, List.set_cons_succ])))
              refine wpS_done ?_
              go_wp2_with fail
              go_roundg (3 - (k + 1))
              case measure => omega
              case rel => exact ⟨k + 1, by omega, rfl, by first | rfl | exact congrArg (Value.int .i64) (by omega) | go_num, HBB.out.trans (hb57.mono HZ.out)⟩
          · skip
            have d0 : decide (1 ≤ s.t) = true := decide_eq_true (by omega)
            have d1 : decide (s.t ≤ 1099511627776) = true := decide_eq_true (by omega)
            have d2 : decide (1 ≤ s.r) = false := decide_eq_false (by omega)
            have hR : rightB s = false := by unfold rightB; simp only [d0, d1, d2, Bool.true_and, Bool.and_true, Bool.and_false, Bool.false_and]
            refine wp_region_sched (fun w' => Below W5.heap.size W5 w' ∧ w'.cell? ⟨wr.heap.size, 0, none⟩ = some (.int .i64 s.t) ∧ w'.cell? ⟨wr.heap.size, 1, none⟩ = some (.int .i64 s.r))
              [(true, 0), (true, 2), (true, 3), (true, 4), (false, 1), (true, 5), (true, 6), (true, 7), (true, 8), (true, 9), (true, 10), (true, 11), (true, 12), (true, 13), (true, 14), (true, 15), (true, 16), (true, 17), (true, 18), (true, 19), (true, 20)] (by kernel_rfl) (by kernel_rfl) rfl (by kernel_rfl) ⟨(Below.refl _ _).drew, s0, s1⟩ ?_
            refine wpS_load_stm _ rfl (by rfl) _ _ rfl _ _ rfl s _ (fun w' hS' => range_below HS5.out HL5.out hS'.1) Try.underlying23 rfl info_stm ?_
            simp only [Act.put, List.getElem_toArray, List.getElem_cons_zero, List.getElem_cons_succ, List.setIfInBounds_toArray, List.set_cons_zero, List.set_cons_succ]
            (repeat (first | (refine wpS_pass _ rfl (by rfl) ?_; simp only [Act.put, List.getElem_toArray, List.getElem_cons_zero, List.getElem_cons_succ, List.setIfInBounds_toArray, List.set_cons_zero, List.set_cons_succ]) | (refine wpS_take _ ?_ rfl (by rfl) ?_ ?_; rotate_left; (focus (intro w' hS'; (try dsimp only at hS'); (repeat (have hS1 := hS'.1; replace hS' := hS'.2)); go_simp; (try with_reducible rfl); done)); simp only [Act.put, List.getElem_toArray, List.getElem_cons_zero, List.getElem_cons_succ, List.setIfInBounds_toArray, List.set_cons_zero, List.set_cons_succ])))
            refine wpS_do _ rfl (by rfl) (fun K hK => ?_)
            go_simp
            refine (right_any s _).mono ?_
            rintro e w7 ⟨rfl, hb7⟩
            rw [hR]
            have hb57 : Below W5.heap.size W5 w7 := (Below.refl _ _).drew.trans hb7
            refine hK.out _ _ ⟨hb57, cell_below s0 HL5.out hb57, cell_below s1 HL5.out hb57⟩ (fun hS => ?_)
            clear hK hS hR
            (repeat (first | (refine wpS_pass _ rfl (by rfl) ?_; simp only [Act.put, List.getElem_toArray, List.getElem_cons_zero, List.getElem_cons_succ, List.setIfInBounds_toArray, List.set_cons_zero, List.set_cons_succ]) | (refine wpS_take _ ?_ rfl (by rfl) ?_ ?_; rotate_left; (focus (intro w' hS'; (try dsimp only at hS'); (repeat (have hS1 := hS'.1; replace hS' := hS'.2)); go_simp; (try with_reducible rfl); done)); simp only [Act.put, List.getElem_toArray, List.getElem_cons_zero, List.getElem_cons_succ, List.setIfInBounds_toArray, List.set_cons_zero, List.set_cons_succ])))
            refine wpS_done ?_
            go_wp2_with fail
            go_roundg (3 - (k + 1))
            case measure => omega
            case rel => exact ⟨k + 1, by omega, rfl, by first | rfl | exact congrArg (Value.int .i64) (by omega) | go_num, HBB.out.trans (hb57.mono HZ.out)⟩
        · skip
          have d0 : decide (1 ≤ s.t) = true := decide_eq_true (by omega)
          have d1 : decide (s.t ≤ 1099511627776) = false := decide_eq_false (by omega)
          have hR : rightB s = false := by unfold rightB; simp only [d0, d1, Bool.true_and, Bool.and_true, Bool.and_false, Bool.false_and]
          refine wp_region_sched (fun w' => Below W5.heap.size W5 w' ∧ w'.cell? ⟨wr.heap.size, 0, none⟩ = some (.int .i64 s.t) ∧ w'.cell? ⟨wr.heap.size, 1, none⟩ = some (.int .i64 s.r))
            [(true, 0), (true, 2), (true, 3), (true, 4), (false, 1), (true, 5), (true, 6), (true, 7), (true, 8), (true, 9), (true, 10), (true, 11), (true, 12), (true, 13), (true, 14), (true, 15), (true, 16), (true, 17), (true, 18), (true, 19), (true, 20)] (by kernel_rfl) (by kernel_rfl) rfl (by kernel_rfl) ⟨(Below.refl _ _).drew, s0, s1⟩ ?_
          refine wpS_load_stm _ rfl (by rfl) _ _ rfl _ _ rfl s _ (fun w' hS' => range_below HS5.out HL5.out hS'.1) Try.underlying23 rfl info_stm ?_
          simp only [Act.put, List.getElem_toArray, List.getElem_cons_zero, List.getElem_cons_succ, List.setIfInBounds_toArray, List.set_cons_zero, List.set_cons_succ]
          (repeat (first | (refine wpS_pass _ rfl (by rfl) ?_; simp only [Act.put, List.getElem_toArray, List.getElem_cons_zero, List.getElem_cons_succ, List.setIfInBounds_toArray, List.set_cons_zero, List.set_cons_succ]) | (refine wpS_take _ ?_ rfl (by rfl) ?_ ?_; rotate_left; (focus (intro w' hS'; (try dsimp only at hS'); (repeat (have hS1 := hS'.1; replace hS' := hS'.2)); go_simp; (try with_reducible rfl); done)); simp only [Act.put, List.getElem_toArray, List.getElem_cons_zero, List.getElem_cons_succ, List.setIfInBounds_toArray, List.set_cons_zero, List.set_cons_succ])))
          refine wpS_do _ rfl (by rfl) (fun K hK => ?_)
          go_simp
          refine (right_any s _).mono ?_
          rintro e w7 ⟨rfl, hb7⟩
          rw [hR]
          have hb57 : Below W5.heap.size W5 w7 := (Below.refl _ _).drew.trans hb7
          refine hK.out _ _ ⟨hb57, cell_below s0 HL5.out hb57, cell_below s1 HL5.out hb57⟩ (fun hS => ?_)
          clear hK hS hR
          (repeat (first | (refine wpS_pass _ rfl (by rfl) ?_; simp only [Act.put, List.getElem_toArray, List.getElem_cons_zero, List.getElem_cons_succ, List.setIfInBounds_toArray, List.set_cons_zero, List.set_cons_succ]) | (refine wpS_take _ ?_ rfl (by rfl) ?_ ?_; rotate_left; (focus (intro w' hS'; (try dsimp only at hS'); (repeat (have hS1 := hS'.1; replace hS' := hS'.2)); go_simp; (try with_reducible rfl); done)); simp only [Act.put, List.getElem_toArray, List.getElem_cons_zero, List.getElem_cons_succ, List.setIfInBounds_toArray, List.set_cons_zero, List.set_cons_succ])))
          refine wpS_done ?_
          go_wp2_with fail
          go_roundg (3 - (k + 1))
          case measure => omega
          case rel => exact ⟨k + 1, by omega, rfl, by first | rfl | exact congrArg (Value.int .i64) (by omega) | go_num, HBB.out.trans (hb57.mono HZ.out)⟩
      · skip
        have d0 : decide (1 ≤ s.t) = false := decide_eq_false (by omega)
        have hR : rightB s = false := by unfold rightB; simp only [d0, Bool.true_and, Bool.and_true, Bool.and_false, Bool.false_and]
        refine wp_region_sched (fun w' => Below W5.heap.size W5 w' ∧ w'.cell? ⟨wr.heap.size, 0, none⟩ = some (.int .i64 s.t) ∧ w'.cell? ⟨wr.heap.size, 1, none⟩ = some (.int .i64 s.r))
          [(true, 0), (true, 2), (true, 3), (true, 4), (false, 1), (true, 5), (true, 6), (true, 7), (true, 8), (true, 9), (true, 10), (true, 11), (true, 12), (true, 13), (true, 14), (true, 15), (true, 16), (true, 17), (true, 18), (true, 19), (true, 20)] (by kernel_rfl) (by kernel_rfl) rfl (by kernel_rfl) ⟨(Below.refl _ _).drew, s0, s1⟩ ?_
        refine wpS_load_stm _ rfl (by rfl) _ _ rfl _ _ rfl s _ (fun w' hS' => range_below HS5.out HL5.out hS'.1) Try.underlying23 rfl info_stm ?_
        simp only [Act.put, List.getElem_toArray, List.getElem_cons_zero, List.getElem_cons_succ, List.setIfInBounds_toArray, List.set_cons_zero, List.set_cons_succ]
        (repeat (first | (refine wpS_pass _ rfl (by rfl) ?_; simp only [Act.put, List.getElem_toArray, List.getElem_cons_zero, List.getElem_cons_succ, List.setIfInBounds_toArray, List.set_cons_zero, List.set_cons_succ]) | (refine wpS_take _ ?_ rfl (by rfl) ?_ ?_; rotate_left; (focus (intro w' hS'; (try dsimp only at hS'); (repeat (have hS1 := hS'.1; replace hS' := hS'.2)); go_simp; (try with_reducible rfl); done)); simp only [Act.put, List.getElem_toArray, List.getElem_cons_zero, List.getElem_cons_succ, List.setIfInBounds_toArray, List.set_cons_zero, List.set_cons_succ])))
        refine wpS_do _ rfl (by rfl) (fun K hK => ?_)
        go_simp
        refine (right_any s _).mono ?_
        rintro e w7 ⟨rfl, hb7⟩
        rw [hR]
        have hb57 : Below W5.heap.size W5 w7 := (Below.refl _ _).drew.trans hb7
        refine hK.out _ _ ⟨hb57, cell_below s0 HL5.out hb57, cell_below s1 HL5.out hb57⟩ (fun hS => ?_)
        clear hK hS hR
        (repeat (first | (refine wpS_pass _ rfl (by rfl) ?_; simp only [Act.put, List.getElem_toArray, List.getElem_cons_zero, List.getElem_cons_succ, List.setIfInBounds_toArray, List.set_cons_zero, List.set_cons_succ]) | (refine wpS_take _ ?_ rfl (by rfl) ?_ ?_; rotate_left; (focus (intro w' hS'; (try dsimp only at hS'); (repeat (have hS1 := hS'.1; replace hS' := hS'.2)); go_simp; (try with_reducible rfl); done)); simp only [Act.put, List.getElem_toArray, List.getElem_cons_zero, List.getElem_cons_succ, List.setIfInBounds_toArray, List.set_cons_zero, List.set_cons_succ])))
        refine wpS_done ?_
        go_wp2_with fail
        go_roundg (3 - (k + 1))
        case measure => omega
        case rel => exact ⟨k + 1, by omega, rfl, by first | rfl | exact congrArg (Value.int .i64) (by omega) | go_num, HBB.out.trans (hb57.mono HZ.out)⟩
    · obtain rfl : k = 3 := by omega
      obtain ⟨x, hx⟩ : ∃ x, cmpS a b = x := ⟨_, rfl⟩
      obtain ⟨y, hy⟩ : ∃ y, cmpS b a = y := ⟨_, rfl⟩
      obtain ⟨xb, hxb⟩ : ∃ x, cmpS b c = x := ⟨_, rfl⟩
      obtain ⟨xc, hxc⟩ : ∃ x, cmpS a c = x := ⟨_, rfl⟩
      obtain ⟨q, hq⟩ : ∃ q, decide (a = b) = q := ⟨_, rfl⟩
      have htr : x ≤ 0 → xb ≤ 0 → xc ≤ 0 := by rw [← hx, ← hxb, ← hxc]; exact cmpS_trans a b c
      have h3 : (x = -1 ∧ y = 1 ∧ q = false) ∨ (x = 0 ∧ y = 0 ∧ q = true) ∨ (x = 1 ∧ y = -1 ∧ q = false) := by
        have hself : ∀ u : Stm, cmpS u u = 0 := fun u => by
          have h := cmpS_three u u
          omega
        rcases cmpS_three a b with h | h | h
        · exact .inl ⟨hx ▸ h.1, hy ▸ h.2, by rw [← hq]; exact decide_eq_false (fun e => by have := hself a; rw [e] at h; rw [e] at this; omega)⟩
        · exact .inr (.inl ⟨hx ▸ h.1, hy ▸ h.2.1, by rw [← hq]; exact decide_eq_true h.2.2⟩)
        · exact .inr (.inr ⟨hx ▸ h.1, hy ▸ h.2, by rw [← hq]; exact decide_eq_false (fun e => by have := hself a; rw [e] at h; rw [e] at this; omega)⟩)
      have HX := Lib.hid hx
      have HY := Lib.hid hy
      have HXB := Lib.hid hxb
      have HXC := Lib.hid hxc
      have HQ := Lib.hid hq
      have heq : ∀ w, (binOp .eql 23 a.val b.val).run Try.prog w = .ok (.bool q) w := fun w => by rw [eql_stm, HQ.out]
      have hgd := fun o x y w => guard_stm o x y a b w
      have HEQ := Lib.hid heq
      have HGD := Lib.hid hgd
      have hbr : Below w3.heap.size w3 wr := H34.out.trans (hB.mono (Nat.le_of_lt H3L.out))
      have HBR0 := Lib.hid hbr
      have ra := range_below HA3.out HAL3.out hbr
      have rb := range_below HR3.out HBL3.out hbr
      have rc := range_below HC3.out HCL3.out hbr
      have l1 := Nat.lt_of_lt_of_le HAL3.out hbr.size
      have l2 := Nat.lt_of_lt_of_le HBL3.out hbr.size
      have l3 := Nat.lt_of_lt_of_le HCL3.out hbr.size
      have L1 := Lib.hid l1
      have L2 := Lib.hid l2
      have L3 := Lib.hid l3
      have HRA := Lib.hid ra
      have HRB := Lib.hid rb
      have HRC := Lib.hid rc
      clear hx hy hxb hxc hq heq hgd hbr hB l1 l2 l3
      go_wp2_with (first
        | ((with_reducible (refine wpList_load_stm 23 _ g 0 a ra Try.underlying23 rfl info_stm ?_ rfl ?_ ?_)); (exact rfl); (exact rfl))
        | ((with_reducible (refine wpList_load_stm 23 _ g' 0 b rb Try.underlying23 rfl info_stm ?_ rfl ?_ ?_)); (exact rfl); (exact rfl)))
      refine (cmp_any a b wr).mono ?_
      rintro e w4 ⟨rfl, hb4⟩
      rw [HX.out]
      have H4 := Lib.hid hb4
      have ra := range_below HRA.out L1.out hb4
      have rb := range_below HRB.out L2.out hb4
      have rc := range_below HRC.out L3.out hb4
      clear hb4
      by_cases p1 : x ≤ 0
      · have d1 : decide (x ≤ 0) = true := decide_eq_true p1
        go_wp2_with (first
          | ((with_reducible (refine wpList_load_stm 23 _ g 0 a ra Try.underlying23 rfl info_stm ?_ rfl ?_ ?_)); (exact rfl); (exact rfl))
          | ((with_reducible (refine wpList_load_stm 23 _ g' 0 b rb Try.underlying23 rfl info_stm ?_ rfl ?_ ?_)); (exact rfl); (exact rfl))
          | ((with_reducible (refine wpList_load_stm 23 _ g'' 0 c rc Try.underlying23 rfl info_stm ?_ rfl ?_ ?_)); (exact rfl); (exact rfl)))
        refine (cmp_any b c w4).mono ?_
        rintro e w5 ⟨rfl, hb5⟩
        rw [HXB.out]
        have H5 := Lib.hid (H4.out.trans (hb5.mono H4.out.size))
        have ra := range_below HRA.out L1.out H5.out
        have rc := range_below HRC.out L3.out H5.out
        clear hb5
        by_cases p2 : xb ≤ 0
        · have d2 : decide (xb ≤ 0) = true := decide_eq_true p2
          have d3 : decide (0 < xc) = false := decide_eq_false (by have := htr p1 p2; omega)
          go_wp2_with (first
            | ((with_reducible (refine wpList_load_stm 23 _ g 0 a ra Try.underlying23 rfl info_stm ?_ rfl ?_ ?_)); (exact rfl); (exact rfl))
            | ((with_reducible (refine wpList_load_stm 23 _ g' 0 b rb Try.underlying23 rfl info_stm ?_ rfl ?_ ?_)); (exact rfl); (exact rfl))
            | ((with_reducible (refine wpList_load_stm 23 _ g'' 0 c rc Try.underlying23 rfl info_stm ?_ rfl ?_ ?_)); (exact rfl); (exact rfl)))
          refine (cmp_any a c w5).mono ?_
          rintro e w6 ⟨rfl, hb6⟩
          rw [HXC.out]
          have HNOW := Lib.hid (H5.out.trans (hb6.mono H5.out.size))
          clear hb6 ra rb rc
          go_wp2_with fail
          clear d1 d2 d3 p1 p2 htr
          rcases h3 with ⟨rfl, rfl, rfl⟩ | ⟨rfl, rfl, rfl⟩ | ⟨rfl, rfl, rfl⟩
          all_goals
            refine wp_region_sched (fun w' => Below wr.heap.size wr w')
              [(true, 0), (true, 1), (true, 4), (true, 5), (true, 6), (false, 2), (true, 3), (true, 7), (true, 8), (true, 9), (true, 10), (true, 12), (true, 13), (false, 11), (false, 14), (true, 15), (true, 16), (true, 17), (true, 18)] (by kernel_rfl) (by kernel_rfl) rfl (by kernel_rfl) HNOW.out.drew ?_
            refine wpS_load_stm _ rfl (by rfl) _ _ rfl _ _ rfl a _ (fun w' hS' => range_below HRA.out L1.out hS') Try.underlying23 rfl info_stm ?_
            simp only [Act.put, List.getElem_toArray, List.getElem_cons_zero, List.getElem_cons_succ, List.setIfInBounds_toArray, List.set_cons_zero, List.set_cons_succ]
            refine wpS_load_stm _ rfl (by rfl) _ _ rfl _ _ rfl b _ (fun w' hS' => range_below HRB.out L2.out hS') Try.underlying23 rfl info_stm ?_
            simp only [Act.put, List.getElem_toArray, List.getElem_cons_zero, List.getElem_cons_succ, List.setIfInBounds_toArray, List.set_cons_zero, List.set_cons_succ]
            refine wpS_load_stm _ rfl (by rfl) _ _ rfl _ _ rfl a _ (fun w' hS' => range_below HRA.out L1.out hS') Try.underlying23 rfl info_stm ?_
            simp only [Act.put, List.getElem_toArray, List.getElem_cons_zero, List.getElem_cons_succ, List.setIfInBounds_toArray, List.set_cons_zero, List.set_cons_succ]
            refine wpS_load_stm _ rfl (by rfl) _ _ rfl _ _ rfl b _ (fun w' hS' => range_below HRB.out L2.out hS') Try.underlying23 rfl info_stm ?_
            simp only [Act.put, List.getElem_toArray, List.getElem_cons_zero, List.getElem_cons_succ, List.setIfInBounds_toArray, List.set_cons_zero, List.set_cons_succ]
            refine wpS_take _ _ rfl (by rfl) (fun w' hS' => exec_bin _ _ _ _ _ rfl _ _ _ rfl rfl (HGD.out _ _ _ w') (HEQ.out w')) ?_
            simp only [Act.put, List.getElem_toArray, List.getElem_cons_zero, List.getElem_cons_succ, List.setIfInBounds_toArray, List.set_cons_zero, List.set_cons_succ]
            refine wpS_do _ rfl (by rfl) (fun K hK => ?_)
            go_simp
            refine (cmp_any a b _).mono ?_
            rintro e u1 ⟨rfl, k1⟩
            rw [HX.out]
            have m1 := HNOW.out.drew.trans (k1.mono HNOW.out.drew.size)
            refine hK.out _ _ m1 (fun hS => ?_)
            clear hK hS
            (repeat (first | (refine wpS_pass _ rfl (by rfl) ?_; simp only [Act.put, List.getElem_toArray, List.getElem_cons_zero, List.getElem_cons_succ, List.setIfInBounds_toArray, List.set_cons_zero, List.set_cons_succ]) | (refine wpS_take _ ?_ rfl (by rfl) ?_ ?_; rotate_left; (focus (intro w' hS'; (try dsimp only at hS'); (repeat (have hS1 := hS'.1; replace hS' := hS'.2)); go_simp; (try with_reducible rfl); done)); simp only [Act.put, List.getElem_toArray, List.getElem_cons_zero, List.getElem_cons_succ, List.setIfInBounds_toArray, List.set_cons_zero, List.set_cons_succ])))
            refine wpS_load_stm _ rfl (by rfl) _ _ rfl _ _ rfl a _ (fun w' hS' => range_below HRA.out L1.out hS') Try.underlying23 rfl info_stm ?_
            simp only [Act.put, List.getElem_toArray, List.getElem_cons_zero, List.getElem_cons_succ, List.setIfInBounds_toArray, List.set_cons_zero, List.set_cons_succ]
            refine wpS_load_stm _ rfl (by rfl) _ _ rfl _ _ rfl b _ (fun w' hS' => range_below HRB.out L2.out hS') Try.underlying23 rfl info_stm ?_
            simp only [Act.put, List.getElem_toArray, List.getElem_cons_zero, List.getElem_cons_succ, List.setIfInBounds_toArray, List.set_cons_zero, List.set_cons_succ]
            refine wpS_load_stm _ rfl (by rfl) _ _ rfl _ _ rfl b _ (fun w' hS' => range_below HRB.out L2.out hS') Try.underlying23 rfl info_stm ?_
            simp only [Act.put, List.getElem_toArray, List.getElem_cons_zero, List.getElem_cons_succ, List.setIfInBounds_toArray, List.set_cons_zero, List.set_cons_succ]
            refine wpS_load_stm _ rfl (by rfl) _ _ rfl _ _ rfl a _ (fun w' hS' => range_below HRA.out L1.out hS') Try.underlying23 rfl info_stm ?_
            simp only [Act.put, List.getElem_toArray, List.getElem_cons_zero, List.getElem_cons_succ, List.setIfInBounds_toArray, List.set_cons_zero, List.set_cons_succ]
            refine wpS_do _ rfl (by rfl) (fun K hK => ?_)
            go_simp
            refine (cmp_any a b _).mono ?_
            rintro e u2 ⟨rfl, k2⟩
            rw [HX.out]
            have m2 := m1.trans (k2.mono m1.size)
            refine hK.out _ _ m2 (fun hS => ?_)
            clear hK hS
            refine wpS_do _ rfl (by rfl) (fun K hK => ?_)
            go_simp
            refine (cmp_any b a _).mono ?_
            rintro e u3 ⟨rfl, k3⟩
            rw [HY.out]
            have m3 := m2.trans (k3.mono m2.size)
            refine hK.out _ _ m3 (fun hS => ?_)
            clear hK hS
            (repeat (first | (refine wpS_pass _ rfl (by rfl) ?_; simp only [Act.put, List.getElem_toArray, List.getElem_cons_zero, List.getElem_cons_succ, List.setIfInBounds_toArray, List.set_cons_zero, List.set_cons_succ]) | (refine wpS_take _ ?_ rfl (by rfl) ?_ ?_; rotate_left; (focus (intro w' hS'; (try dsimp only at hS'); (repeat (have hS1 := hS'.1; replace hS' := hS'.2)); go_simp; (try with_reducible rfl); done)); simp only [Act.put, List.getElem_toArray, List.getElem_cons_zero, List.getElem_cons_succ, List.setIfInBounds_toArray, List.set_cons_zero, List.set_cons_succ])))
            refine wpS_done ?_
            go_wp2_with fail
            go_ret
            exact ⟨rfl, HB4.out.trans ((HBR0.out.trans (m3.mono HBR0.out.size)).mono (Nat.le_trans HGL.out HW3L.out))⟩
        · have d2 : decide (xb ≤ 0) = false := decide_eq_false p2
          have HNOW := H5
          clear ra rb rc
          go_wp2_with fail
          clear d1 d2 p1 p2 htr
          rcases h3 with ⟨rfl, rfl, rfl⟩ | ⟨rfl, rfl, rfl⟩ | ⟨rfl, rfl, rfl⟩
          all_goals
            refine wp_region_sched (fun w' => Below wr.heap.size wr w')
              [(true, 0), (true, 1), (true, 4), (true, 5), (true, 6), (false, 2), (true, 3), (true, 7), (true, 8), (true, 9), (true, 10), (true, 12), (true, 13), (false, 11), (false, 14), (true, 15), (true, 16), (true, 17), (true, 18)] (by kernel_rfl) (by kernel_rfl) rfl (by kernel_rfl) HNOW.out.drew ?_
            refine wpS_load_stm _ rfl (by rfl) _ _ rfl _ _ rfl a _ (fun w' hS' => range_below HRA.out L1.out hS') Try.underlying23 rfl info_stm ?_
            simp only [Act.put, List.getElem_toArray, List.getElem_cons_zero, List.getElem_cons_succ, List.setIfInBounds_toArray, List.set_cons_zero, List.set_cons_succ]
            refine wpS_load_stm _ rfl (by rfl) _ _ rfl _ _ rfl b _ (fun w' hS' => range_below HRB.out L2.out hS') Try.underlying23 rfl info_stm ?_
            simp only [Act.put, List.getElem_toArray, List.getElem_cons_zero, List.getElem_cons_succ, List.setIfInBounds_toArray, List.set_cons_zero, List.set_cons_succ]
            refine wpS_load_stm _ rfl (by rfl) _ _ rfl _ _ rfl a _ (fun w' hS' => range_below HRA.out L1.out hS') Try.underlying23 rfl info_stm ?_
            simp only [Act.put, List.getElem_toArray, List.getElem_cons_zero, List.getElem_cons_succ, List.setIfInBounds_toArray, List.set_cons_zero, List.set_cons_succ]
            refine wpS_load_stm _ rfl (by rfl) _ _ rfl _ _ rfl b _ (fun w' hS' => range_below HRB.out L2.out hS') Try.underlying23 rfl info_stm ?_
            simp only [Act.put, List.getElem_toArray, List.getElem_cons_zero, List.getElem_cons_succ, List.setIfInBounds_toArray, List.set_cons_zero, List.set_cons_succ]
            refine wpS_take _ _ rfl (by rfl) (fun w' hS' => exec_bin _ _ _ _ _ rfl _ _ _ rfl rfl (HGD.out _ _ _ w') (HEQ.out w')) ?_
            simp only [Act.put, List.getElem_toArray, List.getElem_cons_zero, List.getElem_cons_succ, List.setIfInBounds_toArray, List.set_cons_zero, List.set_cons_succ]
            refine wpS_do _ rfl (by rfl) (fun K hK => ?_)
            go_simp
            refine (cmp_any a b _).mono ?_
            rintro e u1 ⟨rfl, k1⟩
            rw [HX.out]
            have m1 := HNOW.out.drew.trans (k1.mono HNOW.out.drew.size)
            refine hK.out _ _ m1 (fun hS => ?_)
            clear hK hS
            (repeat (first | (refine wpS_pass _ rfl (by rfl) ?_; simp only [Act.put, List.getElem_toArray, List.getElem_cons_zero, List.getElem_cons_succ, List.setIfInBounds_toArray, List.set_cons_zero, List.set_cons_succ]) | (refine wpS_take _ ?_ rfl (by rfl) ?_ ?_; rotate_left; (focus (intro w' hS'; (try dsimp only at hS'); (repeat (have hS1 := hS'.1; replace hS' := hS'.2)); go_simp; (try with_reducible rfl); done)); simp only [Act.put, List.getElem_toArray, List.getElem_cons_zero, List.getElem_cons_succ, List.setIfInBounds_toArray, List.set_cons_zero, List.set_cons_succ])))
            refine wpS_load_stm _ rfl (by rfl) _ _ rfl _ _ rfl a _ (fun w' hS' => range_below HRA.out L1.out hS') Try.underlying23 rfl info_stm ?_
            simp only [Act.put, List.getElem_toArray, List.getElem_cons_zero, List.getElem_cons_succ, List.setIfInBounds_toArray, List.set_cons_zero, List.set_cons_succ]
            refine wpS_load_stm _ rfl (by rfl) _ _ rfl _ _ rfl b _ (fun w' hS' => range_below HRB.out L2.out hS') Try.underlying23 rfl info_stm ?_
            simp only [Act.put, List.getElem_toArray, List.getElem_cons_zero, List.getElem_cons_succ, List.setIfInBounds_toArray, List.set_cons_zero, List.set_cons_succ]
            refine wpS_load_stm _ rfl (by rfl) _ _ rfl _ _ rfl b _ (fun w' hS' => range_below HRB.out L2.out hS') Try.underlying23 rfl info_stm ?_
            simp only [Act.put, List.getElem_toArray, List.getElem_cons_zero, List.getElem_cons_succ, List.setIfInBounds_toArray, List.set_cons_zero, List.set_cons_succ]
            refine wpS_load_stm _ rfl (by rfl) _ _ rfl _ _ rfl a _ (fun w' hS' => range_below HRA.out L1.out hS') Try.underlying23 rfl info_stm ?_
            simp only [Act.put, List.getElem_toArray, List.getElem_cons_zero, List.getElem_cons_succ, List.setIfInBounds_toArray, List.set_cons_zero, List.set_cons_succ]
            refine wpS_do _ rfl (by rfl) (fun K hK => ?_)
            go_simp
            refine (cmp_any a b _).mono ?_
            rintro e u2 ⟨rfl, k2⟩
            rw [HX.out]
            have m2 := m1.trans (k2.mono m1.size)
            refine hK.out _ _ m2 (fun hS => ?_)
            clear hK hS
            refine wpS_do _ rfl (by rfl) (fun K hK => ?_)
            go_simp
            refine (cmp_any b a _).mono ?_
            rintro e u3 ⟨rfl, k3⟩
            rw [HY.out]
            have m3 := m2.trans (k3.mono m2.size)
            refine hK.out _ _ m3 (fun hS => ?_)
            clear hK hS
            (repeat (first | (refine wpS_pass _ rfl (by rfl) ?_; simp only [Act.put, List.getElem_toArray, List.getElem_cons_zero, List.getElem_cons_succ, List.setIfInBounds_toArray, List.set_cons_zero, List.set_cons_succ]) | (refine wpS_take _ ?_ rfl (by rfl) ?_ ?_; rotate_left; (focus (intro w' hS'; (try dsimp only at hS'); (repeat (have hS1 := hS'.1; replace hS' := hS'.2)); go_simp; (try with_reducible rfl); done)); simp only [Act.put, List.getElem_toArray, List.getElem_cons_zero, List.getElem_cons_succ, List.setIfInBounds_toArray, List.set_cons_zero, List.set_cons_succ])))
            refine wpS_done ?_
            go_wp2_with fail
            go_ret
            exact ⟨rfl, HB4.out.trans ((HBR0.out.trans (m3.mono HBR0.out.size)).mono (Nat.le_trans HGL.out HW3L.out))⟩
      · have d1 : decide (x ≤ 0) = false := decide_eq_false p1
        have HNOW := H4
        clear ra rb rc
        go_wp2_with fail
        clear d1 p1 htr
        rcases h3 with ⟨rfl, rfl, rfl⟩ | ⟨rfl, rfl, rfl⟩ | ⟨rfl, rfl, rfl⟩
        all_goals
          refine wp_region_sched (fun w' => Below wr.heap.size wr w')
            [(true, 0), (true, 1), (true, 4), (true, 5), (true, 6), (false, 2), (true, 3), (true, 7), (true, 8), (true, 9), (true, 10), (true, 12), (true, 13), (false, 11), (false, 14), (true, 15), (true, 16), (true, 17), (true, 18)] (by kernel_rfl) (by kernel_rfl) rfl (by kernel_rfl) HNOW.out.drew ?_
          refine wpS_load_stm _ rfl (by rfl) _ _ rfl _ _ rfl a _ (fun w' hS' => range_below HRA.out L1.out hS') Try.underlying23 rfl info_stm ?_
          simp only [Act.put, List.getElem_toArray, List.getElem_cons_zero, List.getElem_cons_succ, List.setIfInBounds_toArray, List.set_cons_zero, List.set_cons_succ]
          refine wpS_load_stm _ rfl (by rfl) _ _ rfl _ _ rfl b _ (fun w' hS' => range_below HRB.out L2.out hS') Try.underlying23 rfl info_stm ?_
          simp only [Act.put, List.getElem_toArray, List.getElem_cons_zero, List.getElem_cons_succ, List.setIfInBounds_toArray, List.set_cons_zero, List.set_cons_succ]
          refine wpS_load_stm _ rfl (by rfl) _ _ rfl _ _ rfl a _ (fun w' hS' => range_below HRA.out L1.out hS') Try.underlying23 rfl info_stm ?_
          simp only [Act.put, List.getElem_toArray, List.getElem_cons_zero, List.getElem_cons_succ, List.setIfInBounds_toArray, List.set_cons_zero, List.set_cons_succ]
          refine wpS_load_stm _ rfl (by rfl) _ _ rfl _ _ rfl b _ (fun w' hS' => range_below HRB.out L2.out hS') Try.underlying23 rfl info_stm ?_
          simp only [Act.put, List.getElem_toArray, List.getElem_cons_zero, List.getElem_cons_succ, List.setIfInBounds_toArray, List.set_cons_zero, List.set_cons_succ]
          refine wpS_take _ _ rfl (by rfl) (fun w' hS' => exec_bin _ _ _ _ _ rfl _ _ _ rfl rfl (HGD.out _ _ _ w') (HEQ.out w')) ?_
          simp only [Act.put, List.getElem_toArray, List.getElem_cons_zero, List.getElem_cons_succ, List.setIfInBounds_toArray, List.set_cons_zero, List.set_cons_succ]
          refine wpS_do _ rfl (by rfl) (fun K hK => ?_)
          go_simp
          refine (cmp_any a b _).mono ?_
          rintro e u1 ⟨rfl, k1⟩
          rw [HX.out]
          have m1 := HNOW.out.drew.trans (k1.mono HNOW.out.drew.size)
          refine hK.out _ _ m1 (fun hS => ?_)
          clear hK hS
          (repeat (first | (refine wpS_pass _ rfl (by rfl) ?_; simp only [Act.put, List.getElem_toArray, List.getElem_cons_zero, List.getElem_cons_succ, List.setIfInBounds_toArray, List.set_cons_zero, List.set_cons_succ]) | (refine wpS_take _ ?_ rfl (by rfl) ?_ ?_; rotate_left; (focus (intro w' hS'; (try dsimp only at hS'); (repeat (have hS1 := hS'.1; replace hS' := hS'.2)); go_simp; (try with_reducible rfl); done)); simp only [Act.put, List.getElem_toArray, List.getElem_cons_zero, List.getElem_cons_succ, List.setIfInBounds_toArray, List.set_cons_zero, List.set_cons_succ])))
          refine wpS_load_stm _ rfl (by rfl) _ _ rfl _ _ rfl a _ (fun w' hS' => range_below HRA.out L1.out hS') Try.underlying23 rfl info_stm ?_
          simp only [Act.put, List.getElem_toArray, List.getElem_cons_zero, List.getElem_cons_succ, List.setIfInBounds_toArray, List.set_cons_zero, List.set_cons_succ]
          refine wpS_load_stm _ rfl (by rfl) _ _ rfl _ _ rfl b _ (fun w' hS' => range_below HRB.out L2.out hS') Try.underlying23 rfl info_stm ?_
          simp only [Act.put, List.getElem_toArray, List.getElem_cons_zero, List.getElem_cons_succ, List.setIfInBounds_toArray, List.set_cons_zero, List.set_cons_succ]
          refine wpS_load_stm _ rfl (by rfl) _ _ rfl _ _ rfl b _ (fun w' hS' => range_below HRB.out L2.out hS') Try.underlying23 rfl info_stm ?_
          simp only [Act.put, List.getElem_toArray, List.getElem_cons_zero, List.getElem_cons_succ, List.setIfInBounds_toArray, List.set_cons_zero, List.set_cons_succ]
          refine wpS_load_stm _ rfl (by rfl) _ _ rfl _ _ rfl a _ (fun w' hS' => range_below HRA.out L1.out hS') Try.underlying23 rfl info_stm ?_
          simp only [Act.put, List.getElem_toArray, List.getElem_cons_zero, List.getElem_cons_succ, List.setIfInBounds_toArray, List.set_cons_zero, List.set_cons_succ]
          refine wpS_do _ rfl (by rfl) (fun K hK => ?_)
          go_simp
          refine (cmp_any a b _).mono ?_
          rintro e u2 ⟨rfl, k2⟩
          rw [HX.out]
          have m2 := m1.trans (k2.mono m1.size)
          refine hK.out _ _ m2 (fun hS => ?_)
          clear hK hS
          refine wpS_do _ rfl (by rfl) (fun K hK => ?_)
          go_simp
          refine (cmp_any b a _).mono ?_
          rintro e u3 ⟨rfl, k3⟩
          rw [HY.out]
          have m3 := m2.trans (k3.mono m2.size)
          refine hK.out _ _ m3 (fun hS => ?_)
          clear hK hS
          (repeat (first | (refine wpS_pass _ rfl (by rfl) ?_; simp only [Act.put, List.getElem_toArray, List.getElem_cons_zero, List.getElem_cons_succ, List.setIfInBounds_toArray, List.set_cons_zero, List.set_cons_succ]) | (refine wpS_take _ ?_ rfl (by rfl) ?_ ?_; rotate_left; (focus (intro w' hS'; (try dsimp only at hS'); (repeat (have hS1 := hS'.1; replace hS' := hS'.2)); go_simp; (try with_reducible rfl); done)); simp only [Act.put, List.getElem_toArray, List.getElem_cons_zero, List.getElem_cons_succ, List.setIfInBounds_toArray, List.set_cons_zero, List.set_cons_succ])))
          refine wpS_done ?_
          go_wp2_with fail
          go_ret
          exact ⟨rfl, HB4.out.trans ((HBR0.out.trans (m3.mono HBR0.out.size)).mono (Nat.le_trans HGL.out HW3L.out))⟩
end Go.Proofs.Ytabkgoandfpclaa
