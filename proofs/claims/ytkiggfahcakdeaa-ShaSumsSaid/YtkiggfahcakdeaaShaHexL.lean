
/- ShaHex: the walk. -/

import Derived.Test.YtkiggfahcakdeaaShaHexP0

namespace Go.Proofs.Ytkiggfahcakdeaa

set_option linter.unusedVariables false

set_option linter.unusedSimpArgs false

open Go.RowKit

theorem parseL_len (l : List UInt8) : (parseL l).1.length = 32 := by
  unfold parseL
  split
  · rename_i h; exact pairs_len l 32 (by omega)
  · rfl
/-- a law's ID in its box -/
theorem id_box (w : World) (id : List UInt8) : ∃ W0, w.alloc (.cells (b8s id).toArray 23) = W0 ∧ Hid (W0.heap[w.heap.size]? = some (.cells (b8s id).toArray 23 (0, 0))) ∧ Hid (Below w.heap.size w W0) ∧ Hid (w.heap.size < W0.heap.size) :=
  ⟨_, rfl, Lib.hid (heap_alloc_new w _), Lib.hid ((Below.refl _ _).alloc (Nat.le_refl _) _), Lib.hid (by simp)⟩

set_option maxRecDepth 100000 in
set_option maxHeartbeats 1000000 in
theorem shaHex_any (id : List UInt8) (hid : id.length = 32) (s : ByteArray) (hs : s.size ≤ maxLen) (w : World) :
    Calls Try.prog 3 #[.agg (b8s id).toArray, .string s] w fun e w' => e = .returned (.bool true) ∧ Below w.heap.size w w' := by
  obtain ⟨W0, hW0, HR, HB, HS⟩ := id_box w id
  have hI := info_of_arr id hid info_id
  have HI := Lib.hid hI
  clear hI
  go_enter Try.func3, Try.ntmps3
  go_wp2_with fail
  clear hW0
  have hrow0 := range_of_row HR.out
  have hinf : (Try.prog.info? 23).map (·.size) = some (b8s id).length := by rw [b8s_length, hid]; exact info_id
  refine wp_region_sched (fun w' => w'.rangeAt w.heap.size 0 (b8s id) ∧ Below W0.heap.size W0 w') [(false, 0), (true, 1), (true, 2), (true, 3), (true, 5), (false, 4), (false, 6), (true, 7), (true, 8)] (by kernel_rfl) (by kernel_rfl) rfl (by kernel_rfl) ⟨by simpa using hrow0, (Below.refl _ _).drew⟩ ?_
  have HROW := Lib.hid hrow0
  have HINF := Lib.hid hinf
  clear hrow0 hinf
  refine wpS_do _ rfl (by rfl) (fun K hK => ?_)
  go_simp
  refine (hexing_any _).mono ?_
  rintro e w1 ⟨rfl, hb1⟩
  have hb01 : Below W0.heap.size W0 w1 := ext_trans (b := W0.drew) (Below.refl _ _).drew hb1
  refine hK.out _ _ ⟨rd_range ((range_rd HROW.out).below hb01), hb01⟩ (fun hS => ?_)
  have HB1 := Lib.hid hb01
  clear hK hS hb01 hb1
  (first | (refine wpS_pass _ rfl (by rfl) ?_; simp only [Act.put, List.getElem_toArray, List.getElem_cons_zero, List.getElem_cons_succ, List.setIfInBounds_toArray, List.set_cons_zero, List.set_cons_succ]) | (refine wpS_take _ ?_ rfl (by rfl) ?_ ?_; rotate_left; (focus (intro w' hS'; (try dsimp only at hS'); (repeat (have hS1 := hS'.1; replace hS' := hS'.2)); go_simp; (try with_reducible rfl); done)); simp only [Act.put, List.getElem_toArray, List.getElem_cons_zero, List.getElem_cons_succ, List.setIfInBounds_toArray, List.set_cons_zero, List.set_cons_succ]))
  (first | (refine wpS_pass _ rfl (by rfl) ?_; simp only [Act.put, List.getElem_toArray, List.getElem_cons_zero, List.getElem_cons_succ, List.setIfInBounds_toArray, List.set_cons_zero, List.set_cons_succ]) | (refine wpS_take _ ?_ rfl (by rfl) ?_ ?_; rotate_left; (focus (intro w' hS'; (try dsimp only at hS'); (repeat (have hS1 := hS'.1; replace hS' := hS'.2)); go_simp; (try with_reducible rfl); done)); simp only [Act.put, List.getElem_toArray, List.getElem_cons_zero, List.getElem_cons_succ, List.setIfInBounds_toArray, List.set_cons_zero, List.set_cons_succ]))
  refine wpS_load _ rfl (by rfl) _ _ rfl _ _ rfl (b8s id) _ (fun w' hS' => hS'.1) Try.underlying23 rfl HINF.out ?_
  simp only [Act.put, List.getElem_toArray, List.getElem_cons_zero, List.getElem_cons_succ, List.setIfInBounds_toArray, List.set_cons_zero, List.set_cons_succ]
  refine wpS_load _ rfl (by rfl) _ _ rfl _ _ rfl (b8s id) _ (fun w' hS' => hS'.1) Try.underlying23 rfl HINF.out ?_
  simp only [Act.put, List.getElem_toArray, List.getElem_cons_zero, List.getElem_cons_succ, List.setIfInBounds_toArray, List.set_cons_zero, List.set_cons_succ]
  refine wpS_do _ rfl (by rfl) (fun K hK => ?_)
  go_simp
  refine (hex_any id hid w1).mono ?_
  rintro e w2 ⟨rfl, hb2⟩
  have hb02 := ext_trans HB1.out hb2
  refine hK.out _ _ ⟨rd_range ((range_rd HROW.out).below hb02), hb02⟩ (fun hS => ?_)
  have HB2 := Lib.hid hb02
  clear hK hS hb02 hb2
  refine wpS_do _ rfl (by rfl) (fun K hK => ?_)
  go_simp
  refine (rhex_any id hid w2).mono ?_
  rintro e w3 ⟨rfl, hb3⟩
  have hb03 := ext_trans HB2.out hb3
  refine hK.out _ _ ⟨rd_range ((range_rd HROW.out).below hb03), hb03⟩ (fun hS => ?_)
  have HB3 := Lib.hid hb03
  clear hK hS hb03 hb3
  (repeat (first | (refine wpS_pass _ rfl (by rfl) ?_; simp only [Act.put, List.getElem_toArray, List.getElem_cons_zero, List.getElem_cons_succ, List.setIfInBounds_toArray, List.set_cons_zero, List.set_cons_succ]) | (refine wpS_take _ ?_ rfl (by rfl) ?_ ?_; rotate_left; (focus (intro w' hS'; (try dsimp only at hS'); (repeat (have hS1 := hS'.1; replace hS' := hS'.2)); go_simp; (try with_reducible rfl); done)); simp only [Act.put, List.getElem_toArray, List.getElem_cons_zero, List.getElem_cons_succ, List.setIfInBounds_toArray, List.set_cons_zero, List.set_cons_succ])))
  refine wpS_done ?_
  have hp1 := fun w => parse_any s hs w
  have hp2 := fun w => rparse_any s hs w
  have hpl := parseL_len s.data.toList
  obtain ⟨V, hV⟩ : ∃ V, (parseL s.data.toList).1 = V := ⟨_, rfl⟩
  obtain ⟨b, hb⟩ : ∃ b, (parseL s.data.toList).2 = b := ⟨_, rfl⟩
  rw [hV] at hp1 hp2 hpl
  rw [hb] at hp1 hp2
  have HP1 := Lib.hid hp1
  have HP2 := Lib.hid hp2
  have HV : Hid ((Try.prog.info? 23).map (·.size) = some (b8s V).toArray.size) := Lib.hid (info_of_arr V hpl info_id)
  have HV2 : Hid ((Try.prog.info? 22).map (·.size) = some (b8s V).toArray.size) := Lib.hid (info_of_arr V hpl info_arr)
  clear hp1 hp2 hV hb
  go_wp2_with fail
  refine (HP1.out w3).mono ?_
  rintro e w4 ⟨rfl, hb4⟩
  obtain ⟨H, Wa, W5, hH, hWa, hW5, HTH, HROW5, HB5, HS5⟩ := arr_place (w := w4) 23 V hpl
  have HW5 := Lib.hid hW5
  clear hW5
  go_wp2_with ((with_reducible (refine wpList_store_mid rfl _ _ _ rfl ?_ ?_ ?_ ?_ ?_ ?_ ?_ ?_ ?_)); (exact H); (exact 0); (exact (b8s V).toArray); (exact rfl); (exact rfl); (exact HTH.out); (exact HV.out); (exact all_oneCell_toArray (b8s_one' _)); rw [HW5.out])
  refine (HP2.out W5).mono ?_
  rintro e w6 ⟨rfl, hb6⟩
  have hrow6 := (hb6.block H (by rw [HS5.out]; omega)).trans HROW5.out
  have HROW6 := Lib.hid hrow6
  clear hrow6 hWa hH
  obtain ⟨H', Wa', W7, hH', hWa', hW7, HTH7, HROW7, HB7, HS7⟩ := arr_place (w := w6) 22 V hpl
  have HW7 := Lib.hid hW7
  have hrow8 := (HB7.out.block H (by have := hb6.size; rw [HS5.out] at this; omega)).trans HROW6.out
  have HROW8 := Lib.hid hrow8
  have hguard : Program.eqGuardType Try.prog Try.prog.depth 23 = false := by kernel_rfl
  have heq : ∀ w : World, (binOp .eql 23 (.agg (b8s V).toArray) (.agg (b8s V).toArray)).run Try.prog w = .ok (.bool true) w := by
    intro w
    rw [run_eql_ids (P := Try.prog) (t := 23) (e := 5) (n := 32) Try.underlying23 Try.underlying5 (by kernel_rfl) (by kernel_rfl) (by kernel_rfl) V V hpl hpl w]
    simp
  clear hW7 hrow8 HTH HROW5 HROW6
  go_wp2_with (first
    | ((with_reducible (refine wpList_store_mid rfl _ _ _ rfl ?_ ?_ ?_ ?_ ?_ ?_ ?_ ?_ ?_)); (exact H'); (exact 0); (exact (b8s V).toArray); (exact rfl); (exact rfl); (exact HTH7.out); (exact HV2.out); (exact all_oneCell_toArray (b8s_one' _)); rw [HW7.out])
    | ((with_reducible (refine wpList_load_row_w _ _ rfl _ rfl _ _ _ _ HROW8.out Try.underlying23 rfl HV.out ?_ ?_)); (focus (rfl)))
    | ((with_reducible (refine wpList_load_row_w _ _ rfl _ rfl _ _ _ _ HROW7.out Try.underlying22 rfl HV2.out ?_ ?_)); (focus (rfl))))
  go_ret
  exact ⟨rfl, ext_trans HB.out (ext_trans HB3.out (ext_trans hb4 (ext_trans HB5.out (ext_trans hb6 HB7.out))))⟩
end Go.Proofs.Ytkiggfahcakdeaa
