
/- Operations, right or not. -/

import Derived.Test.YtabkgoandfpclaaOp2

namespace Go.Proofs.Ytabkgoandfpclaa

set_option linter.unusedVariables false

set_option linter.unusedSimpArgs false

open Go.RowKit

def goodO (o : OpM) : Bool := rightB o.at_ && rightB o.node && (if o.kind = 1 then goodMove o else if o.kind = 2 then goodEdit o else false)

set_option maxRecDepth 100000 in
set_option maxHeartbeats 2000000 in
theorem good_any' (o : OpM) (w : World) (h : OpIn w o) : Calls Try.prog 18 #[o.val] w fun e w' => e = .returned (.bool (goodO o)) ∧ Below w.heap.size w w' := by
  obtain ⟨W1, hW1⟩ : ∃ W1, w.alloc (.cells o.cells.toArray 33) = W1 := ⟨_, rfl⟩
  have hrow : W1.heap[w.heap.size]? = some (.cells o.cells.toArray 33 (0, 0)) := by rw [← hW1]; exact heap_alloc_new w _
  have hb1 : Below w.heap.size w W1 := by rw [← hW1]; exact (Below.refl _ _).alloc (Nat.le_refl _) _
  obtain ⟨g, hg⟩ : ∃ g, w.heap.size = g := ⟨_, rfl⟩
  rw [hg] at hrow hb1
  have HID := Lib.hid (info_data o.data h.len)
  have HR1 := Lib.hid hrow
  have HL1 := Lib.hid (Array.getElem?_eq_some_iff.1 hrow).1
  have HB1 := Lib.hid hb1
  have R1 := opRow_of hrow h.len
  have HL := Lib.hid h.len
  have HN := Lib.hid h.nm
  obtain ⟨A, c, hov, hrd, hcl, hcm⟩ := h.ov
  have HOV := Lib.hid hov
  have HRD : Hid (∀ W, Below g w W → Rd W A (stc o.os)) := Lib.hid (fun W hb => hrd.below (by rw [hg]; exact hb))
  have HIN : Hid (∀ W, Below g w W → OpIn W o) := Lib.hid (fun W hb => h.below (by rw [hg]; exact hb))
  obtain ⟨V, hV⟩ : ∃ V, goodO o = V := ⟨_, rfl⟩
  have HV := Lib.hid hV
  unfold OpM.val
  rw [hg, hV]
  clear hrow hb1 h hV hov hrd
  have HI : Hid ((Try.prog.info? 33).map (·.size) = some o.cells.toArray.size) := Lib.hid (by rw [List.size_toArray, o.cells_len HL.out]; exact info_op)
  go_enter Try.func18, Try.ntmps18
  go_wp2_with (first | ((with_reducible (refine wpList_load_stm 23 _ g 1 o.at_ R1.at_ Try.underlying23 rfl info_stm ?_ rfl ?_ ?_)); (exact rfl); (exact rfl)) | ((with_reducible (refine wpList_load_stm 23 _ g 3 o.node R1.node Try.underlying23 rfl info_stm ?_ rfl ?_ ?_)); (exact rfl); (exact rfl)) | ((with_reducible (refine wpList_load_stm 23 _ g 5 o.par R1.par Try.underlying23 rfl info_stm ?_ rfl ?_ ?_)); (exact rfl); (exact rfl)) | ((with_reducible (refine wpList_load_b8 30 _ g 8 o.data R1.data Try.underlying30 rfl HID.out ?_ rfl ?_ ?_)); (exact rfl); (exact rfl)))
  clear hg hW1
  refine (right_any o.at_ W1).mono ?_
  rintro e w2 ⟨rfl, hb2⟩
  have HB2 := Lib.hid (HB1.out.trans (hb2.mono (Nat.le_of_lt HL1.out)))
  have hr2 := (hb2.block _ HL1.out).trans HR1.out
  have R2 := opRow_of hr2 HL.out
  have HR2 := Lib.hid hr2
  have HL2 := Lib.hid (Array.getElem?_eq_some_iff.1 hr2).1
  clear hb2 R1 hr2
  cases c1 : rightB o.at_
  · go_wp2_with (first | ((with_reducible (refine wpList_load_stm 23 _ g 1 o.at_ R2.at_ Try.underlying23 rfl info_stm ?_ rfl ?_ ?_)); (exact rfl); (exact rfl)) | ((with_reducible (refine wpList_load_stm 23 _ g 3 o.node R2.node Try.underlying23 rfl info_stm ?_ rfl ?_ ?_)); (exact rfl); (exact rfl)) | ((with_reducible (refine wpList_load_stm 23 _ g 5 o.par R2.par Try.underlying23 rfl info_stm ?_ rfl ?_ ?_)); (exact rfl); (exact rfl)) | ((with_reducible (refine wpList_load_b8 30 _ g 8 o.data R2.data Try.underlying30 rfl HID.out ?_ rfl ?_ ?_)); (exact rfl); (exact rfl)))
    go_ret
    exact ⟨ret_bool (by rw [← HV.out]; unfold goodO; rw [c1]; rfl), HB2.out⟩
  · go_wp2_with (first | ((with_reducible (refine wpList_load_stm 23 _ g 1 o.at_ R2.at_ Try.underlying23 rfl info_stm ?_ rfl ?_ ?_)); (exact rfl); (exact rfl)) | ((with_reducible (refine wpList_load_stm 23 _ g 3 o.node R2.node Try.underlying23 rfl info_stm ?_ rfl ?_ ?_)); (exact rfl); (exact rfl)) | ((with_reducible (refine wpList_load_stm 23 _ g 5 o.par R2.par Try.underlying23 rfl info_stm ?_ rfl ?_ ?_)); (exact rfl); (exact rfl)) | ((with_reducible (refine wpList_load_b8 30 _ g 8 o.data R2.data Try.underlying30 rfl HID.out ?_ rfl ?_ ?_)); (exact rfl); (exact rfl)))
    refine (right_any o.node w2).mono ?_
    rintro e w3 ⟨rfl, hb3⟩
    have HB3 := Lib.hid (HB2.out.trans (hb3.mono (Nat.le_of_lt HL2.out)))
    have hr3 := (hb3.block _ HL2.out).trans HR2.out
    have R3 := opRow_of hr3 HL.out
    have HR3 := Lib.hid hr3
    have HL3 := Lib.hid (Array.getElem?_eq_some_iff.1 hr3).1
    clear hb3 R2 hr3
    cases c2 : rightB o.node
    · go_wp2_with (first | ((with_reducible (refine wpList_load_stm 23 _ g 1 o.at_ R3.at_ Try.underlying23 rfl info_stm ?_ rfl ?_ ?_)); (exact rfl); (exact rfl)) | ((with_reducible (refine wpList_load_stm 23 _ g 3 o.node R3.node Try.underlying23 rfl info_stm ?_ rfl ?_ ?_)); (exact rfl); (exact rfl)) | ((with_reducible (refine wpList_load_stm 23 _ g 5 o.par R3.par Try.underlying23 rfl info_stm ?_ rfl ?_ ?_)); (exact rfl); (exact rfl)) | ((with_reducible (refine wpList_load_b8 30 _ g 8 o.data R3.data Try.underlying30 rfl HID.out ?_ rfl ?_ ?_)); (exact rfl); (exact rfl)))
      go_ret
      exact ⟨ret_bool (by rw [← HV.out]; unfold goodO; rw [c1, c2]; rfl), HB3.out⟩
    · have hk := R3.kind
      have hrow3 := HR3.out
      by_cases k1 : o.kind = 1
      · have d1 : (o.kind == 1) = true := by rw [k1]; rfl
        have K1 := Lib.hid k1
        clear k1
        go_wp2_with ((with_reducible (refine wpList_load_op 33 _ g o hrow3 Try.underlying33 rfl HI.out ?_ rfl ?_ ?_)); (exact rfl); (exact rfl))
        refine (move_any o w3 (HIN.out _ HB3.out)).mono ?_
        rintro e w4 ⟨rfl, hb4⟩
        go_wp2_with fail
        go_ret
        exact ⟨ret_bool (by rw [← HV.out]; unfold goodO; rw [c1, c2, if_pos K1.out]; rfl), HB3.out.trans (hb4.mono (Nat.le_of_lt HL3.out))⟩
      · have d1 : (o.kind == 1) = false := by rw [beq_eq_false_iff_ne]; exact k1
        have K1 := Lib.hid k1
        clear k1
        by_cases k2 : o.kind = 2
        · have d2 : (o.kind == 2) = true := by rw [k2]; rfl
          have K2 := Lib.hid k2
          clear k2
          go_wp2_with ((with_reducible (refine wpList_load_op 33 _ g o hrow3 Try.underlying33 rfl HI.out ?_ rfl ?_ ?_)); (exact rfl); (exact rfl))
          refine (edit_any o w3 (HIN.out _ HB3.out)).mono ?_
          rintro e w4 ⟨rfl, hb4⟩
          go_wp2_with fail
          go_ret
          exact ⟨ret_bool (by rw [← HV.out]; unfold goodO; rw [c1, c2, if_neg K1.out, if_pos K2.out]; rfl), HB3.out.trans (hb4.mono (Nat.le_of_lt HL3.out))⟩
        · have d2 : (o.kind == 2) = false := by rw [beq_eq_false_iff_ne]; exact k2
          have K2 := Lib.hid k2
          clear k2
          go_wp2_with fail
          go_ret
          exact ⟨ret_bool (by rw [← HV.out]; unfold goodO; rw [c1, c2, if_neg K1.out, if_neg K2.out]; rfl), HB3.out⟩
end Go.Proofs.Ytabkgoandfpclaa
