
/- The document's Good. -/

import Derived.Test.YtabkgoandfpclaaOp6

import Derived.Test.YtabkgoandfpclaaStOrd

namespace Go.Proofs.Ytabkgoandfpclaa

set_option linter.unusedVariables false

set_option linter.unusedSimpArgs false

open Go.RowKit

theorem info_z32 (bs : List UInt8) (h : bs.length = 32) : (Try.prog.info? 29).map (·.size) = some (b8s bs).length := by rw [b8s_length, h]; kernel_rfl
theorem cmpS_self (u : Stm) : cmpS u u = 0 := by
  have h := cmpS_three u u
  omega
theorem cmpS_zero {a b : Stm} (h : cmpS a b = 0) : a = b := by
  rcases cmpS_three a b with k | k | k
  · omega
  · exact k.2.2
  · omega
theorem goodO_right {o : OpM} (h : rightB o.at_ = false) : goodO o = false := by unfold goodO; rw [h]; rfl
theorem goodO_right2 {o : OpM} (h : rightB o.node = false) : goodO o = false := by unfold goodO; rw [h]; simp
theorem goodO_late {o : OpM} (h : 0 < cmpS o.node o.at_) : goodO o = false := by
  unfold goodO goodMove goodEdit
  rw [decide_eq_false (show ¬ cmpS o.node o.at_ ≤ 0 by omega), decide_eq_false (show ¬ cmpS o.node o.at_ < 0 by omega)]
  simp
theorem goodO_move {o : OpM} (h1 : rightB o.at_ = true) (h2 : rightB o.node = true) (h3 : ¬ 0 < cmpS o.node o.at_) (hk : o.kind = 1) : goodO o = ((rightB o.par || fixedB o.par) && nameS o.name && decide (o.data = zeros32) && ((o.os.length : Int) == 0)) := by
  unfold goodO goodMove
  rw [h1, h2, if_pos hk, decide_eq_true (show cmpS o.node o.at_ ≤ 0 by omega)]
  simp
theorem goodO_edit {o : OpM} (h1 : rightB o.at_ = true) (h2 : rightB o.node = true) (h3 : ¬ 0 < cmpS o.node o.at_) (k1 : o.kind = 2) (k2 : ¬ o.node = o.at_) (k3 : o.par = stm0) (k4 : o.name.toList = []) (k5 : ¬ o.data = zeros32) (k6 : o.os.length ≤ 64) : goodO o = goodOver o.at_ o.os := by
  have hc : cmpS o.node o.at_ < 0 := by
    rcases cmpS_three o.node o.at_ with k | k | k
    · omega
    · exact absurd k.2.2 k2
    · omega
  unfold goodO goodEdit
  rw [h1, h2, if_neg (by omega), if_pos k1, decide_eq_true hc, k3, k4, decide_eq_false k5, decide_eq_true k6]
  simp
theorem goodO_none {o : OpM} (hk : ¬ o.kind = 1) (h : ¬ (o.kind = 2 ∧ ¬ o.node = o.at_ ∧ o.par = stm0 ∧ o.name.toList = [] ∧ ¬ o.data = zeros32 ∧ o.os.length ≤ 64)) : goodO o = false := by
  rw [Bool.eq_false_iff]
  intro hg
  unfold goodO goodEdit at hg
  rw [if_neg hk] at hg
  by_cases h2 : o.kind = 2
  · rw [if_pos h2] at hg
    simp only [Bool.and_eq_true, decide_eq_true_eq, Bool.not_eq_true', decide_eq_false_iff_not] at hg
    obtain ⟨_, ⟨⟨⟨⟨⟨a1, a2⟩, a3⟩, a4⟩, a5⟩, _⟩⟩ := hg
    exact h ⟨h2, fun e => by rw [e, cmpS_self] at a1; omega, a2, List.isEmpty_iff.1 a3, a4, a5⟩
  · rw [if_neg h2] at hg
    simp at hg
theorem okAt_neg {a : Stm} {os : List Stm} {i : Nat} {x : Int} {s : Stm} (h : okAt a os i = (rightB s && decide (cmpS s a < 0) && prevOk os s i)) (hx : cmpS s a = x) (hn : ¬ x = -1) : okAt a os i = false := by
  rw [h, hx]
  have := cmpS_three s a
  rw [hx] at this
  rw [decide_eq_false (by omega)]
  simp

set_option maxRecDepth 100000 in
set_option maxHeartbeats 8000000 in
theorem rgood_any (o : OpM) (w : World) (h : OpIn w o) : Calls Try.prog 19 #[o.val] w fun e w' => e = .returned (.bool (goodO o)) ∧ Below w.heap.size w w' := by
  obtain ⟨W1, hW1⟩ : ∃ W1, w.alloc (.cells o.cells.toArray 33) = W1 := ⟨_, rfl⟩
  have hrow : W1.heap[w.heap.size]? = some (.cells o.cells.toArray 33 (0, 0)) := by rw [← hW1]; exact heap_alloc_new w _
  have hb1 : Below w.heap.size w W1 := by rw [← hW1]; exact (Below.refl _ _).alloc (Nat.le_refl _) _
  obtain ⟨g, hg⟩ : ∃ g, w.heap.size = g := ⟨_, rfl⟩
  rw [hg] at hrow hb1
  have HID := Lib.hid (info_data o.data h.len)
  have HR1 := Lib.hid hrow
  have HL1 := Lib.hid (Array.getElem?_eq_some_iff.1 hrow).1
  have HB1 := Lib.hid hb1
  have R1 := opRow_of hrow h.len
  have HL := Lib.hid h.len
  have HN := Lib.hid h.nm
  obtain ⟨A, c, hov, hrd, hcl, hcm⟩ := h.ov
  have HOV := Lib.hid hov
  have HRD : Hid (∀ W, Below g w W → Rd W A (stc o.os)) := Lib.hid (fun W hb => hrd.below (by rw [hg]; exact hb))
  have HIN : Hid (∀ W, Below g w W → OpIn W o) := Lib.hid (fun W hb => h.below (by rw [hg]; exact hb))
  obtain ⟨V, hV⟩ : ∃ V, goodO o = V := ⟨_, rfl⟩
  have HV := Lib.hid hV
  unfold OpM.val
  rw [hg, hV]
  clear hrow hb1 h hV hov hrd
  go_enter Try.func19, Try.ntmps19
  go_wp2_with (first | ((with_reducible (refine wpList_load_stm 23 _ g 1 o.at_ R1.at_ Try.underlying23 rfl info_stm ?_ rfl ?_ ?_)); (exact rfl); (exact rfl)) | ((with_reducible (refine wpList_load_stm 23 _ g 3 o.node R1.node Try.underlying23 rfl info_stm ?_ rfl ?_ ?_)); (exact rfl); (exact rfl)) | ((with_reducible (refine wpList_load_stm 23 _ g 5 o.par R1.par Try.underlying23 rfl info_stm ?_ rfl ?_ ?_)); (exact rfl); (exact rfl)) | ((with_reducible (refine wpList_load_b8 30 _ g 8 o.data R1.data Try.underlying30 rfl HID.out ?_ rfl ?_ ?_)); (exact rfl); (exact rfl)))
  clear hg hW1
  refine (rright_any o.at_ W1).mono ?_
  rintro e w2 ⟨rfl, hb2⟩
  have HB2 := Lib.hid (HB1.out.trans (hb2.mono (Nat.le_of_lt HL1.out)))
  have hr2 := (hb2.block _ HL1.out).trans HR1.out
  have R2 := opRow_of hr2 HL.out
  have HR2 := Lib.hid hr2
  have HL2 := Lib.hid (Array.getElem?_eq_some_iff.1 hr2).1
  clear hb2 R1 hr2
  cases c1 : rightB o.at_
  · go_wp2_with (first | ((with_reducible (refine wpList_load_stm 23 _ g 1 o.at_ R2.at_ Try.underlying23 rfl info_stm ?_ rfl ?_ ?_)); (exact rfl); (exact rfl)) | ((with_reducible (refine wpList_load_stm 23 _ g 3 o.node R2.node Try.underlying23 rfl info_stm ?_ rfl ?_ ?_)); (exact rfl); (exact rfl)) | ((with_reducible (refine wpList_load_stm 23 _ g 5 o.par R2.par Try.underlying23 rfl info_stm ?_ rfl ?_ ?_)); (exact rfl); (exact rfl)) | ((with_reducible (refine wpList_load_b8 30 _ g 8 o.data R2.data Try.underlying30 rfl HID.out ?_ rfl ?_ ?_)); (exact rfl); (exact rfl)))
    go_ret
    exact ⟨ret_bool (by rw [← HV.out, goodO_right c1]), HB2.out⟩
  · go_wp2_with (first | ((with_reducible (refine wpList_load_stm 23 _ g 1 o.at_ R2.at_ Try.underlying23 rfl info_stm ?_ rfl ?_ ?_)); (exact rfl); (exact rfl)) | ((with_reducible (refine wpList_load_stm 23 _ g 3 o.node R2.node Try.underlying23 rfl info_stm ?_ rfl ?_ ?_)); (exact rfl); (exact rfl)) | ((with_reducible (refine wpList_load_stm 23 _ g 5 o.par R2.par Try.underlying23 rfl info_stm ?_ rfl ?_ ?_)); (exact rfl); (exact rfl)) | ((with_reducible (refine wpList_load_b8 30 _ g 8 o.data R2.data Try.underlying30 rfl HID.out ?_ rfl ?_ ?_)); (exact rfl); (exact rfl)))
    refine (rright_any o.node w2).mono ?_
    rintro e w3 ⟨rfl, hb3⟩
    have HB3 := Lib.hid (HB2.out.trans (hb3.mono (Nat.le_of_lt HL2.out)))
    have hr3 := (hb3.block _ HL2.out).trans HR2.out
    have R3 := opRow_of hr3 HL.out
    have HR3 := Lib.hid hr3
    have HL3 := Lib.hid (Array.getElem?_eq_some_iff.1 hr3).1
    clear hb3 R2 hr3
    cases c2 : rightB o.node
    · go_wp2_with (first | ((with_reducible (refine wpList_load_stm 23 _ g 1 o.at_ R3.at_ Try.underlying23 rfl info_stm ?_ rfl ?_ ?_)); (exact rfl); (exact rfl)) | ((with_reducible (refine wpList_load_stm 23 _ g 3 o.node R3.node Try.underlying23 rfl info_stm ?_ rfl ?_ ?_)); (exact rfl); (exact rfl)) | ((with_reducible (refine wpList_load_stm 23 _ g 5 o.par R3.par Try.underlying23 rfl info_stm ?_ rfl ?_ ?_)); (exact rfl); (exact rfl)) | ((with_reducible (refine wpList_load_b8 30 _ g 8 o.data R3.data Try.underlying30 rfl HID.out ?_ rfl ?_ ?_)); (exact rfl); (exact rfl)))
      go_ret
      exact ⟨ret_bool (by rw [← HV.out, goodO_right2 c2]), HB3.out⟩
    · go_wp2_with (first | ((with_reducible (refine wpList_load_stm 23 _ g 1 o.at_ R3.at_ Try.underlying23 rfl info_stm ?_ rfl ?_ ?_)); (exact rfl); (exact rfl)) | ((with_reducible (refine wpList_load_stm 23 _ g 3 o.node R3.node Try.underlying23 rfl info_stm ?_ rfl ?_ ?_)); (exact rfl); (exact rfl)) | ((with_reducible (refine wpList_load_stm 23 _ g 5 o.par R3.par Try.underlying23 rfl info_stm ?_ rfl ?_ ?_)); (exact rfl); (exact rfl)) | ((with_reducible (refine wpList_load_b8 30 _ g 8 o.data R3.data Try.underlying30 rfl HID.out ?_ rfl ?_ ?_)); (exact rfl); (exact rfl)))
      refine (rcmp_any o.node o.at_ w3).mono ?_
      rintro e w4 ⟨rfl, hb4⟩
      have HB4 := Lib.hid (HB3.out.trans (hb4.mono (Nat.le_of_lt HL3.out)))
      have hr4 := (hb4.block _ HL3.out).trans HR3.out
      have R4 := opRow_of hr4 HL.out
      have HR4 := Lib.hid hr4
      have HL4 := Lib.hid (Array.getElem?_eq_some_iff.1 hr4).1
      clear hb4 R3 hr4
      by_cases c3 : 0 < cmpS o.node o.at_
      · have d3 : decide (0 < cmpS o.node o.at_) = true := decide_eq_true c3
        have C3 := Lib.hid c3
        clear c3
        go_wp2_with fail
        go_ret
        exact ⟨ret_bool (by rw [← HV.out, goodO_late C3.out]), HB4.out⟩
      · have d3 : decide (0 < cmpS o.node o.at_) = false := decide_eq_false c3
        have C3 := Lib.hid c3
        have C1 := Lib.hid c1
        have C2 := Lib.hid c2
        clear c3 c1 c2
        obtain ⟨gz, Wa, W5, hgz, hWa, hW5, HTH, HZR, HB5, HS5⟩ := arr_place (w := w4) 29 zeros32 rfl
        have HW5 := Lib.hid hW5
        have HIZ : Hid ((Try.prog.info? 29).map (·.size) = some (b8s zeros32).toArray.size) := Lib.hid (by rw [List.size_toArray]; exact info_z32 zeros32 rfl)
        have HIZ2 : Hid ((Try.prog.info? 29).map (·.size) = some (b8s zeros32).length) := Lib.hid (info_z32 zeros32 rfl)
        have hr5 := (HB5.out.block _ HL4.out).trans HR4.out
        have R5 := opRow_of hr5 HL.out
        have HR5 := Lib.hid hr5
        have HL5 := Lib.hid (Array.getElem?_eq_some_iff.1 hr5).1
        have HBW := Lib.hid (HB4.out.trans (HB5.out.mono (Nat.le_of_lt HL4.out)))
        have HZ0 := Lib.hid (range_of_row HZR.out)
        have HZL := Lib.hid (Array.getElem?_eq_some_iff.1 HZR.out).1
        have hk0 := R5.kind
        clear hW5 R4 hr5
        by_cases k1 : o.kind = 1
        · have e1 : (o.kind == 1) = true := by rw [k1]; rfl
          have HGM := Lib.hid (goodO_move C1.out C2.out C3.out k1)
          clear k1
          go_wp2_with (first
            | ((with_reducible (refine wpList_store_mid rfl _ _ _ rfl ?_ ?_ ?_ ?_ ?_ ?_ ?_ ?_ ?_)); (exact gz); (exact 0); (exact (b8s zeros32).toArray); (exact rfl); (exact rfl); (exact HTH.out); (exact HIZ.out); (exact all_oneCell_toArray (b8s_one' _)); rw [HW5.out])
            | (first | ((with_reducible (refine wpList_load_stm 23 _ g 1 o.at_ R5.at_ Try.underlying23 rfl info_stm ?_ rfl ?_ ?_)); (exact rfl); (exact rfl)) | ((with_reducible (refine wpList_load_stm 23 _ g 3 o.node R5.node Try.underlying23 rfl info_stm ?_ rfl ?_ ?_)); (exact rfl); (exact rfl)) | ((with_reducible (refine wpList_load_stm 23 _ g 5 o.par R5.par Try.underlying23 rfl info_stm ?_ rfl ?_ ?_)); (exact rfl); (exact rfl)) | ((with_reducible (refine wpList_load_b8 30 _ g 8 o.data R5.data Try.underlying30 rfl HID.out ?_ rfl ?_ ?_)); (exact rfl); (exact rfl))))
          clear hWa hgz
          refine (rright_any o.par W5).mono ?_
          rintro e w6 ⟨rfl, hb6⟩
          have HBB6 := Lib.hid hb6
          have HB6 := Lib.hid (HBW.out.trans (hb6.mono (Nat.le_of_lt HL5.out)))
          have hr6 := (hb6.block _ HL5.out).trans HR5.out
          have R6 := opRow_of hr6 HL.out
          clear hb6 R5 hr6
          have HZ6 := range_below HZ0.out HZL.out HBB6.out
          have p0 : w6.cell? ⟨g, 5, none⟩ = some (.int .i64 o.par.t) := R6.par 0 _ rfl
          have p1 : w6.cell? ⟨g, 6, none⟩ = some (.int .i64 o.par.r) := R6.par 1 _ rfl
          have hon := R6.name
          have hov6 := R6.ov
          rw [HOV.out] at hov6
          have hZL6 := Nat.lt_of_lt_of_le HZL.out HBB6.out.size
          have HZL6 := Lib.hid hZL6
          have HZ6' := Lib.hid HZ6
          have hcase : (rightB o.par = true) ∨ (rightB o.par = false ∧ (o.par.t == 0) = true ∧ (o.par.r == 0) = true ∧ fixedB o.par = true) ∨ (rightB o.par = false ∧ (o.par.t == 0) = true ∧ (o.par.r == 0) = false ∧ (o.par.r == 1) = true ∧ fixedB o.par = true) ∨ (rightB o.par = false ∧ (o.par.t == 0) = true ∧ (o.par.r == 0) = false ∧ (o.par.r == 1) = false ∧ fixedB o.par = false) ∨ (rightB o.par = false ∧ (o.par.t == 0) = false ∧ fixedB o.par = false) := by
            cases q1 : rightB o.par
            · by_cases q2 : o.par.t = 0
              · by_cases q3 : o.par.r = 0
                · exact .inr (.inl ⟨rfl, by rw [q2]; rfl, by rw [q3]; rfl, by simp [fixedB, q2, q3]⟩)
                · by_cases q4 : o.par.r = 1
                  · exact .inr (.inr (.inl ⟨rfl, by rw [q2]; rfl, by rw [q4]; rfl, by rw [q4]; rfl, by simp [fixedB, q2, q4]⟩))
                  · exact .inr (.inr (.inr (.inl ⟨rfl, by rw [q2]; rfl, by rw [beq_eq_false_iff_ne]; exact q3, by rw [beq_eq_false_iff_ne]; exact q4, by simp [fixedB, q3, q4]⟩)))
              · exact .inr (.inr (.inr (.inr ⟨rfl, by rw [beq_eq_false_iff_ne]; exact q2, by simp [fixedB, q2]⟩)))
            · exact .inl rfl
          rcases hcase with x1 | ⟨x1, x2, x3, x4⟩ | ⟨x1, x2, x3, x4, x5⟩ | ⟨x1, x2, x3, x4, x5⟩ | ⟨x1, x2, x3⟩
          · go_wp2_with (first | ((with_reducible (refine wpList_load_stm 23 _ g 1 o.at_ R6.at_ Try.underlying23 rfl info_stm ?_ rfl ?_ ?_)); (exact rfl); (exact rfl)) | ((with_reducible (refine wpList_load_stm 23 _ g 3 o.node R6.node Try.underlying23 rfl info_stm ?_ rfl ?_ ?_)); (exact rfl); (exact rfl)) | ((with_reducible (refine wpList_load_stm 23 _ g 5 o.par R6.par Try.underlying23 rfl info_stm ?_ rfl ?_ ?_)); (exact rfl); (exact rfl)) | ((with_reducible (refine wpList_load_b8 30 _ g 8 o.data R6.data Try.underlying30 rfl HID.out ?_ rfl ?_ ?_)); (exact rfl); (exact rfl)))
            refine (rname_any o.name HN.out w6).mono ?_
            rintro e w7 ⟨rfl, rfl⟩
            have hed := fun w => eqin_data o.data zeros32 HL.out rfl w
            cases q5 : nameS o.name
            · go_wp2_with fail
              go_ret
              exact ⟨ret_bool (by rw [← HV.out, HGM.out, q5]; simp), HB6.out⟩
            · go_wp2_with (first
                | ((with_reducible (refine wpList_load_b8 29 _ gz 0 zeros32 HZ6'.out Try.underlying29 rfl HIZ2.out ?_ rfl ?_ ?_)); (exact rfl); (exact rfl))
                | (first | ((with_reducible (refine wpList_load_stm 23 _ g 1 o.at_ R6.at_ Try.underlying23 rfl info_stm ?_ rfl ?_ ?_)); (exact rfl); (exact rfl)) | ((with_reducible (refine wpList_load_stm 23 _ g 3 o.node R6.node Try.underlying23 rfl info_stm ?_ rfl ?_ ?_)); (exact rfl); (exact rfl)) | ((with_reducible (refine wpList_load_stm 23 _ g 5 o.par R6.par Try.underlying23 rfl info_stm ?_ rfl ?_ ?_)); (exact rfl); (exact rfl)) | ((with_reducible (refine wpList_load_b8 30 _ g 8 o.data R6.data Try.underlying30 rfl HID.out ?_ rfl ?_ ?_)); (exact rfl); (exact rfl))))
              all_goals
                go_ret
                exact ⟨ret_bool (by rw [← HV.out, HGM.out]; simp_all), HB6.out⟩
          · go_wp2_with (first | ((with_reducible (refine wpList_load_stm 23 _ g 1 o.at_ R6.at_ Try.underlying23 rfl info_stm ?_ rfl ?_ ?_)); (exact rfl); (exact rfl)) | ((with_reducible (refine wpList_load_stm 23 _ g 3 o.node R6.node Try.underlying23 rfl info_stm ?_ rfl ?_ ?_)); (exact rfl); (exact rfl)) | ((with_reducible (refine wpList_load_stm 23 _ g 5 o.par R6.par Try.underlying23 rfl info_stm ?_ rfl ?_ ?_)); (exact rfl); (exact rfl)) | ((with_reducible (refine wpList_load_b8 30 _ g 8 o.data R6.data Try.underlying30 rfl HID.out ?_ rfl ?_ ?_)); (exact rfl); (exact rfl)))
            refine (rname_any o.name HN.out w6).mono ?_
            rintro e w7 ⟨rfl, rfl⟩
            have hed := fun w => eqin_data o.data zeros32 HL.out rfl w
            cases q5 : nameS o.name
            · go_wp2_with fail
              go_ret
              exact ⟨ret_bool (by rw [← HV.out, HGM.out, q5]; simp), HB6.out⟩
            · go_wp2_with (first
                | ((with_reducible (refine wpList_load_b8 29 _ gz 0 zeros32 HZ6'.out Try.underlying29 rfl HIZ2.out ?_ rfl ?_ ?_)); (exact rfl); (exact rfl))
                | (first | ((with_reducible (refine wpList_load_stm 23 _ g 1 o.at_ R6.at_ Try.underlying23 rfl info_stm ?_ rfl ?_ ?_)); (exact rfl); (exact rfl)) | ((with_reducible (refine wpList_load_stm 23 _ g 3 o.node R6.node Try.underlying23 rfl info_stm ?_ rfl ?_ ?_)); (exact rfl); (exact rfl)) | ((with_reducible (refine wpList_load_stm 23 _ g 5 o.par R6.par Try.underlying23 rfl info_stm ?_ rfl ?_ ?_)); (exact rfl); (exact rfl)) | ((with_reducible (refine wpList_load_b8 30 _ g 8 o.data R6.data Try.underlying30 rfl HID.out ?_ rfl ?_ ?_)); (exact rfl); (exact rfl))))
              all_goals
                go_ret
                exact ⟨ret_bool (by rw [← HV.out, HGM.out]; simp_all), HB6.out⟩
          · go_wp2_with (first | ((with_reducible (refine wpList_load_stm 23 _ g 1 o.at_ R6.at_ Try.underlying23 rfl info_stm ?_ rfl ?_ ?_)); (exact rfl); (exact rfl)) | ((with_reducible (refine wpList_load_stm 23 _ g 3 o.node R6.node Try.underlying23 rfl info_stm ?_ rfl ?_ ?_)); (exact rfl); (exact rfl)) | ((with_reducible (refine wpList_load_stm 23 _ g 5 o.par R6.par Try.underlying23 rfl info_stm ?_ rfl ?_ ?_)); (exact rfl); (exact rfl)) | ((with_reducible (refine wpList_load_b8 30 _ g 8 o.data R6.data Try.underlying30 rfl HID.out ?_ rfl ?_ ?_)); (exact rfl); (exact rfl)))
            refine (rname_any o.name HN.out w6).mono ?_
            rintro e w7 ⟨rfl, rfl⟩
            have hed := fun w => eqin_data o.data zeros32 HL.out rfl w
            cases q5 : nameS o.name
            · go_wp2_with fail
              go_ret
              exact ⟨ret_bool (by rw [← HV.out, HGM.out, q5]; simp), HB6.out⟩
            · go_wp2_with (first
                | ((with_reducible (refine wpList_load_b8 29 _ gz 0 zeros32 HZ6'.out Try.underlying29 rfl HIZ2.out ?_ rfl ?_ ?_)); (exact rfl); (exact rfl))
                | (first | ((with_reducible (refine wpList_load_stm 23 _ g 1 o.at_ R6.at_ Try.underlying23 rfl info_stm ?_ rfl ?_ ?_)); (exact rfl); (exact rfl)) | ((with_reducible (refine wpList_load_stm 23 _ g 3 o.node R6.node Try.underlying23 rfl info_stm ?_ rfl ?_ ?_)); (exact rfl); (exact rfl)) | ((with_reducible (refine wpList_load_stm 23 _ g 5 o.par R6.par Try.underlying23 rfl info_stm ?_ rfl ?_ ?_)); (exact rfl); (exact rfl)) | ((with_reducible (refine wpList_load_b8 30 _ g 8 o.data R6.data Try.underlying30 rfl HID.out ?_ rfl ?_ ?_)); (exact rfl); (exact rfl))))
              all_goals
                go_ret
                exact ⟨ret_bool (by rw [← HV.out, HGM.out]; simp_all), HB6.out⟩
          · go_wp2_with (first | ((with_reducible (refine wpList_load_stm 23 _ g 1 o.at_ R6.at_ Try.underlying23 rfl info_stm ?_ rfl ?_ ?_)); (exact rfl); (exact rfl)) | ((with_reducible (refine wpList_load_stm 23 _ g 3 o.node R6.node Try.underlying23 rfl info_stm ?_ rfl ?_ ?_)); (exact rfl); (exact rfl)) | ((with_reducible (refine wpList_load_stm 23 _ g 5 o.par R6.par Try.underlying23 rfl info_stm ?_ rfl ?_ ?_)); (exact rfl); (exact rfl)) | ((with_reducible (refine wpList_load_b8 30 _ g 8 o.data R6.data Try.underlying30 rfl HID.out ?_ rfl ?_ ?_)); (exact rfl); (exact rfl)))
            go_ret
            exact ⟨ret_bool (by rw [← HV.out, HGM.out, x1, x5]; simp), HB6.out⟩
          · go_wp2_with (first | ((with_reducible (refine wpList_load_stm 23 _ g 1 o.at_ R6.at_ Try.underlying23 rfl info_stm ?_ rfl ?_ ?_)); (exact rfl); (exact rfl)) | ((with_reducible (refine wpList_load_stm 23 _ g 3 o.node R6.node Try.underlying23 rfl info_stm ?_ rfl ?_ ?_)); (exact rfl); (exact rfl)) | ((with_reducible (refine wpList_load_stm 23 _ g 5 o.par R6.par Try.underlying23 rfl info_stm ?_ rfl ?_ ?_)); (exact rfl); (exact rfl)) | ((with_reducible (refine wpList_load_b8 30 _ g 8 o.data R6.data Try.underlying30 rfl HID.out ?_ rfl ?_ ?_)); (exact rfl); (exact rfl)))
            go_ret
            exact ⟨ret_bool (by rw [← HV.out, HGM.out, x1, x3]; simp), HB6.out⟩
        · have e1 : (o.kind == 1) = false := by rw [beq_eq_false_iff_ne]; exact k1
          have hov5 := R5.ov
          rw [HOV.out] at hov5
          have hon := R5.name
          have p0 : W5.cell? ⟨g, 5, none⟩ = some (.int .i64 o.par.t) := R5.par 0 _ rfl
          have p1 : W5.cell? ⟨g, 6, none⟩ = some (.int .i64 o.par.r) := R5.par 1 _ rfl
          have hed := fun w => eqin_data o.data zeros32 HL.out rfl w
          obtain ⟨qn, hqn⟩ : ∃ q, decide (o.node = o.at_) = q := ⟨_, rfl⟩
          have hen : ∀ w, (binOp .eql 23 o.node.val o.at_.val).run Try.prog w = .ok (.bool qn) w := fun w => by rw [eql_stm, hqn]
          have hgn := fun b x y w => guard_stm b x y o.node o.at_ w
          by_cases hok : o.kind = 2 ∧ ¬ o.node = o.at_ ∧ o.par = stm0 ∧ o.name.toList = [] ∧ ¬ o.data = zeros32 ∧ o.os.length ≤ 64
          · have HGE := Lib.hid (goodO_edit C1.out C2.out C3.out hok.1 hok.2.1 hok.2.2.1 hok.2.2.2.1 hok.2.2.2.2.1 hok.2.2.2.2.2)
            obtain ⟨k2, k3, k4, k5, k6, k7⟩ := hok
            have j0 : (o.kind != 2) = false := by rw [k2]; rfl
            have j1 : qn = false := by rw [← hqn]; exact decide_eq_false k3
            have j2 : (o.par.t != 0) = false := by rw [k4]; rfl
            have j3 : (o.par.r != 0) = false := by rw [k4]; rfl
            have j4 : o.name.toList.isEmpty = true := by rw [k5]; rfl
            have j5 : decide (o.data = zeros32) = false := decide_eq_false k6
            have j6 : decide ((64 : Int) < (o.os.length : Int)) = false := decide_eq_false (by omega)
            rw [j1] at hen
            rw [j5] at hed
            have hB0 := Below.refl W5.heap.size W5
            have HRW : Hid (∀ W, Below W5.heap.size W5 W → Rd W A (stc o.os)) := Lib.hid (fun W hb => HRD.out W (HBW.out.trans (hb.mono (Nat.le_of_lt HL5.out))))
            clear k1 k2 k3 k4 k5 k6 j1 j5 hqn
            have K7 := Lib.hid k7
            clear k7
            go_wp2_with (first
              | ((with_reducible (refine wpList_store_mid rfl _ _ _ rfl ?_ ?_ ?_ ?_ ?_ ?_ ?_ ?_ ?_)); (exact gz); (exact 0); (exact (b8s zeros32).toArray); (exact rfl); (exact rfl); (exact HTH.out); (exact HIZ.out); (exact all_oneCell_toArray (b8s_one' _)); rw [HW5.out])
              | ((with_reducible (refine wpList_load_b8 29 _ gz 0 zeros32 HZ0.out Try.underlying29 rfl HIZ2.out ?_ rfl ?_ ?_)); (exact rfl); (exact rfl))
              | (first | ((with_reducible (refine wpList_load_stm 23 _ g 1 o.at_ R5.at_ Try.underlying23 rfl info_stm ?_ rfl ?_ ?_)); (exact rfl); (exact rfl)) | ((with_reducible (refine wpList_load_stm 23 _ g 3 o.node R5.node Try.underlying23 rfl info_stm ?_ rfl ?_ ?_)); (exact rfl); (exact rfl)) | ((with_reducible (refine wpList_load_stm 23 _ g 5 o.par R5.par Try.underlying23 rfl info_stm ?_ rfl ?_ ?_)); (exact rfl); (exact rfl)) | ((with_reducible (refine wpList_load_b8 30 _ g 8 o.data R5.data Try.underlying30 rfl HID.out ?_ rfl ?_ ?_)); (exact rfl); (exact rfl))))
            clear hWa hgz
            go_loopg [5] (o.os.length * 1) (fun gk_ s wr => ∃ k : Nat, k ≤ o.os.length ∧ gk_ = o.os.length - k ∧ s = .int .i64 (k : Int) ∧ Below W5.heap.size W5 wr ∧ Hid (∀ j < k, okAt o.at_ o.os j = true))
            case atStart => exact ⟨0, by omega, by omega, rfl, hB0, Lib.hid (fun j hj => absurd hj (Nat.not_lt_zero _))⟩
            case round =>
              clear hov5 hon p0 p1 hed hen hgn hB0 hk0 j0 j2 j3 j4 j6 e1 d3 R5
              obtain ⟨k, hk, rfl, rfl, hB, HOK⟩ := hrel
              have hr6 := (hB.block _ HL5.out).trans HR5.out
              have R6 := opRow_of hr6 HL.out
              have HV6 : Hid (wr.cell? ⟨g, 40, none⟩ = some (.slice A o.os.length c)) := Lib.hid (by rw [R6.ov, HOV.out])
              have hv6 := HV6.out
              have HAT := Lib.hid R6.at_
              have HG6 := Lib.hid (Array.getElem?_eq_some_iff.1 hr6).1
              have HBX := Lib.hid (HBW.out.trans (hB.mono (Nat.le_of_lt HL5.out)))
              clear hr6 R6
              by_cases hlt : k < o.os.length
              · have hpos : 0 < (stc o.os).length := by rw [stc_length]; omega
                have hrd2 := HRW.out wr hB
                obtain ⟨b, off, hA, _⟩ := hrd2.all hpos
                subst hA
                have RS := Lib.hid (rd_stm hrd2 k hlt)
                have HBL := Lib.hid (hrd2.lt hpos)
                have HRDr := Lib.hid hrd2
                obtain ⟨s, hs⟩ : ∃ s, o.os[k] = s := ⟨_, rfl⟩
                rw [hs] at RS
                have HGET : Hid (okAt o.at_ o.os k = (rightB s && decide (cmpS s o.at_ < 0) && prevOk o.os s k)) := Lib.hid (by rw [okAt_get _ _ _ hlt, hs])
                have i1 : (k : Int) < (o.os.length : Int) := by omega
                obtain ⟨x, hx⟩ : ∃ x, cmpS s o.at_ = x := ⟨_, rfl⟩
                have HX := Lib.hid hx
                clear hs hrd2 hpos hx
                go_wp2_with fail
                refine wp_region_sched (fun w' => Below wr.heap.size wr w' ∧ w'.cell? ⟨g, 40, none⟩ = some (.slice (some ⟨b, off, none⟩) o.os.length c))
                  [(true, 0), (true, 1), (true, 2), (true, 3), (true, 4), (false, 5), (true, 6), (true, 7), (true, 8), (true, 9), (true, 10), (true, 11), (true, 12), (true, 13), (true, 14), (false, 15), (true, 16), (true, 17), (true, 18), (true, 19), (true, 20), (true, 21), (true, 22), (true, 23), (true, 24), (true, 25), (true, 26), (true, 27), (true, 28), (true, 29), (true, 30), (true, 31), (true, 32), (false, 33), (true, 34), (true, 35), (true, 36)] (by kernel_rfl) (by kernel_rfl) rfl (by kernel_rfl) ⟨(Below.refl _ _).drew, hv6⟩ ?_
                (first | (refine wpS_pass _ rfl (by rfl) ?_; simp only [Act.put, List.getElem_toArray, List.getElem_cons_zero, List.getElem_cons_succ, List.setIfInBounds_toArray, List.set_cons_zero, List.set_cons_succ]) | (refine wpS_take _ ?_ rfl (by rfl) ?_ ?_; rotate_left; (focus (intro w' hS'; (try dsimp only at hS'); (repeat (have hS1 := hS'.1; replace hS' := hS'.2)); go_simp; (try with_reducible rfl); done)); simp only [Act.put, List.getElem_toArray, List.getElem_cons_zero, List.getElem_cons_succ, List.setIfInBounds_toArray, List.set_cons_zero, List.set_cons_succ]))
                (first | (refine wpS_pass _ rfl (by rfl) ?_; simp only [Act.put, List.getElem_toArray, List.getElem_cons_zero, List.getElem_cons_succ, List.setIfInBounds_toArray, List.set_cons_zero, List.set_cons_succ]) | (refine wpS_take _ ?_ rfl (by rfl) ?_ ?_; rotate_left; (focus (intro w' hS'; (try dsimp only at hS'); (repeat (have hS1 := hS'.1; replace hS' := hS'.2)); go_simp; (try with_reducible rfl); done)); simp only [Act.put, List.getElem_toArray, List.getElem_cons_zero, List.getElem_cons_succ, List.setIfInBounds_toArray, List.set_cons_zero, List.set_cons_succ]))
                (first | (refine wpS_pass _ rfl (by rfl) ?_; simp only [Act.put, List.getElem_toArray, List.getElem_cons_zero, List.getElem_cons_succ, List.setIfInBounds_toArray, List.set_cons_zero, List.set_cons_succ]) | (refine wpS_take _ ?_ rfl (by rfl) ?_ ?_; rotate_left; (focus (intro w' hS'; (try dsimp only at hS'); (repeat (have hS1 := hS'.1; replace hS' := hS'.2)); go_simp; (try with_reducible rfl); done)); simp only [Act.put, List.getElem_toArray, List.getElem_cons_zero, List.getElem_cons_succ, List.setIfInBounds_toArray, List.set_cons_zero, List.set_cons_succ]))
                (first | (refine wpS_pass _ rfl (by rfl) ?_; simp only [Act.put, List.getElem_toArray, List.getElem_cons_zero, List.getElem_cons_succ, List.setIfInBounds_toArray, List.set_cons_zero, List.set_cons_succ]) | (refine wpS_take _ ?_ rfl (by rfl) ?_ ?_; rotate_left; (focus (intro w' hS'; (try dsimp only at hS'); (repeat (have hS1 := hS'.1; replace hS' := hS'.2)); go_simp; (try with_reducible rfl); done)); simp only [Act.put, List.getElem_toArray, List.getElem_cons_zero, List.getElem_cons_succ, List.setIfInBounds_toArray, List.set_cons_zero, List.set_cons_succ]))
                refine wpS_load_stm _ rfl (by rfl) _ _ rfl b (off + k * 2) rfl s _ (fun w' hS' => range_below RS.out HBL.out hS'.1) Try.underlying23 rfl info_stm ?_
                simp only [Act.put, List.getElem_toArray, List.getElem_cons_zero, List.getElem_cons_succ, List.setIfInBounds_toArray, List.set_cons_zero, List.set_cons_succ]
                refine wpS_do _ rfl (by rfl) (fun K hK => ?_)
                go_simp
                refine (rright_any s _).mono ?_
                rintro e u1 ⟨rfl, kb1⟩
                have m1 := (Below.refl wr.heap.size wr).drew.trans (kb1.mono (Below.refl wr.heap.size wr).drew.size)
                refine hK.out _ _ ⟨m1, cell_below hv6 HG6.out m1⟩ (fun hS => ?_)
                clear hK
                cases c1 : rightB s
                · (repeat (first | (refine wpS_pass _ rfl (by rfl) ?_; simp only [Act.put, List.getElem_toArray, List.getElem_cons_zero, List.getElem_cons_succ, List.setIfInBounds_toArray, List.set_cons_zero, List.set_cons_succ]) | (refine wpS_take _ ?_ rfl (by rfl) ?_ ?_; rotate_left; (focus (intro w' hS'; (try dsimp only at hS'); (repeat (have hS1 := hS'.1; replace hS' := hS'.2)); go_simp; (try with_reducible rfl); done)); simp only [Act.put, List.getElem_toArray, List.getElem_cons_zero, List.getElem_cons_succ, List.setIfInBounds_toArray, List.set_cons_zero, List.set_cons_succ])))
                  refine wpS_skip _ rfl (by rfl) hS ?_
                  simp only [Act.put, List.getElem_toArray, List.getElem_cons_zero, List.getElem_cons_succ, List.setIfInBounds_toArray, List.set_cons_zero, List.set_cons_succ]
                  (repeat (first | (refine wpS_pass _ rfl (by rfl) ?_; simp only [Act.put, List.getElem_toArray, List.getElem_cons_zero, List.getElem_cons_succ, List.setIfInBounds_toArray, List.set_cons_zero, List.set_cons_succ]) | (refine wpS_take _ ?_ rfl (by rfl) ?_ ?_; rotate_left; (focus (intro w' hS'; (try dsimp only at hS'); (repeat (have hS1 := hS'.1; replace hS' := hS'.2)); go_simp; (try with_reducible rfl); done)); simp only [Act.put, List.getElem_toArray, List.getElem_cons_zero, List.getElem_cons_succ, List.setIfInBounds_toArray, List.set_cons_zero, List.set_cons_succ])))
                  refine wpS_skip _ rfl (by rfl) hS ?_
                  simp only [Act.put, List.getElem_toArray, List.getElem_cons_zero, List.getElem_cons_succ, List.setIfInBounds_toArray, List.set_cons_zero, List.set_cons_succ]
                  (repeat (first | (refine wpS_pass _ rfl (by rfl) ?_; simp only [Act.put, List.getElem_toArray, List.getElem_cons_zero, List.getElem_cons_succ, List.setIfInBounds_toArray, List.set_cons_zero, List.set_cons_succ]) | (refine wpS_take _ ?_ rfl (by rfl) ?_ ?_; rotate_left; (focus (intro w' hS'; (try dsimp only at hS'); (repeat (have hS1 := hS'.1; replace hS' := hS'.2)); go_simp; (try with_reducible rfl); done)); simp only [Act.put, List.getElem_toArray, List.getElem_cons_zero, List.getElem_cons_succ, List.setIfInBounds_toArray, List.set_cons_zero, List.set_cons_succ])))
                  refine wpS_done ?_
                  go_wp2_with fail
                  go_ret
                  exact ⟨ret_bool (by rw [← HV.out, HGE.out]; exact (goodOver_bad k hlt (by rw [HGET.out, c1]; rfl)).symm), HBX.out.trans (m1.mono (Nat.le_of_lt HG6.out))⟩
                · (repeat (first | (refine wpS_pass _ rfl (by rfl) ?_; simp only [Act.put, List.getElem_toArray, List.getElem_cons_zero, List.getElem_cons_succ, List.setIfInBounds_toArray, List.set_cons_zero, List.set_cons_succ]) | (refine wpS_take _ ?_ rfl (by rfl) ?_ ?_; rotate_left; (focus (intro w' hS'; (try dsimp only at hS'); (repeat (have hS1 := hS'.1; replace hS' := hS'.2)); go_simp; (try with_reducible rfl); done)); simp only [Act.put, List.getElem_toArray, List.getElem_cons_zero, List.getElem_cons_succ, List.setIfInBounds_toArray, List.set_cons_zero, List.set_cons_succ])))
                  refine wpS_load_stm _ rfl (by rfl) _ _ rfl b (off + k * 2) rfl s _ (fun w' hS' => range_below RS.out HBL.out hS'.1) Try.underlying23 rfl info_stm ?_
                  simp only [Act.put, List.getElem_toArray, List.getElem_cons_zero, List.getElem_cons_succ, List.setIfInBounds_toArray, List.set_cons_zero, List.set_cons_succ]
                  (first | (refine wpS_pass _ rfl (by rfl) ?_; simp only [Act.put, List.getElem_toArray, List.getElem_cons_zero, List.getElem_cons_succ, List.setIfInBounds_toArray, List.set_cons_zero, List.set_cons_succ]) | (refine wpS_take _ ?_ rfl (by rfl) ?_ ?_; rotate_left; (focus (intro w' hS'; (try dsimp only at hS'); (repeat (have hS1 := hS'.1; replace hS' := hS'.2)); go_simp; (try with_reducible rfl); done)); simp only [Act.put, List.getElem_toArray, List.getElem_cons_zero, List.getElem_cons_succ, List.setIfInBounds_toArray, List.set_cons_zero, List.set_cons_succ]))
                  refine wpS_load_stm _ rfl (by rfl) _ _ rfl _ _ rfl o.at_ _ (fun w' hS' => range_below HAT.out HG6.out hS'.1) Try.underlying23 rfl info_stm ?_
                  simp only [Act.put, List.getElem_toArray, List.getElem_cons_zero, List.getElem_cons_succ, List.setIfInBounds_toArray, List.set_cons_zero, List.set_cons_succ]
                  clear hS
                  refine wpS_do _ rfl (by rfl) (fun K hK => ?_)
                  go_simp
                  refine (rcmp_any s o.at_ _).mono ?_
                  rintro e u2 ⟨rfl, kb2⟩
                  rw [HX.out]
                  have m2 := m1.trans (kb2.mono m1.size)
                  refine hK.out _ _ ⟨m2, cell_below hv6 HG6.out m2⟩ (fun hS => ?_)
                  clear hK
                  by_cases c2 : x = -1
                  · have d2 : (x != -1) = false := by rw [c2]; rfl
                    have C2x := Lib.hid c2
                    clear c2
                    have hlt0 : Hid (cmpS s o.at_ < 0) := Lib.hid (by rw [HX.out, C2x.out]; decide)
                    by_cases hk0 : k = 0
                    · have d3 : decide ((0 : Int) < (k : Int)) = false := decide_eq_false (by omega)
                      (repeat (first | (refine wpS_pass _ rfl (by rfl) ?_; simp only [Act.put, List.getElem_toArray, List.getElem_cons_zero, List.getElem_cons_succ, List.setIfInBounds_toArray, List.set_cons_zero, List.set_cons_succ]) | (refine wpS_take _ ?_ rfl (by rfl) ?_ ?_; rotate_left; (focus (intro w' hS'; (try dsimp only at hS'); (repeat (have hS1 := hS'.1; replace hS' := hS'.2)); go_simp; (try with_reducible rfl); done)); simp only [Act.put, List.getElem_toArray, List.getElem_cons_zero, List.getElem_cons_succ, List.setIfInBounds_toArray, List.set_cons_zero, List.set_cons_succ])))
                      refine wpS_skip _ rfl (by rfl) hS ?_
                      simp only [Act.put, List.getElem_toArray, List.getElem_cons_zero, List.getElem_cons_succ, List.setIfInBounds_toArray, List.set_cons_zero, List.set_cons_succ]
                      (repeat (first | (refine wpS_pass _ rfl (by rfl) ?_; simp only [Act.put, List.getElem_toArray, List.getElem_cons_zero, List.getElem_cons_succ, List.setIfInBounds_toArray, List.set_cons_zero, List.set_cons_succ]) | (refine wpS_take _ ?_ rfl (by rfl) ?_ ?_; rotate_left; (focus (intro w' hS'; (try dsimp only at hS'); (repeat (have hS1 := hS'.1; replace hS' := hS'.2)); go_simp; (try with_reducible rfl); done)); simp only [Act.put, List.getElem_toArray, List.getElem_cons_zero, List.getElem_cons_succ, List.setIfInBounds_toArray, List.set_cons_zero, List.set_cons_succ])))
                      refine wpS_done ?_
                      go_wp2_with fail
                      go_roundg (o.os.length - (k + 1))
                      case measure => omega
                      case rel => exact ⟨k + 1, by omega, rfl, by first | rfl | exact congrArg (Value.int .i64) (by omega) | go_num, hB.trans (m2.mono hB.size), Lib.hid (fun j hj => by
                        rcases Nat.lt_or_ge j k with h | h
                        · exact HOK.out j h
                        · obtain rfl : j = k := by omega
                          rw [HGET.out]; rw [c1, decide_eq_true hlt0.out, hk0]; rfl)⟩
                    · have d3 : decide ((0 : Int) < (k : Int)) = true := decide_eq_true (by omega)
                      have d3n : 0 < k := by omega
                      have d3m : decide (0 < k) = true := decide_eq_true d3n
                      obtain ⟨j, hj⟩ : ∃ j, k = j + 1 := ⟨k - 1, by omega⟩
                      have hjl : j < o.os.length := by omega
                      obtain ⟨p, hp⟩ : ∃ p, o.os[j] = p := ⟨_, rfl⟩
                      have RP := rd_stm HRDr.out j hjl
                      rw [hp] at RP
                      have HRP := Lib.hid RP
                      have HPV : Hid (prevOk o.os s k = decide (cmpS p s < 0)) := Lib.hid (by rw [hj, prevOk_succ _ _ _ hjl, hp])
                      have hsub := fun w => bin_sub (P := Try.prog) (t := 3) (k : Int) 1 (j : Int) w (by omega) (by omega) (by omega)
                      have l1 : (j : Int) < (o.os.length : Int) := by omega
                      obtain ⟨y, hy⟩ : ∃ y, cmpS p s = y := ⟨_, rfl⟩
                      have HY := Lib.hid hy
                      clear hp RP hj hy
                      (first | (refine wpS_pass _ rfl (by rfl) ?_; simp only [Act.put, List.getElem_toArray, List.getElem_cons_zero, List.getElem_cons_succ, List.setIfInBounds_toArray, List.set_cons_zero, List.set_cons_succ]) | (refine wpS_take _ ?_ rfl (by rfl) ?_ ?_; rotate_left; (focus (intro w' hS'; (try dsimp only at hS'); (repeat (have hS1 := hS'.1; replace hS' := hS'.2)); go_simp; (try with_reducible rfl); done)); simp only [Act.put, List.getElem_toArray, List.getElem_cons_zero, List.getElem_cons_succ, List.setIfInBounds_toArray, List.set_cons_zero, List.set_cons_succ]))
                      (first | (refine wpS_pass _ rfl (by rfl) ?_; simp only [Act.put, List.getElem_toArray, List.getElem_cons_zero, List.getElem_cons_succ, List.setIfInBounds_toArray, List.set_cons_zero, List.set_cons_succ]) | (refine wpS_take _ ?_ rfl (by rfl) ?_ ?_; rotate_left; (focus (intro w' hS'; (try dsimp only at hS'); (repeat (have hS1 := hS'.1; replace hS' := hS'.2)); go_simp; (try with_reducible rfl); done)); simp only [Act.put, List.getElem_toArray, List.getElem_cons_zero, List.getElem_cons_succ, List.setIfInBounds_toArray, List.set_cons_zero, List.set_cons_succ]))
                      (first | (refine wpS_pass _ rfl (by rfl) ?_; simp only [Act.put, List.getElem_toArray, List.getElem_cons_zero, List.getElem_cons_succ, List.setIfInBounds_toArray, List.set_cons_zero, List.set_cons_succ]) | (refine wpS_take _ ?_ rfl (by rfl) ?_ ?_; rotate_left; (focus (intro w' hS'; (try dsimp only at hS'); (repeat (have hS1 := hS'.1; replace hS' := hS'.2)); go_simp; (try with_reducible rfl); done)); simp only [Act.put, List.getElem_toArray, List.getElem_cons_zero, List.getElem_cons_succ, List.setIfInBounds_toArray, List.set_cons_zero, List.set_cons_succ]))
                      (first | (refine wpS_pass _ rfl (by rfl) ?_; simp only [Act.put, List.getElem_toArray, List.getElem_cons_zero, List.getElem_cons_succ, List.setIfInBounds_toArray, List.set_cons_zero, List.set_cons_succ]) | (refine wpS_take _ ?_ rfl (by rfl) ?_ ?_; rotate_left; (focus (intro w' hS'; (try dsimp only at hS'); (repeat (have hS1 := hS'.1; replace hS' := hS'.2)); go_simp; (try with_reducible rfl); done)); simp only [Act.put, List.getElem_toArray, List.getElem_cons_zero, List.getElem_cons_succ, List.setIfInBounds_toArray, List.set_cons_zero, List.set_cons_succ]))
                      (first | (refine wpS_pass _ rfl (by rfl) ?_; simp only [Act.put, List.getElem_toArray, List.getElem_cons_zero, List.getElem_cons_succ, List.setIfInBounds_toArray, List.set_cons_zero, List.set_cons_succ]) | (refine wpS_take _ ?_ rfl (by rfl) ?_ ?_; rotate_left; (focus (intro w' hS'; (try dsimp only at hS'); (repeat (have hS1 := hS'.1; replace hS' := hS'.2)); go_simp; (try with_reducible rfl); done)); simp only [Act.put, List.getElem_toArray, List.getElem_cons_zero, List.getElem_cons_succ, List.setIfInBounds_toArray, List.set_cons_zero, List.set_cons_succ]))
                      (first | (refine wpS_pass _ rfl (by rfl) ?_; simp only [Act.put, List.getElem_toArray, List.getElem_cons_zero, List.getElem_cons_succ, List.setIfInBounds_toArray, List.set_cons_zero, List.set_cons_succ]) | (refine wpS_take _ ?_ rfl (by rfl) ?_ ?_; rotate_left; (focus (intro w' hS'; (try dsimp only at hS'); (repeat (have hS1 := hS'.1; replace hS' := hS'.2)); go_simp; (try with_reducible rfl); done)); simp only [Act.put, List.getElem_toArray, List.getElem_cons_zero, List.getElem_cons_succ, List.setIfInBounds_toArray, List.set_cons_zero, List.set_cons_succ]))
                      (first | (refine wpS_pass _ rfl (by rfl) ?_; simp only [Act.put, List.getElem_toArray, List.getElem_cons_zero, List.getElem_cons_succ, List.setIfInBounds_toArray, List.set_cons_zero, List.set_cons_succ]) | (refine wpS_take _ ?_ rfl (by rfl) ?_ ?_; rotate_left; (focus (intro w' hS'; (try dsimp only at hS'); (repeat (have hS1 := hS'.1; replace hS' := hS'.2)); go_simp; (try with_reducible rfl); done)); simp only [Act.put, List.getElem_toArray, List.getElem_cons_zero, List.getElem_cons_succ, List.setIfInBounds_toArray, List.set_cons_zero, List.set_cons_succ]))
                      (first | (refine wpS_pass _ rfl (by rfl) ?_; simp only [Act.put, List.getElem_toArray, List.getElem_cons_zero, List.getElem_cons_succ, List.setIfInBounds_toArray, List.set_cons_zero, List.set_cons_succ]) | (refine wpS_take _ ?_ rfl (by rfl) ?_ ?_; rotate_left; (focus (intro w' hS'; (try dsimp only at hS'); (repeat (have hS1 := hS'.1; replace hS' := hS'.2)); go_simp; (try with_reducible rfl); done)); simp only [Act.put, List.getElem_toArray, List.getElem_cons_zero, List.getElem_cons_succ, List.setIfInBounds_toArray, List.set_cons_zero, List.set_cons_succ]))
                      (first | (refine wpS_pass _ rfl (by rfl) ?_; simp only [Act.put, List.getElem_toArray, List.getElem_cons_zero, List.getElem_cons_succ, List.setIfInBounds_toArray, List.set_cons_zero, List.set_cons_succ]) | (refine wpS_take _ ?_ rfl (by rfl) ?_ ?_; rotate_left; (focus (intro w' hS'; (try dsimp only at hS'); (repeat (have hS1 := hS'.1; replace hS' := hS'.2)); go_simp; (try with_reducible rfl); done)); simp only [Act.put, List.getElem_toArray, List.getElem_cons_zero, List.getElem_cons_succ, List.setIfInBounds_toArray, List.set_cons_zero, List.set_cons_succ]))
                      refine wpS_take _ _ rfl (by rfl) (fun w' hS' => exec_bin _ _ _ _ _ rfl _ _ _ rfl rfl rfl (hsub w')) ?_
                      simp only [Act.put, List.getElem_toArray, List.getElem_cons_zero, List.getElem_cons_succ, List.setIfInBounds_toArray, List.set_cons_zero, List.set_cons_succ]
                      clear hsub
                      (first | (refine wpS_pass _ rfl (by rfl) ?_; simp only [Act.put, List.getElem_toArray, List.getElem_cons_zero, List.getElem_cons_succ, List.setIfInBounds_toArray, List.set_cons_zero, List.set_cons_succ]) | (refine wpS_take _ ?_ rfl (by rfl) ?_ ?_; rotate_left; (focus (intro w' hS'; (try dsimp only at hS'); (repeat (have hS1 := hS'.1; replace hS' := hS'.2)); go_simp; (try with_reducible rfl); done)); simp only [Act.put, List.getElem_toArray, List.getElem_cons_zero, List.getElem_cons_succ, List.setIfInBounds_toArray, List.set_cons_zero, List.set_cons_succ]))
                      refine wpS_load_stm _ rfl (by rfl) _ _ rfl b (off + j * 2) rfl p _ (fun w' hS' => range_below HRP.out HBL.out hS'.1) Try.underlying23 rfl info_stm ?_
                      simp only [Act.put, List.getElem_toArray, List.getElem_cons_zero, List.getElem_cons_succ, List.setIfInBounds_toArray, List.set_cons_zero, List.set_cons_succ]
                      (first | (refine wpS_pass _ rfl (by rfl) ?_; simp only [Act.put, List.getElem_toArray, List.getElem_cons_zero, List.getElem_cons_succ, List.setIfInBounds_toArray, List.set_cons_zero, List.set_cons_succ]) | (refine wpS_take _ ?_ rfl (by rfl) ?_ ?_; rotate_left; (focus (intro w' hS'; (try dsimp only at hS'); (repeat (have hS1 := hS'.1; replace hS' := hS'.2)); go_simp; (try with_reducible rfl); done)); simp only [Act.put, List.getElem_toArray, List.getElem_cons_zero, List.getElem_cons_succ, List.setIfInBounds_toArray, List.set_cons_zero, List.set_cons_succ]))
                      (first | (refine wpS_pass _ rfl (by rfl) ?_; simp only [Act.put, List.getElem_toArray, List.getElem_cons_zero, List.getElem_cons_succ, List.setIfInBounds_toArray, List.set_cons_zero, List.set_cons_succ]) | (refine wpS_take _ ?_ rfl (by rfl) ?_ ?_; rotate_left; (focus (intro w' hS'; (try dsimp only at hS'); (repeat (have hS1 := hS'.1; replace hS' := hS'.2)); go_simp; (try with_reducible rfl); done)); simp only [Act.put, List.getElem_toArray, List.getElem_cons_zero, List.getElem_cons_succ, List.setIfInBounds_toArray, List.set_cons_zero, List.set_cons_succ]))
                      (first | (refine wpS_pass _ rfl (by rfl) ?_; simp only [Act.put, List.getElem_toArray, List.getElem_cons_zero, List.getElem_cons_succ, List.setIfInBounds_toArray, List.set_cons_zero, List.set_cons_succ]) | (refine wpS_take _ ?_ rfl (by rfl) ?_ ?_; rotate_left; (focus (intro w' hS'; (try dsimp only at hS'); (repeat (have hS1 := hS'.1; replace hS' := hS'.2)); go_simp; (try with_reducible rfl); done)); simp only [Act.put, List.getElem_toArray, List.getElem_cons_zero, List.getElem_cons_succ, List.setIfInBounds_toArray, List.set_cons_zero, List.set_cons_succ]))
                      (first | (refine wpS_pass _ rfl (by rfl) ?_; simp only [Act.put, List.getElem_toArray, List.getElem_cons_zero, List.getElem_cons_succ, List.setIfInBounds_toArray, List.set_cons_zero, List.set_cons_succ]) | (refine wpS_take _ ?_ rfl (by rfl) ?_ ?_; rotate_left; (focus (intro w' hS'; (try dsimp only at hS'); (repeat (have hS1 := hS'.1; replace hS' := hS'.2)); go_simp; (try with_reducible rfl); done)); simp only [Act.put, List.getElem_toArray, List.getElem_cons_zero, List.getElem_cons_succ, List.setIfInBounds_toArray, List.set_cons_zero, List.set_cons_succ]))
                      refine wpS_load_stm _ rfl (by rfl) _ _ rfl b (off + k * 2) rfl s _ (fun w' hS' => range_below RS.out HBL.out hS'.1) Try.underlying23 rfl info_stm ?_
                      simp only [Act.put, List.getElem_toArray, List.getElem_cons_zero, List.getElem_cons_succ, List.setIfInBounds_toArray, List.set_cons_zero, List.set_cons_succ]
                      clear hS
                      refine wpS_do _ rfl (by rfl) (fun K hK => ?_)
                      go_simp
                      refine (rcmp_any p s _).mono ?_
                      rintro e u3 ⟨rfl, kb3⟩
                      rw [HY.out]
                      have m3 := m2.trans (kb3.mono m2.size)
                      refine hK.out _ _ ⟨m3, cell_below hv6 HG6.out m3⟩ (fun hS => ?_)
                      clear hK
                      by_cases c3 : y = -1
                      · have d4 : (y != -1) = false := by rw [c3]; rfl
                        have C3x := Lib.hid c3
                        clear c3
                        (repeat (first | (refine wpS_pass _ rfl (by rfl) ?_; simp only [Act.put, List.getElem_toArray, List.getElem_cons_zero, List.getElem_cons_succ, List.setIfInBounds_toArray, List.set_cons_zero, List.set_cons_succ]) | (refine wpS_take _ ?_ rfl (by rfl) ?_ ?_; rotate_left; (focus (intro w' hS'; (try dsimp only at hS'); (repeat (have hS1 := hS'.1; replace hS' := hS'.2)); go_simp; (try with_reducible rfl); done)); simp only [Act.put, List.getElem_toArray, List.getElem_cons_zero, List.getElem_cons_succ, List.setIfInBounds_toArray, List.set_cons_zero, List.set_cons_succ])))
                        refine wpS_done ?_
                        go_wp2_with fail
                        go_roundg (o.os.length - (k + 1))
                        case measure => omega
                        case rel => exact ⟨k + 1, by omega, rfl, by first | rfl | exact congrArg (Value.int .i64) (by omega) | go_num, hB.trans (m3.mono hB.size), Lib.hid (fun j hj => by
                          rcases Nat.lt_or_ge j k with h | h
                          · exact HOK.out j h
                          · obtain rfl : j = k := by omega
                            rw [HGET.out]; rw [c1, decide_eq_true hlt0.out, HPV.out, HY.out, C3x.out]; rfl)⟩
                      · have d4 : (y != -1) = true := by rw [bne_iff_ne]; exact c3
                        have C3x := Lib.hid c3
                        clear c3
                        (repeat (first | (refine wpS_pass _ rfl (by rfl) ?_; simp only [Act.put, List.getElem_toArray, List.getElem_cons_zero, List.getElem_cons_succ, List.setIfInBounds_toArray, List.set_cons_zero, List.set_cons_succ]) | (refine wpS_take _ ?_ rfl (by rfl) ?_ ?_; rotate_left; (focus (intro w' hS'; (try dsimp only at hS'); (repeat (have hS1 := hS'.1; replace hS' := hS'.2)); go_simp; (try with_reducible rfl); done)); simp only [Act.put, List.getElem_toArray, List.getElem_cons_zero, List.getElem_cons_succ, List.setIfInBounds_toArray, List.set_cons_zero, List.set_cons_succ])))
                        refine wpS_done ?_
                        go_wp2_with fail
                        go_ret
                        exact ⟨ret_bool (by rw [← HV.out, HGE.out]; exact (goodOver_bad k hlt (by rw [HGET.out, HPV.out, decide_eq_false (show ¬ cmpS p s < 0 by have := cmpS_three p s; rw [HY.out] at this ⊢; have := C3x.out; omega)]; simp)).symm), HBX.out.trans (m3.mono (Nat.le_of_lt HG6.out))⟩
                  · have d2 : (x != -1) = true := by rw [bne_iff_ne]; exact c2
                    have C2x := Lib.hid c2
                    clear c2
                    (repeat (first | (refine wpS_pass _ rfl (by rfl) ?_; simp only [Act.put, List.getElem_toArray, List.getElem_cons_zero, List.getElem_cons_succ, List.setIfInBounds_toArray, List.set_cons_zero, List.set_cons_succ]) | (refine wpS_take _ ?_ rfl (by rfl) ?_ ?_; rotate_left; (focus (intro w' hS'; (try dsimp only at hS'); (repeat (have hS1 := hS'.1; replace hS' := hS'.2)); go_simp; (try with_reducible rfl); done)); simp only [Act.put, List.getElem_toArray, List.getElem_cons_zero, List.getElem_cons_succ, List.setIfInBounds_toArray, List.set_cons_zero, List.set_cons_succ])))
                    refine wpS_skip _ rfl (by rfl) hS ?_
                    simp only [Act.put, List.getElem_toArray, List.getElem_cons_zero, List.getElem_cons_succ, List.setIfInBounds_toArray, List.set_cons_zero, List.set_cons_succ]
                    (repeat (first | (refine wpS_pass _ rfl (by rfl) ?_; simp only [Act.put, List.getElem_toArray, List.getElem_cons_zero, List.getElem_cons_succ, List.setIfInBounds_toArray, List.set_cons_zero, List.set_cons_succ]) | (refine wpS_take _ ?_ rfl (by rfl) ?_ ?_; rotate_left; (focus (intro w' hS'; (try dsimp only at hS'); (repeat (have hS1 := hS'.1; replace hS' := hS'.2)); go_simp; (try with_reducible rfl); done)); simp only [Act.put, List.getElem_toArray, List.getElem_cons_zero, List.getElem_cons_succ, List.setIfInBounds_toArray, List.set_cons_zero, List.set_cons_succ])))
                    refine wpS_done ?_
                    go_wp2_with fail
                    go_ret
                    exact ⟨ret_bool (by rw [← HV.out, HGE.out]; exact (goodOver_bad k hlt (by exact okAt_neg HGET.out HX.out C2x.out)).symm), HBX.out.trans (m2.mono (Nat.le_of_lt HG6.out))⟩
              · obtain rfl : k = o.os.length := by omega
                go_wp2_with fail
                go_ret
                exact ⟨ret_bool (by rw [← HV.out, HGE.out, goodOver_all HOK.out]), HBX.out⟩
          · have HNO := Lib.hid (goodO_none k1 hok)
            have HOKN := Lib.hid hok
            have HQN := Lib.hid hqn
            clear hok hqn k1
            go_wp2_with (first
              | ((with_reducible (refine wpList_store_mid rfl _ _ _ rfl ?_ ?_ ?_ ?_ ?_ ?_ ?_ ?_ ?_)); (exact gz); (exact 0); (exact (b8s zeros32).toArray); (exact rfl); (exact rfl); (exact HTH.out); (exact HIZ.out); (exact all_oneCell_toArray (b8s_one' _)); rw [HW5.out])
              | ((with_reducible (refine wpList_load_b8 29 _ gz 0 zeros32 HZ0.out Try.underlying29 rfl HIZ2.out ?_ rfl ?_ ?_)); (exact rfl); (exact rfl))
              | (first | ((with_reducible (refine wpList_load_stm 23 _ g 1 o.at_ R5.at_ Try.underlying23 rfl info_stm ?_ rfl ?_ ?_)); (exact rfl); (exact rfl)) | ((with_reducible (refine wpList_load_stm 23 _ g 3 o.node R5.node Try.underlying23 rfl info_stm ?_ rfl ?_ ?_)); (exact rfl); (exact rfl)) | ((with_reducible (refine wpList_load_stm 23 _ g 5 o.par R5.par Try.underlying23 rfl info_stm ?_ rfl ?_ ?_)); (exact rfl); (exact rfl)) | ((with_reducible (refine wpList_load_b8 30 _ g 8 o.data R5.data Try.underlying30 rfl HID.out ?_ rfl ?_ ?_)); (exact rfl); (exact rfl))))
            all_goals first
              | (go_ret
                 exact ⟨ret_bool (by rw [← HV.out, HNO.out]), HBW.out⟩)
              | (exfalso
                 refine HOKN.out ⟨by assumption, ?_, ?_, by assumption, by assumption, by omega⟩
                 · intro e; have := HQN.out; rw [e] at this; simp_all
                 · have h1 : o.par.t = 0 := by assumption
                   have h2 : o.par.r = 0 := by assumption
                   have h3 : o.par = ⟨o.par.t, o.par.r⟩ := rfl
                   rw [h1, h2] at h3
                   exact h3)
end Go.Proofs.Ytabkgoandfpclaa
