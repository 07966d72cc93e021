
/- The document's bytes of a stamp, of a move. -/

import Derived.Test.YtabkgoandfpclaaPut2

import Derived.Test.YtabkgoandfpclaaOp7

namespace Go.Proofs.Ytabkgoandfpclaa

set_option linter.unusedVariables false

set_option linter.unusedSimpArgs false

open Go.RowKit

theorem join_s (v u : Value) (xs ys : List UInt8) (w : World) (h : Sl w v xs) (k : Sl w u ys) (hm : xs.length + ys.length ≤ 140737488355328) :
    Calls Try.prog 24 #[v, u] w fun e w' => ∃ r, e = .returned r ∧ Own8 w.heap.size w w' r (xs ++ ys) := by
  obtain ⟨A, m, c, rfl, rfl, _, _, hr⟩ := h
  obtain ⟨B, n, d, rfl, rfl, _, _, hs⟩ := k
  exact join_any A B xs ys c d w hr hs (by omega)

set_option maxRecDepth 100000 in
set_option maxHeartbeats 1000000 in
theorem rstm_any (s : Stm) (w : World) : Calls Try.prog 49 #[s.val] w fun e w' => ∃ v', e = .returned v' ∧ Own8 w.heap.size w w' v' (stmB s) := by
  obtain ⟨W1, hW1⟩ : ∃ W1, w.alloc (.cells s.cells.toArray 23) = W1 := ⟨_, rfl⟩
  have hrow : W1.heap[w.heap.size]? = some (.cells s.cells.toArray 23 (0, 0)) := by rw [← hW1]; exact heap_alloc_new w _
  have hb1 : Below w.heap.size w W1 := by rw [← hW1]; exact (Below.refl _ _).alloc (Nat.le_refl _) _
  have c0 : W1.cell? ⟨w.heap.size, 0, none⟩ = some (.int .i64 s.t) := by rw [row_cell hrow]; rfl
  have c1 : W1.cell? ⟨w.heap.size, 1, none⟩ = some (.int .i64 s.r) := by rw [row_cell hrow]; rfl
  have HL := Lib.hid (Array.getElem?_eq_some_iff.1 hrow).1
  have HB := Lib.hid hb1
  rw [Stm.val_cells]
  clear hrow hb1
  go_enter Try.func49, Try.ntmps49
  go_wp2_with fail
  clear hW1
  refine wp_region_sched (fun w' => w'.cell? ⟨w.heap.size, 0, none⟩ = some (.int .i64 s.t) ∧ w'.cell? ⟨w.heap.size, 1, none⟩ = some (.int .i64 s.r))
    [(true, 0), (true, 1), (true, 3), (true, 4), (false, 2), (false, 5), (false, 6), (true, 7)] (by kernel_rfl) (by kernel_rfl) rfl (by kernel_rfl) ⟨c0, c1⟩ ?_
  (repeat (first | (refine wpS_pass _ rfl (by rfl) ?_; simp only [Act.put, List.getElem_toArray, List.getElem_cons_zero, List.getElem_cons_succ, List.setIfInBounds_toArray, List.set_cons_zero, List.set_cons_succ]) | (refine wpS_take _ ?_ rfl (by rfl) ?_ ?_; rotate_left; (focus (intro w' hS'; (try dsimp only at hS'); (repeat (have hS1 := hS'.1; replace hS' := hS'.2)); go_simp; (try with_reducible rfl); done)); simp only [Act.put, List.getElem_toArray, List.getElem_cons_zero, List.getElem_cons_succ, List.setIfInBounds_toArray, List.set_cons_zero, List.set_cons_succ])))
  refine wpS_do _ rfl (by rfl) (fun K hK => ?_)
  go_simp
  refine (rnum_any s.t _).mono ?_
  rintro e w2 ⟨v2, rfl, ho2⟩
  have hb2 := (Below.refl W1.heap.size W1).drew.trans (ho2.bel.mono (Below.refl W1.heap.size W1).drew.size)
  refine hK.out _ _ ⟨cell_below c0 HL.out hb2, cell_below c1 HL.out hb2⟩ (fun hS => ?_)
  clear hK hS
  refine wpS_do _ rfl (by rfl) (fun K hK => ?_)
  go_simp
  refine (rnum_any s.r _).mono ?_
  rintro e w3 ⟨v3, rfl, ho3⟩
  have hb3 := hb2.trans (ho3.bel.mono hb2.size)
  refine hK.out _ _ ⟨cell_below c0 HL.out hb3, cell_below c1 HL.out hb3⟩ (fun hS => ?_)
  clear hK hS
  refine wpS_do _ rfl (by rfl) (fun K hK => ?_)
  go_simp
  refine (join_s v2 v3 _ _ _ (ho2.sl.below ho3.bel) ho3.sl (by have h1 := (numB_len s.t).2; have h2 := (numB_len s.r).2; omega)).mono ?_
  rintro e w4 ⟨v4, rfl, ho4⟩
  have hb4 := hb3.trans (ho4.bel.mono hb3.size)
  refine hK.out _ _ ⟨cell_below c0 HL.out hb4, cell_below c1 HL.out hb4⟩ (fun hS => ?_)
  clear hK hS
  (repeat (first | (refine wpS_pass _ rfl (by rfl) ?_; simp only [Act.put, List.getElem_toArray, List.getElem_cons_zero, List.getElem_cons_succ, List.setIfInBounds_toArray, List.set_cons_zero, List.set_cons_succ]) | (refine wpS_take _ ?_ rfl (by rfl) ?_ ?_; rotate_left; (focus (intro w' hS'; (try dsimp only at hS'); (repeat (have hS1 := hS'.1; replace hS' := hS'.2)); go_simp; (try with_reducible rfl); done)); simp only [Act.put, List.getElem_toArray, List.getElem_cons_zero, List.getElem_cons_succ, List.setIfInBounds_toArray, List.set_cons_zero, List.set_cons_succ])))
  refine wpS_done ?_
  go_wp2_with fail
  go_ret
  exact ⟨v4, rfl, Own8.trans (HB.out.trans (hb3.mono HB.out.size)) (HB.out.trans (hb3.mono HB.out.size)).size ho4⟩

set_option maxRecDepth 100000 in
set_option maxHeartbeats 4000000 in
theorem rput_move (o : OpM) (w : World) (h : OpIn w o) (k1 : o.kind = 1) :
    Calls Try.prog 25 #[o.val] w fun e w' => ∃ v', e = .returned v' ∧ Own8 w.heap.size w w' v' (putB o) := by
  obtain ⟨W1, hW1⟩ : ∃ W1, w.alloc (.cells o.cells.toArray 33) = W1 := ⟨_, rfl⟩
  have hrow : W1.heap[w.heap.size]? = some (.cells o.cells.toArray 33 (0, 0)) := by rw [← hW1]; exact heap_alloc_new w _
  have hb1 : Below w.heap.size w W1 := by rw [← hW1]; exact (Below.refl _ _).alloc (Nat.le_refl _) _
  obtain ⟨g, hg⟩ : ∃ g, w.heap.size = g := ⟨_, rfl⟩
  rw [hg] at hrow hb1
  have HID := Lib.hid (info_data o.data h.len)
  have HR1 := Lib.hid hrow
  have HL1 := Lib.hid (Array.getElem?_eq_some_iff.1 hrow).1
  have HB1 := Lib.hid hb1
  have R1 := opRow_of hrow h.len
  have HL := Lib.hid h.len
  have HN := Lib.hid h.nm
  obtain ⟨A, c, hov, hrd, hcl, hcm⟩ := h.ov
  have HOV := Lib.hid hov
  have HRD : Hid (∀ W, Below g w W → Rd W A (stc o.os)) := Lib.hid (fun W hb => hrd.below (by rw [hg]; exact hb))
  have HIN : Hid (∀ W, Below g w W → OpIn W o) := Lib.hid (fun W hb => h.below (by rw [hg]; exact hb))
  unfold OpM.val
  rw [hg]
  clear hrow hb1 h hov hrd
  have HI : Hid ((Try.prog.info? 33).map (·.size) = some o.cells.toArray.size) := Lib.hid (by rw [List.size_toArray, o.cells_len HL.out]; exact info_op)
  have hrow1 := HR1.out
  have KK := Lib.hid k1
  clear k1
  go_enter Try.func25, Try.ntmps25
  go_wp2_with ((with_reducible (refine wpList_load_op 33 _ g o hrow1 Try.underlying33 rfl HI.out ?_ rfl ?_ ?_)); (exact rfl); (exact rfl))
  clear hg hW1 hrow1
  refine (rgood_any o W1 (HIN.out _ HB1.out)).mono ?_
  rintro e w2 ⟨rfl, hb2⟩
  have HB2 := Lib.hid (HB1.out.trans (hb2.mono (Nat.le_of_lt HL1.out)))
  have hr2 := (hb2.block _ HL1.out).trans HR1.out
  have R2 := opRow_of hr2 HL.out
  have HR2 := Lib.hid hr2
  have HL2 := Lib.hid (Array.getElem?_eq_some_iff.1 hr2).1
  clear hb2 R1 hr2
  cases c1 : goodO o
  · go_wp2_with fail
    go_ret
    refine ⟨_, rfl, ?_⟩
    unfold putB
    rw [c1]
    exact Own8.startN w w2 g HB2.out (Nat.le_of_lt HL2.out)
  · have HG := Lib.hid c1
    clear c1
    have k0 := R2.kind
    go_wp2_with fail
    refine wp_region_sched (fun w' => Below w2.heap.size w2 w' ∧ w'.cell? ⟨g, 0, none⟩ = some (.int .i64 o.kind))
      [(true, 0), (true, 1), (true, 3), (true, 4), (true, 6), (true, 7), (false, 2), (false, 5), (false, 8), (false, 9), (false, 10), (true, 11)] (by kernel_rfl) (by kernel_rfl) rfl (by kernel_rfl) ⟨(Below.refl _ _).drew, k0⟩ ?_
    (repeat (first | (refine wpS_pass _ rfl (by rfl) ?_; simp only [Act.put, List.getElem_toArray, List.getElem_cons_zero, List.getElem_cons_succ, List.setIfInBounds_toArray, List.set_cons_zero, List.set_cons_succ]) | (refine wpS_take _ ?_ rfl (by rfl) ?_ ?_; rotate_left; (focus (intro w' hS'; (try dsimp only at hS'); (repeat (have hS1 := hS'.1; replace hS' := hS'.2)); go_simp; (try with_reducible rfl); done)); simp only [Act.put, List.getElem_toArray, List.getElem_cons_zero, List.getElem_cons_succ, List.setIfInBounds_toArray, List.set_cons_zero, List.set_cons_succ])))
    refine wpS_load_stm _ rfl (by rfl) _ _ rfl _ _ rfl o.at_ _ (fun w' hS' => range_below R2.at_ HL2.out hS'.1) Try.underlying23 rfl info_stm ?_
    simp only [Act.put, List.getElem_toArray, List.getElem_cons_zero, List.getElem_cons_succ, List.setIfInBounds_toArray, List.set_cons_zero, List.set_cons_succ]
    (repeat (first | (refine wpS_pass _ rfl (by rfl) ?_; simp only [Act.put, List.getElem_toArray, List.getElem_cons_zero, List.getElem_cons_succ, List.setIfInBounds_toArray, List.set_cons_zero, List.set_cons_succ]) | (refine wpS_take _ ?_ rfl (by rfl) ?_ ?_; rotate_left; (focus (intro w' hS'; (try dsimp only at hS'); (repeat (have hS1 := hS'.1; replace hS' := hS'.2)); go_simp; (try with_reducible rfl); done)); simp only [Act.put, List.getElem_toArray, List.getElem_cons_zero, List.getElem_cons_succ, List.setIfInBounds_toArray, List.set_cons_zero, List.set_cons_succ])))
    refine wpS_load_stm _ rfl (by rfl) _ _ rfl _ _ rfl o.node _ (fun w' hS' => range_below R2.node HL2.out hS'.1) Try.underlying23 rfl info_stm ?_
    simp only [Act.put, List.getElem_toArray, List.getElem_cons_zero, List.getElem_cons_succ, List.setIfInBounds_toArray, List.set_cons_zero, List.set_cons_succ]
    refine wpS_do _ rfl (by rfl) (fun K hK => ?_)
    go_simp
    refine (rnum_any o.kind _).mono ?_
    rintro e w3 ⟨v3, rfl, ho3⟩
    have hb3 := (Below.refl w2.heap.size w2).drew.trans (ho3.bel.mono (Below.refl w2.heap.size w2).drew.size)
    refine hK.out _ _ ⟨hb3, cell_below k0 HL2.out hb3⟩ (fun hS => ?_)
    clear hK hS
    refine wpS_do _ rfl (by rfl) (fun K hK => ?_)
    go_simp
    refine (rstm_any o.at_ _).mono ?_
    rintro e w4 ⟨v4, rfl, ho4⟩
    have hb4 := hb3.trans (ho4.bel.mono hb3.size)
    refine hK.out _ _ ⟨hb4, cell_below k0 HL2.out hb4⟩ (fun hS => ?_)
    clear hK hS
    refine wpS_do _ rfl (by rfl) (fun K hK => ?_)
    go_simp
    refine (rstm_any o.node _).mono ?_
    rintro e w5 ⟨v5, rfl, ho5⟩
    have hb5 := hb4.trans (ho5.bel.mono hb4.size)
    refine hK.out _ _ ⟨hb5, cell_below k0 HL2.out hb5⟩ (fun hS => ?_)
    clear hK hS
    have l1 := stmB_len o.at_
    have l2 := stmB_len o.node
    have l0 := (numB_len o.kind).2
    refine wpS_do _ rfl (by rfl) (fun K hK => ?_)
    go_simp
    refine (join_s v4 v5 _ _ _ (ho4.sl.below ho5.bel) ho5.sl (by omega)).mono ?_
    rintro e w6 ⟨v6, rfl, ho6⟩
    have hb6 := hb5.trans (ho6.bel.mono hb5.size)
    refine hK.out _ _ ⟨hb6, cell_below k0 HL2.out hb6⟩ (fun hS => ?_)
    clear hK hS
    refine wpS_do _ rfl (by rfl) (fun K hK => ?_)
    go_simp
    refine (join_s v3 v6 _ _ _ (((ho3.sl.below ho4.bel).below ho5.bel).below ho6.bel) ho6.sl (by rw [List.length_append]; omega)).mono ?_
    rintro e w7 ⟨v7, rfl, ho7⟩
    have hb7 := hb6.trans (ho7.bel.mono hb6.size)
    refine hK.out _ _ ⟨hb7, cell_below k0 HL2.out hb7⟩ (fun hS => ?_)
    clear hK hS
    have HO7 := Lib.hid (Own8.trans hb6 hb6.size ho7)
    obtain ⟨xs, hxs⟩ : ∃ xs, numB (clampN o.kind) ++ (stmB o.at_ ++ stmB o.node) = xs := ⟨_, rfl⟩
    have lx : xs.length ≤ 45 := by rw [← hxs, List.length_append, List.length_append]; omega
    rw [hxs] at HO7
    have HXS := Lib.hid hxs
    have hr7 := (hb7.block _ HL2.out).trans HR2.out
    have R7 := opRow_of hr7 HL.out
    have HL7 := Lib.hid (Array.getElem?_eq_some_iff.1 hr7).1
    have HR7 := Lib.hid hr7
    have HB7 := Lib.hid (HB2.out.trans (hb7.mono (Nat.le_of_lt HL2.out)))
    clear hb3 hb4 hb5 hb6 hb7 ho3 ho4 ho5 ho6 ho7 R2 k0 hr7 hxs l0 l1 l2
    have k0 := R7.kind
    (repeat (first | (refine wpS_pass _ rfl (by rfl) ?_; simp only [Act.put, List.getElem_toArray, List.getElem_cons_zero, List.getElem_cons_succ, List.setIfInBounds_toArray, List.set_cons_zero, List.set_cons_succ]) | (refine wpS_take _ ?_ rfl (by rfl) ?_ ?_; rotate_left; (focus (intro w' hS'; (try dsimp only at hS'); (repeat (have hS1 := hS'.1; replace hS' := hS'.2)); go_simp; (try with_reducible rfl); done)); simp only [Act.put, List.getElem_toArray, List.getElem_cons_zero, List.getElem_cons_succ, List.setIfInBounds_toArray, List.set_cons_zero, List.set_cons_succ])))
    refine wpS_done ?_
    have k1 := KK.out
    have d1 : (o.kind == 1) = true := by rw [k1]; rfl
    have K1 := Lib.hid k1
    have ln := good_nm HG.out k1
    clear k1
    have k4 := R7.name
    go_wp2_with fail
    refine wp_region_sched (fun w' => Below w7.heap.size w7 w' ∧ w'.cell? ⟨g, 7, none⟩ = some (.string o.name))
      [(true, 0), (true, 1), (true, 2), (true, 4), (true, 5), (false, 3), (false, 6), (false, 7), (false, 8), (true, 9)] (by kernel_rfl) (by kernel_rfl) rfl (by kernel_rfl) ⟨(Below.refl _ _).drew, k4⟩ ?_
    (repeat (first | (refine wpS_pass _ rfl (by rfl) ?_; simp only [Act.put, List.getElem_toArray, List.getElem_cons_zero, List.getElem_cons_succ, List.setIfInBounds_toArray, List.set_cons_zero, List.set_cons_succ]) | (refine wpS_take _ ?_ rfl (by rfl) ?_ ?_; rotate_left; (focus (intro w' hS'; (try dsimp only at hS'); (repeat (have hS1 := hS'.1; replace hS' := hS'.2)); go_simp; (try with_reducible rfl); done)); simp only [Act.put, List.getElem_toArray, List.getElem_cons_zero, List.getElem_cons_succ, List.setIfInBounds_toArray, List.set_cons_zero, List.set_cons_succ])))
    refine wpS_load_stm _ rfl (by rfl) _ _ rfl _ _ rfl o.par _ (fun w' hS' => range_below R7.par HL7.out hS'.1) Try.underlying23 rfl info_stm ?_
    simp only [Act.put, List.getElem_toArray, List.getElem_cons_zero, List.getElem_cons_succ, List.setIfInBounds_toArray, List.set_cons_zero, List.set_cons_succ]
    (repeat (first | (refine wpS_pass _ rfl (by rfl) ?_; simp only [Act.put, List.getElem_toArray, List.getElem_cons_zero, List.getElem_cons_succ, List.setIfInBounds_toArray, List.set_cons_zero, List.set_cons_succ]) | (refine wpS_take _ ?_ rfl (by rfl) ?_ ?_; rotate_left; (focus (intro w' hS'; (try dsimp only at hS'); (repeat (have hS1 := hS'.1; replace hS' := hS'.2)); go_simp; (try with_reducible rfl); done)); simp only [Act.put, List.getElem_toArray, List.getElem_cons_zero, List.getElem_cons_succ, List.setIfInBounds_toArray, List.set_cons_zero, List.set_cons_succ])))
    refine wpS_do _ rfl (by rfl) (fun K hK => ?_)
    go_simp
    refine (rstm_any o.par _).mono ?_
    rintro e w8 ⟨v8, rfl, ho8⟩
    have hb8 := (Below.refl w7.heap.size w7).drew.trans (ho8.bel.mono (Below.refl w7.heap.size w7).drew.size)
    refine hK.out _ _ ⟨hb8, cell_below k4 HL7.out hb8⟩ (fun hS => ?_)
    clear hK hS
    refine wpS_do _ rfl (by rfl) (fun K hK => ?_)
    go_simp
    refine (rtext_any o.name _ (by omega)).mono ?_
    rintro e w9 ⟨v9, rfl, ho9⟩
    have hb9 := hb8.trans (ho9.bel.mono hb8.size)
    refine hK.out _ _ ⟨hb9, cell_below k4 HL7.out hb9⟩ (fun hS => ?_)
    clear hK hS
    have l1 := stmB_len o.par
    have l2 : (textB o.name.data.toList).length ≤ 69 := by
      unfold textB
      rw [List.length_append, ← Lib.size_eq]
      have := (numB_len ((o.name.size : Nat) : Int)).2
      omega
    refine wpS_do _ rfl (by rfl) (fun K hK => ?_)
    go_simp
    refine (join_s v8 v9 _ _ _ (ho8.sl.below ho9.bel) ho9.sl (by omega)).mono ?_
    rintro e w10 ⟨v10, rfl, ho10⟩
    have hb10 := hb9.trans (ho10.bel.mono hb9.size)
    refine hK.out _ _ ⟨hb10, cell_below k4 HL7.out hb10⟩ (fun hS => ?_)
    clear hK hS
    refine wpS_do _ rfl (by rfl) (fun K hK => ?_)
    go_simp
    refine (join_s v7 v10 _ _ _ (HO7.out.sl.below hb10) ho10.sl (by rw [List.length_append]; omega)).mono ?_
    rintro e w11 ⟨v11, rfl, ho11⟩
    have hb11 := hb10.trans (ho11.bel.mono hb10.size)
    refine hK.out _ _ ⟨hb11, cell_below k4 HL7.out hb11⟩ (fun hS => ?_)
    clear hK hS
    (repeat (first | (refine wpS_pass _ rfl (by rfl) ?_; simp only [Act.put, List.getElem_toArray, List.getElem_cons_zero, List.getElem_cons_succ, List.setIfInBounds_toArray, List.set_cons_zero, List.set_cons_succ]) | (refine wpS_take _ ?_ rfl (by rfl) ?_ ?_; rotate_left; (focus (intro w' hS'; (try dsimp only at hS'); (repeat (have hS1 := hS'.1; replace hS' := hS'.2)); go_simp; (try with_reducible rfl); done)); simp only [Act.put, List.getElem_toArray, List.getElem_cons_zero, List.getElem_cons_succ, List.setIfInBounds_toArray, List.set_cons_zero, List.set_cons_succ])))
    refine wpS_done ?_
    go_wp2_with fail
    go_ret
    refine ⟨v11, rfl, ?_⟩
    have hfin := Own8.trans (HB7.out.trans (hb10.mono (Nat.le_of_lt HL7.out))) (Nat.le_trans (Nat.le_of_lt HL7.out) hb10.size) ho11
    have e1 : putB o = xs ++ (stmB o.par ++ textB o.name.data.toList) := by
      rw [← HXS.out]
      unfold putB opB
      rw [HG.out, if_pos rfl, if_pos K1.out]
      simp only [List.append_assoc]
    rw [e1]
    exact hfin
end Go.Proofs.Ytabkgoandfpclaa
