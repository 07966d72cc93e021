
/- stamp.Put of an edit. -/

import Derived.Test.YtabkgoandfpclaaPutL

namespace Go.Proofs.Ytabkgoandfpclaa

set_option linter.unusedVariables false

set_option linter.unusedSimpArgs false

open Go.RowKit

set_option maxRecDepth 100000 in
set_option maxHeartbeats 4000000 in
theorem put_edit (v : Value) (bs : List UInt8) (o : OpM) (w : World) (hsl : Sl w v bs) (hm : bs.length + 2000 ≤ 140737488355328) (h : OpIn w o) (k1 : ¬ o.kind = 1) :
    Calls Try.prog 22 #[v, o.val] w fun e w' => ∃ v', e = .returned v' ∧ Own8 w.heap.size w w' v' (bs ++ putB o) := by
  obtain ⟨W1, hW1⟩ : ∃ W1, w.alloc (.cells o.cells.toArray 33) = W1 := ⟨_, rfl⟩
  have hrow : W1.heap[w.heap.size]? = some (.cells o.cells.toArray 33 (0, 0)) := by rw [← hW1]; exact heap_alloc_new w _
  have hb1 : Below w.heap.size w W1 := by rw [← hW1]; exact (Below.refl _ _).alloc (Nat.le_refl _) _
  obtain ⟨g, hg⟩ : ∃ g, w.heap.size = g := ⟨_, rfl⟩
  rw [hg] at hrow hb1
  have HID := Lib.hid (info_data o.data h.len)
  have HR1 := Lib.hid hrow
  have HL1 := Lib.hid (Array.getElem?_eq_some_iff.1 hrow).1
  have HB1 := Lib.hid hb1
  have R1 := opRow_of hrow h.len
  have HL := Lib.hid h.len
  have HN := Lib.hid h.nm
  obtain ⟨A, c, hov, hrd, hcl, hcm⟩ := h.ov
  have HOV := Lib.hid hov
  have HRD : Hid (∀ W, Below g w W → Rd W A (stc o.os)) := Lib.hid (fun W hb => hrd.below (by rw [hg]; exact hb))
  have HIN : Hid (∀ W, Below g w W → OpIn W o) := Lib.hid (fun W hb => h.below (by rw [hg]; exact hb))
  unfold OpM.val
  have HSL : Hid (∀ W, Below g w W → Sl W v bs) := Lib.hid (fun W hb => hsl.below (by rw [hg]; exact hb))
  rw [hg]
  clear hsl hrow hb1 h hov hrd
  have HI : Hid ((Try.prog.info? 33).map (·.size) = some o.cells.toArray.size) := Lib.hid (by rw [List.size_toArray, o.cells_len HL.out]; exact info_op)
  have hrow1 := HR1.out
  have KK := Lib.hid k1
  clear k1
  go_enter Try.func22, Try.ntmps22
  go_wp2_with ((with_reducible (refine wpList_load_op 33 _ g o hrow1 Try.underlying33 rfl HI.out ?_ rfl ?_ ?_)); (exact rfl); (exact rfl))
  clear hg hW1 hrow1
  refine (good_any' o W1 (HIN.out _ HB1.out)).mono ?_
  rintro e w2 ⟨rfl, hb2⟩
  have HB2 := Lib.hid (HB1.out.trans (hb2.mono (Nat.le_of_lt HL1.out)))
  have hr2 := (hb2.block _ HL1.out).trans HR1.out
  have R2 := opRow_of hr2 HL.out
  have HR2 := Lib.hid hr2
  have HL2 := Lib.hid (Array.getElem?_eq_some_iff.1 hr2).1
  clear hb2 R1 hr2
  cases c1 : goodO o
  · go_wp2_with fail
    refine (clone_sL v bs w2 (HSL.out _ HB2.out) (by omega)).mono ?_
    rintro e w3 ⟨v3, rfl, ho3⟩
    go_wp2_with fail
    go_ret
    refine ⟨_, rfl, ?_⟩
    unfold putB
    rw [c1]
    have := Own8.trans HB2.out (Nat.le_of_lt HL2.out) ho3
    simpa using this
  · have HG := Lib.hid c1
    clear c1
    have k0 := R2.kind
    go_wp2_with fail
    refine wp_region_sched (fun w' => Below w2.heap.size w2 w' ∧ w'.cell? ⟨g, 0, none⟩ = some (.int .i64 o.kind))
      [(true, 0), (true, 1), (true, 2), (true, 4), (true, 5), (true, 7), (true, 8), (false, 3), (false, 6), (false, 9), (true, 10)] (by kernel_rfl) (by kernel_rfl) rfl (by kernel_rfl) ⟨(Below.refl _ _).drew, k0⟩ ?_
    (repeat (first | (refine wpS_pass _ rfl (by rfl) ?_; simp only [Act.put, List.getElem_toArray, List.getElem_cons_zero, List.getElem_cons_succ, List.setIfInBounds_toArray, List.set_cons_zero, List.set_cons_succ]) | (refine wpS_take _ ?_ rfl (by rfl) ?_ ?_; rotate_left; (focus (intro w' hS'; (try dsimp only at hS'); (repeat (have hS1 := hS'.1; replace hS' := hS'.2)); go_simp; (try with_reducible rfl); done)); simp only [Act.put, List.getElem_toArray, List.getElem_cons_zero, List.getElem_cons_succ, List.setIfInBounds_toArray, List.set_cons_zero, List.set_cons_succ])))
    refine wpS_load_stm _ rfl (by rfl) _ _ rfl _ _ rfl o.at_ _ (fun w' hS' => range_below R2.at_ HL2.out hS'.1) Try.underlying23 rfl info_stm ?_
    simp only [Act.put, List.getElem_toArray, List.getElem_cons_zero, List.getElem_cons_succ, List.setIfInBounds_toArray, List.set_cons_zero, List.set_cons_succ]
    (repeat (first | (refine wpS_pass _ rfl (by rfl) ?_; simp only [Act.put, List.getElem_toArray, List.getElem_cons_zero, List.getElem_cons_succ, List.setIfInBounds_toArray, List.set_cons_zero, List.set_cons_succ]) | (refine wpS_take _ ?_ rfl (by rfl) ?_ ?_; rotate_left; (focus (intro w' hS'; (try dsimp only at hS'); (repeat (have hS1 := hS'.1; replace hS' := hS'.2)); go_simp; (try with_reducible rfl); done)); simp only [Act.put, List.getElem_toArray, List.getElem_cons_zero, List.getElem_cons_succ, List.setIfInBounds_toArray, List.set_cons_zero, List.set_cons_succ])))
    refine wpS_load_stm _ rfl (by rfl) _ _ rfl _ _ rfl o.node _ (fun w' hS' => range_below R2.node HL2.out hS'.1) Try.underlying23 rfl info_stm ?_
    simp only [Act.put, List.getElem_toArray, List.getElem_cons_zero, List.getElem_cons_succ, List.setIfInBounds_toArray, List.set_cons_zero, List.set_cons_succ]
    refine wpS_do _ rfl (by rfl) (fun K hK => ?_)
    go_simp
    refine (num_sL v bs o.kind _ (HSL.out _ HB2.out.drew) (by omega)).mono ?_
    rintro e w3 ⟨v3, rfl, ho3⟩
    have hb3 : Below w2.heap.size w2 w3 := (Below.refl _ _).drew.trans ho3.bel
    refine hK.out _ _ ⟨hb3, cell_below k0 HL2.out hb3⟩ (fun hS => ?_)
    clear hK hS
    have l3 : (bs ++ numB (clampN o.kind)).length ≤ bs.length + 9 := by have := (numB_len o.kind).2; rw [List.length_append]; omega
    refine wpS_do _ rfl (by rfl) (fun K hK => ?_)
    go_simp
    refine (puts_anyL v3 _ o.at_ _ ho3.sl (by omega)).mono ?_
    rintro e w4 ⟨v4, rfl, ho4⟩
    have hb4 := hb3.trans (ho4.bel.mono hb3.size)
    refine hK.out _ _ ⟨hb4, cell_below k0 HL2.out hb4⟩ (fun hS => ?_)
    clear hK hS
    have l4 : (bs ++ numB (clampN o.kind) ++ stmB o.at_).length ≤ bs.length + 27 := by have := stmB_len o.at_; rw [List.length_append]; omega
    refine wpS_do _ rfl (by rfl) (fun K hK => ?_)
    go_simp
    refine (puts_anyL v4 _ o.node _ ho4.sl (by omega)).mono ?_
    rintro e w5 ⟨v5, rfl, ho5⟩
    have hb5 := hb4.trans (ho5.bel.mono hb4.size)
    refine hK.out _ _ ⟨hb5, cell_below k0 HL2.out hb5⟩ (fun hS => ?_)
    clear hK hS
    have l5 : (bs ++ numB (clampN o.kind) ++ stmB o.at_ ++ stmB o.node).length ≤ bs.length + 45 := by have := stmB_len o.node; rw [List.length_append]; omega
    have HO5 := Lib.hid (Own8.trans hb4 hb4.size ho5)
    obtain ⟨xs, hxs⟩ : ∃ xs, bs ++ numB (clampN o.kind) ++ stmB o.at_ ++ stmB o.node = xs := ⟨_, rfl⟩
    rw [hxs] at HO5 l5
    have HXS := Lib.hid hxs
    have HW5 := Lib.hid hb5
    have hr5 := (hb5.block _ HL2.out).trans HR2.out
    have R5 := opRow_of hr5 HL.out
    have HL5 := Lib.hid (Array.getElem?_eq_some_iff.1 hr5).1
    have HR5 := Lib.hid hr5
    have HB5 := Lib.hid (HB2.out.trans (hb5.mono (Nat.le_of_lt HL2.out)))
    clear hb5 ho5 hb4 ho4 hb3 ho3 l3 l4 R2 k0 hr5 hxs
    have k0 := R5.kind
    (repeat (first | (refine wpS_pass _ rfl (by rfl) ?_; simp only [Act.put, List.getElem_toArray, List.getElem_cons_zero, List.getElem_cons_succ, List.setIfInBounds_toArray, List.set_cons_zero, List.set_cons_succ]) | (refine wpS_take _ ?_ rfl (by rfl) ?_ ?_; rotate_left; (focus (intro w' hS'; (try dsimp only at hS'); (repeat (have hS1 := hS'.1; replace hS' := hS'.2)); go_simp; (try with_reducible rfl); done)); simp only [Act.put, List.getElem_toArray, List.getElem_cons_zero, List.getElem_cons_succ, List.setIfInBounds_toArray, List.set_cons_zero, List.set_cons_succ])))
    refine wpS_done ?_
    have k1 := KK.out
    have d1 : (o.kind == 1) = false := by rw [beq_eq_false_iff_ne]; exact k1
    have K1 := Lib.hid k1
    have ln := good_os HG.out k1
    clear k1
    have k4 := R5.ov
    rw [HOV.out] at k4
    go_wp2_with fail
    refine wp_region_sched (fun w' => Below w5.heap.size w5 w' ∧ w'.cell? ⟨g, 40, none⟩ = some (.slice A o.os.length c))
      [(true, 0), (true, 1), (true, 2), (true, 4), (true, 5), (true, 6), (false, 3), (false, 7), (true, 8)] (by kernel_rfl) (by kernel_rfl) rfl (by kernel_rfl) ⟨(Below.refl _ _).drew, k4⟩ ?_
    (first | (refine wpS_pass _ rfl (by rfl) ?_; simp only [Act.put, List.getElem_toArray, List.getElem_cons_zero, List.getElem_cons_succ, List.setIfInBounds_toArray, List.set_cons_zero, List.set_cons_succ]) | (refine wpS_take _ ?_ rfl (by rfl) ?_ ?_; rotate_left; (focus (intro w' hS'; (try dsimp only at hS'); (repeat (have hS1 := hS'.1; replace hS' := hS'.2)); go_simp; (try with_reducible rfl); done)); simp only [Act.put, List.getElem_toArray, List.getElem_cons_zero, List.getElem_cons_succ, List.setIfInBounds_toArray, List.set_cons_zero, List.set_cons_succ]))
    (first | (refine wpS_pass _ rfl (by rfl) ?_; simp only [Act.put, List.getElem_toArray, List.getElem_cons_zero, List.getElem_cons_succ, List.setIfInBounds_toArray, List.set_cons_zero, List.set_cons_succ]) | (refine wpS_take _ ?_ rfl (by rfl) ?_ ?_; rotate_left; (focus (intro w' hS'; (try dsimp only at hS'); (repeat (have hS1 := hS'.1; replace hS' := hS'.2)); go_simp; (try with_reducible rfl); done)); simp only [Act.put, List.getElem_toArray, List.getElem_cons_zero, List.getElem_cons_succ, List.setIfInBounds_toArray, List.set_cons_zero, List.set_cons_succ]))
    refine wpS_load _ rfl (by rfl) _ _ rfl _ _ rfl (b8s o.data) _ (fun w' hS' => range_below R5.data HL5.out hS'.1) Try.underlying30 rfl HID.out ?_
    simp only [Act.put, List.getElem_toArray, List.getElem_cons_zero, List.getElem_cons_succ, List.setIfInBounds_toArray, List.set_cons_zero, List.set_cons_succ]
    (repeat (first | (refine wpS_pass _ rfl (by rfl) ?_; simp only [Act.put, List.getElem_toArray, List.getElem_cons_zero, List.getElem_cons_succ, List.setIfInBounds_toArray, List.set_cons_zero, List.set_cons_succ]) | (refine wpS_take _ ?_ rfl (by rfl) ?_ ?_; rotate_left; (focus (intro w' hS'; (try dsimp only at hS'); (repeat (have hS1 := hS'.1; replace hS' := hS'.2)); go_simp; (try with_reducible rfl); done)); simp only [Act.put, List.getElem_toArray, List.getElem_cons_zero, List.getElem_cons_succ, List.setIfInBounds_toArray, List.set_cons_zero, List.set_cons_succ])))
    refine wpS_do _ rfl (by rfl) (fun K hK => ?_)
    go_simp
    refine (id_sL v5 xs o.data _ (HO5.out.sl.below (Below.refl _ _).drew) HL.out (by omega)).mono ?_
    rintro e w6 ⟨v6, rfl, ho6⟩
    have hb6 : Below w5.heap.size w5 w6 := (Below.refl _ _).drew.trans ho6.bel
    refine hK.out _ _ ⟨hb6, cell_below k4 HL5.out hb6⟩ (fun hS => ?_)
    clear hK hS
    refine wpS_do _ rfl (by rfl) (fun K hK => ?_)
    go_simp
    refine (num_sL v6 _ (o.os.length : Int) _ ho6.sl (by rw [List.length_append, HL.out]; omega)).mono ?_
    rintro e w7 ⟨v7, rfl, ho7⟩
    have hb7 := hb6.trans (ho7.bel.mono hb6.size)
    refine hK.out _ _ ⟨hb7, cell_below k4 HL5.out hb7⟩ (fun hS => ?_)
    clear hK hS
    (repeat (first | (refine wpS_pass _ rfl (by rfl) ?_; simp only [Act.put, List.getElem_toArray, List.getElem_cons_zero, List.getElem_cons_succ, List.setIfInBounds_toArray, List.set_cons_zero, List.set_cons_succ]) | (refine wpS_take _ ?_ rfl (by rfl) ?_ ?_; rotate_left; (focus (intro w' hS'; (try dsimp only at hS'); (repeat (have hS1 := hS'.1; replace hS' := hS'.2)); go_simp; (try with_reducible rfl); done)); simp only [Act.put, List.getElem_toArray, List.getElem_cons_zero, List.getElem_cons_succ, List.setIfInBounds_toArray, List.set_cons_zero, List.set_cons_succ])))
    refine wpS_done ?_
    have HO7 := Lib.hid (Own8.trans hb6 hb6.size ho7)
    have ly : (xs ++ o.data ++ numB (clampN (o.os.length : Int))).length ≤ bs.length + 86 := by
      have := (numB_len (o.os.length : Int)).2
      rw [List.length_append, List.length_append, HL.out]
      omega
    obtain ⟨ys, hys⟩ : ∃ ys, xs ++ o.data ++ numB (clampN (o.os.length : Int)) = ys := ⟨_, rfl⟩
    rw [hys] at HO7 ly
    have HYS := Lib.hid hys
    have kv := cell_below k4 HL5.out hb7
    have hB0 := Lib.hid hb7
    have HRW : Hid (∀ W, Below w5.heap.size w5 W → Rd W A (stc o.os)) := Lib.hid (fun W hb => HRD.out W (HB5.out.trans (hb.mono (Nat.le_of_lt HL5.out))))
    clear hys hb7 ho7 hb6 ho6 R5 k0 k4
    go_wp2_with fail
    go_loopg [0, 43] (o.os.length * 1) (fun gk_ v s wr => ∃ k : Nat, k ≤ o.os.length ∧ gk_ = o.os.length - k ∧ s = .int .i64 (k : Int) ∧ Own8 w5.heap.size w5 wr v (ys ++ stmsB (o.os.take k)))
    case atStart => exact ⟨0, by omega, by omega, rfl, by simpa [stmsB] using HO7.out⟩
    case round =>
      clear kv hB0 HO7
      obtain ⟨k, hk, rfl, rfl, hown⟩ := hrel
      by_cases hlt : k < o.os.length
      · have hpos : 0 < (stc o.os).length := by rw [stc_length]; omega
        have hrd2 := HRW.out wr hown.bel
        obtain ⟨b, off, hA, _⟩ := hrd2.all hpos
        subst hA
        have hbw := hrd2.lt hpos
        have RS := rd_stm hrd2 k hlt
        obtain ⟨s, hs⟩ : ∃ s, o.os[k] = s := ⟨_, rfl⟩
        rw [hs] at RS
        obtain ⟨Wa, W8, hWa, hW8, HTH, HRS, HB8⟩ := row_place (w := wr) 23 [.int .i64 0, .int .i64 0] s.cells rfl
        have HW8 := Lib.hid hW8
        have HSK := Lib.hid hs
        have i1 : (k : Int) < (o.os.length : Int) := by omega
        have i2 : (o.os.length : Int) ≤ (c : Int) := by omega
        have HOW := Lib.hid hown
        have RG := range_of_row HRS.out
        clear hW8 hs hown hrd2
        go_wp2_with (first
          | ((with_reducible (refine wpList_load_stm 23 _ b (off + k * 2) s RS Try.underlying23 rfl info_stm ?_ rfl ?_ ?_)); (exact rfl); (exact rfl))
          | ((with_reducible (refine wpList_load_stm 23 _ wr.heap.size 0 s RG Try.underlying23 rfl info_stm ?_ rfl ?_ ?_)); (exact rfl); (exact rfl))
          | ((with_reducible (refine wpList_store_mid rfl _ _ _ rfl ?_ ?_ ?_ ?_ ?_ ?_ ?_ ?_ ?_)); (exact wr.heap.size); (exact 0); (exact s.cells.toArray); (exact rfl); (exact rfl); (exact HTH.out); (exact info_stm); (exact s.cells_one); rw [HW8.out]))
        have lz : (ys ++ stmsB (o.os.take k)).length ≤ bs.length + 1300 := by
          have := stmsB_len (o.os.take k)
          rw [List.length_take] at this
          rw [List.length_append]
          omega
        refine (puts_anyL _ _ s W8 (HOW.out.sl.below HB8.out) (by omega)).mono ?_
        rintro e w9 ⟨v9, rfl, ho9⟩
        have hb9 := HOW.out.bel.trans (HB8.out.mono HOW.out.bel.size)
        have HN9 := Lib.hid (Own8.trans hb9 hb9.size ho9)
        clear ho9 hb9 lz
        go_wp2_with fail
        go_roundg (o.os.length - (k + 1))
        case measure => omega
        case rel =>
          refine ⟨k + 1, by omega, rfl, by first | rfl | exact congrArg (Value.int .i64) (by omega) | go_num, ?_⟩
          have := HN9.out
          rw [List.append_assoc] at this
          have e1 : stmsB (o.os.take (k + 1)) = stmsB (o.os.take k) ++ stmB s := by
            rw [List.take_add_one, List.getElem?_eq_getElem hlt, HSK.out]
            simp [stmsB]
          rw [e1]
          exact this
      · obtain rfl : k = o.os.length := by omega
        go_wp2_with fail
        go_ret
        refine ⟨_, rfl, ?_⟩
        rw [List.take_length] at hown
        have hfin := Own8.trans' HB5.out (Nat.le_of_lt HL5.out) hown
        have e1 : bs ++ putB o = ys ++ stmsB o.os := by
          rw [← HYS.out, ← HXS.out]
          unfold putB opB
          rw [HG.out, if_pos rfl, if_neg K1.out]
          simp only [List.append_assoc]
        rw [e1]
        exact hfin
end Go.Proofs.Ytabkgoandfpclaa
