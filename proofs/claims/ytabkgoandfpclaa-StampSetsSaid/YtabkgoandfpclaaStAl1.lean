
/- The document's example of a stamp's layer: its operation; what is said of it. -/

import Derived.Test.YtabkgoandfpclaaGet2

import Derived.Test.YtabkgoandfpclaaPut2

import Derived.Test.YtabkgoandfpclaaOp5

import Derived.Test.YtabkgoandfpclaaSchedT

namespace Go.Proofs.Ytabkgoandfpclaa

set_option linter.unusedVariables false

set_option linter.unusedSimpArgs false

open Go.RowKit

def o1 : OpM := ⟨1, ⟨5, 1⟩, ⟨5, 1⟩, stm0, ⟨#[97]⟩, zeros32, .slice none 0 0, []⟩
def by1 : List UInt8 := [1, 5, 1, 5, 1, 0, 0, 1, 97]
theorem name_a : nameS ⟨#[97]⟩ = true := by
  unfold nameS
  rw [Lib.toList_data]
  decide
theorem good_o1 : goodO o1 = true := by
  unfold goodO goodMove
  show (rightB _ && rightB _ && if (1 : Int) = 1 then (decide (cmpS _ _ ≤ 0) && (rightB _ || fixedB _) && nameS ⟨#[97]⟩ && decide (zeros32 = zeros32) && (((0 : Nat) : Int) == 0)) else _) = true
  rw [name_a]
  decide
theorem put_o1 : putB o1 = by1 := by
  unfold putB
  rw [good_o1]
  decide +kernel
theorem get_o1 : getMove (some by1) = (o1, some []) := by
  have h0 : getNum (some by1) 2 = (1, some [5, 1, 5, 1, 0, 0, 1, 97]) := by decide +kernel
  have h1 : getS (some [5, 1, 5, 1, 0, 0, 1, 97]) = (⟨5, 1⟩, some [5, 1, 0, 0, 1, 97]) := by decide +kernel
  have h2 : getS (some [5, 1, 0, 0, 1, 97]) = (⟨5, 1⟩, some [0, 0, 1, 97]) := by decide +kernel
  have h3 : getS (some [0, 0, 1, 97]) = (stm0, some [1, 97]) := by decide +kernel
  have h4 : getText (some [1, 97]) 60 = ([97], some []) := by decide +kernel
  unfold getMove
  rw [h0]
  dsimp only
  rw [h1]
  dsimp only
  rw [h2]
  dsimp only
  rw [h3]
  dsimp only
  rw [h4]
  dsimp only
  exact if_pos (by show (true && goodO o1) = true; rw [good_o1]; rfl)
theorem kind_o1 : (getNum (some by1) 2).1 = 1 := by decide +kernel
theorem same_o1 (o : OpM) : sameO o o = true := by
  unfold sameO
  simp
theorem opIn_o1 (w : World) : OpIn w o1 := opIn_plain w o1 rfl (by decide) rfl rfl

set_option maxRecDepth 100000 in
set_option maxHeartbeats 1000000 in
theorem first_any (w : World) : Calls Try.prog 33 #[] w fun e w' => e = .returned o1.val ∧ Below w.heap.size w w' := by
  obtain ⟨Wa, W5, hWa, hW5, HTH, HROW, HB5⟩ := row_place (w := w) 33 op0.cells o1.cells rfl
  have hWa' : w.alloc (.cells #[Value.int .i64 0, Value.int .i64 0, Value.int .i64 0, Value.int .i64 0, Value.int .i64 0, Value.int .i64 0, Value.int .i64 0, Value.string ⟨#[]⟩, Value.int .u8 0, Value.int .u8 0, Value.int .u8 0, Value.int .u8 0, Value.int .u8 0, Value.int .u8 0, Value.int .u8 0, Value.int .u8 0, Value.int .u8 0, Value.int .u8 0, Value.int .u8 0, Value.int .u8 0, Value.int .u8 0, Value.int .u8 0, Value.int .u8 0, Value.int .u8 0, Value.int .u8 0, Value.int .u8 0, Value.int .u8 0, Value.int .u8 0, Value.int .u8 0, Value.int .u8 0, Value.int .u8 0, Value.int .u8 0, Value.int .u8 0, Value.int .u8 0, Value.int .u8 0, Value.int .u8 0, Value.int .u8 0, Value.int .u8 0, Value.int .u8 0, Value.int .u8 0, Value.slice none 0 0] 33) = Wa := hWa
  have HW5 := Lib.hid hW5
  have HSZ : Hid ((Try.prog.info? 33).map (·.size) = some o1.cells.toArray.size) := Lib.hid (by rw [size_op _ rfl]; exact info_op)
  clear hW5 hWa
  go_enter Try.func33, Try.ntmps33
  go_wp2_with ((with_reducible (refine wpList_store_mid rfl _ _ _ rfl ?_ ?_ ?_ ?_ ?_ ?_ ?_ ?_ ?_)); (exact w.heap.size); (exact 0); (exact o1.cells.toArray); (exact rfl); (exact rfl); (exact HTH.out); (exact HSZ.out); (exact slot_none _ rfl); rw [HW5.out])
  refine bodyPost_ret (results_row1 rfl _ _ _ _ _ _ _ rfl HROW.out Try.underlying33 rfl HSZ.out) rfl ?_
  exact ⟨rfl, HB5.out⟩

set_option maxRecDepth 100000 in
set_option maxHeartbeats 4000000 in
theorem alive_any (w : World) : Calls Try.prog 11 #[] w fun e w' => e = .returned (.bool true) ∧ Below w.heap.size w w' := by
  go_enter Try.func11, Try.ntmps11
  go_wp2_with fail
  refine (first_any w).mono ?_
  rintro e w1 ⟨rfl, hb1⟩
  obtain ⟨Wa, W5, hWa, hW5, HTH, HROW, HB5⟩ := row_place (w := w1) 33 op0.cells o1.cells rfl
  have hWa' : w1.alloc (.cells #[Value.int .i64 0, Value.int .i64 0, Value.int .i64 0, Value.int .i64 0, Value.int .i64 0, Value.int .i64 0, Value.int .i64 0, Value.string ⟨#[]⟩, Value.int .u8 0, Value.int .u8 0, Value.int .u8 0, Value.int .u8 0, Value.int .u8 0, Value.int .u8 0, Value.int .u8 0, Value.int .u8 0, Value.int .u8 0, Value.int .u8 0, Value.int .u8 0, Value.int .u8 0, Value.int .u8 0, Value.int .u8 0, Value.int .u8 0, Value.int .u8 0, Value.int .u8 0, Value.int .u8 0, Value.int .u8 0, Value.int .u8 0, Value.int .u8 0, Value.int .u8 0, Value.int .u8 0, Value.int .u8 0, Value.int .u8 0, Value.int .u8 0, Value.int .u8 0, Value.int .u8 0, Value.int .u8 0, Value.int .u8 0, Value.int .u8 0, Value.int .u8 0, Value.slice none 0 0] 33) = Wa := hWa
  have HW5 := Lib.hid hW5
  have HSZ : Hid ((Try.prog.info? 33).map (·.size) = some o1.cells.toArray.size) := Lib.hid (by rw [size_op _ rfl]; exact info_op)
  clear hW5 hWa
  go_wp2_with ((with_reducible (refine wpList_store_mid rfl _ _ _ rfl ?_ ?_ ?_ ?_ ?_ ?_ ?_ ?_ ?_)); (exact w1.heap.size); (exact 0); (exact o1.cells.toArray); (exact rfl); (exact rfl); (exact HTH.out); (exact HSZ.out); (exact slot_none _ rfl); rw [HW5.out])
  refine (read_any (some ⟨W5.heap.size, 0, none⟩) by1 9 9 _ rfl (rd_lit W5 by1) (by decide)).mono ?_
  rintro e w2 ⟨rd, rfl, hrd, hb2, hm2⟩
  have hbA : Below W5.heap.size W5 (W5.alloc (.cells (b8s by1).toArray 5)) := (Below.refl _ _).alloc (Nat.le_refl _) _
  have hb52 : Below W5.heap.size W5 w2 := hbA.trans (hb2.mono hbA.size)
  have hg5 := (Array.getElem?_eq_some_iff.1 HROW.out).1
  have hro := (hb52.block _ hg5).trans HROW.out
  have HBEL := Lib.hid (hb1.trans ((HB5.out.mono hb1.size).trans (hb52.mono (Nat.le_trans hb1.size HB5.out.size))))
  have HRO := Lib.hid hro
  have HM2 := Lib.hid hm2
  have HRD : Hid (w1.heap.size < rd ∧ w.heap.size ≤ rd) := Lib.hid (by
    have h1 := hbA.size
    have h2 := hb1.size
    have h3 : (W5.alloc (.cells (b8s by1).toArray 5)).heap.size = W5.heap.size + 1 := by simp
    have h4 : (W5.alloc (.cells (b8s by1).toArray 5)).heap.size ≤ rd := hrd
    omega)
  obtain ⟨g, hg⟩ : ∃ g, w1.heap.size = g := ⟨_, rfl⟩
  rw [hg] at HRO HRD
  clear hWa' hbA hb52 hg5 hro hb1 hb2 hm2 hrd
  rw [hg]
  clear hg HTH HROW HB5 HW5
  go_wp2_with fail
  have hl : ∀ w' : World, w'.heap[g]? = some (.cells o1.cells.toArray 33 (0, 0)) → w'.rangeAt g 0 o1.cells := fun w' h => range_of_row h
  have HLR := Lib.hid hl
  clear hl
  have HI41 : Hid ((Try.prog.info? 33).map (·.size) = some o1.cells.length) := Lib.hid (by rw [o1.cells_len rfl]; exact info_op)
  have keep : ∀ {u u' : World}, u.heap[g]? = some (.cells o1.cells.toArray 33 (0, 0)) → Below u.heap.size u u' → u'.heap[g]? = some (.cells o1.cells.toArray 33 (0, 0)) := fun h hb => (hb.block _ (Array.getElem?_eq_some_iff.1 h).1).trans h
  refine wp_region_sched2 (fun w' => w'.heap[g]? = some (.cells o1.cells.toArray 33 (0, 0)))
    [(true, 0), (true, 1), (false, 2), (true, 3), (true, 4), (true, 5), (false, 6), (true, 7), (true, 8), (true, 9)] 10 11
    [(false, 12), (true, 13), (true, 14), (true, 15), (true, 16), (true, 17), (true, 18), (true, 19), (true, 21), (false, 20), (false, 22), (true, 23), (true, 24), (true, 25), (false, 26), (true, 27), (true, 28)] (by kernel_rfl) (by kernel_rfl) rfl (by kernel_rfl) HRO.out ?_
  (repeat ((refine wpS2_take _ ?_ rfl (by rfl) ?_ ?_; rotate_left; (focus (intro w' hS'; (try dsimp only at hS'); (repeat (have hS1 := hS'.1; replace hS' := hS'.2)); go_simp; (try with_reducible rfl); done)); simp only [Act.put, List.getElem_toArray, List.getElem_cons_zero, List.getElem_cons_succ, List.setIfInBounds_toArray, List.set_cons_zero, List.set_cons_succ])))
  refine wpS2_do _ rfl (by rfl) (fun K hK => ?_)
  go_simp
  refine (cmp_any ⟨3, 9⟩ ⟨4, 1⟩ _).mono ?_
  rintro e w3 ⟨rfl, hb3⟩
  rw [show cmpS ⟨3, 9⟩ ⟨4, 1⟩ = -1 by decide]
  have hb23 : Below w2.heap.size w2 w3 := (Below.refl _ _).drew.trans hb3
  refine hK.out _ _ (keep HRO.out hb23) (fun hS => ?_)
  clear hK hS
  (repeat ((refine wpS2_take _ ?_ rfl (by rfl) ?_ ?_; rotate_left; (focus (intro w' hS'; (try dsimp only at hS'); (repeat (have hS1 := hS'.1; replace hS' := hS'.2)); go_simp; (try with_reducible rfl); done)); simp only [Act.put, List.getElem_toArray, List.getElem_cons_zero, List.getElem_cons_succ, List.setIfInBounds_toArray, List.set_cons_zero, List.set_cons_succ])))
  refine wpS2_load _ rfl (by rfl) _ _ rfl _ _ rfl o1.cells _ (fun w' hS' => HLR.out w' hS') Try.underlying33 rfl HI41.out ?_
  simp only [Act.put, List.getElem_toArray, List.getElem_cons_zero, List.getElem_cons_succ, List.setIfInBounds_toArray, List.set_cons_zero, List.set_cons_succ]
  refine wpS2_do _ rfl (by rfl) (fun K hK => ?_)
  go_simp
  refine (good_any' o1 w3 (opIn_o1 w3)).mono ?_
  rintro e w4 ⟨rfl, hb4⟩
  rw [good_o1]
  have hb24 := hb23.trans (hb4.mono hb23.size)
  refine hK.out _ _ (keep HRO.out hb24) (fun hS => ?_)
  clear hK hS
  (repeat ((refine wpS2_take _ ?_ rfl (by rfl) ?_ ?_; rotate_left; (focus (intro w' hS'; (try dsimp only at hS'); (repeat (have hS1 := hS'.1; replace hS' := hS'.2)); go_simp; (try with_reducible rfl); done)); simp only [Act.put, List.getElem_toArray, List.getElem_cons_zero, List.getElem_cons_succ, List.setIfInBounds_toArray, List.set_cons_zero, List.set_cons_succ])))
  refine wpS2_load _ rfl (by rfl) _ _ rfl _ _ rfl o1.cells _ (fun w' hS' => HLR.out w' hS') Try.underlying33 rfl HI41.out ?_
  simp only [Act.put, List.getElem_toArray, List.getElem_cons_zero, List.getElem_cons_succ, List.setIfInBounds_toArray, List.set_cons_zero, List.set_cons_succ]
  have HB24 := Lib.hid hb24
  clear hb23 hb3 hb4 hb24
  refine wpS2_both ?_ ?_
  · refine doStep_do _ rfl (by rfl) (fun K hK => ?_)
    go_simp
    refine (put_move (.slice none 0 0) [] o1 _ (Sl.nil _) (by decide) (opIn_o1 _) rfl).mono ?_
    rintro e w5 ⟨v, rfl, ho⟩
    rw [put_o1, List.nil_append] at ho
    obtain ⟨A1, c1, rfl, _, _, hr1, _⟩ := ho.slice
    have hbw5 := HB24.out.trans (ho.bel.mono HB24.out.size)
    refine hK.out _ _ (keep HRO.out hbw5) (fun hS => ?_)
    clear hK hS
    refine doStep_do _ rfl (by rfl) (fun K hK => ?_)
    go_simp
    have HBX := hbw5.alloc hbw5.size (.cells (b8s by1).toArray 5)
    have RD1 : Rd (w5.alloc (.cells (b8s by1).toArray 5)) A1 (b8s by1) := hr1.alloc _
    have RD2 := rd_lit w5 by1
    refine hK.out _ _ (keep HRO.out HBX) (fun hS => ?_)
    clear hK hS
    refine wpS_do _ rfl (by rfl) (fun K hK => ?_)
    go_simp
    refine (same_b true A1 _ by1 by1 c1 9 _ RD1 RD2 (by decide) (by decide) (by decide)).mono ?_
    rintro e w7 ⟨rfl, hb7⟩
    have hb27 := HBX.trans (hb7.mono HBX.size)
    refine hK.out _ _ (keep HRO.out hb27) (fun hS => ?_)
    clear hK hS
    (repeat (first | (refine wpS_pass _ rfl (by rfl) ?_; simp only [Act.put, List.getElem_toArray, List.getElem_cons_zero, List.getElem_cons_succ, List.setIfInBounds_toArray, List.set_cons_zero, List.set_cons_succ]) | (refine wpS_take _ ?_ rfl (by rfl) ?_ ?_; rotate_left; (focus (intro w' hS'; (try dsimp only at hS'); (repeat (have hS1 := hS'.1; replace hS' := hS'.2)); go_simp; (try with_reducible rfl); done)); simp only [Act.put, List.getElem_toArray, List.getElem_cons_zero, List.getElem_cons_succ, List.setIfInBounds_toArray, List.set_cons_zero, List.set_cons_succ])))
    refine wpS_load _ rfl (by rfl) _ _ rfl _ _ rfl o1.cells _ (fun w' hS' => HLR.out w' hS') Try.underlying33 rfl HI41.out ?_
    simp only [Act.put, List.getElem_toArray, List.getElem_cons_zero, List.getElem_cons_succ, List.setIfInBounds_toArray, List.set_cons_zero, List.set_cons_succ]
    refine wpS_do _ rfl (by rfl) (fun K hK => ?_)
    go_simp
    refine (get_move rd (some by1) w7 (HM2.out.below hb27).k kind_o1).mono ?_
    rintro e w8 ⟨rfl, hm8, hg8⟩
    rw [get_o1] at hm8 ⊢
    have hr7 := keep HRO.out hb27
    have hr8 : w8.heap[g]? = some (.cells o1.cells.toArray 33 (0, 0)) := (hg8.block _ (Array.getElem?_eq_some_iff.1 hr7).1 (fun e => by have := Option.some.inj e; have := HRD.out.1; omega)).trans hr7
    have hbw7 := HBEL.out.trans (hb27.mono HBEL.out.size)
    have hbw8 := bel_grown hbw7 hbw7.size hg8 HRD.out.2
    refine hK.out _ _ hr8 (fun hS => ?_)
    clear hK hS
    refine wpS_do _ rfl (by rfl) (fun K hK => ?_)
    go_simp
    refine (opsame_any o1 o1 w8 (opIn_o1 w8) (opIn_o1 w8)).mono ?_
    rintro e w9 ⟨rfl, hb9⟩
    rw [same_o1]
    refine hK.out _ _ (keep hr8 hb9) (fun hS => ?_)
    clear hK hS
    (repeat (first | (refine wpS_pass _ rfl (by rfl) ?_; simp only [Act.put, List.getElem_toArray, List.getElem_cons_zero, List.getElem_cons_succ, List.setIfInBounds_toArray, List.set_cons_zero, List.set_cons_succ]) | (refine wpS_take _ ?_ rfl (by rfl) ?_ ?_; rotate_left; (focus (intro w' hS'; (try dsimp only at hS'); (repeat (have hS1 := hS'.1; replace hS' := hS'.2)); go_simp; (try with_reducible rfl); done)); simp only [Act.put, List.getElem_toArray, List.getElem_cons_zero, List.getElem_cons_succ, List.setIfInBounds_toArray, List.set_cons_zero, List.set_cons_succ])))
    refine wpS_do _ rfl (by rfl) (fun K hK => ?_)
    go_simp
    refine (done_any rd (some []) w9 (hm8.m.below hb9)).mono ?_
    rintro e w10 ⟨rfl, rfl⟩
    refine hK.out _ _ (keep hr8 hb9) (fun hS => ?_)
    clear hK hS
    (repeat (first | (refine wpS_pass _ rfl (by rfl) ?_; simp only [Act.put, List.getElem_toArray, List.getElem_cons_zero, List.getElem_cons_succ, List.setIfInBounds_toArray, List.set_cons_zero, List.set_cons_succ]) | (refine wpS_take _ ?_ rfl (by rfl) ?_ ?_; rotate_left; (focus (intro w' hS'; (try dsimp only at hS'); (repeat (have hS1 := hS'.1; replace hS' := hS'.2)); go_simp; (try with_reducible rfl); done)); simp only [Act.put, List.getElem_toArray, List.getElem_cons_zero, List.getElem_cons_succ, List.setIfInBounds_toArray, List.set_cons_zero, List.set_cons_succ])))
    refine wpS_done ?_
    clear keep
    go_wp2_with fail
    go_ret
    exact ⟨rfl, hbw8.trans (hb9.mono hbw8.size)⟩
  · refine doStep_do _ rfl (by rfl) (fun K hK => ?_)
    go_simp
    have hbw5 := HB24.out.alloc HB24.out.size (.cells (b8s by1).toArray 5)
    refine hK.out _ _ (keep HRO.out hbw5) (fun hS => ?_)
    clear hK hS
    refine doStep_do _ rfl (by rfl) (fun K hK => ?_)
    go_simp
    refine (put_move (.slice none 0 0) [] o1 _ (Sl.nil _) (by decide) (opIn_o1 _) rfl).mono ?_
    rintro e w6 ⟨v, rfl, ho⟩
    rw [put_o1, List.nil_append] at ho
    obtain ⟨A1, c1, rfl, _, _, hr1, _⟩ := ho.slice
    have hbw6 := hbw5.trans (ho.bel.mono hbw5.size)
    refine hK.out _ _ (keep HRO.out hbw6) (fun hS => ?_)
    clear hK hS
    have HBX := hbw6
    have RD1 : Rd w6 A1 (b8s by1) := hr1
    have RD2 := (rd_lit w4 by1).below ho.bel
    refine wpS_do _ rfl (by rfl) (fun K hK => ?_)
    go_simp
    refine (same_b true A1 _ by1 by1 c1 9 _ RD1 RD2 (by decide) (by decide) (by decide)).mono ?_
    rintro e w7 ⟨rfl, hb7⟩
    have hb27 := HBX.trans (hb7.mono HBX.size)
    refine hK.out _ _ (keep HRO.out hb27) (fun hS => ?_)
    clear hK hS
    (repeat (first | (refine wpS_pass _ rfl (by rfl) ?_; simp only [Act.put, List.getElem_toArray, List.getElem_cons_zero, List.getElem_cons_succ, List.setIfInBounds_toArray, List.set_cons_zero, List.set_cons_succ]) | (refine wpS_take _ ?_ rfl (by rfl) ?_ ?_; rotate_left; (focus (intro w' hS'; (try dsimp only at hS'); (repeat (have hS1 := hS'.1; replace hS' := hS'.2)); go_simp; (try with_reducible rfl); done)); simp only [Act.put, List.getElem_toArray, List.getElem_cons_zero, List.getElem_cons_succ, List.setIfInBounds_toArray, List.set_cons_zero, List.set_cons_succ])))
    refine wpS_load _ rfl (by rfl) _ _ rfl _ _ rfl o1.cells _ (fun w' hS' => HLR.out w' hS') Try.underlying33 rfl HI41.out ?_
    simp only [Act.put, List.getElem_toArray, List.getElem_cons_zero, List.getElem_cons_succ, List.setIfInBounds_toArray, List.set_cons_zero, List.set_cons_succ]
    refine wpS_do _ rfl (by rfl) (fun K hK => ?_)
    go_simp
    refine (get_move rd (some by1) w7 (HM2.out.below hb27).k kind_o1).mono ?_
    rintro e w8 ⟨rfl, hm8, hg8⟩
    rw [get_o1] at hm8 ⊢
    have hr7 := keep HRO.out hb27
    have hr8 : w8.heap[g]? = some (.cells o1.cells.toArray 33 (0, 0)) := (hg8.block _ (Array.getElem?_eq_some_iff.1 hr7).1 (fun e => by have := Option.some.inj e; have := HRD.out.1; omega)).trans hr7
    have hbw7 := HBEL.out.trans (hb27.mono HBEL.out.size)
    have hbw8 := bel_grown hbw7 hbw7.size hg8 HRD.out.2
    refine hK.out _ _ hr8 (fun hS => ?_)
    clear hK hS
    refine wpS_do _ rfl (by rfl) (fun K hK => ?_)
    go_simp
    refine (opsame_any o1 o1 w8 (opIn_o1 w8) (opIn_o1 w8)).mono ?_
    rintro e w9 ⟨rfl, hb9⟩
    rw [same_o1]
    refine hK.out _ _ (keep hr8 hb9) (fun hS => ?_)
    clear hK hS
    (repeat (first | (refine wpS_pass _ rfl (by rfl) ?_; simp only [Act.put, List.getElem_toArray, List.getElem_cons_zero, List.getElem_cons_succ, List.setIfInBounds_toArray, List.set_cons_zero, List.set_cons_succ]) | (refine wpS_take _ ?_ rfl (by rfl) ?_ ?_; rotate_left; (focus (intro w' hS'; (try dsimp only at hS'); (repeat (have hS1 := hS'.1; replace hS' := hS'.2)); go_simp; (try with_reducible rfl); done)); simp only [Act.put, List.getElem_toArray, List.getElem_cons_zero, List.getElem_cons_succ, List.setIfInBounds_toArray, List.set_cons_zero, List.set_cons_succ])))
    refine wpS_do _ rfl (by rfl) (fun K hK => ?_)
    go_simp
    refine (done_any rd (some []) w9 (hm8.m.below hb9)).mono ?_
    rintro e w10 ⟨rfl, rfl⟩
    refine hK.out _ _ (keep hr8 hb9) (fun hS => ?_)
    clear hK hS
    (repeat (first | (refine wpS_pass _ rfl (by rfl) ?_; simp only [Act.put, List.getElem_toArray, List.getElem_cons_zero, List.getElem_cons_succ, List.setIfInBounds_toArray, List.set_cons_zero, List.set_cons_succ]) | (refine wpS_take _ ?_ rfl (by rfl) ?_ ?_; rotate_left; (focus (intro w' hS'; (try dsimp only at hS'); (repeat (have hS1 := hS'.1; replace hS' := hS'.2)); go_simp; (try with_reducible rfl); done)); simp only [Act.put, List.getElem_toArray, List.getElem_cons_zero, List.getElem_cons_succ, List.setIfInBounds_toArray, List.set_cons_zero, List.set_cons_succ])))
    refine wpS_done ?_
    clear keep
    go_wp2_with fail
    go_ret
    exact ⟨rfl, hbw8.trans (hb9.mono hbw8.size)⟩
end Go.Proofs.Ytabkgoandfpclaa
