
/- The document's GetStamp. -/

import Derived.Test.YtabkgoandfpclaaEncInK

import Derived.Test.YtabkgoandfpclaaGet1

namespace Go.Proofs.Ytabkgoandfpclaa

set_option linter.unusedVariables false

set_option linter.unusedSimpArgs false

open Go.RowKit

set_option maxRecDepth 100000 in
set_option maxHeartbeats 2000000 in
theorem rgets_k (KB : Nat) (st : St) (v : Value) (w : World) (h : InK w KB v st) (hKw : KB ≤ w.heap.size) :
    Calls Try.prog 58 #[v] w fun e w' => ∃ u, e = .returned (.tuple #[(getS st).1.val, u]) ∧ InK w' KB u (getS st).2 ∧ Below w.heap.size w w' := by
  obtain ⟨A0, n0, c0, b0, rfl, _, _⟩ := h.v.form
  obtain ⟨Wa, hWa⟩ : ∃ W, w.alloc (.cells #[.slice A0 n0 c0, .bool b0] 48) = W := ⟨_, rfl⟩
  obtain ⟨Wb, hWb⟩ : ∃ W, Wa.alloc (.cells #[.int .i64 0, .int .i64 0] 23) = W := ⟨_, rfl⟩
  obtain ⟨W1, hW1⟩ : ∃ W, Wb.alloc (.cells #[.slice none 0 0, .bool false] 48) = W := ⟨_, rfl⟩
  obtain ⟨ra, ba, sa⟩ := new_row hWa
  obtain ⟨rb, bb, sb⟩ := new_row hWb
  obtain ⟨rc, bc, sc⟩ := new_row hW1
  have hba : Below w.heap.size w Wb := ba.trans (bb.mono (by omega))
  have hb1 : Below w.heap.size w W1 := hba.trans (bc.mono (by omega))
  have r0 : W1.heap[w.heap.size]? = some (.cells #[.slice A0 n0 c0, .bool b0] 48 (0, 0)) := (bc.block _ (by omega)).trans ((bb.block _ (by omega)).trans ra)
  have r1 : W1.heap[Wa.heap.size]? = some (.cells #[.int .i64 0, .int .i64 0] 23 (0, 0)) := (bc.block _ (by omega)).trans rb
  have hs1 : w.heap.size < Wa.heap.size ∧ Wa.heap.size < Wb.heap.size ∧ Wb.heap.size < W1.heap.size := ⟨by omega, by omega, by omega⟩
  have HS := Lib.hid hs1
  have R1 := Lib.hid r1
  have R2 := Lib.hid rc
  have HI := Lib.hid (h.below hb1)
  have HB1 := Lib.hid hb1
  obtain ⟨g1, hg1⟩ : ∃ g, Wa.heap.size = g := ⟨_, rfl⟩
  obtain ⟨g2, hg2⟩ : ∃ g, Wb.heap.size = g := ⟨_, rfl⟩
  rw [hg1, hg2] at HS
  rw [hg1] at R1
  rw [hg2] at R2
  have HT : Hid (getS st = (⟨((getNum st 1099511627776).1 : Int), ((getNum (getNum st 1099511627776).2 65536).1 : Int)⟩, (getNum (getNum st 1099511627776).2 65536).2)) := Lib.hid rfl
  clear ra ba sa rb bb sb bc sc hba hb1 r1 rc hs1 h
  go_enter Try.func58, Try.ntmps58
  go_wp2_with (refine wpList_load_row rfl _ _ rfl _ rfl _ _ _ _ r0 Try.underlying48 rfl info_in ?_)
  clear hWa hWb hW1 hg1 hg2 r0
  refine (igetnum_k KB st _ _ W1 HI.out).mono ?_
  rintro e w2 ⟨u, rfl, hu, hb2⟩
  generalize getNum st 1099511627776 = q at *
  obtain ⟨t, s1⟩ := q
  dsimp only at hu HT ⊢
  obtain ⟨A2, n2, c2, b2, rfl, _, _⟩ := hu.v.form
  obtain ⟨W3, hW3⟩ : ∃ W, w2.alloc (.cells #[.slice A2 n2 c2, .bool b2] 48) = W := ⟨_, rfl⟩
  obtain ⟨r3, b3, s3⟩ := new_row hW3
  have HI3 := Lib.hid (hu.below b3)
  have HB3 := Lib.hid (hb2.trans (b3.mono hb2.size))
  clear hu hb2 b3 s3
  go_wp2_with (refine wpList_load_row rfl _ _ rfl _ rfl _ _ _ _ r3 Try.underlying48 rfl info_in ?_)
  clear hW3 r3
  refine (igetnum_k KB s1 _ _ W3 HI3.out).mono ?_
  rintro e w4 ⟨u, rfl, hu, hb4⟩
  generalize getNum s1 65536 = q at *
  obtain ⟨t2, s2⟩ := q
  dsimp only at hu HT ⊢
  obtain ⟨A4, n4, c4, b4, rfl, _, _⟩ := hu.v.form
  obtain ⟨W5, hW5⟩ : ∃ W, w4.alloc (.cells #[.slice A4 n4 c4, .bool b4] 48) = W := ⟨_, rfl⟩
  obtain ⟨r5, b5, s5⟩ := new_row hW5
  have HI5 := Lib.hid (hu.below b5)
  have HB5 := Lib.hid (HB3.out.trans ((hb4.trans (b5.mono hb4.size)).mono HB3.out.size))
  have hlt : g2 < w4.heap.size := by
    have := HB3.out.size
    have := hb4.size
    have := HS.out
    omega
  clear hu hb4 b5
  go_wp2_with fail
  obtain ⟨g5, hg5⟩ : ∃ g, w4.heap.size = g := ⟨_, rfl⟩
  rw [hg5] at r5 hlt ⊢
  have R5 := Lib.hid r5
  have hs5 : g5 < W5.heap.size := by omega
  clear hW5 r5 s5 hg5
  have e1 := (HB5.out.block g1 (by have := HS.out; omega)).trans R1.out
  have e2 := (HB5.out.block g2 (by have := HS.out; omega)).trans R2.out
  have E1 := Lib.hid e1
  have E2 := Lib.hid e2
  clear e1 e2
  refine wp_region_sched (fun w' => w'.heap[g5]? = some (.cells #[.slice A4 n4 c4, .bool b4] 48 (0, 0)))
    [(true, 0), (true, 1), (true, 2), (true, 3), (false, 4), (false, 5)] (by kernel_rfl) (by kernel_rfl) rfl (by kernel_rfl) R5.out ?_
  (first | (refine wpS_pass _ rfl (by rfl) ?_; simp only [Act.put, List.getElem_toArray, List.getElem_cons_zero, List.getElem_cons_succ, List.setIfInBounds_toArray, List.set_cons_zero, List.set_cons_succ]) | (refine wpS_take _ ?_ rfl (by rfl) ?_ ?_; rotate_left; (focus (intro w' hS'; (try dsimp only at hS'); (repeat (have hS1 := hS'.1; replace hS' := hS'.2)); go_simp; (try with_reducible rfl); done)); simp only [Act.put, List.getElem_toArray, List.getElem_cons_zero, List.getElem_cons_succ, List.setIfInBounds_toArray, List.set_cons_zero, List.set_cons_succ]))
  (first | (refine wpS_pass _ rfl (by rfl) ?_; simp only [Act.put, List.getElem_toArray, List.getElem_cons_zero, List.getElem_cons_succ, List.setIfInBounds_toArray, List.set_cons_zero, List.set_cons_succ]) | (refine wpS_take _ ?_ rfl (by rfl) ?_ ?_; rotate_left; (focus (intro w' hS'; (try dsimp only at hS'); (repeat (have hS1 := hS'.1; replace hS' := hS'.2)); go_simp; (try with_reducible rfl); done)); simp only [Act.put, List.getElem_toArray, List.getElem_cons_zero, List.getElem_cons_succ, List.setIfInBounds_toArray, List.set_cons_zero, List.set_cons_succ]))
  (first | (refine wpS_pass _ rfl (by rfl) ?_; simp only [Act.put, List.getElem_toArray, List.getElem_cons_zero, List.getElem_cons_succ, List.setIfInBounds_toArray, List.set_cons_zero, List.set_cons_succ]) | (refine wpS_take _ ?_ rfl (by rfl) ?_ ?_; rotate_left; (focus (intro w' hS'; (try dsimp only at hS'); (repeat (have hS1 := hS'.1; replace hS' := hS'.2)); go_simp; (try with_reducible rfl); done)); simp only [Act.put, List.getElem_toArray, List.getElem_cons_zero, List.getElem_cons_succ, List.setIfInBounds_toArray, List.set_cons_zero, List.set_cons_succ]))
  refine wpS_load _ rfl (by rfl) _ _ rfl _ _ rfl [.slice A4 n4 c4, .bool b4] _ (fun w' hS' => range_of_row hS') Try.underlying48 rfl info_in ?_
  simp only [Act.put, List.getElem_toArray, List.getElem_cons_zero, List.getElem_cons_succ, List.setIfInBounds_toArray, List.set_cons_zero, List.set_cons_succ]
  refine wpS_do _ rfl (by rfl) (fun K hK => ?_)
  have f0 : W5.frozen? ⟨g1, 0, none⟩ = false := row_free E1.out 0
  have f1 : W5.frozen? ⟨g1, 1, none⟩ = false := row_free E1.out 1
  have c0 : W5.cell? ⟨g1, 0, none⟩ = some (.int .i64 0) := row_cell E1.out 0
  have c1 : W5.cell? ⟨g1, 1, none⟩ = some (.int .i64 0) := row_cell E1.out 1
  go_simp
  clear f0 f1 c0 c1
  have hg6 := grown_set2 W5 g1 (.int .i64 t) (.int .i64 t2)
  have k5 := (hg6.block g5 hs5 (by simp; have := HS.out; omega)).trans R5.out
  refine hK.out _ _ k5 (fun hS => ?_)
  clear hK hS
  have K5 := Lib.hid k5
  have k1 := row_set2d E1.out (.int .i64 t) (.int .i64 t2)
  have K1 := Lib.hid k1
  have k2 := (hg6.block g2 (by have := HS.out; omega) (by simp; have := HS.out; omega)).trans E2.out
  have K2 := Lib.hid k2
  have HI6 := Lib.hid (HI5.out.far (by have := HS.out; omega) hg6)
  have HB56 := Lib.hid (HB1.out.trans (HB5.out.mono HB1.out.size))
  have HB6 := Lib.hid (bel_grown HB56.out HB56.out.size hg6 (by have := HS.out; omega))
  clear k5 k1 k2 hg6
  generalize ((W5.setCell ⟨g1, 0, none⟩ (.int .i64 t)).setCell ⟨g1, 1, none⟩ (.int .i64 t2)).drew = W6 at *
  refine wpS_do _ rfl (by rfl) (fun K hK => ?_)
  have f0 : W6.frozen? ⟨g2, 0, none⟩ = false := row_free K2.out 0
  have f1 : W6.frozen? ⟨g2, 1, none⟩ = false := row_free K2.out 1
  have c0 : W6.cell? ⟨g2, 0, none⟩ = some (.slice none 0 0) := row_cell K2.out 0
  have c1 : W6.cell? ⟨g2, 1, none⟩ = some (.bool false) := row_cell K2.out 1
  go_simp
  clear f0 f1 c0 c1
  have hg7 := grown_set2 W6 g2 (.slice A4 n4 c4) (.bool b4)
  have hlt6 : g5 < W6.heap.size := (Array.getElem?_eq_some_iff.1 K5.out).1
  have k5 := (hg7.block g5 hlt6 (by simp; omega)).trans K5.out
  refine hK.out _ _ k5 (fun hS => ?_)
  clear hK hS k5
  refine wpS_done ?_
  have k1 := (hg7.block g1 (by have := HS.out; omega) (by simp; have := HS.out; omega)).trans K1.out
  have k2 := row_set2d K2.out (.slice A4 n4 c4) (.bool b4)
  have HK1 := Lib.hid k1
  have HK2 := Lib.hid k2
  have HI7 := Lib.hid (HI6.out.far (by have := HS.out; omega) hg7)
  have HB7 := Lib.hid (bel_set2 HB6.out HB6.out.size (g := g2) (by have := HS.out; omega) (.slice A4 n4 c4) (.bool b4))
  clear k1 k2 hg7
  go_wp2_with fail
  refine bodyPost_ret (results_row_row rfl _ _ _ _ _ _ _ _ _ _ _ _ rfl (show ((W6.setCell ⟨g2, 0, none⟩ (.slice A4 n4 c4)).setCell ⟨g2, 1, none⟩ (.bool b4)).heap[g2]? = _ from HK2.out) Try.underlying48 rfl info_in rfl (show ((W6.setCell ⟨g2, 0, none⟩ (.slice A4 n4 c4)).setCell ⟨g2, 1, none⟩ (.bool b4)).heap[g1]? = _ from HK1.out) Try.underlying23 rfl info_stm) rfl ?_
  rw [HT.out]
  exact ⟨_, rfl, HI7.out, HB7.out⟩
end Go.Proofs.Ytabkgoandfpclaa
