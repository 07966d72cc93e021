
/- StampReads: the walk. -/

import Derived.Test.YtabkgoandfpclaaRGet2

import Derived.Test.YtabkgoandfpclaaStAl1

namespace Go.Proofs.Ytabkgoandfpclaa

set_option linter.unusedVariables false

set_option linter.unusedSimpArgs false

open Go.RowKit

/-- what lies elsewhere by its kind stays while a row of others is written -/
theorem rd_far_gen {w w' : World} {g : Nat} {ds : Array Value} {t : TypeId} {fr : Nat × Nat} {A : Option Addr} {cs : List Value} (hh : w.heap[g]? = some (.cells ds t fr)) (hn : ∀ (i : Nat) (v : Value), ds[i]? = some v → ∀ u ∈ cs, u ≠ v) (hr : Rd w A cs) (hg : w.grownBy w' (some g)) : Rd w' A cs := fun j u hu => by
  obtain ⟨b, o, hA, hc⟩ := hr j u hu
  have hlt := World.block_lt_of_cell? w _ hc
  by_cases hb : b = g
  · exfalso
    subst hb
    rw [cell_of_row _ _ _ _ _ _ hh] at hc
    exact hn _ _ hc u (List.mem_of_getElem? hu) rfl
  · exact ⟨b, o, hA, (World.cell?_of_block (w := w) (w' := w') (a := ⟨b, o + j, none⟩) (hg.block b hlt (by simpa using hb))).trans hc⟩
theorem stc_i64 (os : List Stm) : ∀ u ∈ stc os, ∃ z, u = .int .i64 z := by
  intro u hu
  obtain ⟨s, _, hs⟩ := List.mem_flatMap.1 hu
  simp [Stm.cells] at hs
  rcases hs with rfl | rfl <;> exact ⟨_, rfl⟩
theorem OpIn.far2 {w w' : World} {g : Nat} {A : Option Addr} {n c : Nat} {b : Bool} {t : TypeId} {o : OpM} (h : OpIn w o) (hh : w.heap[g]? = some (.cells #[.slice A n c, .bool b] t (0, 0))) (hg : w.grownBy w' (some g)) : OpIn w' o := by
  obtain ⟨h1, h2, A', c', h3, h4, h5, h6⟩ := h
  refine ⟨h1, h2, A', c', h3, rd_far_gen hh (fun i v hv u hu => ?_) h4 hg, h5, h6⟩
  obtain ⟨z, rfl⟩ := stc_i64 _ u hu
  match i, hv with
  | 0, hv => simp at hv; subst hv; intro e; cases e
  | 1, hv => simp at hv; subst hv; intro e; cases e
  | i + 2, hv => simp at hv
theorem RdrM.row {w : World} {g : Nat} {st : St} (h : RdrM w g st) : ∃ A n c b, w.heap[g]? = some (.cells #[.slice A n c, .bool b] 74 (0, 0)) := by
  cases st with
  | none => exact ⟨_, _, _, _, h⟩
  | some bs =>
    obtain ⟨A, n, c, e, _⟩ := h
    exact ⟨_, _, _, _, e⟩
/-- a reader stays while another row of a slice and a bool is written -/
theorem RdrM.far2 {w w' : World} {g B : Nat} {st : St} {A : Option Addr} {n c : Nat} {b : Bool} {t : TypeId} (h : RdrM w g st) (hB : w.heap[B]? = some (.cells #[.slice A n c, .bool b] t (0, 0))) (hne : g ≠ B) (hg : w.grownBy w' (some B)) : RdrM w' g st := by
  have hlt := h.lt
  cases st with
  | none => exact (hg.block g hlt (by simpa using hne)).trans h
  | some bs =>
    obtain ⟨A', n', c', hh, h1, h2, h3, h4⟩ := h
    exact ⟨A', n', c', (hg.block g hlt (by simpa using hne)).trans hh, h1, h2, h3, rd_keep_row hB (slice_nb _ _ _) (bool_nb _) h4 hg⟩

set_option maxRecDepth 100000 in
set_option maxHeartbeats 4000000 in
theorem stampReads_any (A : Option Addr) (bs : List UInt8) (c : Nat) (w : World) (hr : Rd w A (b8s bs)) (hm : bs.length ≤ 140737488355328) (hc : bs.length ≤ c) (hc2 : c ≤ maxLen) :
    Calls Try.prog 8 #[.slice A bs.length c] w fun e w' => e = .returned (.bool true) ∧ Below w.heap.size w w' := by
  have HRD : Hid (∀ W, Below w.heap.size w W → Rd W A (b8s bs)) := Lib.hid (fun W hb => hr.below hb)
  have HC := Lib.hid (And.intro hc hc2)
  go_enter Try.func8, Try.ntmps8
  go_wp2_with fail
  refine (read_any A bs _ c w rfl hr hm).mono ?_
  rintro e w1 ⟨r, rfl, hr1, hb1, hM⟩
  clear hr hm hc hc2
  go_wp2_with fail
  refine (alive_any w1).mono ?_
  rintro e w2 ⟨rfl, hb2⟩
  have hM2 := hM.below hb2
  have hb12 := hb1.trans (hb2.mono hb1.size)
  have hrl := hM2.lt
  obtain ⟨W3, hW3⟩ : ∃ W, w2.alloc (.cells #[.slice A bs.length c, .bool false] 48) = W := ⟨_, rfl⟩
  obtain ⟨rB, bB, sB⟩ := new_row hW3
  obtain ⟨B, hB⟩ : ∃ B, w2.heap.size = B := ⟨_, rfl⟩
  have HM3 := Lib.hid (hM2.below bB)
  have HB3 := Lib.hid (hb12.trans (bB.mono hb12.size))
  have HI3 : Hid (InV W3 (.agg #[.slice A bs.length c, .bool false]) (some bs)) := Lib.hid ⟨A, _, c, rfl, rfl, HC.out.1, HC.out.2, HRD.out _ HB3.out⟩
  have HRB : Hid (W3.heap[B]? = some (.cells #[.slice A bs.length c, .bool false] 48 (0, 0))) := Lib.hid (hB ▸ rB)
  have HL : Hid (w.heap.size ≤ r ∧ r < B) := Lib.hid ⟨hr1, by omega⟩
  have HS2 := Lib.hid (And.intro hb12.size sB)
  have HBN := Lib.hid hB
  have HW3 := Lib.hid hW3
  clear hM hM2 hb1 hb2 hb12 hr1 hrl rB bB sB hB hW3
  go_wp2_with fail
  rw [HW3.out, HBN.out]
  clear HBN HW3
  go_loopg [5] (50 * 1) (fun gk_ s wr => ∃ (k : Nat) (st : St) (A : Option Addr) (n c : Nat) (b : Bool), k ≤ 50 ∧ gk_ = 50 - k ∧ s = .int .i64 (k : Int) ∧ Hid (RdrM wr r st) ∧ Hid (wr.heap[B]? = some (.cells #[.slice A n c, .bool b] 48 (0, 0))) ∧ Hid (InV wr (.agg #[.slice A n c, .bool b]) st) ∧ Hid (Below w.heap.size w wr))
  case atStart => exact ⟨0, some bs, _, _, _, _, by omega, by omega, rfl, HM3, HRB, HI3, HB3⟩
  case round =>
    clear HM3 HRB HI3 HB3 HS2
    obtain ⟨k, st, A, n, c, b, hk, rfl, rfl, HM, HRB, HI, HB⟩ := hrel
    by_cases hlt : k < 50
    · have i1 : (k : Int) < 50 := by omega
      go_wp2_with fail
      refine (get_any r st wr HM.out).mono ?_
      rintro e w1 ⟨o1, rfl, hin1, heq1, hm1, hg1⟩
      obtain ⟨x1, x2, x3, x4, hrow⟩ := HM.out.row
      have hI1 := HI.out.far_cells hrow (two_nb (slice_nb _ _ _) (bool_nb _)) hg1
      have hBl := (Array.getElem?_eq_some_iff.1 HRB.out).1
      have rB1 := (hg1.block B hBl (by have := HL.out; simp; omega)).trans HRB.out
      have hb1 := bel_grown HB.out HB.out.size hg1 HL.out.1
      obtain ⟨Wa, W2, hWa0, hW2, HTH, HRS, HB2⟩ := row_place (w := w1) 33 op0.cells o1.cells (by rw [o1.cells_len hin1.len]; rfl)
      have hWa : w1.alloc (.cells #[Value.int .i64 0, Value.int .i64 0, Value.int .i64 0, Value.int .i64 0, Value.int .i64 0, Value.int .i64 0, Value.int .i64 0, Value.string ⟨#[]⟩, Value.int .u8 0, Value.int .u8 0, Value.int .u8 0, Value.int .u8 0, Value.int .u8 0, Value.int .u8 0, Value.int .u8 0, Value.int .u8 0, Value.int .u8 0, Value.int .u8 0, Value.int .u8 0, Value.int .u8 0, Value.int .u8 0, Value.int .u8 0, Value.int .u8 0, Value.int .u8 0, Value.int .u8 0, Value.int .u8 0, Value.int .u8 0, Value.int .u8 0, Value.int .u8 0, Value.int .u8 0, Value.int .u8 0, Value.int .u8 0, Value.int .u8 0, Value.int .u8 0, Value.int .u8 0, Value.int .u8 0, Value.int .u8 0, Value.int .u8 0, Value.int .u8 0, Value.int .u8 0, Value.slice none 0 0] 33) = Wa := hWa0
      have HW2 := Lib.hid hW2
      have HSZ1 : Hid ((Try.prog.info? 33).map (·.size) = some o1.cells.toArray.size) := Lib.hid (by rw [size_op _ hin1.len]; exact info_op)
      have HON1 : Hid (o1.cells.toArray.all (·.oneCell') = true) := Lib.hid (all_oneCell_toArray (o1.cells_one (by obtain ⟨A, c, h1, _⟩ := hin1.ov; exact ⟨A, _, c, h1⟩)))
      have HM2 := Lib.hid (hm1.below HB2.out)
      have HI2 := Lib.hid (hI1.below HB2.out)
      have HIN1 := Lib.hid (hin1.below HB2.out)
      have r2 := (HB2.out.block B (Array.getElem?_eq_some_iff.1 rB1).1).trans rB1
      have HBL2 := Lib.hid (Array.getElem?_eq_some_iff.1 rB1).1
      have HR2 := Lib.hid r2
      have HBW := Lib.hid (hb1.trans (HB2.out.mono hb1.size))
      have HEQ1 := Lib.hid heq1
      clear hin1 heq1 hm1 hg1 hrow hI1 hBl rB1 hb1 hWa0 hW2
      go_wp2_with (first
        | (refine wpList_load_row rfl _ _ rfl _ rfl _ _ _ _ r2 Try.underlying48 rfl info_in ?_)
        | ((with_reducible (refine wpList_store_mid rfl _ _ _ rfl ?_ ?_ ?_ ?_ ?_ ?_ ?_ ?_ ?_)); (exact w1.heap.size); (exact 0); (exact o1.cells.toArray); (exact rfl); (exact rfl); (exact HTH.out); (exact HSZ1.out); (exact HON1.out); rw [HW2.out]))
      clear hWa r2
      refine (rget_any st _ W2 HI2.out).mono ?_
      rintro e w3 ⟨o2, u, rfl, hin2, hu, heq2, hb3⟩
      obtain ⟨A3, n3, c3, b3, rfl, hbo, hle⟩ := hu.form
      obtain ⟨rO, rQ, bx, sx⟩ := two_new w3 op0.cells.toArray #[.slice none 0 0, .bool false] 33 48
      obtain ⟨WX, hWX⟩ : ∃ W, (w3.alloc (.cells op0.cells.toArray 33)).alloc (.cells #[.slice none 0 0, .bool false] 48) = W := ⟨_, rfl⟩
      rw [hWX] at rO rQ bx sx
      have hWX' : (w3.alloc (.cells #[Value.int .i64 0, Value.int .i64 0, Value.int .i64 0, Value.int .i64 0, Value.int .i64 0, Value.int .i64 0, Value.int .i64 0, Value.string ⟨#[]⟩, Value.int .u8 0, Value.int .u8 0, Value.int .u8 0, Value.int .u8 0, Value.int .u8 0, Value.int .u8 0, Value.int .u8 0, Value.int .u8 0, Value.int .u8 0, Value.int .u8 0, Value.int .u8 0, Value.int .u8 0, Value.int .u8 0, Value.int .u8 0, Value.int .u8 0, Value.int .u8 0, Value.int .u8 0, Value.int .u8 0, Value.int .u8 0, Value.int .u8 0, Value.int .u8 0, Value.int .u8 0, Value.int .u8 0, Value.int .u8 0, Value.int .u8 0, Value.int .u8 0, Value.int .u8 0, Value.int .u8 0, Value.int .u8 0, Value.int .u8 0, Value.int .u8 0, Value.int .u8 0, Value.slice none 0 0] 33)).alloc (.cells #[.slice none 0 0, .bool false] 48) = WX := hWX
      obtain ⟨WB, hWB⟩ : ∃ W, WX.setCells w3.heap.size 0 o2.cells.toArray.toList = W := ⟨_, rfl⟩
      have gB := setCells_grown w3.heap.size o2.cells.toArray.toList 0 WX
      have rB : (WX.setCells w3.heap.size 0 o2.cells.toArray.toList).heap[w3.heap.size]? = some (.cells o2.cells.toArray 33 (0, 0)) := by simpa using row_setAll (cs := op0.cells) (vs := o2.cells) rO (by rw [o2.cells_len hin2.len]; rfl)
      rw [hWB] at gB rB
      have rI := (gB.block _ (by omega) (by simp)).trans rQ
      have HTB : Hid (WX.there w3.heap.size 0 o2.cells.toArray.size) := Lib.hid (there_mid rO 0 _ (by rw [size_op o2 hin2.len, size_op op0 rfl]; decide))
      have c0 : WB.cell? ⟨w3.heap.size + 1, 0, none⟩ = some (.slice none 0 0) := row_cell rI 0
      have c1 : WB.cell? ⟨w3.heap.size + 1, 1, none⟩ = some (.bool false) := row_cell rI 1
      have f0 := row_free rI 0
      have f1 := row_free rI 1
      obtain ⟨WC, hWC⟩ : ∃ W, (WB.setCell ⟨w3.heap.size + 1, 0, none⟩ (.slice A3 n3 c3)).setCell ⟨w3.heap.size + 1, 1, none⟩ (.bool b3) = W := ⟨_, rfl⟩
      have gC : WB.grownBy ((WB.setCell ⟨w3.heap.size + 1, 0, none⟩ (.slice A3 n3 c3)).setCell ⟨w3.heap.size + 1, 1, none⟩ (.bool b3)) (some (w3.heap.size + 1)) := grown_trans1 (grown_set _ 0 _) (grown_set _ 1 _)
      have rC := row_set2 rI (.slice A3 n3 c3) (.bool b3)
      rw [hWC] at gC rC
      have bAC : Below w3.heap.size w3 WC := bel_grown (bel_grown bx (by omega) gB (Nat.le_refl _)) (by have := gB.size; omega) gC (by omega)
      have rOC := (gC.block w3.heap.size (by have := gB.size; omega) (by simp)).trans rB
      have b2C := hb3.trans (bAC.mono hb3.size)
      have hB2 : B < W2.heap.size := (Array.getElem?_eq_some_iff.1 HR2.out).1
      have rBC := (b2C.block B hB2).trans HR2.out
      have o1C := (b2C.block w1.heap.size (Array.getElem?_eq_some_iff.1 HRS.out).1).trans HRS.out
      have hmC := HM2.out.below b2C
      have hiC := hu.below bAC
      have n1C := HIN1.out.below b2C
      have n2C := hin2.below bAC
      have z0 : WC.cell? ⟨B, 0, none⟩ = some (.slice A n c) := row_cell rBC 0
      have z1 : WC.cell? ⟨B, 1, none⟩ = some (.bool b) := row_cell rBC 1
      have z2 := row_free rBC 0
      have z3 := row_free rBC 1
      have gD : WC.grownBy ((WC.setCell ⟨B, 0, none⟩ (.slice A3 n3 c3)).setCell ⟨B, 1, none⟩ (.bool b3)) (some B) := grown_trans1 (grown_set _ 0 _) (grown_set _ 1 _)
      have HMD := Lib.hid (hmC.far2 rBC (by have := HL.out; omega) gD)
      have HID := Lib.hid (hiC.far_cells rBC (two_nb (slice_nb _ _ _) (bool_nb _)) gD)
      have HN1 := Lib.hid (n1C.far2 rBC gD)
      have HN2 := Lib.hid (n2C.far2 rBC gD)
      have HRBD := Lib.hid (row_set2 rBC (.slice A3 n3 c3) (.bool b3))
      have hlt1 : w1.heap.size < WC.heap.size := (Array.getElem?_eq_some_iff.1 o1C).1
      have hlt2 : w3.heap.size < WC.heap.size := (Array.getElem?_eq_some_iff.1 rOC).1
      have HO1 := Lib.hid ((gD.block w1.heap.size hlt1 (by have := HBL2.out; simp; omega)).trans o1C)
      have HO2 := Lib.hid ((gD.block w3.heap.size hlt2 (by have := hb3.size; simp; omega)).trans rOC)
      have hBC := HBW.out.trans (b2C.mono HBW.out.size)
      have HBD := Lib.hid (bel_set2 hBC hBC.size (g := B) (by have := HL.out; omega) (.slice A3 n3 c3) (.bool b3))
      have HWB := Lib.hid hWB
      have HSZ2 : Hid ((Try.prog.info? 33).map (·.size) = some o2.cells.toArray.size) := Lib.hid (by rw [size_op _ hin2.len]; exact info_op)
      have HSL1 : Hid ((Try.prog.info? 33).map (·.size) = some o1.cells.length) := Lib.hid (by rw [o1.cells_len HIN1.out.len]; exact info_op)
      have HSL2 : Hid ((Try.prog.info? 33).map (·.size) = some o2.cells.length) := Lib.hid (by rw [o2.cells_len hin2.len]; exact info_op)
      have HON2 : Hid (o2.cells.toArray.all (·.oneCell') = true) := Lib.hid (all_oneCell_toArray (o2.cells_one (by obtain ⟨A, c, h1, _⟩ := hin2.ov; exact ⟨A, _, c, h1⟩)))
      have HSM : Hid (sameO o1 o2 = true) := Lib.hid (by
        have h1 : sameO o1 o2 = sameO { o1 with ov := .slice none 0 0 } { o2 with ov := .slice none 0 0 } := rfl
        rw [h1, HEQ1.out, heq2]
        exact same_o1 _)
      have HBO := Lib.hid hbo
      have HLE := Lib.hid hle
      clear hu hin2 heq2 hb3 hbo hle rO rQ bx sx hWX hWB gB rB rI gC bAC rOC b2C hB2 rBC o1C hmC hiC n1C n2C gD hlt1 hlt2 hBC
      go_wp2_with (first
        | (refine wpList_load_row rfl _ _ rfl _ rfl _ _ _ _ rC Try.underlying48 rfl info_in ?_)
        | ((with_reducible (refine wpList_store_mid rfl _ _ _ rfl ?_ ?_ ?_ ?_ ?_ ?_ ?_ ?_ ?_)); (exact w3.heap.size); (exact 0); (exact o2.cells.toArray); (exact rfl); (exact rfl); (exact HTB.out); (exact HSZ2.out); (exact HON2.out); rw [HWB.out]))
      clear rC hWX' hWC c0 c1 f0 f1 z0 z1 z2 z3
      generalize (WC.setCell ⟨B, 0, none⟩ (.slice A3 n3 c3)).setCell ⟨B, 1, none⟩ (.bool b3) = WD at *
      have e0 : WD.cell? ⟨B, 0, none⟩ = some (.slice A3 n3 c3) := row_cell HRBD.out 0
      have e1 : WD.cell? ⟨B, 1, none⟩ = some (.bool b3) := row_cell HRBD.out 1
      have HDL : Hid (B < WD.heap.size ∧ w1.heap.size < WD.heap.size ∧ w3.heap.size < WD.heap.size) := Lib.hid ⟨(Array.getElem?_eq_some_iff.1 HRBD.out).1, (Array.getElem?_eq_some_iff.1 HO1.out).1, (Array.getElem?_eq_some_iff.1 HO2.out).1⟩
      have hgood := fun W h => good_any r _ W (HMD.out.below (w' := W) h)
      have hleft := fun W h => left_any r _ W (HMD.out.below (w' := W) h)
      rw [HBO.out] at hgood
      rw [HLE.out] at hleft
      have HG := Lib.hid hgood
      have HLF := Lib.hid hleft
      have HE0 := Lib.hid e0
      have HE1 := Lib.hid e1
      clear hgood hleft e0 e1
      cases b3
      all_goals
        refine wp_region_sched (fun w' => (w'.cell? ⟨B, 0, none⟩ = some (.slice A3 n3 c3) ∧ w'.cell? ⟨B, 1, none⟩ = some (.bool _)) ∧ Below WD.heap.size WD w')
          [(true, 0), (true, 1), (false, 2), (true, 3), (true, 4), (true, 5), (true, 7), (true, 8), (false, 6), (true, 9), (true, 10), (true, 11), (true, 12), (true, 14), (true, 15), (true, 16), (false, 13), (true, 17), (true, 18)] (by kernel_rfl) (by kernel_rfl) rfl (by kernel_rfl) ⟨⟨HE0.out, HE1.out⟩, (Below.refl _ _).drew⟩ ?_
        refine wpS_load _ rfl (by rfl) _ _ rfl _ _ rfl o1.cells _ (fun w' hS' => range_below (range_of_row HO1.out) HDL.out.2.1 hS'.2) Try.underlying33 rfl HSL1.out ?_
        simp only [Act.put, List.getElem_toArray, List.getElem_cons_zero, List.getElem_cons_succ, List.setIfInBounds_toArray, List.set_cons_zero, List.set_cons_succ]
        refine wpS_load _ rfl (by rfl) _ _ rfl _ _ rfl o2.cells _ (fun w' hS' => range_below (range_of_row HO2.out) HDL.out.2.2 hS'.2) Try.underlying33 rfl HSL2.out ?_
        simp only [Act.put, List.getElem_toArray, List.getElem_cons_zero, List.getElem_cons_succ, List.setIfInBounds_toArray, List.set_cons_zero, List.set_cons_succ]
        refine wpS_do _ rfl (by rfl) (fun K hK => ?_)
        go_simp
        refine (opsameR_any o1 o2 _ (HN1.out.below (Below.refl _ _).drew) (HN2.out.below (Below.refl _ _).drew)).mono ?_
        rintro e w7 ⟨rfl, hb7⟩
        have hb7' : Below WD.heap.size WD w7 := (Below.refl _ _).drew.trans hb7
        rw [HSM.out]
        have hS7 := And.intro (And.intro (cell_below HE0.out HDL.out.1 hb7') (cell_below HE1.out HDL.out.1 hb7')) hb7'
        refine hK.out _ _ hS7 (fun hS => ?_)
        clear hK hS
        (repeat (first | (refine wpS_pass _ rfl (by rfl) ?_; simp only [Act.put, List.getElem_toArray, List.getElem_cons_zero, List.getElem_cons_succ, List.setIfInBounds_toArray, List.set_cons_zero, List.set_cons_succ]) | (refine wpS_take _ ?_ rfl (by rfl) ?_ ?_; rotate_left; (focus (intro w' hS'; (try dsimp only at hS'); (repeat (have hS1 := hS'.1; replace hS' := hS'.2)); go_simp; (try with_reducible rfl); done)); simp only [Act.put, List.getElem_toArray, List.getElem_cons_zero, List.getElem_cons_succ, List.setIfInBounds_toArray, List.set_cons_zero, List.set_cons_succ])))
        refine wpS_do _ rfl (by rfl) (fun K hK => ?_)
        go_simp
        refine (HG.out w7 hb7').mono ?_
        rintro e w8 ⟨rfl, rfl⟩
        refine hK.out _ _ hS7 (fun hS => ?_)
        clear hK hS
        (repeat (first | (refine wpS_pass _ rfl (by rfl) ?_; simp only [Act.put, List.getElem_toArray, List.getElem_cons_zero, List.getElem_cons_succ, List.setIfInBounds_toArray, List.set_cons_zero, List.set_cons_succ]) | (refine wpS_take _ ?_ rfl (by rfl) ?_ ?_; rotate_left; (focus (intro w' hS'; (try dsimp only at hS'); (repeat (have hS1 := hS'.1; replace hS' := hS'.2)); go_simp; (try with_reducible rfl); done)); simp only [Act.put, List.getElem_toArray, List.getElem_cons_zero, List.getElem_cons_succ, List.setIfInBounds_toArray, List.set_cons_zero, List.set_cons_succ])))
        refine wpS_do _ rfl (by rfl) (fun K hK => ?_)
        go_simp
        refine (HLF.out w7 hb7').mono ?_
        rintro e w8 ⟨rfl, rfl⟩
        refine hK.out _ _ hS7 (fun hS => ?_)
        clear hK hS
        (repeat (first | (refine wpS_pass _ rfl (by rfl) ?_; simp only [Act.put, List.getElem_toArray, List.getElem_cons_zero, List.getElem_cons_succ, List.setIfInBounds_toArray, List.set_cons_zero, List.set_cons_succ]) | (refine wpS_take _ ?_ rfl (by rfl) ?_ ?_; rotate_left; (focus (intro w' hS'; (try dsimp only at hS'); (repeat (have hS1 := hS'.1; replace hS' := hS'.2)); go_simp; (try with_reducible rfl); done)); simp only [Act.put, List.getElem_toArray, List.getElem_cons_zero, List.getElem_cons_succ, List.setIfInBounds_toArray, List.set_cons_zero, List.set_cons_succ])))
        refine wpS_done ?_
        have e1 := hS7.1.2
        have HB7 := Lib.hid hb7'
        clear hS7 hb7 hb7'
        go_wp2_with fail
        first
          | (go_ret
             exact ⟨rfl, HBD.out.trans (HB7.out.mono HBD.out.size)⟩)
          | (go_roundg (50 - (k + 1))
             case measure => omega
             case rel => exact ⟨k + 1, _, A3, n3, c3, _, by omega, rfl, by first | rfl | exact congrArg (Value.int .i64) (by omega) | go_num, Lib.hid (HMD.out.below HB7.out), Lib.hid ((HB7.out.block B HDL.out.1).trans HRBD.out), Lib.hid (HID.out.below HB7.out), Lib.hid (HBD.out.trans (HB7.out.mono HBD.out.size))⟩)
    · have i1 : ¬ (k : Int) < 50 := by omega
      go_wp2_with fail
      go_ret
      exact ⟨rfl, HB.out⟩
end Go.Proofs.Ytabkgoandfpclaa
