
/- WireBounds: a Part. (Printed by wip/genWB.py.) -/

import Derived.Test.YtfjfidhhmidflaaLet21

import Derived.OwnWalk

namespace Go.Proofs.Ytfjfidhhmidflaa

set_option linter.unusedVariables false

set_option linter.unusedSimpArgs false

open Go.RowKit

def idOne : List UInt8 := 1 :: List.replicate 31 0
theorem idOne_cells : (b8s idOne).toArray = #[Value.int .u8 1, Value.int .u8 0, Value.int .u8 0, Value.int .u8 0, Value.int .u8 0, Value.int .u8 0, Value.int .u8 0, Value.int .u8 0, Value.int .u8 0, Value.int .u8 0, Value.int .u8 0, Value.int .u8 0, Value.int .u8 0, Value.int .u8 0, Value.int .u8 0, Value.int .u8 0, Value.int .u8 0, Value.int .u8 0, Value.int .u8 0, Value.int .u8 0, Value.int .u8 0, Value.int .u8 0, Value.int .u8 0, Value.int .u8 0, Value.int .u8 0, Value.int .u8 0, Value.int .u8 0, Value.int .u8 0, Value.int .u8 0, Value.int .u8 0, Value.int .u8 0, Value.int .u8 0] := by rfl
/-- a letter of a kind, and nothing else -/
def lK (k : Int) : Lt := ⟨k, 1, 2, 1, [], [], [], 0, 0, zeros32, []⟩
theorem lK_in (k : Int) (w : World) : LtIn w (lK k) p0 := (LI.start w 0 0 0 k 1 2 1 0 0).in_
def bP (m : Nat) : Lt := ⟨4, 1, 2, 1, [], [], [], 0, 498 + (m : Int), idOne, List.replicate (498 + m) 0⟩
theorem bP_right {m : Nat} (h : m ≤ 2) : rightL (bP m) = true := by
  have : m = 0 ∨ m = 1 ∨ m = 2 := by omega
  rcases this with rfl | rfl | rfl <;> decide +kernel
theorem bP_bad : rightL (bP 3) = false := by decide +kernel
theorem sameL_me (a : Lt) : sameL a a = true := (sameL_iff a a).2 rfl
theorem made_zero (n : Nat) : (madeCells #[Value.int .u8 0] n).toList = b8s (List.replicate n 0) := by
  apply List.ext_getElem
  · simp [madeCells, b8s]
  · intro i h1 h2
    simp [madeCells, b8s, Nat.mod_one]

set_option maxRecDepth 100000 in
set_option maxHeartbeats 8000000 in
theorem wireBounds_4t (n kd : Int) (x1 m : Nat) (w : World) (ex : bits .and .i64 kd 1023 = (x1 : Int)) (h3 : x1 % 3 = 2) (hm : m ≤ 2) (em : bits .and .i64 n 3 = (m : Int)) :
    Calls Try.prog 6 #[.int .i64 n, .int .i64 kd] w fun e w' => e = .returned (.bool true) ∧ Below w.heap.size w w' := by
  have hx : (x1 : Int) % 3 = 2 := by omega
  go_enter Try.func6, Try.ntmps6
  go_wp2_with fail
  refine (alive_any w).mono ?_
  rintro e w2 ⟨rfl, hb2⟩
  have HB2 := Lib.hid hb2
  clear h3
  obtain ⟨WA, hWA⟩ : ∃ W, w2.alloc (.cells #[Value.int .i64 0, Value.int .i64 0, Value.int .i64 0, Value.int .i64 0, Value.slice none 0 0, Value.slice none 0 0, Value.slice none 0 0, Value.int .i64 0, Value.int .i64 0, Value.int .u8 0, Value.int .u8 0, Value.int .u8 0, Value.int .u8 0, Value.int .u8 0, Value.int .u8 0, Value.int .u8 0, Value.int .u8 0, Value.int .u8 0, Value.int .u8 0, Value.int .u8 0, Value.int .u8 0, Value.int .u8 0, Value.int .u8 0, Value.int .u8 0, Value.int .u8 0, Value.int .u8 0, Value.int .u8 0, Value.int .u8 0, Value.int .u8 0, Value.int .u8 0, Value.int .u8 0, Value.int .u8 0, Value.int .u8 0, Value.int .u8 0, Value.int .u8 0, Value.int .u8 0, Value.int .u8 0, Value.int .u8 0, Value.int .u8 0, Value.int .u8 0, Value.int .u8 0, Value.slice none 0 0] 28) = W := ⟨_, rfl⟩
  obtain ⟨qa, ba, sa⟩ := new_row hWA
  rw [← lt0_cells] at qa
  obtain ⟨g, hg⟩ : ∃ g, w2.heap.size = g := ⟨_, rfl⟩
  rw [hg] at qa
  obtain ⟨WB, hWB, HTHB, HRB, HBB', _, _⟩ := let_write (q := p0) (m := lK 4) qa rfl rfl ba ba.size (Nat.le_of_eq hg)
  have HWB := Lib.hid hWB
  have HBB : Hid (Below w2.heap.size w2 WB) := HBB'
  have HILB := Lib.hid (info_leta (lK 4) p0 rfl)
  have HOLB := Lib.hid (all_oneCell_toArray ((lK 4).cells_one p0))
  have HGL := Lib.hid (Nat.le_of_eq hg)
  have k0 : WB.cell? ⟨g, 0, none⟩ = some (.int .i64 4) := row_cell HRB.out 0
  have gr := setCells_grown g (b8s idOne) 9 WB
  obtain ⟨WC, hWC⟩ : ∃ W, WB.setCells g 9 (b8s idOne).toArray.toList = W := ⟨_, rfl⟩
  have hWC' : WB.setCells g 9 (b8s idOne) = WC := hWC
  have hrc := row_pack (t := 28) (p := p0) HRB.out idOne rfl
  rw [hWC'] at hrc gr
  have HRC := Lib.hid hrc
  have HBC : Hid (Below w2.heap.size w2 WC) := Lib.hid (bel_grown HBB.out HBB.out.size gr HGL.out)
  have HWC := Lib.hid hWC
  have HTP : Hid (WB.there g 9 (b8s idOne).toArray.size) := Lib.hid (fun j hj => by
    rw [List.size_toArray, b8s_length] at hj
    have hj' : j < 32 := hj
    refine ⟨?_, row_free HRB.out _⟩
    rw [row_cell HRB.out, Array.getElem?_eq_getElem (by rw [List.size_toArray, Lt.cells_len _ _ rfl]; omega)]
    rfl)
  have HIP := Lib.hid (info_id32' idOne rfl).2
  have hm3 : (m : Int) ≤ 3 := by omega
  obtain ⟨L, hL⟩ : ∃ L : Nat, 498 + m = L := ⟨_, rfl⟩
  have hLI : 498 + (m : Int) = (L : Int) := by omega
  obtain ⟨iu, hi, hz0, hz1, hz2⟩ := info_parts info_u8
  clear qa ba sa hWB HBB' gr hWC hWC' hrc
  go_wp2_with (first
    | ((with_reducible (refine wpList_store_mid rfl _ _ _ rfl ?_ ?_ ?_ ?_ ?_ ?_ ?_ ?_ ?_)); (exact g); (exact 0); (exact ((lK 4).cells p0).toArray); (exact rfl); (exact rfl); (exact HTHB.out); (exact HILB.out); (exact HOLB.out); rw [HWB.out])
    | ((with_reducible (refine wpList_store_mid rfl _ _ _ rfl ?_ ?_ ?_ ?_ ?_ ?_ ?_ ?_ ?_)); (exact g); (exact 9); (exact (b8s idOne).toArray); (exact rfl); (exact rfl); (exact HTP.out); (exact HIP.out); (exact all_oneCell_toArray (b8s_one' _)); rw [HWC.out])
    | (at_make; refine wpList_make_full WC rfl _ _ _ rfl w2.heap.size 5 iu _ 1 Try.underlying26 hi hz0 hz1 .i64 .i64 _ _ L rfl rfl rfl rfl (by rw [hz2]; omega) (by unfold maxLen; omega) HBC.out.size ?_))
  intro w5 hown hgr
  rw [made_zero] at hown
  have hb5 := grown_none hgr
  have hrd := own_rd hown
  have hr5 := (hb5.block g (Array.getElem?_eq_some_iff.1 HRC.out).1).trans HRC.out
  have c41 : w5.cell? ⟨g, 41, none⟩ = some (.slice none 0 0) := row_cell hr5 41
  have f41 := row_free hr5 41
  obtain ⟨HS, hHS⟩ : ∃ H, WC.heap.size = H := ⟨_, rfl⟩
  have hgH : g < HS := by have := (Array.getElem?_eq_some_iff.1 HRC.out).1; omega
  obtain ⟨W6, hW6⟩ : ∃ W, w5.setCell ⟨g, 41, none⟩ (.slice (some ⟨HS, 0, none⟩) L L) = W := ⟨_, rfl⟩
  have hr6 := row_data (p := p0) hr5 rfl (some ⟨HS, 0, none⟩) L (List.replicate L 0)
  have e6 : (List.replicate L (0 : UInt8)).length = L := List.length_replicate
  rw [e6, hW6] at hr6
  have g6 := grown_set (w := w5) g 41 (.slice (some ⟨HS, 0, none⟩) L L)
  rw [hW6] at g6
  have c8 : W6.cell? ⟨g, 8, none⟩ = some (.int .i64 0) := row_cell hr6 8
  have f8 := row_free hr6 8
  obtain ⟨W7, hW7⟩ : ∃ W, W6.setCell ⟨g, 8, none⟩ (.int .i64 (L : Int)) = W := ⟨_, rfl⟩
  have hr7 := row_total hr6 (L : Int)
  rw [hW7] at hr7
  have g7 := grown_set (w := W6) g 8 (.int .i64 (L : Int))
  rw [hW7] at g7
  have hb7 : Below w2.heap.size w2 W7 := bel_grown (HBC.out.trans (hb5.mono HBC.out.size)) (Nat.le_trans HBC.out.size hb5.size) (grown_trans1 g6 g7) HGL.out
  have HB27 := Lib.hid hb7
  have hrd7 : Rd W7 (some ⟨HS, 0, none⟩) (b8s (List.replicate L 0)) := by
    rw [hHS] at hrd
    have h1 := hrd.setCell (p := ⟨g, 41, none⟩) (fun ad e => by cases e; show HS ≠ g; omega) (.slice (some ⟨HS, 0, none⟩) L L)
    rw [hW6] at h1
    have h2 := h1.setCell (p := ⟨g, 8, none⟩) (fun ad e => by cases e; show HS ≠ g; omega) (.int .i64 (L : Int))
    rwa [hW7] at h2
  have hLL : (⟨4, 1, 2, 1, [], [], [], 0, (L : Int), idOne, List.replicate L 0⟩ : Lt) = bP m := by unfold bP; rw [hL, hLI]
  have HR7 : Hid (W7.heap[g]? = some (.cells ((bP m).cells ⟨none, 0, none, 0, none, 0, some ⟨HS, 0, none⟩, L⟩).toArray 28 (0, 0))) := Lib.hid (hLL ▸ hr7)
  have HIN7 : Hid (LtIn W7 (bP m) ⟨none, 0, none, 0, none, 0, some ⟨HS, 0, none⟩, L⟩) := Lib.hid (by
    have h := lK_in 4 W7
    rw [← hLL]
    exact ⟨rfl, h.rok, h.wok, h.hok, h.rr, h.wr, h.hr, ⟨hrd7, Nat.le_of_eq e6, by show L ≤ _; omega⟩⟩)
  have HTT : Hid (-9223372036854775808 ≤ (bP m).total ∧ (bP m).total ≤ 9223372036854775807) := Lib.hid (by
    constructor
    · show -9223372036854775808 ≤ 498 + (m : Int); omega
    · show 498 + (m : Int) ≤ 9223372036854775807; omega)
  have HIL7 := Lib.hid (info_leta (bP m) ⟨none, 0, none, 0, none, 0, some ⟨HS, 0, none⟩, L⟩ rfl)
  have HR := Lib.hid (bP_right hm)
  have hmo : ¬ (500 : Int) < (L : Int) := by omega
  clear hown hgr hrd hr5 hr6 hr7 g6 g7 hb7 hrd7 hLL hb5 hgH e6
  go_wp2_with ((with_reducible (refine wpList_load_row_w _ _ rfl _ rfl _ _ _ _ HR7.out Try.underlying28 rfl HIL7.out ?_ ?_)); (focus (rfl)))
  refine (write_ok (bP m) _ W7 HIN7.out HTT.out HR.out).mono ?_
  rintro e w8 ⟨v8, rfl, hs8, hb8⟩
  have HRD := Lib.hid (read_s v8 _ w8 hs8)
  rw [read_write (bP m) HR.out HIN7.out.lok] at HRD
  have HB8 := Lib.hid hb8
  clear hs8 hb8
  go_wp2_with fail
  refine HRD.out.mono ?_
  rintro e w9 ⟨q, rfl, hin9, hb9⟩
  obtain ⟨WX, hWX⟩ : ∃ W, w9.alloc (.cells #[Value.int .i64 0, Value.int .i64 0, Value.int .i64 0, Value.int .i64 0, Value.slice none 0 0, Value.slice none 0 0, Value.slice none 0 0, Value.int .i64 0, Value.int .i64 0, Value.int .u8 0, Value.int .u8 0, Value.int .u8 0, Value.int .u8 0, Value.int .u8 0, Value.int .u8 0, Value.int .u8 0, Value.int .u8 0, Value.int .u8 0, Value.int .u8 0, Value.int .u8 0, Value.int .u8 0, Value.int .u8 0, Value.int .u8 0, Value.int .u8 0, Value.int .u8 0, Value.int .u8 0, Value.int .u8 0, Value.int .u8 0, Value.int .u8 0, Value.int .u8 0, Value.int .u8 0, Value.int .u8 0, Value.int .u8 0, Value.int .u8 0, Value.int .u8 0, Value.int .u8 0, Value.int .u8 0, Value.int .u8 0, Value.int .u8 0, Value.int .u8 0, Value.int .u8 0, Value.slice none 0 0] 28) = W := ⟨_, rfl⟩
  obtain ⟨qx, bx, sx⟩ := new_row hWX
  rw [← lt0_cells] at qx
  obtain ⟨gx, hgx⟩ : ∃ g, w9.heap.size = g := ⟨_, rfl⟩
  rw [hgx] at qx
  obtain ⟨WY, hWY, HTHx, HRx, HBx, _, _⟩ := let_write (q := q) (m := bP m) qx rfl rfl bx bx.size (Nat.le_of_eq hgx)
  have HWY := Lib.hid hWY
  have HBY : Hid (Below w9.heap.size w9 WY) := HBx
  have HILx := Lib.hid (info_leta (bP m) q rfl)
  have HOLx := Lib.hid (all_oneCell_toArray ((bP m).cells_one q))
  have HB7Y := Lib.hid (ext_trans HB8.out (ext_trans hb9 HBY.out))
  have HRL := Lib.hid ((HB7Y.out.block g (Array.getElem?_eq_some_iff.1 HR7.out).1).trans HR7.out)
  have HINx := Lib.hid (hin9.below HBY.out)
  have HINg := Lib.hid (HIN7.out.below HB7Y.out)
  clear qx bx sx hWY HBx hin9 hb9 HRD
  go_wp2_with (first
    | ((with_reducible (refine wpList_store_mid rfl _ _ _ rfl ?_ ?_ ?_ ?_ ?_ ?_ ?_ ?_ ?_)); (exact gx); (exact 0); (exact ((bP m).cells q).toArray); (exact rfl); (exact rfl); (exact HTHx.out); (exact HILx.out); (exact HOLx.out); rw [HWY.out])
    | ((with_reducible (refine wpList_load_row_w _ _ rfl _ rfl _ _ _ _ HRL.out Try.underlying28 rfl HIL7.out ?_ ?_)); (focus (rfl)))
    | ((with_reducible (refine wpList_load_row_w _ _ rfl _ rfl _ _ _ _ HRx.out Try.underlying28 rfl HILx.out ?_ ?_)); (focus (rfl))))
  clear hWX hgx
  refine (lsame_any (bP m) (bP m) q _ WY HINx.out HINg.out).mono ?_
  rintro e w12 ⟨rfl, hb12⟩
  rw [sameL_me]
  go_wp2_with fail
  go_ret
  exact ⟨rfl, ext_trans HB2.out (ext_trans HB27.out (ext_trans HB7Y.out hb12))⟩

set_option maxRecDepth 100000 in
set_option maxHeartbeats 8000000 in
theorem wireBounds_4f (n kd : Int) (x1 m : Nat) (w : World) (ex : bits .and .i64 kd 1023 = (x1 : Int)) (h3 : x1 % 3 = 2) (hm : 2 < m ∧ m ≤ 3) (em : bits .and .i64 n 3 = (m : Int)) :
    Calls Try.prog 6 #[.int .i64 n, .int .i64 kd] w fun e w' => e = .returned (.bool true) ∧ Below w.heap.size w w' := by
  have hx : (x1 : Int) % 3 = 2 := by omega
  go_enter Try.func6, Try.ntmps6
  go_wp2_with fail
  refine (alive_any w).mono ?_
  rintro e w2 ⟨rfl, hb2⟩
  have HB2 := Lib.hid hb2
  clear h3
  obtain ⟨WA, hWA⟩ : ∃ W, w2.alloc (.cells #[Value.int .i64 0, Value.int .i64 0, Value.int .i64 0, Value.int .i64 0, Value.slice none 0 0, Value.slice none 0 0, Value.slice none 0 0, Value.int .i64 0, Value.int .i64 0, Value.int .u8 0, Value.int .u8 0, Value.int .u8 0, Value.int .u8 0, Value.int .u8 0, Value.int .u8 0, Value.int .u8 0, Value.int .u8 0, Value.int .u8 0, Value.int .u8 0, Value.int .u8 0, Value.int .u8 0, Value.int .u8 0, Value.int .u8 0, Value.int .u8 0, Value.int .u8 0, Value.int .u8 0, Value.int .u8 0, Value.int .u8 0, Value.int .u8 0, Value.int .u8 0, Value.int .u8 0, Value.int .u8 0, Value.int .u8 0, Value.int .u8 0, Value.int .u8 0, Value.int .u8 0, Value.int .u8 0, Value.int .u8 0, Value.int .u8 0, Value.int .u8 0, Value.int .u8 0, Value.slice none 0 0] 28) = W := ⟨_, rfl⟩
  obtain ⟨qa, ba, sa⟩ := new_row hWA
  rw [← lt0_cells] at qa
  obtain ⟨g, hg⟩ : ∃ g, w2.heap.size = g := ⟨_, rfl⟩
  rw [hg] at qa
  obtain ⟨WB, hWB, HTHB, HRB, HBB', _, _⟩ := let_write (q := p0) (m := lK 4) qa rfl rfl ba ba.size (Nat.le_of_eq hg)
  have HWB := Lib.hid hWB
  have HBB : Hid (Below w2.heap.size w2 WB) := HBB'
  have HILB := Lib.hid (info_leta (lK 4) p0 rfl)
  have HOLB := Lib.hid (all_oneCell_toArray ((lK 4).cells_one p0))
  have HGL := Lib.hid (Nat.le_of_eq hg)
  have k0 : WB.cell? ⟨g, 0, none⟩ = some (.int .i64 4) := row_cell HRB.out 0
  have gr := setCells_grown g (b8s idOne) 9 WB
  obtain ⟨WC, hWC⟩ : ∃ W, WB.setCells g 9 (b8s idOne).toArray.toList = W := ⟨_, rfl⟩
  have hWC' : WB.setCells g 9 (b8s idOne) = WC := hWC
  have hrc := row_pack (t := 28) (p := p0) HRB.out idOne rfl
  rw [hWC'] at hrc gr
  have HRC := Lib.hid hrc
  have HBC : Hid (Below w2.heap.size w2 WC) := Lib.hid (bel_grown HBB.out HBB.out.size gr HGL.out)
  have HWC := Lib.hid hWC
  have HTP : Hid (WB.there g 9 (b8s idOne).toArray.size) := Lib.hid (fun j hj => by
    rw [List.size_toArray, b8s_length] at hj
    have hj' : j < 32 := hj
    refine ⟨?_, row_free HRB.out _⟩
    rw [row_cell HRB.out, Array.getElem?_eq_getElem (by rw [List.size_toArray, Lt.cells_len _ _ rfl]; omega)]
    rfl)
  have HIP := Lib.hid (info_id32' idOne rfl).2
  have hm3 : (m : Int) ≤ 3 := by omega
  obtain ⟨L, hL⟩ : ∃ L : Nat, 498 + m = L := ⟨_, rfl⟩
  have hLI : 498 + (m : Int) = (L : Int) := by omega
  obtain ⟨iu, hi, hz0, hz1, hz2⟩ := info_parts info_u8
  clear qa ba sa hWB HBB' gr hWC hWC' hrc
  go_wp2_with (first
    | ((with_reducible (refine wpList_store_mid rfl _ _ _ rfl ?_ ?_ ?_ ?_ ?_ ?_ ?_ ?_ ?_)); (exact g); (exact 0); (exact ((lK 4).cells p0).toArray); (exact rfl); (exact rfl); (exact HTHB.out); (exact HILB.out); (exact HOLB.out); rw [HWB.out])
    | ((with_reducible (refine wpList_store_mid rfl _ _ _ rfl ?_ ?_ ?_ ?_ ?_ ?_ ?_ ?_ ?_)); (exact g); (exact 9); (exact (b8s idOne).toArray); (exact rfl); (exact rfl); (exact HTP.out); (exact HIP.out); (exact all_oneCell_toArray (b8s_one' _)); rw [HWC.out])
    | (at_make; refine wpList_make_full WC rfl _ _ _ rfl w2.heap.size 5 iu _ 1 Try.underlying26 hi hz0 hz1 .i64 .i64 _ _ L rfl rfl rfl rfl (by rw [hz2]; omega) (by unfold maxLen; omega) HBC.out.size ?_))
  intro w5 hown hgr
  rw [made_zero] at hown
  have hb5 := grown_none hgr
  have hrd := own_rd hown
  have hr5 := (hb5.block g (Array.getElem?_eq_some_iff.1 HRC.out).1).trans HRC.out
  have c41 : w5.cell? ⟨g, 41, none⟩ = some (.slice none 0 0) := row_cell hr5 41
  have f41 := row_free hr5 41
  obtain ⟨HS, hHS⟩ : ∃ H, WC.heap.size = H := ⟨_, rfl⟩
  have hgH : g < HS := by have := (Array.getElem?_eq_some_iff.1 HRC.out).1; omega
  obtain ⟨W6, hW6⟩ : ∃ W, w5.setCell ⟨g, 41, none⟩ (.slice (some ⟨HS, 0, none⟩) L L) = W := ⟨_, rfl⟩
  have hr6 := row_data (p := p0) hr5 rfl (some ⟨HS, 0, none⟩) L (List.replicate L 0)
  have e6 : (List.replicate L (0 : UInt8)).length = L := List.length_replicate
  rw [e6, hW6] at hr6
  have g6 := grown_set (w := w5) g 41 (.slice (some ⟨HS, 0, none⟩) L L)
  rw [hW6] at g6
  have c8 : W6.cell? ⟨g, 8, none⟩ = some (.int .i64 0) := row_cell hr6 8
  have f8 := row_free hr6 8
  obtain ⟨W7, hW7⟩ : ∃ W, W6.setCell ⟨g, 8, none⟩ (.int .i64 (L : Int)) = W := ⟨_, rfl⟩
  have hr7 := row_total hr6 (L : Int)
  rw [hW7] at hr7
  have g7 := grown_set (w := W6) g 8 (.int .i64 (L : Int))
  rw [hW7] at g7
  have hb7 : Below w2.heap.size w2 W7 := bel_grown (HBC.out.trans (hb5.mono HBC.out.size)) (Nat.le_trans HBC.out.size hb5.size) (grown_trans1 g6 g7) HGL.out
  have HB27 := Lib.hid hb7
  have hrd7 : Rd W7 (some ⟨HS, 0, none⟩) (b8s (List.replicate L 0)) := by
    rw [hHS] at hrd
    have h1 := hrd.setCell (p := ⟨g, 41, none⟩) (fun ad e => by cases e; show HS ≠ g; omega) (.slice (some ⟨HS, 0, none⟩) L L)
    rw [hW6] at h1
    have h2 := h1.setCell (p := ⟨g, 8, none⟩) (fun ad e => by cases e; show HS ≠ g; omega) (.int .i64 (L : Int))
    rwa [hW7] at h2
  have hLL : (⟨4, 1, 2, 1, [], [], [], 0, (L : Int), idOne, List.replicate L 0⟩ : Lt) = bP m := by unfold bP; rw [hL, hLI]
  have HR7 : Hid (W7.heap[g]? = some (.cells ((bP m).cells ⟨none, 0, none, 0, none, 0, some ⟨HS, 0, none⟩, L⟩).toArray 28 (0, 0))) := Lib.hid (hLL ▸ hr7)
  have HIN7 : Hid (LtIn W7 (bP m) ⟨none, 0, none, 0, none, 0, some ⟨HS, 0, none⟩, L⟩) := Lib.hid (by
    have h := lK_in 4 W7
    rw [← hLL]
    exact ⟨rfl, h.rok, h.wok, h.hok, h.rr, h.wr, h.hr, ⟨hrd7, Nat.le_of_eq e6, by show L ≤ _; omega⟩⟩)
  have HTT : Hid (-9223372036854775808 ≤ (bP m).total ∧ (bP m).total ≤ 9223372036854775807) := Lib.hid (by
    constructor
    · show -9223372036854775808 ≤ 498 + (m : Int); omega
    · show 498 + (m : Int) ≤ 9223372036854775807; omega)
  have HIL7 := Lib.hid (info_leta (bP m) ⟨none, 0, none, 0, none, 0, some ⟨HS, 0, none⟩, L⟩ rfl)
  have HR : Hid (rightL (bP m) = false) := Lib.hid (by rw [show m = 3 by omega]; exact bP_bad)
  have hmo : (500 : Int) < (L : Int) := by omega
  clear hown hgr hrd hr5 hr6 hr7 g6 g7 hb7 hrd7 hLL hb5 hgH e6
  go_wp2_with ((with_reducible (refine wpList_load_row_w _ _ rfl _ rfl _ _ _ _ HR7.out Try.underlying28 rfl HIL7.out ?_ ?_)); (focus (rfl)))
  refine (write_bad (bP m) _ W7 HIN7.out HTT.out HR.out).mono ?_
  rintro e w8 ⟨rfl, hb8⟩
  have HRL := Lib.hid ((hb8.block g (Array.getElem?_eq_some_iff.1 HR7.out).1).trans HR7.out)
  have HIN8 := Lib.hid (HIN7.out.below hb8)
  have HB8 := Lib.hid hb8
  clear hb8
  go_wp2_with ((with_reducible (refine wpList_load_row_w _ _ rfl _ rfl _ _ _ _ HRL.out Try.underlying28 rfl HIL7.out ?_ ?_)); (focus (rfl)))
  refine (lright_any (bP m) _ w8 HIN8.out HTT.out).mono ?_
  rintro e w9 ⟨rfl, hb9⟩
  rw [HR.out]
  go_wp2_with fail
  go_ret
  exact ⟨rfl, ext_trans HB2.out (ext_trans HB27.out (ext_trans HB8.out hb9))⟩
end Go.Proofs.Ytfjfidhhmidflaa
