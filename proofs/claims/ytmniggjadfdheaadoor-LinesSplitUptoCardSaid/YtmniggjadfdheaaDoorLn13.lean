
/- The law's alive. -/

import Derived.Test.YtmniggjadfdheaaDoorLn12

import Derived.Test.YtmniggjadfdheaaDoorLn10

namespace Go.Proofs.YtmniggjadfdheaaDoor

set_option linter.unusedVariables false

set_option linter.unusedSimpArgs false

set_option linter.unusedSectionVars false

open Go.RowKit

def lA : ByteArray := ⟨#[97]⟩
def lB : ByteArray := ⟨#[98]⟩
def lC : ByteArray := ⟨#[99]⟩
def lD : ByteArray := ⟨#[100]⟩
def exS : List EdM := [⟨0, lA⟩, ⟨1, lB⟩, ⟨0, lC⟩, ⟨2, lD⟩]
theorem ex_bk : tidyP (bkE [lA, lB, lC] [lA, lC, lD] 2 3 0).reverse = exS := by decide +kernel
theorem ex_diff : diffS [lA, lB, lC] [lA, lC, lD] = exS := by
  have h : levL [lA, lB, lC] [lA, lC, lD] = 2 := by
    unfold levL
    have h1 : ¬ lA = lC := by decide +kernel
    have h2 : ¬ lA = lD := by decide +kernel
    have h3 : ¬ lB = lA := by decide +kernel
    have h4 : ¬ lB = lC := by decide +kernel
    have h5 : ¬ lB = lD := by decide +kernel
    have h6 : ¬ lC = lA := by decide +kernel
    have h7 : ¬ lC = lD := by decide +kernel
    simp [lev, h1, h2, h3, h4, h5, h6, h7]
  unfold diffS rawS
  rw [h]
  exact ex_bk
theorem ex_patch : patchP [lA, lB, lC] exS = ([lA, lC, lD], 0) := by decide +kernel
theorem ex_cost : costE exS = 2 := by decide +kernel
theorem ex_text : textB exS = [32, 97, 10, 45, 98, 10, 32, 99, 10, 43, 100, 10] := by decide +kernel
theorem ex_split : splitP ⟨([97, 10, 98] : List UInt8).toArray⟩ = [⟨#[97, 10]⟩, ⟨#[98]⟩] := by decide +kernel

set_option maxRecDepth 100000 in
set_option maxHeartbeats 8000000 in
theorem alive_any (w : World) : Calls Tryd.prog 9 #[] w fun e w' => e = .returned (.bool true) ∧ Below w.heap.size w w' := by
  obtain ⟨W1, hW1⟩ : ∃ W, w.alloc (.cells #[.string ⟨#[97]⟩, .string ⟨#[98]⟩, .string ⟨#[99]⟩] 9) = W := ⟨_, rfl⟩
  obtain ⟨r1, b1, s1⟩ := new_row hW1
  obtain ⟨W2, hW2⟩ : ∃ W, W1.alloc (.cells #[.string ⟨#[97]⟩, .string ⟨#[99]⟩, .string ⟨#[100]⟩] 9) = W := ⟨_, rfl⟩
  obtain ⟨r2, b2, s2⟩ := new_row hW2
  have R1 : Hid (Rd W2 (some ⟨w.heap.size, 0, none⟩) (sts [lA, lB, lC])) := Lib.hid ((range_rd (range_of_row (cs := sts [lA, lB, lC]) r1)).below b2)
  have R2 : Hid (Rd W2 (some ⟨W1.heap.size, 0, none⟩) (sts [lA, lC, lD])) := Lib.hid (range_rd (range_of_row (cs := sts [lA, lC, lD]) r2))
  have B2 : Hid (Below w.heap.size w W2) := Lib.hid (ext_trans b1 b2)
  have HDF := Lib.hid (diff_any _ _ [lA, lB, lC] [lA, lC, lD] 3 3 W2 R1.out R2.out (by decide) (by decide))
  clear r1 b1 s1 r2 b2 s2
  go_enter Tryd.func9, Tryd.ntmps9
  go_wp2_with fail
  refine HDF.out.mono ?_
  rintro e w3 ⟨A3, c3, rfl, ho3, hb3⟩
  rw [ex_diff] at ho3 ⊢
  obtain ⟨g3, rfl⟩ : ∃ g, A3 = some ⟨g, 0, none⟩ := by
    rcases ho3.2 with ⟨_, h0⟩ | ⟨g, cap, cur, hv, _⟩
    · exact absurd h0 (by decide)
    · injection hv with h1 _ _; exact ⟨g, h1⟩
  have HR3 : Hid (Rd w3 (some ⟨g3, 0, none⟩) (edc exS)) := Lib.hid (own_rd ho3)
  have HB3 : Hid (Below w.heap.size w w3) := Lib.hid (ext_trans B2.out hb3)
  clear ho3 hb3 hW1 hW2
  rw [show exS.length = 4 from rfl]
  obtain ⟨W4, hW4⟩ : ∃ W, w3.alloc (.cells #[.string ⟨#[97]⟩, .string ⟨#[98]⟩, .string ⟨#[99]⟩] 9) = W := ⟨_, rfl⟩
  obtain ⟨r4, b4, s4⟩ := new_row hW4
  have R4 : Hid (Rd W4 (some ⟨w3.heap.size, 0, none⟩) (sts [lA, lB, lC])) := Lib.hid (range_rd (range_of_row (cs := sts [lA, lB, lC]) r4))
  have HR4 : Hid (Rd W4 (some ⟨g3, 0, none⟩) (edc exS)) := Lib.hid (HR3.out.below b4)
  have HB4 : Hid (Below w.heap.size w W4) := Lib.hid (ext_trans HB3.out b4)
  clear r4 b4 s4
  go_wp2_with fail
  refine (patch_any (some ⟨w3.heap.size, 0, none⟩) (some ⟨g3, 0, none⟩) [lA, lB, lC] exS 3 c3 W4 R4.out HR4.out (by decide) (by decide) (by decide)).mono ?_
  rintro e w5 ⟨A5, n5, c5, rfl, hn5, hnc5, hc5, hr5, hb5⟩
  rw [ex_patch] at hn5 hr5 ⊢
  replace hn5 : n5 = 3 := hn5
  subst hn5
  have HR5 : Hid (Rd w5 (some ⟨g3, 0, none⟩) (edc exS)) := Lib.hid (HR4.out.below hb5)
  have HP5 : Hid (Rd w5 A5 (sts [lA, lC, lD])) := Lib.hid hr5
  have HB5 : Hid (Below w.heap.size w w5) := Lib.hid (ext_trans HB4.out hb5)
  have HRS : Hid (w5.rangeAt g3 2 [.int .i64 1, .string ⟨#[98]⟩]) := Lib.hid (rd_ed HR5.out 1 (by decide))
  clear hr5 hb5 hW4
  obtain ⟨W6, hW6⟩ : ∃ W, w5.alloc (.cells #[.string ⟨#[97]⟩, .string ⟨#[99]⟩, .string ⟨#[100]⟩] 9) = W := ⟨_, rfl⟩
  obtain ⟨r6, b6, s6⟩ := new_row hW6
  have R6 : Hid (Rd W6 (some ⟨w5.heap.size, 0, none⟩) (sts [lA, lC, lD])) := Lib.hid (range_rd (range_of_row (cs := sts [lA, lC, lD]) r6))
  have HR6 : Hid (Rd W6 (some ⟨g3, 0, none⟩) (edc exS)) := Lib.hid (HR5.out.below b6)
  have HP6 : Hid (Rd W6 A5 (sts [lA, lC, lD])) := Lib.hid (HP5.out.below b6)
  have HB6 : Hid (Below w.heap.size w W6) := Lib.hid (ext_trans HB5.out b6)
  clear r6 b6 s6
  go_wp2_with ((with_reducible (refine wpList_load_cells 36 _ g3 2 ([.int .i64 1, .string ⟨#[98]⟩]) HRS.out Tryd.underlying36 rfl info_ed ?_ rfl ?_ ?_)); (exact rfl); (exact rfl))
  refine (texts_any A5 (some ⟨w5.heap.size, 0, none⟩) [lA, lC, lD] [lA, lC, lD] c5 3 W6 HP6.out R6.out (by decide) (by decide)).mono ?_
  rintro e w7 ⟨rfl, hb7⟩
  rw [show decide ([lA, lC, lD] = [lA, lC, lD]) = true from decide_eq_true rfl]
  have HR7 : Hid (Rd w7 (some ⟨g3, 0, none⟩) (edc exS)) := Lib.hid (HR6.out.below hb7)
  have HB7 : Hid (Below w.heap.size w w7) := Lib.hid (ext_trans HB6.out hb7)
  clear hb7 hW6 hnc5 hc5
  go_wp2_with fail
  refine (cost_any (some ⟨g3, 0, none⟩) exS c3 w7 HR7.out (by decide)).mono ?_
  rintro e w8 ⟨rfl, hb8⟩
  rw [ex_cost]
  have HR8 : Hid (Rd w8 (some ⟨g3, 0, none⟩) (edc exS)) := Lib.hid (HR7.out.below hb8)
  have HB8 : Hid (Below w.heap.size w w8) := Lib.hid (ext_trans HB7.out hb8)
  clear hb8
  go_wp2_with fail
  refine (text_any' (some ⟨g3, 0, none⟩) exS c3 w8 HR8.out (by decide) (by rw [ex_text]; decide)).mono ?_
  rintro e w9 ⟨rfl, hb9⟩
  rw [ex_text]
  have HR9 : Hid (Rd w9 (some ⟨g3, 0, none⟩) (edc exS)) := Lib.hid (HR8.out.below hb9)
  have HB9 : Hid (Below w.heap.size w w9) := Lib.hid (ext_trans HB8.out hb9)
  clear hb9
  go_wp2_with fail
  refine (back_any (some ⟨g3, 0, none⟩) exS c3 w9 HR9.out (by decide) (fun h => nomatch h)).mono ?_
  rintro e w10 ⟨A10, c10, rfl, ho10, hb10⟩
  rw [show exS.length = 4 from rfl]
  have HB10 : Hid (Below w.heap.size w w10) := Lib.hid (ext_trans HB9.out hb10)
  clear ho10 hb10
  obtain ⟨W11, hW11⟩ : ∃ W, w10.alloc (.cells #[.int .u8 97, .int .u8 10, .int .u8 98] 5) = W := ⟨_, rfl⟩
  obtain ⟨W12, hW12⟩ : ∃ W, w10.alloc (.cells #[.int .u8 97, .int .u8 10, .int .u8 98] 5 (3, 4)) = W := ⟨_, rfl⟩
  have hcv : (convert 45 45 (.slice (some ⟨w10.heap.size, 0, none⟩) 3 3)).run Tryd.prog W11 = .ok (.slice (some ⟨w10.heap.size, 0, none⟩) 3 3) W12 := by
    rw [← hW11, ← hW12]
    exact Lib.run_convert_bytes_const (P := Tryd.prog) w10 45 5 _ 3 3 Tryd.underlying45 Tryd.underlying5
  have r12 : W12.heap[w10.heap.size]? = some (.cells #[.int .u8 97, .int .u8 10, .int .u8 98] 5 (3, 4)) := by
    rw [← hW12]; exact heap_alloc_new w10 _
  have R12 : Hid (Rd W12 (some ⟨w10.heap.size, 0, none⟩) (b8s [97, 10, 98])) := Lib.hid (fun j u hu => ⟨_, 0, rfl, by
    rw [Lib.cell_of_heap r12, Nat.zero_add]
    rw [← List.getElem?_toArray] at hu
    exact hu⟩)
  have HB12 : Hid (Below w.heap.size w W12) := Lib.hid (ext_trans HB10.out (by rw [← hW12]; exact (Below.refl _ _).alloc (Nat.le_refl _) _))
  clear r12 hW12
  go_wp2_with fail
  refine (split_any (some ⟨w10.heap.size, 0, none⟩) [97, 10, 98] 3 W12 R12.out (by decide)).mono ?_
  rintro e w13 ⟨c13, rfl, hl13, hc13, hr13, hb13⟩
  rw [ex_split] at hr13 hl13 ⊢
  have HR13 := Lib.hid hr13
  have HB13 : Hid (Below w.heap.size w w13) := Lib.hid (ext_trans HB12.out hb13)
  clear hr13 hb13 hW11 hl13 hc13
  obtain ⟨W14, hW14⟩ : ∃ W, w13.alloc (.cells #[.string ⟨#[97, 10]⟩, .string ⟨#[98]⟩] 9) = W := ⟨_, rfl⟩
  obtain ⟨r14, b14, s14⟩ := new_row hW14
  have R14 : Hid (Rd W14 (some ⟨w13.heap.size, 0, none⟩) (sts [⟨#[97, 10]⟩, ⟨#[98]⟩])) := Lib.hid (range_rd (range_of_row (cs := sts [⟨#[97, 10]⟩, ⟨#[98]⟩]) r14))
  have HR14 := Lib.hid (HR13.out.below b14)
  have HB14 : Hid (Below w.heap.size w W14) := Lib.hid (ext_trans HB13.out b14)
  clear r14 b14 s14
  go_wp2_with fail
  refine (texts_any (some ⟨W12.heap.size, 0, none⟩) (some ⟨w13.heap.size, 0, none⟩) [⟨#[97, 10]⟩, ⟨#[98]⟩] [⟨#[97, 10]⟩, ⟨#[98]⟩] c13 2 W14 HR14.out R14.out (by decide) (by decide)).mono ?_
  rintro e w15 ⟨rfl, hb15⟩
  rw [show decide (([⟨#[97, 10]⟩, ⟨#[98]⟩] : List ByteArray) = [⟨#[97, 10]⟩, ⟨#[98]⟩]) = true from decide_eq_true rfl]
  have HB15 : Hid (Below w.heap.size w w15) := Lib.hid (ext_trans HB14.out hb15)
  clear hb15 hW14
  go_wp2_with fail
  go_ret
  exact ⟨rfl, HB15.out⟩
end Go.Proofs.YtmniggjadfdheaaDoor
