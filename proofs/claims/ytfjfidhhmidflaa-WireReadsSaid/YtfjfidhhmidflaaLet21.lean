
/- Read, whole; alive. -/

import Derived.Test.YtfjfidhhmidflaaLet17

import Derived.Test.YtfjfidhhmidflaaLet18

import Derived.Test.YtfjfidhhmidflaaLet19

import Derived.Test.YtfjfidhhmidflaaLet20

import Derived.Test.YtfjfidhhmidflaaLetM

import Derived.Test.YtfjfidhhmidflaaLet12

namespace Go.Proofs.Ytfjfidhhmidflaa

set_option linter.unusedVariables false

set_option linter.unusedSimpArgs false

open Go.RowKit

/-- wire.Read, whole -/
theorem lread_any (A : Option Addr) (bs : List UInt8) (c : Nat) (w : World) (hr : Rd w A (b8s bs)) (hc : bs.length ≤ c) (hc2 : c ≤ 9223372036854775807) :
    Calls Try.prog 15 #[.slice A bs.length c] w fun e w' => RdOut w w' e (readL bs) := by
  by_cases h : bs.length < 4 ∨ 65536 < bs.length
  · exact read_len A bs c w h
  · have h4 : ¬ bs.length < 4 := fun e => h (.inl e)
    have h6 : ¬ 65536 < bs.length := fun e => h (.inr e)
    by_cases hs : (getFour (some (bs.drop (bs.length - 4)))).1 = (crc (bs.take (bs.length - 4))).toNat
    · by_cases k2 : (getNum (some (bs.take (bs.length - 4))) 4).1 = 2
      · exact read_2 A bs c w hr hc hc2 h4 h6 hs k2
      · by_cases k3 : (getNum (some (bs.take (bs.length - 4))) 4).1 = 3
        · exact read_3 A bs c w hr hc hc2 h4 h6 hs k3
        · by_cases k4 : (getNum (some (bs.take (bs.length - 4))) 4).1 = 4
          · exact read_4 A bs c w hr hc hc2 h4 h6 hs k4
          · exact read_x A bs c w hr hc hc2 h4 h6 hs ⟨k2, k3, k4⟩
    · exact read_sum A bs c w hr hc hc2 h4 h6 hs
theorem read_s (v : Value) (bs : List UInt8) (w : World) (h : Sl w v bs) : Calls Try.prog 15 #[v] w fun e w' => RdOut w w' e (readL bs) := by
  obtain ⟨A, n, c, rfl, rfl, h1, h2, hr⟩ := h
  exact lread_any A bs c w hr h1 h2

/-! ### alive -/

def l0 : Lt := ⟨1, 1, 2, 5, [], [], [], 0, 0, zeros32, []⟩
theorem l0_in (w : World) : LtIn w l0 p0 := (LI.start w 0 0 0 1 1 2 5 0 0).in_
theorem l0_right : rightL l0 = true := by decide +kernel
theorem l0_head : inW l0 = [1, 1, 2, 5] := by decide +kernel
theorem lt0_in (w : World) : LtIn w lt0 p0 := (LI.start w 0 0 0 0 0 0 0 0 0).in_
theorem l0_bytes : ∃ a b c d, writeB l0 = [1, 1, 2, 5, a, b, c, d] := by
  unfold writeB
  rw [l0_head]
  exact ⟨_, _, _, _, rfl⟩
theorem wr_l0 (w : World) : Calls Try.prog 9 #[.agg #[Value.int .i64 1, Value.int .i64 1, Value.int .i64 2, Value.int .i64 5, Value.slice none 0 0, Value.slice none 0 0, Value.slice none 0 0, Value.int .i64 0, Value.int .i64 0, Value.int .u8 0, Value.int .u8 0, Value.int .u8 0, Value.int .u8 0, Value.int .u8 0, Value.int .u8 0, Value.int .u8 0, Value.int .u8 0, Value.int .u8 0, Value.int .u8 0, Value.int .u8 0, Value.int .u8 0, Value.int .u8 0, Value.int .u8 0, Value.int .u8 0, Value.int .u8 0, Value.int .u8 0, Value.int .u8 0, Value.int .u8 0, Value.int .u8 0, Value.int .u8 0, Value.int .u8 0, Value.int .u8 0, Value.int .u8 0, Value.int .u8 0, Value.int .u8 0, Value.int .u8 0, Value.int .u8 0, Value.int .u8 0, Value.int .u8 0, Value.int .u8 0, Value.int .u8 0, Value.slice none 0 0]] w fun e w' => WrOut w w' e (writeB l0) :=
  write_ok l0 p0 w (l0_in w) ⟨by decide, by decide⟩ l0_right
theorem l0_same : sameL l0 l0 = true := (sameL_iff _ _).2 rfl
theorem l0_other : sameL l0 lt0 = false := by decide +kernel

set_option maxRecDepth 100000 in
set_option maxHeartbeats 4000000 in
theorem alive_any (w : World) : Calls Try.prog 8 #[] w fun e w' => e = .returned (.bool true) ∧ Below w.heap.size w w' := by
  have HW := Lib.hid (wr_l0 w)
  go_enter Try.func8, Try.ntmps8
  go_wp2_with fail
  refine HW.out.mono ?_
  rintro e w1 ⟨v, rfl, hs1, hb1⟩
  have HS1 := Lib.hid hs1
  have HB1 := Lib.hid hb1
  have HRD := Lib.hid (read_s v _ w1 hs1)
  rw [read_write l0 l0_right ⟨rfl, fun r h => (by cases h), fun r h => (by cases h), fun r h => (by cases h)⟩] at HRD
  clear hs1 hb1 HW
  go_wp2_with fail
  refine HRD.out.mono ?_
  rintro e w2 ⟨p, rfl, hin, hb2⟩
  have HS2 := Lib.hid (HS1.out.below hb2)
  have HB2 := Lib.hid (ext_trans HB1.out hb2)
  obtain ⟨W3, hW3⟩ : ∃ W, w2.alloc (.cells #[Value.int .i64 0, Value.int .i64 0, Value.int .i64 0, Value.int .i64 0, Value.slice none 0 0, Value.slice none 0 0, Value.slice none 0 0, Value.int .i64 0, Value.int .i64 0, Value.int .u8 0, Value.int .u8 0, Value.int .u8 0, Value.int .u8 0, Value.int .u8 0, Value.int .u8 0, Value.int .u8 0, Value.int .u8 0, Value.int .u8 0, Value.int .u8 0, Value.int .u8 0, Value.int .u8 0, Value.int .u8 0, Value.int .u8 0, Value.int .u8 0, Value.int .u8 0, Value.int .u8 0, Value.int .u8 0, Value.int .u8 0, Value.int .u8 0, Value.int .u8 0, Value.int .u8 0, Value.int .u8 0, Value.int .u8 0, Value.int .u8 0, Value.int .u8 0, Value.int .u8 0, Value.int .u8 0, Value.int .u8 0, Value.int .u8 0, Value.int .u8 0, Value.int .u8 0, Value.slice none 0 0] 28) = W := ⟨_, rfl⟩
  obtain ⟨q3, b3, s3⟩ := new_row hW3
  rw [← lt0_cells] at q3
  obtain ⟨g, hg⟩ : ∃ g, w2.heap.size = g := ⟨_, rfl⟩
  rw [hg] at q3
  have HIN := Lib.hid hin
  obtain ⟨W4, hW4, HTH, HR4, HB4, _, _⟩ := let_write (q := p) (m := l0) q3 rfl rfl b3 b3.size (Nat.le_of_eq hg)
  have HW4 := Lib.hid hW4
  have HB24 : Hid (Below w2.heap.size w2 W4) := HB4
  have HIL := Lib.hid (info_leta l0 p rfl)
  have HOL := Lib.hid (all_oneCell_toArray (l0.cells_one p))
  have HS4 := Lib.hid (HS2.out.below HB24.out)
  have HIN4 := Lib.hid (hin.below HB24.out)
  have HBW := Lib.hid (ext_trans HB2.out HB24.out)
  obtain ⟨z0, z1, z2, z3, hz⟩ := l0_bytes
  rw [hz] at HS4
  obtain ⟨A, n, c, hv, hn, hnc, hcm, hrd⟩ := HS4.out
  obtain rfl : n = 8 := by simpa using hn
  obtain ⟨b, o, rfl, hc0⟩ := hrd 0 _ rfl
  have hc3 := hrd 3 _ rfl
  obtain ⟨b', o', e1, hc3⟩ := hc3
  cases e1
  subst hv
  have hcc : (8 : Int) ≤ (c : Int) := by omega
  have d0 : W4.cell? ⟨b, o, none⟩ = some (.int .u8 1) := hc0
  have d3 : W4.cell? ⟨b, o + 3, none⟩ = some (.int .u8 5) := hc3
  clear hc0 hc3
  obtain ⟨x0, _, x2, _, _, _, _, _, _, _, _⟩ := ltRow_of HR4.out rfl
  have f0 : W4.cell? ⟨g, 0, none⟩ = some (.int .i64 1) := x0
  have f2 : W4.cell? ⟨g, 2, none⟩ = some (.int .i64 2) := x2
  clear x0 x2
  have HGL := Lib.hid (Array.getElem?_eq_some_iff.1 HR4.out).1
  have HR4' := Lib.hid (range_of_row HR4.out)
  clear hin hb2 q3 b3 s3 hW4 hz hn hrd HB4 HS1 HS2 HRD
  go_wp2_with (first
    | ((with_reducible (refine wpList_store_mid rfl _ _ _ rfl ?_ ?_ ?_ ?_ ?_ ?_ ?_ ?_ ?_)); (exact g); (exact 0); (exact (l0.cells p).toArray); (exact rfl); (exact rfl); (exact HTH.out); (exact HIL.out); (exact HOL.out); rw [HW4.out])
    | ((with_reducible (refine wpList_load_row_w _ _ rfl _ rfl _ _ _ _ HR4.out Try.underlying28 rfl HIL.out ?_ ?_)); (focus (rfl))))
  clear hW3 hg d0 d3 f0 f2 hcc hnc hcm
  have hr := lright_any l0 p W4 HIN4.out ⟨by decide, by decide⟩
  rw [l0_right] at hr
  refine hr.mono ?_
  rintro e w5 ⟨rfl, hb5⟩
  have HR5 := Lib.hid ((hb5.block g HGL.out).trans HR4.out)
  have HIN5 := Lib.hid (HIN4.out.below hb5)
  have HB5 := Lib.hid (ext_trans HBW.out hb5)
  clear hr hb5
  go_wp2_with ((with_reducible (refine wpList_load_row_w _ _ rfl _ rfl _ _ _ _ HR5.out Try.underlying28 rfl HIL.out ?_ ?_)); (focus (rfl)))
  have hs := lsame_any l0 l0 p p w5 HIN5.out HIN5.out
  rw [l0_same] at hs
  refine hs.mono ?_
  rintro e w6 ⟨rfl, hb6⟩
  have HR6 := Lib.hid ((hb6.block g (Array.getElem?_eq_some_iff.1 HR5.out).1).trans HR5.out)
  have HIN6 := Lib.hid (HIN5.out.below hb6)
  have HB6 := Lib.hid (ext_trans HB5.out hb6)
  clear hs hb6
  go_wp2_with ((with_reducible (refine wpList_load_row_w _ _ rfl _ rfl _ _ _ _ HR6.out Try.underlying28 rfl HIL.out ?_ ?_)); (focus (rfl)))
  have ht := lsame_any l0 lt0 p p0 w6 HIN6.out (lt0_in _)
  rw [l0_other] at ht
  refine ht.mono ?_
  rintro e w7 ⟨rfl, hb7⟩
  clear ht
  go_wp2_with fail
  go_ret
  exact ⟨rfl, ext_trans HB6.out hb7⟩
end Go.Proofs.Ytfjfidhhmidflaa
