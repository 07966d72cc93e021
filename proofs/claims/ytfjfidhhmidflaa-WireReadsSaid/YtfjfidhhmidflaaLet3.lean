
/- Lists of IDs that rise, the program's way and the document's. -/

import Derived.Test.YtfjfidhhmidflaaLet1

namespace Go.Proofs.Ytfjfidhhmidflaa

set_option linter.unusedVariables false

set_option linter.unusedSimpArgs false

open Go.RowKit

/-! ### plain -/

def withinB (n lo hi : Int) : Bool := decide (lo ≤ n) && decide (n ≤ hi)
def risingB : List UInt8 → List (List UInt8) → Bool
  | _, [] => true
  | last, i :: r => decide (cmpB last i < 0) && risingB i r
theorem risingB_drop (last : List UInt8) (ids : List (List UInt8)) (k : Nat) (h : k < ids.length) : risingB last (ids.drop k) = (decide (cmpB last ids[k] < 0) && risingB ids[k] (ids.drop (k + 1))) := by
  rw [List.drop_eq_getElem_cons h]; rfl
theorem cmpB_zeros (i : List UInt8) (h : i.length = 32) : cmpB zeros32 i < 0 ↔ i ≠ zeros32 := by
  have hz : ∀ (n : Nat) (i : List UInt8), i.length = n → (0 ≤ cmpB (List.replicate n 0) i → i = List.replicate n 0) := by
    intro n
    induction n with
    | zero => intro i hi _; simpa using hi
    | succ n ih =>
      intro i hi h
      cases i with
      | nil => simp at hi
      | cons x r =>
        have h2 := ih r (by simpa using hi)
        simp only [List.replicate_succ, cmpB, Lib.compareBytes] at h h2 ⊢
        by_cases h1 : (0 : UInt8) < x
        · simp [h1] at h
        · have hx : x = 0 := by
            have := UInt8.not_lt.1 h1
            exact UInt8.le_antisymm this (by simp)
          subst hx
          simp at h
          rw [h2 h]
  constructor
  · intro hlt e
    subst e
    rw [cmpB_self] at hlt
    omega
  · intro hne
    have := hz 32 i h
    rcases Int.lt_or_le (cmpB zeros32 i) 0 with h1 | h1
    · exact h1
    · exact absurd (this h1) hne

set_option maxRecDepth 100000 in
theorem within_any (n lo hi : Int) (w : World) : Calls Try.prog 27 #[.int .i64 n, .int .i64 lo, .int .i64 hi] w fun e w' => w = w' ∧ e = .returned (.bool (withinB n lo hi)) := by
  obtain ⟨V, hV⟩ : ∃ V, withinB n lo hi = V := ⟨_, rfl⟩
  rw [hV]
  have HV := Lib.hid hV
  clear hV
  by_cases h1 : lo ≤ n
  · by_cases h2 : n ≤ hi
    · go_enter Try.func27, Try.ntmps27
      go_wp2_with fail
      go_ret
      exact ⟨rfl, ret_bool (by rw [← HV.out]; simp [withinB, h1, h2])⟩
    · go_enter Try.func27, Try.ntmps27
      go_wp2_with fail
      go_ret
      exact ⟨rfl, ret_bool (by rw [← HV.out]; simp [withinB, h1, h2])⟩
  · go_enter Try.func27, Try.ntmps27
    go_wp2_with fail
    go_ret
    exact ⟨rfl, ret_bool (by rw [← HV.out]; simp [withinB]; omega)⟩

theorem info_id32 (bs : List UInt8) (h : bs.length = 32) : (Try.prog.info? 25).map (·.size) = some (b8s bs).length := by rw [b8s_length, h]; kernel_rfl
theorem info_arr32 (bs : List UInt8) (h : bs.length = 32) : (Try.prog.info? 24).map (·.size) = some (b8s bs).length := by rw [b8s_length, h]; kernel_rfl

set_option maxRecDepth 100000 in
set_option maxHeartbeats 2000000 in
theorem rising_any (A : Option Addr) (ids : List (List UInt8)) (c : Nat) (w : World) (hr : Rd w A (idc ids)) (ho : iOk ids) (hc : ids.length ≤ c) (hm : c ≤ 9223372036854775807) :
    Calls Try.prog 30 #[.slice A ids.length c] w fun e w' => e = .returned (.bool (risingB zeros32 ids)) ∧ Below w.heap.size w w' := by
  have HR := Lib.hid hr
  have HO := Lib.hid ho
  obtain ⟨W1, hW1⟩ : ∃ W, w.alloc (.cells #[Value.int .u8 0, Value.int .u8 0, Value.int .u8 0, Value.int .u8 0, Value.int .u8 0, Value.int .u8 0, Value.int .u8 0, Value.int .u8 0, Value.int .u8 0, Value.int .u8 0, Value.int .u8 0, Value.int .u8 0, Value.int .u8 0, Value.int .u8 0, Value.int .u8 0, Value.int .u8 0, Value.int .u8 0, Value.int .u8 0, Value.int .u8 0, Value.int .u8 0, Value.int .u8 0, Value.int .u8 0, Value.int .u8 0, Value.int .u8 0, Value.int .u8 0, Value.int .u8 0, Value.int .u8 0, Value.int .u8 0, Value.int .u8 0, Value.int .u8 0, Value.int .u8 0, Value.int .u8 0] 25) = W := ⟨_, rfl⟩
  obtain ⟨r1, b1, s1⟩ := new_row hW1
  obtain ⟨g, hg⟩ : ∃ g, w.heap.size = g := ⟨_, rfl⟩
  have HR1 : Hid (W1.heap[g]? = some (.cells (b8s zeros32).toArray 25 (0, 0))) := Lib.hid (by rw [zeros32_cells, ← hg]; exact r1)
  have HB1 := Lib.hid b1
  have HG : Hid (w.heap.size ≤ g) := Lib.hid (by omega)
  obtain ⟨V, hV⟩ : ∃ V, risingB zeros32 ids = V := ⟨_, rfl⟩
  have HV : Hid (risingB zeros32 (ids.drop 0) = V) := Lib.hid hV
  rw [hV]
  clear hr ho r1 b1 s1 hV
  go_enter Try.func30, Try.ntmps30
  go_wp2_with fail
  clear hg hW1
  go_loopg [8] (ids.length * 1) (fun gk_ s wr => ∃ (k : Nat) (last : List UInt8), k ≤ ids.length ∧ gk_ = ids.length - k ∧ s = .int .i64 (k : Int) ∧ Hid (last.length = 32) ∧ Hid (wr.heap[g]? = some (.cells (b8s last).toArray 25 (0, 0))) ∧ Hid (Below w.heap.size w wr) ∧ Hid (risingB last (ids.drop k) = V))
  case atStart => exact ⟨0, zeros32, by omega, by omega, rfl, Lib.hid rfl, HR1, HB1, HV⟩
  case round =>
    clear HR1 HB1 HV
    obtain ⟨k, last, hk, rfl, rfl, HLL, HR1, HB1, HV⟩ := hrel
    by_cases hlt : k < ids.length
    · have hpos : 0 < (idc ids).length := by rw [idc_length HO.out]; omega
      have hrd := HR.out.below HB1.out
      obtain ⟨b, off, hA, _⟩ := hrd.all hpos
      subst hA
      have RS := rd_id hrd HO.out k hlt
      have hsl := iOk_get HO.out k hlt
      have hst := risingB_drop last ids k hlt
      obtain ⟨s, hs⟩ : ∃ s, ids[k] = s := ⟨_, rfl⟩
      rw [hs] at RS hsl hst
      have HST := Lib.hid (hst.symm.trans HV.out)
      have HIS := Lib.hid (info_id32 s hsl)
      have HIA : Hid ((Try.prog.info? 25).map (·.size) = some (b8s s).toArray.size) := Lib.hid (by rw [List.size_toArray]; exact info_id32 s hsl)
      have HSL := Lib.hid hsl
      obtain ⟨H, Wa, W5, hH, hWa, hW5, HTH, HRS, HB5, HS5⟩ := arr_place (w := wr) 25 s hsl
      have HW5 := Lib.hid hW5
      have hgl : g < wr.heap.size := (Array.getElem?_eq_some_iff.1 HR1.out).1
      have HGL := Lib.hid hgl
      have HHL : Hid (wr.heap.size ≤ H) := Lib.hid (by omega)
      have HRL := Lib.hid ((HB5.out.block g hgl).trans HR1.out)
      have HRR := Lib.hid (range_of_row HRL.out)
      have HRSR := Lib.hid (range_of_row HRS.out)
      have HIL := Lib.hid (info_id32 last HLL.out)
      have HBW := Lib.hid (HB1.out.trans (HB5.out.mono HB1.out.size))
      have i1 : (k : Int) < (ids.length : Int) := by omega
      have i2 : (ids.length : Int) ≤ (c : Int) := by omega
      clear hrd hpos hsl hs hst hW5 hgl
      go_wp2_with (first
        | ((with_reducible (refine wpList_load_cells 25 _ b (off + k * 32) (b8s s) RS Try.underlying25 rfl HIS.out ?_ rfl ?_ ?_)); (exact rfl); (exact rfl))
        | ((with_reducible (refine wpList_load_cells 25 _ g 0 (b8s last) HRR.out Try.underlying25 rfl HIL.out ?_ rfl ?_ ?_)); (exact rfl); (exact rfl))
        | ((with_reducible (refine wpList_load_cells 25 _ H 0 (b8s s) HRSR.out Try.underlying25 rfl HIS.out ?_ rfl ?_ ?_)); (exact rfl); (exact rfl))
        | ((with_reducible (refine wpList_store_mid rfl _ _ _ rfl ?_ ?_ ?_ ?_ ?_ ?_ ?_ ?_ ?_)); (exact H); (exact 0); (exact (b8s s).toArray); (exact rfl); (exact rfl); (exact HTH.out); (exact HIA.out); (exact all_oneCell_toArray (b8s_one' _)); rw [HW5.out]))
      clear hWa hH RS
      refine (idcmp_any last s HLL.out HSL.out W5).mono ?_
      rintro e w6 ⟨rfl, hb6⟩
      by_cases hc1 : cmpB last s < 0
      · have d1 : decide (0 ≤ cmpB last s) = false := decide_eq_false (by omega)
        have HL6 := Lib.hid ((hb6.block g (by have := HGL.out; have := HHL.out; rw [HS5.out]; omega)).trans HRL.out)
        have HS6 := Lib.hid ((hb6.block H (by rw [HS5.out]; omega)).trans HRS.out)
        have HSR6 := Lib.hid (range_of_row HS6.out)
        have HBW6 := HBW.out.trans (hb6.mono HBW.out.size)
        obtain ⟨W7, hW7, HTH7, HR7, HB7⟩ := arr_write HL6.out (new := s) (by rw [HLL.out, HSL.out]) HBW6 HBW6.size HG.out
        have HW7 := Lib.hid hW7
        have HV2 : Hid (risingB s (ids.drop (k + 1)) = V) := Lib.hid (by rw [← HST.out, decide_eq_true hc1, Bool.true_and])
        clear hW7 HBW6
        go_wp2_with (first
          | ((with_reducible (refine wpList_load_cells 25 _ H 0 (b8s s) HSR6.out Try.underlying25 rfl HIS.out ?_ rfl ?_ ?_)); (exact rfl); (exact rfl))
          | ((with_reducible (refine wpList_store_mid rfl _ _ _ rfl ?_ ?_ ?_ ?_ ?_ ?_ ?_ ?_ ?_)); (exact g); (exact 0); (exact (b8s s).toArray); (exact rfl); (exact rfl); (exact HTH7.out); (exact HIA.out); (exact all_oneCell_toArray (b8s_one' _)); rw [HW7.out]))
        go_roundg (ids.length - (k + 1))
        case measure => omega
        case rel => exact ⟨k + 1, s, by omega, rfl, by first | rfl | exact congrArg (Value.int .i64) (by omega) | go_num, HSL, HR7, HB7, HV2⟩
      · have d1 : decide (0 ≤ cmpB last s) = true := decide_eq_true (by omega)
        go_wp2_with fail
        go_ret
        exact ⟨ret_bool (by rw [← HST.out, decide_eq_false (show ¬ cmpB last s < 0 by omega), Bool.false_and]), HBW.out.trans (hb6.mono HBW.out.size)⟩
    · obtain rfl : k = ids.length := by omega
      go_wp2_with fail
      go_ret
      exact ⟨ret_bool (by rw [← HV.out, List.drop_length]; rfl), HB1.out⟩
end Go.Proofs.Ytfjfidhhmidflaa
