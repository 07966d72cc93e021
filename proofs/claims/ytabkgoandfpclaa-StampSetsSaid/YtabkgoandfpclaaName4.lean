
/- The program's Name and the document's. -/

import Derived.Test.YtabkgoandfpclaaName3

namespace Go.Proofs.Ytabkgoandfpclaa

set_option linter.unusedVariables false

set_option linter.unusedSimpArgs false

open Go.RowKit

/-- is a text a name? -/
def nameS (s : ByteArray) : Bool := decide (1 ≤ s.size) && decide (s.size ≤ 60) && !(s.toList == [46]) && !(s.toList == [46, 46]) && !hasN s.data.toList

set_option maxRecDepth 100000 in
theorem name_any (s : ByteArray) (hm : s.size ≤ 9223372036854775807) (w : World) :
    Calls Try.prog 16 #[.string s] w fun e w' => e = .returned (.bool (nameS s)) ∧ Below w.heap.size w w' := by
  have HC := Lib.hid (containsAny_any s hm w)
  obtain ⟨hb, hhb⟩ : ∃ hb, hasN s.data.toList = hb := ⟨_, rfl⟩
  rw [hhb] at HC
  unfold nameS
  rw [hhb]
  clear hhb
  go_enter Try.func16, Try.ntmps16
  go_wp2_with fail
  all_goals try (refine HC.out.mono ?_; rintro e w1 ⟨rfl, hb1⟩; go_wp2_with fail)
  all_goals
    go_ret
    first
    | (refine ⟨ret_bool ?_, hb1⟩
       have e1 : 1 ≤ s.size := by omega
       have e2 : s.size ≤ 60 := by omega
       simp_all)
    | (refine ⟨ret_bool ?_, Below.refl _ _⟩
       first
       | (have e1 : 1 ≤ s.size := by omega
          have e2 : s.size ≤ 60 := by omega
          simp_all; done)
       | (have e1 : ¬ 1 ≤ s.size := by omega
          simp [e1]; done)
       | (have e2 : ¬ s.size ≤ 60 := by omega
          simp [e2]; done))

theorem toList_nil_iff (s : ByteArray) : s.toList = [] ↔ s.size = 0 := by
  rw [Lib.toList_data, Lib.size_eq]
  exact List.length_eq_zero_iff.symm

set_option maxRecDepth 100000 in
set_option maxHeartbeats 1000000 in
theorem rname_any (s : ByteArray) (hm : s.size ≤ 9223372036854775807) (w : World) :
    Calls Try.prog 17 #[.string s] w fun e w' => w' = w ∧ e = .returned (.bool (nameS s)) := by
  have hsl : s.data.toList.length = s.size := (Lib.size_eq s).symm
  have HSL := Lib.hid hsl
  clear hsl
  go_enter Try.func17, Try.ntmps17
  go_wp2_with fail
  go_loopg [3] s.size (fun g s8 wx => ∃ i : Nat, i ≤ s.size ∧ g = s.size - i ∧ s8 = .int .i64 i ∧ wx = w ∧ Hid (Lib.NoAny s.data.toList csN i))
  case atStart => exact ⟨0, by omega, by omega, rfl, rfl, Lib.hid (Lib.NoAny.zero _ _)⟩
  case round =>
    obtain ⟨i, hi, rfl, rfl, rfl, HN⟩ := hrel
    by_cases hlt : i < s.size
    · obtain ⟨x, hx⟩ : ∃ x : UInt8, s[i]'hlt = x := ⟨_, rfl⟩
      have hxl : s.data.toList[i]? = some x := by rw [← hx]; exact Lib.data_getElem? s i hlt
      have hhit : csN.contains x = true → nameS s = false := fun h => by
        unfold nameS
        rw [hasN_hit hxl h]
        simp
      have hno : csN.contains x = false → Lib.NoAny s.data.toList csN (i + 1) := fun h => HN.out.succ hxl h
      have hcx : csN.contains x = (decide (x.toNat = 0) || decide (x.toNat = 47) || decide (x.toNat = 10)) := by
        rw [Bool.eq_iff_iff]
        simp only [csN, List.contains_cons, List.contains_nil, Bool.or_false, Bool.or_eq_true, beq_iff_eq, decide_eq_true_eq]
        constructor
        · rintro (rfl | rfl | rfl)
          · exact .inl (.inl rfl)
          · exact .inl (.inr rfl)
          · exact .inr rfl
        · rintro ((h | h) | h)
          · exact .inl (UInt8.toNat_inj.1 h)
          · exact .inr (.inl (UInt8.toNat_inj.1 h))
          · exact .inr (.inr (UInt8.toNat_inj.1 h))
      rw [hcx] at hhit hno
      have HH := Lib.hid hhit
      have HNO := Lib.hid hno
      have hiz : (i : Int) < (s.size : Int) := by omega
      clear hxl hhit hno hcx
      go_wp2_with fail
      all_goals (rename_i h; try simp only [beq_iff_eq, beq_eq_false_iff_ne, ne_eq] at h)
      all_goals first
        | (go_ret
           refine ⟨rfl, ret_bool ?_⟩
           rw [HH.out (by simp only [Bool.or_eq_true, decide_eq_true_eq]; omega)]
           done)
        | (go_roundg (s.size - (i + 1))
           case measure => omega
           case rel => exact ⟨i + 1, by omega, rfl, by first | rfl | simp | go_num, rfl, Lib.hid (HNO.out (by simp only [Bool.or_eq_false_iff, decide_eq_false_iff_not]; omega))⟩)
    · obtain rfl : i = s.size := by omega
      have hnn : hasN s.data.toList = false := hasN_none (by rw [HSL.out]; exact HN.out)
      have hnm : nameS s = (decide (1 ≤ s.size) && decide (s.size ≤ 60) && !(s.toList == [46]) && !(s.toList == [46, 46])) := by
        unfold nameS
        rw [hnn]
        simp
      have H := Lib.hid hnm
      have HNI := Lib.hid (toList_nil_iff s)
      clear hnn hnm
      go_wp2_with fail
      all_goals
        go_ret
        refine ⟨rfl, ret_bool ?_⟩
        rw [H.out]
        have hni := HNI.out
        first
        | (have e0 : s.size = 0 := hni.1 (by assumption)
           simp [e0]; done)
        | (have e2 : ¬ s.size ≤ 60 := by omega
           simp [e2]; done)
        | (have e1 : 1 ≤ s.size := by
             rcases Nat.eq_zero_or_pos s.size with h | h
             · have := hni.2 h
               simp_all
             · exact h
           have e2 : s.size ≤ 60 := by omega
           have hne : s.toList.isEmpty = false := by
             rw [List.isEmpty_eq_false_iff]
             intro h
             have := hni.1 h
             omega
           rw [decide_eq_true e1, decide_eq_true e2]
           first
           | (rename_i h; simp [h]; done)
           | (simp [hne]; done)
           | simp)
end Go.Proofs.Ytabkgoandfpclaa
