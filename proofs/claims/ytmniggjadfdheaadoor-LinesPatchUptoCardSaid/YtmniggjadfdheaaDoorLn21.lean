
/- The document's Cost. -/

import Derived.Test.YtmniggjadfdheaaDoorLn18

namespace Go.Proofs.YtmniggjadfdheaaDoor

set_option linter.unusedVariables false

set_option linter.unusedSimpArgs false

set_option linter.unusedSectionVars false

open Go.RowKit

set_option maxRecDepth 100000 in
set_option maxHeartbeats 4000000 in
theorem rcost_any (A : Option Addr) (s : List EdM) (c : Nat) (w : World) (hr : Rd w A (edc s)) (hl : s.length ≤ 1000000) :
    Calls Tryd.prog 20 #[.slice A s.length c] w fun e w' => e = .returned (.int .i64 (costE s : Int)) ∧ Below w.heap.size w w' := by
  have HR := Lib.hid hr
  obtain ⟨n, hn⟩ : ∃ n, s.length = n := ⟨_, rfl⟩
  have HN := Lib.hid hn
  rw [hn] at hl ⊢
  clear hr hn
  go_enter Tryd.func20, Tryd.ntmps20
  go_wp2_with fail
  go_loopg [3, 4] (n * 1) (fun gk_ v i wr => ∃ (k m : Nat), k ≤ n ∧ gk_ = n - k ∧ m ≤ k ∧ v = .int .i64 (m : Int) ∧ i = .int .i64 (k : Int) ∧ Hid (m = costE (s.take k)) ∧ Hid (Below w.heap.size w wr))
  case atStart => exact ⟨0, 0, by omega, by omega, by omega, rfl, rfl, Lib.hid rfl, Lib.hid (Below.refl _ _)⟩
  case round =>
  obtain ⟨k, m, hk, rfl, hm, rfl, rfl, HM, HBW⟩ := hrel
  by_cases hlt : k < n
  · have i1 : (k : Int) < (n : Int) := by omega
    have hlt' : k < s.length := by rw [HN.out]; exact hlt
    have hrd := HR.out.below HBW.out
    obtain ⟨b, off, hA, _⟩ := hrd.all (by rw [edc_len]; omega)
    rw [hA] at hrd
    have HA := Lib.hid hA
    clear hA
    have RS := rd_ed hrd k hlt'
    obtain ⟨⟨kd, ln_⟩, he⟩ : ∃ e, s[k] = e := ⟨_, rfl⟩
    rw [he] at RS
    have HE : Hid (s[k]? = some (⟨kd, ln_⟩ : EdM)) := Lib.hid (by rw [List.getElem?_eq_getElem hlt', he])
    have a0 : wr.cell? ⟨b, off + k * 2, none⟩ = some (.int .i64 kd) := RS 0 _ rfl
    clear hrd RS he hlt'
    rw [HA.out]
    have HST : Hid (costE (s.take (k + 1)) = m + if chgB (⟨kd, ln_⟩ : EdM) then 1 else 0) := Lib.hid (by rw [costE_take' HE.out, HM.out])
    by_cases h1 : kd = 1
    · have z1 : (kd == 1) = true := by rw [beq_iff_eq]; exact h1
      have HC : Hid (m + 1 = costE (s.take (k + 1))) := Lib.hid (by rw [HST.out, if_pos (by simp [chgB, h1])])
      clear h1
      go_wp2_with fail
      rw [← HA.out]
      clear a0 z1
      go_roundg (n - (k + 1))
      case measure => omega
      case rel => exact ⟨k + 1, m + 1, by omega, rfl, by omega, by first | rfl | exact congrArg (Value.int .i64) (by omega) | go_num, by first | rfl | exact congrArg (Value.int .i64) (by omega) | go_num, HC, HBW⟩
    · have z1 : (kd == 1) = false := by rw [beq_eq_false_iff_ne]; exact h1
      by_cases h2 : kd = 2
      · have z2 : (kd == 2) = true := by rw [beq_iff_eq]; exact h2
        have HC : Hid (m + 1 = costE (s.take (k + 1))) := Lib.hid (by rw [HST.out, if_pos (by simp [chgB, h2])])
        clear h1 h2
        go_wp2_with fail
        rw [← HA.out]
        clear a0 z1 z2
        go_roundg (n - (k + 1))
        case measure => omega
        case rel => exact ⟨k + 1, m + 1, by omega, rfl, by omega, by first | rfl | exact congrArg (Value.int .i64) (by omega) | go_num, by first | rfl | exact congrArg (Value.int .i64) (by omega) | go_num, HC, HBW⟩
      · have z2 : (kd == 2) = false := by rw [beq_eq_false_iff_ne]; exact h2
        have HC : Hid (m = costE (s.take (k + 1))) := Lib.hid (by rw [HST.out, if_neg (by simp [chgB, h1, h2])]; rfl)
        clear h1 h2
        go_wp2_with fail
        rw [← HA.out]
        clear a0 z1 z2
        go_roundg (n - (k + 1))
        case measure => omega
        case rel => exact ⟨k + 1, m, by omega, rfl, by omega, rfl, by first | rfl | exact congrArg (Value.int .i64) (by omega) | go_num, HC, HBW⟩
  · obtain rfl : k = n := by omega
    clear hlt hk
    go_wp2_with fail
    go_ret
    refine ⟨?_, HBW.out⟩
    have h := HM.out
    rw [← HN.out, List.take_length] at h
    rw [← h]
    rfl
end Go.Proofs.YtmniggjadfdheaaDoor
