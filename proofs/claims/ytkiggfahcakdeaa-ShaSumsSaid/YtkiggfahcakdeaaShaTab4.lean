
/- What the document's root and Tables make. -/

import Derived.Test.YtkiggfahcakdeaaShaTab3

namespace Go.Proofs.Ytkiggfahcakdeaa

set_option linter.unusedVariables false

set_option linter.unusedSimpArgs false

open Go.RowKit

def rootStep (p n x i : Nat) : Nat := if aboveB (x + 2 ^ i) n p then x else x + 2 ^ i
def rootG (p n : Nat) : Nat → Nat → Nat
  | 0, x => x
  | j + 1, x => rootG p n j (rootStep p n x j)
def rootW (p n : Nat) : W32 := BitVec.ofNat 32 (rootG p n 37 0)

set_option maxRecDepth 100000 in
set_option maxHeartbeats 2000000 in
theorem root_any (p n : Nat) (hn : n = 2 ∨ n = 3) (hp : p ≤ 1000) (w : World) :
    Calls Try.prog 33 #[.int .i64 (p : Int), .int .i64 (n : Int)] w fun e w' => e = .returned (.int .u32 ((rootW p n).toNat : Int)) ∧ Below w.heap.size w w' := by
  obtain ⟨R, hR⟩ : ∃ R, rootG p n 37 0 = R := ⟨_, rfl⟩
  have HR0 := Lib.hid hR
  have HRW : Hid (rootW p n = BitVec.ofNat 32 R) := Lib.hid (by unfold rootW; rw [hR])
  have HN := Lib.hid hn
  clear hR hn
  go_enter Try.func33, Try.ntmps33
  go_wp2_with fail
  go_loopg [5, 6] 37 (fun gk_ s5 s6 wr => ∃ (j x : Nat), j ≤ 37 ∧ gk_ = j * 1 ∧ s6 = .int .i64 ((j : Int) - 1) ∧ s5 = .int .u64 (x : Int) ∧ x + 2 ^ j ≤ 137438953472 ∧ Hid (rootG p n j x = R) ∧ Below w.heap.size w wr)
  case atStart => exact ⟨37, 0, by omega, by omega, rfl, rfl, by decide, HR0, Below.refl _ _⟩
  case round =>
    clear HR0
    obtain ⟨j, x, hj, rfl, rfl, rfl, hx, HR, hbel⟩ := hrel
    by_cases hj0 : j = 0
    · subst hj0
      have hxR : x = R := HR.out
      have HXR := Lib.hid hxR
      have hxl : x < 137438953472 := by simp at hx; omega
      clear hxR hx
      go_wp2_with fail
      go_ret
      refine ⟨ret_u32 ?_, hbel⟩
      rw [HRW.out, ← HXR.out, BitVec.toNat_ofNat]
      omega
    · obtain ⟨i, rfl⟩ : ∃ i, j = i + 1 := ⟨j - 1, by omega⟩
      have hpow : 2 ^ (i + 1) = 2 ^ i + 2 ^ i := by rw [Nat.pow_succ]; omega
      obtain ⟨P, hP⟩ : ∃ P, 2 ^ i = P := ⟨_, rfl⟩
      have hPpos : 0 < P := by rw [← hP]; exact Nat.pow_pos (by decide)
      rw [hpow, hP] at hx
      have hy : x + P < 137438953472 := by omega
      have HST : Hid (rootG p n (i + 1) x = rootG p n i (if aboveB (x + P) n p then x else x + P)) := Lib.hid (by rw [← hP]; rfl)
      have hsh : Hid (IntKind.u64.wrap ((2 : Int) ^ i) = (P : Int)) := Lib.hid (by
        rw [← hP, Int.natCast_pow]
        have : ((2 : Int) ^ i) < 18446744073709551616 := by
          have : (P : Int) < 18446744073709551616 := by omega
          rw [← hP, Int.natCast_pow] at this
          exact this
        have h0 : (0 : Int) ≤ (2 : Int) ^ i := Int.pow_nonneg (by decide)
        simp [IntKind.wrap, IntKind.signed, IntKind.bits]; omega)
      have HP := Lib.hid hP
      have hi63 : i < 64 := by omega
      clear hpow hP
      go_wp2_with fail
      have hW : IntKind.u64.wrap ((x : Int) + IntKind.u64.wrap ((2 : Int) ^ i)) = ((x + P : Nat) : Int) := by
        rw [hsh.out, ← Int.natCast_add]
        simp [IntKind.wrap, IntKind.signed, IntKind.bits]; omega
      rw [hW]
      clear hW
      refine (above_any (x + P) n p hy HN.out hp _).mono ?_
      rintro e w1 ⟨rfl, hb1⟩
      have hb2 := ext_trans hbel hb1
      obtain ⟨B, hB⟩ : ∃ B, aboveB (x + P) n p = B := ⟨_, rfl⟩
      rw [hB]
      have hst := HST.out
      rw [hB, HR.out] at hst
      cases B with
      | true =>
        have HS2 : Hid (rootG p n i x = R) := Lib.hid (by simpa using hst.symm)
        have HX2 : Hid (x + 2 ^ i ≤ 137438953472) := Lib.hid (by rw [HP.out]; omega)
        clear hst hB hbel hb1
        go_wp2_with fail
        go_roundg (i * 1)
        case measure => omega
        case rel => exact ⟨i, x, by omega, rfl, congrArg (Value.int .i64) (by omega), rfl, HX2.out, HS2, hb2⟩
      | false =>
        have HS2 : Hid (rootG p n i (x + P) = R) := Lib.hid (by simpa using hst.symm)
        have HX2 : Hid (x + P + 2 ^ i ≤ 137438953472) := Lib.hid (by rw [HP.out]; omega)
        clear hst hB hbel hb1
        go_wp2_with fail
        go_roundg (i * 1)
        case measure => omega
        case rel => exact ⟨i, x + P, by omega, rfl, congrArg (Value.int .i64) (by omega), rfl, HX2.out, HS2, hb2⟩

theorem tab_rounds : (plist 312).map (fun p => rootW p 3) = K0 := by decide +kernel
theorem tab_first : ((plist 312).take 8).map (fun p => rootW p 2) = H0.list := by decide +kernel
end Go.Proofs.Ytkiggfahcakdeaa
