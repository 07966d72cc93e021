
/- Words turned: bits.RotateLeft32, turn, the document's right; begin, rounds. -/

import Derived.Test.YtkiggfahcakdeaaShaSumM

namespace Go.Proofs.Ytkiggfahcakdeaa

set_option linter.unusedVariables false

set_option linter.unusedSimpArgs false

open Go.RowKit

theorem mask31 (k : Nat) (h1 : 1 ≤ k) (h2 : k ≤ 31) : bits .and .u64 (IntKind.u64.wrap (-(k : Int))) 31 = ((32 - k : Nat) : Int) := by
  have e1 : IntKind.u64.wrap (-(k : Int)) = ((18446744073709551616 - k : Nat) : Int) := by
    simp [IntKind.wrap, IntKind.signed, IntKind.bits]; omega
  have e2 : (31 : Int) = ((31 : Nat) : Int) := rfl
  rw [e1, e2, u64_and_nat _ _ (by omega) (by omega)]
  have e3 : (18446744073709551616 - k) &&& 31 = (18446744073709551616 - k) % 2 ^ 5 := Nat.and_two_pow_sub_one_eq_mod _ 5
  rw [e3]
  congr 1
  omega
theorem ret_u32 {k : IntKind} {a b : Int} (h : a = b) : Ending.returned (.int k a) = .returned (.int k b) := by rw [h]
theorem rotr_val (x : W32) (k : Nat) (h2 : k ≤ 31) : bits .or .u32 ((x.toNat : Int) / 2 ^ k) ((x.toNat : Int) * 2 ^ (32 - k) % 4294967296) = ((rotr x k).toNat : Int) := by
  have a1 := bv_shr x k (2 ^ k) rfl
  have a2 := bv_shl x (32 - k) (2 ^ (32 - k)) rfl
  simp only [Int.natCast_pow, Int.cast_ofNat_Int] at a1 a2
  rw [a1, a2, bv_or]
  rfl
theorem rotl_val (x : W32) (k m : Nat) (hm : m = 32 - k) (h2 : k ≤ 31) (h1 : 1 ≤ k) : bits .or .u32 ((x.toNat : Int) * 2 ^ m % 4294967296) ((x.toNat : Int) / 2 ^ (32 - m)) = ((rotr x k).toNat : Int) := by
  subst hm
  have e : 32 - (32 - k) = k := by omega
  have a1 := bv_shr x k (2 ^ k) rfl
  have a2 := bv_shl x (32 - k) (2 ^ (32 - k)) rfl
  simp only [Int.natCast_pow, Int.cast_ofNat_Int] at a1 a2
  rw [e, a1, a2, bv_or, BitVec.or_comm]
  rfl

set_option maxRecDepth 100000 in
theorem rotl_any (x : W32) (k : Nat) (h1 : 1 ≤ k) (h2 : k ≤ 31) (w : World) :
    Calls Try.prog 49 #[.int .u32 (x.toNat : Int), .int .i64 (-(k : Int))] w fun e w' => w = w' ∧ e = .returned (.int .u32 ((rotr x k).toNat : Int)) := by
  have hk := mask31 k h1 h2
  obtain ⟨m, hm⟩ : ∃ m, m = 32 - k := ⟨_, rfl⟩
  rw [← hm] at hk
  have hm1 : m ≤ 31 := by omega
  have hm2 : (m : Int) ≤ 32 := by omega
  have HM := Lib.hid hm
  clear hm
  go_enter Try.func49, Try.ntmps49
  go_wp2
  go_ret
  exact ⟨rfl, ret_u32 (rotl_val x k m HM.out h2 h1)⟩
set_option maxRecDepth 100000 in
theorem right_any (x : W32) (k : Nat) (h1 : 1 ≤ k) (h2 : k ≤ 31) (w : World) :
    Calls Try.prog 39 #[.int .u32 (x.toNat : Int), .int .u64 (k : Int)] w fun e w' => w = w' ∧ e = .returned (.int .u32 ((rotr x k).toNat : Int)) := by
  go_enter Try.func39, Try.ntmps39
  go_wp2
  go_ret
  exact ⟨rfl, ret_u32 (rotr_val x k h2)⟩

set_option maxRecDepth 100000 in
theorem turn_any (x : W32) (a b c : Nat) (ha : 1 ≤ a ∧ a ≤ 31) (hb : 1 ≤ b ∧ b ≤ 31) (hc : 1 ≤ c ∧ c ≤ 31) (w : World) :
    Calls Try.prog 50 #[.int .u32 (x.toNat : Int), .int .i64 (a : Int), .int .i64 (b : Int), .int .i64 (c : Int)] w fun e w' => w = w' ∧ e = .returned (.int .u32 ((rotr x a ^^^ rotr x b ^^^ rotr x c).toNat : Int)) := by
  obtain ⟨ha1, ha2⟩ := ha
  obtain ⟨hb1, hb2⟩ := hb
  obtain ⟨hc1, hc2⟩ := hc
  go_enter Try.func50, Try.ntmps50
  go_wp2_with fail
  refine (rotl_any x a ha1 ha2 w).mono ?_
  rintro e w' ⟨rfl, rfl⟩
  go_wp2_with fail
  refine (rotl_any x b hb1 hb2 w).mono ?_
  rintro e w' ⟨rfl, rfl⟩
  go_wp2_with fail
  refine (rotl_any x c hc1 hc2 w).mono ?_
  rintro e w' ⟨rfl, rfl⟩
  go_wp2_with fail
  go_ret
  exact ⟨rfl, ret_u32 (by rw [bv_xor, bv_xor])⟩
end Go.Proofs.Ytkiggfahcakdeaa
