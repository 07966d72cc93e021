
/- What enc.Sum and the document's Sum compute: CRC-32 of the bytes, whatever they are. -/

import Derived.Test.YtfjfidhhmidflaaProg

import Derived.Test.YtfjfidhhmidflaaEncMath

namespace Go.Proofs.Ytfjfidhhmidflaa

open Go.RowKit

theorem ret_u32 {a b : Int} (h : a = b) : Ending.returned (.int .u32 a) = .returned (.int .u32 b) := by rw [h]

set_option maxHeartbeats 400000 in
theorem sum_any (A : Option Addr) (bs : List UInt8) (c : Nat) (w : World) (hr : Rd w A (b8s bs)) (hm : bs.length ≤ maxLen) :
    Calls Try.prog 24 #[.slice A bs.length c] w fun e w' => w = w' ∧ e = .returned (.int .u32 ((crc bs).toNat : Int)) := by
  unfold maxLen at hm
  go_enter Try.func24, Try.ntmps24
  go_wp2
  go_loop [3, 8] (fun t i => ∃ k : Nat, k ≤ bs.length ∧ i = .int .i64 k ∧ t = .int .u32 ((((bs.take k).foldl crcByte 0xffffffff#32)).toNat : Int)) (fun _ i => bs.length - (intOf i).toNat)
  case atStart => exact ⟨0, by omega, rfl, rfl⟩
  case round =>
    obtain ⟨k, hk, rfl, rfl⟩ := hrel
    by_cases hlt : k < bs.length
    · obtain ⟨b, o, rfl, hc⟩ := hr.byte k hlt
      have hstep := foldl_take crcByte 0xffffffff#32 bs k hlt
      generalize (bs.take k).foldl crcByte 0xffffffff#32 = s at *
      have Hs := Lib.hid hstep
      clear hstep
      go_wp2
      go_loop [3, 16] (fun t i => ∃ j : Nat, j ≤ 8 ∧ i = .int .i64 j ∧ t = .int .u32 (((crcN j (s ^^^ wide bs[k])).toNat : Int))) (fun _ i => 8 - (intOf i).toNat)
      case atStart => exact ⟨0, by omega, rfl, by rw [crc_first]; rfl⟩
      case round =>
        obtain ⟨j, hj, rfl, rfl⟩ := hrel
        by_cases hlt8 : j < 8
        · go_wp2
          go_round
          case rel => exact ⟨j + 1, by omega, by go_num, by rw [crc_step]; rfl⟩
          case measure => simp [intOf]; omega
        · go_wp2
          go_round
          case rel =>
            have : j = 8 := by omega
            subst this
            exact ⟨k + 1, by omega, by go_num, by rw [Hs.out]; rfl⟩
          case measure => simp [intOf]; omega
    · go_wp2
      go_ret
      have : k = bs.length := by omega
      subst this
      refine ⟨rfl, ret_u32 ?_⟩
      rw [List.take_length]
      exact u32_not_bv _

theorem u32_xor_comm (x : BitVec 32) : bits .xor .u32 (x.toNat : Int) 4294967295 = bits .xor .u32 4294967295 (x.toNat : Int) := by
  have h : (4294967295 : Int) = ((4294967295#32).toNat : Int) := rfl
  rw [h, u32_xor_bv, u32_xor_bv, BitVec.xor_comm]
theorem ref_bit1 (s : BitVec 32) : (bits .and .u32 (s.toNat : Int) 1 == 1) = s.getLsbD 0 := by
  have h1 : (1 : Int) = ((1#32).toNat : Int) := rfl
  rw [h1, u32_and_bv]
  rw [Bool.eq_iff_iff]
  rw [beq_iff_eq]
  constructor
  · intro h
    have h' : s &&& 1#32 = 1#32 := BitVec.eq_of_toNat_eq (by omega)
    have := congrArg (fun x => x.getLsbD 0) h'
    simpa using this
  · intro h
    have h' : s &&& 1#32 = 1#32 := by
      ext i hi
      by_cases h0 : i = 0
      · subst h0
        simp [BitVec.getLsbD_eq_getElem] at h
        simp [h]
      · simp [h0, BitVec.getElem_one]
    rw [h']

theorem ref_bit2 (c : UInt8) (j : Nat) : (bits .and .u8 ((c.toNat : Int) / 2 ^ j) 1 == 1) = c.toNat.testBit j := by
  have h0 : ((c.toNat : Int) / 2 ^ j) = ((c.toNat / 2 ^ j : Nat) : Int) := by simp
  have h1 : (1 : Int) = ((1 : Nat) : Int) := rfl
  have hc := c.toNat_lt
  have hd : c.toNat / 2 ^ j ≤ c.toNat := Nat.div_le_self _ _
  rw [h0, h1, u8_and_nat _ _ (by omega) (by omega), Nat.testBit, Nat.shiftRight_eq_div_pow, Nat.and_one_is_mod, Nat.one_and_eq_mod_two]
  rw [Bool.eq_iff_iff]
  simp
  omega

theorem ref_yes (s : BitVec 32) (c : UInt8) (j : Nat) (h : (!(bits .and .u32 (s.toNat : Int) 1 == 1) == (bits .and .u8 ((c.toNat : Int) / 2 ^ j) 1 == 1)) = true) :
    bits .xor .u32 ((s.toNat : Int) / 2) 3988292384 = ((refBit s (c.toNat.testBit j)).toNat : Int) := by
  rw [ref_bit1, ref_bit2] at h
  have h2 : (3988292384 : Int) = ((crcPoly).toNat : Int) := rfl
  have h3 := u32_shr_bv s 1
  simp only [Int.pow_succ, Int.pow_zero, Int.one_mul] at h3
  rw [h2, h3, u32_xor_bv]
  unfold refBit
  rw [if_pos (by simpa [bne] using h)]
theorem ref_no (s : BitVec 32) (c : UInt8) (j : Nat) (h : (!(bits .and .u32 (s.toNat : Int) 1 == 1) == (bits .and .u8 ((c.toNat : Int) / 2 ^ j) 1 == 1)) = false) :
    (s.toNat : Int) / 2 = ((refBit s (c.toNat.testBit j)).toNat : Int) := by
  rw [ref_bit1, ref_bit2] at h
  have h3 := u32_shr_bv s 1
  simp only [Int.pow_succ, Int.pow_zero, Int.one_mul] at h3
  rw [h3]
  unfold refBit
  rw [if_neg (by simpa [bne] using h), BitVec.xor_zero]

set_option maxHeartbeats 400000 in
theorem rsum_any (A : Option Addr) (bs : List UInt8) (c : Nat) (w : World) (hr : Rd w A (b8s bs)) (hm : bs.length ≤ maxLen) :
    Calls Try.prog 48 #[.slice A bs.length c] w fun e w' => w = w' ∧ e = .returned (.int .u32 ((crc bs).toNat : Int)) := by
  unfold maxLen at hm
  go_enter Try.func48, Try.ntmps48
  go_wp2
  go_loop [3, 4] (fun t i => ∃ k : Nat, k ≤ bs.length ∧ i = .int .i64 k ∧ t = .int .u32 ((((bs.take k).foldl crcByte 0xffffffff#32)).toNat : Int)) (fun _ i => bs.length - (intOf i).toNat)
  case atStart => exact ⟨0, by omega, rfl, rfl⟩
  case round =>
    obtain ⟨k, hk, rfl, rfl⟩ := hrel
    by_cases hlt : k < bs.length
    · obtain ⟨b, o, rfl, hc⟩ := hr.byte k hlt
      have hstep := foldl_take crcByte 0xffffffff#32 bs k hlt
      generalize (bs.take k).foldl crcByte 0xffffffff#32 = s at *
      have Hs := Lib.hid hstep
      clear hstep
      go_wp2
      go_loop [3, 5] (fun t i => ∃ j : Nat, j ≤ 8 ∧ i = .int .i64 j ∧ t = .int .u32 (((refN bs[k] j s).toNat : Int))) (fun _ i => 8 - (intOf i).toNat)
      case atStart => exact ⟨0, by omega, rfl, rfl⟩
      case round =>
        obtain ⟨j, hj, rfl, rfl⟩ := hrel
        by_cases hlt8 : j < 8
        · go_wp2
          · rename_i ht
            go_round
            case rel => exact ⟨j + 1, by omega, by go_num, by rw [ref_yes _ _ _ ht]; rfl⟩
            case measure => simp [intOf]; omega
          · rename_i ht
            go_round
            case rel => exact ⟨j + 1, by omega, by go_num, by rw [ref_no _ _ _ ht]; rfl⟩
            case measure => simp [intOf]; omega
        · go_wp2
          go_round
          case rel =>
            have : j = 8 := by omega
            subst this
            exact ⟨k + 1, by omega, by go_num, by rw [Hs.out, crcByte_ref]⟩
          case measure => simp [intOf]; omega
    · go_wp2
      go_ret
      have : k = bs.length := by omega
      subst this
      refine ⟨rfl, ret_u32 ?_⟩
      rw [List.take_length, u32_xor_comm]
      exact u32_not_bv _

end Go.Proofs.Ytfjfidhhmidflaa
