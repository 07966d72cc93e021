
/- The plain side of layer 2: CRC-32 and numbers in groups of 7 bits. No condition; no program. -/

import Derived.Test.YtabkgoandfpclaaBase

namespace Go.Proofs.Ytabkgoandfpclaa

open Go.RowKit

/-! ### numbers in a slot -/

theorem u32_xor_bv (x y : BitVec 32) : bits .xor .u32 (x.toNat : Int) (y.toNat : Int) = ((x ^^^ y).toNat : Int) := by
  rw [u32_xor_nat _ _ x.isLt y.isLt, BitVec.toNat_xor]
theorem u32_and_bv (x y : BitVec 32) : bits .and .u32 (x.toNat : Int) (y.toNat : Int) = ((x &&& y).toNat : Int) := by
  rw [u32_and_nat _ _ x.isLt y.isLt, BitVec.toNat_and]
theorem u32_or_bv (x y : BitVec 32) : bits .or .u32 (x.toNat : Int) (y.toNat : Int) = ((x ||| y).toNat : Int) := by
  rw [u32_or_nat _ _ x.isLt y.isLt, BitVec.toNat_or]
theorem u32_neg_bv (x : BitVec 32) : -(x.toNat : Int) % 4294967296 = ((-x).toNat : Int) := by
  rw [BitVec.toNat_neg]
  have := x.isLt
  omega
theorem u32_shr_bv (x : BitVec 32) (k : Nat) : (x.toNat : Int) / 2 ^ k = ((x >>> k).toNat : Int) := by
  rw [BitVec.toNat_ushiftRight, Nat.shiftRight_eq_div_pow]
  simp
theorem u32_not_bv (x : BitVec 32) : bits .xor .u32 4294967295 (x.toNat : Int) = ((~~~x).toNat : Int) := by
  have h : (4294967295 : Int) = ((4294967295#32).toNat : Int) := rfl
  rw [h, u32_xor_bv, show (4294967295#32) = BitVec.allOnes 32 from rfl, BitVec.allOnes_xor]

/-! ### CRC-32 -/

def crcPoly : BitVec 32 := 0xedb88320#32
def crcBit (s : BitVec 32) : BitVec 32 := (s >>> 1) ^^^ (crcPoly &&& -(s &&& 1#32))
def crcN : Nat → BitVec 32 → BitVec 32
  | 0, s => s
  | n + 1, s => crcBit (crcN n s)
def wide (c : UInt8) : BitVec 32 := BitVec.ofNat 32 c.toNat
def crcByte (s : BitVec 32) (c : UInt8) : BitVec 32 := crcN 8 (s ^^^ wide c)
def crcAll (bs : List UInt8) : BitVec 32 := bs.foldl crcByte 0xffffffff#32
def crc (bs : List UInt8) : BitVec 32 := ~~~ crcAll bs

theorem wide_toNat (c : UInt8) : (wide c).toNat = c.toNat := by
  have := c.toNat_lt
  simp only [wide, BitVec.toNat_ofNat]
  omega

theorem foldl_take {α β : Type} (f : β → α → β) (s : β) (l : List α) (k : Nat) (h : k < l.length) : (l.take (k + 1)).foldl f s = f ((l.take k).foldl f s) l[k] := by
  rw [List.take_succ_eq_append_getElem h, List.foldl_append]; rfl

theorem crc_first (s : BitVec 32) (c : UInt8) : bits .xor .u32 (s.toNat : Int) ((c.toNat : Int) % 4294967296) = ((s ^^^ wide c).toNat : Int) := by
  have h : ((c.toNat : Int) % 4294967296) = ((wide c).toNat : Int) := by
    rw [wide_toNat]
    have := c.toNat_lt
    omega
  rw [h, u32_xor_bv]
theorem crc_step (s : BitVec 32) :
    bits .xor .u32 ((s.toNat : Int) / 2) (bits .and .u32 3988292384 (-bits .and .u32 (s.toNat : Int) 1 % 4294967296)) = ((crcBit s).toNat : Int) := by
  have h1 : (1 : Int) = ((1#32).toNat : Int) := rfl
  have h2 : (3988292384 : Int) = ((crcPoly).toNat : Int) := rfl
  have h3 := u32_shr_bv s 1
  simp only [Int.pow_succ, Int.pow_zero, Int.one_mul] at h3
  rw [h1, u32_and_bv, u32_neg_bv, h2, u32_and_bv, h3, u32_xor_bv]
  rfl

/-- the other text's step: with the byte's bit apart -/
def refBit (s : BitVec 32) (b : Bool) : BitVec 32 := (s >>> 1) ^^^ (if (s.getLsbD 0 != b) = true then crcPoly else 0#32)
def refN (c : UInt8) : Nat → BitVec 32 → BitVec 32
  | 0, s => s
  | n + 1, s => refBit (refN c n s) (c.toNat.testBit n)

theorem crcBit_if (s : BitVec 32) : crcBit s = (s >>> 1) ^^^ (if s.getLsbD 0 = true then crcPoly else 0#32) := by
  unfold crcBit
  congr 1
  have h : s &&& 1#32 = if s.getLsbD 0 = true then 1#32 else 0#32 := by
    ext i hi
    by_cases h0 : i = 0
    · subst h0
      cases hb : s[0] <;> simp [hb, BitVec.getLsbD_eq_getElem]
    · have h1 : (1#32).getLsbD i = false := by
        rw [BitVec.getLsbD_one]; simp [h0]
      rw [BitVec.getElem_and, ← BitVec.getLsbD_eq_getElem (x := 1#32), h1, Bool.and_false]
      split
      · rw [← BitVec.getLsbD_eq_getElem, h1]
      · simp
  rw [h]
  split <;> decide

theorem crcBit_ref (x : BitVec 32) (c : UInt8) (j : Nat) : crcBit (x ^^^ (wide c >>> j)) = refBit x (c.toNat.testBit j) ^^^ (wide c >>> (j + 1)) := by
  rw [crcBit_if]
  unfold refBit
  have h1 : (x ^^^ (wide c >>> j)).getLsbD 0 = (x.getLsbD 0 != c.toNat.testBit j) := by
    rw [BitVec.getLsbD_xor, BitVec.getLsbD_ushiftRight]
    have : (wide c).getLsbD (j + 0) = c.toNat.testBit j := by
      rw [Nat.add_zero, BitVec.getLsbD, wide_toNat]
    rw [this]
  have h2 : (x ^^^ (wide c >>> j)) >>> 1 = (x >>> 1) ^^^ (wide c >>> (j + 1)) := by
    rw [BitVec.ushiftRight_xor_distrib, BitVec.shiftRight_add]
  rw [h1, h2]
  rw [BitVec.xor_assoc, BitVec.xor_assoc]
  congr 1
  exact BitVec.xor_comm _ _

theorem crcN_ref (s : BitVec 32) (c : UInt8) (j : Nat) : crcN j (s ^^^ wide c) = refN c j s ^^^ (wide c >>> j) := by
  induction j with
  | zero => simp [crcN, refN]
  | succ n ih => simp only [crcN, refN, ih, crcBit_ref]

theorem wide_shift8 (c : UInt8) : wide c >>> 8 = 0#32 := by
  apply BitVec.eq_of_toNat_eq
  rw [BitVec.toNat_ushiftRight, wide_toNat, Nat.shiftRight_eq_div_pow]
  have := c.toNat_lt
  simp
  omega

theorem crcByte_ref (s : BitVec 32) (c : UInt8) : crcByte s c = refN c 8 s := by
  unfold crcByte
  rw [crcN_ref, wide_shift8]
  simp

/-! ### a number in groups of 7 bits -/

/-- n's groups, with fuel -/
def numF : Nat → Nat → List UInt8
  | 0, _ => []
  | f + 1, n => if n < 128 then [UInt8.ofNat n] else UInt8.ofNat (n % 128 + 128) :: numF f (n / 128)
def most : Nat := 4611686018427387904
/-- the number as which an integer counts -/
def clampN (n : Int) : Nat := if n < 0 then 0 else if n > 4611686018427387904 then most else n.toNat
def numB (n : Nat) : List UInt8 := numF 10 n

theorem clampN_le (n : Int) : clampN n ≤ 4611686018427387904 := by
  unfold clampN most
  split
  · omega
  · split <;> omega
theorem clampN_eq (n : Int) : ((clampN n : Nat) : Int) = min (max n 0) 4611686018427387904 := by
  unfold clampN most
  split
  · omega
  · split <;> omega
theorem numF_ge (f n : Nat) (h : 128 ≤ n) : numF (f + 1) n = UInt8.ofNat (n % 128 + 128) :: numF f (n / 128) := by
  rw [numF, if_neg (by omega)]
theorem numF_lt (f n : Nat) (h : n < 128) : numF (f + 1) n = [UInt8.ofNat n] := by
  rw [numF, if_pos h]
theorem u8_high (n : Nat) : bits .or .u8 ((n : Int) % 256) 128 = ((UInt8.ofNat (n % 128 + 128)).toNat : Int) := by
  have h1 : ((n : Int) % 256) = ((n % 256 : Nat) : Int) := by omega
  have h2 : (128 : Int) = ((128 : Nat) : Int) := rfl
  rw [h1, h2, u8_or_nat _ _ (by omega) (by omega)]
  have hb : ∀ x, x < 256 → x ||| 128 = x % 128 + 128 := by decide +kernel
  rw [hb _ (by omega), UInt8.toNat_ofNat']
  congr 1
  omega
theorem u8_low (n : Nat) : ((n : Int) % 256) = ((UInt8.ofNat n).toNat : Int) := by
  rw [UInt8.toNat_ofNat']
  omega
end Go.Proofs.Ytabkgoandfpclaa
