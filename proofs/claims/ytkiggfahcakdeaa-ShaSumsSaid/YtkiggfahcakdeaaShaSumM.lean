
/- SHA-256, plain: words as BitVec 32. No condition. -/

import Derived.Test.YtkiggfahcakdeaaShaParse

namespace Go.Proofs.Ytkiggfahcakdeaa

set_option linter.unusedVariables false

set_option linter.unusedSimpArgs false

open Go.RowKit

/-! ### words in a slot -/

theorem bv_xor (x y : BitVec 32) : bits .xor .u32 (x.toNat : Int) (y.toNat : Int) = ((x ^^^ y).toNat : Int) := by
  rw [u32_xor_nat _ _ x.isLt y.isLt, BitVec.toNat_xor]
theorem bv_and (x y : BitVec 32) : bits .and .u32 (x.toNat : Int) (y.toNat : Int) = ((x &&& y).toNat : Int) := by
  rw [u32_and_nat _ _ x.isLt y.isLt, BitVec.toNat_and]
theorem bv_or (x y : BitVec 32) : bits .or .u32 (x.toNat : Int) (y.toNat : Int) = ((x ||| y).toNat : Int) := by
  rw [u32_or_nat _ _ x.isLt y.isLt, BitVec.toNat_or]
theorem bv_not (x : BitVec 32) : bits .xor .u32 4294967295 (x.toNat : Int) = ((~~~x).toNat : Int) := by
  have h : (4294967295 : Int) = ((4294967295#32).toNat : Int) := rfl
  rw [h, bv_xor, show (4294967295#32) = BitVec.allOnes 32 from rfl, BitVec.allOnes_xor]
theorem bv_add (x y : BitVec 32) : ((x.toNat : Int) + (y.toNat : Int)) % 4294967296 = ((x + y).toNat : Int) := by
  rw [BitVec.toNat_add]; omega
theorem bv_shr (x : BitVec 32) (k m : Nat) (h : 2 ^ k = m) : (x.toNat : Int) / (m : Int) = ((x >>> k).toNat : Int) := by
  rw [BitVec.toNat_ushiftRight, Nat.shiftRight_eq_div_pow, h]; simp
theorem bv_shl (x : BitVec 32) (k m : Nat) (h : 2 ^ k = m) : (x.toNat : Int) * (m : Int) % 4294967296 = ((x <<< k).toNat : Int) := by
  rw [BitVec.toNat_shiftLeft, Nat.shiftLeft_eq, h]; simp
theorem bv_shr3 (x : BitVec 32) : (x.toNat : Int) / 8 = ((x >>> 3).toNat : Int) := bv_shr x 3 8 rfl
theorem bv_shr8 (x : BitVec 32) : (x.toNat : Int) / 256 = ((x >>> 8).toNat : Int) := bv_shr x 8 256 rfl
theorem bv_shr10 (x : BitVec 32) : (x.toNat : Int) / 1024 = ((x >>> 10).toNat : Int) := bv_shr x 10 1024 rfl
theorem bv_shr16 (x : BitVec 32) : (x.toNat : Int) / 65536 = ((x >>> 16).toNat : Int) := bv_shr x 16 65536 rfl
theorem bv_shr24 (x : BitVec 32) : (x.toNat : Int) / 16777216 = ((x >>> 24).toNat : Int) := bv_shr x 24 16777216 rfl

/-! ### the sum -/

abbrev W32 := BitVec 32
def rotr (x : W32) (n : Nat) : W32 := (x >>> n) ||| (x <<< (32 - n))
def sg0 (x : W32) : W32 := rotr x 7 ^^^ rotr x 18 ^^^ x >>> 3
def sg1 (x : W32) : W32 := rotr x 17 ^^^ rotr x 19 ^^^ x >>> 10
def bg0 (x : W32) : W32 := rotr x 2 ^^^ rotr x 13 ^^^ rotr x 22
def bg1 (x : W32) : W32 := rotr x 6 ^^^ rotr x 11 ^^^ rotr x 25
def wd (c : UInt8) : W32 := BitVec.ofNat 32 c.toNat
def word4 (a b c d : UInt8) : W32 := wd a <<< 24 ||| wd b <<< 16 ||| wd c <<< 8 ||| wd d
/-- a block's words -/
def words (l : List UInt8) : List W32 := (List.range 16).map fun i => word4 (l.getD (4 * i) 0) (l.getD (4 * i + 1) 0) (l.getD (4 * i + 2) 0) (l.getD (4 * i + 3) 0)
def wNext (l : List W32) : W32 := sg1 (l.getD (l.length - 2) 0) + l.getD (l.length - 7) 0 + sg0 (l.getD (l.length - 15) 0) + l.getD (l.length - 16) 0
def wExt : Nat → List W32 → List W32
  | 0, l => l
  | n + 1, l => wExt n l ++ [wNext (wExt n l)]
def sched (l : List UInt8) : List W32 := wExt 48 (words l)
structure St8 where
  a : W32
  b : W32
  c : W32
  d : W32
  e : W32
  f : W32
  g : W32
  h : W32
def St8.list (s : St8) : List W32 := [s.a, s.b, s.c, s.d, s.e, s.f, s.g, s.h]
def tm1 (s : St8) (k w : W32) : W32 := s.h + bg1 s.e + ((s.e &&& s.f) ^^^ (~~~s.e &&& s.g)) + k + w
def tm2 (s : St8) : W32 := bg0 s.a + ((s.a &&& s.b) ^^^ (s.a &&& s.c) ^^^ (s.b &&& s.c))
def rnd (s : St8) (k w : W32) : St8 := ⟨tm1 s k w + tm2 s, s.a, s.b, s.c, s.d + tm1 s k w, s.e, s.f, s.g⟩
def rnds (K w : List W32) : Nat → St8 → St8
  | 0, s => s
  | n + 1, s => rnd (rnds K w n s) (K.getD n 0) (w.getD n 0)
def St8.plus (s t : St8) : St8 := ⟨s.a + t.a, s.b + t.b, s.c + t.c, s.d + t.d, s.e + t.e, s.f + t.f, s.g + t.g, s.h + t.h⟩
def comp (K : List W32) (s : St8) (l : List UInt8) : St8 := s.plus (rnds K (sched l) 64 s)
def eat (K : List W32) (l : List UInt8) : Nat → St8 → St8
  | 0, s => s
  | n + 1, s => comp K (eat K l n s) (l.drop (64 * n))
def H0 : St8 := ⟨0x6a09e667#32, 0xbb67ae85#32, 0x3c6ef372#32, 0xa54ff53a#32, 0x510e527f#32, 0x9b05688c#32, 0x1f83d9ab#32, 0x5be0cd19#32⟩
def K0 : List W32 := [
  0x428a2f98#32, 0x71374491#32, 0xb5c0fbcf#32, 0xe9b5dba5#32, 0x3956c25b#32, 0x59f111f1#32, 0x923f82a4#32, 0xab1c5ed5#32, 0xd807aa98#32, 0x12835b01#32, 0x243185be#32, 0x550c7dc3#32, 0x72be5d74#32, 0x80deb1fe#32, 0x9bdc06a7#32, 0xc19bf174#32,
  0xe49b69c1#32, 0xefbe4786#32, 0x0fc19dc6#32, 0x240ca1cc#32, 0x2de92c6f#32, 0x4a7484aa#32, 0x5cb0a9dc#32, 0x76f988da#32, 0x983e5152#32, 0xa831c66d#32, 0xb00327c8#32, 0xbf597fc7#32, 0xc6e00bf3#32, 0xd5a79147#32, 0x06ca6351#32, 0x14292967#32,
  0x27b70a85#32, 0x2e1b2138#32, 0x4d2c6dfc#32, 0x53380d13#32, 0x650a7354#32, 0x766a0abb#32, 0x81c2c92e#32, 0x92722c85#32, 0xa2bfe8a1#32, 0xa81a664b#32, 0xc24b8b70#32, 0xc76c51a3#32, 0xd192e819#32, 0xd6990624#32, 0xf40e3585#32, 0x106aa070#32,
  0x19a4c116#32, 0x1e376c08#32, 0x2748774c#32, 0x34b0bcb5#32, 0x391c0cb3#32, 0x4ed8aa4a#32, 0x5b9cca4f#32, 0x682e6ff3#32, 0x748f82ee#32, 0x78a5636f#32, 0x84c87814#32, 0x8cc70208#32, 0x90befffa#32, 0xa4506ceb#32, 0xbef9a3f7#32, 0xc67178f2#32]
def len8 (n : Nat) : List UInt8 := (List.range 8).map fun i => UInt8.ofNat (n / 2 ^ (56 - 8 * i))
def zPad (n : Nat) : Nat := (119 - n % 64) % 64
/-- what stands behind n bytes -/
def padOf (n : Nat) : List UInt8 := [128] ++ List.replicate (zPad n) 0 ++ len8 (8 * n)
def padded (b : List UInt8) : List UInt8 := b ++ padOf b.length
def b4 (x : W32) : List UInt8 := [UInt8.ofNat (x >>> 24).toNat, UInt8.ofNat (x >>> 16).toNat, UInt8.ofNat (x >>> 8).toNat, UInt8.ofNat x.toNat]
def outB (s : St8) : List UInt8 := (s.list.map b4).flatten
def shaL (b : List UInt8) : List UInt8 := outB (eat K0 (padded b) ((padded b).length / 64) H0)

theorem sha_abc : shaL [97, 98, 99] = [0xba, 0x78, 0x16, 0xbf, 0x8f, 0x01, 0xcf, 0xea, 0x41, 0x41, 0x40, 0xde, 0x5d, 0xae, 0x22, 0x23, 0xb0, 0x03, 0x61, 0xa3, 0x96, 0x17, 0x7a, 0x9c, 0xb4, 0x10, 0xff, 0x61, 0xf2, 0x00, 0x15, 0xad] := by decide +kernel
theorem shaL_len (b : List UInt8) : (shaL b).length = 32 := rfl
theorem words_len (l : List UInt8) : (words l).length = 16 := by simp [words]
theorem wExt_len (n : Nat) (l : List W32) : (wExt n l).length = l.length + n := by
  induction n with
  | zero => rfl
  | succ n ih => simp [wExt, ih]; omega
theorem sched_len (l : List UInt8) : (sched l).length = 64 := by simp [sched, wExt_len, words_len]
theorem words_get (l : List UInt8) (i : Nat) (h : i < 16) : (words l)[i]'(by rw [words_len]; exact h) = word4 (l.getD (4 * i) 0) (l.getD (4 * i + 1) 0) (l.getD (4 * i + 2) 0) (l.getD (4 * i + 3) 0) := by
  simp [words]
theorem wExt_prefix (n m : Nat) (l : List W32) : ∃ r, wExt (n + m) l = wExt n l ++ r := by
  induction m with
  | zero => exact ⟨[], by simp⟩
  | succ m ih =>
    obtain ⟨r, hr⟩ := ih
    exact ⟨r ++ [wNext (wExt (n + m) l)], by rw [← Nat.add_assoc]; simp only [wExt]; rw [hr, List.append_assoc]⟩

theorem words_front (l1 l2 : List UInt8) (h : 64 ≤ l1.length) : words (l1 ++ l2) = words l1 := by
  unfold words
  refine List.map_congr_left fun i hi => ?_
  have hi' : i < 16 := by simpa using hi
  have hg : ∀ j, j < 64 → (l1 ++ l2).getD j 0 = l1.getD j 0 := fun j hj => by
    rw [List.getD_eq_getElem?_getD, List.getD_eq_getElem?_getD, List.getElem?_append_left (by omega)]
  rw [hg _ (by omega), hg _ (by omega), hg _ (by omega), hg _ (by omega)]
theorem comp_front (K : List W32) (s : St8) (l1 l2 : List UInt8) (h : 64 ≤ l1.length) : comp K s (l1 ++ l2) = comp K s l1 := by
  unfold comp sched
  rw [words_front l1 l2 h]
theorem comp_take (K : List W32) (s : St8) (l : List UInt8) (h : 64 ≤ l.length) : comp K s (l.take 64) = comp K s l := by
  have := comp_front K s (l.take 64) (l.drop 64) (by rw [List.length_take]; omega)
  rw [List.take_append_drop] at this
  exact this.symm
theorem eat_front (K : List W32) (l1 l2 : List UInt8) (s : St8) : ∀ n, 64 * n ≤ l1.length → eat K (l1 ++ l2) n s = eat K l1 n s
  | 0, _ => rfl
  | n + 1, h => by
    have ih := eat_front K l1 l2 s n (by omega)
    simp only [eat, ih]
    rw [List.drop_append_of_le_length (by omega)]
    exact comp_front K _ _ _ (by rw [List.length_drop]; omega)
theorem eat_append (K : List W32) (l1 l2 : List UInt8) (s : St8) (m : Nat) (h : l1.length = 64 * m) : ∀ n, eat K (l1 ++ l2) (m + n) s = eat K l2 n (eat K l1 m s)
  | 0 => by simpa [eat] using eat_front K l1 l2 s m (by omega)
  | n + 1 => by
    have ih := eat_append K l1 l2 s m h n
    have e : m + (n + 1) = (m + n) + 1 := by omega
    rw [e]
    simp only [eat, ih]
    congr 1
    have : 64 * (m + n) = l1.length + 64 * n := by omega
    rw [this, List.drop_append]
    simp
theorem padOf_len (n : Nat) : (n + (padOf n).length) % 64 = 0 ∧ (padOf n).length = 9 + zPad n := by
  have h : (padOf n).length = 9 + zPad n := by
    simp only [padOf, len8, List.length_append, List.length_cons, List.length_nil, List.length_replicate, List.length_map, List.length_range]
    omega
  refine ⟨?_, h⟩
  rw [h]
  unfold zPad
  omega
theorem padded_len (b : List UInt8) : (padded b).length % 64 = 0 := by
  rw [padded, List.length_append]
  exact (padOf_len b.length).1
end Go.Proofs.Ytkiggfahcakdeaa
