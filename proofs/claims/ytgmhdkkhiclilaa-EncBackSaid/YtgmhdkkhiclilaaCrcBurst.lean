/- CRC-32 tells apart two equally long byte rows that differ within 32 bits alone. No condition; no program. -/
import Derived.Test.YtgmhdkkhiclilaaEncMath
namespace Go.Proofs.Ytgmhdkkhiclilaa

def bits8 (c : UInt8) : List Bool := [c.toNat.testBit 0, c.toNat.testBit 1, c.toNat.testBit 2, c.toNat.testBit 3, c.toNat.testBit 4, c.toNat.testBit 5, c.toNat.testBit 6, c.toNat.testBit 7]
def bitsOf : List UInt8 → List Bool
  | [] => []
  | c :: bs => bits8 c ++ bitsOf bs

theorem bitsOf_length (bs : List UInt8) : (bitsOf bs).length = 8 * bs.length := by
  induction bs with
  | nil => rfl
  | cons c bs ih => simp only [bitsOf, List.length_append, ih, List.length_cons, bits8, List.length_nil]; omega

theorem crcByte_bits (s : BitVec 32) (c : UInt8) : crcByte s c = (bits8 c).foldl refBit s := by
  rw [crcByte_ref]; rfl

theorem crcAll_bits (bs : List UInt8) (s : BitVec 32) : bs.foldl crcByte s = (bitsOf bs).foldl refBit s := by
  induction bs generalizing s with
  | nil => rfl
  | cons c bs ih => simp only [List.foldl_cons, bitsOf, List.foldl_append, ih, crcByte_bits]

theorem bits8_get (c : UInt8) (i : Nat) (h : i < 8) : (bits8 c)[i]? = some (c.toNat.testBit i) := by
  match i, h with
  | 0, _ => rfl
  | 1, _ => rfl
  | 2, _ => rfl
  | 3, _ => rfl
  | 4, _ => rfl
  | 5, _ => rfl
  | 6, _ => rfl
  | 7, _ => rfl

theorem bitsOf_get (bs : List UInt8) (i : Nat) : (bitsOf bs)[i]? = (bs[i / 8]?).map fun c => c.toNat.testBit (i % 8) := by
  induction bs generalizing i with
  | nil => simp [bitsOf]
  | cons c bs ih =>
    simp only [bitsOf]
    by_cases h : i < 8
    · rw [List.getElem?_append_left (by simp [bits8]; omega), bits8_get c i h]
      have h0 : i / 8 = 0 := by omega
      have h1 : i % 8 = i := by omega
      rw [h0, h1]
      rfl
    · rw [List.getElem?_append_right (by simp [bits8]; omega)]
      have h0 : i - (bits8 c).length = i - 8 := rfl
      rw [h0, ih]
      have h1 : i / 8 = (i - 8) / 8 + 1 := by omega
      have h2 : i % 8 = (i - 8) % 8 := by omega
      rw [h1, h2, List.getElem?_cons_succ]

theorem bitsOf_inj {a b : List UInt8} (h : bitsOf a = bitsOf b) : a = b := by
  have hl : a.length = b.length := by
    have := congrArg List.length h
    rw [bitsOf_length, bitsOf_length] at this
    omega
  refine List.ext_getElem hl fun k h1 h2 => ?_
  refine UInt8.toNat_inj.1 (Nat.eq_of_testBit_eq fun j => ?_)
  by_cases hj : j < 8
  · have := congrArg (fun l => l[8 * k + j]?) h
    simp only [bitsOf_get] at this
    have e1 : (8 * k + j) / 8 = k := by omega
    have e2 : (8 * k + j) % 8 = j := by omega
    rw [e1, e2, List.getElem?_eq_getElem h1, List.getElem?_eq_getElem h2] at this
    simpa using this
  · have hp : 2 ^ 8 ≤ 2 ^ j := Nat.pow_le_pow_right (by decide) (by omega)
    rw [Nat.testBit_lt_two_pow (Nat.lt_of_lt_of_le a[k].toNat_lt hp), Nat.testBit_lt_two_pow (Nat.lt_of_lt_of_le b[k].toNat_lt hp)]

/-! ### the register's step is one to one, and tells 32 bits -/
def bv (b : Bool) : BitVec 32 := if b = true then 1#32 else 0#32

theorem bv_lsb (b : Bool) : (bv b).getLsbD 0 = b := by cases b <;> rfl
theorem bv_hi (b : Bool) (j : Nat) : (bv b).getLsbD (j + 1) = false := by
  cases b
  · simp [bv]
  · simp [bv, BitVec.getLsbD_one]

theorem refBit_crc (s : BitVec 32) (b : Bool) : refBit s b = crcBit (s ^^^ bv b) := by
  rw [crcBit_if]
  unfold refBit
  have h1 : (s ^^^ bv b).getLsbD 0 = (s.getLsbD 0 != b) := by
    rw [BitVec.getLsbD_xor, bv_lsb]
  have h2 : (s ^^^ bv b) >>> 1 = s >>> 1 := by
    apply BitVec.eq_of_getLsbD_eq
    intro i hi
    rw [BitVec.getLsbD_ushiftRight, BitVec.getLsbD_ushiftRight, BitVec.getLsbD_xor, Nat.add_comm 1 i, bv_hi, Bool.xor_false]
  rw [h1, h2]

theorem crcBit_xor (x y : BitVec 32) : crcBit x ^^^ crcBit y = crcBit (x ^^^ y) := by
  rw [crcBit_if, crcBit_if, crcBit_if, BitVec.ushiftRight_xor_distrib, BitVec.getLsbD_xor]
  have e : ∀ a b c d : BitVec 32, (a ^^^ b) ^^^ (c ^^^ d) = (a ^^^ c) ^^^ (b ^^^ d) := by
    intro a b c d
    rw [BitVec.xor_assoc, BitVec.xor_assoc]
    congr 1
    rw [← BitVec.xor_assoc, ← BitVec.xor_assoc, BitVec.xor_comm b c]
  rw [e]
  congr 1
  cases x.getLsbD 0 <;> cases y.getLsbD 0 <;> simp

theorem crcPoly_top : crcPoly.getLsbD 31 = true := by decide

theorem crcBit_top (x : BitVec 32) : (crcBit x).getLsbD 31 = x.getLsbD 0 := by
  rw [crcBit_if, BitVec.getLsbD_xor, BitVec.getLsbD_ushiftRight]
  have h : x.getLsbD (1 + 31) = false := BitVec.getLsbD_of_ge _ _ (by omega)
  rw [h]
  cases x.getLsbD 0
  · simp
  · simp [crcPoly_top]

/-- what a register was, if so many steps from it end in nought -/
theorem burst_back : ∀ (es : List Bool) (d : BitVec 32), es.length ≤ 32 → es.foldl (fun d e => crcBit (d ^^^ bv e)) d = 0#32 → ∀ j, j < 32 → d.getLsbD j = es.getD j false
  | [], d, _, h, j, _ => by
    simp only [List.foldl_nil] at h
    subst h
    simp
  | e :: es, d, hl, h, j, hj => by
    simp only [List.foldl_cons] at h
    simp only [List.length_cons] at hl
    have ih := burst_back es _ (by omega) h
    have htop := ih 31 (by omega)
    have hn : es.getD 31 false = false := by
      rw [List.getD_eq_getElem?_getD, List.getElem?_eq_none (by omega)]; rfl
    rw [crcBit_top, hn] at htop
    have hshift : crcBit (d ^^^ bv e) = (d ^^^ bv e) >>> 1 := by
      rw [crcBit_if, htop]; simp
    have h0 : d.getLsbD 0 = e := by
      rw [BitVec.getLsbD_xor, bv_lsb] at htop
      revert htop
      cases d.getLsbD 0 <;> cases e <;> simp
    cases j with
    | zero => simpa using h0
    | succ j =>
      have := ih j (by omega)
      rw [hshift, BitVec.getLsbD_ushiftRight, BitVec.getLsbD_xor, Nat.add_comm 1 j, bv_hi, Bool.xor_false] at this
      rw [this]
      rfl

/-- how two registers part, step by step -/
theorem fold_diff : ∀ (u v : List Bool) (s t : BitVec 32), u.length = v.length →
    u.foldl refBit s ^^^ v.foldl refBit t = (List.zipWith (fun a b => a != b) u v).foldl (fun d e => crcBit (d ^^^ bv e)) (s ^^^ t)
  | [], [], s, t, _ => rfl
  | a :: u, b :: v, s, t, h => by
    simp only [List.foldl_cons, List.zipWith_cons_cons]
    rw [fold_diff u v _ _ (by simpa using h), refBit_crc, refBit_crc, crcBit_xor]
    congr 2
    have e : ∀ a b c d : BitVec 32, (a ^^^ b) ^^^ (c ^^^ d) = (a ^^^ c) ^^^ (b ^^^ d) := by
      intro a b c d
      rw [BitVec.xor_assoc, BitVec.xor_assoc]
      congr 1
      rw [← BitVec.xor_assoc, ← BitVec.xor_assoc, BitVec.xor_comm b c]
    rw [e]
    congr 1
    cases a <;> cases b <;> rfl
  | [], _ :: _, _, _, h => by simp at h
  | _ :: _, [], _, _, h => by simp at h

theorem xor_zero_iff {s t : BitVec 32} : s ^^^ t = 0#32 ↔ s = t := by
  constructor
  · intro h
    have := congrArg (· ^^^ t) h
    simp only [BitVec.xor_assoc, BitVec.xor_self, BitVec.xor_zero, BitVec.zero_xor] at this
    exact this
  · rintro rfl; exact BitVec.xor_self

/-- behind equal bits two registers are one just if they were -/
theorem fold_same_iff (q : List Bool) (s t : BitVec 32) : q.foldl refBit s = q.foldl refBit t ↔ s = t := by
  induction q generalizing s t with
  | nil => simp
  | cons b q ih =>
    rw [List.foldl_cons, List.foldl_cons, ih, refBit_crc, refBit_crc]
    constructor
    · intro h
      have h0 := xor_zero_iff.2 h
      rw [crcBit_xor] at h0
      have hd := burst_back [] (crcBit ((s ^^^ bv b) ^^^ (t ^^^ bv b))) (by simp) (by simpa using h0)
      have h1 := burst_back [false] ((s ^^^ bv b) ^^^ (t ^^^ bv b)) (by simp) (by simpa [bv] using h0)
      have h2 : ((s ^^^ bv b) ^^^ (t ^^^ bv b)) = 0#32 := by
        apply BitVec.eq_of_getLsbD_eq
        intro i hi
        rw [h1 i hi]
        cases i with
        | zero => simp
        | succ i => simp
      have h3 := xor_zero_iff.1 h2
      have := congrArg (· ^^^ bv b) h3
      simpa only [BitVec.xor_assoc, BitVec.xor_self, BitVec.xor_zero] using this
    · rintro rfl; rfl

/-- 32 bits are told apart -/
theorem fold_32 {u v : List Bool} {s : BitVec 32} (hl : u.length = v.length) (h32 : u.length ≤ 32) (h : u.foldl refBit s = v.foldl refBit s) : u = v := by
  have h0 := xor_zero_iff.2 h
  rw [fold_diff u v s s hl, BitVec.xor_self] at h0
  have hz := burst_back _ _ (by simp; omega) h0
  refine List.ext_getElem hl fun k h1 h2 => ?_
  have := hz k (by omega)
  rw [List.getD_eq_getElem?_getD, List.getElem?_eq_getElem (by simp; omega)] at this
  simp only [List.getElem_zipWith, Option.getD_some] at this
  have hk : (u[k] != v[k]) = false := by rw [← this]; simp
  simpa using hk

theorem fold_window {x y : List Bool} {s : BitVec 32} (f : Nat) (hl : x.length = y.length) (hout : ∀ i, i < f ∨ f + 32 ≤ i → x[i]? = y[i]?) (h : x.foldl refBit s = y.foldl refBit s) : x = y := by
  have hp : x.take f = y.take f := by
    apply List.ext_getElem?
    intro i
    rw [List.getElem?_take, List.getElem?_take]
    split
    · exact hout i (.inl ‹_›)
    · rfl
  have hq : x.drop (f + 32) = y.drop (f + 32) := by
    apply List.ext_getElem?
    intro i
    rw [List.getElem?_drop, List.getElem?_drop]
    exact hout _ (.inr (by omega))
  have hx : x = x.take f ++ ((x.drop f).take 32 ++ x.drop (f + 32)) := by
    rw [← List.drop_drop, List.take_append_drop, List.take_append_drop]
  have hy : y = x.take f ++ ((y.drop f).take 32 ++ x.drop (f + 32)) := by
    rw [hp, hq, ← List.drop_drop, List.take_append_drop, List.take_append_drop]
  rw [hx, hy] at h
  simp only [List.foldl_append] at h
  have h' := (fold_same_iff _ _ _).1 h
  have hm := fold_32 (by simp only [List.length_take, List.length_drop]; omega) (by rw [List.length_take]; omega) h'
  rw [hx, hm, ← hy]

/-- the law's heart -/
theorem crc_window {a b : List UInt8} (f : Nat) (hl : a.length = b.length) (hout : ∀ i, i < f ∨ f + 32 ≤ i → (bitsOf a)[i]? = (bitsOf b)[i]?) : crc a = crc b ↔ a = b := by
  constructor
  · intro h
    unfold crc at h
    have h' : crcAll a = crcAll b := by
      have := congrArg (fun x => ~~~x) h
      simpa using this
    unfold crcAll at h'
    rw [crcAll_bits, crcAll_bits] at h'
    exact bitsOf_inj (fold_window f (by rw [bitsOf_length, bitsOf_length, hl]) hout h')
  · rintro rfl; rfl

/-- a byte with one bit turned differs in that bit alone -/
theorem bitsOf_set (bs : List UInt8) (i : Nat) (hi : i / 8 < bs.length) (c : UInt8) (hc : ∀ j, j < 8 → j ≠ i % 8 → c.toNat.testBit j = bs[i / 8].toNat.testBit j) (k : Nat) (hk : k ≠ i) :
    (bitsOf (bs.set (i / 8) c))[k]? = (bitsOf bs)[k]? := by
  rw [bitsOf_get, bitsOf_get, List.getElem?_set]
  by_cases h : i / 8 = k / 8
  · rw [if_pos h, if_pos hi, ← h, List.getElem?_eq_getElem hi]
    simp only [Option.map_some, Option.some.injEq]
    exact hc _ (by omega) (by omega)
  · rw [if_neg h]
end Go.Proofs.Ytgmhdkkhiclilaa
