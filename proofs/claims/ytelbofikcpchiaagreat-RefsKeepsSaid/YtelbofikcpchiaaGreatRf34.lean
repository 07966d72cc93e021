
/- Refs, plain: the records of RefsKeeps. -/

import Derived.Test.YtelbofikcpchiaaGreatRf32

import Derived.Test.YtelbofikcpchiaaGreatRf33

namespace Go.Proofs.YtelbofikcpchiaaGreat

set_option linter.unusedVariables false

set_option linter.unusedSimpArgs false

set_option maxRecDepth 100000

/-- a turn of heads/main -/
def kT (old new : List UInt8) : TxM := tx1 ⟨mainB, old, new⟩
theorem pay_kT {old new : List UInt8} (ho : old.length = 32) (hn : new.length = 32) : payloadB (kT old new) = [1, 10] ++ mainB ++ old ++ new ++ [0] ++ Z32 := by
  obtain ⟨a0, a1, a2, a3, a4, a5, a6, a7, a8, a9, b0, b1, b2, b3, b4, b5, b6, b7, b8, b9, c0, c1, c2, c3, c4, c5, c6, c7, c8, c9, d0, d1, rfl⟩ := cells32 ho
  obtain ⟨e0, e1, e2, e3, e4, e5, e6, e7, e8, e9, f0, f1, f2, f3, f4, f5, f6, f7, f8, f9, g0, g1, g2, g3, g4, g5, g6, g7, g8, g9, h0, h1, rfl⟩ := cells32 hn
  kernel_rfl
theorem pay_len {old new : List UInt8} (ho : old.length = 32) (hn : new.length = 32) : (payloadB (kT old new)).length = 109 := by
  rw [pay_kT ho hn]
  simp [ho, hn, mainB, heads, Z32]
theorem parse_kT {old new : List UInt8} (ho : old.length = 32) (hn : new.length = 32) : parseT (payloadB (kT old new)) = (kT old new, true) := by
  rw [pay_kT ho hn]
  obtain ⟨a0, a1, a2, a3, a4, a5, a6, a7, a8, a9, b0, b1, b2, b3, b4, b5, b6, b7, b8, b9, c0, c1, c2, c3, c4, c5, c6, c7, c8, c9, d0, d1, rfl⟩ := cells32 ho
  obtain ⟨e0, e1, e2, e3, e4, e5, e6, e7, e8, e9, f0, f1, f2, f3, f4, f5, f6, f7, f8, f9, g0, g1, g2, g3, g4, g5, g6, g7, g8, g9, h0, h1, rfl⟩ := cells32 hn
  kernel_rfl
theorem rec_kT {old new : List UInt8} (ho : old.length = 32) (hn : new.length = 32) : recordB (kT old new) = 109 :: (fourB (crc (payloadB (kT old new))).toNat ++ payloadB (kT old new)) := by
  unfold recordB
  rw [pay_len ho hn]
  rfl
theorem rec_len {old new : List UInt8} (ho : old.length = 32) (hn : new.length = 32) : (recordB (kT old new)).length = 114 := by
  rw [rec_kT ho hn, List.length_cons, List.length_append, pay_len ho hn]
  rfl
theorem num109 (x : List UInt8) : getNum (some (109 :: x)) 1048576 = (109, some x) := by
  simp [getNum, numS]
theorem four_fourB (u : Nat) (h : u < 4294967296) : four (fourB u) = u := by
  simp only [fourB, four]
  rw [UInt8.toNat_ofNat', UInt8.toNat_ofNat', UInt8.toNat_ofNat', UInt8.toNat_ofNat']
  omega
/-- a whole record is split off -/
theorem split_kT {old new rest : List UInt8} (ho : old.length = 32) (hn : new.length = 32) : splitP (recordB (kT old new) ++ rest) = (kT old new, 114, true) := by
  have hp := pay_len ho hn
  have hq := parse_kT ho hn
  rw [rec_kT ho hn]
  generalize payloadB (kT old new) = p at *
  have h4 : (fourB (crc p).toNat).length = 4 := rfl
  unfold splitP
  rw [List.cons_append, num109]
  have e1 : getFour (some (fourB (crc p).toNat ++ p ++ rest)) = (four (fourB (crc p).toNat), some (p ++ rest)) := by
    unfold getFour
    rw [List.append_assoc, getN_yes (by rw [List.length_append, h4]; omega), List.take_left' h4, List.drop_left' h4]
  simp only [e1]
  rw [if_neg (by rw [List.length_append, hp]; omega), List.take_left' hp, hq]
  have e2 : four (fourB (crc p).toNat) = (crc p).toNat := four_fourB _ (crc p).isLt
  rw [e2, decide_eq_true rfl]
  simp only [List.length_cons, List.length_append, h4, hp, Bool.and_self, Prod.mk.injEq, true_and, and_true]
  omega
/-- a record that is cut is none -/
theorem split_cutT {old new : List UInt8} (ho : old.length = 32) (hn : new.length = 32) {k : Nat} (hk : k < 114) : (splitP ((recordB (kT old new)).take k)).2.2 = false := by
  have hp := pay_len ho hn
  rw [rec_kT ho hn]
  generalize payloadB (kT old new) = p at *
  have h4 : (fourB (crc p).toNat).length = 4 := rfl
  cases k with
  | zero => rfl
  | succ k =>
    rw [List.take_succ_cons]
    unfold splitP
    rw [num109]
    generalize hx : (fourB (crc p).toNat ++ p).take k = x
    have hl : x.length = k := by
      rw [← hx, List.length_take, List.length_append, h4, hp]
      omega
    rcases st_cases (some x) 4 with ⟨x', hx', h⟩ | h
    · cases hx'
      have e : getFour (some x) = (four (x.take 4), some (x.drop 4)) := by
        unfold getFour
        rw [getN_yes h]
      simp only [e]
      rw [if_pos (by rw [List.length_drop, hl]; omega)]
    · have e : (getFour (some x)).2 = none := by
        unfold getFour
        rw [getN_no h]
      simp only [e]
end Go.Proofs.YtelbofikcpchiaaGreat
