
/- Two arrays of bytes held against each other. No condition; no program. -/

import Derived.Test.YtabkgoandfpclaaBase

import Derived.ChangeKeysEq

namespace Go.Proofs.Ytabkgoandfpclaa

set_option linter.unusedVariables false

set_option linter.unusedSimpArgs false

open Go.RowKit

section

variable {P : Program}

theorem run_eq_items (d : Nat) {e : TypeId} (a b : List UInt8) (w : World) (he : P.underlying e = some (.int .u8)) (hk : P.plainKey e = true) (hl : a.length = b.length) :
    ∀ (m k : Nat), k + m = a.length → (Op.eqItems (d + 1) e 1 (b8s a).toArray (b8s b).toArray (List.range' k m)).run P w = .ok (decide (a.drop k = b.drop k)) w
  | 0, k, h => by
    rw [List.drop_of_length_le (by omega), List.drop_of_length_le (by omega)]
    simp [Op.eqItems]
  | m + 1, k, h => by
    have hka : k < a.length := by omega
    have hkb : k < b.length := by omega
    have h1 : (part e (b8s a).toArray (k * 1)).run P w = .ok (.int .u8 (a[k].toNat : Int)) w := run_part_plain w hk (by rw [Nat.mul_one]; simp [b8s, hka])
    have h2 : (part e (b8s b).toArray (k * 1)).run P w = .ok (.int .u8 (b[k].toNat : Int)) w := run_part_plain w hk (by rw [Nat.mul_one]; simp [b8s, hkb])
    have h3 : (Op.equalIn (d + 1) e (.int .u8 (a[k].toNat : Int)) (.int .u8 (b[k].toNat : Int))).run P w = .ok ((a[k].toNat : Int) == (b[k].toNat : Int)) w := run_equalIn_int w d e .u8 .u8 _ _ he
    have ih := run_eq_items d a b w he hk hl m (k + 1) (by omega)
    rw [List.range'_succ]
    simp only [Op.eqItems, Sem.run_bind, h1, h2, h3, Result.andThen_ok]
    have hd : (a.drop k = b.drop k) ↔ a[k] = b[k] ∧ a.drop (k + 1) = b.drop (k + 1) := by
      rw [List.drop_eq_getElem_cons hka, List.drop_eq_getElem_cons hkb]
      exact List.cons_eq_cons
    by_cases hx : a[k] = b[k]
    · have hb : ((a[k].toNat : Int) == (b[k].toNat : Int)) = true := by rw [hx]; simp
      rw [hb]
      simp only [Bool.not_true, Bool.false_eq_true, if_false]
      rw [ih]
      congr 1
      rw [decide_eq_decide]
      rw [hd]
      simp [hx]
    · have hb : ((a[k].toNat : Int) == (b[k].toNat : Int)) = false := by
        rw [beq_eq_false_iff_ne]
        intro h'
        exact hx (UInt8.toNat_inj.1 (by omega))
      rw [hb]
      have : ¬ (a.drop k = b.drop k) := fun h' => hx (hd.1 h').1
      simp [this]

theorem run_eq_bytes (d : Nat) {t e : TypeId} {n : Nat} {i : TypeInfo} (a b : List UInt8) (w : World) (hu : P.underlying t = some (.array n e)) (he : P.underlying e = some (.int .u8)) (hi : P.info? e = some i) (hc : P.cellsOf e = 1) (hk : P.plainKey e = true)
    (ha : a.length = n) (hb : b.length = n) : (Op.equalIn (d + 2) t (.agg (b8s a).toArray) (.agg (b8s b).toArray)).run P w = .ok (decide (a = b)) w := by
  rw [run_equalIn_array w (d + 1) _ _ hu hi, hc, List.range_eq_range', run_eq_items d a b w he hk (by omega) n 0 (by omega)]
  simp

/-- '==' of two IDs -/
theorem run_eql_ids {t e : TypeId} {n : Nat} (hu : P.underlying t = some (.array n e)) (he : P.underlying e = some (.int .u8)) (hi : (P.info? e).isSome = true) (hc : P.cellsOf e = 1) (hk : P.plainKey e = true)
    (a b : List UInt8) (ha : a.length = n) (hb : b.length = n) (w : World) : (binOp .eql t (.agg (b8s a).toArray) (.agg (b8s b).toArray)).run P w = .ok (.bool (decide (a = b))) w := by
  obtain ⟨i, hi⟩ := Option.isSome_iff_exists.1 hi
  have h := run_eq_bytes (P := P) 9998 a b w hu he hi hc hk ha hb
  simp only [binOp]
  simp [Op.equal, Op.maxDepth, h]
theorem run_neq_ids {t e : TypeId} {n : Nat} (hu : P.underlying t = some (.array n e)) (he : P.underlying e = some (.int .u8)) (hi : (P.info? e).isSome = true) (hc : P.cellsOf e = 1) (hk : P.plainKey e = true)
    (a b : List UInt8) (ha : a.length = n) (hb : b.length = n) (w : World) : (binOp .neq t (.agg (b8s a).toArray) (.agg (b8s b).toArray)).run P w = .ok (.bool (!decide (a = b))) w := by
  obtain ⟨i, hi⟩ := Option.isSome_iff_exists.1 hi
  have h := run_eq_bytes (P := P) 9998 a b w hu he hi hc hk ha hb
  simp only [binOp]
  simp [Op.equal, Op.maxDepth, h]
end

def zero32 : List UInt8 := List.replicate 32 0
end Go.Proofs.Ytabkgoandfpclaa
