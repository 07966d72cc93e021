
/- writing, and EncOrder: the walks. -/

import Derived.Test.YtabkgoandfpclaaEncText

import Derived.Test.YtabkgoandfpclaaSched

namespace Go.Proofs.Ytabkgoandfpclaa

open Go.RowKit

theorem rd_lit (w : World) (bs : List UInt8) : Rd (w.alloc (.cells (b8s bs).toArray 5)) (some ⟨w.heap.size, 0, none⟩) (b8s bs) := Rd.new w _ _

theorem num300 : numB (clampN 300) = [172, 2] := by decide +kernel
theorem textab : textB [97, 98] = [2, 97, 98] := by decide +kernel

/-! ### the plain law -/

theorem numF_len_pos (f n : Nat) : 1 ≤ (numF (f + 1) n).length := by
  unfold numF; split <;> simp
theorem numF_len_le : ∀ (f n : Nat), n < 128 ^ (f + 1) → (numF (f + 2) n).length ≤ f + 1
  | 0, n, h => by rw [numF_lt _ _ (by simpa using h)]; simp
  | f + 1, n, h => by
    by_cases hn : n < 128
    · rw [numF_lt _ _ hn]; simp
    · rw [numF_ge _ _ (by omega)]
      have := numF_len_le f (n / 128) (Nat.div_lt_of_lt_mul (by rw [Nat.mul_comm, ← Nat.pow_succ]; exact h))
      simp only [List.length_cons]
      omega
theorem numB_len (n : Int) : 1 ≤ (numB (clampN n)).length ∧ (numB (clampN n)).length ≤ 9 := by
  refine ⟨numF_len_pos _ _, numF_len_le 8 _ ?_⟩
  have := clampN_le n
  have h : (4611686018427387904 : Nat) < 128 ^ (8 + 1) := by decide
  exact Nat.lt_of_le_of_lt this h
theorem numF_len_mono : ∀ (f m n : Nat), m ≤ n → (numF f m).length ≤ (numF f n).length
  | 0, _, _, _ => by simp [numF]
  | f + 1, m, n, h => by
    by_cases hm : m < 128
    · rw [numF_lt _ _ hm]
      exact numF_len_pos f n
    · rw [numF_ge _ _ (by omega), numF_ge _ _ (by omega)]
      have := numF_len_mono f (m / 128) (n / 128) (Nat.div_le_div_right h)
      simpa using this
theorem u8_ofNat_inj {a b : Nat} (ha : a < 256) (hb : b < 256) (h : UInt8.ofNat a = UInt8.ofNat b) : a = b := by
  have := congrArg UInt8.toNat h
  rw [UInt8.toNat_ofNat', UInt8.toNat_ofNat'] at this
  omega
/-- each number has one form: even with anything behind -/
theorem numF_inj : ∀ (f m n : Nat) (r r' : List UInt8), m < 128 ^ f → n < 128 ^ f → numF f m ++ r = numF f n ++ r' → m = n ∧ r = r'
  | 0, m, n, r, r', hm, hn, h => by
    have h1 : m < 1 := by simpa using hm
    have h2 : n < 1 := by simpa using hn
    exact ⟨by omega, by simpa [numF] using h⟩
  | f + 1, m, n, r, r', hm, hn, h => by
    by_cases h1 : m < 128 <;> by_cases h2 : n < 128
    · rw [numF_lt _ _ h1, numF_lt _ _ h2] at h
      simp only [List.cons_append, List.nil_append, List.cons.injEq] at h
      exact ⟨u8_ofNat_inj (by omega) (by omega) h.1, h.2⟩
    · rw [numF_lt _ _ h1, numF_ge _ _ (by omega)] at h
      simp only [List.cons_append, List.nil_append, List.cons.injEq] at h
      have := u8_ofNat_inj (by omega) (by omega) h.1
      omega
    · rw [numF_lt _ _ h2, numF_ge _ _ (by omega)] at h
      simp only [List.cons_append, List.nil_append, List.cons.injEq] at h
      have := u8_ofNat_inj (by omega) (by omega) h.1
      omega
    · rw [numF_ge _ _ (by omega), numF_ge _ _ (by omega)] at h
      simp only [List.cons_append, List.cons.injEq] at h
      have h3 := u8_ofNat_inj (by omega) (by omega) h.1
      have h4 := numF_inj f (m / 128) (n / 128) r r' (Nat.div_lt_of_lt_mul (by rw [Nat.mul_comm, ← Nat.pow_succ]; exact hm)) (Nat.div_lt_of_lt_mul (by rw [Nat.mul_comm, ← Nat.pow_succ]; exact hn)) h.2
      exact ⟨by omega, h4.2⟩
theorem numB_inj {a b : Int} (h : numB (clampN a) = numB (clampN b)) : clampN a = clampN b :=
  (numF_inj 10 _ _ [] [] (num_fuel a) (num_fuel b) (by simpa [numB] using h)).1

attribute [local go_sem high] run_max2c run_min2c

end Go.Proofs.Ytabkgoandfpclaa
