/- writing, and EncOrder: the walks. -/
import Derived.Test.YtgmhdkkhiclilaaEncText
import Derived.Test.YtgmhdkkhiclilaaSched
namespace Go.Proofs.Ytgmhdkkhiclilaa
open Go.RowKit

theorem rd_lit (w : World) (bs : List UInt8) : Rd (w.alloc (.cells (b8s bs).toArray 5)) (some ⟨w.heap.size, 0, none⟩) (b8s bs) := Rd.new w _ _

theorem num300 : numB (clampN 300) = [172, 2] := by decide +kernel
theorem textab : textB [97, 98] = [2, 97, 98] := by decide +kernel

set_option maxHeartbeats 1000000 in
theorem writing_any (w : World) : Calls Try.prog 14 #[] w fun e w' => e = .returned (.bool true) ∧ Below w.heap.size w w' := by
  go_enter Try.func14, Try.ntmps14
  go_wp2_with fail
  refine (num_any none [] 0 300 w Rd.nil (by decide)).mono ?_
  rintro e w1 ⟨v1, rfl, hown⟩
  rw [num300] at hown
  obtain ⟨A1, c1, rfl, _, _, hr1, _⟩ := hown.slice
  go_wp2_with fail
  refine (same_b true A1 _ ([] ++ [172, 2]) [172, 2] c1 2 _ (hr1.alloc _) (rd_lit w1 [172, 2]) (by decide) (by decide) (by decide)).mono ?_
  rintro e w2 ⟨rfl, hb2⟩
  have hb02 : Below w.heap.size w w2 := (hown.bel.alloc hown.sz _).trans (hb2.mono (Nat.le_trans hown.sz (by simp)))
  have hs2 : w.heap.size ≤ w2.heap.size := hb02.size
  go_wp2_with fail
  have hid7 : ([7, 0, 0, 0, 0, 0, 0, 0, 0, 0, 0, 0, 0, 0, 0, 0, 0, 0, 0, 0, 0, 0, 0, 0, 0, 0, 0, 0, 0, 0, 0, 0] : List UInt8).length = 32 := rfl
  refine (text_any _ [1] 1 _ _ (rd_lit w2 [1]) (by decide)).mono ?_
  rintro e w3 ⟨v3, rfl, hown3⟩
  have e3 : [1] ++ textB ([97, 98] : List UInt8) = [1, 2, 97, 98] := by rw [textab]; rfl
  rw [e3] at hown3
  obtain ⟨A3, c3, rfl, _, _, hr3, _⟩ := hown3.slice
  go_wp2_with fail
  refine (same_b true A3 _ [1, 2, 97, 98] [1, 2, 97, 98] c3 4 _ (hr3.alloc _) (rd_lit w3 [1, 2, 97, 98]) (by decide) (by decide) (by decide)).mono ?_
  rintro e w4 ⟨rfl, hb4⟩
  have hb24 : Below w2.heap.size w2 w4 := ((((Below.refl _ _).alloc (Nat.le_refl _) _).trans (hown3.bel.mono (by simp))).alloc (Nat.le_trans (by simp) hown3.sz) _).trans (hb4.mono (Nat.le_trans (by simp) (Nat.le_trans hown3.sz (by simp))))
  have hb04 := hb02.trans (hb24.mono hs2)
  go_wp2_with fail
  refine (id_any _ [5] [7, 0, 0, 0, 0, 0, 0, 0, 0, 0, 0, 0, 0, 0, 0, 0, 0, 0, 0, 0, 0, 0, 0, 0, 0, 0, 0, 0, 0, 0, 0, 0] 1 _ hid7 (rd_lit w4 [5]) (by decide)).mono ?_
  rintro e w5 ⟨v5, rfl, hown5⟩
  obtain ⟨A5, c5, rfl, _, _, hr5, _⟩ := hown5.slice
  go_wp2_with fail
  go_ret
  exact ⟨rfl, hb04.trans (((Below.refl _ _).alloc (Nat.le_refl _) _).trans (hown5.bel.mono (by simp)) |>.mono hb04.size)⟩
/-! ### the plain law -/
theorem numF_len_pos (f n : Nat) : 1 ≤ (numF (f + 1) n).length := by
  unfold numF; split <;> simp
theorem numF_len_le : ∀ (f n : Nat), n < 128 ^ (f + 1) → (numF (f + 2) n).length ≤ f + 1
  | 0, n, h => by rw [numF_lt _ _ (by simpa using h)]; simp
  | f + 1, n, h => by
    by_cases hn : n < 128
    · rw [numF_lt _ _ hn]; simp
    · rw [numF_ge _ _ (by omega)]
      have := numF_len_le f (n / 128) (Nat.div_lt_of_lt_mul (by rw [Nat.mul_comm, ← Nat.pow_succ]; exact h))
      simp only [List.length_cons]
      omega
theorem numB_len (n : Int) : 1 ≤ (numB (clampN n)).length ∧ (numB (clampN n)).length ≤ 9 := by
  refine ⟨numF_len_pos _ _, numF_len_le 8 _ ?_⟩
  have := clampN_le n
  have h : (4611686018427387904 : Nat) < 128 ^ (8 + 1) := by decide
  exact Nat.lt_of_le_of_lt this h
theorem numF_len_mono : ∀ (f m n : Nat), m ≤ n → (numF f m).length ≤ (numF f n).length
  | 0, _, _, _ => by simp [numF]
  | f + 1, m, n, h => by
    by_cases hm : m < 128
    · rw [numF_lt _ _ hm]
      exact numF_len_pos f n
    · rw [numF_ge _ _ (by omega), numF_ge _ _ (by omega)]
      have := numF_len_mono f (m / 128) (n / 128) (Nat.div_le_div_right h)
      simpa using this
theorem u8_ofNat_inj {a b : Nat} (ha : a < 256) (hb : b < 256) (h : UInt8.ofNat a = UInt8.ofNat b) : a = b := by
  have := congrArg UInt8.toNat h
  rw [UInt8.toNat_ofNat', UInt8.toNat_ofNat'] at this
  omega
/-- each number has one form: even with anything behind -/
theorem numF_inj : ∀ (f m n : Nat) (r r' : List UInt8), m < 128 ^ f → n < 128 ^ f → numF f m ++ r = numF f n ++ r' → m = n ∧ r = r'
  | 0, m, n, r, r', hm, hn, h => by
    have h1 : m < 1 := by simpa using hm
    have h2 : n < 1 := by simpa using hn
    exact ⟨by omega, by simpa [numF] using h⟩
  | f + 1, m, n, r, r', hm, hn, h => by
    by_cases h1 : m < 128 <;> by_cases h2 : n < 128
    · rw [numF_lt _ _ h1, numF_lt _ _ h2] at h
      simp only [List.cons_append, List.nil_append, List.cons.injEq] at h
      exact ⟨u8_ofNat_inj (by omega) (by omega) h.1, h.2⟩
    · rw [numF_lt _ _ h1, numF_ge _ _ (by omega)] at h
      simp only [List.cons_append, List.nil_append, List.cons.injEq] at h
      have := u8_ofNat_inj (by omega) (by omega) h.1
      omega
    · rw [numF_lt _ _ h2, numF_ge _ _ (by omega)] at h
      simp only [List.cons_append, List.nil_append, List.cons.injEq] at h
      have := u8_ofNat_inj (by omega) (by omega) h.1
      omega
    · rw [numF_ge _ _ (by omega), numF_ge _ _ (by omega)] at h
      simp only [List.cons_append, List.cons.injEq] at h
      have h3 := u8_ofNat_inj (by omega) (by omega) h.1
      have h4 := numF_inj f (m / 128) (n / 128) r r' (Nat.div_lt_of_lt_mul (by rw [Nat.mul_comm, ← Nat.pow_succ]; exact hm)) (Nat.div_lt_of_lt_mul (by rw [Nat.mul_comm, ← Nat.pow_succ]; exact hn)) h.2
      exact ⟨by omega, h4.2⟩
theorem numB_inj {a b : Int} (h : numB (clampN a) = numB (clampN b)) : clampN a = clampN b :=
  (numF_inj 10 _ _ [] [] (num_fuel a) (num_fuel b) (by simpa [numB] using h)).1

attribute [local go_sem high] run_max2c run_min2c

set_option maxHeartbeats 1000000 in
theorem encOrder_any (a b : Int) (w : World) : Calls Try.prog 5 #[.int .i64 a, .int .i64 b] w fun e w' => e = .returned (.bool true) ∧ Below w.heap.size w w' := by
  have la := numB_len a
  have lb := numB_len b
  have ea := clampN_eq a
  have eb := clampN_eq b
  have hinj := @numB_inj a b
  have hmono := numF_len_mono 10 (clampN a) (clampN b)
  go_enter Try.func5, Try.ntmps5
  go_wp2_with fail
  refine (writing_any w).mono ?_
  rintro e w1 ⟨rfl, hb1⟩
  go_wp2_with fail
  refine (num_any none [] 0 a w1 Rd.nil (by decide)).mono ?_
  rintro e w2 ⟨v2, rfl, hown2⟩
  go_wp2_with fail
  refine (num_any none [] 0 b w2 Rd.nil (by decide)).mono ?_
  rintro e w3 ⟨v3, rfl, hown3⟩
  rw [List.nil_append] at hown2 hown3
  have hown2' := hown2.later hown3.bel
  have hb3 := (hb1.trans (hown2.bel.mono hb1.size)).trans (hown3.bel.mono (hb1.trans (hown2.bel.mono hb1.size)).size)
  obtain ⟨A2, c2, rfl, _, _, hr2, _⟩ := hown2'.slice
  obtain ⟨A3, c3, rfl, _, _, hr3, _⟩ := hown3.slice
  have hx : numB (clampN a) = numB (clampN b) ↔ clampN a = clampN b := ⟨hinj, fun h => by rw [h]⟩
  have hlen : clampN a < clampN b → (numB (clampN a)).length ≤ (numB (clampN b)).length := fun h => hmono (by omega)
  clear hmono hinj hown2 hown3 hown2'
  generalize numB (clampN a) = x at *
  generalize numB (clampN b) = y at *
  generalize clampN a = M at *
  generalize clampN b = L at *
  have ea' := ea.symm
  have eb' := eb.symm
  clear ea eb
  have hlx : x.length ≤ maxLen := by unfold maxLen; omega
  have hly : y.length ≤ maxLen := by unfold maxLen; omega
  have hml : M < L ∨ M = L ∨ L < M := by omega
  rcases hml with h | h | h
  · have hs := same_b false A2 A3 x y c2 c3 w3 hr2 hr3 hlx hly (by rw [decide_eq_false_iff_not]; intro hh; have := hx.1 hh; omega)
    have hl := hlen h
    have h1 : ((M : Int) == (L : Int)) = false := by rw [beq_eq_false_iff_ne]; omega
    have H := Lib.hid hs
    clear hx hlen hs hlx hly
    go_wp2_with fail
    refine H.out.mono ?_
    rintro e w4 ⟨rfl, hb4⟩
    go_wp2_with fail
    go_ret
    exact ⟨ret_bool (decide_eq_true (by omega)), hb3.trans (hb4.mono hb3.size)⟩
  · have hs := same_b true A2 A3 x y c2 c3 w3 hr2 hr3 hlx hly (by rw [decide_eq_true_eq]; exact hx.2 h)
    subst h
    have h1 : ((M : Int) == (M : Int)) = true := by simp
    have H := Lib.hid hs
    clear hx hlen hs hlx hly
    go_wp2_with fail
    refine H.out.mono ?_
    rintro e w4 ⟨rfl, hb4⟩
    go_wp2_with fail
    go_ret
    exact ⟨ret_bool (decide_eq_true (by omega)), hb3.trans (hb4.mono hb3.size)⟩
  · have hs := same_b false A2 A3 x y c2 c3 w3 hr2 hr3 hlx hly (by rw [decide_eq_false_iff_not]; intro hh; have := hx.1 hh; omega)
    have h1 : ((M : Int) == (L : Int)) = false := by rw [beq_eq_false_iff_ne]; omega
    have H := Lib.hid hs
    clear hx hlen hs hlx hly
    go_wp2_with fail
    refine H.out.mono ?_
    rintro e w4 ⟨rfl, hb4⟩
    go_wp2_with fail
    go_ret
    exact ⟨ret_bool (decide_eq_true (by omega)), hb3.trans (hb4.mono hb3.size)⟩
end Go.Proofs.Ytgmhdkkhiclilaa
