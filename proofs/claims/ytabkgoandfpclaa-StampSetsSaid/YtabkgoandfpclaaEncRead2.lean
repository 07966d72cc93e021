
/- What the Reader's Num, Text, Id and Four read. -/

import Derived.Test.YtabkgoandfpclaaEncRead

namespace Go.Proofs.Ytabkgoandfpclaa

set_option linter.unusedVariables false

set_option linter.unusedSimpArgs false

open Go.RowKit

/-- what is still to be read of a number -/
def numFrom (most : Int) (i acc : Nat) : St → Nat × St
  | none => (0, none)
  | some r => match numS most (9 - i) i acc r with
    | none => (0, none)
    | some (n, r') => (n, some r')
theorem numFrom_start (most : Int) (st : St) : numFrom most 0 0 st = getNum st most := by
  cases st <;> rfl
theorem numFrom_none (most : Int) (i acc : Nat) (h : i < 9) (st : St) (hs : ∀ bs, st = some bs → bs.length < 1) : numFrom most i acc st = (0, none) := by
  cases st with
  | none => rfl
  | some bs =>
    have : bs = [] := List.eq_nil_of_length_eq_zero (by have := hs bs rfl; omega)
    subst this
    obtain ⟨f, hf⟩ : ∃ f, 9 - i = f + 1 := ⟨8 - i, by omega⟩
    simp [numFrom, hf, numS]
theorem numFrom_end (most : Int) (acc : Nat) (st : St) : numFrom most 9 acc st = (0, none) := by
  cases st <;> simp [numFrom, numS]
theorem numFrom_more (most : Int) (i acc : Nat) (h : i < 9) (c : UInt8) (r : List UInt8) (hc : 128 ≤ c.toNat) : numFrom most i acc (some (c :: r)) = numFrom most (i + 1) (acc + c.toNat % 128 * 128 ^ i) (some r) := by
  obtain ⟨f, hf⟩ : ∃ f, 9 - i = f + 1 := ⟨8 - i, by omega⟩
  have hf' : 9 - (i + 1) = f := by omega
  simp only [numFrom, hf, hf', numS, if_pos hc]
theorem numFrom_bad (most : Int) (i acc : Nat) (h : i < 9) (c : UInt8) (r : List UInt8) (hc : c.toNat < 128)
    (hb : 4611686018427387904 < acc + c.toNat % 128 * 128 ^ i ∨ most < ((acc + c.toNat % 128 * 128 ^ i : Nat) : Int) ∨ (c.toNat = 0 ∧ 0 < i)) : numFrom most i acc (some (c :: r)) = (0, none) := by
  obtain ⟨f, hf⟩ : ∃ f, 9 - i = f + 1 := ⟨8 - i, by omega⟩
  simp only [numFrom, hf, numS, if_neg (show ¬ 128 ≤ c.toNat by omega), if_pos hb]
theorem numFrom_good (most : Int) (i acc : Nat) (h : i < 9) (c : UInt8) (r : List UInt8) (hc : c.toNat < 128)
    (hb : ¬ (4611686018427387904 < acc + c.toNat % 128 * 128 ^ i ∨ most < ((acc + c.toNat % 128 * 128 ^ i : Nat) : Int) ∨ (c.toNat = 0 ∧ 0 < i))) : numFrom most i acc (some (c :: r)) = (acc + c.toNat % 128 * 128 ^ i, some r) := by
  obtain ⟨f, hf⟩ : ∃ f, 9 - i = f + 1 := ⟨8 - i, by omega⟩
  simp only [numFrom, hf, numS, if_neg (show ¬ 128 ≤ c.toNat by omega), if_neg hb]

theorem pow128 (i : Nat) : 128 ^ i = 2 ^ (7 * i) := by
  rw [Nat.pow_mul]
theorem pow128_le (i : Nat) (h : i < 9) : 128 ^ i ≤ 72057594037927936 := by
  have : 128 ^ i ≤ 128 ^ 8 := Nat.pow_le_pow_right (by decide) (by omega)
  simpa using this
theorem acc_lt (i acc : Nat) (c : UInt8) (h : acc < 128 ^ i) : acc + c.toNat % 128 * 128 ^ i < 128 ^ (i + 1) := by
  have h1 : c.toNat % 128 ≤ 127 := by omega
  have h2 : c.toNat % 128 * 128 ^ i ≤ 127 * 128 ^ i := Nat.mul_le_mul_right _ h1
  rw [Nat.pow_succ]
  omega
theorem acc_le (i acc : Nat) (c : UInt8) (hi : i < 9) (h : acc < 128 ^ i) : acc + c.toNat % 128 * 128 ^ i < 9223372036854775808 := by
  have h1 := acc_lt i acc c h
  have h2 : 128 ^ (i + 1) ≤ 128 ^ 9 := Nat.pow_le_pow_right (by decide) (by omega)
  have h3 : (128 : Nat) ^ 9 = 9223372036854775808 := by decide
  omega

theorem and127 (c : UInt8) : bits .and .u8 (c.toNat : Int) 127 = ((c.toNat % 128 : Nat) : Int) := by
  have h : (127 : Int) = ((127 : Nat) : Int) := rfl
  rw [h, u8_and_nat _ _ c.toNat_lt (by omega), nat_mask7]
theorem shl_group (m i : Nat) (hm : m ≤ 127) (hi : i < 9) : IntKind.u64.wrap ((m : Int) * 2 ^ (7 * i)) = ((m * 128 ^ i : Nat) : Int) := by
  have h1 := pow128_le i hi
  have h2 : m * 128 ^ i ≤ 127 * 72057594037927936 := Nat.mul_le_mul hm h1
  have e : ((m : Int) * 2 ^ (7 * i)) = ((m * 128 ^ i : Nat) : Int) := by
    rw [pow128]
    simp
  rw [e]
  exact IntWalk.u64_in _ (by omega)
theorem or_group (acc m i : Nat) (ha : acc < 128 ^ i) (hm : m ≤ 127) (hi : i < 9) : bits .or .u64 (acc : Int) ((m * 128 ^ i : Nat) : Int) = ((acc + m * 128 ^ i : Nat) : Int) := by
  have h1 := pow128_le i hi
  have h2 : m * 128 ^ i ≤ 127 * 72057594037927936 := Nat.mul_le_mul hm h1
  rw [u64_or_nat _ _ (by omega) (by omega)]
  congr 1
  rw [Nat.or_comm, nat_join (7 * i) (m * 128 ^ i) acc (by rw [pow128]; exact Nat.mul_mod_left _ _) (by rw [← pow128]; exact ha), Nat.add_comm]

set_option maxRecDepth 100000 in
set_option maxHeartbeats 1000000 in
theorem rdnum_any (g : Nat) (st : St) (most : Int) (w : World) (h : RdrM w g st) :
    Calls Try.prog 52 #[.pointer (some ⟨g, 0, none⟩), .int .i64 most] w fun e w' => e = .returned (.int .i64 ((getNum st most).1 : Int)) ∧ RdrM w' g (getNum st most).2 ∧ w.grownBy w' (some g) := by
  have hst := numFrom_start most st
  generalize getNum st most = R at *
  have Hst := Lib.hid hst
  clear hst
  go_enter Try.func52, Try.ntmps52
  go_wp2_with fail
  go_loopw [5, 6] (fun u s wr => ∃ (i acc : Nat) (st' : St), i ≤ 9 ∧ u = .int .u64 (acc : Int) ∧ s = .int .i64 ((7 * i : Nat) : Int) ∧ Hid (acc < 128 ^ i) ∧ acc < 9223372036854775808 ∧ RdrM wr g st' ∧ w.grownBy wr (some g) ∧ Hid (numFrom most i acc st' = R)) (fun _ s _ => 63 - (intOf s).toNat)
  case atStart => exact ⟨0, 0, st, by omega, rfl, rfl, by show 0 < 128 ^ 0; decide, by omega, h, World.grownBy.refl _ _, Hst.out⟩
  case round =>
    clear h Hst
    obtain ⟨i, acc, st', hi, rfl, rfl, hacc, hacc2, hm, hg, hR⟩ := hrel
    by_cases hlt : i < 9
    · by_cases hno : ∀ bs, st' = some bs → bs.length < 1
      · have hN := numFrom_none most i acc hlt st' hno
        have ht := take_no g 1 st' wr hm (by omega) hno
        have Ht := Lib.hid ht
        have HN := Lib.hid hN
        clear ht hN hno
        have hnil := fun (w : World) (A : Option Addr) (n c : Nat) => Lib.run_eql_slice_nil (P := Try.prog) w 36 5 A n c 0 0 Try.underlying36
        go_wp2_with fail
        refine Ht.out.mono ?_
        rintro e w1 ⟨rfl, h1, h2⟩
        go_wp2_with fail
        go_ret
        have : R = (0, none) := by rw [← hR.out, HN.out]
        subst this
        exact ⟨rfl, h1, grown_trans1 hg h2⟩
      · obtain ⟨c, r, rfl⟩ : ∃ c r, st' = some (c :: r) := by
          cases st' with
          | none => exact absurd (fun bs h => by cases h) hno
          | some bs =>
            cases bs with
            | nil => exact absurd (fun bs h => by cases h; simp) hno
            | cons c r => exact ⟨c, r, rfl⟩
        have ht := take_yes g 1 (c :: r) wr hm (by simp)
        have Ht := Lib.hid ht
        clear ht hno hm
        have hnil := fun (w : World) (A : Option Addr) (n c : Nat) => Lib.run_eql_slice_nil (P := Try.prog) w 36 5 A n c 0 0 Try.underlying36
        go_wp2_with fail
        refine Ht.out.mono ?_
        rintro e w1 ⟨⟨A1, c1, rfl, hr1, hn1⟩, h1, h2⟩
        have hA := hn1 (by omega)
        obtain ⟨b, o, rfl, hc⟩ := hr1.byte 0 (by simp)
        have hg2 := grown_trans1 hg h2
        clear hn1 hr1 h2 hg Ht
        simp only [List.take_succ_cons, List.take_zero, List.getElem_cons_zero, Nat.add_zero] at hc
        have e1 := and127 c
        have hm7 : c.toNat % 128 ≤ 127 := by omega
        have e2 := shl_group (c.toNat % 128) i hm7 hlt
        have e3 := or_group acc (c.toNat % 128) i hacc.out hm7 hlt
        have hV1 := acc_le i acc c hlt hacc.out
        have hV2 := acc_lt i acc c hacc.out
        have hmore := numFrom_more most i acc hlt c r
        have hbad := numFrom_bad most i acc hlt c r
        have hgood := numFrom_good most i acc hlt c r
        generalize acc + c.toNat % 128 * 128 ^ i = V at *
        generalize c.toNat % 128 * 128 ^ i = M at *
        generalize c.toNat % 128 = m at *
        have HV2 := Lib.hid hV2
        clear hV2
        by_cases hc1 : 128 ≤ c.toNat
        · have HM := Lib.hid (hmore hc1)
          clear hmore hbad hgood
          go_wp2_with fail
          go_roundw
          case rel => exact ⟨i + 1, V, some r, by omega, rfl, by first | rfl | (congr 1; omega), HV2.out, hV1, h1, hg2, by show _ = _; rw [← HM.out]; exact hR.out⟩
          case measure => simp [intOf]; omega
        have hc2 : c.toNat < 128 := by omega
        by_cases hb1 : 4611686018427387904 < V
        · have HB := Lib.hid (hbad hc2 (.inl hb1))
          clear hmore hbad hgood
          go_wp2_with fail
          refine (fail_any g _ _ h1).mono ?_
          rintro e w2 ⟨rfl, h3, h4⟩
          go_wp2_with fail
          go_ret
          have : R = (0, none) := by rw [← hR.out, HB.out]
          subst this
          exact ⟨rfl, h3, grown_trans1 hg2 h4⟩
        by_cases hb2 : most < (V : Int)
        · have HB := Lib.hid (hbad hc2 (.inr (.inl hb2)))
          clear hmore hbad hgood
          go_wp2_with fail
          refine (fail_any g _ _ h1).mono ?_
          rintro e w2 ⟨rfl, h3, h4⟩
          go_wp2_with fail
          go_ret
          have : R = (0, none) := by rw [← hR.out, HB.out]
          subst this
          exact ⟨rfl, h3, grown_trans1 hg2 h4⟩
        by_cases hb3 : c.toNat = 0
        · have hz : ((c.toNat : Int) == 0) = true := by rw [beq_iff_eq]; omega
          by_cases hi0 : 0 < i
          · have HB := Lib.hid (hbad hc2 (.inr (.inr ⟨hb3, hi0⟩)))
            clear hmore hbad hgood hb3
            go_wp2_with fail
            refine (fail_any g _ _ h1).mono ?_
            rintro e w2 ⟨rfl, h3, h4⟩
            go_wp2_with fail
            go_ret
            have : R = (0, none) := by rw [← hR.out, HB.out]
            subst this
            exact ⟨rfl, h3, grown_trans1 hg2 h4⟩
          · have HG := Lib.hid (hgood hc2 (by omega))
            clear hmore hbad hgood hb3
            go_wp2_with fail
            go_ret
            have : R = (V, some r) := by rw [← hR.out, HG.out]
            subst this
            exact ⟨rfl, h1, hg2⟩
        · have hz : ((c.toNat : Int) == 0) = false := by rw [beq_eq_false_iff_ne]; omega
          have HG := Lib.hid (hgood hc2 (by omega))
          clear hmore hbad hgood hb3
          go_wp2_with fail
          go_ret
          have : R = (V, some r) := by rw [← hR.out, HG.out]
          subst this
          exact ⟨rfl, h1, hg2⟩
    · have : i = 9 := by omega
      subst this
      have HE := Lib.hid (numFrom_end most acc st')
      go_wp2_with fail
      refine (fail_any g _ _ hm).mono ?_
      rintro e w2 ⟨rfl, h3, h4⟩
      go_wp2_with fail
      go_ret
      have : R = (0, none) := by rw [← hR.out, HE.out]
      subst this
      exact ⟨rfl, h3, grown_trans1 hg h4⟩
end Go.Proofs.Ytabkgoandfpclaa
