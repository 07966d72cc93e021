
/- What was put is read back: plain. -/

import Derived.Test.YtabkgoandfpclaaGet3

import Derived.Test.YtabkgoandfpclaaRPut2

namespace Go.Proofs.Ytabkgoandfpclaa

set_option linter.unusedVariables false

set_option linter.unusedSimpArgs false

open Go.RowKit

theorem u8_small (m : Nat) (h : m < 256) : (UInt8.ofNat m).toNat = m := by rw [UInt8.toNat_ofNat']; omega
theorem numS_back (mo : Int) (r : List UInt8) : ∀ (k i acc m : Nat), k + i = 9 → m < 128 ^ k → acc + m * 128 ^ i ≤ 4611686018427387904 → ((acc + m * 128 ^ i : Nat) : Int) ≤ mo → (0 < i → 0 < m) →
    numS mo k i acc (numF (k + 1) m ++ r) = some (acc + m * 128 ^ i, r)
  | 0, i, acc, m, hk, hm, _, _, hi => by
    have := hi (by omega)
    simp at hm
    omega
  | k + 1, i, acc, m, hk, hm, h1, h2, hi => by
    by_cases hlt : m < 128
    · rw [numF_lt _ _ hlt]
      have hc : (UInt8.ofNat m).toNat = m := u8_small m (by omega)
      simp only [List.cons_append, List.nil_append, numS, hc]
      have hmod : m % 128 = m := Nat.mod_eq_of_lt hlt
      rw [if_neg (by omega), hmod, if_neg]
      rintro (h | h | ⟨h, h'⟩)
      · omega
      · omega
      · have := hi h'; omega
    · rw [numF_ge _ _ (by omega)]
      have hc : (UInt8.ofNat (m % 128 + 128)).toNat = m % 128 + 128 := u8_small _ (by omega)
      simp only [List.cons_append, numS, hc]
      have hmod : (m % 128 + 128) % 128 = m % 128 := by omega
      rw [if_pos (by omega), hmod]
      have e : acc + m % 128 * 128 ^ i + m / 128 * 128 ^ (i + 1) = acc + m * 128 ^ i := by
        rw [Nat.pow_succ, Nat.mul_comm (128 ^ i) 128, ← Nat.mul_assoc, Nat.add_assoc, ← Nat.add_mul]
        congr 2
        omega
      have := numS_back mo r k (i + 1) (acc + m % 128 * 128 ^ i) (m / 128) (by omega) (by rw [Nat.pow_succ] at hm; omega) (by rw [e]; exact h1) (by rw [e]; exact h2) (fun _ => by omega)
      rw [this, e]
theorem getNum_back (n : Nat) (mo : Int) (r : List UInt8) (h : n ≤ 4611686018427387904) (hm : (n : Int) ≤ mo) : getNum (some (numB n ++ r)) mo = (n, some r) := by
  have := numS_back mo r 9 0 0 n rfl (by have h3 : (128 : Nat) ^ 9 = 9223372036854775808 := by decide
                                         omega) (by simpa using h) (by simpa using hm) (fun h => by omega)
  simp only [Nat.pow_zero, Nat.mul_one, Nat.zero_add] at this
  simp only [getNum, numB, this]
theorem getText_back60 (s r : List UInt8) (h : s.length ≤ 60) : getText (some (textB s ++ r)) 60 = (s, some r) := by
  have hc : clampN (s.length : Int) = s.length := by
    unfold clampN; rw [if_neg (by omega), if_neg (by omega)]; simp
  unfold getText textB
  rw [hc, List.append_assoc, getNum_back s.length 60 (s ++ r) (by omega) (by omega)]
  dsimp only
  rw [getN_yes (by simp)]
  simp
theorem getId_back (id r : List UInt8) (h : id.length = 32) : getId (some (id ++ r)) = (id, some r) := by
  unfold getId
  rw [getN_yes (by simp; omega)]
  dsimp only
  rw [← h, List.take_left, List.drop_left]
  have : padId id = id := by unfold padId; rw [if_neg (by intro h0; rw [h0] at h; simp at h)]
  rw [this]

theorem clampN_in (n : Int) (h0 : 0 ≤ n) (h1 : n ≤ 4611686018427387904) : ((clampN n : Nat) : Int) = n := by
  unfold clampN
  rw [if_neg (by omega), if_neg (by omega)]
  omega
theorem getNum_int (n mo : Int) (r : List UInt8) (h0 : 0 ≤ n) (h1 : n ≤ mo) (h2 : mo ≤ 4611686018427387904) : getNum (some (numB (clampN n) ++ r)) mo = (clampN n, some r) := by
  have := clampN_in n h0 (by omega)
  exact getNum_back (clampN n) mo r (by omega) (by omega)
def stmOk (s : Stm) : Prop := (0 ≤ s.t ∧ s.t ≤ 1099511627776) ∧ (0 ≤ s.r ∧ s.r ≤ 65536)
theorem stmOk_right {s : Stm} (h : rightB s = true) : stmOk s := by
  simp [rightB] at h
  unfold stmOk
  omega
theorem stmOk_fixed {s : Stm} (h : fixedB s = true) : stmOk s := by
  simp [fixedB] at h
  unfold stmOk
  omega
theorem getS_back (s : Stm) (r : List UInt8) (h : stmOk s) : getS (some (stmB s ++ r)) = (s, some r) := by
  obtain ⟨⟨h1, h2⟩, h3, h4⟩ := h
  unfold getS stmB
  rw [List.append_assoc, getNum_int s.t _ _ h1 h2 (by decide)]
  dsimp only
  rw [getNum_int s.r _ _ h3 h4 (by decide), clampN_in s.t h1 (by omega), clampN_in s.r h3 (by omega)]
theorem stmsB_drop (os : List Stm) (k : Nat) (h : k < os.length) : stmsB (os.drop k) = stmB os[k] ++ stmsB (os.drop (k + 1)) := by
  rw [List.drop_eq_getElem_cons h]
  simp only [stmsB, List.flatMap_cons]
theorem getL_back (os : List Stm) (r : List UInt8) (h : ∀ s ∈ os, stmOk s) : ∀ k, k ≤ os.length → getL k (some (stmsB os ++ r)) = (os.take k, some (stmsB (os.drop k) ++ r))
  | 0, _ => by simp [getL]
  | k + 1, hk => by
    have ih := getL_back os r h k (by omega)
    show ((getL k _).1 ++ [(getS (getL k _).2).1], (getS (getL k _).2).2) = _
    rw [ih]
    dsimp only
    rw [stmsB_drop os k (by omega), List.append_assoc, getS_back _ _ (h _ (List.getElem_mem _))]
    dsimp only
    rw [List.take_add_one, List.getElem?_eq_getElem (by omega)]
    rfl
def getOpM (st : St) : OpM × St := if (getNum st 2).1 = 1 then getMove st else getEdit st
theorem goodOver_ok {a : Stm} {os : List Stm} (h : goodOver a os = true) : ∀ s ∈ os, stmOk s := by
  intro s hs
  obtain ⟨i, hi, rfl⟩ := List.mem_iff_getElem.1 hs
  unfold goodOver at h
  rw [List.all_eq_true] at h
  have := h i (by simpa using hi)
  rw [okAt_get _ _ _ hi] at this
  simp only [Bool.and_eq_true] at this
  exact stmOk_right this.1.1
theorem getOp_back (o : OpM) (hlen : o.data.length = 32) (hg : goodO o = true) : getOpM (some (opB o)) = ({ o with ov := .slice none 0 0 }, some []) := by
  have hg0 := hg
  unfold goodO at hg
  simp only [Bool.and_eq_true] at hg
  obtain ⟨⟨ha, hn⟩, hk⟩ := hg
  have ka := stmOk_right ha
  have kn := stmOk_right hn
  by_cases k1 : o.kind = 1
  · rw [if_pos k1] at hk
    unfold goodMove at hk
    simp only [Bool.and_eq_true, Bool.or_eq_true, decide_eq_true_eq] at hk
    obtain ⟨⟨⟨⟨_, hp⟩, hnm⟩, hd⟩, ho⟩ := hk
    have kp : stmOk o.par := by rcases hp with h | h; exact stmOk_right h; exact stmOk_fixed h
    have hos : o.os = [] := by
      have : o.os.length = 0 := by rw [beq_iff_eq] at ho; omega
      exact List.eq_nil_of_length_eq_zero this
    have hsz : o.name.data.toList.length ≤ 60 := by
      have := good_nm hg0 k1
      rw [← Lib.size_eq]; exact this
    have hB : opB o = numB (clampN 1) ++ (stmB o.at_ ++ (stmB o.node ++ (stmB o.par ++ (textB o.name.data.toList ++ [])))) := by
      unfold opB
      rw [if_pos k1, k1]
      simp only [List.append_assoc, List.append_nil]
    have e0 : getNum (some (opB o)) 2 = (clampN 1, some (stmB o.at_ ++ (stmB o.node ++ (stmB o.par ++ (textB o.name.data.toList ++ []))))) := by rw [hB]; exact getNum_int 1 2 _ (by decide) (by decide) (by decide)
    have c1 : clampN 1 = 1 := by decide
    have hoo : ({ op0 with kind := 1, at_ := o.at_, node := o.node, par := o.par, name := ⟨o.name.data.toList.toArray⟩ } : OpM) = { o with ov := .slice none 0 0 } := by
      obtain ⟨kd, at_, nd, pr, nm, da, ov, os⟩ := o
      dsimp only at *
      subst k1 hd hos
      obtain ⟨dt⟩ := nm
      simp [op0]
    unfold getOpM
    rw [e0, if_pos c1]
    unfold getMove
    rw [e0]
    dsimp only
    rw [getS_back _ _ ka]
    dsimp only
    rw [getS_back _ _ kn]
    dsimp only
    rw [getS_back _ _ kp]
    dsimp only
    rw [getText_back60 _ _ hsz]
    dsimp only
    rw [hoo]
    exact if_pos (by show (true && goodO o) = true; rw [hg0]; rfl)
  · rw [if_neg k1] at hk
    have k2 : o.kind = 2 := by
      by_cases h : o.kind = 2
      · exact h
      · rw [if_neg h] at hk; cases hk
    rw [if_pos k2] at hk
    unfold goodEdit at hk
    simp only [Bool.and_eq_true, decide_eq_true_eq, Bool.not_eq_true', decide_eq_false_iff_not] at hk
    obtain ⟨⟨⟨⟨⟨_, hp⟩, hnm⟩, hd⟩, hol⟩, hov⟩ := hk
    have hos := goodOver_ok hov
    have c2 : ((clampN 2 : Nat) : Int) = 2 := by decide
    have c3 : ¬ clampN 2 = 1 := by decide
    have cl : clampN (o.os.length : Int) = o.os.length := by have := clampN_in (o.os.length : Int) (by omega) (by omega); omega
    have hB : opB o = numB (clampN 2) ++ (stmB o.at_ ++ (stmB o.node ++ (o.data ++ (numB (clampN (o.os.length : Int)) ++ (stmsB o.os ++ []))))) := by
      unfold opB
      rw [if_neg k1, k2]
      simp only [List.append_assoc, List.append_nil]
    have e0 : getNum (some (opB o)) 2 = (clampN 2, some (stmB o.at_ ++ (stmB o.node ++ (o.data ++ (numB (clampN (o.os.length : Int)) ++ (stmsB o.os ++ [])))))) := by rw [hB]; exact getNum_int 2 2 _ (by decide) (by decide) (by decide)
    have hnm0 : o.name = ⟨#[]⟩ := by
      have h1 : o.name.toList = [] := List.isEmpty_iff.1 hnm
      rw [Lib.toList_data] at h1
      have h2 : ∀ nm : ByteArray, nm.data.toList = [] → nm = ⟨#[]⟩ := by
        rintro ⟨dt⟩ h
        simp at h
        rw [h]
      exact h2 _ h1
    have hoo : ({ op0 with kind := 2, at_ := o.at_, node := o.node, data := o.data, os := o.os } : OpM) = { o with ov := .slice none 0 0 } := by
      obtain ⟨kd, at_, nd, pr, nm, da, ov, os⟩ := o
      dsimp only at *
      subst k2 hp hnm0
      rfl
    unfold getOpM
    rw [e0, if_neg c3]
    unfold getEdit
    rw [e0]
    dsimp only
    rw [getS_back _ _ ka]
    dsimp only
    rw [getS_back _ _ kn]
    dsimp only
    rw [getId_back _ _ hlen]
    dsimp only
    rw [getNum_int _ 64 _ (by omega) (by omega) (by decide)]
    dsimp only
    rw [cl, getL_back o.os [] hos o.os.length (Nat.le_refl _), List.take_length, List.drop_length, c2]
    dsimp only
    rw [hoo]
    exact if_pos (by show (true && goodO o) = true; rw [hg0]; rfl)

/-- what a reader reads as an operation -/
theorem get_any (r : Nat) (st : St) (w : World) (h : RdrM w r st) :
    Calls Try.prog 27 #[.pointer (some ⟨r, 0, none⟩)] w fun e w' => ∃ o, e = .returned o.val ∧ OpIn w' o ∧ ({ o with ov := .slice none 0 0 } : OpM) = (getOpM st).1 ∧ RdrM w' r (getOpM st).2 ∧ w.grownBy w' (some r) := by
  unfold getOpM
  by_cases hk : (getNum st 2).1 = 1
  · rw [if_pos hk]
    refine (get_move r st w h.k hk).mono ?_
    rintro e w' ⟨rfl, h1, h2⟩
    refine ⟨_, rfl, ?_, ?_, h1.m, h2⟩
    · unfold getMove
      dsimp only
      split
      · exact opIn_plain _ _ rfl (by
          have h3 : (getText (getS (getS (getS (getNum st 2).2).2).2).2 60).1.length ≤ _ := getN_len _ _
          have h4 := getNum_le (getS (getS (getS (getNum st 2).2).2).2).2 60
          show (getText (getS (getS (getS (getNum st 2).2).2).2).2 60).1.length ≤ _
          omega) rfl rfl
      · exact opIn_plain _ op0 rfl (by decide) rfl rfl
    · unfold getMove
      dsimp only
      split <;> rfl
  · rw [if_neg hk]
    refine (get_edit r st w h.k hk).mono ?_
    rintro e w' ⟨o, rfl, h0, h1, h2, h3⟩
    exact ⟨o, rfl, h0, h1, h2.m, h3⟩
end Go.Proofs.Ytabkgoandfpclaa
