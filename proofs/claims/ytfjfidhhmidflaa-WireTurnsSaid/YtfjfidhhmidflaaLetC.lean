
/- What is read as a letter is what Write makes of that letter: the plain law. -/

import Derived.Test.YtfjfidhhmidflaaLetM

namespace Go.Proofs.Ytfjfidhhmidflaa

set_option linter.unusedVariables false

set_option linter.unusedSimpArgs false

open Go.RowKit

theorem u8_eq {c : UInt8} {n : Nat} (h : c.toNat = n) : UInt8.ofNat n = c := by rw [← h, UInt8.ofNat_toNat]
theorem numS_form (mo : Int) : ∀ (f i acc : Nat) (bs : List UInt8) (n : Nat) (r : List UInt8), numS mo f i acc bs = some (n, r) →
    ∃ m, n = acc + m * 128 ^ i ∧ bs = numF (f + 1) m ++ r ∧ (0 < i → 0 < m) ∧ n ≤ 4611686018427387904
  | 0, i, acc, bs, n, r, h => by simp [numS] at h
  | f + 1, i, acc, [], n, r, h => by simp [numS] at h
  | f + 1, i, acc, c :: bs, n, r, h => by
    simp only [numS] at h
    have hcl := c.toNat_lt
    split at h
    · rename_i hc
      obtain ⟨m, h1, h2, h3, h4⟩ := numS_form mo f (i + 1) _ bs n r h
      have hm := h3 (by omega)
      refine ⟨c.toNat % 128 + 128 * m, ?_, ?_, fun _ => by omega, h4⟩
      · rw [h1, Nat.pow_succ, Nat.add_mul, Nat.mul_comm (128 ^ i) 128, ← Nat.mul_assoc, Nat.mul_comm 128 m, Nat.add_assoc]
      · rw [numF_ge _ _ (by omega), h2]
        have e1 : (c.toNat % 128 + 128 * m) % 128 + 128 = c.toNat := by omega
        have e2 : (c.toNat % 128 + 128 * m) / 128 = m := by omega
        rw [e1, e2, UInt8.ofNat_toNat]
        rfl
    · rename_i hc
      split at h
      · cases h
      · rename_i hd
        simp only [Option.some.injEq, Prod.mk.injEq] at h
        have hmod : c.toNat % 128 = c.toNat := Nat.mod_eq_of_lt (by omega)
        rw [hmod] at h hd
        refine ⟨c.toNat, h.1.symm, ?_, fun hi => ?_, by omega⟩
        · rw [numF_lt _ _ (by omega), UInt8.ofNat_toNat, h.2]
          rfl
        · rcases Nat.eq_zero_or_pos c.toNat with h0 | h0
          · exact absurd (Or.inr (Or.inr ⟨h0, hi⟩)) hd
          · exact h0
/-- what a getter read stood there -/
def Form {α : Type} (f : St → α × St) (enc : α → List UInt8) : Prop := ∀ st r, (f st).2 = some r → st = some (enc (f st).1 ++ r)
theorem getNum_form (mo : Int) : Form (fun st => getNum st mo) (fun n => numB (clampN (n : Int))) := by
  intro st r h
  cases st with
  | none => simp [getNum] at h
  | some bs =>
    dsimp only at h ⊢
    unfold getNum at h ⊢
    dsimp only at h ⊢
    cases hn : numS mo 9 0 0 bs with
    | none => rw [hn] at h; simp at h
    | some x =>
      obtain ⟨n, r'⟩ := x
      rw [hn] at h
      dsimp only at h ⊢
      cases h
      obtain ⟨m, h1, h2, _, h4⟩ := numS_form mo 9 0 0 bs n r hn
      simp only [Nat.pow_zero, Nat.mul_one, Nat.zero_add] at h1
      subst h1
      have hc : clampN (n : Int) = n := by unfold clampN; rw [if_neg (by omega), if_neg (by omega), Int.toNat_natCast]
      rw [hc, h2]
      rfl
theorem getN_form {st : St} {n : Nat} {r : List UInt8} (h : (getN st n).2 = some r) : st = some ((getN st n).1 ++ r) ∧ (getN st n).1.length = n := by
  cases st with
  | none => simp [getN] at h
  | some bs =>
    unfold getN at h ⊢
    dsimp only at h ⊢
    by_cases hn : n ≤ bs.length
    · rw [if_pos hn] at h ⊢
      dsimp only at h ⊢
      cases h
      exact ⟨by rw [List.take_append_drop], by simp; omega⟩
    · rw [if_neg hn] at h; simp at h
theorem getText_form (mo : Int) : Form (fun st => getText st mo) textB := by
  intro st r h
  obtain ⟨h1, h2⟩ := getN_form (st := (getNum st mo).2) (n := (getNum st mo).1) h
  have h3 := getNum_form mo st _ h1
  dsimp only at h3 ⊢
  unfold textB
  rw [show (getText st mo).1.length = (getNum st mo).1 from h2, List.append_assoc]
  exact h3
theorem getId_form : Form getId (fun i => i) := by
  intro st r h
  obtain ⟨h1, h2⟩ := getN_form (st := st) (n := 32) h
  have hp : (getId st).1 = (getN st 32).1 := by
    show padId _ = _
    unfold padId
    rw [if_neg (by intro h0; rw [h0] at h2; simp at h2)]
  rw [hp]
  exact h1
theorem idsK_form : ∀ k, Form (idsK k) List.flatten
  | 0 => fun st r h => by simpa [idsK] using h
  | k + 1 => fun st r h => by
    have h1 := getId_form (idsK k st).2 r h
    have h2 := idsK_form k st _ h1
    show st = some (((idsK k st).1 ++ [(getId (idsK k st).2).1]).flatten ++ r)
    rw [List.flatten_append, List.append_assoc]
    simpa using h2
theorem idsK_count : ∀ k st, (idsK k st).1.length = k
  | 0, st => rfl
  | k + 1, st => by
    show ((idsK k st).1 ++ [(getId (idsK k st).2).1]).length = _
    rw [List.length_append, idsK_count k st]
    rfl
theorem getIds_form (mo : Int) : Form (fun st => getIds st mo) idsB := by
  intro st r h
  have h1 := idsK_form (getNum st mo).1 (getNum st mo).2 r h
  have h2 := getNum_form mo st _ h1
  dsimp only at h2 ⊢
  unfold idsB
  rw [show (getIds st mo).1.length = (getNum st mo).1 from idsK_count _ _, List.append_assoc]
  exact h2
theorem refsK_form : ∀ k, Form (refsK k) (fun rs => rs.flatMap refB)
  | 0 => fun st r h => by simpa [refsK] using h
  | k + 1 => fun st r h => by
    have h1 := getId_form (getText (refsK k st).2 60).2 r h
    have h2 := getText_form 60 (refsK k st).2 _ h1
    have h3 := refsK_form k st _ h2
    show st = some (((refsK k st).1 ++ [⟨⟨(getText (refsK k st).2 60).1.toArray⟩, (getId (getText (refsK k st).2 60).2).1⟩] : List RefM).flatMap refB ++ r)
    rw [List.flatMap_append, List.append_assoc]
    dsimp only at h3
    simpa [refB] using h3
theorem getRefs_form : Form getRefs refsB := by
  intro st r h
  have h1 := refsK_form (getNum st 100).1 (getNum st 100).2 r h
  have h2 := getNum_form 100 st _ h1
  dsimp only at h2 ⊢
  unfold refsB
  rw [show (getRefs st).1.length = (getNum st 100).1 from (refsK_len _ _).1, List.append_assoc]
  exact h2
theorem headR_form : Form headR headW := by
  intro st r h
  have h1 := getNum_form 1099511627776 (getNum (getNum (getNum st 4).2 65536).2 65536).2 r h
  have h2 := getNum_form 65536 (getNum (getNum st 4).2 65536).2 _ h1
  have h3 := getNum_form 65536 (getNum st 4).2 _ h2
  have h4 := getNum_form 4 st _ h3
  dsimp only at h4
  unfold headW headR
  dsimp only
  rw [List.append_assoc, List.append_assoc, List.append_assoc]
  exact h4
theorem restR_kind (x : Lt × St) : headW (restR x).1 = headW x.1 := by
  unfold restR
  dsimp only
  split
  · rfl
  · split
    · rfl
    · split <;> rfl
theorem restR_form (x : Lt × St) (r : List UInt8) (h : (restR x).2 = some r) : x.2 = some (bodyW (restR x).1 ++ r) := by
  obtain ⟨l, st⟩ := x
  by_cases h2 : l.kind = 2
  · rw [restR_2 h2] at h ⊢
    dsimp only at h ⊢
    rw [bodyW_2]
    · exact getRefs_form st r h
    · exact h2
  · by_cases h3 : l.kind = 3
    · rw [restR_3 h3] at h ⊢
      dsimp only at h ⊢
      rw [bodyW_3 (by exact h3)]
      have e1 := getNum_form 1048576 (getIds (getIds st 100).2 200).2 r h
      have e2 := getIds_form 200 (getIds st 100).2 _ e1
      have e3 := getIds_form 100 st _ e2
      dsimp only at e3 ⊢
      rw [List.append_assoc, List.append_assoc]
      exact e3
    · by_cases h4 : l.kind = 4
      · rw [restR_4 h4] at h ⊢
        dsimp only at h ⊢
        rw [bodyW_4 (by exact h4)]
        have e1 := getText_form 500 (getNum (getNum (getId st).2 1048576).2 1048576).2 r h
        have e2 := getNum_form 1048576 (getNum (getId st).2 1048576).2 _ e1
        have e3 := getNum_form 1048576 (getId st).2 _ e2
        have e4 := getId_form st _ e3
        dsimp only at e4 ⊢
        rw [List.append_assoc, List.append_assoc, List.append_assoc]
        exact e4
      · rw [restR_0 h2 h3 h4] at h ⊢
        dsimp only at h ⊢
        rw [bodyW_1 h2 h3 h4]
        exact h
theorem fourB_four {d : List UInt8} (h : d.length = 4) : fourB (four d) = d := by
  match d, h with
  | [a, b, c, e], _ =>
    have ha := a.toNat_lt
    have hb := b.toNat_lt
    have hc := c.toNat_lt
    have he := e.toNat_lt
    simp only [four, fourB]
    have e1 : UInt8.ofNat (a.toNat + 256 * b.toNat + 65536 * c.toNat + 16777216 * e.toNat) = a := by
      rw [← UInt8.toNat_inj, UInt8.toNat_ofNat']; omega
    have e2 : UInt8.ofNat ((a.toNat + 256 * b.toNat + 65536 * c.toNat + 16777216 * e.toNat) / 256) = b := by
      rw [← UInt8.toNat_inj, UInt8.toNat_ofNat']; omega
    have e3 : UInt8.ofNat ((a.toNat + 256 * b.toNat + 65536 * c.toNat + 16777216 * e.toNat) / 65536) = c := by
      rw [← UInt8.toNat_inj, UInt8.toNat_ofNat']; omega
    have e4 : UInt8.ofNat ((a.toNat + 256 * b.toNat + 65536 * c.toNat + 16777216 * e.toNat) / 16777216) = e := by
      rw [← UInt8.toNat_inj, UInt8.toNat_ofNat']; omega
    rw [e1, e2, e3, e4]
/-- WHAT IS READ WAS WRITTEN SO -/
theorem read_form {bs : List UInt8} {l : Lt} (h : readL bs = some l) : bs = writeB l ∧ rightL l = true := by
  unfold readL at h
  split at h
  · cases h
  · rename_i hl
    split at h
    · cases h
    · rename_i hc
      dsimp only at h
      split at h
      · rename_i hd
        cases h
        rw [Bool.and_eq_true] at hd
        refine ⟨?_, hd.2⟩
        have hd1 : (restR (headR (some (bs.take (bs.length - 4))))).2 = some [] := by
          have := hd.1
          revert this
          cases (restR (headR (some (bs.take (bs.length - 4))))).2 with
          | none => intro h; cases h
          | some r => intro h; simp [doneS] at h; rw [h]
        have e1 := restR_form _ _ hd1
        have e2 := headR_form _ _ e1
        have e3 := Option.some.inj e2
        rw [List.append_nil, ← restR_kind] at e3
        have e4 : bs.drop (bs.length - 4) = fourB (crc (bs.take (bs.length - 4))).toNat := by
          have hlen : (bs.drop (bs.length - 4)).length = 4 := by rw [List.length_drop]; omega
          have h5 : (getFour (some (bs.drop (bs.length - 4)))).1 = (crc (bs.take (bs.length - 4))).toNat := by
            simpa using hc
          rw [← h5]
          unfold getFour
          rw [getN_yes (by omega), List.take_of_length_le (by omega)]
          exact (fourB_four hlen).symm
        have e5 : bs = bs.take (bs.length - 4) ++ bs.drop (bs.length - 4) := (List.take_append_drop _ _).symm
        unfold writeB inW
        rw [← e3]
        exact e5.trans (by rw [e4])
      · cases h
/-- a proper beginning of a letter's bytes is none of it; other bytes are another letter -/
theorem read_same {bs : List UInt8} {l m : Lt} (hr : rightL l = true) (ho : LtOk l) (h : readL bs = some m) : m = l ↔ bs = writeB l := by
  have hf := read_form h
  constructor
  · intro e; rw [hf.1, e]
  · intro e
    rw [e, read_write l hr ho] at h
    exact (Option.some.inj h).symm
end Go.Proofs.Ytfjfidhhmidflaa
