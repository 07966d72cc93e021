
/- Facts on the decoding of texts: a byte below 128 stands for itself, and no other rune reaches into one. -/

import Derived.Laws.RangeAny

import Derived.Lib.IndexAny

namespace Go.Proofs.Ytabkgoandfpclaa

set_option linter.unusedVariables false

set_option linter.unusedSimpArgs false

theorem decode_span (s : ByteArray) (pos : Nat) (h : pos < s.size) (ha : 128 ≤ (s[pos]'h).toNat) :
    ∀ j, pos ≤ j → j < pos + (Utf8.decode s pos).2 → j < s.size ∧ 128 ≤ (s.get! j).toNat := by
  have hn : ¬ (s[pos]'h).toNat < 128 := by omega
  have h0 : s.get! pos = s[pos]'h := get_at s pos h
  simp only [Utf8.decode, get_at s pos h, hn, if_false]
  intro j h1 h2
  repeat' split at h2
  all_goals simp_all
  all_goals
    rcases (by omega : j = pos ∨ j = pos + 1 ∨ j = pos + 2 ∨ j = pos + 3) with e | e | e | e
    all_goals subst e
    all_goals first | exact ⟨h, by rw [h0]; exact ha⟩ | (exfalso; omega) | (constructor <;> omega)

theorem decode_max (s : ByteArray) (pos : Nat) : (Utf8.decode s pos).1 ≤ 1114111 := by
  have hb : ∀ k, (s.get! (pos + k)).toNat < 256 := fun k => (s.get! (pos + k)).toNat_lt
  have h0 := hb 0; have h1 := hb 1; have h2 := hb 2; have h3 := hb 3
  simp only [Utf8.decode]
  repeat' split
  all_goals simp_all [Utf8.runeError, Utf8.valid]
  all_goals omega

/-- the text of a rune that is no byte: its last byte is none below 128 -/
theorem encode_high (r : Nat) (h1 : 128 ≤ r) (s : ByteArray) (hs : Utf8.encode (r : Int) = s) : 2 ≤ s.size ∧ s.size ≤ 4 ∧ 128 ≤ (s.get! (s.size - 1)).toNat := by
  have hc : ∃ c, 128 ≤ c ∧ (if Utf8.valid (r : Int) then (r : Int).toNat else Utf8.runeError) = c := by
    refine ⟨_, ?_, rfl⟩
    split
    · omega
    · decide
  obtain ⟨c, hc1, hc2⟩ := hc
  unfold Utf8.encode at hs
  simp only [hc2] at hs
  have hb : ∀ x, 128 ≤ (UInt8.ofNat (128 + x % 64)).toNat := fun x => by
    rw [UInt8.toNat_ofNat']
    omega
  rw [if_neg (by omega)] at hs
  split at hs
  · subst hs
    exact ⟨Nat.le_refl 2, (by decide : 2 ≤ 4), hb _⟩
  split at hs
  · subst hs
    exact ⟨(by decide : 2 ≤ 3), (by decide : 3 ≤ 4), hb _⟩
  · subst hs
    exact ⟨(by decide : 2 ≤ 4), Nat.le_refl 4, hb _⟩
end Go.Proofs.Ytabkgoandfpclaa
