
/- The plain law of Split: a text's lines, byte by byte. -/

import Derived.Test.YtmniggjadfdheaaDoorLn12

namespace Go.Proofs.YtmniggjadfdheaaDoor

set_option linter.unusedVariables false

set_option linter.unusedSimpArgs false

open Go.RowKit

/-- a text's lines, as lists of bytes -/
def linesL : List UInt8 → List (List UInt8)
  | [] => []
  | c :: l => if c = 10 then [c] :: linesL l else match linesL l with
    | [] => [[c]]
    | x :: r => (c :: x) :: r
theorem linesL_nl (p l : List UInt8) (hp : (10 : UInt8) ∉ p) : linesL (p ++ 10 :: l) = (p ++ [10]) :: linesL l := by
  induction p with
  | nil => simp [linesL]
  | cons c p ih =>
    have hc : ¬ c = 10 := fun h => hp (by simp [h])
    have hp' : (10 : UInt8) ∉ p := fun h => hp (List.mem_cons_of_mem _ h)
    rw [List.cons_append, linesL, if_neg hc, ih hp']
    rfl
theorem linesL_last (p : List UInt8) (hp : (10 : UInt8) ∉ p) (h : p ≠ []) : linesL p = [p] := by
  induction p with
  | nil => exact absurd rfl h
  | cons c p ih =>
    have hc : ¬ c = 10 := fun h => hp (by simp [h])
    have hp' : (10 : UInt8) ∉ p := fun h => hp (List.mem_cons_of_mem _ h)
    rw [linesL, if_neg hc]
    cases p with
    | nil => rfl
    | cons d p => rw [ih hp' (by simp)]
theorem linesL_flat (l : List UInt8) : (linesL l).flatten = l := by
  induction l with
  | nil => rfl
  | cons c l ih =>
    rw [linesL]
    split
    · simp [ih]
    · split
      · rename_i h; rw [h] at ih; simp at ih; subst ih; simp
      · rename_i x r h; rw [h] at ih; rw [← ih]; simp
theorem idx_at (p l : List UInt8) (hp : (10 : UInt8) ∉ p) : Lib.indexByte (p ++ 10 :: l) 10 = (p.length : Int) := by
  induction p with
  | nil => simp [Lib.indexByte]
  | cons c p ih =>
    have hc : ¬ c = 10 := fun h => hp (by simp [h])
    have hp' : (10 : UInt8) ∉ p := fun h => hp (List.mem_cons_of_mem _ h)
    rw [List.cons_append, Lib.indexByte, ih hp']
    simp [hc]
theorem split_at (s : List UInt8) (h : (10 : UInt8) ∈ s) : ∃ p l, s = p ++ 10 :: l ∧ (10 : UInt8) ∉ p := by
  induction s with
  | nil => cases h
  | cons c s ih =>
    by_cases hc : c = 10
    · exact ⟨[], s, by simp [hc], by simp⟩
    · obtain ⟨p, l, e, hp⟩ := ih (by rcases List.mem_cons.1 h with h | h; exact absurd h.symm hc; exact h)
      exact ⟨c :: p, l, by rw [e]; rfl, fun h => by rcases List.mem_cons.1 h with h | h; exact hc h.symm; exact hp h⟩
/-- a list without its last part, where that is empty -/
def cutL (l : List (List UInt8)) : List (List UInt8) := if l.getLast? = some [] then l.dropLast else l
theorem cutL_cons (x : List UInt8) (r : List (List UInt8)) (h : r ≠ []) : cutL (x :: r) = x :: cutL r := by
  unfold cutL
  rw [List.getLast?_cons_of_ne_nil h, List.dropLast_cons_of_ne_nil h]
  split <;> rfl
theorem splitK_ne (sep : List UInt8) (sv : Nat) : ∀ k s, Lib.splitK sep sv k s ≠ []
  | 0, s => by simp [Lib.splitK]
  | k + 1, s => by unfold Lib.splitK; split <;> simp
theorem splitK_lines : ∀ (k : Nat) (s : List UInt8), s.count 10 = k → cutL (Lib.splitK [10] 1 k s) = linesL s
  | 0, s, h => by
    have hn : (10 : UInt8) ∉ s := List.count_eq_zero.1 h
    unfold Lib.splitK cutL
    by_cases hs : s = []
    · subst hs; rfl
    · rw [linesL_last s hn hs, if_neg (by simpa using hs)]
  | k + 1, s, h => by
    obtain ⟨p, l, rfl, hp⟩ := split_at s (List.count_pos_iff.1 (by omega))
    have hk : l.count 10 = k := by
      rw [List.count_append, List.count_eq_zero.2 hp] at h
      simp at h
      exact h
    have hi : Lib.index (p ++ 10 :: l) [10] = (p.length : Int) := by rw [Lib.index_one, idx_at p l hp]
    unfold Lib.splitK
    rw [hi, if_neg (by simp)]
    rw [cutL_cons _ _ (splitK_ne _ _ _ _), linesL_nl p l hp]
    congr 1
    · rw [show (((p.length : Int)).toNat + 1) = (p ++ [10]).length by simp, show p ++ 10 :: l = (p ++ [10]) ++ l by simp, List.take_left]
    · rw [← splitK_lines k l hk]
      rw [show (((p.length : Int)).toNat + [(10 : UInt8)].length) = (p ++ [(10 : UInt8)]).length by simp, show p ++ 10 :: l = (p ++ [10]) ++ l by simp, List.drop_left]
theorem cutE_map (l : List ByteArray) : (cutE l).map (·.data.toList) = cutL (l.map (·.data.toList)) := by
  have h : ((l.getLast?.map (·.size)) = some 0) ↔ ((l.map (·.data.toList)).getLast? = some []) := by
    rw [List.getLast?_map]
    cases l.getLast? with
    | none => simp
    | some x =>
      have := size_toList x
      constructor
      · intro h
        have h0 : x.size = 0 := by simpa using h
        have : x.data.toList = [] := List.eq_nil_of_length_eq_zero (by omega)
        simp [this]
      · intro h
        have h0 : x.data.toList = [] := by simpa using h
        have : x.size = 0 := by rw [h0] at this; simpa using this.symm
        simp [this]
  unfold cutE cutL
  by_cases hc : (l.map (·.data.toList)).getLast? = some []
  · rw [if_pos (h.2 hc), if_pos hc, List.map_dropLast]
  · rw [if_neg (fun k => hc (h.1 k)), if_neg hc]
/-- Split's lines are the text's lines -/
theorem splitP_lines (s : ByteArray) : (splitP s).map (·.data.toList) = linesL s.data.toList := by
  unfold splitP
  rw [cutE_map, Lib.splitB_data]
  exact splitK_lines _ _ (Lib.count_one 10 _).symm
end Go.Proofs.YtmniggjadfdheaaDoor
