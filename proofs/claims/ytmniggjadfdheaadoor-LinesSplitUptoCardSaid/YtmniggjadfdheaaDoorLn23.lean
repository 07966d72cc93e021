
/- LinesTexts: the plain law. -/

import Derived.Test.YtmniggjadfdheaaDoorLn22

import Derived.Test.YtmniggjadfdheaaDoorLn10

namespace Go.Proofs.YtmniggjadfdheaaDoor

set_option linter.unusedVariables false

set_option linter.unusedSimpArgs false

open Go.RowKit

theorem linesL_form (l : List UInt8) : linesL (l ++ [10]) ≠ [] ∧ ∀ x ∈ linesL (l ++ [10]), ∃ p, x = p ++ [10] ∧ (10 : UInt8) ∉ p := by
  induction l with
  | nil => exact ⟨by simp [linesL], fun x hx => ⟨[], by simpa [linesL] using hx, by simp⟩⟩
  | cons c l ih =>
    rw [List.cons_append, linesL]
    by_cases hc : c = 10
    · rw [if_pos hc]
      refine ⟨by simp, fun x hx => ?_⟩
      rcases List.mem_cons.1 hx with h | h
      · exact ⟨[], by rw [h, hc]; rfl, by simp⟩
      · exact ih.2 x h
    · rw [if_neg hc]
      obtain ⟨y, r, hy⟩ := List.exists_cons_of_ne_nil ih.1
      rw [hy]
      refine ⟨by simp, fun x hx => ?_⟩
      rcases List.mem_cons.1 hx with h | h
      · obtain ⟨p, hp, hn⟩ := ih.2 y (by rw [hy]; simp)
        exact ⟨c :: p, by rw [h, hp]; rfl, fun h' => by rcases List.mem_cons.1 h' with h' | h'; exact hc h'.symm; exact hn h'⟩
      · exact ih.2 x (by rw [hy]; simp [h])
theorem sign_ne (k : Int) : ¬ signB k = 10 := by
  unfold signB
  split
  · decide
  · split
    · decide
    · split <;> decide
theorem end_of {x : ByteArray} {p : List UInt8} (h : x.data.toList = p ++ [10]) : endNL x = true := by
  unfold endNL; rw [h]; simp
theorem text_lines (s : List EdM) (h : ∀ e ∈ s, ∃ p, e.line.data.toList = p ++ [10] ∧ (10 : UInt8) ∉ p) : linesL (textB s) = s.map (fun e => signB e.kind :: e.line.data.toList) := by
  induction s with
  | nil => rfl
  | cons e s ih =>
    obtain ⟨p, hp, hn⟩ := h e (by simp)
    have e1 : textB (e :: s) = (signB e.kind :: p) ++ 10 :: textB s := by
      show lineB e ++ textB s = _
      unfold lineB
      rw [end_of hp, hp]
      simp
    rw [e1, linesL_nl _ _ (fun h' => by rcases List.mem_cons.1 h' with h' | h'; exact sign_ne _ h'.symm; exact hn h'), ih (fun e he => h e (by simp [he])), List.map_cons, hp]
    rfl
end Go.Proofs.YtmniggjadfdheaaDoor
