
/- The document's Back, plain: runs of Drops and Adds. -/

import Derived.Test.YtmniggjadfdheaaDoorLn14

namespace Go.Proofs.YtmniggjadfdheaaDoor

set_option linter.unusedVariables false

set_option linter.unusedSimpArgs false

open Go.RowKit

/-- the edits of one kind, turned -/
def pickE (w : Int) (s : List EdM) : List EdM := (s.filter (fun e => decide (e.kind = w))).map (fun e => ⟨3 - w, e.line⟩)
theorem pickE_app (w : Int) (s t : List EdM) : pickE w (s ++ t) = pickE w s ++ pickE w t := by simp [pickE]
theorem pickE_hit {w : Int} {kd : Int} {l : ByteArray} (h : kd = w) : pickE w [⟨kd, l⟩] = [⟨3 - w, l⟩] := by simp [pickE, h]
theorem pickE_miss {w : Int} {kd : Int} {l : ByteArray} (h : ¬ kd = w) : pickE w [⟨kd, l⟩] = [] := by simp [pickE, h]
/-- a part of a script -/
def segE (s : List EdM) (i k : Nat) : List EdM := (s.take k).drop i
theorem segE_self (s : List EdM) (i : Nat) : segE s i i = [] := by
  unfold segE
  rw [List.drop_eq_nil_of_le (List.length_take_le _ _)]
theorem segE_succ {s : List EdM} {i k : Nat} {e : EdM} (h : s[k]? = some e) (hi : i ≤ k) : segE s i (k + 1) = segE s i k ++ [e] := by
  obtain ⟨h1, h2⟩ := List.getElem?_eq_some_iff.1 h
  unfold segE
  rw [List.take_succ_eq_append_getElem h1, h2, List.drop_append_of_le_length (by rw [List.length_take]; omega)]
theorem segE_drop (s : List EdM) (i k : Nat) (hi : i ≤ k) (hk : k ≤ s.length) : s.drop i = segE s i k ++ s.drop k := by
  unfold segE
  conv => lhs; rw [← List.take_append_drop k s]
  rw [List.drop_append_of_le_length (by rw [List.length_take]; omega)]
theorem segE_mem {s : List EdM} {i j k : Nat} {e : EdM} (h : s[j]? = some e) (h1 : i ≤ j) (h2 : j < k) : e ∈ segE s i k := by
  refine List.mem_of_getElem? (i := j - i) ?_
  unfold segE
  rw [List.getElem?_drop, List.getElem?_take, if_pos (by omega), show i + (j - i) = j by omega]
  exact h
theorem tidy_run : ∀ (run out adds rest : List EdM), (∀ e ∈ run, chgB e = true) → tidyG ((run ++ rest).map flipE) out adds = tidyG (rest.map flipE) (out ++ pickE 2 run) (adds ++ pickE 1 run)
  | [], out, adds, rest, _ => by simp [pickE]
  | ⟨kd, l⟩ :: run, out, adds, rest, h => by
    have hr : ∀ e ∈ run, chgB e = true := fun e he => h e (by simp [he])
    have h0 : kd = 1 ∨ kd = 2 := by have := h ⟨kd, l⟩ (by simp); simpa [chgB] using this
    rcases h0 with rfl | rfl
    · have e1 : flipE (⟨1, l⟩ : EdM) = ⟨2, l⟩ := by simp [flipE]
      rw [List.cons_append, List.map_cons, e1]
      simp only [tidyG]
      rw [if_pos trivial, tidy_run run _ _ _ hr]
      have e2 : pickE 2 (⟨1, l⟩ :: run : List EdM) = pickE 2 run := by
        rw [show (⟨1, l⟩ :: run : List EdM) = [⟨1, l⟩] ++ run from rfl, pickE_app, pickE_miss (by decide), List.nil_append]
      have e3 : pickE 1 (⟨1, l⟩ :: run : List EdM) = ⟨2, l⟩ :: pickE 1 run := by
        rw [show (⟨1, l⟩ :: run : List EdM) = [⟨1, l⟩] ++ run from rfl, pickE_app, pickE_hit rfl]; rfl
      rw [e2, e3, List.append_assoc]; rfl
    · have e1 : flipE (⟨2, l⟩ : EdM) = ⟨1, l⟩ := by simp [flipE]
      rw [List.cons_append, List.map_cons, e1]
      simp only [tidyG]
      rw [if_neg (by decide), if_neg (by decide), tidy_run run _ _ _ hr]
      have e2 : pickE 2 (⟨2, l⟩ :: run : List EdM) = ⟨1, l⟩ :: pickE 2 run := by
        rw [show (⟨2, l⟩ :: run : List EdM) = [⟨2, l⟩] ++ run from rfl, pickE_app, pickE_hit rfl]; rfl
      have e3 : pickE 1 (⟨2, l⟩ :: run : List EdM) = pickE 1 run := by
        rw [show (⟨2, l⟩ :: run : List EdM) = [⟨2, l⟩] ++ run from rfl, pickE_app, pickE_miss (by decide), List.nil_append]
      rw [e2, e3, List.append_assoc]; rfl
theorem flip_keep {kd : Int} {l : ByteArray} (h1 : ¬ kd = 1) (h2 : ¬ kd = 2) : flipE (⟨kd, l⟩ : EdM) = ⟨kd, l⟩ := by simp [flipE, h1, h2]
/-- an edit that is neither Drop nor Add -/
theorem tidy_keep {kd : Int} {l : ByteArray} (h1 : ¬ kd = 1) (h2 : ¬ kd = 2) (r out adds : List EdM) : tidyG (((⟨kd, l⟩ : EdM) :: r).map flipE) out adds = tidyG (r.map flipE) (out ++ adds ++ [⟨kd, l⟩]) [] := by
  rw [List.map_cons, flip_keep h1 h2]
  simp only [tidyG]
  rw [if_neg h2, if_pos h1]
/-- where a run ends -/
theorem tidy_close (rest out adds : List EdM) (h : ∀ e, rest.head? = some e → ¬ chgB e = true) : tidyG (rest.map flipE) out adds = tidyG (rest.map flipE) (out ++ adds) [] := by
  cases rest with
  | nil => simp [tidyG]
  | cons e r =>
    obtain ⟨kd, l⟩ := e
    have := h _ rfl
    have h1 : ¬ kd = 1 := fun e => this (by simp [chgB, e])
    have h2 : ¬ kd = 2 := fun e => this (by simp [chgB, e])
    rw [tidy_keep h1 h2, tidy_keep h1 h2]
    simp
/-- a whole run -/
theorem tidy_whole (s : List EdM) (i k : Nat) (out : List EdM) (hi : i ≤ k) (hk : k ≤ s.length) (hc : ∀ e ∈ segE s i k, chgB e = true) (he : ∀ e, s[k]? = some e → ¬ chgB e = true) :
    tidyG ((s.drop i).map flipE) out [] = tidyG ((s.drop k).map flipE) (out ++ pickE 2 (segE s i k) ++ pickE 1 (segE s i k)) [] := by
  rw [segE_drop s i k hi hk, tidy_run _ _ _ _ hc, List.nil_append, tidy_close _ _ _ (fun e h => he e (by rw [List.head?_drop] at h; exact h))]
end Go.Proofs.YtmniggjadfdheaaDoor
