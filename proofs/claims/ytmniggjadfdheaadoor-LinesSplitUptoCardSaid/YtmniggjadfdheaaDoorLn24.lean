
/- LinesTexts: what it says of a script and its text, plain. -/

import Derived.Test.YtmniggjadfdheaaDoorLn23

import Derived.Test.YtmniggjadfdheaaDoorLn14

namespace Go.Proofs.YtmniggjadfdheaaDoor

set_option linter.unusedVariables false

set_option linter.unusedSimpArgs false

open Go.RowKit

theorem ba_ext {x y : ByteArray} (h : x.data.toList = y.data.toList) : x = y := by
  obtain ⟨⟨x⟩⟩ := x
  obtain ⟨⟨y⟩⟩ := y
  have : x = y := h
  rw [this]
/-- the lines of a text with a newline put behind it -/
def linesN (bs : List UInt8) : List ByteArray := splitP ⟨(bs ++ [10]).toArray⟩
theorem linesN_map (bs : List UInt8) : (linesN bs).map (·.data.toList) = linesL (bs ++ [10]) := by
  unfold linesN; rw [splitP_lines]
theorem linesN_form (bs : List UInt8) : ∀ x ∈ linesN bs, ∃ p, x.data.toList = p ++ [10] ∧ (10 : UInt8) ∉ p := fun x hx => by
  have h : x.data.toList ∈ (linesN bs).map (·.data.toList) := List.mem_map.2 ⟨x, hx, rfl⟩
  rw [linesN_map] at h
  exact (linesL_form bs).2 _ h
theorem edit_form (us bs : List UInt8) : ∀ e ∈ diffS (linesN us) (linesN bs), ∃ p, e.line.data.toList = p ++ [10] ∧ (10 : UInt8) ∉ p := fun e he => by
  obtain ⟨h1, h2, _, h4, _⟩ := diffS_ok (linesN us) (linesN bs)
  by_cases hk : e.kind = 2
  · have : e.line ∈ dstE (diffS (linesN us) (linesN bs)) := List.mem_map.2 ⟨e, List.mem_filter.2 ⟨he, by simp [hk]⟩, rfl⟩
    rw [h2] at this
    exact linesN_form bs _ this
  · have : e.line ∈ srcE (diffS (linesN us) (linesN bs)) := List.mem_map.2 ⟨e, List.mem_filter.2 ⟨he, by simp [hk]⟩, rfl⟩
    rw [h1] at this
    exact linesN_form us _ this
/-- Text's lines: a line an edit, its sign ahead -/
theorem told_map (s : List EdM) (h : ∀ e ∈ s, ∃ p, e.line.data.toList = p ++ [10] ∧ (10 : UInt8) ∉ p) : (splitP ⟨(textB s).toArray⟩).map (·.data.toList) = s.map (fun e => signB e.kind :: e.line.data.toList) := by
  rw [splitP_lines]
  exact text_lines s h
theorem told_len {s : List EdM} {t : List ByteArray} (h : t.map (·.data.toList) = s.map (fun e => signB e.kind :: e.line.data.toList)) : t.length = s.length := by
  have := congrArg List.length h
  simpa using this
theorem told_at {s : List EdM} {t : List ByteArray} (h : t.map (·.data.toList) = s.map (fun e => signB e.kind :: e.line.data.toList)) {k : Nat} {e : EdM} {x : ByteArray} (he : s[k]? = some e) (hx : t[k]? = some x) :
    x[0]? = some (signB e.kind) ∧ 0 < x.size ∧ x.extract 1 x.size = e.line ∧ x.size = e.line.size + 1 := by
  have h1 : x.data.toList = signB e.kind :: e.line.data.toList := by
    have := congrArg (fun l => l[k]?) h
    simpa [he, hx] using this
  have hs : x.size = e.line.size + 1 := by
    have := congrArg List.length h1
    rw [size_toList, List.length_cons, size_toList] at this
    exact this
  refine ⟨?_, by omega, ba_ext ?_, hs⟩
  · obtain ⟨⟨x⟩⟩ := x
    have h2 : x = signB e.kind :: e.line.data.toList := h1
    subst h2
    rfl
  · rw [ByteArray.data_extract, Array.toList_extract, List.extract_eq_take_drop, h1]
    simp only [List.drop_succ_cons, List.drop_zero]
    rw [List.take_of_length_le (by rw [size_toList]; omega)]
/-- what is joined behind k edits -/
def secL (s : List EdM) (k : Nat) : List UInt8 := ((dstE (s.take k)).map (·.data.toList)).flatten
theorem secL_zero (s : List EdM) : secL s 0 = [] := by simp [secL, dstE]
theorem secL_keep {s : List EdM} {k : Nat} {e : EdM} (he : s[k]? = some e) (hk : ¬ e.kind = 1) : secL s (k + 1) = secL s k ++ e.line.data.toList := by
  obtain ⟨h1, h2⟩ := List.getElem?_eq_some_iff.1 he
  unfold secL
  rw [List.take_succ_eq_append_getElem h1, h2, dstE_app]
  simp [dstE, hk]
theorem secL_drop {s : List EdM} {k : Nat} {e : EdM} (he : s[k]? = some e) (hk : e.kind = 1) : secL s (k + 1) = secL s k := by
  obtain ⟨h1, h2⟩ := List.getElem?_eq_some_iff.1 he
  unfold secL
  rw [List.take_succ_eq_append_getElem h1, h2, dstE_app]
  simp [dstE, hk]
theorem flat_len_le (x y : List (List UInt8)) (h : x <+: y) : x.flatten.length ≤ y.flatten.length := by
  obtain ⟨z, rfl⟩ := h
  simp
theorem secL_le (s : List EdM) (k : Nat) : (secL s k).length ≤ (secL s s.length).length := by
  unfold secL
  refine flat_len_le _ _ ?_
  rw [List.take_length]
  have : dstE s = dstE (s.take k) ++ dstE (s.drop k) := by rw [← dstE_app, List.take_append_drop]
  rw [this, List.map_append]
  exact List.prefix_append _ _
theorem secL_all (us bs : List UInt8) : secL (diffS (linesN us) (linesN bs)) (diffS (linesN us) (linesN bs)).length = bs ++ [10] := by
  unfold secL
  rw [List.take_length, (diffS_ok (linesN us) (linesN bs)).2.1, linesN_map, linesL_flat]
theorem sec_str {l : List UInt8} {x : ByteArray} : (⟨l.toArray⟩ : ByteArray) ++ x = ⟨(l ++ x.data.toList).toArray⟩ := by
  refine ba_ext ?_
  simp
theorem textB_len {s : List EdM} {m : Nat} (h : ∀ e ∈ s, e.line.size ≤ m) : (textB s).length ≤ s.length * (m + 2) := by
  induction s with
  | nil => simp [textB]
  | cons e s ih =>
    have h1 := ih (fun e he => h e (by simp [he]))
    have h2 := h e (by simp)
    have h3 := (lineB_size e).2
    have h4 : (if endNL e.line = true then 1 else 2) ≤ 2 := by split <;> omega
    have : textB (e :: s) = lineB e ++ textB s := rfl
    rw [this, List.length_append, List.length_cons, Nat.succ_mul]
    omega
theorem linesN_size (bs : List UInt8) : ∀ x ∈ linesN bs, x.size ≤ bs.length + 1 := fun x hx => by
  have h : x.data.toList ∈ (linesN bs).map (·.data.toList) := List.mem_map.2 ⟨x, hx, rfl⟩
  rw [linesN_map] at h
  have h2 := (List.sublist_flatten_of_mem h).length_le
  rw [linesL_flat, size_toList] at h2
  simpa using h2
theorem edit_size (us bs : List UInt8) (ha : us.length ≤ 400) (hb : bs.length ≤ 400) : ∀ e ∈ diffS (linesN us) (linesN bs), e.line.size ≤ 401 := fun e he => by
  obtain ⟨h1, h2, _, h4, _⟩ := diffS_ok (linesN us) (linesN bs)
  by_cases hk : e.kind = 2
  · have : e.line ∈ dstE (diffS (linesN us) (linesN bs)) := List.mem_map.2 ⟨e, List.mem_filter.2 ⟨he, by simp [hk]⟩, rfl⟩
    rw [h2] at this
    have := linesN_size bs _ this
    omega
  · have : e.line ∈ srcE (diffS (linesN us) (linesN bs)) := List.mem_map.2 ⟨e, List.mem_filter.2 ⟨he, by simp [hk]⟩, rfl⟩
    rw [h1] at this
    have := linesN_size us _ this
    omega
/-- a kind as the index of its sign -/
theorem kind_sign {k : Int} (h : k = 0 ∨ k = 1 ∨ k = 2) : ∃ n : Nat, k = (n : Int) ∧ n < 3 ∧ (⟨#[32, 45, 43]⟩ : ByteArray)[n]? = some (signB k) := by
  rcases h with rfl | rfl | rfl
  · exact ⟨0, rfl, by omega, rfl⟩
  · exact ⟨1, rfl, by omega, rfl⟩
  · exact ⟨2, rfl, by omega, rfl⟩
end Go.Proofs.YtmniggjadfdheaaDoor
