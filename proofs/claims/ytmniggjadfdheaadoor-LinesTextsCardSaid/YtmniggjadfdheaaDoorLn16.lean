
/- LinesParts: the plain law. -/

import Derived.Test.YtmniggjadfdheaaDoorLn14

namespace Go.Proofs.YtmniggjadfdheaaDoor

set_option linter.unusedVariables false

set_option linter.unusedSimpArgs false

set_option linter.unusedSectionVars false

open Go.RowKit

/-- what stands in a list behind i rounds: a's lines, others between -/
def bOf (a t : List ByteArray) : Nat → List ByteArray
  | 0 => []
  | i + 1 => bOf a t i ++ (t[i]?).toList ++ (a[i]?).toList
theorem bOf_hit {a t : List ByteArray} {i : Nat} {x y : ByteArray} (hx : a[i]? = some x) (hy : t[i]? = some y) : bOf a t (i + 1) = (bOf a t i ++ [y]) ++ [x] := by
  rw [bOf, hx, hy]; rfl
theorem bOf_miss {a t : List ByteArray} {i : Nat} {x : ByteArray} (hx : a[i]? = some x) (hy : t[i]? = none) : bOf a t (i + 1) = bOf a t i ++ [x] := by
  rw [bOf, hx, hy]; simp
theorem bOf_len (a t : List ByteArray) : ∀ i, i ≤ a.length → i ≤ (bOf a t i).length ∧ (bOf a t i).length ≤ 2 * i
  | 0, _ => ⟨Nat.le_refl _, Nat.le_refl _⟩
  | i + 1, h => by
    have ih := bOf_len a t i (by omega)
    have hx : a[i]? = some (a[i]'(by omega)) := List.getElem?_eq_getElem _
    rcases Option.eq_none_or_eq_some t[i]? with hy | ⟨y, hy⟩
    · rw [bOf_miss hx hy]; simp; omega
    · rw [bOf_hit hx hy]; simp; omega
theorem bOf_pre (a t : List ByteArray) (i : Nat) : ∀ d, bOf a t i <+: bOf a t (i + d)
  | 0 => List.prefix_refl _
  | d + 1 => by
    refine (bOf_pre a t i d).trans ?_
    rw [← Nat.add_assoc, bOf, List.append_assoc]
    exact List.prefix_append _ _
theorem bOf_path (a t : List ByteArray) (n : Nat) (hn : n ≤ a.length) : ∀ i, i ≤ n → Pth a (bOf a t n) ((bOf a t i).length - i) i (bOf a t i).length
  | 0, _ => Pth.zero
  | i + 1, h => by
    have ih := bOf_path a t n hn i (by omega)
    have hx : a[i]? = some (a[i]'(by omega)) := List.getElem?_eq_getElem _
    have hl := bOf_len a t i (by omega)
    obtain ⟨d, hd⟩ : ∃ d, n = (i + 1) + d := ⟨n - (i + 1), by omega⟩
    have hpre := bOf_pre a t (i + 1) d
    rw [← hd] at hpre
    have hple := hpre.length_le
    have hget : ∀ j, j < (bOf a t (i + 1)).length → (bOf a t n)[j]? = (bOf a t (i + 1))[j]? := fun j hj => by
      obtain ⟨r, hr⟩ := hpre
      rw [← hr, List.getElem?_append_left hj]
    rcases Option.eq_none_or_eq_some t[i]? with hy | ⟨y, hy⟩
    · have e := bOf_miss hx hy
      have hlen : (bOf a t (i + 1)).length = (bOf a t i).length + 1 := by rw [e]; simp
      have k := ih.keep (by omega) (by omega) (by rw [hget _ (by omega), e, hx]; simp)
      rw [hlen]
      rwa [show (bOf a t i).length + 1 - (i + 1) = (bOf a t i).length - i by omega]
    · have e := bOf_hit hx hy
      have hlen : (bOf a t (i + 1)).length = (bOf a t i).length + 2 := by rw [e]; simp
      have k := (ih.add (by omega)).keep (by omega) (by omega) (by rw [hget _ (by omega), e, hx, List.getElem?_append_right (by simp)]; simp)
      rw [hlen]
      rwa [show (bOf a t i).length + 2 - (i + 1) = (bOf a t i).length - i + 1 by omega]

/-- how many edits of a kind there are -/
def nK (k : Int) (s : List EdM) : Nat := (s.filter (fun e => decide (e.kind = k))).length
theorem nK_cons (k : Int) (e : EdM) (s : List EdM) : nK k (e :: s) = (if e.kind = k then 1 else 0) + nK k s := by
  unfold nK
  rw [List.filter_cons]
  by_cases h : e.kind = k
  · simp [h]; omega
  · simp [h]
theorem nK_app (k : Int) (s t : List EdM) : nK k (s ++ t) = nK k s + nK k t := by simp [nK]
theorem nK_take {k : Int} {s : List EdM} {i : Nat} {e : EdM} (h : s[i]? = some e) : nK k (s.take (i + 1)) = nK k (s.take i) + (if e.kind = k then 1 else 0) := by
  obtain ⟨h1, h2⟩ := List.getElem?_eq_some_iff.1 h
  rw [List.take_succ_eq_append_getElem h1, h2, nK_app, nK_cons]
  rfl
theorem counts (s : List EdM) : (srcE s).length + nK 2 s = s.length ∧ (dstE s).length + nK 1 s = s.length ∧ costE s = nK 1 s + nK 2 s := by
  induction s with
  | nil => exact ⟨rfl, rfl, rfl⟩
  | cons e s ih =>
    obtain ⟨h1, h2, h3⟩ := ih
    rw [nK_cons, nK_cons, costE_cons, show e :: s = [e] ++ s from rfl, srcE_app, dstE_app]
    simp only [List.length_append, List.length_singleton]
    by_cases h : e.kind = 1
    · simp [srcE, dstE, chgB, h] at *; omega
    · by_cases k : e.kind = 2
      · simp [srcE, dstE, chgB, k] at *; omega
      · simp [srcE, dstE, chgB, h, k] at *; omega
theorem nK_zero {k : Int} {s : List EdM} (h : nK k s = 0) : ∀ e ∈ s, ¬ e.kind = k := fun e he hc => by
  have h0 : s.filter (fun e => decide (e.kind = k)) = [] := List.eq_nil_of_length_eq_zero h
  have : e ∈ s.filter (fun e => decide (e.kind = k)) := List.mem_filter.2 ⟨he, by simpa using hc⟩
  rw [h0] at this
  cases this
theorem parts_ok (a t : List ByteArray) : ∀ b, b = bOf a t a.length → (∀ e ∈ diffS a b, ¬ e.kind = 1) ∧ nK 2 (diffS a b) + a.length = b.length ∧ costE (diffS a b) = nK 2 (diffS a b) ∧ (diffS a b).length = b.length := by
  rintro b rfl
  have hp := bOf_path a t a.length (Nat.le_refl _) a.length (Nat.le_refl _)
  have hl := bOf_len a t a.length (Nat.le_refl _)
  have hL := (levL_is a (bOf a t a.length)).2 _ hp
  obtain ⟨h1, h2, h3, _⟩ := diffS_ok a (bOf a t a.length)
  obtain ⟨c1, c2, c3⟩ := counts (diffS a (bOf a t a.length))
  rw [h1] at c1
  rw [h2] at c2
  rw [h3] at c3
  have z : nK 1 (diffS a (bOf a t a.length)) = 0 := by omega
  exact ⟨nK_zero z, by omega, by rw [h3]; omega, by omega⟩
end Go.Proofs.YtmniggjadfdheaaDoor
