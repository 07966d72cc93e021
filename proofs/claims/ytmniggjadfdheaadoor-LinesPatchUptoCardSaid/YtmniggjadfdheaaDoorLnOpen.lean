
/- Edits that came in: slices of lines.Edit that read as data. -/

import Derived.Test.YtmniggjadfdheaaDoorOpen

import Derived.Test.YtmniggjadfdheaaDoorFrame

import Derived.Test.YtmniggjadfdheaaDoorLn3

import Derived.Deep.Slices

import Derived.ChangeSame

namespace Go.Proofs.YtmniggjadfdheaaDoor

set_option maxRecDepth 100000

set_option linter.unusedVariables false

open Go.ChangeShapes Go.WideShapes Go.ChangeAt Go.RowKit

theorem lst_of_all {α : Type} {p : Nat → α → Prop} : ∀ (n : Nat), (∀ i, i < n → ∃ s, p i s) → ∃ os : List α, os.length = n ∧ ∀ i (h : i < os.length), p i os[i]
  | 0, _ => ⟨[], rfl, fun i h => by simp at h⟩
  | n + 1, h => by
    obtain ⟨os, hl, hos⟩ := lst_of_all n (fun i hi => h i (by omega))
    obtain ⟨s, hs⟩ := h n (by omega)
    refine ⟨os ++ [s], by simp [hl], fun i hi => ?_⟩
    by_cases hlt : i < os.length
    · rw [List.getElem_append_left hlt]; exact hos i hlt
    · have : i = os.length := by simp at hi; omega
      subst this
      simp
      rw [hl]
      exact hs
/-- rows that lie one behind the other are read as their cells -/
theorem rd_of_rows {α : Type} {f : α → List Value} {m : Nat} {w : World} {a : Addr} {os : List α} (hm : 0 < m) (hf : ∀ x ∈ os, (f x).length = m) (h : ∀ i (hi : i < os.length), w.cells? 0 (a.add (i * m)) m = some (f os[i])) : Rd w (some a) (os.flatMap f) := by
  refine rd_of_cells fun j u hu => ?_
  have hj := (List.getElem?_eq_some_iff.1 hu).1
  rw [flat_length os hf] at hj
  have hi : j / m < os.length := Nat.div_lt_of_lt_mul (by rw [Nat.mul_comm]; exact hj)
  have hr : j % m < m := Nat.mod_lt _ hm
  have hdj : j / m * m + j % m = j := by rw [Nat.mul_comm]; exact Nat.div_add_mod j m
  have hcell := (World.cells?_some (h (j / m) hi)).2
  have hlen := hf _ (List.getElem_mem hi)
  have hg : (f os[j / m])[j % m]? = some u := by
    have hx := flat_get os hf (j / m) hi (j % m) ((f os[j / m])[j % m]'(by omega)) (List.getElem?_eq_getElem _)
    rw [hdj] at hx
    rw [hu] at hx
    cases hx
    exact List.getElem?_eq_getElem _
  have := hcell.2 (j % m) hr
  rw [Addr.add_add, hdj] at this
  rw [this]
  exact hg

section

variable {H : Type} {enc : TypeId × Value → H} {w : World} {base : Nat} {sp : Nat → Bool} {held : Bool}

/-- an edit as data -/
def edD (e : EdM) : DataW H := .agg [.lit (.int .i64 e.kind), .lit (.string e.line.data.toList)]
theorem trod_ed {fuel : Nat} {cs : List Value} {x : DataW H × List MemPlace} (h : DataW.trod enc Tryd.prog w base sp held fuel 36 cs = some x) : ∃ e : EdM, cs = edc [e] ∧ x.1 = edD e ∧ (-9223372036854775808 ≤ e.kind ∧ e.kind ≤ 9223372036854775807) := by
  obtain ⟨y0, y1, n, hx, hl, h0, h1⟩ := trod_struct2 Tryd.underlying36 h
  have hc : Tryd.prog.cellsOf 36 = 2 := by kernel_rfl
  have e0 : Tryd.prog.cellsOf 3 = 1 := by kernel_rfl
  have e1 : Tryd.prog.cellsOf 9 = 1 := by kernel_rfl
  rw [hc] at hl
  dsimp only at h0 h1
  rw [e0] at h0
  rw [e1] at h1
  obtain ⟨k, g0, p0, wk⟩ := DataW.trod_int Tryd.underlying3 h0
  obtain ⟨l, g1, p1, _⟩ := DataW.trod_string Tryd.underlying9 h1
  refine ⟨⟨k, l⟩, ?_, ?_, by simpa [Lit.wf, IntKind.min, IntKind.max, IntKind.signed, IntKind.bits] using wk⟩
  · match cs, hl with
    | [a, b], _ =>
      have ha : a = .int .i64 k := by simpa using g0
      have hb : b = .string l := by simpa using g1
      rw [ha, hb]
      rfl
  · rw [hx, p0, p1]
    rfl
theorem bulk_ed (e : EdM) : Rows.uptoBulk (edD (H := H) e) = e.line.size + 3 := by
  have := size_toList e.line
  simp only [edD, Rows.uptoBulk, Rows.uptoBulkAll]
  omega
/-- what a list of edits weighs -/
def edW (s : List EdM) : Nat := (s.map (fun e => e.line.size + 3)).sum
theorem bulk_eds (s : List EdM) : Rows.uptoBulkAll (s.map (edD (H := H))) = edW s := by
  induction s with
  | nil => rfl
  | cons e s ih =>
    simp only [List.map_cons, Rows.uptoBulkAll, edW, List.sum_cons]
    rw [bulk_ed, ih]
    rfl
/-- a slice of edits that came in -/
theorem open_eds {v : Value} {d : DataW H} {p : List MemPlace} {b0 : Nat} {r : Reach} (hok : Value.okWide Tryd.prog w r b0 24 v) (h : DataW.Trod enc Tryd.prog w 0 (fun _ => true) true 24 v d p) :
    ∃ (A : Option Addr) (c : Nat) (s : List EdM), v = .slice A s.length c ∧ s.length ≤ c ∧ c ≤ maxLen ∧ Rd w A (edc s) ∧ (A = none → s = [] ∧ c = 0) ∧ edW s ≤ Rows.uptoBulk d := by
  obtain ⟨A, len, cap, rfl⟩ := okWide_slice Tryd.underlying24 hok
  obtain ⟨fuel, hf⟩ := h
  have z : Tryd.prog.cellsOf 36 = 2 := by kernel_rfl
  rcases Go.Deep.open_slice Tryd.underlying24 hf with ⟨hcs, _⟩ | ⟨a, len', cap', m, n', D, Pl, hcs, _, hle, hm, hmm, hx, hel⟩
  · simp [Value.cells] at hcs
    obtain ⟨rfl, rfl, rfl⟩ := hcs
    exact ⟨none, 0, [], rfl, Nat.le_refl _, by unfold maxLen; omega, Rd.nil, fun _ => ⟨rfl, rfl⟩, Nat.zero_le _⟩
  · simp [Value.cells] at hcs
    obtain ⟨rfl, rfl, rfl⟩ := hcs
    rw [z] at hel
    have hlm : len ≤ m := by rw [hmm]; split <;> omega
    obtain ⟨os, hos, hall⟩ := lst_of_all (p := fun i (e : EdM) => w.cells? 0 (a.add (i * 2)) 2 = some (edc [e]) ∧ D i = edD e) len (fun i hi => by
      obtain ⟨cs', h1, h2⟩ := hel i (by omega)
      obtain ⟨e, he, hd, _⟩ := trod_ed h2
      exact ⟨e, by rw [h1, he], hd⟩)
    have hrd := rd_of_rows (f := fun e : EdM => edc [e]) (m := 2) (w := w) (a := a) (os := os) (by decide) (fun x hx => rfl) (fun i hi => (hall i hi).1)
    have e0 : os.flatMap (fun e : EdM => edc [e]) = edc os := by
      clear hos hall hrd
      induction os with
      | nil => rfl
      | cons x os ih => rw [List.flatMap_cons, ih]; rfl
    rw [e0] at hrd
    have hD : (List.range len).map D = os.map edD := by
      refine List.ext_getElem (by simp [hos]) fun i h1 h2 => ?_
      simp only [List.getElem_map, List.getElem_range]
      exact (hall i (by simpa using h2)).2
    refine ⟨some a, cap, os, by rw [hos], by omega, hm, hrd, (fun e => by cases e), ?_⟩
    have hd : d = .slice ((List.range len).map D) ((List.range (m - len)).map fun j => D (len + j)) := congrArg Prod.fst hx
    rw [hd, hD]
    simp only [Rows.uptoBulk]
    rw [bulk_eds]
    omega
end

end Go.Proofs.YtmniggjadfdheaaDoor
