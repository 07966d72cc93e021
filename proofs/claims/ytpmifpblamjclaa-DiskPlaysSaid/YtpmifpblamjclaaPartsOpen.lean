
/- Slices of slices of bytes that came in. -/

import Derived.Test.YtpmifpblamjclaaOpen

import Derived.Test.YtpmifpblamjclaaFrame

import Derived.Test.YtpmifpblamjclaaGen

import Derived.Deep.Slices

import Derived.ChangeSame

namespace Go.Proofs.Ytpmifpblamjclaa

set_option maxRecDepth 100000

set_option linter.unusedVariables false

open Go.ChangeShapes Go.WideShapes Go.ChangeAt Go.RowKit

theorem lst_of_all {α : Type} {p : Nat → α → Prop} : ∀ (n : Nat), (∀ i, i < n → ∃ s, p i s) → ∃ os : List α, os.length = n ∧ ∀ i (h : i < os.length), p i os[i]
  | 0, _ => ⟨[], rfl, fun i h => by simp at h⟩
  | n + 1, h => by
    obtain ⟨os, hl, hos⟩ := lst_of_all n (fun i hi => h i (by omega))
    obtain ⟨s, hs⟩ := h n (by omega)
    refine ⟨os ++ [s], by simp [hl], fun i hi => ?_⟩
    by_cases hlt : i < os.length
    · rw [List.getElem_append_left hlt]; exact hos i hlt
    · have : i = os.length := by simp at hi; omega
      subst this
      simp
      rw [hl]
      exact hs
/-- rows that lie one behind the other are read as their cells -/
theorem rd_of_rows {α : Type} {f : α → List Value} {m : Nat} {w : World} {a : Addr} {os : List α} (hm : 0 < m) (hf : ∀ x ∈ os, (f x).length = m) (h : ∀ i (hi : i < os.length), w.cells? 0 (a.add (i * m)) m = some (f os[i])) : Rd w (some a) (os.flatMap f) := by
  refine rd_of_cells fun j u hu => ?_
  have hj := (List.getElem?_eq_some_iff.1 hu).1
  rw [flat_length os hf] at hj
  have hi : j / m < os.length := Nat.div_lt_of_lt_mul (by rw [Nat.mul_comm]; exact hj)
  have hr : j % m < m := Nat.mod_lt _ hm
  have hdj : j / m * m + j % m = j := by rw [Nat.mul_comm]; exact Nat.div_add_mod j m
  have hcell := (World.cells?_some (h (j / m) hi)).2
  have hlen := hf _ (List.getElem_mem hi)
  have hg : (f os[j / m])[j % m]? = some u := by
    have hx := flat_get os hf (j / m) hi (j % m) ((f os[j / m])[j % m]'(by omega)) (List.getElem?_eq_getElem _)
    rw [hdj] at hx
    rw [hu] at hx
    cases hx
    exact List.getElem?_eq_getElem _
  have := hcell.2 (j % m) hr
  rw [Addr.add_add, hdj] at this
  rw [this]
  exact hg

/-- a slice of bytes, where it lies -/
structure PV where
  A : Option Addr
  c : Nat
  bs : List UInt8
def PV.v (p : PV) : Value := .slice p.A p.bs.length p.c
def PV.ok (w : World) (p : PV) : Prop := Rd w p.A (b8s p.bs) ∧ p.bs.length ≤ p.c ∧ p.c ≤ 9223372036854775807
section

variable {H : Type} {enc : TypeId × Value → H} {w : World} {base : Nat} {sp : Nat → Bool} {held : Bool}

theorem trod_u8 {fuel : Nat} {cs : List Value} {x : DataW H × List MemPlace} (h : DataW.trod enc Try.prog w base sp held fuel 5 cs = some x) : ∃ c : UInt8, cs = b8s [c] := by
  obtain ⟨z, g, _, hw⟩ := DataW.trod_int Try.underlying5 h
  have hb : 0 ≤ z ∧ z ≤ 255 := by simpa [Lit.wf, IntKind.min, IntKind.max, IntKind.signed, IntKind.bits] using hw
  refine ⟨UInt8.ofNat z.toNat, ?_⟩
  rw [g]
  simp only [b8s, List.map_cons, List.map_nil, UInt8.toNat_ofNat']
  congr 2
  omega
theorem open_dat {n : Nat} {cs : List Value} {x : DataW H × List MemPlace} (h : DataW.trod enc Try.prog w 0 (fun _ => true) true n 27 cs = some x) :
    ∃ (A : Option Addr) (c : Nat) (bs : List UInt8), cs = [.slice A bs.length c] ∧ Rd w A (b8s bs) ∧ bs.length ≤ c ∧ c ≤ 9223372036854775807 := by
  have z : Try.prog.cellsOf 5 = 1 := by kernel_rfl
  rcases Go.Deep.open_slice Try.underlying27 h with ⟨hcs, _⟩ | ⟨a, len, cap, m, n', D, Pl, hcs, _, hle, hm, hmm, _, hel⟩
  · exact ⟨none, 0, [], hcs, Rd.nil, Nat.le_refl _, by decide⟩
  · rw [z] at hel
    have hlm : len ≤ m := by rw [hmm]; split <;> omega
    obtain ⟨os, hos, hall⟩ := lst_of_all (p := fun i (s : UInt8) => w.cells? 0 (a.add (i * 1)) 1 = some (b8s [s])) len (fun i hi => by
      obtain ⟨cs', h1, h2⟩ := hel i (by omega)
      obtain ⟨s, hs⟩ := trod_u8 h2
      exact ⟨s, by rw [h1, hs]⟩)
    have hrd := rd_of_rows (f := fun c : UInt8 => b8s [c]) (m := 1) (w := w) (a := a) (os := os) (by decide) (fun x hx => rfl) (fun i hi => hall i hi)
    have e : os.flatMap (fun c : UInt8 => b8s [c]) = b8s os := by
      clear hos hall hrd
      induction os with
      | nil => rfl
      | cons x os ih => rw [List.flatMap_cons, ih]; rfl
    rw [e] at hrd
    exact ⟨some a, cap, os, by rw [hos]; exact hcs, hrd, by omega, by unfold maxLen at hm; omega⟩


/-- a slice of slices of bytes that came in -/
theorem open_parts {v : Value} {d : DataW H} {p : List MemPlace} {b0 : Nat} {r : Reach} (hok : Value.okWide Try.prog w r b0 41 v) (h : DataW.Trod enc Try.prog w 0 (fun _ => true) true 41 v d p) :
    ∃ (A : Option Addr) (c : Nat) (ps : List PV), v = .slice A ps.length c ∧ ps.length ≤ 9223372036854775807 ∧ Rd w A (ps.map PV.v) ∧ ∀ q ∈ ps, q.ok w := by
  obtain ⟨A, len, cap, rfl⟩ := okWide_slice Try.underlying41 hok
  obtain ⟨fuel, hf⟩ := h
  have z : Try.prog.cellsOf 27 = 1 := by kernel_rfl
  rcases Go.Deep.open_slice Try.underlying41 hf with ⟨hcs, _⟩ | ⟨a, len', cap', m, n', D, Pl, hcs, _, hle, hm, hmm, hx, hel⟩
  · simp [Value.cells] at hcs
    obtain ⟨rfl, rfl, rfl⟩ := hcs
    exact ⟨none, 0, [], rfl, by simp, Rd.nil, by simp⟩
  · simp [Value.cells] at hcs
    obtain ⟨rfl, rfl, rfl⟩ := hcs
    rw [z] at hel
    have hlm : len ≤ m := by rw [hmm]; split <;> omega
    obtain ⟨os, hos, hall⟩ := lst_of_all (p := fun i (q : PV) => w.cells? 0 (a.add (i * 1)) 1 = some [q.v] ∧ q.ok w) len (fun i hi => by
      obtain ⟨cs', h1, h2⟩ := hel i (by omega)
      obtain ⟨A', c', bs, h3, h4, h5, h6⟩ := open_dat h2
      exact ⟨⟨A', c', bs⟩, by rw [h1, h3]; rfl, h4, h5, h6⟩)
    have hrd := rd_of_rows (f := fun q : PV => [q.v]) (m := 1) (w := w) (a := a) (os := os) (by decide) (fun x hx => rfl) (fun i hi => (hall i hi).1)
    have e0 : os.flatMap (fun q : PV => [q.v]) = os.map PV.v := by
      clear hos hall hrd
      induction os with
      | nil => rfl
      | cons x os ih => rw [List.flatMap_cons, ih]; rfl
    rw [e0] at hrd
    refine ⟨some a, cap, os, by rw [hos], by unfold maxLen at hm; omega, hrd, fun q hq => ?_⟩
    obtain ⟨i, hi, rfl⟩ := List.getElem_of_mem hq
    exact (hall i hi).2
end

end Go.Proofs.Ytpmifpblamjclaa
