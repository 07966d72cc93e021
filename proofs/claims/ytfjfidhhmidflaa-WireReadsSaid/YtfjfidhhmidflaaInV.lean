
/- The document's In as a value: its form; what is kept while rows are written. -/

import Derived.Test.YtfjfidhhmidflaaEncIn4

namespace Go.Proofs.Ytfjfidhhmidflaa

set_option linter.unusedVariables false

set_option linter.unusedSimpArgs false

open Go.RowKit

theorem InV.form {w : World} {u : Value} {st : St} (h : InV w u st) : ∃ A n c b, u = .agg #[.slice A n c, .bool b] ∧ st.isSome = !b ∧ leftS st = n := by
  cases st with
  | none => exact ⟨_, _, _, _, h, rfl, rfl⟩
  | some bs =>
    obtain ⟨A, n, c, e, h2, _⟩ := h
    exact ⟨_, _, _, _, e, rfl, h2.symm⟩
theorem slice_nb (A : Option Addr) (n c : Nat) : ∀ z, Value.slice A n c ≠ .int .u8 z := fun z e => by cases e
theorem bool_nb (b : Bool) : ∀ z, Value.bool b ≠ .int .u8 z := fun z e => by cases e
theorem i64_nb (x : Int) : ∀ z, Value.int .i64 x ≠ .int .u8 z := fun z e => by cases e
/-- bytes never lie in a row of others: they stay while it is written -/
theorem rd_far_cells {w w' : World} {g : Nat} {cs : Array Value} {t : TypeId} {fr : Nat × Nat} {A : Option Addr} {bs : List UInt8} (hh : w.heap[g]? = some (.cells cs t fr)) (hn : ∀ (i : Nat) (v : Value), cs[i]? = some v → ∀ z, v ≠ .int .u8 z) (hr : Rd w A (b8s bs))
    (hg : w.grownBy w' (some g)) : Rd w' A (b8s bs) := by
  by_cases hne : bs = []
  · subst hne; exact Rd.nil
  · refine hr.grown hg (fun ad hA e => ?_)
    have hp : 0 < bs.length := List.length_pos_iff.2 hne
    obtain ⟨b', o, hA', hc⟩ := hr.byte 0 hp
    rw [hA'] at hA
    cases hA
    have hbg : b' = g := by simpa using e
    subst hbg
    rw [cell_of_row _ _ _ _ _ _ hh] at hc
    exact hn _ _ hc _ rfl
theorem InV.far_cells {w w' : World} {g : Nat} {u : Value} {st : St} {cs : Array Value} {t : TypeId} {fr : Nat × Nat} (h : InV w u st) (hh : w.heap[g]? = some (.cells cs t fr)) (hn : ∀ (i : Nat) (v : Value), cs[i]? = some v → ∀ z, v ≠ .int .u8 z) (hg : w.grownBy w' (some g)) : InV w' u st := by
  cases st with
  | none => exact h
  | some bs =>
    obtain ⟨A, n, c, h1, h2, h3, h4, h5⟩ := h
    exact ⟨A, n, c, h1, h2, h3, h4, rd_far_cells hh hn h5 hg⟩
theorem two_nb {a b : Value} (ha : ∀ z, a ≠ .int .u8 z) (hb : ∀ z, b ≠ .int .u8 z) : ∀ (i : Nat) (v : Value), (#[a, b] : Array Value)[i]? = some v → ∀ z, v ≠ .int .u8 z := by
  intro i v hv
  match i, hv with
  | 0, hv => simp at hv; subst hv; exact ha
  | 1, hv => simp at hv; subst hv; exact hb
  | i + 2, hv => simp at hv
/-- bytes whose block is below a bound -/
def InB (K : Nat) (v : Value) : Prop := ∀ A n c b, v = .agg #[.slice (some A) n c, .bool b] → A.block < K
theorem new_row {w W : World} {cs : Array Value} {t : TypeId} (h : w.alloc (.cells cs t) = W) : W.heap[w.heap.size]? = some (.cells cs t (0, 0)) ∧ Below w.heap.size w W ∧ W.heap.size = w.heap.size + 1 := by
  subst h
  exact ⟨heap_alloc_new w _, (Below.refl _ _).alloc (Nat.le_refl _) _, by simp⟩
theorem two_new (w : World) (cs ds : Array Value) (t u : TypeId) : ((w.alloc (.cells cs t)).alloc (.cells ds u)).heap[w.heap.size]? = some (.cells cs t (0, 0)) ∧ ((w.alloc (.cells cs t)).alloc (.cells ds u)).heap[w.heap.size + 1]? = some (.cells ds u (0, 0)) ∧
    Below w.heap.size w ((w.alloc (.cells cs t)).alloc (.cells ds u)) ∧ ((w.alloc (.cells cs t)).alloc (.cells ds u)).heap.size = w.heap.size + 2 := by
  obtain ⟨h1, h2, h3⟩ := new_row (w := w) (cs := cs) (t := t) rfl
  obtain ⟨k1, k2, k3⟩ := new_row (w := w.alloc (.cells cs t)) (cs := ds) (t := u) rfl
  refine ⟨(k2.block _ (by omega)).trans h1, ?_, h2.trans (k2.mono (by omega)), by omega⟩
  rw [h3] at k1
  exact k1
end Go.Proofs.Ytfjfidhhmidflaa
