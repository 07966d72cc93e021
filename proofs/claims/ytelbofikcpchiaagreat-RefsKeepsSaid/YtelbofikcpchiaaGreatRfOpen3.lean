
/- IDs that came in: slices of api.ID that read as data. -/

import Derived.Test.YtelbofikcpchiaaGreatRfOpen

namespace Go.Proofs.YtelbofikcpchiaaGreat

set_option maxRecDepth 100000

set_option linter.unusedVariables false

open Go.ChangeShapes Go.WideShapes Go.ChangeAt Go.RowKit

theorem open_ids {H : Type} {enc : TypeId × Value → H} {w : World} {v : Value} {d : DataW H} {p : List MemPlace} {b0 : Nat} {r : Reach} (hok : Value.okWide Tryz.prog w r b0 71 v) (h : DataW.Trod enc Tryz.prog w 0 (fun _ => true) true 71 v d p) :
    ∃ (A : Option Addr) (c : Nat) (ids : List (List UInt8)), v = .slice A ids.length c ∧ ids.length ≤ 9223372036854775807 ∧ Rd w A (ids.flatMap b8s) ∧ ∀ i ∈ ids, i.length = 32 := by
  obtain ⟨A, len, cap, rfl⟩ := okWide_slice Tryz.underlying71 hok
  obtain ⟨fuel, hf⟩ := h
  have z : Tryz.prog.cellsOf 24 = 32 := by kernel_rfl
  rcases Go.Deep.open_slice Tryz.underlying71 hf with ⟨hcs, _⟩ | ⟨a, len', cap', m, n', D, Pl, hcs, _, hle, hm, hmm, hx, hel⟩
  · simp [Value.cells] at hcs
    obtain ⟨rfl, rfl, rfl⟩ := hcs
    exact ⟨none, 0, [], rfl, by simp, Rd.nil, by simp⟩
  · simp [Value.cells] at hcs
    obtain ⟨rfl, rfl, rfl⟩ := hcs
    rw [z] at hel
    have hlm : len ≤ m := by rw [hmm]; split <;> omega
    obtain ⟨os, hos, hall⟩ := lst_of_all (p := fun i (s : List UInt8) => w.cells? 0 (a.add (i * 32)) 32 = some (b8s s) ∧ s.length = 32) len (fun i hi => by
      obtain ⟨cs', h1, h2⟩ := hel i (by omega)
      obtain ⟨s, hs, hok⟩ := trod_id h2
      exact ⟨s, by rw [h1, hs], hok⟩)
    have hok2 : ∀ i ∈ os, i.length = 32 := fun i hi => by
      obtain ⟨k, hk, rfl⟩ := List.getElem_of_mem hi
      exact (hall k hk).2
    exact ⟨some a, cap, os, by rw [hos], by unfold maxLen at hm; omega, rd_of_rows (by decide) (fun x hx => by rw [b8s_length]; exact hok2 x hx) (fun i hi => (hall i hi).1), hok2⟩
end Go.Proofs.YtelbofikcpchiaaGreat
