/- Arguments laid open: slices of integers, bytes and strings that read as data, as lists of cells. No condition of its own. -/
import Derived.Test.YtelbofikcpchiaaGreatBase
import Derived.ProofKit
import Derived.OpenShut
import Derived.SizedLaws
import Derived.SliceStrings
namespace Go.Proofs.YtelbofikcpchiaaGreat
open Go.ChangeShapes Go.WideShapes Go.ChangeAt Go.RowKit
theorem rd_of_cells {w : World} {a : Addr} {cs : List Value} (h : ∀ j u, cs[j]? = some u → w.cell? (a.add j) = some u) : Rd w (some a) cs := fun j u hu => by
 obtain ⟨b, o, s⟩ := a
 have h0 := h j u hu
 by_cases hj : j = 0
 ·subst hj
  have hs : s = none := by simpa [Addr.add] using World.cell?_spot h0
  subst hs
  exact ⟨b, o, rfl, by rw [← Addr.add_lit]; exact h0⟩
 ·have hz : cs[0]? = some (cs[0]'(by have := (List.getElem?_eq_some_iff.1 hu).1; omega)) := List.getElem?_eq_getElem _
  have h1 := h 0 _ hz
  have hs : s = none := by simpa [Addr.add] using World.cell?_spot h1
  subst hs
  exact ⟨b, o, rfl, by rw [← Addr.add_lit]; exact h0⟩
set_option linter.unusedSectionVars false
section
variable {H : Type} {enc : TypeId × Value → H} {P : Program} {w : World}
theorem open_ints_rd {t e : TypeId} {k : IntKind} {v : Value} {d : DataW H} {p : List MemPlace} {base : Nat} {r : Reach} (ht : P.underlying t = some (.slice e)) (he : P.underlying e = some (.int k)) (hc : P.cellsOf e = 1)
  (hok : Value.okWide P w r base t v) (h : DataW.Trod enc P w 0 (fun _ => true) true t v d p) :
  ∃ (A : Option Addr) (c : Nat) (zs : List Int), v = .slice A zs.length c ∧ zs.length ≤ c ∧ c ≤ maxLen ∧ Rd w A (zs.map (Value.int k)) ∧ (∀ n ∈ zs, (Lit.int k n).wf = true) ∧ (A = none → zs = [] ∧ c = 0) ∧
   ((d = .nil ∧ zs = [] ∧ c = 0 ∧ A = none) ∨ ∃ el sp, d = .slice el sp ∧ el.length = zs.length ∧ el.length + sp.length = c) := by
 obtain ⟨A, len, cap, rfl⟩ := okWide_slice ht hok
 obtain ⟨fuel, hf⟩ := h
 rcases open_ints ht he hc hf with ⟨hcs, hx⟩ | ⟨x, l, c, zs, hcs, _, hl, hm, hz, hx, hcell, hwz⟩
 ·simp [Value.cells] at hcs
  obtain ⟨rfl, rfl, rfl⟩ := hcs
  simp only [Prod.mk.injEq] at hx
  exact ⟨none, 0, [], rfl, by simp, by unfold maxLen; omega, Rd.nil, by simp, by simp, .inl ⟨hx.1, rfl, rfl, rfl⟩⟩
 ·simp [Value.cells] at hcs
  obtain ⟨rfl, rfl, rfl⟩ := hcs
  simp only [if_true] at hz
  simp only [Prod.mk.injEq] at hx
  have hlen : (zs.take len).length = len := by rw [List.length_take]; omega
  refine ⟨some x, cap, zs.take len, by rw [hlen], by omega, hm, ?_, fun n hn => hwz n (List.mem_of_mem_take hn), (fun e => by cases e), .inr ⟨_, _, hx.1, by simp [lits], ?_⟩⟩
  ·refine rd_of_cells fun j u hu => ?_
   rw [List.getElem?_map, List.getElem?_take] at hu
   split at hu
   ·rename_i hj
    have hj' : j < zs.length := by omega
    rw [hcell j hj']
    simpa [List.getD, hj'] using hu
   ·simp at hu
  ·simp [lits]; omega
theorem open_bytes_rd {t e : TypeId} {v : Value} {d : DataW H} {p : List MemPlace} {base : Nat} {r : Reach} (ht : P.underlying t = some (.slice e)) (he : P.underlying e = some (.int .u8)) (hc : P.cellsOf e = 1)
  (hok : Value.okWide P w r base t v) (h : DataW.Trod enc P w 0 (fun _ => true) true t v d p) :
  ∃ (A : Option Addr) (c : Nat) (bs : List UInt8), v = .slice A bs.length c ∧ bs.length ≤ c ∧ c ≤ maxLen ∧ Rd w A (b8s bs) ∧ (A = none → bs = [] ∧ c = 0) ∧
   ((d = .nil ∧ bs = [] ∧ c = 0 ∧ A = none) ∨ ∃ el sp, d = .slice el sp ∧ el.length = bs.length ∧ el.length + sp.length = c) := by
 obtain ⟨A, c, zs, rfl, hl, hm, hr, hw, hn, hd⟩ := open_ints_rd ht he hc hok h
 have hlen : (asBytes zs).length = zs.length := by simp [asBytes]
 rw [asBytes_cells hw] at hr
 refine ⟨A, c, asBytes zs, by rw [hlen], by omega, hm, hr, fun e => ?_, ?_⟩
 ·obtain ⟨rfl, h'⟩ := hn e
  exact ⟨rfl, h'⟩
 ·rcases hd with ⟨h1, rfl, h3, h4⟩ | ⟨el, sp, h1, h2, h3⟩
  ·exact .inl ⟨h1, rfl, h3, h4⟩
  ·exact .inr ⟨el, sp, h1, by rw [hlen]; exact h2, h3⟩
end
end Go.Proofs.YtelbofikcpchiaaGreat
