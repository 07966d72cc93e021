
/- Strings that came in: none is longer than memory lets it be. -/

import Derived.Test.YtelbofikcpchiaaGreatRfOpen

namespace Go.Proofs.YtelbofikcpchiaaGreat

set_option maxRecDepth 100000

set_option linter.unusedVariables false

open Go.ChangeShapes Go.WideShapes Go.ChangeAt Go.RowKit

theorem strs_reach {H : Type} {ss : List ByteArray} {d : DataW H} {c : Nat} {A : Option Addr} (hdd : (d = .nil ∧ ss = [] ∧ c = 0 ∧ A = none) ∨ ∃ el sp, d = .slice el sp ∧ el = strs ss ∧ el.length + sp.length = c) (hw : ∀ k ∈ d.weights Tryz.prog 22, k ≤ reachBytes) :
    ∀ s ∈ ss, s.size ≤ 140737488355328 := by
  intro s hs
  rcases hdd with ⟨_, h, _⟩ | ⟨el, sp, rfl, rfl, _⟩
  · rw [h] at hs; cases hs
  · have h1 := hw s.data.toList.length (by
      simp only [DataW.weights, Tryz.underlying22, List.mem_cons, List.mem_append]
      refine .inr (.inl (weights_all (d := .lit (.string s.data.toList)) ?_ _ (by simp [DataW.weights])))
      exact List.mem_map.2 ⟨s, hs, rfl⟩)
    have h2 := reach_lt
    rw [Lib.size_eq]
    omega
end Go.Proofs.YtelbofikcpchiaaGreat
