
/- The document's example is answered rightly. -/

import Derived.Test.YtelbofikcpchiaaGreatDk14

import Derived.Lib.SlBytesConst

namespace Go.Proofs.YtelbofikcpchiaaGreat

set_option linter.unusedVariables false

set_option linter.unusedSimpArgs false

set_option linter.unusedSectionVars false

open Go.RowKit

/-- a row that is made ahead of a call -/
theorem lit_args {N g : Nat} {w : World} {m : DM} {d : DA} (h : DiskIn N w g m d) (cs : List Value) (t : TypeId) (fz : Nat × Nat) :
    Aft N g w (w.alloc (.cells cs.toArray t fz)) m d d ∧ Rd (w.alloc (.cells cs.toArray t fz)) (some ⟨w.heap.size, 0, none⟩) cs ∧
    (∀ a, some (⟨w.heap.size, 0, none⟩ : Addr) = some a → a.block < (w.alloc (.cells cs.toArray t fz)).heap.size ∧ ¬ foot g d a.block) :=
  ⟨Aft.below h ((Below.refl _ _).alloc (Nat.le_refl _) _), Rd.newm _ _ _ _, fun a ha => by
    cases ha
    refine ⟨by simp, fun hf => ?_⟩
    have := h.foot_lt hf
    dsimp only at this
    omega⟩

end Go.Proofs.YtelbofikcpchiaaGreat
