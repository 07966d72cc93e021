
/- A stamp that came in. -/

import Derived.Test.YtabkgoandfpclaaOpen

import Derived.Test.YtabkgoandfpclaaStamp1

import Derived.Lib.SmallJoins

namespace Go.Proofs.Ytabkgoandfpclaa

set_option maxRecDepth 100000

open Go.ChangeShapes Go.WideShapes Go.ChangeAt Go.RowKit

section

variable {H : Type} {enc : TypeId × Value → H} {w : World}

theorem open_stm {v : Value} {d : DataW H} {p : List MemPlace} {base : Nat} {r : Reach}
    (hok : Value.okWide Try.prog w r base 23 v) (h : DataW.Trod enc Try.prog w 0 (fun _ => true) true 23 v d p) : ∃ s : Stm, v = s.val := by
  obtain ⟨v0, v1, y0, y1, n, rfl, _, _, h0, h1⟩ := Go.Joins.open_agg2 Try.underlying23 (by kernel_rfl) (by kernel_rfl) hok h
  obtain ⟨a, ha, _, _⟩ := DataW.trod_int Try.underlying2 h0
  obtain ⟨b, hb, _, _⟩ := DataW.trod_int Try.underlying3 h1
  simp at ha hb
  exact ⟨⟨a, b⟩, by rw [ha, hb]; rfl⟩
end

end Go.Proofs.Ytabkgoandfpclaa
