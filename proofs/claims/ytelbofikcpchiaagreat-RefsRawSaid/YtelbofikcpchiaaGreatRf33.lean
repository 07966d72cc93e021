/- Refs: Do that the disk refuses. (Printed by wip/genRf33.py.) -/
import Derived.Test.YtelbofikcpchiaaGreatQP
import Derived.Test.YtelbofikcpchiaaGreatQH
namespace Go.Proofs.YtelbofikcpchiaaGreat
open Go.RowKit
def stuckR (r : RfM) : RfM := { r with stuck := true }
theorem stuck_row {g : Nat} {q : QA} {r : RfM} (h : r.at_.length = 32) : (rowR g q r).toArray.setIfInBounds 36 (.bool true) = (rowR g q (stuckR r)).toArray := by
 obtain ⟨al, hd, at_, lg, st⟩ := r
 obtain ⟨a0, a1, a2, a3, a4, a5, a6, a7, a8, a9, b0, b1, b2, b3, b4, b5, b6, b7, b8, b9, c0, c1, c2, c3, c4, c5, c6, c7, c8, c9, d0, d1, rfl⟩ := cells32 h
 rfl
theorem RfIn.stuck {N gr g : Nat} {w : World} {r : RfM} {q : QA} (h : RfIn N w gr g r q) (hk : RfOk r) : RfIn N (w.setCell ⟨gr, 36, none⟩ (.bool true)) gr g (stuckR r) q := by
 have hg := grown_set (w := w) gr 36 (.bool true)
 refine ⟨?_, ?_, own_keep h.log fun b hb hl => hg.block b hl (fun e => ?_), h.base⟩
 ·have h1 := row_set h.row 36 (.bool true)
  rw [stuck_row hk.al] at h1
  exact h1
 ·obtain ⟨es, clock, h1, h2⟩ := h.map
  refine ⟨es, clock, (hg.block q.mb h.map.lt (fun e => ?_)).trans h1, h2⟩
  have e1 := Option.some.inj e
  rw [e1, h.row] at h1
  cases h1
 ·have e1 : b = gr := Option.some.inj e
  subst e1
  rcases h.log.2 with ⟨h0, _⟩ | ⟨g', cap, cur, hv, _, hh, _⟩
  ·rw [h0] at hb; cases hb
  ·rw [hv] at hb
   have e2 : g' = b := Option.some.inj hb
   rw [e2, h.row] at hh
   cases hh
theorem stuck_ok {r : RfM} (h : RfOk r) : RfOk (stuckR r) := ⟨h.al, h.ids, h.log, h.rn, h.hd⟩
end Go.Proofs.YtelbofikcpchiaaGreat
