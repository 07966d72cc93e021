
/- The document's reader In, as the plain state: its calls. -/

import Derived.Test.YtabkgoandfpclaaEncRead3

namespace Go.Proofs.Ytabkgoandfpclaa

set_option linter.unusedVariables false

set_option linter.unusedSimpArgs false

open Go.RowKit

/-- a value In is the state st -/
def InV (w : World) (v : Value) : St → Prop
  | some bs => ∃ A n c, v = .agg #[.slice A n c, .bool false] ∧ n = bs.length ∧ n ≤ c ∧ c ≤ maxLen ∧ Rd w A (b8s bs)
  | none => v = .agg #[.slice none 0 0, .bool true]
theorem InV.below {w w' : World} {v : Value} {st : St} (h : InV w v st) (hb : Below w.heap.size w w') : InV w' v st := by
  cases st with
  | none => exact h
  | some bs =>
    obtain ⟨A, n, c, h0, h1, h2, h3, h4⟩ := h
    exact ⟨A, n, c, h0, h1, h2, h3, h4.below hb⟩

theorem info_in : (Try.prog.info? 48).map (·.size) = some 2 := by kernel_rfl
theorem failed_any (w : World) :
    Calls Try.prog 72 #[] w fun e w' => e = .returned (.agg #[.slice none 0 0, .bool true]) ∧ Below w.heap.size w w' := by
  go_enter Try.func72, Try.ntmps72
  go_wp2_with fail
  have hc : (w.alloc (.cells #[.slice none 0 0, .bool true] 48)).heap[w.heap.size]? = _ := heap_alloc_new w _
  exact bodyPost_ret (results_cell_row rfl _ _ _ _ _ _ _ rfl hc Try.underlying48 rfl info_in) rfl ⟨rfl, (Below.refl _ _).alloc (Nat.le_refl _) _⟩

/-! ### an In in a box, and one for the result -/

section

variable {P : Program}

end

/-- the world behind a box of an In and a cell for one -/
theorem in_entry (w : World) (x y : Value) : ∃ (W1 : World), (w.alloc (.cells #[x, y] 48)).alloc (.cells #[.slice none 0 0, .bool false] 48) = W1 ∧
    W1.heap[w.heap.size]? = some (.cells #[x, y] 48 (0, 0)) ∧ W1.heap[w.heap.size + 1]? = some (.cells #[.slice none 0 0, .bool false] 48 (0, 0)) ∧ Below w.heap.size w W1 ∧ W1.heap.size = w.heap.size + 2 :=
  ⟨_, rfl, heap_alloc2_old w _ _, heap_alloc2_new w _ _, ((Below.refl _ _).alloc (Nat.le_refl _) _).alloc (by simp) _, by simp⟩

theorem four4 (a b c d : UInt8) : ((((a.toNat : Int) % 4294967296 + 256 * ((b.toNat : Int) % 4294967296) % 4294967296) % 4294967296 + 65536 * ((c.toNat : Int) % 4294967296) % 4294967296) % 4294967296 + 16777216 * ((d.toNat : Int) % 4294967296) % 4294967296) % 4294967296 = ((four [a, b, c, d] : Nat) : Int) := by
  have ha := a.toNat_lt
  have hb := b.toNat_lt
  have hc := c.toNat_lt
  have hd := d.toNat_lt
  simp only [four]
  omega

end Go.Proofs.Ytabkgoandfpclaa
