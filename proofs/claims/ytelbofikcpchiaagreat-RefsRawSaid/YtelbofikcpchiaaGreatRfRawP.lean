/- RefsRaw: for every input the law returns true, and what came in reads as it did. -/
import Derived.Test.YtelbofikcpchiaaGreatFrame
import Derived.Test.YtelbofikcpchiaaGreatOpen
import Derived.Test.YtelbofikcpchiaaGreatRg14
namespace Go.Proofs.YtelbofikcpchiaaGreat
open Go.ChangeShapes Go.WideShapes Go.ChangeAt Go.RowKit
open Go.ChangeMaps (open_string shut_string)
set_option maxRecDepth 100000 in
theorem refsRaw_owed (H : Type) (enc : TypeId × Value → H) : WalkOwed H enc 5 Tryz.f5 (fun _ => True) := by
 intro W base args ds ps hval hA hre _
 rw [Tryz.params5] at hA hval hre
 obtain ⟨v0, vs0, d0, ds0, p0, q0, hargs, rfl, rfl, h0, r0⟩ := trodAll_cons hA
 obtain ⟨rfl, rfl, rfl⟩ := trodAll_nil r0
 obtain rfl : args = #[v0] := by cases args; simp_all
 obtain ⟨A0, c0, b, rfl, l0, m0, rd0, nn0, dd0⟩ := open_bytes_rd Tryz.underlying29 Tryz.underlying5 (by kernel_rfl) (hval 0 29 v0 rfl rfl) h0
 exact refsRaw_any A0 b b.length c0 W rfl (by unfold maxLen at *; omega) rd0
set_option maxRecDepth 100000 in
theorem refsRaw_over : Rows.refsRawRow.holds Tryz.pinned (OpenSpec.ofChange Rows.refsRawSpec) :=
 OpenClaim.holds_of_wide 5 Tryz.f5 rfl rfl rfl rfl rfl rfl rfl ⟨rfl, rfl, rfl, rfl, rfl⟩ rfl rfl rfl rfl rfl (by kernel_rfl) Tryz.func5 (by kernel_rfl)
  (of_decide_eq_true (by kernel_rfl)) (by unfold Func.isWrapper; first | (rw [if_pos (by decide +kernel)]; kernel_rfl) | (rw [if_neg (by decide +kernel)]; exact ⟨rfl, rfl⟩))
  (fun os started H enc _ => law_lifted (f := 5) (fn := Tryz.f5) (s := Rows.refsRawSpec) (bt := 4) started (by kernel_rfl) Tryz.func5
    (ChangeSpec.witness6 (enc := enc) (C := Tryz.checked) false ⟨#[], #[.slice none 0 0], []⟩ 8 (by kernel_rfl) (by kernel_rfl) (by kernel_rfl) (by kernel_rfl))
    rfl Tryz.underlying4 rfl (by rw [Tryz.params5]; intro t ht; simp at ht; subst ht; exact ⟨by kernel_rfl, of_decide_eq_true (by kernel_rfl)⟩)
    (by intro ds hd; match ds, hd with | [d0], _ => rfl) (refsRaw_owed H enc))
theorem refsRaw_holds : Rows.RefsRawSaid := refsRaw_over
end Go.Proofs.YtelbofikcpchiaaGreat
