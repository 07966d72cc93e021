
/- ShaSums: for every input the law returns true, and what came in reads as it did. -/

import Derived.Test.YtkiggfahcakdeaaFrame

import Derived.Test.YtkiggfahcakdeaaOpen

import Derived.Test.YtkiggfahcakdeaaShaSums

namespace Go.Proofs.Ytkiggfahcakdeaa

open Go.ChangeShapes Go.WideShapes Go.ChangeAt Go.RowKit

open Go.ChangeMaps (open_string shut_string)

set_option linter.unusedVariables false

set_option maxRecDepth 100000 in
theorem shaSums_owed (H : Type) (enc : TypeId × Value → H) : WalkOwed H enc 6 Try.f6 (fun _ => True) := by
  intro W base args ds ps hval hA hre _
  rw [Try.params6] at hA hval hre
  obtain ⟨v0, vs0, d0, ds0, p0, q0, hargs, rfl, rfl, h0, r0⟩ := trodAll_cons hA
  obtain ⟨rfl, rfl, rfl⟩ := trodAll_nil r0
  obtain rfl : args = #[v0] := by cases args; simp_all
  obtain ⟨A0, c0, b, rfl, l0, m0, rd0, nn0, dd0⟩ := open_bytes_rd Try.underlying32 Try.underlying5 (by kernel_rfl) (hval 0 32 v0 rfl rfl) h0
  exact shaSums_any A0 b c0 W rd0 l0 m0

set_option maxRecDepth 100000 in
theorem shaSums_over : Rows.shaSumsRow.holds Try.pinned (OpenSpec.ofChange Rows.shaSumsSpec) :=
  OpenClaim.holds_of_wide 6 Try.f6 rfl rfl rfl rfl rfl rfl rfl ⟨rfl, rfl, rfl, rfl, rfl⟩ rfl rfl rfl rfl rfl (by kernel_rfl) Try.func6 (by kernel_rfl)
    (of_decide_eq_true (by kernel_rfl)) (by unfold Func.isWrapper; first | (rw [if_pos (by decide +kernel)]; kernel_rfl) | (rw [if_neg (by decide +kernel)]; exact ⟨rfl, rfl⟩))
    (fun os started H enc _ => law_lifted (f := 6) (fn := Try.f6) (s := Rows.shaSumsSpec) (bt := 4) started (by kernel_rfl) Try.func6
      (ChangeSpec.witness6 (enc := enc) (C := Try.checked) false ⟨#[], #[.slice none 0 0], []⟩ 8 (by kernel_rfl) (by kernel_rfl) (by kernel_rfl) (by kernel_rfl))
      rfl Try.underlying4 rfl (by rw [Try.params6]; intro t ht; simp at ht; subst ht; exact ⟨by kernel_rfl, of_decide_eq_true (by kernel_rfl)⟩)
      (by intro ds hd; match ds, hd with | [d0], _ => rfl) (shaSums_owed H enc))

/-- the statement -/
theorem shaSums_holds : Rows.ShaSumsSaid := shaSums_over
end Go.Proofs.Ytkiggfahcakdeaa
