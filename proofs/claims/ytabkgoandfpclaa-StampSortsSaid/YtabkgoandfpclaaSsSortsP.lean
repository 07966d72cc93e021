
/- StampSorts: for every input the law returns true, and what came in reads as it did. -/

import Derived.Test.YtabkgoandfpclaaFrame

import Derived.Test.YtabkgoandfpclaaOpen

import Derived.Test.YtabkgoandfpclaaSsC

import Derived.Test.YtabkgoandfpclaaSs17

namespace Go.Proofs.Ytabkgoandfpclaa

open Go.ChangeShapes Go.WideShapes Go.ChangeAt Go.RowKit

open Go.ChangeMaps (open_string shut_string)

set_option linter.unusedVariables false

set_option maxRecDepth 100000 in
theorem stampSorts_owed (H : Type) (enc : TypeId × Value → H) : WalkOwed H enc 9 Try.f9 (fun _ => True) := by
  intro W base args ds ps hval hA hre _
  rw [Try.params9] at hA hval hre
  obtain ⟨v0, vs0, d0, ds0, p0, q0, hargs, rfl, rfl, h0, r0⟩ := trodAll_cons hA
  obtain ⟨rfl, rfl, rfl⟩ := trodAll_nil r0
  obtain rfl : args = #[v0] := by cases args; simp_all
  obtain ⟨A0, c0, ops, rfl, rd0, in0, sm0⟩ := open_opl (hval 0 53 v0 rfl rfl) h0 (fun k hk => by simpa using List.all_eq_true.1 hre _ (DataW.weights_mem_each (j := 0) rfl rfl k hk))
  exact stampSorts_any A0 c0 ops W rd0 in0 sm0

set_option maxRecDepth 100000 in
theorem stampSorts_over : Rows.stampSortsRow.holds Try.pinned (OpenSpec.ofChange Rows.stampSortsSpec) :=
  OpenClaim.holds_of_wide 9 Try.f9 rfl rfl rfl rfl rfl rfl rfl ⟨rfl, rfl, rfl, rfl, rfl⟩ rfl rfl rfl rfl rfl (by kernel_rfl) Try.func9 (by kernel_rfl)
    (of_decide_eq_true (by kernel_rfl)) (by unfold Func.isWrapper; first | (rw [if_pos (by decide +kernel)]; kernel_rfl) | (rw [if_neg (by decide +kernel)]; exact ⟨rfl, rfl⟩))
    (fun os started H enc _ => law_lifted (f := 9) (fn := Try.f9) (s := Rows.stampSortsSpec) (bt := 4) started (by kernel_rfl) Try.func9
      (ChangeSpec.witness6 (enc := enc) (C := Try.checked) false ⟨#[], #[.slice none 0 0], []⟩ 8 (by kernel_rfl) (by kernel_rfl) (by kernel_rfl) (by kernel_rfl))
      rfl Try.underlying4 rfl (by rw [Try.params9]; intro t ht; simp at ht; subst ht; exact ⟨by kernel_rfl, of_decide_eq_true (by kernel_rfl)⟩)
      (by intro ds hd; match ds, hd with | [d0], _ => rfl) (stampSorts_owed H enc))

/-- the statement -/
theorem stampSorts_holds : Rows.StampSortsSaid := stampSorts_over
end Go.Proofs.Ytabkgoandfpclaa
