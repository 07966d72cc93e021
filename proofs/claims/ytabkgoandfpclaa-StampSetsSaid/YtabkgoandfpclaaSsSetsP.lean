
/- StampSets: for every input the law returns true, and what came in reads as it did. -/

import Derived.Test.YtabkgoandfpclaaFrame

import Derived.Test.YtabkgoandfpclaaOpen

import Derived.Test.YtabkgoandfpclaaSs19

import Derived.Test.YtabkgoandfpclaaSs17

namespace Go.Proofs.Ytabkgoandfpclaa

open Go.ChangeShapes Go.WideShapes Go.ChangeAt Go.RowKit

open Go.ChangeMaps (open_string shut_string)

set_option linter.unusedVariables false

set_option maxRecDepth 100000 in
theorem stampSets_owed (H : Type) (enc : TypeId × Value → H) : WalkOwed H enc 10 Try.f10 (fun _ => True) := by
  intro W base args ds ps hval hA hre _
  rw [Try.params10] at hA hval hre
  obtain ⟨v0, vs0, d0, ds0, p0, q0, hargs, rfl, rfl, h0, r0⟩ := trodAll_cons hA
  obtain ⟨v1, vs1, d1, ds1, p1, q1, rfl, rfl, rfl, h1, r1⟩ := trodAll_cons r0
  obtain ⟨rfl, rfl, rfl⟩ := trodAll_nil r1
  obtain rfl : args = #[v0, v1] := by cases args; simp_all
  obtain ⟨A0, c0, ops, rfl, rd0, in0, sm0⟩ := open_opl (hval 0 53 v0 rfl rfl) h0 (fun k hk => by simpa using List.all_eq_true.1 hre _ (DataW.weights_mem_each (j := 0) rfl rfl k hk))
  obtain ⟨turn, rfl, rfl, rfl, w1⟩ := open_int Try.underlying3 (hval 1 3 v1 rfl rfl) h1
  have b1 := w1
  simp [Lit.wf, IntKind.min, IntKind.max, IntKind.signed, IntKind.bits] at b1
  exact stampSets_any A0 c0 ops turn W rd0 in0 sm0

set_option maxRecDepth 100000 in
theorem stampSets_over : Rows.stampSetsRow.holds Try.pinned (OpenSpec.ofChange Rows.stampSetsSpec) :=
  OpenClaim.holds_of_wide 10 Try.f10 rfl rfl rfl rfl rfl rfl rfl ⟨rfl, rfl, rfl, rfl, rfl⟩ rfl rfl rfl rfl rfl (by kernel_rfl) Try.func10 (by kernel_rfl)
    (of_decide_eq_true (by kernel_rfl)) (by unfold Func.isWrapper; first | (rw [if_pos (by decide +kernel)]; kernel_rfl) | (rw [if_neg (by decide +kernel)]; exact ⟨rfl, rfl⟩))
    (fun os started H enc _ => law_lifted (f := 10) (fn := Try.f10) (s := Rows.stampSetsSpec) (bt := 4) started (by kernel_rfl) Try.func10
      (ChangeSpec.witness6 (enc := enc) (C := Try.checked) false ⟨#[], #[.slice none 0 0, .int .i64 0], []⟩ 8 (by kernel_rfl) (by kernel_rfl) (by kernel_rfl) (by kernel_rfl))
      rfl Try.underlying4 rfl (by rw [Try.params10]; intro t ht; simp only [List.mem_cons, List.not_mem_nil, or_false] at ht; rcases ht with rfl | rfl <;> exact ⟨by kernel_rfl, of_decide_eq_true (by kernel_rfl)⟩)
      (by intro ds hd; match ds, hd with | [d0, d1], _ => rfl) (stampSets_owed H enc))

/-- the statement -/
theorem stampSets_holds : Rows.StampSetsSaid := stampSets_over
end Go.Proofs.Ytabkgoandfpclaa
