
/- RefsKeeps: for every input the law returns true, and what came in reads as it did. -/

import Derived.Test.YtelbofikcpchiaaGreatFrame

import Derived.Test.YtelbofikcpchiaaGreatOpen

import Derived.Test.YtelbofikcpchiaaGreatRf38

import Derived.Test.YtelbofikcpchiaaGreatRfOpen3

namespace Go.Proofs.YtelbofikcpchiaaGreat

open Go.ChangeShapes Go.WideShapes Go.ChangeAt Go.RowKit

open Go.ChangeMaps (open_string shut_string)

set_option linter.unusedVariables false

set_option maxRecDepth 100000 in
theorem refsKeeps_owed (H : Type) (enc : TypeId × Value → H) : WalkOwed H enc 6 Tryz.f6 (fun _ => True) := by
  intro W base args ds ps hval hA hre _
  rw [Tryz.params6] at hA hval hre
  obtain ⟨v0, vs0, d0, ds0, p0, q0, hargs, rfl, rfl, h0, r0⟩ := trodAll_cons hA
  obtain ⟨v1, vs1, d1, ds1, p1, q1, rfl, rfl, rfl, h1, r1⟩ := trodAll_cons r0
  obtain ⟨v2, vs2, d2, ds2, p2, q2, rfl, rfl, rfl, h2, r2⟩ := trodAll_cons r1
  obtain ⟨v3, vs3, d3, ds3, p3, q3, rfl, rfl, rfl, h3, r3⟩ := trodAll_cons r2
  obtain ⟨rfl, rfl, rfl⟩ := trodAll_nil r3
  obtain rfl : args = #[v0, v1, v2, v3] := by cases args; simp_all
  obtain ⟨A0, c0, ids, rfl, l0, rd0, ok0⟩ := open_ids (hval 0 71 v0 rfl rfl) h0
  obtain ⟨fail, rfl, rfl, rfl, w1⟩ := open_int Tryz.underlying3 (hval 1 3 v1 rfl rfl) h1
  have b1 := w1
  simp [Lit.wf, IntKind.min, IntKind.max, IntKind.signed, IntKind.bits] at b1
  obtain ⟨turns, rfl, rfl, rfl, w2⟩ := open_int Tryz.underlying3 (hval 2 3 v2 rfl rfl) h2
  have b2 := w2
  simp [Lit.wf, IntKind.min, IntKind.max, IntKind.signed, IntKind.bits] at b2
  obtain ⟨keep, rfl, rfl, rfl, w3⟩ := open_int Tryz.underlying3 (hval 3 3 v3 rfl rfl) h3
  have b3 := w3
  simp [Lit.wf, IntKind.min, IntKind.max, IntKind.signed, IntKind.bits] at b3
  exact refsKeeps_any A0 ids ids.length c0 fail turns keep W rfl l0 ok0 rd0

set_option maxRecDepth 100000 in
theorem refsKeeps_over : Rows.refsKeepsRow.holds Tryz.pinned (OpenSpec.ofChange Rows.refsKeepsSpec) :=
  OpenClaim.holds_of_wide 6 Tryz.f6 rfl rfl rfl rfl rfl rfl rfl ⟨rfl, rfl, rfl, rfl, rfl⟩ rfl rfl rfl rfl rfl (by kernel_rfl) Tryz.func6 (by kernel_rfl)
    (of_decide_eq_true (by kernel_rfl)) (by unfold Func.isWrapper; first | (rw [if_pos (by decide +kernel)]; kernel_rfl) | (rw [if_neg (by decide +kernel)]; exact ⟨rfl, rfl⟩))
    (fun os started H enc _ => law_lifted (f := 6) (fn := Tryz.f6) (s := Rows.refsKeepsSpec) (bt := 4) started (by kernel_rfl) Tryz.func6
      (ChangeSpec.witness6 (enc := enc) (C := Tryz.checked) false ⟨#[], #[.slice none 0 0, .int .i64 0, .int .i64 0, .int .i64 0], []⟩ 8 (by kernel_rfl) (by kernel_rfl) (by kernel_rfl) (by kernel_rfl))
      rfl Tryz.underlying4 rfl (by rw [Tryz.params6]; intro t ht; simp only [List.mem_cons, List.not_mem_nil, or_false] at ht; rcases ht with rfl | rfl | rfl | rfl <;> exact ⟨by kernel_rfl, of_decide_eq_true (by kernel_rfl)⟩)
      (by intro ds hd; match ds, hd with | [d0, d1, d2, d3], _ => rfl) (refsKeeps_owed H enc))

/-- the statement -/
theorem refsKeeps_holds : Rows.RefsKeepsSaid := refsKeeps_over
end Go.Proofs.YtelbofikcpchiaaGreat
