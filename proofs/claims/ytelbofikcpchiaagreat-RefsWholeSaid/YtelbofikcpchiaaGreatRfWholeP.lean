
/- RefsWhole: for every input the law returns true, and what came in reads as it did. -/

import Derived.Test.YtelbofikcpchiaaGreatFrame

import Derived.Test.YtelbofikcpchiaaGreatOpen

import Derived.Test.YtelbofikcpchiaaGreatRf28

import Derived.Test.YtelbofikcpchiaaGreatRfOpen2

namespace Go.Proofs.YtelbofikcpchiaaGreat

open Go.ChangeShapes Go.WideShapes Go.ChangeAt Go.RowKit

open Go.ChangeMaps (open_string shut_string)

set_option linter.unusedVariables false

set_option maxRecDepth 100000 in
theorem refsWhole_owed (H : Type) (enc : TypeId × Value → H) : WalkOwed H enc 3 Tryz.f3 (fun _ => True) := by
  intro W base args ds ps hval hA hre _
  rw [Tryz.params3] at hA hval hre
  obtain ⟨v0, vs0, d0, ds0, p0, q0, hargs, rfl, rfl, h0, r0⟩ := trodAll_cons hA
  obtain ⟨v1, vs1, d1, ds1, p1, q1, rfl, rfl, rfl, h1, r1⟩ := trodAll_cons r0
  obtain ⟨v2, vs2, d2, ds2, p2, q2, rfl, rfl, rfl, h2, r2⟩ := trodAll_cons r1
  obtain ⟨rfl, rfl, rfl⟩ := trodAll_nil r2
  obtain rfl : args = #[v0, v1, v2] := by cases args; simp_all
  obtain ⟨A0, c0, names, rfl, l0, m0, rd0, wf0, nn0, dd0⟩ := open_strs_rd Tryz.underlying22 Tryz.underlying9 (by kernel_rfl) (hval 0 22 v0 rfl rfl) h0
  obtain ⟨at_, rfl, rfl, rfl, w1⟩ := open_int Tryz.underlying3 (hval 1 3 v1 rfl rfl) h1
  have b1 := w1
  simp [Lit.wf, IntKind.min, IntKind.max, IntKind.signed, IntKind.bits] at b1
  obtain ⟨id, l2, rfl⟩ := open_id Tryz.underlying24 Tryz.underlying5 (by kernel_rfl) (by kernel_rfl) (hval 2 24 v2 rfl rfl) h2
  exact refsWhole_any A0 names names.length c0 at_ id W rfl (by unfold maxLen at m0; omega) l2 rd0 (strs_reach dd0 (fun k hk => by simpa using List.all_eq_true.1 hre _ (DataW.weights_mem_each (j := 0) rfl rfl k hk)))

set_option maxRecDepth 100000 in
theorem refsWhole_over : Rows.refsWholeRow.holds Tryz.pinned (OpenSpec.ofChange Rows.refsWholeSpec) :=
  OpenClaim.holds_of_wide 3 Tryz.f3 rfl rfl rfl rfl rfl rfl rfl ⟨rfl, rfl, rfl, rfl, rfl⟩ rfl rfl rfl rfl rfl (by kernel_rfl) Tryz.func3 (by kernel_rfl)
    (of_decide_eq_true (by kernel_rfl)) (by unfold Func.isWrapper; first | (rw [if_pos (by decide +kernel)]; kernel_rfl) | (rw [if_neg (by decide +kernel)]; exact ⟨rfl, rfl⟩))
    (fun os started H enc _ => law_lifted (f := 3) (fn := Tryz.f3) (s := Rows.refsWholeSpec) (bt := 4) started (by kernel_rfl) Tryz.func3
      (ChangeSpec.witness6 (enc := enc) (C := Tryz.checked) false ⟨#[], #[.slice none 0 0, .int .i64 0, .agg #[.int .u8 0, .int .u8 0, .int .u8 0, .int .u8 0, .int .u8 0, .int .u8 0, .int .u8 0, .int .u8 0, .int .u8 0, .int .u8 0, .int .u8 0, .int .u8 0, .int .u8 0, .int .u8 0, .int .u8 0, .int .u8 0, .int .u8 0, .int .u8 0, .int .u8 0, .int .u8 0, .int .u8 0, .int .u8 0, .int .u8 0, .int .u8 0, .int .u8 0, .int .u8 0, .int .u8 0, .int .u8 0, .int .u8 0, .int .u8 0, .int .u8 0, .int .u8 0]], []⟩ 8 (by kernel_rfl) (by kernel_rfl) (by kernel_rfl) (by kernel_rfl))
      rfl Tryz.underlying4 rfl (by rw [Tryz.params3]; intro t ht; simp only [List.mem_cons, List.not_mem_nil, or_false] at ht; rcases ht with rfl | rfl | rfl <;> exact ⟨by kernel_rfl, of_decide_eq_true (by kernel_rfl)⟩)
      (by intro ds hd; match ds, hd with | [d0, d1, d2], _ => rfl) (refsWhole_owed H enc))

/-- the statement -/
theorem refsWhole_holds : Rows.RefsWholeSaid := refsWhole_over
end Go.Proofs.YtelbofikcpchiaaGreat
