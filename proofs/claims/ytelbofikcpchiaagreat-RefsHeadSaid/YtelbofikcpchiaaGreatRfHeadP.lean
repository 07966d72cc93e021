
/- RefsHead: for every input the law returns true, and what came in reads as it did. -/

import Derived.Test.YtelbofikcpchiaaGreatFrame

import Derived.Test.YtelbofikcpchiaaGreatOpen

import Derived.Test.YtelbofikcpchiaaGreatRfOpen

namespace Go.Proofs.YtelbofikcpchiaaGreat

open Go.ChangeShapes Go.WideShapes Go.ChangeAt Go.RowKit

open Go.ChangeMaps (open_string shut_string)

set_option linter.unusedVariables false

set_option maxRecDepth 100000 in
theorem refsHead_owed (H : Type) (enc : TypeId × Value → H) : WalkOwed H enc 4 Tryz.f4 (fun _ => True) := by
  intro W base args ds ps hval hA hre _
  rw [Tryz.params4] at hA hval hre
  obtain ⟨v0, vs0, d0, ds0, p0, q0, hargs, rfl, rfl, h0, r0⟩ := trodAll_cons hA
  obtain ⟨rfl, rfl, rfl⟩ := trodAll_nil r0
  obtain rfl : args = #[v0] := by cases args; simp_all
  obtain ⟨A0, c0, turns, rfl, l0, rd0, ok0⟩ := open_txs (hval 0 44 v0 rfl rfl) h0 (fun k hk => by simpa using List.all_eq_true.1 hre _ (DataW.weights_mem_each (j := 0) rfl rfl k hk))
  exact refsHead_any A0 turns turns.length c0 W rfl l0 rd0 ok0

set_option maxRecDepth 100000 in
theorem refsHead_over : Rows.refsHeadRow.holds Tryz.pinned (OpenSpec.ofChange Rows.refsHeadSpec) :=
  OpenClaim.holds_of_wide 4 Tryz.f4 rfl rfl rfl rfl rfl rfl rfl ⟨rfl, rfl, rfl, rfl, rfl⟩ rfl rfl rfl rfl rfl (by kernel_rfl) Tryz.func4 (by kernel_rfl)
    (of_decide_eq_true (by kernel_rfl)) (by unfold Func.isWrapper; first | (rw [if_pos (by decide +kernel)]; kernel_rfl) | (rw [if_neg (by decide +kernel)]; exact ⟨rfl, rfl⟩))
    (fun os started H enc _ => law_lifted (f := 4) (fn := Tryz.f4) (s := Rows.refsHeadSpec) (bt := 4) started (by kernel_rfl) Tryz.func4
      (ChangeSpec.witness6 (enc := enc) (C := Tryz.checked) false ⟨#[], #[.slice none 0 0], []⟩ 8 (by kernel_rfl) (by kernel_rfl) (by kernel_rfl) (by kernel_rfl))
      rfl Tryz.underlying4 rfl (by rw [Tryz.params4]; intro t ht; simp at ht; subst ht; exact ⟨by kernel_rfl, of_decide_eq_true (by kernel_rfl)⟩)
      (by intro ds hd; match ds, hd with | [d0], _ => rfl) (refsHead_owed H enc))

/-- the statement -/
theorem refsHead_holds : Rows.RefsHeadSaid := refsHead_over
end Go.Proofs.YtelbofikcpchiaaGreat
