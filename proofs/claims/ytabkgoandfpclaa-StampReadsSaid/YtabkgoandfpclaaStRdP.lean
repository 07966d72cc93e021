
/- StampReads: for every input the law returns true, and what came in reads as it did. -/

import Derived.Test.YtabkgoandfpclaaFrame

import Derived.Test.YtabkgoandfpclaaOpen

import Derived.Test.YtabkgoandfpclaaStRd

namespace Go.Proofs.Ytabkgoandfpclaa

open Go.ChangeShapes Go.WideShapes Go.ChangeAt Go.RowKit

open Go.ChangeMaps (open_string shut_string)

set_option linter.unusedVariables false

set_option maxRecDepth 100000 in
theorem stampReads_owed (H : Type) (enc : TypeId × Value → H) : WalkOwed H enc 8 Try.f8 (fun _ => True) := by
  intro W base args ds ps hval hA hre _
  rw [Try.params8] at hA hval hre
  obtain ⟨v0, vs0, d0, ds0, p0, q0, hargs, rfl, rfl, h0, r0⟩ := trodAll_cons hA
  obtain ⟨rfl, rfl, rfl⟩ := trodAll_nil r0
  obtain rfl : args = #[v0] := by cases args; simp_all
  obtain ⟨A0, c0, b, rfl, l0, m0, rd0, nn0, dd0⟩ := open_bytes_rd Try.underlying36 Try.underlying5 (by kernel_rfl) (hval 0 36 v0 rfl rfl) h0
  have y0 : b.length ≤ 140737488355328 := by
    rcases dd0 with ⟨_, h, _⟩ | ⟨el, sp, h, h1, _⟩
    · rw [h]; exact Nat.zero_le _
    · have hz := sized_slice (j := 0) hre rfl (by rw [h]; rfl) Try.underlying36
      have hbz : Try.prog.bytesOf 5 = 1 := by kernel_rfl
      have hrl : reachBytes < 140737488355328 := by decide
      rw [hbz] at hz; omega
  exact stampReads_any A0 b c0 W rd0 y0 l0 m0

set_option maxRecDepth 100000 in
theorem stampReads_over : Rows.stampReadsRow.holds Try.pinned (OpenSpec.ofChange Rows.stampReadsSpec) :=
  OpenClaim.holds_of_wide 8 Try.f8 rfl rfl rfl rfl rfl rfl rfl ⟨rfl, rfl, rfl, rfl, rfl⟩ rfl rfl rfl rfl rfl (by kernel_rfl) Try.func8 (by kernel_rfl)
    (of_decide_eq_true (by kernel_rfl)) (by unfold Func.isWrapper; first | (rw [if_pos (by decide +kernel)]; kernel_rfl) | (rw [if_neg (by decide +kernel)]; exact ⟨rfl, rfl⟩))
    (fun os started H enc _ => law_lifted (f := 8) (fn := Try.f8) (s := Rows.stampReadsSpec) (bt := 4) started (by kernel_rfl) Try.func8
      (ChangeSpec.witness6 (enc := enc) (C := Try.checked) false ⟨#[], #[.slice none 0 0], []⟩ 8 (by kernel_rfl) (by kernel_rfl) (by kernel_rfl) (by kernel_rfl))
      rfl Try.underlying4 rfl (by rw [Try.params8]; intro t ht; simp at ht; subst ht; exact ⟨by kernel_rfl, of_decide_eq_true (by kernel_rfl)⟩)
      (by intro ds hd; match ds, hd with | [d0], _ => rfl) (stampReads_owed H enc))

/-- the statement -/
theorem stampReads_holds : Rows.StampReadsSaid := stampReads_over
end Go.Proofs.Ytabkgoandfpclaa
