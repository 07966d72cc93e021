/- EncFails: for every input the law returns true, and what came in reads as it did. -/
import Derived.Test.YtgmhdkkhiclilaaFrame
import Derived.Test.YtgmhdkkhiclilaaOpen
import Derived.Test.YtgmhdkkhiclilaaEncFails
namespace Go.Proofs.Ytgmhdkkhiclilaa
open Go.ChangeShapes Go.WideShapes Go.ChangeAt Go.RowKit
open Go.ChangeMaps (open_string shut_string)
set_option linter.unusedVariables false

theorem encFails_owed (H : Type) (enc : TypeId × Value → H) : WalkOwed H enc 8 Try.f8 (fun _ => True) := by
  intro W base args ds ps hval hA hre _
  rw [Try.params8] at hA hval hre
  obtain ⟨v0, vs0, d0, ds0, p0, q0, hargs, rfl, rfl, h0, r0⟩ := trodAll_cons hA
  obtain ⟨v1, vs1, d1, ds1, p1, q1, rfl, rfl, rfl, h1, r1⟩ := trodAll_cons r0
  obtain ⟨v2, vs2, d2, ds2, p2, q2, rfl, rfl, rfl, h2, r2⟩ := trodAll_cons r1
  obtain ⟨rfl, rfl, rfl⟩ := trodAll_nil r2
  obtain rfl : args = #[v0, v1, v2] := by cases args; simp_all
  obtain ⟨A0, c0, b, rfl, l0, m0, rd0, nn0, dd0⟩ := open_bytes_rd Try.underlying22 Try.underlying5 (by kernel_rfl) (hval 0 22 v0 rfl rfl) h0
  obtain ⟨at_, rfl, rfl, rfl, w1⟩ := open_int Try.underlying3 (hval 1 3 v1 rfl rfl) h1
  have b1 := w1
  simp [Lit.wf, IntKind.min, IntKind.max, IntKind.signed, IntKind.bits] at b1
  obtain ⟨A2, c2, zs, rfl, l2, m2, rd2, wf2, nn2, dd2⟩ := open_ints_rd Try.underlying42 Try.underlying3 (by kernel_rfl) (hval 2 42 v2 rfl rfl) h2
  exact encFails_any A0 A2 b zs c0 c2 at_ W (rd0) (rd2) (Nat.le_trans l0 m0) (Nat.le_trans l2 m2)

set_option maxRecDepth 100000 in
theorem encFails_over : Rows.encFailsRow.holds Try.pinned (OpenSpec.ofChange Rows.encFailsSpec) :=
  OpenClaim.holds_of_wide 8 Try.f8 rfl rfl rfl rfl rfl rfl rfl ⟨rfl, rfl, rfl, rfl, rfl⟩ rfl rfl rfl rfl rfl (by kernel_rfl) Try.func8 (by kernel_rfl)
    (of_decide_eq_true (by kernel_rfl)) (by unfold Func.isWrapper; first | (rw [if_pos (by decide +kernel)]; kernel_rfl) | (rw [if_neg (by decide +kernel)]; exact ⟨rfl, rfl⟩))
    (fun os started H enc _ => law_lifted (f := 8) (fn := Try.f8) (s := Rows.encFailsSpec) (bt := 4) started (by kernel_rfl) Try.func8
      (ChangeSpec.witness6 (enc := enc) (C := Try.checked) false ⟨#[], #[.slice none 0 0, .int .i64 0, .slice none 0 0], []⟩ 8 (by kernel_rfl) (by kernel_rfl) (by kernel_rfl) (by kernel_rfl))
      rfl Try.underlying4 rfl (by rw [Try.params8]; intro t ht; simp only [List.mem_cons, List.not_mem_nil, or_false] at ht; rcases ht with rfl | rfl | rfl <;> exact ⟨by kernel_rfl, of_decide_eq_true (by kernel_rfl)⟩)
      (by intro ds hd; match ds, hd with | [d0, d1, d2], _ => rfl) (encFails_owed H enc))

/-- the statement -/
theorem encFails_holds : Rows.EncFailsSaid := encFails_over
end Go.Proofs.Ytgmhdkkhiclilaa
