/- ShaParts: for every input the law returns true, and what came in reads as it did. -/
import Derived.Test.YtkiggfahcakdeaaFrame
import Derived.Test.YtkiggfahcakdeaaOpen
import Derived.Test.YtkiggfahcakdeaaShaParts
namespace Go.Proofs.Ytkiggfahcakdeaa
open Go.ChangeShapes Go.WideShapes Go.ChangeAt Go.RowKit
open Go.ChangeMaps (open_string shut_string)
set_option linter.unusedVariables false

set_option maxRecDepth 100000 in
theorem shaParts_owed (H : Type) (enc : TypeId × Value → H) : WalkOwed H enc 8 Try.f8 (fun _ => True) := by
  intro W base args ds ps hval hA hre _
  rw [Try.params8] at hA hval hre
  obtain ⟨v0, vs0, d0, ds0, p0, q0, hargs, rfl, rfl, h0, r0⟩ := trodAll_cons hA
  obtain ⟨v1, vs1, d1, ds1, p1, q1, rfl, rfl, rfl, h1, r1⟩ := trodAll_cons r0
  obtain ⟨v2, vs2, d2, ds2, p2, q2, rfl, rfl, rfl, h2, r2⟩ := trodAll_cons r1
  obtain ⟨rfl, rfl, rfl⟩ := trodAll_nil r2
  obtain rfl : args = #[v0, v1, v2] := by cases args; simp_all
  obtain ⟨A0, c0, b, rfl, l0, m0, rd0, nn0, dd0⟩ := open_bytes_rd Try.underlying32 Try.underlying5 (by kernel_rfl) (hval 0 32 v0 rfl rfl) h0
  obtain ⟨A1, c1, x, rfl, l1, m1, rd1, nn1, dd1⟩ := open_bytes_rd Try.underlying32 Try.underlying5 (by kernel_rfl) (hval 1 32 v1 rfl rfl) h1
  obtain ⟨A2, c2, y, rfl, l2, m2, rd2, nn2, dd2⟩ := open_bytes_rd Try.underlying32 Try.underlying5 (by kernel_rfl) (hval 2 32 v2 rfl rfl) h2
  exact shaParts_any A0 A1 A2 b x y c0 c1 c2 W rd0 rd1 rd2 l0 l1 l2 m0

set_option maxRecDepth 100000 in
theorem shaParts_over : Rows.shaPartsRow.holds Try.pinned (OpenSpec.ofChange Rows.shaPartsSpec) :=
  OpenClaim.holds_of_wide 8 Try.f8 rfl rfl rfl rfl rfl rfl rfl ⟨rfl, rfl, rfl, rfl, rfl⟩ rfl rfl rfl rfl rfl (by kernel_rfl) Try.func8 (by kernel_rfl)
    (of_decide_eq_true (by kernel_rfl)) (by unfold Func.isWrapper; first | (rw [if_pos (by decide +kernel)]; kernel_rfl) | (rw [if_neg (by decide +kernel)]; exact ⟨rfl, rfl⟩))
    (fun os started H enc _ => law_lifted (f := 8) (fn := Try.f8) (s := Rows.shaPartsSpec) (bt := 4) started (by kernel_rfl) Try.func8
      (ChangeSpec.witness6 (enc := enc) (C := Try.checked) false ⟨#[], #[.slice none 0 0, .slice none 0 0, .slice none 0 0], []⟩ 8 (by kernel_rfl) (by kernel_rfl) (by kernel_rfl) (by kernel_rfl))
      rfl Try.underlying4 rfl (by rw [Try.params8]; intro t ht; simp only [List.mem_cons, List.not_mem_nil, or_false] at ht; rcases ht with rfl | rfl | rfl <;> exact ⟨by kernel_rfl, of_decide_eq_true (by kernel_rfl)⟩)
      (by intro ds hd; match ds, hd with | [d0, d1, d2], _ => rfl) (shaParts_owed H enc))

/-- the statement -/
theorem shaParts_holds : Rows.ShaPartsSaid := shaParts_over
end Go.Proofs.Ytkiggfahcakdeaa
