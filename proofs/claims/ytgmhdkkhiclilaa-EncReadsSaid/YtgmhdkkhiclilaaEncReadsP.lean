/- EncReads: for every input the law returns true, and what came in reads as it did. -/
import Derived.Test.YtgmhdkkhiclilaaFrame
import Derived.Test.YtgmhdkkhiclilaaOpen
import Derived.Test.YtgmhdkkhiclilaaEncReads
namespace Go.Proofs.Ytgmhdkkhiclilaa
open Go.ChangeShapes Go.WideShapes Go.ChangeAt Go.RowKit
open Go.ChangeMaps (open_string shut_string)
set_option linter.unusedVariables false

theorem encReads_owed (H : Type) (enc : TypeId × Value → H) : WalkOwed H enc 7 Try.f7 (fun _ => True) := by
  intro W base args ds ps hval hA hre _
  rw [Try.params7] at hA hval hre
  obtain ⟨v0, vs0, d0, ds0, p0, q0, hargs, rfl, rfl, h0, r0⟩ := trodAll_cons hA
  obtain ⟨v1, vs1, d1, ds1, p1, q1, rfl, rfl, rfl, h1, r1⟩ := trodAll_cons r0
  obtain ⟨v2, vs2, d2, ds2, p2, q2, rfl, rfl, rfl, h2, r2⟩ := trodAll_cons r1
  obtain ⟨rfl, rfl, rfl⟩ := trodAll_nil r2
  obtain rfl : args = #[v0, v1, v2] := by cases args; simp_all
  obtain ⟨A0, c0, b, rfl, l0, m0, rd0, nn0, dd0⟩ := open_bytes_rd Try.underlying22 Try.underlying5 (by kernel_rfl) (hval 0 22 v0 rfl rfl) h0
  obtain ⟨A1, c1, calls, rfl, l1, m1, rd1, wf1, nn1, dd1⟩ := open_ints_rd Try.underlying42 Try.underlying3 (by kernel_rfl) (hval 1 42 v1 rfl rfl) h1
  obtain ⟨most, rfl, rfl, rfl, w2⟩ := open_int Try.underlying2 (hval 2 2 v2 rfl rfl) h2
  have b2 := w2
  simp [Lit.wf, IntKind.min, IntKind.max, IntKind.signed, IntKind.bits] at b2
  have y0 : b.length ≤ 140737488355328 := by
    rcases dd0 with ⟨_, h, _⟩ | ⟨el, sp, h, h1, _⟩
    · rw [h]; exact Nat.zero_le _
    · have hz := sized_slice (j := 0) hre rfl (by rw [h]; rfl) Try.underlying22
      have hbz : Try.prog.bytesOf 5 = 1 := by kernel_rfl
      have hrl : reachBytes < 140737488355328 := by decide
      rw [hbz] at hz; omega
  exact encReads_any A0 A1 b calls c0 c1 most W rd0 rd1 y0 ⟨l0, m0⟩ (Nat.le_trans l1 m1)

set_option maxRecDepth 100000 in
theorem encReads_over : Rows.encReadsRow.holds Try.pinned (OpenSpec.ofChange Rows.encReadsSpec) :=
  OpenClaim.holds_of_wide 7 Try.f7 rfl rfl rfl rfl rfl rfl rfl ⟨rfl, rfl, rfl, rfl, rfl⟩ rfl rfl rfl rfl rfl (by kernel_rfl) Try.func7 (by kernel_rfl)
    (of_decide_eq_true (by kernel_rfl)) (by unfold Func.isWrapper; first | (rw [if_pos (by decide +kernel)]; kernel_rfl) | (rw [if_neg (by decide +kernel)]; exact ⟨rfl, rfl⟩))
    (fun os started H enc _ => law_lifted (f := 7) (fn := Try.f7) (s := Rows.encReadsSpec) (bt := 4) started (by kernel_rfl) Try.func7
      (ChangeSpec.witness6 (enc := enc) (C := Try.checked) false ⟨#[], #[.slice none 0 0, .slice none 0 0, .int .i64 0], []⟩ 8 (by kernel_rfl) (by kernel_rfl) (by kernel_rfl) (by kernel_rfl))
      rfl Try.underlying4 rfl (by rw [Try.params7]; intro t ht; simp only [List.mem_cons, List.not_mem_nil, or_false] at ht; rcases ht with rfl | rfl | rfl <;> exact ⟨by kernel_rfl, of_decide_eq_true (by kernel_rfl)⟩)
      (by intro ds hd; match ds, hd with | [d0, d1, d2], _ => rfl) (encReads_owed H enc))

/-- the statement -/
theorem encReads_holds : Rows.EncReadsSaid := encReads_over
end Go.Proofs.Ytgmhdkkhiclilaa
