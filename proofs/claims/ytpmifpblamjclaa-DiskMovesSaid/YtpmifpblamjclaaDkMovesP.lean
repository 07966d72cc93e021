
/- DiskMoves: for every input the law returns true, and what came in reads as it did. -/

import Derived.Test.YtpmifpblamjclaaFrame

import Derived.Test.YtpmifpblamjclaaOpen

import Derived.Test.YtpmifpblamjclaaDk18

namespace Go.Proofs.Ytpmifpblamjclaa

open Go.ChangeShapes Go.WideShapes Go.ChangeAt Go.RowKit

open Go.ChangeMaps (open_string shut_string)

set_option linter.unusedVariables false

set_option maxRecDepth 100000 in
theorem diskMoves_owed (H : Type) (enc : TypeId × Value → H) : WalkOwed H enc 4 Try.f4 (fun _ => True) := by
  intro W base args ds ps hval hA hre _
  rw [Try.params4] at hA hval hre
  obtain ⟨v0, vs0, d0, ds0, p0, q0, hargs, rfl, rfl, h0, r0⟩ := trodAll_cons hA
  obtain ⟨v1, vs1, d1, ds1, p1, q1, rfl, rfl, rfl, h1, r1⟩ := trodAll_cons r0
  obtain ⟨v2, vs2, d2, ds2, p2, q2, rfl, rfl, rfl, h2, r2⟩ := trodAll_cons r1
  obtain ⟨v3, vs3, d3, ds3, p3, q3, rfl, rfl, rfl, h3, r3⟩ := trodAll_cons r2
  obtain ⟨rfl, rfl, rfl⟩ := trodAll_nil r3
  obtain rfl : args = #[v0, v1, v2, v3] := by cases args; simp_all
  obtain ⟨A0, c0, a, rfl, l0, m0, rd0, nn0, dd0⟩ := open_bytes_rd Try.underlying27 Try.underlying5 (by kernel_rfl) (hval 0 27 v0 rfl rfl) h0
  obtain ⟨A1, c1, b, rfl, l1, m1, rd1, nn1, dd1⟩ := open_bytes_rd Try.underlying27 Try.underlying5 (by kernel_rfl) (hval 1 27 v1 rfl rfl) h1
  obtain ⟨turns, rfl, rfl, rfl, w2⟩ := open_int Try.underlying3 (hval 2 3 v2 rfl rfl) h2
  have b2 := w2
  simp [Lit.wf, IntKind.min, IntKind.max, IntKind.signed, IntKind.bits] at b2
  obtain ⟨keep, rfl, rfl, rfl, w3⟩ := open_int Try.underlying3 (hval 3 3 v3 rfl rfl) h3
  have b3 := w3
  simp [Lit.wf, IntKind.min, IntKind.max, IntKind.signed, IntKind.bits] at b3
  have y0 : a.length ≤ 140737488355328 := by
    rcases dd0 with ⟨_, h, _⟩ | ⟨el, sp, h, h1, _⟩
    · rw [h]; exact Nat.zero_le _
    · have hz := sized_slice (j := 0) hre rfl (by rw [h]; rfl) Try.underlying27
      have hbz : Try.prog.bytesOf 5 = 1 := by kernel_rfl
      have hrl : reachBytes < 140737488355328 := by decide
      rw [hbz] at hz; omega
  have y1 : b.length ≤ 140737488355328 := by
    rcases dd1 with ⟨_, h, _⟩ | ⟨el, sp, h, h1, _⟩
    · rw [h]; exact Nat.zero_le _
    · have hz := sized_slice (j := 1) hre rfl (by rw [h]; rfl) Try.underlying27
      have hbz : Try.prog.bytesOf 5 = 1 := by kernel_rfl
      have hrl : reachBytes < 140737488355328 := by decide
      rw [hbz] at hz; omega
  exact (moves_any A0 A1 a b a.length b.length c0 c1 rfl rfl l0 l1 y0 y1 turns keep W rd0 rd1).mono fun e w' ⟨he, hb⟩ => ⟨he, hb⟩

set_option maxRecDepth 100000 in
theorem diskMoves_over : Rows.diskMovesRow.holds Try.pinned (OpenSpec.ofChange Rows.diskMovesSpec) :=
  OpenClaim.holds_of_wide 4 Try.f4 rfl rfl rfl rfl rfl rfl rfl ⟨rfl, rfl, rfl, rfl, rfl⟩ rfl rfl rfl rfl rfl (by kernel_rfl) Try.func4 (by kernel_rfl)
    (of_decide_eq_true (by kernel_rfl)) (by unfold Func.isWrapper; first | (rw [if_pos (by decide +kernel)]; kernel_rfl) | (rw [if_neg (by decide +kernel)]; exact ⟨rfl, rfl⟩))
    (fun os started H enc _ => law_lifted (f := 4) (fn := Try.f4) (s := Rows.diskMovesSpec) (bt := 4) started (by kernel_rfl) Try.func4
      (ChangeSpec.witness6 (enc := enc) (C := Try.checked) false ⟨#[], #[.slice none 0 0, .slice none 0 0, .int .i64 0, .int .i64 0], []⟩ 8 (by kernel_rfl) (by kernel_rfl) (by kernel_rfl) (by kernel_rfl))
      rfl Try.underlying4 rfl (by rw [Try.params4]; intro t ht; simp only [List.mem_cons, List.not_mem_nil, or_false] at ht; rcases ht with rfl | rfl | rfl | rfl <;> exact ⟨by kernel_rfl, of_decide_eq_true (by kernel_rfl)⟩)
      (by intro ds hd; match ds, hd with | [d0, d1, d2, d3], _ => rfl) (diskMoves_owed H enc))

/-- the statement -/
theorem diskMoves_holds : Rows.DiskMovesSaid := diskMoves_over
end Go.Proofs.Ytpmifpblamjclaa
