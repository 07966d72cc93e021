
/- StampWrites: for every input the law returns true, and what came in reads as it did. -/

import Derived.Test.YtabkgoandfpclaaFrame

import Derived.Test.YtabkgoandfpclaaOpen

import Derived.Test.YtabkgoandfpclaaStWr

import Derived.Test.YtabkgoandfpclaaOpOpen

namespace Go.Proofs.Ytabkgoandfpclaa

open Go.ChangeShapes Go.WideShapes Go.ChangeAt Go.RowKit

open Go.ChangeMaps (open_string shut_string)

set_option linter.unusedVariables false

set_option maxRecDepth 100000 in
theorem stampWrites_owed (H : Type) (enc : TypeId × Value → H) : WalkOwed H enc 5 Try.f5 (fun _ => True) := by
  intro W base args ds ps hval hA hre _
  rw [Try.params5] at hA hval hre
  obtain ⟨v0, vs0, d0, ds0, p0, q0, hargs, rfl, rfl, h0, r0⟩ := trodAll_cons hA
  obtain ⟨v1, vs1, d1, ds1, p1, q1, rfl, rfl, rfl, h1, r1⟩ := trodAll_cons r0
  obtain ⟨rfl, rfl, rfl⟩ := trodAll_nil r1
  obtain rfl : args = #[v0, v1] := by cases args; simp_all
  obtain ⟨A0, c0, b, rfl, l0, m0, rd0, nn0, dd0⟩ := open_bytes_rd Try.underlying36 Try.underlying5 (by kernel_rfl) (hval 0 36 v0 rfl rfl) h0
  obtain ⟨o, oi1, rfl⟩ := open_op (hval 1 33 v1 rfl rfl) h1
  have zz0 : b.length + 4000 ≤ 140737488355328 := by
    rcases dd0 with ⟨_, h, _⟩ | ⟨el, sp, h, h1, _⟩
    · rw [h]; decide
    · have hz := sized_slice (j := 0) hre rfl (by rw [h]; rfl) Try.underlying36
      have hbz : Try.prog.bytesOf 5 = 1 := by kernel_rfl
      have hrl : reachBytes + 4000 < 140737488355328 := by decide
      rw [hbz] at hz; omega
  exact stampWrites_any A0 b c0 o W rd0 zz0 l0 m0 oi1

set_option maxRecDepth 100000 in
theorem stampWrites_over : Rows.stampWritesRow.holds Try.pinned (OpenSpec.ofChange Rows.stampWritesSpec) :=
  OpenClaim.holds_of_wide 5 Try.f5 rfl rfl rfl rfl rfl rfl rfl ⟨rfl, rfl, rfl, rfl, rfl⟩ rfl rfl rfl rfl rfl (by kernel_rfl) Try.func5 (by kernel_rfl)
    (of_decide_eq_true (by kernel_rfl)) (by unfold Func.isWrapper; first | (rw [if_pos (by decide +kernel)]; kernel_rfl) | (rw [if_neg (by decide +kernel)]; exact ⟨rfl, rfl⟩))
    (fun os started H enc _ => law_lifted (f := 5) (fn := Try.f5) (s := Rows.stampWritesSpec) (bt := 4) started (by kernel_rfl) Try.func5
      (ChangeSpec.witness6 (enc := enc) (C := Try.checked) false ⟨#[], #[.slice none 0 0, .agg #[.int .i64 0, .int .i64 0, .int .i64 0, .int .i64 0, .int .i64 0, .int .i64 0, .int .i64 0, .string ByteArray.empty, .int .u8 0, .int .u8 0, .int .u8 0, .int .u8 0, .int .u8 0, .int .u8 0, .int .u8 0, .int .u8 0, .int .u8 0, .int .u8 0, .int .u8 0, .int .u8 0, .int .u8 0, .int .u8 0, .int .u8 0, .int .u8 0, .int .u8 0, .int .u8 0, .int .u8 0, .int .u8 0, .int .u8 0, .int .u8 0, .int .u8 0, .int .u8 0, .int .u8 0, .int .u8 0, .int .u8 0, .int .u8 0, .int .u8 0, .int .u8 0, .int .u8 0, .int .u8 0, .slice none 0 0]], []⟩ 8 (by kernel_rfl) (by kernel_rfl) (by kernel_rfl) (by kernel_rfl))
      rfl Try.underlying4 rfl (by rw [Try.params5]; intro t ht; simp only [List.mem_cons, List.not_mem_nil, or_false] at ht; rcases ht with rfl | rfl <;> exact ⟨by kernel_rfl, of_decide_eq_true (by kernel_rfl)⟩)
      (by intro ds hd; match ds, hd with | [d0, d1], _ => rfl) (stampWrites_owed H enc))

/-- the statement -/
theorem stampWrites_holds : Rows.StampWritesSaid := stampWrites_over
end Go.Proofs.Ytabkgoandfpclaa
