
/- DiskRoom: for every input the law returns true, and what came in reads as it did. -/

import Derived.Test.YtpmifpblamjclaaFrame

import Derived.Test.YtpmifpblamjclaaOpen

import Derived.Test.YtpmifpblamjclaaPartsOpen

import Derived.Test.YtpmifpblamjclaaDk21

namespace Go.Proofs.Ytpmifpblamjclaa

open Go.ChangeShapes Go.WideShapes Go.ChangeAt Go.RowKit

open Go.ChangeMaps (open_string shut_string)

set_option linter.unusedVariables false

set_option maxRecDepth 100000 in
theorem diskRoom_owed (H : Type) (enc : TypeId × Value → H) : WalkOwed H enc 6 Try.f6 (fun _ => True) := by
  intro W base args ds ps hval hA hre _
  rw [Try.params6] at hA hval hre
  obtain ⟨v0, vs0, d0, ds0, p0, q0, hargs, rfl, rfl, h0, r0⟩ := trodAll_cons hA
  obtain ⟨v1, vs1, d1, ds1, p1, q1, rfl, rfl, rfl, h1, r1⟩ := trodAll_cons r0
  obtain ⟨rfl, rfl, rfl⟩ := trodAll_nil r1
  obtain rfl : args = #[v0, v1] := by cases args; simp_all
  obtain ⟨room, rfl, rfl, rfl, w0⟩ := open_int Try.underlying3 (hval 0 3 v0 rfl rfl) h0
  have b0 := w0
  simp [Lit.wf, IntKind.min, IntKind.max, IntKind.signed, IntKind.bits] at b0
  obtain ⟨A1, c1, parts, rfl, l1, rd1, ok1⟩ := open_parts (hval 1 41 v1 rfl rfl) h1
  exact (room_law room A1 parts parts.length c1 rfl l1 W rd1 ok1).mono fun e w' ⟨he, hb⟩ => ⟨he, hb⟩

set_option maxRecDepth 100000 in
theorem diskRoom_over : Rows.diskRoomRow.holds Try.pinned (OpenSpec.ofChange Rows.diskRoomSpec) :=
  OpenClaim.holds_of_wide 6 Try.f6 rfl rfl rfl rfl rfl rfl rfl ⟨rfl, rfl, rfl, rfl, rfl⟩ rfl rfl rfl rfl rfl (by kernel_rfl) Try.func6 (by kernel_rfl)
    (of_decide_eq_true (by kernel_rfl)) (by unfold Func.isWrapper; first | (rw [if_pos (by decide +kernel)]; kernel_rfl) | (rw [if_neg (by decide +kernel)]; exact ⟨rfl, rfl⟩))
    (fun os started H enc _ => law_lifted (f := 6) (fn := Try.f6) (s := Rows.diskRoomSpec) (bt := 4) started (by kernel_rfl) Try.func6
      (ChangeSpec.witness6 (enc := enc) (C := Try.checked) false ⟨#[], #[.int .i64 0, .slice none 0 0], []⟩ 8 (by kernel_rfl) (by kernel_rfl) (by kernel_rfl) (by kernel_rfl))
      rfl Try.underlying4 rfl (by rw [Try.params6]; intro t ht; simp only [List.mem_cons, List.not_mem_nil, or_false] at ht; rcases ht with rfl | rfl <;> exact ⟨by kernel_rfl, of_decide_eq_true (by kernel_rfl)⟩)
      (by intro ds hd; match ds, hd with | [d0, d1], _ => rfl) (diskRoom_owed H enc))

/-- the statement -/
theorem diskRoom_holds : Rows.DiskRoomSaid := diskRoom_over
end Go.Proofs.Ytpmifpblamjclaa
