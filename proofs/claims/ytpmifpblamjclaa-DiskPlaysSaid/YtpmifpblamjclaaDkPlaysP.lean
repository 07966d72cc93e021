
/- DiskPlays: for every input the law returns true, and what came in reads as it did. -/

import Derived.Test.YtpmifpblamjclaaFrame

import Derived.Test.YtpmifpblamjclaaOpen

import Derived.Test.YtpmifpblamjclaaPartsOpen

import Derived.Test.YtpmifpblamjclaaDp19

namespace Go.Proofs.Ytpmifpblamjclaa

open Go.ChangeShapes Go.WideShapes Go.ChangeAt Go.RowKit

open Go.ChangeMaps (open_string shut_string)

set_option linter.unusedVariables false

set_option maxRecDepth 100000 in
theorem diskPlays_owed (H : Type) (enc : TypeId × Value → H) : WalkOwed H enc 7 Try.f7 (fun _ => True) := by
  intro W base args ds ps hval hA hre _
  rw [Try.params7] at hA hval hre
  obtain ⟨v0, vs0, d0, ds0, p0, q0, hargs, rfl, rfl, h0, r0⟩ := trodAll_cons hA
  obtain ⟨v1, vs1, d1, ds1, p1, q1, rfl, rfl, rfl, h1, r1⟩ := trodAll_cons r0
  obtain ⟨v2, vs2, d2, ds2, p2, q2, rfl, rfl, rfl, h2, r2⟩ := trodAll_cons r1
  obtain ⟨rfl, rfl, rfl⟩ := trodAll_nil r2
  obtain rfl : args = #[v0, v1, v2] := by cases args; simp_all
  obtain ⟨room, rfl, rfl, rfl, w0⟩ := open_int Try.underlying3 (hval 0 3 v0 rfl rfl) h0
  have b0 := w0
  simp [Lit.wf, IntKind.min, IntKind.max, IntKind.signed, IntKind.bits] at b0
  obtain ⟨nm, rfl, rfl, rfl, l2⟩ := open_string Try.underlying9 (hval 2 9 v2 rfl rfl) h2
  obtain ⟨A1, c1, os, rfl, l1, rd1, ok1⟩ := open_ops (hval 1 45 v1 rfl rfl) h1 (fun k hk => by
    have := List.all_eq_true.1 hre k (DataW.weights_mem_each (j := 1) rfl rfl k hk)
    simpa using this)
  exact (plays_any room b0 A1 os os.length c1 rfl l1 nm l2 W rd1 ok1).mono fun e w' ⟨he, hb⟩ => ⟨he, hb⟩

set_option maxRecDepth 100000 in
theorem diskPlays_over : Rows.diskPlaysRow.holds Try.pinned (OpenSpec.ofChange Rows.diskPlaysSpec) :=
  OpenClaim.holds_of_wide 7 Try.f7 rfl rfl rfl rfl rfl rfl rfl ⟨rfl, rfl, rfl, rfl, rfl⟩ rfl rfl rfl rfl rfl (by kernel_rfl) Try.func7 (by kernel_rfl)
    (of_decide_eq_true (by kernel_rfl)) (by unfold Func.isWrapper; first | (rw [if_pos (by decide +kernel)]; kernel_rfl) | (rw [if_neg (by decide +kernel)]; exact ⟨rfl, rfl⟩))
    (fun os started H enc _ => law_lifted (f := 7) (fn := Try.f7) (s := Rows.diskPlaysSpec) (bt := 4) started (by kernel_rfl) Try.func7
      (ChangeSpec.witness6 (enc := enc) (C := Try.checked) false ⟨#[], #[.int .i64 0, .slice none 0 0, .string ByteArray.empty], []⟩ 8 (by kernel_rfl) (by kernel_rfl) (by kernel_rfl) (by kernel_rfl))
      rfl Try.underlying4 rfl (by rw [Try.params7]; intro t ht; simp only [List.mem_cons, List.not_mem_nil, or_false] at ht; rcases ht with rfl | rfl | rfl <;> exact ⟨by kernel_rfl, of_decide_eq_true (by kernel_rfl)⟩)
      (by intro ds hd; match ds, hd with | [d0, d1, d2], _ => rfl) (diskPlays_owed H enc))

/-- the statement -/
theorem diskPlays_holds : Rows.DiskPlaysSaid := diskPlays_over
end Go.Proofs.Ytpmifpblamjclaa
