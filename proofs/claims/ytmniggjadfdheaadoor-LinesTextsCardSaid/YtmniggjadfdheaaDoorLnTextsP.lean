
/- LinesTexts: for every input the law returns true, and what came in reads as it did; the tied card. -/

import Derived.Test.YtmniggjadfdheaaDoorLaid

import Derived.Test.YtmniggjadfdheaaDoorOpen

import Derived.Test.YtmniggjadfdheaaDoorLn25

import Derived.Test.YtmniggjadfdheaaDoorTie

import Derived.Test.YtmniggjadfdheaaDoorCards

import Derived.SevenTiedAt

namespace Go.Proofs.YtmniggjadfdheaaDoor

open Go.ChangeShapes Go.WideShapes Go.ChangeAt Go.RowKit

open Go.ChangeMaps (open_string shut_string)

set_option linter.unusedVariables false

set_option maxRecDepth 100000 in
theorem linesTexts_owed (H : Type) (enc : TypeId × Value → H) : WalkOwed H enc 7 Tryd.f7 (fun _ => True) := by
  intro W base args ds ps hval hA hre _
  rw [Tryd.params7] at hA hval hre
  obtain ⟨v0, vs0, d0, ds0, p0, q0, hargs, rfl, rfl, h0, r0⟩ := trodAll_cons hA
  obtain ⟨v1, vs1, d1, ds1, p1, q1, rfl, rfl, rfl, h1, r1⟩ := trodAll_cons r0
  obtain ⟨rfl, rfl, rfl⟩ := trodAll_nil r1
  obtain rfl : args = #[v0, v1] := by cases args; simp_all
  obtain ⟨A0, c0, a, rfl, l0, m0, rd0, nn0, dd0⟩ := open_bytes_rd Tryd.underlying45 Tryd.underlying5 (by kernel_rfl) (hval 0 45 v0 rfl rfl) h0
  obtain ⟨A1, c1, b, rfl, l1, m1, rd1, nn1, dd1⟩ := open_bytes_rd Tryd.underlying45 Tryd.underlying5 (by kernel_rfl) (hval 1 45 v1 rfl rfl) h1
  exact linesTexts_any A0 A1 a b c0 c1 W rd0 rd1 l0 m0 l1 m1

set_option maxRecDepth 100000 in
theorem linesTexts_over : Rows.linesTextsRow.holds Tryd.pinned (OpenSpec.ofChange Rows.linesTextsSpec) :=
  OpenClaim.holds_of_wide 7 Tryd.f7 rfl rfl rfl rfl rfl rfl rfl ⟨rfl, rfl, rfl, rfl, rfl⟩ rfl rfl rfl rfl rfl (by kernel_rfl) Tryd.func7 (by kernel_rfl)
    (of_decide_eq_true (by kernel_rfl)) (by unfold Func.isWrapper; first | (rw [if_pos (by decide +kernel)]; kernel_rfl) | (rw [if_neg (by decide +kernel)]; exact ⟨rfl, rfl⟩))
    (fun os started H enc _ => law_lifted_laid (f := 7) (fn := Tryd.f7) (s := Rows.linesTextsSpec) (bt := 4) started (by kernel_rfl) Tryd.func7
      (ChangeSpec.witness_shaped (enc := enc) (C := Tryd.checked) (os := os) (X := fun w _ => laidMetH Tryd.prog laidL w) false (World.laidAll Tryd.prog os laidL) #[.slice none 0 0, .slice none 0 0] 8 (World.laidAll_os _ _ _)
        (laid_shaped os _) (by kernel_rfl) (by kernel_rfl) (by kernel_rfl) (laid_met os _))
      rfl Tryd.underlying4 rfl (by rw [Tryd.params7]; intro t ht; simp at ht; subst ht; exact ⟨by kernel_rfl, of_decide_eq_true (by kernel_rfl)⟩)
      (by intro ds hd; match ds, hd with | [d0, d1], _ => rfl) (linesTexts_owed H enc))

/-- the statement -/
theorem linesTexts_holds : Rows.LinesTextsCardSaid :=
  Claim7.holds_tied_plain_at .later [] [.data, .pinned] true (true, "5038a75739483502cdefe7ab429dcc16981e2cb0e3fc0cb85022776878b4c249") false
    linesTexts_over (fun _ h => by cases h) (by kernel_rfl) (fun _ h => by cases h) linesTexts_row_tie rfl ⟨rfl, rfl⟩ (by kernel_rfl) rfl
    (fun f fn hf hfn => by
      obtain rfl : f = 7 := Option.some.inj ((show Tryd.prog.funcNamed "pollard/pollardlaw16.LinesTexts" = some 7 by kernel_rfl).symm.trans hf) |>.symm
      obtain rfl : fn = Tryd.f7 := (Option.some.inj (Tryd.func7.symm.trans hfn)).symm
      exact ⟨by kernel_rfl, fun j t ht => by
        rw [Tryd.params7] at ht
        have hm : t ∈ [45, 45] := by simpa using Array.mem_of_getElem? ht
        have hall : ([45, 45].all fun u => !Tryd.prog.wantsStandIn u) = true := by kernel_rfl
        exact (show Tryd.prog.wantsStandIn t = false by simpa using List.all_eq_true.1 hall t hm)⟩)
    (by kernel_rfl)
end Go.Proofs.YtmniggjadfdheaaDoor
