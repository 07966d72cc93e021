
/- LinesPatch: for every input of bulk at most 1048576 the law returns true, and what came in reads as it did; the tied card of the second form. -/

import Derived.Test.YtmniggjadfdheaaDoorLaidU

import Derived.Test.YtmniggjadfdheaaDoorLnOpen

import Derived.Test.YtmniggjadfdheaaDoorLn30

import Derived.Test.YtmniggjadfdheaaDoorTie

import Derived.Test.YtmniggjadfdheaaDoorCards

import Derived.SevenTiedAt

namespace Go.Proofs.YtmniggjadfdheaaDoor

open Go.ChangeShapes Go.WideShapes Go.ChangeAt Go.RowKit

open Go.ChangeMaps (open_string shut_string)

set_option linter.unusedVariables false

theorem textB_edW (s : List EdM) : (textB s).length ≤ edW s := by
  induction s with
  | nil => exact Nat.le_refl _
  | cons e s ih =>
    have h3 := (lineB_size e).2
    have h4 : (if endNL e.line = true then 1 else 2) ≤ 2 := by split <;> omega
    have e1 : textB (e :: s) = lineB e ++ textB s := rfl
    have e2 : edW (e :: s) = e.line.size + 3 + edW s := by simp [edW]
    rw [e1, e2, List.length_append]
    omega

set_option maxRecDepth 100000 in
theorem linesPatch_owed (H : Type) (enc : TypeId × Value → H) : WalkOwed H enc 4 Tryd.f4 (fun ds => Rows.uptoBulkAll ds ≤ 1048576) := by
  intro W base args ds ps hval hA hre hk
  rw [Tryd.params4] at hA hval hre
  obtain ⟨v0, vs0, d0, ds0, p0, q0, hargs, rfl, rfl, h0, r0⟩ := trodAll_cons hA
  obtain ⟨v1, vs1, d1, ds1, p1, q1, rfl, rfl, rfl, h1, r1⟩ := trodAll_cons r0
  obtain ⟨rfl, rfl, rfl⟩ := trodAll_nil r1
  obtain rfl : args = #[v0, v1] := by cases args; simp_all
  obtain ⟨A0, c0, a, rfl, l0, m0, rd0, wf0, nn0, dd0⟩ := open_strs_rd Tryd.underlying22 Tryd.underlying9 (by kernel_rfl) (hval 0 22 v0 rfl rfl) h0
  obtain ⟨A1, c1, s, rfl, l1, m1, rd1, nn1, w1⟩ := open_eds (hval 1 24 v1 rfl rfl) h1
  have ht := textB_edW s
  simp only [Rows.uptoBulkAll] at hk
  exact linesPatch_any A0 A1 a s c0 c1 W rd0 rd1 l0 m0 nn1 (by unfold maxLen at m1; omega) (by omega)

set_option maxRecDepth 100000 in
theorem linesPatch_over : Rows.linesPatchUptoRow.holds Tryd.pinned (Rows.OpenSpec.upto Rows.linesPatchSpec) :=
  OpenClaim.holds_of_cond 4 Tryd.f4 rfl rfl rfl rfl rfl rfl rfl ⟨rfl, rfl, rfl, rfl, rfl⟩ rfl rfl rfl rfl rfl (by kernel_rfl) Tryd.func4 (by kernel_rfl)
    (of_decide_eq_true (by kernel_rfl)) (by unfold Func.isWrapper; first | (rw [if_pos (by decide +kernel)]; kernel_rfl) | (rw [if_neg (by decide +kernel)]; exact ⟨rfl, rfl⟩))
    (fun os started H enc _ F => law_lifted_laid_upto (f := 4) (fn := Tryd.f4) (s := Rows.linesPatchSpec) (bt := 4) started (by kernel_rfl) Tryd.func4
      (witness_laid #[.slice none 0 0, .slice none 0 0] 8 (by kernel_rfl) (x := ([.nil, .nil], [], [])) (by kernel_rfl) rfl (by kernel_rfl))
      rfl Tryd.underlying4 rfl (by rw [Tryd.params4]; intro t ht; simp only [List.mem_cons, List.not_mem_nil, or_false] at ht; rcases ht with rfl | rfl <;> exact ⟨by kernel_rfl, of_decide_eq_true (by kernel_rfl)⟩)
      (by intro ds hd; match ds, hd with | [d0, d1], _ => rfl) (linesPatch_owed H enc))

/-- the statement -/
theorem linesPatch_holds : Rows.LinesPatchUptoCardSaid :=
  Claim7.holds_tied_plain_at .later [] [.data, .pinned] true (true, "5038a75739483502cdefe7ab429dcc16981e2cb0e3fc0cb85022776878b4c249") false
    linesPatch_over (fun _ h => by cases h) (by kernel_rfl) (fun _ h => by cases h) linesPatchUpto_row_tie rfl ⟨rfl, rfl⟩ (by kernel_rfl) rfl
    (fun f fn hf hfn => by
      obtain rfl : f = 4 := Option.some.inj ((show Tryd.prog.funcNamed "pollard/pollardlaw16.LinesPatch" = some 4 by kernel_rfl).symm.trans hf) |>.symm
      obtain rfl : fn = Tryd.f4 := (Option.some.inj (Tryd.func4.symm.trans hfn)).symm
      exact ⟨by kernel_rfl, fun j t ht => by
        rw [Tryd.params4] at ht
        have hm : t ∈ [22, 24] := by simpa using Array.mem_of_getElem? ht
        have hall : ([22, 24].all fun u => !Tryd.prog.wantsStandIn u) = true := by kernel_rfl
        exact (show Tryd.prog.wantsStandIn t = false by simpa using List.all_eq_true.1 hall t hm)⟩)
    (by kernel_rfl)
end Go.Proofs.YtmniggjadfdheaaDoor
