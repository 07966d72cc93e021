
/- LinesSplit: for every input of bulk at most 1048576 the law returns true, and what came in reads as it did; the tied card of the second form. -/

import Derived.Test.YtmniggjadfdheaaDoorLaidU

import Derived.Test.YtmniggjadfdheaaDoorOpen

import Derived.Test.YtmniggjadfdheaaDoorLn33

import Derived.Test.YtmniggjadfdheaaDoorTie

import Derived.Test.YtmniggjadfdheaaDoorCards

import Derived.SevenTiedAt

namespace Go.Proofs.YtmniggjadfdheaaDoor

open Go.ChangeShapes Go.WideShapes Go.ChangeAt Go.RowKit

open Go.ChangeMaps (open_string shut_string)

set_option linter.unusedVariables false

set_option maxRecDepth 100000 in
theorem linesSplit_owed (H : Type) (enc : TypeId × Value → H) : WalkOwed H enc 8 Tryd.f8 (fun ds => Rows.uptoBulkAll ds ≤ 1048576) := by
  intro W base args ds ps hval hA hre hk
  rw [Tryd.params8] at hA hval hre
  obtain ⟨v0, vs0, d0, ds0, p0, q0, hargs, rfl, rfl, h0, r0⟩ := trodAll_cons hA
  obtain ⟨rfl, rfl, rfl⟩ := trodAll_nil r0
  obtain rfl : args = #[v0] := by cases args; simp_all
  obtain ⟨A0, c0, b, rfl, l0, m0, rd0, nn0, dd0⟩ := open_bytes_rd Tryd.underlying45 Tryd.underlying5 (by kernel_rfl) (hval 0 45 v0 rfl rfl) h0
  have u0 : c0 ≤ 1048576 := by
    rcases dd0 with ⟨_, _, h, _⟩ | ⟨el, sp, h, _, h2⟩
    · omega
    · subst h
      have := bulk_slice el sp
      simp only [Rows.uptoBulkAll] at hk
      omega
  exact linesSplit_any A0 b c0 W rd0 l0 m0 (by omega)

set_option maxRecDepth 100000 in
theorem linesSplit_over : Rows.linesSplitUptoRow.holds Tryd.pinned (Rows.OpenSpec.upto Rows.linesSplitSpec) :=
  OpenClaim.holds_of_cond 8 Tryd.f8 rfl rfl rfl rfl rfl rfl rfl ⟨rfl, rfl, rfl, rfl, rfl⟩ rfl rfl rfl rfl rfl (by kernel_rfl) Tryd.func8 (by kernel_rfl)
    (of_decide_eq_true (by kernel_rfl)) (by unfold Func.isWrapper; first | (rw [if_pos (by decide +kernel)]; kernel_rfl) | (rw [if_neg (by decide +kernel)]; exact ⟨rfl, rfl⟩))
    (fun os started H enc _ F => law_lifted_laid_upto (f := 8) (fn := Tryd.f8) (s := Rows.linesSplitSpec) (bt := 4) started (by kernel_rfl) Tryd.func8
      (witness_laid #[.slice none 0 0] 8 (by kernel_rfl) (x := ([.nil], [], [])) (by kernel_rfl) rfl (by kernel_rfl))
      rfl Tryd.underlying4 rfl (by rw [Tryd.params8]; intro t ht; simp only [List.mem_cons, List.not_mem_nil, or_false] at ht; subst ht; exact ⟨by kernel_rfl, of_decide_eq_true (by kernel_rfl)⟩)
      (by intro ds hd; match ds, hd with | [d0], _ => rfl) (linesSplit_owed H enc))

/-- the statement -/
theorem linesSplit_holds : Rows.LinesSplitUptoCardSaid :=
  Claim7.holds_tied_plain_at .later [] [.data, .pinned] true (true, "5038a75739483502cdefe7ab429dcc16981e2cb0e3fc0cb85022776878b4c249") false
    linesSplit_over (fun _ h => by cases h) (by kernel_rfl) (fun _ h => by cases h) linesSplitUpto_row_tie rfl ⟨rfl, rfl⟩ (by kernel_rfl) rfl
    (fun f fn hf hfn => by
      obtain rfl : f = 8 := Option.some.inj ((show Tryd.prog.funcNamed "pollard/pollardlaw16.LinesSplit" = some 8 by kernel_rfl).symm.trans hf) |>.symm
      obtain rfl : fn = Tryd.f8 := (Option.some.inj (Tryd.func8.symm.trans hfn)).symm
      exact ⟨by kernel_rfl, fun j t ht => by
        rw [Tryd.params8] at ht
        have hm : t ∈ [45] := by simpa using Array.mem_of_getElem? ht
        have hall : ([45].all fun u => !Tryd.prog.wantsStandIn u) = true := by kernel_rfl
        exact (show Tryd.prog.wantsStandIn t = false by simpa using List.all_eq_true.1 hall t hm)⟩)
    (by kernel_rfl)
end Go.Proofs.YtmniggjadfdheaaDoor
