/- EncSums: all bytes have the sum that the document says: for every input the law returns true, and what came in reads as it did. -/
import Derived.Test.YtgmhdkkhiclilaaFrame
import Derived.Test.YtgmhdkkhiclilaaOpen
import Derived.Test.YtgmhdkkhiclilaaEncSums
namespace Go.Proofs.Ytgmhdkkhiclilaa
open Go.ChangeShapes Go.WideShapes Go.ChangeAt Go.RowKit

theorem encSums_owed (H : Type) (enc : TypeId × Value → H) : WalkOwed H enc 3 Try.f3 (fun _ => True) := by
  intro W base args ds ps hval hA _ _
  rw [Try.params3] at hA hval
  obtain ⟨v0, vs0, d0, ds0, p0, q0, hargs, rfl, rfl, h0, r0⟩ := trodAll_cons hA
  obtain ⟨rfl, rfl, rfl⟩ := trodAll_nil r0
  obtain rfl : args = #[v0] := by cases args; simp_all
  obtain ⟨A, c, bs, rfl, hl, hm, hr, _⟩ := open_bytes_rd Try.underlying22 Try.underlying5 (by kernel_rfl) (hval 0 22 v0 rfl rfl) h0
  exact encSums_any A bs c W hr (by omega)

set_option maxRecDepth 100000 in
theorem encSums_over : Rows.encSumsRow.holds Try.pinned (OpenSpec.ofChange Rows.encSumsSpec) :=
  OpenClaim.holds_of_wide 3 Try.f3 rfl rfl rfl rfl rfl rfl rfl ⟨rfl, rfl, rfl, rfl, rfl⟩ rfl rfl rfl rfl rfl (by kernel_rfl) Try.func3 (by kernel_rfl)
    (of_decide_eq_true (by kernel_rfl)) (by unfold Func.isWrapper; first | (rw [if_pos (by decide +kernel)]; kernel_rfl) | (rw [if_neg (by decide +kernel)]; exact ⟨rfl, rfl⟩))
    (fun os started H enc _ => law_lifted (f := 3) (fn := Try.f3) (s := Rows.encSumsSpec) (bt := 4) started (by kernel_rfl) Try.func3
      (ChangeSpec.witness6 (enc := enc) (C := Try.checked) false ⟨#[], #[.slice none 0 0], []⟩ 8 (by kernel_rfl) (by kernel_rfl) (by kernel_rfl) (by kernel_rfl))
      rfl Try.underlying4 rfl (by rw [Try.params3]; intro t ht; simp at ht; subst ht; exact ⟨by kernel_rfl, of_decide_eq_true (by kernel_rfl)⟩)
      (by intro ds hd; match ds, hd with | [d], _ => rfl) (encSums_owed H enc))

/-- the statement -/
theorem encSums_holds : Rows.EncSumsSaid := encSums_over
end Go.Proofs.Ytgmhdkkhiclilaa
