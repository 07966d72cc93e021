/- EncWrites: for every input the law returns true, and what came in reads as it did. -/
import Derived.Test.YtgmhdkkhiclilaaFrame
import Derived.Test.YtgmhdkkhiclilaaOpen
import Derived.Test.YtgmhdkkhiclilaaEncWrites
namespace Go.Proofs.Ytgmhdkkhiclilaa
open Go.ChangeShapes Go.WideShapes Go.ChangeAt Go.RowKit
open Go.ChangeMaps (open_string shut_string)
set_option linter.unusedVariables false

theorem encWrites_owed (H : Type) (enc : TypeId × Value → H) : WalkOwed H enc 6 Try.f6 (fun ds => Rows.uptoBulkAll ds ≤ 1048576) := by
  intro W base args ds ps hval hA hre hk
  rw [Try.params6] at hA hval hre
  obtain ⟨v0, vs0, d0, ds0, p0, q0, hargs, rfl, rfl, h0, r0⟩ := trodAll_cons hA
  obtain ⟨v1, vs1, d1, ds1, p1, q1, rfl, rfl, rfl, h1, r1⟩ := trodAll_cons r0
  obtain ⟨v2, vs2, d2, ds2, p2, q2, rfl, rfl, rfl, h2, r2⟩ := trodAll_cons r1
  obtain ⟨v3, vs3, d3, ds3, p3, q3, rfl, rfl, rfl, h3, r3⟩ := trodAll_cons r2
  obtain ⟨v4, vs4, d4, ds4, p4, q4, rfl, rfl, rfl, h4, r4⟩ := trodAll_cons r3
  obtain ⟨rfl, rfl, rfl⟩ := trodAll_nil r4
  obtain rfl : args = #[v0, v1, v2, v3, v4] := by cases args; simp_all
  obtain ⟨A0, c0, b, rfl, l0, m0, rd0, nn0, dd0⟩ := open_bytes_rd Try.underlying22 Try.underlying5 (by kernel_rfl) (hval 0 22 v0 rfl rfl) h0
  obtain ⟨n, rfl, rfl, rfl, w1⟩ := open_int Try.underlying2 (hval 1 2 v1 rfl rfl) h1
  have b1 := w1
  simp [Lit.wf, IntKind.min, IntKind.max, IntKind.signed, IntKind.bits] at b1
  obtain ⟨s, rfl, rfl, rfl, l2⟩ := open_string Try.underlying9 (hval 2 9 v2 rfl rfl) h2
  have z2 := sized_string (j := 2) hre rfl rfl
  obtain ⟨id, l3, rfl⟩ := open_id Try.underlying32 Try.underlying5 (by kernel_rfl) (by kernel_rfl) (hval 3 32 v3 rfl rfl) h3
  obtain ⟨u, rfl, rfl, rfl, w4⟩ := open_int Try.underlying24 (hval 4 24 v4 rfl rfl) h4
  have b4 := w4
  simp [Lit.wf, IntKind.min, IntKind.max, IntKind.signed, IntKind.bits] at b4
  have u0 : c0 ≤ 1048576 := by
    rcases dd0 with ⟨_, _, h, _⟩ | ⟨el, sp, h, _, h2⟩
    · omega
    · subst h
      have := bulk_slice el sp
      simp only [Rows.uptoBulkAll] at hk
      omega
  have u2 : s.data.toList.length ≤ 1048576 := by simp only [Rows.uptoBulkAll, bulk_string] at hk; omega
  obtain ⟨u', rfl⟩ := Int.eq_ofNat_of_zero_le b4.1
  exact encWrites_any A0 b id c0 u' n s W rd0 (by omega) (by rw [← size_toList]; omega) l3 (by omega)

set_option maxRecDepth 100000 in
theorem encWrites_over : Rows.encWritesUptoRow.holds Try.pinned (Rows.OpenSpec.upto Rows.encWritesSpec) :=
  OpenClaim.holds_of_cond 6 Try.f6 rfl rfl rfl rfl rfl rfl rfl ⟨rfl, rfl, rfl, rfl, rfl⟩ rfl rfl rfl rfl rfl (by kernel_rfl) Try.func6 (by kernel_rfl)
    (of_decide_eq_true (by kernel_rfl)) (by unfold Func.isWrapper; first | (rw [if_pos (by decide +kernel)]; kernel_rfl) | (rw [if_neg (by decide +kernel)]; exact ⟨rfl, rfl⟩))
    (fun os started H enc _ F => law_lifted_upto (f := 6) (fn := Try.f6) (s := Rows.encWritesSpec) (bt := 4) started (by kernel_rfl) Try.func6
      (OpenSpec.witness (enc := enc) (C := Try.checked) (s := Rows.OpenSpec.upto Rows.encWritesSpec) (k := Rows.uptoSmall) rfl false ⟨#[], #[.slice none 0 0, .int .i64 0, .string ByteArray.empty, .agg #[.int .u8 0, .int .u8 0, .int .u8 0, .int .u8 0, .int .u8 0, .int .u8 0, .int .u8 0, .int .u8 0, .int .u8 0, .int .u8 0, .int .u8 0, .int .u8 0, .int .u8 0, .int .u8 0, .int .u8 0, .int .u8 0, .int .u8 0, .int .u8 0, .int .u8 0, .int .u8 0, .int .u8 0, .int .u8 0, .int .u8 0, .int .u8 0, .int .u8 0, .int .u8 0, .int .u8 0, .int .u8 0, .int .u8 0, .int .u8 0, .int .u8 0, .int .u8 0], .int .u32 0], []⟩ 8 (by kernel_rfl) (by kernel_rfl) (by kernel_rfl) (x := ([.nil, .lit (.int .i64 0), .lit (.string []), .agg [.lit (.int .u8 0), .lit (.int .u8 0), .lit (.int .u8 0), .lit (.int .u8 0), .lit (.int .u8 0), .lit (.int .u8 0), .lit (.int .u8 0), .lit (.int .u8 0), .lit (.int .u8 0), .lit (.int .u8 0), .lit (.int .u8 0), .lit (.int .u8 0), .lit (.int .u8 0), .lit (.int .u8 0), .lit (.int .u8 0), .lit (.int .u8 0), .lit (.int .u8 0), .lit (.int .u8 0), .lit (.int .u8 0), .lit (.int .u8 0), .lit (.int .u8 0), .lit (.int .u8 0), .lit (.int .u8 0), .lit (.int .u8 0), .lit (.int .u8 0), .lit (.int .u8 0), .lit (.int .u8 0), .lit (.int .u8 0), .lit (.int .u8 0), .lit (.int .u8 0), .lit (.int .u8 0), .lit (.int .u8 0)], .lit (.int .u32 0)], [], [])) (by kernel_rfl) rfl (by kernel_rfl))
      rfl Try.underlying4 rfl (by rw [Try.params6]; intro t ht; simp only [List.mem_cons, List.not_mem_nil, or_false] at ht; rcases ht with rfl | rfl | rfl | rfl | rfl <;> exact ⟨by kernel_rfl, of_decide_eq_true (by kernel_rfl)⟩)
      (by intro ds hd; match ds, hd with | [d0, d1, d2, d3, d4], _ => rfl) (encWrites_owed H enc))

/-- the statement -/
theorem encWrites_holds : Rows.EncWritesUptoSaid := encWrites_over
end Go.Proofs.Ytgmhdkkhiclilaa
