
/- The document's example is answered rightly. -/

import Derived.Test.YtpmifpblamjclaaDk14

import Derived.Lib.SlBytesConst

namespace Go.Proofs.Ytpmifpblamjclaa

set_option linter.unusedVariables false

set_option linter.unusedSimpArgs false

set_option linter.unusedSectionVars false

open Go.RowKit

/-- a row that is made ahead of a call -/
theorem lit_args {N g : Nat} {w : World} {m : DM} {d : DA} (h : DiskIn N w g m d) (cs : List Value) (t : TypeId) (fz : Nat × Nat) :
    Aft N g w (w.alloc (.cells cs.toArray t fz)) m d d ∧ Rd (w.alloc (.cells cs.toArray t fz)) (some ⟨w.heap.size, 0, none⟩) cs ∧
    (∀ a, some (⟨w.heap.size, 0, none⟩ : Addr) = some a → a.block < (w.alloc (.cells cs.toArray t fz)).heap.size ∧ ¬ foot g d a.block) :=
  ⟨Aft.below h ((Below.refl _ _).alloc (Nat.le_refl _) _), Rd.newm _ _ _ _, fun a ha => by
    cases ha
    refine ⟨by simp, fun hf => ?_⟩
    have := h.foot_lt hf
    dsimp only at this
    omega⟩

set_option maxRecDepth 1000000 in
set_option maxHeartbeats 8000000 in
theorem alive_any (w : World) : Calls Try.prog 10 #[] w fun e w' => e = .returned (.bool true) ∧ Below w.heap.size w w' := by
  obtain ⟨s1, s2, s3, s4, s5, s6, s7, s8, f0, f1, h1, h2, h3, h4, h5, h6, h7, h8, h9, h10, h11, h12⟩ := alive_plain
  have H1 := Lib.hid h1
  have H2 := Lib.hid h2
  have H3 := Lib.hid h3
  have H4 := Lib.hid h4
  have H5 := Lib.hid h5
  have H6 := Lib.hid h6
  have H7 := Lib.hid h7
  have H8 := Lib.hid h8
  have H9 := Lib.hid h9
  have H10 := Lib.hid h10
  have H11 := Lib.hid h11
  have H12 := Lib.hid h12
  clear h1 h2 h3 h4 h5 h6 h7 h8 h9 h10 h11 h12
  have HNW := Lib.hid (new_any 7 (by omega) w)
  have kc := fun (w : World) (C : Array Value) (n c : Nat) => Lib.run_convert_bytes_const (P := Try.prog) w 27 5 C n c Try.underlying27 Try.underlying5
  go_enter Try.func10, Try.ntmps10
  go_wp2_with fail
  refine HNW.out.mono ?_
  rintro e w1 ⟨g, d0, rfl, hd0, hb0⟩
  have A0 := Lib.hid (Aft.refl hd0)
  have B0 := Lib.hid hb0
  have F0 := Lib.hid (fit_new 7 (by omega))
  clear hd0 hb0
  go_wp2_with fail
  refine (create_st A0.out.disk F0.out (by omega) (by omega) (by decide) H1.out).mono ?_
  rintro e w2 ⟨rfl, d1, ha, hf⟩
  have A1 := Lib.hid (A0.out.trans ha)
  have F1 := Lib.hid hf
  have L1 := Lib.hid (lit_args A1.out.disk (b8s [97, 98, 99]) 5 (3, 4))
  clear ha hf
  go_wp2_with fail
  refine (append_st (bs := [97, 98, 99]) L1.out.1.disk F1.out (by omega) (by omega) (by decide) rfl L1.out.2.1 (fun _ a ha => (L1.out.2.2 a ha).2) (by decide) H2.out).mono ?_
  rintro e w3 ⟨rfl, d2, ha, hf⟩
  have A2 := Lib.hid ((A1.out.trans L1.out.1).trans ha)
  have F2 : Hid (Fit 1 3 s2) := Lib.hid hf
  clear ha hf L1
  go_wp2_with fail
  refine (sync_st A2.out.disk F2.out (by omega) (by omega) (by decide) H3.out).mono ?_
  rintro e w4 ⟨rfl, d3, ha, hf⟩
  have A3 := Lib.hid (A2.out.trans ha)
  have F3 := Lib.hid hf
  clear ha hf
  go_wp2_with fail
  refine (flush_st A3.out.disk F3.out (by omega) (by omega) H4.out).mono ?_
  rintro e w5 ⟨rfl, d4, ha, hf⟩
  have A4 := Lib.hid (A3.out.trans ha)
  have F4 := Lib.hid hf
  have L1 := Lib.hid (lit_args A4.out.disk (b8s [100, 101, 102, 103, 104]) 5 (5, 6))
  clear ha hf
  go_wp2_with fail
  refine (append_st (bs := [100, 101, 102, 103, 104]) L1.out.1.disk F4.out (by omega) (by omega) (by decide) rfl L1.out.2.1 (fun _ a ha => (L1.out.2.2 a ha).2) (by decide) H5.out).mono ?_
  rintro e w6 ⟨rfl, d5, ha, hf⟩
  have A5 := Lib.hid ((A4.out.trans L1.out.1).trans ha)
  have F5 : Hid (Fit 1 8 s4) := Lib.hid hf
  have L2 := Lib.hid (lit_args A5.out.disk (b8s [100, 101]) 5 (2, 3))
  clear ha hf L1
  go_wp2_with fail
  refine (append_st (bs := [100, 101]) L2.out.1.disk F5.out (by omega) (by omega) (by decide) rfl L2.out.2.1 (fun _ a ha => (L2.out.2.2 a ha).2) (by decide) H6.out).mono ?_
  rintro e w7 ⟨rfl, d6, ha, hf⟩
  have A6 := Lib.hid ((A5.out.trans L2.out.1).trans ha)
  have F6 : Hid (Fit 1 10 s5) := Lib.hid hf
  clear ha hf L2
  go_wp2_with fail
  refine (create_st A6.out.disk F6.out (by omega) (by omega) (by decide) H7.out).mono ?_
  rintro e w8 ⟨rfl, d7, ha, hf⟩
  have A7 := Lib.hid (A6.out.trans ha)
  have F7 : Hid (Fit 2 10 s6) := Lib.hid hf
  clear ha hf
  go_wp2_with fail
  refine (rename_st A7.out.disk F7.out (by omega) (by omega) (by decide) (by decide) H8.out).mono ?_
  rintro e w9 ⟨rfl, d8, ha, hf⟩
  have A8 := Lib.hid (A7.out.trans ha)
  have F8 : Hid (Fit 3 10 s7) := Lib.hid hf
  have L3 := Lib.hid (lit_args A8.out.disk [.int .i64 1] 3 (0, 0))
  clear ha hf
  go_wp2_with fail
  refine (crash_st (keep := [1]) L3.out.1.disk F8.out (by omega) (by omega) rfl (by decide) (by decide) L3.out.2.1 (fun _ => L3.out.2.2) H9.out).mono ?_
  rintro e w10 ⟨rfl, d9, ha, hf⟩
  have A9 := Lib.hid ((A8.out.trans L3.out.1).trans ha)
  have F9 := Lib.hid hf
  clear ha hf L3
  go_wp2_with fail
  refine (read_st A9.out.disk F9.out (by omega) (by omega) (by decide) H10.out).mono ?_
  rintro e w11 ⟨v, rfl, ho⟩
  obtain ⟨Ar, cr, rfl, hrr, _⟩ := ho.slice
  have A10 := Lib.hid (A9.out.then ho.bel)
  have hcv := run_str_of_bytes (P := Try.prog) (A := Ar) (bs := [97, 98, 99, 100]) 4 cr rfl Try.underlying27 Try.underlying5 Try.underlying9 (own_rd ho.own)
  have heq : ∀ w, (binOp .eql 9 (.string ⟨[97, 98, 99, 100].toArray⟩) (.string ⟨#[97, 98, 99, 100]⟩)).run Try.prog w = .ok (.bool true) w := fun w => by rw [bin_streq Try.underlying9]; rfl
  clear ho hrr kc
  go_wp2_with fail
  refine (names_st A10.out.disk F9.out (by omega) (by omega) H11.out).mono ?_
  rintro e w12 ⟨v, rfl, ho, hb⟩
  obtain ⟨An, cn, rfl, hcn, _⟩ := own_slice ho
  have A11 := Lib.hid (A10.out.then hb)
  have hrd : Rd w12 An (sts [⟨#[97]⟩, ⟨#[98]⟩]) := own_rd ho
  have HRD := Lib.hid hrd
  have L4 := Lib.hid (lit_args A11.out.disk (sts [⟨#[97]⟩, ⟨#[98]⟩]) 9 (0, 0))
  clear ho hb hcn hrd
  go_wp2_with fail
  refine (texts_any An (some ⟨w12.heap.size, 0, none⟩) [⟨#[97]⟩, ⟨#[98]⟩] [⟨#[97]⟩, ⟨#[98]⟩] cn 2 _ (HRD.out.alloc _) L4.out.2.1 (by decide) (by decide)).mono ?_
  rintro e w13 ⟨rfl, hb⟩
  rw [decide_eq_true rfl]
  have A12 := Lib.hid ((A11.out.trans L4.out.1).then hb)
  clear hb L4
  go_wp2_with fail
  refine (room_st A12.out.disk F9.out (by omega) (by omega) H12.out).mono ?_
  rintro e w14 ⟨rfl, hb⟩
  have A13 := Lib.hid (A12.out.then hb)
  clear hb
  go_wp2_with fail
  go_ret
  exact ⟨rfl, B0.out.trans (A13.out.bel A0.out.disk B0.out.size)⟩
end Go.Proofs.Ytpmifpblamjclaa
