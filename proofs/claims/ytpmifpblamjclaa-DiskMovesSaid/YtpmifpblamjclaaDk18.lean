
/- DiskMoves. -/

import Derived.Test.YtpmifpblamjclaaDk15

namespace Go.Proofs.Ytpmifpblamjclaa

set_option linter.unusedVariables false

set_option linter.unusedSimpArgs false

set_option linter.unusedSectionVars false

open Go.RowKit

/-- what was there ahead of the disk is not the disk's -/
theorem far_foot {N g : Nat} {w w0 : World} {m : DM} {d : DA} {A : Option Addr} {cs : List Value} (h : DiskIn N w g m d) (hN : N = w0.heap.size) (hr : Rd w0 A cs) (hne : cs ≠ []) : ∀ a, A = some a → ¬ foot g d a.block := fun a ha hf => by
  subst ha
  obtain ⟨b, o, e, _⟩ := hr.all (List.length_pos_iff.2 hne)
  cases e
  have h1 := hr.lt (List.length_pos_iff.2 hne)
  have h2 := h.foot_ge hf
  dsimp only at h2
  omega
theorem far_bytes {N g : Nat} {w w0 : World} {m : DM} {d : DA} {A : Option Addr} {bs : List UInt8} (h : DiskIn N w g m d) (hN : N = w0.heap.size) (hr : Rd w0 A (b8s bs)) : bs ≠ [] → ∀ a, A = some a → ¬ foot g d a.block := fun hne => far_foot h hN hr (fun e => hne (by
  have := congrArg List.length e
  rw [b8s_length] at this
  exact List.length_eq_zero_iff.1 this))
theorem appendM_ok {m : DM} {s bs : List UInt8} {f : Nat} (hf : findM m s = (some f, 0)) (hr : bs.length ≤ roomM m) (hs : (stepM m).2 = 0) :
    appendM m s bs = (setF (stepM m).1 f ⟨(fileM m f).b ++ bs, (fileM m f).safe⟩, 0) := by
  unfold appendM
  rw [hf]
  dsimp only
  rw [if_neg (by omega), if_pos hs]
theorem appendM_full {m : DM} {s bs : List UInt8} {f : Nat} (hf : findM m s = (some f, 0)) (hr : roomM m < bs.length) :
    appendM m s bs = (m, 51) := by
  unfold appendM
  rw [hf]
  dsimp only
  rw [if_pos hr]
def crashK (m : DM) (k : Nat) (keep : List Int) : DM :=
  cutM ((m.turns.take k).foldl doN m.sure) keep { m with down := false, fuse := 0, sure := (m.turns.take k).foldl doN m.sure, now := (m.turns.take k).foldl doN m.sure, turns := [] }
theorem crashK_eq (m : DM) (turns : Int) (keep : List Int) : crashM m turns keep = crashK m (min (max turns 0) m.turns.length).toNat keep := rfl

theorem moves_plain (a b : List UInt8) (hl : a.length + b.length ≤ 5000) : ∃ s1 s2 s3 s4 s5 s6 s7 : DM, createM (newM 1048576) [97] = (s1, 0) ∧ appendM s1 [97] a = (s2, 0) ∧ createM s2 [98] = (s3, 0) ∧ appendM s3 [98] b = (s4, 0) ∧ syncM s4 [97] = (s5, 0) ∧ flushM s5 = (s6, 0) ∧ renameM s6 [97] [98] = (s7, 0) ∧
    readM s7 [98] = (a, 0) ∧ readM s7 [97] = ([], 4) ∧ roomM s7 = 1048576 - a.length ∧
    (∀ turns keep : Int, 1 ≤ turns → readM (crashM s7 turns [keep]) [98] = (a, 0) ∧ readM (crashM s7 turns [keep]) [97] = ([], 4)) ∧
    (∀ turns keep : Int, turns < 1 → readM (crashM s7 turns [keep]) [97] = (a, 0) ∧ readM (crashM s7 turns [keep]) [98] = (b.take (min (max keep 0) (b.length : Int)).toNat, 0)) := by
  refine ⟨⟨[⟨[], 0⟩], [([97], 0)], [], [⟨[], [97], 0⟩], 1048576, 0, false⟩, ⟨[⟨a, 0⟩], [([97], 0)], [], [⟨[], [97], 0⟩], 1048576, 0, false⟩,
    ⟨[⟨a, 0⟩, ⟨[], 0⟩], [([97], 0), ([98], 1)], [], [⟨[], [97], 0⟩, ⟨[], [98], 1⟩], 1048576, 0, false⟩, ⟨[⟨a, 0⟩, ⟨b, 0⟩], [([97], 0), ([98], 1)], [], [⟨[], [97], 0⟩, ⟨[], [98], 1⟩], 1048576, 0, false⟩,
    ⟨[⟨a, a.length⟩, ⟨b, 0⟩], [([97], 0), ([98], 1)], [], [⟨[], [97], 0⟩, ⟨[], [98], 1⟩], 1048576, 0, false⟩, ⟨[⟨a, a.length⟩, ⟨b, 0⟩], [([97], 0), ([98], 1)], [([97], 0), ([98], 1)], [], 1048576, 0, false⟩,
    ⟨[⟨a, a.length⟩, ⟨b, 0⟩], [([98], 0)], [([97], 0), ([98], 1)], [⟨[97], [98], 0⟩], 1048576, 0, false⟩, rfl, ?_, rfl, ?_, rfl, rfl, rfl, rfl, rfl, rfl, ?_, ?_⟩
  · refine (appendM_ok (f := 0) rfl ?_ rfl).trans rfl
    show a.length ≤ 1048576 - 0
    omega
  · refine (appendM_ok (f := 1) rfl ?_ rfl).trans rfl
    show b.length ≤ 1048576 - (a.length + 0)
    omega
  · intro turns keep ht
    have e : (min (max turns 0) ((1 : Nat) : Int)).toNat = 1 := by omega
    rw [crashK_eq]
    show readM (crashK _ (min (max turns 0) ((1 : Nat) : Int)).toNat [keep]) _ = _ ∧ readM (crashK _ (min (max turns 0) ((1 : Nat) : Int)).toNat [keep]) _ = _
    rw [e]
    have e2 : crashK ⟨[⟨a, a.length⟩, ⟨b, 0⟩], [([98], 0)], [([97], 0), ([98], 1)], [⟨[97], [98], 0⟩], 1048576, 0, false⟩ 1 [keep] = ⟨[⟨a, a.length⟩, ⟨b, 0⟩], [([98], 0)], [([98], 0)], [], 1048576, 0, false⟩ := by
      show cutM [([98], 0)] [keep] ⟨[⟨a, a.length⟩, ⟨b, 0⟩], [([98], 0)], [([98], 0)], [], 1048576, 0, false⟩ = _
      rw [cutM]
      simp [fileM, cutM]
    rw [e2]
    exact ⟨rfl, rfl⟩
  · intro turns keep ht
    have e : (min (max turns 0) ((1 : Nat) : Int)).toNat = 0 := by omega
    rw [crashK_eq]
    show readM (crashK _ (min (max turns 0) ((1 : Nat) : Int)).toNat [keep]) _ = _ ∧ readM (crashK _ (min (max turns 0) ((1 : Nat) : Int)).toNat [keep]) _ = _
    rw [e]
    have e2 : crashK ⟨[⟨a, a.length⟩, ⟨b, 0⟩], [([98], 0)], [([97], 0), ([98], 1)], [⟨[97], [98], 0⟩], 1048576, 0, false⟩ 0 [keep] = cutM [([98], 1)] [keep] ⟨[⟨a, a.length⟩, ⟨b, 0⟩], [([97], 0), ([98], 1)], [([97], 0), ([98], 1)], [], 1048576, 0, false⟩ := by
      show cutM [([97], 0), ([98], 1)] [keep] ⟨[⟨a, a.length⟩, ⟨b, 0⟩], [([97], 0), ([98], 1)], [([97], 0), ([98], 1)], [], 1048576, 0, false⟩ = _
      conv => lhs; rw [cutM]
      simp [fileM]
    rw [e2, cutM.eq_def]
    dsimp only
    split
    · rename_i h0
      have hb : b = [] := by
        have : b.length - 0 = 0 := h0
        exact List.length_eq_zero_iff.1 (by omega)
      subst hb
      refine ⟨rfl, ?_⟩
      simp [cutM]
      rfl
    · have e3 : b.length - 0 = b.length := rfl
      refine ⟨rfl, ?_⟩
      show (b.take (0 + (min (max keep 0) ((b.length - 0 : Nat) : Int)).toNat), (0 : Int)) = _
      rw [Nat.zero_add, e3]

set_option maxRecDepth 1000000 in
set_option maxHeartbeats 8000000 in
theorem moves_any (A B : Option Addr) (a b : List UInt8) (na nb ca cb : Nat) (hna : a.length = na) (hnb : b.length = nb) (hca : na ≤ ca) (hcb : nb ≤ cb) (hla : na ≤ 140737488355328) (hlb : nb ≤ 140737488355328) (turns keep : Int) (w : World) (ra : Rd w A (b8s a)) (rb : Rd w B (b8s b)) :
    Calls Try.prog 4 #[.slice A na ca, .slice B nb cb, .int .i64 turns, .int .i64 keep] w fun e w' => e = .returned (.bool true) ∧ Below w.heap.size w w' := by
  have RA := Lib.hid ra
  have RB := Lib.hid rb
  have HNA := Lib.hid hna
  have HNB := Lib.hid hnb
  have HCA := Lib.hid hca
  have HCB := Lib.hid hcb
  have HNW := Lib.hid (new_any 1048576 (by omega) w)
  clear ra rb hca hcb
  go_enter Try.func4, Try.ntmps4
  go_wp2_with fail
  refine HNW.out.mono ?_
  rintro e w1 ⟨g, d0, rfl, hd0, hb0⟩
  have A0 := Lib.hid (Aft.refl hd0)
  have B0 := Lib.hid hb0
  have F0 := Lib.hid (fit_new 1048576 (by omega))
  clear hd0 hb0
  go_wp2_with fail
  refine (alive_any _).mono ?_
  rintro e w2 ⟨rfl, hb⟩
  have A1 := Lib.hid (A0.out.then hb)
  clear hb
  by_cases hbig : 5000 < na + nb
  · have i1 : (5000 : Int) < (na : Int) + (nb : Int) := by omega
    have hw : IntKind.i64.wrap ((na : Int) + (nb : Int)) = (na : Int) + (nb : Int) := by rw [IntKind.wrap_i64]; omega
    clear hna hnb
    go_wp2_with fail
    go_ret
    exact ⟨rfl, B0.out.trans (A1.out.bel A0.out.disk B0.out.size)⟩
  have i1 : ¬ ((5000 : Int) < (na : Int) + (nb : Int)) := by omega
  have hw : IntKind.i64.wrap ((na : Int) + (nb : Int)) = (na : Int) + (nb : Int) := by rw [IntKind.wrap_i64]; omega
  obtain ⟨s1, s2, s3, s4, s5, s6, s7, h1, h2, h3, h4, h5, h6, h7, h8, h9, h10, h11, h12⟩ := moves_plain a b (by omega)
  rw [hna] at h10
  have H1 := Lib.hid h1
  have H2 := Lib.hid h2
  have H3 := Lib.hid h3
  have H4 := Lib.hid h4
  have H5 := Lib.hid h5
  have H6 := Lib.hid h6
  have H7 := Lib.hid h7
  have H8 := Lib.hid h8
  have H9 := Lib.hid h9
  have H10 := Lib.hid h10
  have H11 := Lib.hid h11
  have H12 := Lib.hid h12
  clear h1 h2 h3 h4 h5 h6 h7 h8 h9 h10 h11 h12
  clear hna hnb
  go_wp2_with fail
  refine (create_st A1.out.disk F0.out (by omega) (by omega) (by decide) H1.out).mono ?_
  rintro e w3 ⟨rfl, d3, ha, hf⟩
  have A3 := Lib.hid (A1.out.trans ha)
  have F3 : Hid (Fit 1 0 s1) := Lib.hid hf
  clear ha hf A1 F0
  go_wp2_with fail
  refine (append_st (bs := a) A3.out.disk F3.out (by omega) (by omega) (by decide) HNA.out.symm (RA.out.below (B0.out.trans (A3.out.bel A0.out.disk B0.out.size))) (far_bytes A3.out.disk rfl RA.out) (by rw [HNA.out]; omega) H2.out).mono ?_
  rintro e w4 ⟨rfl, d4, ha, hf⟩
  have A4 := Lib.hid (A3.out.trans ha)
  have F4 : Hid (Fit 1 5000 s2) := Lib.hid (hf.mono (Nat.le_refl _) (by rw [HNA.out]; omega))
  clear ha hf A3 F3
  go_wp2_with fail
  refine (create_st A4.out.disk F4.out (by omega) (by omega) (by decide) H3.out).mono ?_
  rintro e w5 ⟨rfl, d5, ha, hf⟩
  have A5 := Lib.hid (A4.out.trans ha)
  have F5 : Hid (Fit 2 5000 s3) := Lib.hid hf
  clear ha hf A4 F4
  go_wp2_with fail
  refine (append_st (bs := b) A5.out.disk F5.out (by omega) (by omega) (by decide) HNB.out.symm (RB.out.below (B0.out.trans (A5.out.bel A0.out.disk B0.out.size))) (far_bytes A5.out.disk rfl RB.out) (by rw [HNB.out]; omega) H4.out).mono ?_
  rintro e w6 ⟨rfl, d6, ha, hf⟩
  have A6 := Lib.hid (A5.out.trans ha)
  have F6 : Hid (Fit 2 10000 s4) := Lib.hid (hf.mono (Nat.le_refl _) (by rw [HNB.out]; omega))
  clear ha hf A5 F5
  go_wp2_with fail
  refine (sync_st A6.out.disk F6.out (by omega) (by omega) (by decide) H5.out).mono ?_
  rintro e w7 ⟨rfl, d7, ha, hf⟩
  have A7 := Lib.hid (A6.out.trans ha)
  have F7 := Lib.hid hf
  clear ha hf A6 F6
  go_wp2_with fail
  refine (flush_st A7.out.disk F7.out (by omega) (by omega) H6.out).mono ?_
  rintro e w8 ⟨rfl, d8, ha, hf⟩
  have A8 := Lib.hid (A7.out.trans ha)
  have F8 := Lib.hid hf
  clear ha hf A7 F7
  go_wp2_with fail
  refine (rename_st A8.out.disk F8.out (by omega) (by omega) (by decide) (by decide) H7.out).mono ?_
  rintro e w9 ⟨rfl, d9, ha, hf⟩
  have A9 := Lib.hid (A8.out.trans ha)
  have F9 := Lib.hid hf
  clear ha hf A8 F8
  go_wp2_with fail
  refine (read_st A9.out.disk F9.out (by omega) (by omega) (by decide) H8.out).mono ?_
  rintro e w10 ⟨v, rfl, ho⟩
  obtain ⟨Ax, nx, cx, rfl, hnx, _, _, hrx, _⟩ := ho.sliceN
  have A10 := Lib.hid (A9.out.then ho.bel)
  have HX := Lib.hid hrx
  rw [HNA.out] at hnx
  clear ho hrx A9
  go_wp2_with fail
  refine (read_st A10.out.disk F9.out (by omega) (by omega) (by decide) H9.out).mono ?_
  rintro e w11 ⟨v, rfl, ho⟩
  have A11 := Lib.hid (A10.out.then ho.bel)
  replace HX := Lib.hid (HX.out.below ho.bel)
  obtain ⟨Ay, ny, cy, rfl, hny, _, _, _, _⟩ := ho.sliceN
  subst hnx
  clear ho A10
  go_wp2_with fail
  refine (same_n true Ax A a a cx ca w11 HX.out (RA.out.below (B0.out.trans (A11.out.bel A0.out.disk B0.out.size))) nx nx HNA.out.symm HNA.out.symm (by rw [HNA.out]; omega) (by rw [HNA.out]; omega) (decide_eq_true rfl)).mono ?_
  rintro e w12 ⟨rfl, hb⟩
  have A12 := Lib.hid (A11.out.then hb)
  clear hb A11
  go_wp2_with fail
  refine (room_st A12.out.disk F9.out (by omega) (by omega) H10.out).mono ?_
  rintro e w13 ⟨rfl, hb⟩
  have A13 := Lib.hid (A12.out.then hb)
  clear hb A12
  obtain ⟨r, hr⟩ : ∃ r, 1048576 - nx = r := ⟨_, rfl⟩
  have hwr : IntKind.i64.wrap (1048576 - (nx : Int)) = (r : Int) := by rw [IntKind.wrap_i64]; omega
  have z1 : ((r : Int) != (r : Int)) = false := by simp
  have L3 := Lib.hid (lit_args A13.out.disk [.int .i64 keep] 3 (0, 0))
  rw [hr]
  go_wp2_with fail
  refine (crash_st (keep := [keep]) L3.out.1.disk F9.out (by omega) (by omega) rfl (Nat.le_refl _) (by simp) L3.out.2.1 L3.out.2.2 rfl).mono ?_
  rintro e w14 ⟨rfl, d14, ha, hf⟩
  have A14 := Lib.hid ((A13.out.trans L3.out.1).trans ha)
  have F14 := Lib.hid hf
  clear ha hf A13 L3 z1 hwr hr hny
  by_cases ht : 1 ≤ turns
  · obtain ⟨k1, k2⟩ := H11.out turns keep ht
    have K1 := Lib.hid k1
    have K2 := Lib.hid k2
    clear k1 k2
    go_wp2_with fail
    refine (read_st A14.out.disk F14.out (by omega) (by omega) (by decide) K1.out).mono ?_
    rintro e w15 ⟨v, rfl, ho⟩
    obtain ⟨Az, nz, cz, rfl, hnz, _, _, hrz, _⟩ := ho.sliceN
    have A15 := Lib.hid (A14.out.then ho.bel)
    have HZ := Lib.hid hrz
    rw [HNA.out] at hnz
    clear ho hrz A14
    go_wp2_with fail
    refine (read_st A15.out.disk F14.out (by omega) (by omega) (by decide) K2.out).mono ?_
    rintro e w16 ⟨v, rfl, ho⟩
    have A16 := Lib.hid (A15.out.then ho.bel)
    replace HZ := Lib.hid (HZ.out.below ho.bel)
    obtain ⟨Ay', ny', cy', rfl, hny', _, _, _, _⟩ := ho.sliceN
    subst hnz
    clear ho A15
    go_wp2_with fail
    refine (same_n true Az A a a cz ca w16 HZ.out (RA.out.below (B0.out.trans (A16.out.bel A0.out.disk B0.out.size))) nz nz HNA.out.symm HNA.out.symm (by rw [HNA.out]; omega) (by rw [HNA.out]; omega) (decide_eq_true rfl)).mono ?_
    rintro e w17 ⟨rfl, hb⟩
    have A17 := Lib.hid (A16.out.then hb)
    clear hb
    go_wp2_with fail
    go_ret
    exact ⟨rfl, B0.out.trans (A17.out.bel A0.out.disk B0.out.size)⟩
  · have ht' : ¬ ((1 : Int) ≤ turns) := ht
    obtain ⟨k1, k2⟩ := H12.out turns keep (by omega)
    obtain ⟨k, hk⟩ : ∃ k, (min (max keep 0) (b.length : Int)).toNat = k := ⟨_, rfl⟩
    rw [hk] at k2
    rw [HNB.out] at hk
    have K1 := Lib.hid k1
    have K2 := Lib.hid k2
    have hmx := fun (w : World) => run_max2c (P := Try.prog) w #[3, 3] 3 .i64 .i64 keep 0
    have hmn : ∀ w : World, (Builtin.min_ #[3, 3] 3 #[.int .i64 (max keep 0), .int .i64 (nb : Int)]).run Try.prog w = .ok (.int .i64 (k : Int)) w := fun w => by rw [run_min2c]; exact congrArg (fun x => Result.ok (Value.int .i64 x) w) (by omega)
    have hkn : k ≤ nb := by omega
    have hkc : (k : Int) ≤ (cb : Int) := by have := HCB.out; omega
    clear k1 k2 hk
    go_wp2_with fail
    refine (read_st A14.out.disk F14.out (by omega) (by omega) (by decide) K2.out).mono ?_
    rintro e w15 ⟨v, rfl, ho⟩
    obtain ⟨Az, nz, cz, rfl, hnz, _, _, hrz, _⟩ := ho.sliceN
    have A15 := Lib.hid (A14.out.then ho.bel)
    have HZ := Lib.hid hrz
    have HNZ : Hid (nz = k) := Lib.hid (by rw [hnz, List.length_take, HNB.out]; omega)
    clear ho hrz A14 hnz
    go_wp2_with fail
    refine (read_st A15.out.disk F14.out (by omega) (by omega) (by decide) K1.out).mono ?_
    rintro e w16 ⟨v, rfl, ho⟩
    obtain ⟨Ay', ny', cy', rfl, hny', _, _, hry, _⟩ := ho.sliceN
    have A16 := Lib.hid (A15.out.then ho.bel)
    have HY := Lib.hid hry
    replace HZ := Lib.hid (HZ.out.below ho.bel)
    rw [HNA.out] at hny'
    obtain rfl : nx = ny' := hny'.symm
    clear ho hry A15
    go_wp2_with fail
    refine (same_n true Ay' A a a cy' ca w16 HY.out (RA.out.below (B0.out.trans (A16.out.bel A0.out.disk B0.out.size))) nx nx HNA.out.symm HNA.out.symm (by rw [HNA.out]; omega) (by rw [HNA.out]; omega) (decide_eq_true rfl)).mono ?_
    rintro e w17 ⟨rfl, hb⟩
    have A17 := Lib.hid (A16.out.then hb)
    replace HZ := Lib.hid (HZ.out.below hb)
    clear hb
    go_wp2_with fail
    have hbk : (b.take k).length = k := by rw [List.length_take, HNB.out]; omega
    have HRB : Hid (Rd w17 B (b8s (b.take k))) := Lib.hid (by rw [b8s_take]; exact (RB.out.below (B0.out.trans (A17.out.bel A0.out.disk B0.out.size))).take k)
    obtain rfl : k = nz := HNZ.out.symm
    refine (same_n true Az B (b.take k) (b.take k) cz cb w17 HZ.out HRB.out k k hbk.symm hbk.symm (by rw [hbk]; omega) (by rw [hbk]; omega) (decide_eq_true rfl)).mono ?_
    rintro e w18 ⟨rfl, hb⟩
    have A18 := Lib.hid (A17.out.then hb)
    clear hb
    go_wp2_with fail
    go_ret
    exact ⟨rfl, B0.out.trans (A18.out.bel A0.out.disk B0.out.size)⟩
end Go.Proofs.Ytpmifpblamjclaa
