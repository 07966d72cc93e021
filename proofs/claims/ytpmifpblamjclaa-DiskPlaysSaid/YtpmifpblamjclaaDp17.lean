
/- The document's disk: Crash, whole. (Printed by wip/genDp17.py.) -/

import Derived.Test.YtpmifpblamjclaaDp16

namespace Go.Proofs.Ytpmifpblamjclaa

set_option linter.unusedVariables false

set_option linter.unusedSimpArgs false

set_option linter.unusedSectionVars false

open Go.RowKit

set_option maxRecDepth 100000 in
set_option maxHeartbeats 16000000 in
theorem rcrash_any {K L : Nat} {F : Nat → Prop} (R : RA) (m : DM) (turns : Int) (Ak : Option Addr) (keep : List Int) (kl kc : Nat) (w : World) (h : RIn F w R m) (hF : ∀ b, F b → b < w.heap.size) (hf : Fit K L m) (hK : K ≤ 998) (hL : L ≤ 999999) (hkl : keep.length = kl) (hklm : kl ≤ 9223372036854775807) (hk : Rd w Ak (keep.map (Value.int .i64))) (hne : ∀ p ∈ m.sure, p.1 ≠ [])
    (mm : DM) (hmm : crashM m turns keep = mm) :
    Calls Try.prog 26 #[R.val m, .int .i64 turns, .slice Ak kl kc] w fun e w' => ∃ R' : RA, e = .returned (R'.val mm) ∧ RIn F w' R' mm ∧ Below w.heap.size w w' := by
  have HMM := Lib.hid hmm
  have HNE := Lib.hid hne
  have HKK := Lib.hid hk
  have HKL := Lib.hid hkl
  clear hmm hne hk hkl
  have H := Lib.hid h
  have HF := Lib.hid hf
  have HFW := Lib.hid hF
  have hflk := hf.files
  have hnwk := hf.now
  have hstk := hf.st
  have hfuk := hf.fuse
  have hlk : ∀ i, (fileM m i).b.length ≤ L ∧ (fileM m i).safe ≤ (fileM m i).b.length := fun i => hf.fileM i
  have HLK := Lib.hid hlk
  clear hlk
  obtain ⟨nf, hnf⟩ : ∃ n, m.files.length = n := ⟨_, rfl⟩
  obtain ⟨n, hn⟩ : ∃ n, m.now.length = n := ⟨_, rfl⟩
  have hnk : n ≤ 998 := by omega
  have hnfk : nf ≤ 998 := by omega
  obtain ⟨na, hna⟩ : ∃ n, R.na = n := ⟨_, rfl⟩
  obtain ⟨fa, hfa⟩ : ∃ n, R.fa = n := ⟨_, rfl⟩
  obtain ⟨fc, hfc⟩ : ∃ n, R.fc = n := ⟨_, rfl⟩
  obtain ⟨nc, hnc⟩ : ∃ n, R.nc = n := ⟨_, rfl⟩
  obtain ⟨sa, hsa⟩ : ∃ n, R.sa = n := ⟨_, rfl⟩
  obtain ⟨sc, hsc⟩ : ∃ n, R.sc = n := ⟨_, rfl⟩
  obtain ⟨ta, hta⟩ : ∃ n, R.ta = n := ⟨_, rfl⟩
  obtain ⟨tc, htc⟩ : ∃ n, R.tc = n := ⟨_, rfl⟩
  obtain ⟨ns, hns⟩ : ∃ n, m.sure.length = n := ⟨_, rfl⟩
  obtain ⟨nt, hnt⟩ : ∃ n, m.turns.length = n := ⟨_, rfl⟩
  have hntk : nt ≤ 998 := by omega
  obtain ⟨mo, hmo⟩ : ∃ n, m.most = n := ⟨_, rfl⟩
  obtain ⟨fu, hfu⟩ : ∃ n, m.fuse = n := ⟨_, rfl⟩
  obtain ⟨dn, hdn⟩ : ∃ n, m.down = n := ⟨_, rfl⟩
  have HEQ : Hid (m.files.length = nf ∧ m.now.length = n ∧ R.na = na ∧ R.fa = fa ∧ R.fc = fc ∧ R.nc = nc ∧ R.sa = sa ∧ R.sc = sc ∧ R.ta = ta ∧ R.tc = tc ∧ m.sure.length = ns ∧ m.turns.length = nt ∧ m.most = mo) := Lib.hid ⟨hnf, hn, hna, hfa, hfc, hnc, hsa, hsc, hta, htc, hns, hnt, hmo⟩
  have HVAL : Hid (R.val m = .agg #[.slice fa nf fc, .slice na n nc, .slice sa ns sc, .slice ta nt tc, .int .i64 (mo : Int), .int .i64 (fu : Int), .bool dn]) := Lib.hid (by
    unfold RA.val RA.row
    rw [hn, hnf, hfa, hna, hsa, hta, hfc, hnc, hsc, htc, hns, hnt, hmo, hfu, hdn]
    try first | rfl | simp)
  have HN := Lib.hid hn
  have HNF := Lib.hid hnf
  have HFU := Lib.hid hfu
  have HDN := Lib.hid hdn
  rw [HVAL.out]
  obtain ⟨g, hg⟩ : ∃ g, w.heap.size = g := ⟨_, rfl⟩
  have HGW := Lib.hid hg
  obtain ⟨W1, hW1⟩ : ∃ W, w.alloc (.cells #[.slice fa nf fc, .slice na n nc, .slice sa ns sc, .slice ta nt tc, .int .i64 (mo : Int), .int .i64 (fu : Int), .bool dn] 50) = W := ⟨_, rfl⟩
  obtain ⟨r1, b1, s1⟩ := new_row hW1
  obtain ⟨W2, hW2⟩ : ∃ W, W1.alloc (.cells #[.slice none 0 0, .slice none 0 0, .slice none 0 0, .slice none 0 0, .int .i64 0, .int .i64 0, .bool false] 50) = W := ⟨_, rfl⟩
  obtain ⟨r2, b2, s2⟩ := new_row hW2
  obtain ⟨g3, hg3⟩ : ∃ g, W1.heap.size = g := ⟨_, rfl⟩
  have hl2 : g < g3 := by omega
  replace r1 := (b2.block _ (by omega)).trans r1
  rw [hg] at r1
  rw [hg3] at r2
  have R2g := Lib.hid r1
  have R2z := Lib.hid r2
  have B2 : Hid (Below w.heap.size w W2) := Lib.hid (b1.trans (b2.mono b1.size))
  obtain ⟨k, hk⟩ : ∃ k : Nat, (min (max turns 0) (m.turns.length : Int)).toNat = k := ⟨_, rfl⟩
  have HKN := Lib.hid hk
  have hknt : k ≤ nt := by omega
  have hst98 : ns + nt ≤ 998 := by omega
  have hkz : min (max turns 0) (nt : Int) = (k : Int) := by omega
  clear h hf hF hn hnf hna hfa hfc hnc hsa hsc hta htc hns hnt hmo hfu hdn b1 s1 b2 s2 hflk hnwk hfuk hk
  have c2g6 : W2.cell? ⟨g, 6, none⟩ = some (.bool dn) := row_cell R2g.out 6
  have f2g6 : W2.frozen? ⟨g, 6, none⟩ = false := row_free R2g.out 6
  obtain ⟨W3, hW3⟩ : ∃ W, W2.setCell ⟨g, 6, none⟩ (.bool false) = W := ⟨_, rfl⟩
  have G3 : Hid (W2.grownBy W3 (some g)) := Lib.hid (by rw [← hW3]; exact grown_set g 6 _)
  have R3g : Hid (W3.heap[g]? = some (.cells #[.slice fa nf fc, .slice na n nc, .slice sa ns sc, .slice ta nt tc, .int .i64 (mo : Int), .int .i64 (fu : Int), .bool false] 50 (0, 0))) := Lib.hid (by have h9 := row_set R2g.out 6 (.bool false); rw [hW3] at h9; simpa using h9)
  have R3z : Hid (W3.heap[g3]? = some (.cells #[.slice none 0 0, .slice none 0 0, .slice none 0 0, .slice none 0 0, .int .i64 0, .int .i64 0, .bool false] 50 (0, 0))) := Lib.hid (row_other R2z.out G3.out (by omega) (Array.getElem?_eq_some_iff.1 R2z.out).1)
  have B3 : Hid (Below w.heap.size w W3) := Lib.hid (bel_grown B2.out B2.out.size G3.out (by have := HGW.out; omega))
  have c3g5 : W3.cell? ⟨g, 5, none⟩ = some (.int .i64 (fu : Int)) := row_cell R3g.out 5
  have f3g5 : W3.frozen? ⟨g, 5, none⟩ = false := row_free R3g.out 5
  obtain ⟨W4, hW4⟩ : ∃ W, W3.setCell ⟨g, 5, none⟩ (.int .i64 0) = W := ⟨_, rfl⟩
  have G4 : Hid (W3.grownBy W4 (some g)) := Lib.hid (by rw [← hW4]; exact grown_set g 5 _)
  have R4g : Hid (W4.heap[g]? = some (.cells #[.slice fa nf fc, .slice na n nc, .slice sa ns sc, .slice ta nt tc, .int .i64 (mo : Int), .int .i64 0, .bool false] 50 (0, 0))) := Lib.hid (by have h9 := row_set R3g.out 5 (.int .i64 0); rw [hW4] at h9; simpa using h9)
  have R4z : Hid (W4.heap[g3]? = some (.cells #[.slice none 0 0, .slice none 0 0, .slice none 0 0, .slice none 0 0, .int .i64 0, .int .i64 0, .bool false] 50 (0, 0))) := Lib.hid (row_other R3z.out G4.out (by omega) (Array.getElem?_eq_some_iff.1 R3z.out).1)
  have B4 : Hid (Below w.heap.size w W4) := Lib.hid (bel_grown B3.out B3.out.size G4.out (by have := HGW.out; omega))
  have c4g3 : W4.cell? ⟨g, 3, none⟩ = some (.slice ta nt tc) := row_cell R4g.out 3
  have HBT := Lib.hid (between_any turns 0 (nt : Int) W4 (by omega))
  rw [hkz] at HBT
  clear hkz
  go_enter Try.func26, Try.ntmps26
  go_wp2_with fail
  try rw [hg, hg3]
  clear hg hg3 hW1 hW2 hW3 hW4 r1 r2
  refine HBT.out.mono ?_
  rintro e w5 ⟨rfl, rfl⟩
  have HFPX : Hid (∀ w' : World, w5.heap.size ≤ w'.heap.size → ∀ b, sF F g g3 g3 g3 b → b < w'.heap.size) := Lib.hid (fun w' hw' b hb => by
    have h1 := B4.out.size
    have h2 := (Array.getElem?_eq_some_iff.1 R4g.out).1
    have h3 := (Array.getElem?_eq_some_iff.1 R4z.out).1
    rcases hb with h | h | h | h | h
    · have := HFW.out b h; omega
    all_goals omega)
  have HW4 : Hid (RIn (sF F g g3 g3 g3) w5 R m) := Lib.hid ((H.out.wide (G := sF F g g3 g3 g3) (by rintro b (h | h | h | h | h); exact .inl h; all_goals (right; have h1 := HGW.out; omega))).below B4.out)
  go_upto_block 0 with (fail)
  refine rc_turns g k nt tc ta (.slice fa nf fc) (.slice na n nc) (.int .i64 (mo : Int)) (.int .i64 0) (.bool false) m.turns m.sure sa ns sc w w5 (sF F g g3 g3 g3) R4g.out (by have := HGW.out; omega) B4.out ⟨HEQ.out.2.2.2.2.2.2.2.2.2.2.1, by omega⟩ HEQ.out.2.2.2.2.2.2.2.2.2.2.2.1 hknt HNE.out (fun W hb => by have := (H.out.below hb).rt.1; rw [HEQ.out.2.2.2.2.2.2.2.2.1] at this; exact this) ⟨.inr (.inl rfl), HFPX.out _ (Nat.le_refl _)⟩ (by have := HW4.out.rs; rw [HEQ.out.2.2.2.2.2.2.1] at this; exact this) _ ?_
  intros
  rename_i A8 n8 c8 w8 ho8
  obtain ⟨hg8, hb8, hf8, hr8, hn8⟩ := ho8
  obtain ⟨sm, hsm⟩ : ∃ sm, (m.turns.take k).foldl doN m.sure = sm := ⟨_, rfl⟩
  rw [hsm] at hr8 hn8
  have HSM := Lib.hid hsm
  have R8g := Lib.hid hg8
  have B8 := Lib.hid hb8
  have F8 := Lib.hid hf8
  have RS8 := Lib.hid hr8
  have HN8 := Lib.hid hn8
  have R8z : Hid (w8.heap[g3]? = some (.cells #[.slice none 0 0, .slice none 0 0, .slice none 0 0, .slice none 0 0, .int .i64 0, .int .i64 0, .bool false] 50 (0, 0))) := Lib.hid ((hf8.block _ (Array.getElem?_eq_some_iff.1 R4z.out).1 (fun e => by have : g3 = g := e; omega)).trans R4z.out)
  have hnn8 : n8 ≤ 998 := by
    have h1 := foldN_len (m.turns.take k) m.sure
    rw [hsm, List.length_take] at h1
    have h2 := HEQ.out.2.2.2.2.2.2.2.2.2.2.1
    have h3 := HEQ.out.2.2.2.2.2.2.2.2.2.2.2.1
    omega
  have HC0 : Hid (crash0 m turns = { m with down := false, fuse := 0, sure := sm, now := sm, turns := [] }) := Lib.hid (by unfold crash0; rw [HKN.out, hsm])
  clear hg8 hb8 hf8 hr8 hn8 hsm
  have c8g2 : w8.cell? ⟨g, 2, none⟩ = some (.slice A8 n8 c8) := row_cell R8g.out 2
  have c8g1 : w8.cell? ⟨g, 1, none⟩ = some (.slice na n nc) := row_cell R8g.out 1
  have f8g1 : w8.frozen? ⟨g, 1, none⟩ = false := row_free R8g.out 1
  obtain ⟨W9, hW9⟩ : ∃ W, w8.setCell ⟨g, 1, none⟩ (.slice A8 n8 c8) = W := ⟨_, rfl⟩
  have G9 : Hid (w8.grownBy W9 (some g)) := Lib.hid (by rw [← hW9]; exact grown_set g 1 _)
  have R9g : Hid (W9.heap[g]? = some (.cells #[.slice fa nf fc, .slice A8 n8 c8, .slice A8 n8 c8, .slice ta nt tc, .int .i64 (mo : Int), .int .i64 0, .bool false] 50 (0, 0))) := Lib.hid (by have h9 := row_set R8g.out 1 (.slice A8 n8 c8); rw [hW9] at h9; simpa using h9)
  have R9z : Hid (W9.heap[g3]? = some (.cells #[.slice none 0 0, .slice none 0 0, .slice none 0 0, .slice none 0 0, .int .i64 0, .int .i64 0, .bool false] 50 (0, 0))) := Lib.hid (row_other R8z.out G9.out (by omega) (Array.getElem?_eq_some_iff.1 R8z.out).1)
  have B9 : Hid (Below w.heap.size w W9) := Lib.hid (bel_grown B8.out B8.out.size G9.out (by have := HGW.out; omega))
  obtain ⟨x10, hx10⟩ : ∃ x, W9.heap.size = x := ⟨_, rfl⟩
  obtain ⟨W10, hW10⟩ : ∃ W, W9.alloc (.cells #[] 90) = W := ⟨_, rfl⟩
  obtain ⟨r10, b10, s10⟩ := new_row hW10
  have R10g : Hid (W10.heap[g]? = some (.cells #[.slice fa nf fc, .slice A8 n8 c8, .slice A8 n8 c8, .slice ta nt tc, .int .i64 (mo : Int), .int .i64 0, .bool false] 50 (0, 0))) := Lib.hid ((b10.block _ (Array.getElem?_eq_some_iff.1 R9g.out).1).trans R9g.out)
  have R10z : Hid (W10.heap[g3]? = some (.cells #[.slice none 0 0, .slice none 0 0, .slice none 0 0, .slice none 0 0, .int .i64 0, .int .i64 0, .bool false] 50 (0, 0))) := Lib.hid ((b10.block _ (Array.getElem?_eq_some_iff.1 R9z.out).1).trans R9z.out)
  have B10 : Hid (Below w.heap.size w W10) := Lib.hid (B9.out.trans (b10.mono B9.out.size))
  have c10g3 : W10.cell? ⟨g, 3, none⟩ = some (.slice ta nt tc) := row_cell R10g.out 3
  have f10g3 : W10.frozen? ⟨g, 3, none⟩ = false := row_free R10g.out 3
  obtain ⟨W11, hW11⟩ : ∃ W, W10.setCell ⟨g, 3, none⟩ (.slice (some ⟨x10, 0, none⟩) 0 0) = W := ⟨_, rfl⟩
  have G11 : Hid (W10.grownBy W11 (some g)) := Lib.hid (by rw [← hW11]; exact grown_set g 3 _)
  have R11g : Hid (W11.heap[g]? = some (.cells #[.slice fa nf fc, .slice A8 n8 c8, .slice A8 n8 c8, .slice (some ⟨x10, 0, none⟩) 0 0, .int .i64 (mo : Int), .int .i64 0, .bool false] 50 (0, 0))) := Lib.hid (by have h9 := row_set R10g.out 3 (.slice (some ⟨x10, 0, none⟩) 0 0); rw [hW11] at h9; simpa using h9)
  have R11z : Hid (W11.heap[g3]? = some (.cells #[.slice none 0 0, .slice none 0 0, .slice none 0 0, .slice none 0 0, .int .i64 0, .int .i64 0, .bool false] 50 (0, 0))) := Lib.hid (row_other R10z.out G11.out (by omega) (Array.getElem?_eq_some_iff.1 R10z.out).1)
  have B11 : Hid (Below w.heap.size w W11) := Lib.hid (bel_grown B10.out B10.out.size G11.out (by have := HGW.out; omega))
  have X11 : Hid (Frm (sF F g g3 g3 g3) w8 W11) := Lib.hid (((grown_frm (F := sF F g g3 g3 g3) G9.out (.inr (.inl rfl))).trans (Frm.of_below (F := sF F g g3 g3 g3) b10) (fun i hi => .inl hi)).trans (grown_frm (F := sF F g g3 g3 g3) G11.out (.inr (.inl rfl))) (fun i hi => .inl hi))
  obtain ⟨R2, hR2⟩ : ∃ R2 : RA, R2 = { R with na := A8, nc := c8, sa := A8, sc := c8, ta := some ⟨x10, 0, none⟩, tc := 0 } := ⟨_, rfl⟩
  obtain ⟨m2, hm2⟩ : ∃ m2, crash0 m turns = m2 := ⟨_, rfl⟩
  have HM2 : Hid (m2 = { m with down := false, fuse := 0, sure := sm, now := sm, turns := [] }) := Lib.hid (by rw [← hm2]; exact HC0.out)
  have HI11 : Hid (RIn (sF F g g3 g3 g3) W11 R2 m2) := Lib.hid (by
    have h1 := (HW4.out.frm (F8.out) (by intro b hb; rw [hb]; exact .inr (.inl rfl))).frm X11.out (fun b hb => hb)
    have h2 := RS8.out.frm X11.out (fun b hb => hb)
    rw [HM2.out, hR2]
    exact ⟨h1.fm, h1.rf, h1.rb, h2, h2, RdF.nil⟩)
  have HFT : Hid (Fit K L m2) := Lib.hid (by rw [← hm2]; exact HF.out.crash0 turns)
  have HR2 : Hid (R2.na = A8 ∧ R2.fa = fa ∧ R2.fc = fc ∧ m2.files.length = nf ∧ m2.now.length = n8 ∧ m2.now = sm) := Lib.hid (by
    rw [hR2, HM2.out]
    exact ⟨rfl, HEQ.out.2.2.2.1, HEQ.out.2.2.2.2.1, HEQ.out.1, HN8.out.symm, rfl⟩)
  have HCS : Hid (CutSt (sF F g g3 g3 g3) K L g R2 m2 keep (.slice A8 n8 c8) (.slice (some ⟨x10, 0, none⟩) 0 0) (.int .i64 (mo : Int)) (.int .i64 0) (.bool false) nf n8 c8 A8 w W11 W11 0 0 R2.fs R2.fa R2.fc m2.files) := Lib.hid (by
    refine ⟨by rw [HR2.out.2.1, HR2.out.2.2.1]; exact R11g.out, B11.out, Frm.refl _ _, HI11.out, HFT.out, ?_⟩
    exact ⟨rfl, rfl, fun f hf => by have h1 := HFT.out.len f hf; exact ⟨by omega, h1.2⟩, rfl⟩)
  have HKX : Hid (∀ W, Below w.heap.size w W → Rd W Ak (keep.map (Value.int .i64))) := Lib.hid (fun W hb => HKK.out.below hb)
  have HR2E := Lib.hid hR2
  clear hR2 hm2
  go_upto_block 2 with (fail)
  refine rc_cut K L g nf n8 c8 kl kc A8 Ak _ _ _ _ _ R2 m2 keep w W11 (sF F g g3 g3 g3) HCS.out (by have := HGW.out; omega) ⟨.inr (.inl rfl), HFPX.out _ (by have h1 := F8.out.size; have h2 := X11.out.size; omega)⟩ HR2.out.1 ⟨HR2.out.2.2.2.2.1, hnn8⟩ ⟨HR2.out.2.2.2.1, hnfk⟩ hL HKL.out hklm HKX.out _ ?_
  intros
  rename_i fs12 fa12 fc12 a12 fl12 w12 ho12
  have R12g := Lib.hid ho12.row
  have B12 := Lib.hid ho12.bel
  have R12z : Hid (w12.heap[g3]? = some (.cells #[.slice none 0 0, .slice none 0 0, .slice none 0 0, .slice none 0 0, .int .i64 0, .int .i64 0, .bool false] 50 (0, 0))) := Lib.hid ((ho12.frm.block _ (Array.getElem?_eq_some_iff.1 R11z.out).1 (fun e => by have : g3 = g := e; omega)).trans R11z.out)
  have HI12 := Lib.hid ho12.rin
  have HD12 : Hid ({ m2 with files := fl12 } = mm) := Lib.hid (by
    have h1 := ho12.cut.done HR2.out.2.2.2.2.1.symm
    rw [h1, ← HMM.out, crashM_eq]
    have h2 : crash0 m turns = m2 := by rw [HM2.out]; exact HC0.out
    rw [h2])
  have HL12 : Hid (fl12.length = nf) := Lib.hid (ho12.cut.fl.trans HR2.out.2.2.2.1)
  clear ho12
  obtain ⟨W13, hW13, T13, R13z, G13⟩ := put_row (new := [.slice fa12 nf fc12, .slice A8 n8 c8, .slice A8 n8 c8, .slice (some ⟨x10, 0, none⟩) 0 0, .int .i64 (mo : Int), .int .i64 0, .bool false]) R12z.out rfl
  have HW13 := Lib.hid hW13
  clear hW13
  have R13g : Hid (W13.heap[g]? = some (.cells #[.slice fa12 nf fc12, .slice A8 n8 c8, .slice A8 n8 c8, .slice (some ⟨x10, 0, none⟩) 0 0, .int .i64 (mo : Int), .int .i64 0, .bool false] 50 (0, 0))) := Lib.hid (row_other R12g.out G13.out (by omega) (Array.getElem?_eq_some_iff.1 R12g.out).1)
  have B13 : Hid (Below w.heap.size w W13) := Lib.hid (bel_grown B12.out B12.out.size G13.out (by have := HGW.out; omega))
  obtain ⟨R9, hR9⟩ : ∃ x : RA, x = { R2 with fs := fs12, fa := fa12, fc := fc12 } := ⟨_, rfl⟩
  have HRI : Hid (RIn F W13 R9 mm) := Lib.hid (by
    rw [hR9, ← HD12.out]
    exact (HI12.out.frm (grown_frm (F := sF F g g3 g3 g3) G13.out (.inr (.inr (.inl rfl)))) (fun b hb => hb)).narrow (fun b hb => .inl hb))
  have HRV : Hid (R2 = { R with na := A8, nc := c8, sa := A8, sc := c8, ta := some ⟨x10, 0, none⟩, tc := 0 }) := HR2E
  have HV : Hid (R9.val mm = .agg #[.slice fa12 nf fc12, .slice A8 n8 c8, .slice A8 n8 c8, .slice (some ⟨x10, 0, none⟩) 0 0, .int .i64 (mo : Int), .int .i64 0, .bool false]) := Lib.hid (by
    obtain ⟨e1, e2, e3, e4, e5, e6, e7, e8, e9, e10, e11, e12, e13⟩ := HEQ.out
    have e14 := HN8.out
    rw [hR9, ← HD12.out, HM2.out, HRV.out]
    simp only [RA.val, RA.row, List.length_nil, HL12.out, e13, ← e14]
    try rfl)
  go_wp2_with (first
    | (refine wpList_load_row rfl _ _ rfl _ rfl _ _ _ _ R12g.out Try.underlying50 rfl info_dk7 ?_)
    | ((with_reducible (refine wpList_store_mid rfl _ _ _ rfl ?_ ?_ ?_ ?_ ?_ ?_ ?_ ?_ ?_)); (exact g3); (exact 0); (exact ([.slice fa12 nf fc12, .slice A8 n8 c8, .slice A8 n8 c8, .slice (some ⟨x10, 0, none⟩) 0 0, .int .i64 (mo : Int), .int .i64 0, .bool false]).toArray); (exact rfl); (exact rfl); (exact T13.out); (exact info_dk7); (exact cells7); rw [HW13.out]))
  refine bodyPost_ret (results_row1 rfl _ _ _ _ _ _ _ rfl R13z.out Try.underlying50 rfl info_dk7) rfl ⟨R9, by rw [HV.out], HRI.out, B13.out⟩
end Go.Proofs.Ytpmifpblamjclaa
