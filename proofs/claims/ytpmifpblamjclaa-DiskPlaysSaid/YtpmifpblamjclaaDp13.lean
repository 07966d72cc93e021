
/- The document's disk: Do: Create. (Printed by wip/genDp8.py.) -/

import Derived.Test.YtpmifpblamjclaaDp8

namespace Go.Proofs.Ytpmifpblamjclaa

set_option linter.unusedVariables false

set_option linter.unusedSimpArgs false

set_option linter.unusedSectionVars false

open Go.RowKit

section

variable {K L : Nat} {F : Nat → Prop} (R : RA) (m : DM) (S Z : ByteArray) (Ab : Option Addr) (nb cb : Nat) (bs : List UInt8) (w : World) (h : RIn F w R m) (hF : ∀ b, F b → b < w.heap.size) (hf : Fit K L m) (hK : K ≤ 998) (hL : L ≤ 999999) (hnb : nb = bs.length ∧ nb ≤ 1000000) (hbs : Rd w Ab (b8s bs))
include h hF hf hK hL hnb hbs
set_option maxRecDepth 100000 in
set_option maxHeartbeats 16000000 in
theorem rdo1n (he : wrongM m 1 S.data.toList Z.data.toList nb = 0) (hdn : m.down = false) (hfu : m.fuse = 0) (hfi : findN m.now S.data.toList = none) (hne : ∀ p ∈ m.now, p.1 ≠ []) :
    Calls Try.prog 25 #[R.val m, .agg #[.int .i64 1, .string S, .string Z, .slice Ab nb cb]] w fun e w' => ∃ R' : RA, e = .returned (.tuple #[R'.val ({ m with fuse := 0, files := m.files ++ [(⟨[], 0⟩ : FM)], now := doN m.now ⟨[], S.data.toList, m.files.length⟩, turns := m.turns ++ [(⟨[], S.data.toList, m.files.length⟩ : TM)] }), .int .i64 0]) ∧ RIn F w' R' ({ m with fuse := 0, files := m.files ++ [(⟨[], 0⟩ : FM)], now := doN m.now ⟨[], S.data.toList, m.files.length⟩, turns := m.turns ++ [(⟨[], S.data.toList, m.files.length⟩ : TM)] }) ∧ Below w.heap.size w w' := by
  obtain ⟨mm, hmm⟩ : ∃ y, { m with fuse := 0, files := m.files ++ [(⟨[], 0⟩ : FM)], now := doN m.now ⟨[], S.data.toList, m.files.length⟩, turns := m.turns ++ [(⟨[], S.data.toList, m.files.length⟩ : TM)] } = y := ⟨_, rfl⟩
  rw [hmm]
  have HMM := Lib.hid hmm
  clear hmm
  have HFI := Lib.hid hfi
  clear hfi
  have HNE := Lib.hid hne
  clear hne
  have H := Lib.hid h
  have HF := Lib.hid hf
  have HFW := Lib.hid hF
  have HBS := Lib.hid hbs
  have HNB := Lib.hid hnb
  have hnb' := hnb.2
  have hflk := hf.files
  have hnwk := hf.now
  have hstk := hf.st
  have hfuk := hf.fuse
  have hlk : ∀ i, (fileM m i).b.length ≤ L ∧ (fileM m i).safe ≤ (fileM m i).b.length := fun i => hf.fileM i
  have HLK := Lib.hid hlk
  clear hlk
  obtain ⟨nf, hnf⟩ : ∃ n, m.files.length = n := ⟨_, rfl⟩
  obtain ⟨n, hn⟩ : ∃ n, m.now.length = n := ⟨_, rfl⟩
  have hnk : n ≤ 998 := by omega
  have hnfk : nf ≤ 998 := by omega
  obtain ⟨na, hna⟩ : ∃ n, R.na = n := ⟨_, rfl⟩
  obtain ⟨fa, hfa⟩ : ∃ n, R.fa = n := ⟨_, rfl⟩
  obtain ⟨fc, hfc⟩ : ∃ n, R.fc = n := ⟨_, rfl⟩
  obtain ⟨nc, hnc⟩ : ∃ n, R.nc = n := ⟨_, rfl⟩
  obtain ⟨sa, hsa⟩ : ∃ n, R.sa = n := ⟨_, rfl⟩
  obtain ⟨sc, hsc⟩ : ∃ n, R.sc = n := ⟨_, rfl⟩
  obtain ⟨ta, hta⟩ : ∃ n, R.ta = n := ⟨_, rfl⟩
  obtain ⟨tc, htc⟩ : ∃ n, R.tc = n := ⟨_, rfl⟩
  obtain ⟨ns, hns⟩ : ∃ n, m.sure.length = n := ⟨_, rfl⟩
  obtain ⟨nt, hnt⟩ : ∃ n, m.turns.length = n := ⟨_, rfl⟩
  have hntk : nt ≤ 998 := by omega
  obtain ⟨mo, hmo⟩ : ∃ n, m.most = n := ⟨_, rfl⟩

  have HEQ : Hid (m.files.length = nf ∧ m.now.length = n ∧ R.na = na ∧ R.fa = fa ∧ R.fc = fc ∧ R.nc = nc ∧ R.sa = sa ∧ R.sc = sc ∧ R.ta = ta ∧ R.tc = tc ∧ m.sure.length = ns ∧ m.turns.length = nt ∧ m.most = mo) := Lib.hid ⟨hnf, hn, hna, hfa, hfc, hnc, hsa, hsc, hta, htc, hns, hnt, hmo⟩
  have HVAL : Hid (R.val m = .agg #[.slice fa nf fc, .slice na n nc, .slice sa ns sc, .slice ta nt tc, .int .i64 (mo : Int), .int .i64 0, .bool false]) := Lib.hid (by
    unfold RA.val RA.row
    rw [hn, hnf, hfa, hna, hsa, hta, hfc, hnc, hsc, htc, hns, hnt, hmo, hfu, hdn]
    try first | rfl | simp)
  have HN := Lib.hid hn
  have HNF := Lib.hid hnf
  have HFU := Lib.hid hfu
  have HDN := Lib.hid hdn
  rw [HVAL.out]
  obtain ⟨g, hg⟩ : ∃ g, w.heap.size = g := ⟨_, rfl⟩
  have HGW := Lib.hid hg
  obtain ⟨W1, hW1⟩ : ∃ W, w.alloc (.cells #[.slice fa nf fc, .slice na n nc, .slice sa ns sc, .slice ta nt tc, .int .i64 (mo : Int), .int .i64 0, .bool false] 50) = W := ⟨_, rfl⟩
  obtain ⟨r1, b1, s1⟩ := new_row hW1
  obtain ⟨W2, hW2⟩ : ∃ W, W1.alloc (.cells #[.int .i64 1, .string S, .string Z, .slice Ab nb cb] 58) = W := ⟨_, rfl⟩
  obtain ⟨r2, b2, s2⟩ := new_row hW2
  obtain ⟨W3, hW3⟩ : ∃ W, W2.alloc (.cells #[.slice none 0 0, .slice none 0 0, .slice none 0 0, .slice none 0 0, .int .i64 0, .int .i64 0, .bool false] 50) = W := ⟨_, rfl⟩
  obtain ⟨r3, b3, s3⟩ := new_row hW3
  obtain ⟨g2, hg2⟩ : ∃ g, W1.heap.size = g := ⟨_, rfl⟩
  obtain ⟨g3, hg3⟩ : ∃ g, W2.heap.size = g := ⟨_, rfl⟩
  have hl1 : g < g2 := by omega
  have hl2 : g2 < g3 := by omega
  replace r1 := (b3.block _ (by omega)).trans ((b2.block _ (by omega)).trans r1)
  replace r2 := (b3.block _ (by omega)).trans r2
  rw [hg] at r1
  rw [hg2] at r2
  rw [hg3] at r3
  have R3g := Lib.hid r1
  have R3o := Lib.hid r2
  have R3z := Lib.hid r3
  have B3 : Hid (Below w.heap.size w W3) := Lib.hid (b1.trans ((b2.mono b1.size).trans (b3.mono (Nat.le_trans b1.size b2.size))))
  have HWR : Hid (Calls Try.prog 40 #[R.val m, .agg #[.int .i64 1, .string S, .string Z, .slice Ab nb cb]] W3 fun e w' => e = .returned (.int .i64 0) ∧ Below W3.heap.size W3 w') := Lib.hid (rwrong_any R m S Z Ab nb cb W3 (h.below B3.out) hf (by omega) (by omega) hnb' 1 ⟨by omega, by omega⟩ 0 he)
  rw [HVAL.out] at HWR
  clear h hf hF hbs hnb he hn hnf hna hfa hfc hnc hsa hsc hta htc hns hnt hmo hfu hdn b1 s1 b2 s2 b3 s3 hflk hnwk hstk hfuk 
  go_enter Try.func25, Try.ntmps25
  go_wp2_with (first
    | (refine wpList_load_row rfl _ _ rfl _ rfl _ _ _ _ r1 Try.underlying50 rfl info_dk7 ?_)
    | (refine wpList_load_row rfl _ _ rfl _ rfl _ _ _ _ r2 Try.underlying58 rfl info_op4 ?_))
  try rw [hg, hg2, hg3]
  clear hg hg2 hg3 hW1 hW2 hW3 r1 r2 r3
  refine HWR.out.mono ?_
  rintro e w4 ⟨rfl, hb4⟩
  have R4g : Hid (w4.heap[g]? = some (.cells #[.slice fa nf fc, .slice na n nc, .slice sa ns sc, .slice ta nt tc, .int .i64 (mo : Int), .int .i64 0, .bool false] 50 (0, 0))) := Lib.hid ((hb4.block _ (Array.getElem?_eq_some_iff.1 R3g.out).1).trans R3g.out)
  have R4o : Hid (w4.heap[g2]? = some (.cells #[.int .i64 1, .string S, .string Z, .slice Ab nb cb] 58 (0, 0))) := Lib.hid ((hb4.block _ (Array.getElem?_eq_some_iff.1 R3o.out).1).trans R3o.out)
  have R4z : Hid (w4.heap[g3]? = some (.cells #[.slice none 0 0, .slice none 0 0, .slice none 0 0, .slice none 0 0, .int .i64 0, .int .i64 0, .bool false] 50 (0, 0))) := Lib.hid ((hb4.block _ (Array.getElem?_eq_some_iff.1 R3z.out).1).trans R3z.out)
  have B4 : Hid (Below w.heap.size w w4) := Lib.hid (B3.out.trans (hb4.mono B3.out.size))
  have c4g0 : w4.cell? ⟨g, 0, none⟩ = some (.slice fa nf fc) := row_cell R4g.out 0
  have c4g1 : w4.cell? ⟨g, 1, none⟩ = some (.slice na n nc) := row_cell R4g.out 1
  have c4g3 : w4.cell? ⟨g, 3, none⟩ = some (.slice ta nt tc) := row_cell R4g.out 3
  have c4g5 : w4.cell? ⟨g, 5, none⟩ = some (.int .i64 0) := row_cell R4g.out 5
  have c4o0 : w4.cell? ⟨g2, 0, none⟩ = some (.int .i64 1) := row_cell R4o.out 0
  have c4o1 : w4.cell? ⟨g2, 1, none⟩ = some (.string S) := row_cell R4o.out 1
  have c4o2 : w4.cell? ⟨g2, 2, none⟩ = some (.string Z) := row_cell R4o.out 2
  have c4o3 : w4.cell? ⟨g2, 3, none⟩ = some (.slice Ab nb cb) := row_cell R4o.out 3
  have HFND := Lib.hid (rfind_any na m.now n nc HN.out (by omega) S w4 (by have := (H.out.below B4.out).rn.1; rw [HEQ.out.2.2.1] at this; exact this))
  obtain ⟨q, hq⟩ : ∃ q, findI m.now S.data.toList = q := ⟨_, rfl⟩
  rw [hq] at HFND
  obtain rfl : q = -1 := by rw [← hq]; exact findI_none HFI.out
  clear hq
  go_wp2_with fail
  refine HFND.out.mono ?_
  rintro e w9 ⟨rfl, rfl⟩
  have R9g := R4g
  have R9o := R4o
  have R9z := R4z
  have B9 := B4
  obtain ⟨gt, hq10⟩ : ∃ x, w9.heap.size = x := ⟨_, rfl⟩
  obtain ⟨W10, hW10⟩ : ∃ W, w9.alloc (.cells #[.string ⟨#[]⟩, .string ⟨#[]⟩, .int .i64 0] 90) = W := ⟨_, rfl⟩
  obtain ⟨r10, b10, s10⟩ := new_row hW10
  have R10g : Hid (W10.heap[g]? = some (.cells #[.slice fa nf fc, .slice na n nc, .slice sa ns sc, .slice ta nt tc, .int .i64 (mo : Int), .int .i64 0, .bool false] 50 (0, 0))) := Lib.hid ((b10.block _ (Array.getElem?_eq_some_iff.1 R9g.out).1).trans R9g.out)
  have R10o : Hid (W10.heap[g2]? = some (.cells #[.int .i64 1, .string S, .string Z, .slice Ab nb cb] 58 (0, 0))) := Lib.hid ((b10.block _ (Array.getElem?_eq_some_iff.1 R9o.out).1).trans R9o.out)
  have R10z : Hid (W10.heap[g3]? = some (.cells #[.slice none 0 0, .slice none 0 0, .slice none 0 0, .slice none 0 0, .int .i64 0, .int .i64 0, .bool false] 50 (0, 0))) := Lib.hid ((b10.block _ (Array.getElem?_eq_some_iff.1 R9z.out).1).trans R9z.out)
  have B10 : Hid (Below w.heap.size w W10) := Lib.hid (B9.out.trans (b10.mono B9.out.size))
  rw [hq10] at r10
  have R10t := Lib.hid r10
  have HQ10 := Lib.hid hq10
  clear b10 s10
  have hl3 : g3 < gt := by have := (Array.getElem?_eq_some_iff.1 R9z.out).1; have := HQ10.out; omega
  obtain ⟨gf, hgf⟩ : ∃ x, x = gt := ⟨_, rfl⟩
  obtain ⟨W11, hW11, T11, R11t, G11⟩ := put_row (new := [.string ⟨#[]⟩, .string ⟨#[]⟩, .int .i64 0]) R10t.out rfl
  have HW11 := Lib.hid hW11
  clear hW11
  have R11g : Hid (W11.heap[g]? = some (.cells #[.slice fa nf fc, .slice na n nc, .slice sa ns sc, .slice ta nt tc, .int .i64 (mo : Int), .int .i64 0, .bool false] 50 (0, 0))) := Lib.hid (row_other R10g.out G11.out (by omega) (Array.getElem?_eq_some_iff.1 R10g.out).1)
  have R11o : Hid (W11.heap[g2]? = some (.cells #[.int .i64 1, .string S, .string Z, .slice Ab nb cb] 58 (0, 0))) := Lib.hid (row_other R10o.out G11.out (by omega) (Array.getElem?_eq_some_iff.1 R10o.out).1)
  have R11z : Hid (W11.heap[g3]? = some (.cells #[.slice none 0 0, .slice none 0 0, .slice none 0 0, .slice none 0 0, .int .i64 0, .int .i64 0, .bool false] 50 (0, 0))) := Lib.hid (row_other R10z.out G11.out (by omega) (Array.getElem?_eq_some_iff.1 R10z.out).1)
  have B11 : Hid (Below w.heap.size w W11) := Lib.hid (bel_grown B10.out B10.out.size G11.out (by have := HGW.out; omega))
  have c11o0 : W11.cell? ⟨g2, 0, none⟩ = some (.int .i64 1) := row_cell R11o.out 0
  have c11o1 : W11.cell? ⟨g2, 1, none⟩ = some (.string S) := row_cell R11o.out 1
  have c11o2 : W11.cell? ⟨g2, 2, none⟩ = some (.string Z) := row_cell R11o.out 2
  have c11o3 : W11.cell? ⟨g2, 3, none⟩ = some (.slice Ab nb cb) := row_cell R11o.out 3
  have c11g0 : W11.cell? ⟨g, 0, none⟩ = some (.slice fa nf fc) := row_cell R11g.out 0
  have c11g1 : W11.cell? ⟨g, 1, none⟩ = some (.slice na n nc) := row_cell R11g.out 1
  have c11g3 : W11.cell? ⟨g, 3, none⟩ = some (.slice ta nt tc) := row_cell R11g.out 3
  obtain ⟨x12, hx12⟩ : ∃ x, W11.heap.size = x := ⟨_, rfl⟩
  obtain ⟨W12, hW12⟩ : ∃ W, W11.alloc (.cells #[] 92) = W := ⟨_, rfl⟩
  have HLO : Hid (LOut 92 2 fileC W11 W12 (some ⟨x12, 0, none⟩) 0 0 []) := Lib.hid (by rw [← hW12, ← hx12]; exact LOut.start _ _ _ (Below.refl _ _))
  have HRG := Lib.hid (((Below.refl _ _).alloc (Nat.le_refl _) (.cells #[] 92) : Below W11.heap.size W11 _).block _ (Array.getElem?_eq_some_iff.1 R11g.out).1 |>.trans R11g.out)
  rw [hW12] at HRG
  go_upto_block 1 with (first
    | ((with_reducible (refine wpList_store_mid rfl _ _ _ rfl ?_ ?_ ?_ ?_ ?_ ?_ ?_ ?_ ?_)); (exact gt); (exact 0); (exact ([.string ⟨#[]⟩, .string ⟨#[]⟩, .int .i64 0]).toArray); (exact rfl); (exact rfl); (exact T11.out); (exact info_tn3a); (exact cells3); rw [HW11.out]))
  refine cp_files g x12 nf fc fa _ R.fs W12 W11 HRG.out (Array.getElem?_eq_some_iff.1 R11g.out).1 rfl (H.out.fl.trans HNF.out) (by omega) (fun W hb => by have := (H.out.below (B11.out.trans (hb.mono B11.out.size))).rf.1; rw [HEQ.out.2.2.2.1] at this; exact this) HLO.out _ ?_
  intros
  rename_i A13 c13 w13 ho13
  have HO13 := Lib.hid ho13
  clear ho13 hW12
  have R13g : Hid (w13.heap[g]? = some (.cells #[.slice fa nf fc, .slice na n nc, .slice sa ns sc, .slice ta nt tc, .int .i64 (mo : Int), .int .i64 0, .bool false] 50 (0, 0))) := Lib.hid ((HO13.out.bel.block _ (Array.getElem?_eq_some_iff.1 R11g.out).1).trans R11g.out)
  have R13o : Hid (w13.heap[g2]? = some (.cells #[.int .i64 1, .string S, .string Z, .slice Ab nb cb] 58 (0, 0))) := Lib.hid ((HO13.out.bel.block _ (Array.getElem?_eq_some_iff.1 R11o.out).1).trans R11o.out)
  have R13z : Hid (w13.heap[g3]? = some (.cells #[.slice none 0 0, .slice none 0 0, .slice none 0 0, .slice none 0 0, .int .i64 0, .int .i64 0, .bool false] 50 (0, 0))) := Lib.hid ((HO13.out.bel.block _ (Array.getElem?_eq_some_iff.1 R11z.out).1).trans R11z.out)
  have R13t : Hid (w13.heap[gt]? = some (.cells #[.string ⟨#[]⟩, .string ⟨#[]⟩, .int .i64 0] 90 (0, 0))) := Lib.hid ((HO13.out.bel.block _ (Array.getElem?_eq_some_iff.1 R11t.out).1).trans R11t.out)
  have B13 : Hid (Below w.heap.size w w13) := Lib.hid (B11.out.trans (HO13.out.bel.mono B11.out.size))
  obtain ⟨W14, hW14⟩ : ∃ W, w13.alloc (.cells #[.slice none 0 0, .int .i64 0] 92) = W := ⟨_, rfl⟩
  obtain ⟨r14, b14, s14⟩ := new_row hW14
  have HO14 := Lib.hid (HO13.out.below b14)
  have HR14 : Hid (Rd W14 (some ⟨w13.heap.size, 0, none⟩) [.slice none 0 0, .int .i64 0]) := Lib.hid (range_rd (range_of_row (cs := [.slice none 0 0, .int .i64 0]) r14))
  clear r14 b14 s14
  go_wp2_with (at_builtin; refine wpList_append_rd _ rfl _ _ 46 rfl W11.heap.size 92 _ 2 32 Try.underlying46 info_flz rfl (by decide) (.slice A13 nf c13) nf _ rfl HO14.out.own _ 1 _ ([.slice none 0 0, .int .i64 0]) rfl (rfl) HR14.out (fl_one (⟨none, 0, []⟩, 0)) (by unfold maxLen; omega) (by omega) HO14.out.bel.size ?_; intro v15 w15 ho15 hg15 hvb15; obtain ⟨A15, c15, e15, _⟩ := own_slice ho15; subst e15; have HO15 := Lib.hid (HO14.out.grow (x := ((⟨none, 0, []⟩ : PV), 0)) ho15 hg15); refine Stop.out ?_; clear ho15 hg15 hvb15)
  refine Stop.mk ?_
  clear hW14
  have HS11 : Hid (∀ b, sF F g g3 gt gf b → b < W11.heap.size) := Lib.hid (fun b hb => by
    have h1 := B11.out.size
    have h2g := (Array.getElem?_eq_some_iff.1 R11g.out).1
    have h3z := (Array.getElem?_eq_some_iff.1 R11z.out).1
    have h4t := (Array.getElem?_eq_some_iff.1 R11t.out).1
    rcases hb with h | h | h | h | h
    · have := HFW.out b h; omega
    all_goals omega)
  have R15g : Hid (w15.heap[g]? = some (.cells #[.slice fa nf fc, .slice na n nc, .slice sa ns sc, .slice ta nt tc, .int .i64 (mo : Int), .int .i64 0, .bool false] 50 (0, 0))) := Lib.hid ((HO15.out.bel.block _ (Array.getElem?_eq_some_iff.1 R11g.out).1).trans R11g.out)
  have R15o : Hid (w15.heap[g2]? = some (.cells #[.int .i64 1, .string S, .string Z, .slice Ab nb cb] 58 (0, 0))) := Lib.hid ((HO15.out.bel.block _ (Array.getElem?_eq_some_iff.1 R11o.out).1).trans R11o.out)
  have R15z : Hid (w15.heap[g3]? = some (.cells #[.slice none 0 0, .slice none 0 0, .slice none 0 0, .slice none 0 0, .int .i64 0, .int .i64 0, .bool false] 50 (0, 0))) := Lib.hid ((HO15.out.bel.block _ (Array.getElem?_eq_some_iff.1 R11z.out).1).trans R11z.out)
  have R15t : Hid (w15.heap[gt]? = some (.cells #[.string ⟨#[]⟩, .string ⟨#[]⟩, .int .i64 0] 90 (0, 0))) := Lib.hid ((HO15.out.bel.block _ (Array.getElem?_eq_some_iff.1 R11t.out).1).trans R11t.out)
  have B15 : Hid (Below w.heap.size w w15) := Lib.hid (B11.out.trans (HO15.out.bel.mono B11.out.size))
  have X15_15 : Hid (Frm (sF F g g3 gt gf) w15 w15) := Lib.hid (Frm.refl _ _)
  have c15g0 : w15.cell? ⟨g, 0, none⟩ = some (.slice fa nf fc) := row_cell R15g.out 0
  have f15g0 : w15.frozen? ⟨g, 0, none⟩ = false := row_free R15g.out 0
  obtain ⟨W16, hW16⟩ : ∃ W, w15.setCell ⟨g, 0, none⟩ (.slice A15 (nf + 1) c15) = W := ⟨_, rfl⟩
  have G16 : Hid (w15.grownBy W16 (some g)) := Lib.hid (by rw [← hW16]; exact grown_set g 0 _)
  have R16g : Hid (W16.heap[g]? = some (.cells #[.slice A15 (nf + 1) c15, .slice na n nc, .slice sa ns sc, .slice ta nt tc, .int .i64 (mo : Int), .int .i64 0, .bool false] 50 (0, 0))) := Lib.hid (by have h9 := row_set R15g.out 0 (.slice A15 (nf + 1) c15); rw [hW16] at h9; simpa using h9)
  have R16o : Hid (W16.heap[g2]? = some (.cells #[.int .i64 1, .string S, .string Z, .slice Ab nb cb] 58 (0, 0))) := Lib.hid (row_other R15o.out G16.out (by omega) (Array.getElem?_eq_some_iff.1 R15o.out).1)
  have R16z : Hid (W16.heap[g3]? = some (.cells #[.slice none 0 0, .slice none 0 0, .slice none 0 0, .slice none 0 0, .int .i64 0, .int .i64 0, .bool false] 50 (0, 0))) := Lib.hid (row_other R15z.out G16.out (by omega) (Array.getElem?_eq_some_iff.1 R15z.out).1)
  have R16t : Hid (W16.heap[gt]? = some (.cells #[.string ⟨#[]⟩, .string ⟨#[]⟩, .int .i64 0] 90 (0, 0))) := Lib.hid (row_other R15t.out G16.out (by omega) (Array.getElem?_eq_some_iff.1 R15t.out).1)
  have B16 : Hid (Below w.heap.size w W16) := Lib.hid (bel_grown B15.out B15.out.size G16.out (by have := HGW.out; omega))
  have X16_15 : Hid (Frm (sF F g g3 gt gf) w15 W16) := Lib.hid (X15_15.out.trans (grown_frm (F := sF F g g3 gt gf) G16.out (.inr (.inl rfl))) (fun i hi => .inl hi))
  have c16g0 : W16.cell? ⟨g, 0, none⟩ = some (.slice A15 (nf + 1) c15) := row_cell R16g.out 0
  have c16g1 : W16.cell? ⟨g, 1, none⟩ = some (.slice na n nc) := row_cell R16g.out 1
  have c16g3 : W16.cell? ⟨g, 3, none⟩ = some (.slice ta nt tc) := row_cell R16g.out 3
  have c16o1 : W16.cell? ⟨g2, 1, none⟩ = some (.string S) := row_cell R16o.out 1
  have jw : IntKind.i64.wrap (nf : Int) = (nf : Int) := by rw [IntKind.wrap_i64]; omega
  have jw2 : (nf : Int) + 1 - 1 = (nf : Int) := by omega
  obtain ⟨W17, hW17, T17, R17t, G17⟩ := put_row (new := [.string (⟨#[]⟩ : ByteArray), .string S, .int .i64 (nf : Int)]) R16t.out rfl
  have HW17 := Lib.hid hW17
  clear hW17
  have R17g : Hid (W17.heap[g]? = some (.cells #[.slice A15 (nf + 1) c15, .slice na n nc, .slice sa ns sc, .slice ta nt tc, .int .i64 (mo : Int), .int .i64 0, .bool false] 50 (0, 0))) := Lib.hid (row_other R16g.out G17.out (by omega) (Array.getElem?_eq_some_iff.1 R16g.out).1)
  have R17o : Hid (W17.heap[g2]? = some (.cells #[.int .i64 1, .string S, .string Z, .slice Ab nb cb] 58 (0, 0))) := Lib.hid (row_other R16o.out G17.out (by omega) (Array.getElem?_eq_some_iff.1 R16o.out).1)
  have R17z : Hid (W17.heap[g3]? = some (.cells #[.slice none 0 0, .slice none 0 0, .slice none 0 0, .slice none 0 0, .int .i64 0, .int .i64 0, .bool false] 50 (0, 0))) := Lib.hid (row_other R16z.out G17.out (by omega) (Array.getElem?_eq_some_iff.1 R16z.out).1)
  have B17 : Hid (Below w.heap.size w W17) := Lib.hid (bel_grown B16.out B16.out.size G17.out (by have := HGW.out; omega))
  have X17_15 : Hid (Frm (sF F g g3 gt gf) w15 W17) := Lib.hid (X16_15.out.trans (grown_frm (F := sF F g g3 gt gf) G17.out (.inr (.inr (.inr (.inl rfl))))) (fun i hi => .inl hi))
  have c17g0 : W17.cell? ⟨g, 0, none⟩ = some (.slice A15 (nf + 1) c15) := row_cell R17g.out 0
  have c17g1 : W17.cell? ⟨g, 1, none⟩ = some (.slice na n nc) := row_cell R17g.out 1
  have c17g3 : W17.cell? ⟨g, 3, none⟩ = some (.slice ta nt tc) := row_cell R17g.out 3
  have HTR : Hid (turnR (⟨(⟨#[]⟩ : ByteArray).data.toList, S.data.toList, nf⟩ : TM) = [.string (⟨#[]⟩ : ByteArray), .string S, .int .i64 (nf : Int)]) := Lib.hid (by
    unfold turnR strV
    rw [show (⟨((⟨#[]⟩ : ByteArray).data.toList).toArray⟩ : ByteArray) = (⟨#[]⟩ : ByteArray) from ba_ext (by simp), show (⟨(S.data.toList).toArray⟩ : ByteArray) = S from ba_ext (by simp)])
  obtain ⟨x20, hx20⟩ : ∃ x, W17.heap.size = x := ⟨_, rfl⟩
  obtain ⟨W18, hW18⟩ : ∃ W, W17.alloc (.cells #[] 90) = W := ⟨_, rfl⟩
  have HLT : Hid (LOut 90 3 turnR W17 W18 (some ⟨x20, 0, none⟩) 0 0 []) := Lib.hid (by rw [← hW18, ← hx20]; exact LOut.start _ _ _ (Below.refl _ _))
  have HRT := Lib.hid (((Below.refl _ _).alloc (Nat.le_refl _) (.cells #[] 90) : Below W17.heap.size W17 _).block _ (Array.getElem?_eq_some_iff.1 R17g.out).1 |>.trans R17g.out)
  rw [hW18] at HRT
  go_upto_block 3 with (first
    | ((with_reducible (refine wpList_store_mid rfl _ _ _ rfl ?_ ?_ ?_ ?_ ?_ ?_ ?_ ?_ ?_)); (exact gt); (exact 0); (exact ([.string (⟨#[]⟩ : ByteArray), .string S, .int .i64 (nf : Int)]).toArray); (exact rfl); (exact rfl); (exact T17.out); (exact info_tn3a); (exact cells3); rw [HW17.out]))
  refine cp_turns g x20 nt tc ta _ m.turns W18 W17 HRT.out (Array.getElem?_eq_some_iff.1 R17g.out).1 rfl HEQ.out.2.2.2.2.2.2.2.2.2.2.2.1 (by omega) (fun W hb => by have := (H.out.below (B17.out.trans (hb.mono B17.out.size))).rt.1; rw [HEQ.out.2.2.2.2.2.2.2.2.1] at this; exact this) HLT.out _ ?_
  intros
  rename_i A21 c21 w19 ho21
  have HO21 := Lib.hid ho21
  clear ho21 hW18
  have R19g : Hid (w19.heap[g]? = some (.cells #[.slice A15 (nf + 1) c15, .slice na n nc, .slice sa ns sc, .slice ta nt tc, .int .i64 (mo : Int), .int .i64 0, .bool false] 50 (0, 0))) := Lib.hid ((HO21.out.bel.block _ (Array.getElem?_eq_some_iff.1 R17g.out).1).trans R17g.out)
  have R19o : Hid (w19.heap[g2]? = some (.cells #[.int .i64 1, .string S, .string Z, .slice Ab nb cb] 58 (0, 0))) := Lib.hid ((HO21.out.bel.block _ (Array.getElem?_eq_some_iff.1 R17o.out).1).trans R17o.out)
  have R19z : Hid (w19.heap[g3]? = some (.cells #[.slice none 0 0, .slice none 0 0, .slice none 0 0, .slice none 0 0, .int .i64 0, .int .i64 0, .bool false] 50 (0, 0))) := Lib.hid ((HO21.out.bel.block _ (Array.getElem?_eq_some_iff.1 R17z.out).1).trans R17z.out)
  have R19t : Hid (w19.heap[gt]? = some (.cells #[.string (⟨#[]⟩ : ByteArray), .string S, .int .i64 (nf : Int)] 90 (0, 0))) := Lib.hid ((HO21.out.bel.block _ (Array.getElem?_eq_some_iff.1 R17t.out).1).trans R17t.out)
  have B19 : Hid (Below w.heap.size w w19) := Lib.hid (B17.out.trans (HO21.out.bel.mono B17.out.size))
  have X19_15 : Hid (Frm (sF F g g3 gt gf) w15 w19) := Lib.hid (X17_15.out.trans (Frm.of_below (F := sF F g g3 gt gf) HO21.out.bel) (fun i hi => .inl hi))
  obtain ⟨W20, hW20⟩ : ∃ W, w19.alloc (.cells #[.string (⟨#[]⟩ : ByteArray), .string S, .int .i64 (nf : Int)] 90) = W := ⟨_, rfl⟩
  obtain ⟨r20, b20, s20⟩ := new_row hW20
  have HO22 := Lib.hid (HO21.out.below b20)
  have HR22 : Hid (Rd W20 (some ⟨w19.heap.size, 0, none⟩) [.string (⟨#[]⟩ : ByteArray), .string S, .int .i64 (nf : Int)]) := Lib.hid (range_rd (range_of_row (cs := [.string (⟨#[]⟩ : ByteArray), .string S, .int .i64 (nf : Int)]) r20))
  clear r20 b20 s20
  go_wp2_with (first
    | (refine wpList_load_row rfl _ _ rfl _ rfl _ _ _ _ R19t.out Try.underlying90 rfl info_tn3a ?_)
    | (at_builtin; refine wpList_append_rd _ rfl _ _ 48 rfl W17.heap.size 90 _ 3 40 Try.underlying48 info_tnz rfl (by decide) (.slice A21 nt c21) nt _ rfl HO22.out.own _ 1 _ ([.string (⟨#[]⟩ : ByteArray), .string S, .int .i64 (nf : Int)]) rfl (rfl) HR22.out (tn_one3) (by unfold maxLen; omega) (by omega) HO22.out.bel.size ?_; intro v23 w23 ho23 hg23 hvb23; obtain ⟨A23, c23, e23, _⟩ := own_slice ho23; subst e23; have HO23 := Lib.hid (HO22.out.grow (x := (⟨(⟨#[]⟩ : ByteArray).data.toList, S.data.toList, nf⟩ : TM)) (by rw [HTR.out]; exact ho23) hg23); refine Stop.out ?_; clear ho23 hg23 hvb23))
  refine Stop.mk ?_
  clear hW20
  have HS17 : Hid (∀ b, sF F g g3 gt gf b → b < W17.heap.size) := Lib.hid (fun b hb => by
    have h1 := B17.out.size
    have h2g := (Array.getElem?_eq_some_iff.1 R17g.out).1
    have h3z := (Array.getElem?_eq_some_iff.1 R17z.out).1
    have h4t := (Array.getElem?_eq_some_iff.1 R17t.out).1
    rcases hb with h | h | h | h | h
    · have := HFW.out b h; omega
    all_goals omega)
  have R23g : Hid (w23.heap[g]? = some (.cells #[.slice A15 (nf + 1) c15, .slice na n nc, .slice sa ns sc, .slice ta nt tc, .int .i64 (mo : Int), .int .i64 0, .bool false] 50 (0, 0))) := Lib.hid ((HO23.out.bel.block _ (Array.getElem?_eq_some_iff.1 R17g.out).1).trans R17g.out)
  have R23o : Hid (w23.heap[g2]? = some (.cells #[.int .i64 1, .string S, .string Z, .slice Ab nb cb] 58 (0, 0))) := Lib.hid ((HO23.out.bel.block _ (Array.getElem?_eq_some_iff.1 R17o.out).1).trans R17o.out)
  have R23z : Hid (w23.heap[g3]? = some (.cells #[.slice none 0 0, .slice none 0 0, .slice none 0 0, .slice none 0 0, .int .i64 0, .int .i64 0, .bool false] 50 (0, 0))) := Lib.hid ((HO23.out.bel.block _ (Array.getElem?_eq_some_iff.1 R17z.out).1).trans R17z.out)
  have R23t : Hid (w23.heap[gt]? = some (.cells #[.string (⟨#[]⟩ : ByteArray), .string S, .int .i64 (nf : Int)] 90 (0, 0))) := Lib.hid ((HO23.out.bel.block _ (Array.getElem?_eq_some_iff.1 R17t.out).1).trans R17t.out)
  have B23 : Hid (Below w.heap.size w w23) := Lib.hid (B17.out.trans (HO23.out.bel.mono B17.out.size))
  have X23_15 : Hid (Frm (sF F g g3 gt gf) w15 w23) := Lib.hid (X17_15.out.trans (Frm.of_below (F := sF F g g3 gt gf) HO23.out.bel) (fun i hi => .inl hi))
  have X23_23 : Hid (Frm (sF F g g3 gt gf) w23 w23) := Lib.hid (Frm.refl _ _)
  have c23g3 : w23.cell? ⟨g, 3, none⟩ = some (.slice ta nt tc) := row_cell R23g.out 3
  have f23g3 : w23.frozen? ⟨g, 3, none⟩ = false := row_free R23g.out 3
  obtain ⟨W24, hW24⟩ : ∃ W, w23.setCell ⟨g, 3, none⟩ (.slice A23 (nt + 1) c23) = W := ⟨_, rfl⟩
  have G24 : Hid (w23.grownBy W24 (some g)) := Lib.hid (by rw [← hW24]; exact grown_set g 3 _)
  have R24g : Hid (W24.heap[g]? = some (.cells #[.slice A15 (nf + 1) c15, .slice na n nc, .slice sa ns sc, .slice A23 (nt + 1) c23, .int .i64 (mo : Int), .int .i64 0, .bool false] 50 (0, 0))) := Lib.hid (by have h9 := row_set R23g.out 3 (.slice A23 (nt + 1) c23); rw [hW24] at h9; simpa using h9)
  have R24o : Hid (W24.heap[g2]? = some (.cells #[.int .i64 1, .string S, .string Z, .slice Ab nb cb] 58 (0, 0))) := Lib.hid (row_other R23o.out G24.out (by omega) (Array.getElem?_eq_some_iff.1 R23o.out).1)
  have R24z : Hid (W24.heap[g3]? = some (.cells #[.slice none 0 0, .slice none 0 0, .slice none 0 0, .slice none 0 0, .int .i64 0, .int .i64 0, .bool false] 50 (0, 0))) := Lib.hid (row_other R23z.out G24.out (by omega) (Array.getElem?_eq_some_iff.1 R23z.out).1)
  have R24t : Hid (W24.heap[gt]? = some (.cells #[.string (⟨#[]⟩ : ByteArray), .string S, .int .i64 (nf : Int)] 90 (0, 0))) := Lib.hid (row_other R23t.out G24.out (by omega) (Array.getElem?_eq_some_iff.1 R23t.out).1)
  have B24 : Hid (Below w.heap.size w W24) := Lib.hid (bel_grown B23.out B23.out.size G24.out (by have := HGW.out; omega))
  have X24_15 : Hid (Frm (sF F g g3 gt gf) w15 W24) := Lib.hid (X23_15.out.trans (grown_frm (F := sF F g g3 gt gf) G24.out (.inr (.inl rfl))) (fun i hi => .inl hi))
  have X24_23 : Hid (Frm (sF F g g3 gt gf) w23 W24) := Lib.hid (X23_23.out.trans (grown_frm (F := sF F g g3 gt gf) G24.out (.inr (.inl rfl))) (fun i hi => .inl hi))
  have c24g1 : W24.cell? ⟨g, 1, none⟩ = some (.slice na n nc) := row_cell R24g.out 1
  have HDO := Lib.hid (rdo_any na m.now n nc HN.out (by omega) (⟨#[]⟩ : ByteArray) S nf W24 (by have := (H.out.below B24.out).rn.1; rw [HEQ.out.2.2.1] at this; exact this))
  go_wp2_with (refine wpList_load_row rfl _ _ rfl _ rfl _ _ _ _ R24t.out Try.underlying90 rfl info_tn3a ?_)
  refine HDO.out.mono ?_
  rintro e w25 ⟨A25, n25, c25, rfl, ho25⟩
  have HO25 := Lib.hid ho25
  clear ho25
  have HS24 : Hid (∀ b, sF F g g3 gt gf b → b < W24.heap.size) := Lib.hid (fun b hb => by
    have h1 := B24.out.size
    have h2g := (Array.getElem?_eq_some_iff.1 R24g.out).1
    have h3z := (Array.getElem?_eq_some_iff.1 R24z.out).1
    have h4t := (Array.getElem?_eq_some_iff.1 R24t.out).1
    rcases hb with h | h | h | h | h
    · have := HFW.out b h; omega
    all_goals omega)
  have R25g : Hid (w25.heap[g]? = some (.cells #[.slice A15 (nf + 1) c15, .slice na n nc, .slice sa ns sc, .slice A23 (nt + 1) c23, .int .i64 (mo : Int), .int .i64 0, .bool false] 50 (0, 0))) := Lib.hid ((HO25.out.bel.block _ (Array.getElem?_eq_some_iff.1 R24g.out).1).trans R24g.out)
  have R25o : Hid (w25.heap[g2]? = some (.cells #[.int .i64 1, .string S, .string Z, .slice Ab nb cb] 58 (0, 0))) := Lib.hid ((HO25.out.bel.block _ (Array.getElem?_eq_some_iff.1 R24o.out).1).trans R24o.out)
  have R25z : Hid (w25.heap[g3]? = some (.cells #[.slice none 0 0, .slice none 0 0, .slice none 0 0, .slice none 0 0, .int .i64 0, .int .i64 0, .bool false] 50 (0, 0))) := Lib.hid ((HO25.out.bel.block _ (Array.getElem?_eq_some_iff.1 R24z.out).1).trans R24z.out)
  have R25t : Hid (w25.heap[gt]? = some (.cells #[.string (⟨#[]⟩ : ByteArray), .string S, .int .i64 (nf : Int)] 90 (0, 0))) := Lib.hid ((HO25.out.bel.block _ (Array.getElem?_eq_some_iff.1 R24t.out).1).trans R24t.out)
  have B25 : Hid (Below w.heap.size w w25) := Lib.hid (B24.out.trans (HO25.out.bel.mono B24.out.size))
  have X25_15 : Hid (Frm (sF F g g3 gt gf) w15 w25) := Lib.hid (X24_15.out.trans (Frm.of_below (F := sF F g g3 gt gf) HO25.out.bel) (fun i hi => .inl hi))
  have X25_23 : Hid (Frm (sF F g g3 gt gf) w23 w25) := Lib.hid (X24_23.out.trans (Frm.of_below (F := sF F g g3 gt gf) HO25.out.bel) (fun i hi => .inl hi))
  have X25_25 : Hid (Frm (sF F g g3 gt gf) w25 w25) := Lib.hid (Frm.refl _ _)
  have c25g1 : w25.cell? ⟨g, 1, none⟩ = some (.slice na n nc) := row_cell R25g.out 1
  have f25g1 : w25.frozen? ⟨g, 1, none⟩ = false := row_free R25g.out 1
  obtain ⟨W26, hW26⟩ : ∃ W, w25.setCell ⟨g, 1, none⟩ (.slice A25 n25 c25) = W := ⟨_, rfl⟩
  have G26 : Hid (w25.grownBy W26 (some g)) := Lib.hid (by rw [← hW26]; exact grown_set g 1 _)
  have R26g : Hid (W26.heap[g]? = some (.cells #[.slice A15 (nf + 1) c15, .slice A25 n25 c25, .slice sa ns sc, .slice A23 (nt + 1) c23, .int .i64 (mo : Int), .int .i64 0, .bool false] 50 (0, 0))) := Lib.hid (by have h9 := row_set R25g.out 1 (.slice A25 n25 c25); rw [hW26] at h9; simpa using h9)
  have R26o : Hid (W26.heap[g2]? = some (.cells #[.int .i64 1, .string S, .string Z, .slice Ab nb cb] 58 (0, 0))) := Lib.hid (row_other R25o.out G26.out (by omega) (Array.getElem?_eq_some_iff.1 R25o.out).1)
  have R26z : Hid (W26.heap[g3]? = some (.cells #[.slice none 0 0, .slice none 0 0, .slice none 0 0, .slice none 0 0, .int .i64 0, .int .i64 0, .bool false] 50 (0, 0))) := Lib.hid (row_other R25z.out G26.out (by omega) (Array.getElem?_eq_some_iff.1 R25z.out).1)
  have R26t : Hid (W26.heap[gt]? = some (.cells #[.string (⟨#[]⟩ : ByteArray), .string S, .int .i64 (nf : Int)] 90 (0, 0))) := Lib.hid (row_other R25t.out G26.out (by omega) (Array.getElem?_eq_some_iff.1 R25t.out).1)
  have B26 : Hid (Below w.heap.size w W26) := Lib.hid (bel_grown B25.out B25.out.size G26.out (by have := HGW.out; omega))
  have X26_15 : Hid (Frm (sF F g g3 gt gf) w15 W26) := Lib.hid (X25_15.out.trans (grown_frm (F := sF F g g3 gt gf) G26.out (.inr (.inl rfl))) (fun i hi => .inl hi))
  have X26_23 : Hid (Frm (sF F g g3 gt gf) w23 W26) := Lib.hid (X25_23.out.trans (grown_frm (F := sF F g g3 gt gf) G26.out (.inr (.inl rfl))) (fun i hi => .inl hi))
  have X26_25 : Hid (Frm (sF F g g3 gt gf) w25 W26) := Lib.hid (X25_25.out.trans (grown_frm (F := sF F g g3 gt gf) G26.out (.inr (.inl rfl))) (fun i hi => .inl hi))
  have HND : Hid (doN m.now (⟨(⟨#[]⟩ : ByteArray).data.toList, S.data.toList, nf⟩ : TM) = doD m.now (⟨#[]⟩ : ByteArray).data.toList S.data.toList nf) := Lib.hid (doD_do HNE.out (⟨(⟨#[]⟩ : ByteArray).data.toList, S.data.toList, nf⟩ : TM)).symm
  obtain ⟨W27, hW27, T27, R27z, G27⟩ := put_row (new := [.slice A15 (nf + 1) c15, .slice A25 n25 c25, .slice sa ns sc, .slice A23 (nt + 1) c23, .int .i64 (mo : Int), .int .i64 0, .bool false]) R26z.out rfl
  have HW27 := Lib.hid hW27
  clear hW27
  have R27g : Hid (W27.heap[g]? = some (.cells #[.slice A15 (nf + 1) c15, .slice A25 n25 c25, .slice sa ns sc, .slice A23 (nt + 1) c23, .int .i64 (mo : Int), .int .i64 0, .bool false] 50 (0, 0))) := Lib.hid (row_other R26g.out G27.out (by omega) (Array.getElem?_eq_some_iff.1 R26g.out).1)
  have R27o : Hid (W27.heap[g2]? = some (.cells #[.int .i64 1, .string S, .string Z, .slice Ab nb cb] 58 (0, 0))) := Lib.hid (row_other R26o.out G27.out (by omega) (Array.getElem?_eq_some_iff.1 R26o.out).1)
  have R27t : Hid (W27.heap[gt]? = some (.cells #[.string (⟨#[]⟩ : ByteArray), .string S, .int .i64 (nf : Int)] 90 (0, 0))) := Lib.hid (row_other R26t.out G27.out (by omega) (Array.getElem?_eq_some_iff.1 R26t.out).1)
  have B27 : Hid (Below w.heap.size w W27) := Lib.hid (bel_grown B26.out B26.out.size G27.out (by have := HGW.out; omega))
  have X27_15 : Hid (Frm (sF F g g3 gt gf) w15 W27) := Lib.hid (X26_15.out.trans (grown_frm (F := sF F g g3 gt gf) G27.out (.inr (.inr (.inl rfl)))) (fun i hi => .inl hi))
  have X27_23 : Hid (Frm (sF F g g3 gt gf) w23 W27) := Lib.hid (X26_23.out.trans (grown_frm (F := sF F g g3 gt gf) G27.out (.inr (.inr (.inl rfl)))) (fun i hi => .inl hi))
  have X27_25 : Hid (Frm (sF F g g3 gt gf) w25 W27) := Lib.hid (X26_25.out.trans (grown_frm (F := sF F g g3 gt gf) G27.out (.inr (.inr (.inl rfl)))) (fun i hi => .inl hi))
  obtain ⟨R9, hR9⟩ : ∃ x : RA, x = { R with fs := R.fs ++ [((⟨none, 0, []⟩ : PV), 0)], fa := A15, fc := c15, ta := A23, tc := c23, na := A25, nc := c25 } := ⟨_, rfl⟩
  have HRI : Hid (RIn F W27 R9 mm) := Lib.hid (by
    rw [hR9, ← HMM.out]
    have hA9 : RdF (sF F g g3 gt gf) W27 A23 (turnsR (m.turns ++ [(⟨(⟨#[]⟩ : ByteArray).data.toList, S.data.toList, nf⟩ : TM)])) := (fresh_rdf HO23.out.rd HO23.out.addr HS17.out).frm X27_23.out (fun b hb => hb)
    have hB9 : RdF (sF F g g3 gt gf) W27 A25 (namesR (doN m.now (⟨(⟨#[]⟩ : ByteArray).data.toList, S.data.toList, nf⟩ : TM))) := by
      rw [HND.out]
      exact (fresh_rdf HO25.out.rd HO25.out.addr HS24.out).frm X27_25.out (fun b hb => hb)
    have hC9 : RdF (sF F g g3 gt gf) W27 A15 (filesC (R.fs ++ [((⟨none, 0, []⟩ : PV), 0)])) := (fresh_rdf HO15.out.rd HO15.out.addr HS11.out).frm X27_15.out (fun b hb => hb)
    have h9 := ((((H.out.wide (G := sF F g g3 gt gf) (by rintro b (h | h | h | h | h); exact .inl h; all_goals (right; have h1 := HGW.out; omega))).below B27.out)).newf (c := c15) hC9).turned (c := c23) (c' := c25) hA9 hB9
    rw [HNF.out]
    exact (h9.narrow (fun b hb => .inl hb)).same rfl rfl rfl rfl)
  have HV : Hid (R9.val mm = .agg #[.slice A15 (nf + 1) c15, .slice A25 n25 c25, .slice sa ns sc, .slice A23 (nt + 1) c23, .int .i64 (mo : Int), .int .i64 0, .bool false]) := Lib.hid (by
    obtain ⟨e1, e2, e3, e4, e5, e6, e7, e8, e9, e10, e11, e12, e13⟩ := HEQ.out
    rw [hR9, ← HMM.out]
    have e14 : (doN m.now (⟨(⟨#[]⟩ : ByteArray).data.toList, S.data.toList, nf⟩ : TM)).length = n25 := by rw [HND.out]; exact HO25.out.len.symm
    rw [e1]
    simp only [RA.val, RA.row, setF, List.length_set, List.length_append, List.length_cons, List.length_nil, e1, e2, e3, e4, e5, e6, e7, e8, e9, e10, e11, e12, e13, HDN.out, e14]
    try rfl)
  go_wp2_with (first
    | (refine wpList_load_row rfl _ _ rfl _ rfl _ _ _ _ R26g.out Try.underlying50 rfl info_dk7 ?_)
    | ((with_reducible (refine wpList_store_mid rfl _ _ _ rfl ?_ ?_ ?_ ?_ ?_ ?_ ?_ ?_ ?_)); (exact g3); (exact 0); (exact ([.slice A15 (nf + 1) c15, .slice A25 n25 c25, .slice sa ns sc, .slice A23 (nt + 1) c23, .int .i64 (mo : Int), .int .i64 0, .bool false]).toArray); (exact rfl); (exact rfl); (exact T27.out); (exact info_dk7); (exact cells7); rw [HW27.out]))
  refine bodyPost_ret (results_row_tmp rfl _ _ _ _ _ _ _ rfl R27z.out Try.underlying50 rfl info_dk7) rfl ⟨R9, by rw [HV.out]; rfl, HRI.out, B27.out⟩
set_option maxRecDepth 100000 in
set_option maxHeartbeats 16000000 in
theorem rdo1f (he : wrongM m 1 S.data.toList Z.data.toList nb = 0) (hdn : m.down = false) (x : Nat) (hfu : m.fuse = x + 2) (hfi : findN m.now S.data.toList = none) (hne : ∀ p ∈ m.now, p.1 ≠ []) :
    Calls Try.prog 25 #[R.val m, .agg #[.int .i64 1, .string S, .string Z, .slice Ab nb cb]] w fun e w' => ∃ R' : RA, e = .returned (.tuple #[R'.val ({ m with fuse := (x + 1), files := m.files ++ [(⟨[], 0⟩ : FM)], now := doN m.now ⟨[], S.data.toList, m.files.length⟩, turns := m.turns ++ [(⟨[], S.data.toList, m.files.length⟩ : TM)] }), .int .i64 0]) ∧ RIn F w' R' ({ m with fuse := (x + 1), files := m.files ++ [(⟨[], 0⟩ : FM)], now := doN m.now ⟨[], S.data.toList, m.files.length⟩, turns := m.turns ++ [(⟨[], S.data.toList, m.files.length⟩ : TM)] }) ∧ Below w.heap.size w w' := by
  obtain ⟨mm, hmm⟩ : ∃ y, { m with fuse := (x + 1), files := m.files ++ [(⟨[], 0⟩ : FM)], now := doN m.now ⟨[], S.data.toList, m.files.length⟩, turns := m.turns ++ [(⟨[], S.data.toList, m.files.length⟩ : TM)] } = y := ⟨_, rfl⟩
  rw [hmm]
  have HMM := Lib.hid hmm
  clear hmm
  have HFI := Lib.hid hfi
  clear hfi
  have HNE := Lib.hid hne
  clear hne
  have hxb : x ≤ 9223372036854775805 := by have := hf.fuse; omega
  have H := Lib.hid h
  have HF := Lib.hid hf
  have HFW := Lib.hid hF
  have HBS := Lib.hid hbs
  have HNB := Lib.hid hnb
  have hnb' := hnb.2
  have hflk := hf.files
  have hnwk := hf.now
  have hstk := hf.st
  have hfuk := hf.fuse
  have hlk : ∀ i, (fileM m i).b.length ≤ L ∧ (fileM m i).safe ≤ (fileM m i).b.length := fun i => hf.fileM i
  have HLK := Lib.hid hlk
  clear hlk
  obtain ⟨nf, hnf⟩ : ∃ n, m.files.length = n := ⟨_, rfl⟩
  obtain ⟨n, hn⟩ : ∃ n, m.now.length = n := ⟨_, rfl⟩
  have hnk : n ≤ 998 := by omega
  have hnfk : nf ≤ 998 := by omega
  obtain ⟨na, hna⟩ : ∃ n, R.na = n := ⟨_, rfl⟩
  obtain ⟨fa, hfa⟩ : ∃ n, R.fa = n := ⟨_, rfl⟩
  obtain ⟨fc, hfc⟩ : ∃ n, R.fc = n := ⟨_, rfl⟩
  obtain ⟨nc, hnc⟩ : ∃ n, R.nc = n := ⟨_, rfl⟩
  obtain ⟨sa, hsa⟩ : ∃ n, R.sa = n := ⟨_, rfl⟩
  obtain ⟨sc, hsc⟩ : ∃ n, R.sc = n := ⟨_, rfl⟩
  obtain ⟨ta, hta⟩ : ∃ n, R.ta = n := ⟨_, rfl⟩
  obtain ⟨tc, htc⟩ : ∃ n, R.tc = n := ⟨_, rfl⟩
  obtain ⟨ns, hns⟩ : ∃ n, m.sure.length = n := ⟨_, rfl⟩
  obtain ⟨nt, hnt⟩ : ∃ n, m.turns.length = n := ⟨_, rfl⟩
  have hntk : nt ≤ 998 := by omega
  obtain ⟨mo, hmo⟩ : ∃ n, m.most = n := ⟨_, rfl⟩

  have HEQ : Hid (m.files.length = nf ∧ m.now.length = n ∧ R.na = na ∧ R.fa = fa ∧ R.fc = fc ∧ R.nc = nc ∧ R.sa = sa ∧ R.sc = sc ∧ R.ta = ta ∧ R.tc = tc ∧ m.sure.length = ns ∧ m.turns.length = nt ∧ m.most = mo) := Lib.hid ⟨hnf, hn, hna, hfa, hfc, hnc, hsa, hsc, hta, htc, hns, hnt, hmo⟩
  have HVAL : Hid (R.val m = .agg #[.slice fa nf fc, .slice na n nc, .slice sa ns sc, .slice ta nt tc, .int .i64 (mo : Int), .int .i64 ((x : Int) + 2), .bool false]) := Lib.hid (by
    unfold RA.val RA.row
    rw [hn, hnf, hfa, hna, hsa, hta, hfc, hnc, hsc, htc, hns, hnt, hmo, hfu, hdn]
    try first | rfl | simp)
  have HN := Lib.hid hn
  have HNF := Lib.hid hnf
  have HFU := Lib.hid hfu
  have HDN := Lib.hid hdn
  rw [HVAL.out]
  obtain ⟨g, hg⟩ : ∃ g, w.heap.size = g := ⟨_, rfl⟩
  have HGW := Lib.hid hg
  obtain ⟨W1, hW1⟩ : ∃ W, w.alloc (.cells #[.slice fa nf fc, .slice na n nc, .slice sa ns sc, .slice ta nt tc, .int .i64 (mo : Int), .int .i64 ((x : Int) + 2), .bool false] 50) = W := ⟨_, rfl⟩
  obtain ⟨r1, b1, s1⟩ := new_row hW1
  obtain ⟨W2, hW2⟩ : ∃ W, W1.alloc (.cells #[.int .i64 1, .string S, .string Z, .slice Ab nb cb] 58) = W := ⟨_, rfl⟩
  obtain ⟨r2, b2, s2⟩ := new_row hW2
  obtain ⟨W3, hW3⟩ : ∃ W, W2.alloc (.cells #[.slice none 0 0, .slice none 0 0, .slice none 0 0, .slice none 0 0, .int .i64 0, .int .i64 0, .bool false] 50) = W := ⟨_, rfl⟩
  obtain ⟨r3, b3, s3⟩ := new_row hW3
  obtain ⟨g2, hg2⟩ : ∃ g, W1.heap.size = g := ⟨_, rfl⟩
  obtain ⟨g3, hg3⟩ : ∃ g, W2.heap.size = g := ⟨_, rfl⟩
  have hl1 : g < g2 := by omega
  have hl2 : g2 < g3 := by omega
  replace r1 := (b3.block _ (by omega)).trans ((b2.block _ (by omega)).trans r1)
  replace r2 := (b3.block _ (by omega)).trans r2
  rw [hg] at r1
  rw [hg2] at r2
  rw [hg3] at r3
  have R3g := Lib.hid r1
  have R3o := Lib.hid r2
  have R3z := Lib.hid r3
  have B3 : Hid (Below w.heap.size w W3) := Lib.hid (b1.trans ((b2.mono b1.size).trans (b3.mono (Nat.le_trans b1.size b2.size))))
  have HWR : Hid (Calls Try.prog 40 #[R.val m, .agg #[.int .i64 1, .string S, .string Z, .slice Ab nb cb]] W3 fun e w' => e = .returned (.int .i64 0) ∧ Below W3.heap.size W3 w') := Lib.hid (rwrong_any R m S Z Ab nb cb W3 (h.below B3.out) hf (by omega) (by omega) hnb' 1 ⟨by omega, by omega⟩ 0 he)
  rw [HVAL.out] at HWR
  clear h hf hF hbs hnb he hn hnf hna hfa hfc hnc hsa hsc hta htc hns hnt hmo hfu hdn b1 s1 b2 s2 b3 s3 hflk hnwk hstk hfuk 
  go_enter Try.func25, Try.ntmps25
  go_wp2_with (first
    | (refine wpList_load_row rfl _ _ rfl _ rfl _ _ _ _ r1 Try.underlying50 rfl info_dk7 ?_)
    | (refine wpList_load_row rfl _ _ rfl _ rfl _ _ _ _ r2 Try.underlying58 rfl info_op4 ?_))
  try rw [hg, hg2, hg3]
  clear hg hg2 hg3 hW1 hW2 hW3 r1 r2 r3
  refine HWR.out.mono ?_
  rintro e w4 ⟨rfl, hb4⟩
  have R4g : Hid (w4.heap[g]? = some (.cells #[.slice fa nf fc, .slice na n nc, .slice sa ns sc, .slice ta nt tc, .int .i64 (mo : Int), .int .i64 ((x : Int) + 2), .bool false] 50 (0, 0))) := Lib.hid ((hb4.block _ (Array.getElem?_eq_some_iff.1 R3g.out).1).trans R3g.out)
  have R4o : Hid (w4.heap[g2]? = some (.cells #[.int .i64 1, .string S, .string Z, .slice Ab nb cb] 58 (0, 0))) := Lib.hid ((hb4.block _ (Array.getElem?_eq_some_iff.1 R3o.out).1).trans R3o.out)
  have R4z : Hid (w4.heap[g3]? = some (.cells #[.slice none 0 0, .slice none 0 0, .slice none 0 0, .slice none 0 0, .int .i64 0, .int .i64 0, .bool false] 50 (0, 0))) := Lib.hid ((hb4.block _ (Array.getElem?_eq_some_iff.1 R3z.out).1).trans R3z.out)
  have B4 : Hid (Below w.heap.size w w4) := Lib.hid (B3.out.trans (hb4.mono B3.out.size))
  have c4g5 : w4.cell? ⟨g, 5, none⟩ = some (.int .i64 ((x : Int) + 2)) := row_cell R4g.out 5
  have f4g5 : w4.frozen? ⟨g, 5, none⟩ = false := row_free R4g.out 5
  obtain ⟨W5, hW5⟩ : ∃ W, w4.setCell ⟨g, 5, none⟩ (.int .i64 ((x : Int) + 1)) = W := ⟨_, rfl⟩
  have G5 : Hid (w4.grownBy W5 (some g)) := Lib.hid (by rw [← hW5]; exact grown_set g 5 _)
  have R5g : Hid (W5.heap[g]? = some (.cells #[.slice fa nf fc, .slice na n nc, .slice sa ns sc, .slice ta nt tc, .int .i64 (mo : Int), .int .i64 ((x : Int) + 1), .bool false] 50 (0, 0))) := Lib.hid (by have h9 := row_set R4g.out 5 (.int .i64 ((x : Int) + 1)); rw [hW5] at h9; simpa using h9)
  have R5o : Hid (W5.heap[g2]? = some (.cells #[.int .i64 1, .string S, .string Z, .slice Ab nb cb] 58 (0, 0))) := Lib.hid (row_other R4o.out G5.out (by omega) (Array.getElem?_eq_some_iff.1 R4o.out).1)
  have R5z : Hid (W5.heap[g3]? = some (.cells #[.slice none 0 0, .slice none 0 0, .slice none 0 0, .slice none 0 0, .int .i64 0, .int .i64 0, .bool false] 50 (0, 0))) := Lib.hid (row_other R4z.out G5.out (by omega) (Array.getElem?_eq_some_iff.1 R4z.out).1)
  have B5 : Hid (Below w.heap.size w W5) := Lib.hid (bel_grown B4.out B4.out.size G5.out (by have := HGW.out; omega))
  have c5g0 : W5.cell? ⟨g, 0, none⟩ = some (.slice fa nf fc) := row_cell R5g.out 0
  have c5g1 : W5.cell? ⟨g, 1, none⟩ = some (.slice na n nc) := row_cell R5g.out 1
  have c5g3 : W5.cell? ⟨g, 3, none⟩ = some (.slice ta nt tc) := row_cell R5g.out 3
  have c5g5 : W5.cell? ⟨g, 5, none⟩ = some (.int .i64 ((x : Int) + 1)) := row_cell R5g.out 5
  have c5o0 : W5.cell? ⟨g2, 0, none⟩ = some (.int .i64 1) := row_cell R5o.out 0
  have c5o1 : W5.cell? ⟨g2, 1, none⟩ = some (.string S) := row_cell R5o.out 1
  have c5o2 : W5.cell? ⟨g2, 2, none⟩ = some (.string Z) := row_cell R5o.out 2
  have c5o3 : W5.cell? ⟨g2, 3, none⟩ = some (.slice Ab nb cb) := row_cell R5o.out 3
  have j9 : (0 : Int) < (x : Int) + 2 := by omega
  have j8 : (x : Int) + 2 - 1 = (x : Int) + 1 := by omega
  have j7 : ((x : Int) + 1 == 0) = false := by rw [beq_eq_false_iff_ne]; omega
  have j6 : IntKind.i64.wrap ((x : Int) + 1) = (x : Int) + 1 := by rw [IntKind.wrap_i64]; omega
  have HFND := Lib.hid (rfind_any na m.now n nc HN.out (by omega) S W5 (by have := (H.out.below B5.out).rn.1; rw [HEQ.out.2.2.1] at this; exact this))
  obtain ⟨q, hq⟩ : ∃ q, findI m.now S.data.toList = q := ⟨_, rfl⟩
  rw [hq] at HFND
  obtain rfl : q = -1 := by rw [← hq]; exact findI_none HFI.out
  clear hq
  go_wp2_with fail
  refine HFND.out.mono ?_
  rintro e w9 ⟨rfl, rfl⟩
  have R9g := R5g
  have R9o := R5o
  have R9z := R5z
  have B9 := B5
  obtain ⟨gt, hq10⟩ : ∃ x, w9.heap.size = x := ⟨_, rfl⟩
  obtain ⟨W10, hW10⟩ : ∃ W, w9.alloc (.cells #[.string ⟨#[]⟩, .string ⟨#[]⟩, .int .i64 0] 90) = W := ⟨_, rfl⟩
  obtain ⟨r10, b10, s10⟩ := new_row hW10
  have R10g : Hid (W10.heap[g]? = some (.cells #[.slice fa nf fc, .slice na n nc, .slice sa ns sc, .slice ta nt tc, .int .i64 (mo : Int), .int .i64 ((x : Int) + 1), .bool false] 50 (0, 0))) := Lib.hid ((b10.block _ (Array.getElem?_eq_some_iff.1 R9g.out).1).trans R9g.out)
  have R10o : Hid (W10.heap[g2]? = some (.cells #[.int .i64 1, .string S, .string Z, .slice Ab nb cb] 58 (0, 0))) := Lib.hid ((b10.block _ (Array.getElem?_eq_some_iff.1 R9o.out).1).trans R9o.out)
  have R10z : Hid (W10.heap[g3]? = some (.cells #[.slice none 0 0, .slice none 0 0, .slice none 0 0, .slice none 0 0, .int .i64 0, .int .i64 0, .bool false] 50 (0, 0))) := Lib.hid ((b10.block _ (Array.getElem?_eq_some_iff.1 R9z.out).1).trans R9z.out)
  have B10 : Hid (Below w.heap.size w W10) := Lib.hid (B9.out.trans (b10.mono B9.out.size))
  rw [hq10] at r10
  have R10t := Lib.hid r10
  have HQ10 := Lib.hid hq10
  clear b10 s10
  have hl3 : g3 < gt := by have := (Array.getElem?_eq_some_iff.1 R9z.out).1; have := HQ10.out; omega
  obtain ⟨gf, hgf⟩ : ∃ x, x = gt := ⟨_, rfl⟩
  obtain ⟨W11, hW11, T11, R11t, G11⟩ := put_row (new := [.string ⟨#[]⟩, .string ⟨#[]⟩, .int .i64 0]) R10t.out rfl
  have HW11 := Lib.hid hW11
  clear hW11
  have R11g : Hid (W11.heap[g]? = some (.cells #[.slice fa nf fc, .slice na n nc, .slice sa ns sc, .slice ta nt tc, .int .i64 (mo : Int), .int .i64 ((x : Int) + 1), .bool false] 50 (0, 0))) := Lib.hid (row_other R10g.out G11.out (by omega) (Array.getElem?_eq_some_iff.1 R10g.out).1)
  have R11o : Hid (W11.heap[g2]? = some (.cells #[.int .i64 1, .string S, .string Z, .slice Ab nb cb] 58 (0, 0))) := Lib.hid (row_other R10o.out G11.out (by omega) (Array.getElem?_eq_some_iff.1 R10o.out).1)
  have R11z : Hid (W11.heap[g3]? = some (.cells #[.slice none 0 0, .slice none 0 0, .slice none 0 0, .slice none 0 0, .int .i64 0, .int .i64 0, .bool false] 50 (0, 0))) := Lib.hid (row_other R10z.out G11.out (by omega) (Array.getElem?_eq_some_iff.1 R10z.out).1)
  have B11 : Hid (Below w.heap.size w W11) := Lib.hid (bel_grown B10.out B10.out.size G11.out (by have := HGW.out; omega))
  have c11o0 : W11.cell? ⟨g2, 0, none⟩ = some (.int .i64 1) := row_cell R11o.out 0
  have c11o1 : W11.cell? ⟨g2, 1, none⟩ = some (.string S) := row_cell R11o.out 1
  have c11o2 : W11.cell? ⟨g2, 2, none⟩ = some (.string Z) := row_cell R11o.out 2
  have c11o3 : W11.cell? ⟨g2, 3, none⟩ = some (.slice Ab nb cb) := row_cell R11o.out 3
  have c11g0 : W11.cell? ⟨g, 0, none⟩ = some (.slice fa nf fc) := row_cell R11g.out 0
  have c11g1 : W11.cell? ⟨g, 1, none⟩ = some (.slice na n nc) := row_cell R11g.out 1
  have c11g3 : W11.cell? ⟨g, 3, none⟩ = some (.slice ta nt tc) := row_cell R11g.out 3
  obtain ⟨x12, hx12⟩ : ∃ x, W11.heap.size = x := ⟨_, rfl⟩
  obtain ⟨W12, hW12⟩ : ∃ W, W11.alloc (.cells #[] 92) = W := ⟨_, rfl⟩
  have HLO : Hid (LOut 92 2 fileC W11 W12 (some ⟨x12, 0, none⟩) 0 0 []) := Lib.hid (by rw [← hW12, ← hx12]; exact LOut.start _ _ _ (Below.refl _ _))
  have HRG := Lib.hid (((Below.refl _ _).alloc (Nat.le_refl _) (.cells #[] 92) : Below W11.heap.size W11 _).block _ (Array.getElem?_eq_some_iff.1 R11g.out).1 |>.trans R11g.out)
  rw [hW12] at HRG
  go_upto_block 1 with (first
    | ((with_reducible (refine wpList_store_mid rfl _ _ _ rfl ?_ ?_ ?_ ?_ ?_ ?_ ?_ ?_ ?_)); (exact gt); (exact 0); (exact ([.string ⟨#[]⟩, .string ⟨#[]⟩, .int .i64 0]).toArray); (exact rfl); (exact rfl); (exact T11.out); (exact info_tn3a); (exact cells3); rw [HW11.out]))
  refine cp_files g x12 nf fc fa _ R.fs W12 W11 HRG.out (Array.getElem?_eq_some_iff.1 R11g.out).1 rfl (H.out.fl.trans HNF.out) (by omega) (fun W hb => by have := (H.out.below (B11.out.trans (hb.mono B11.out.size))).rf.1; rw [HEQ.out.2.2.2.1] at this; exact this) HLO.out _ ?_
  intros
  rename_i A13 c13 w13 ho13
  have HO13 := Lib.hid ho13
  clear ho13 hW12
  have R13g : Hid (w13.heap[g]? = some (.cells #[.slice fa nf fc, .slice na n nc, .slice sa ns sc, .slice ta nt tc, .int .i64 (mo : Int), .int .i64 ((x : Int) + 1), .bool false] 50 (0, 0))) := Lib.hid ((HO13.out.bel.block _ (Array.getElem?_eq_some_iff.1 R11g.out).1).trans R11g.out)
  have R13o : Hid (w13.heap[g2]? = some (.cells #[.int .i64 1, .string S, .string Z, .slice Ab nb cb] 58 (0, 0))) := Lib.hid ((HO13.out.bel.block _ (Array.getElem?_eq_some_iff.1 R11o.out).1).trans R11o.out)
  have R13z : Hid (w13.heap[g3]? = some (.cells #[.slice none 0 0, .slice none 0 0, .slice none 0 0, .slice none 0 0, .int .i64 0, .int .i64 0, .bool false] 50 (0, 0))) := Lib.hid ((HO13.out.bel.block _ (Array.getElem?_eq_some_iff.1 R11z.out).1).trans R11z.out)
  have R13t : Hid (w13.heap[gt]? = some (.cells #[.string ⟨#[]⟩, .string ⟨#[]⟩, .int .i64 0] 90 (0, 0))) := Lib.hid ((HO13.out.bel.block _ (Array.getElem?_eq_some_iff.1 R11t.out).1).trans R11t.out)
  have B13 : Hid (Below w.heap.size w w13) := Lib.hid (B11.out.trans (HO13.out.bel.mono B11.out.size))
  obtain ⟨W14, hW14⟩ : ∃ W, w13.alloc (.cells #[.slice none 0 0, .int .i64 0] 92) = W := ⟨_, rfl⟩
  obtain ⟨r14, b14, s14⟩ := new_row hW14
  have HO14 := Lib.hid (HO13.out.below b14)
  have HR14 : Hid (Rd W14 (some ⟨w13.heap.size, 0, none⟩) [.slice none 0 0, .int .i64 0]) := Lib.hid (range_rd (range_of_row (cs := [.slice none 0 0, .int .i64 0]) r14))
  clear r14 b14 s14
  go_wp2_with (at_builtin; refine wpList_append_rd _ rfl _ _ 46 rfl W11.heap.size 92 _ 2 32 Try.underlying46 info_flz rfl (by decide) (.slice A13 nf c13) nf _ rfl HO14.out.own _ 1 _ ([.slice none 0 0, .int .i64 0]) rfl (rfl) HR14.out (fl_one (⟨none, 0, []⟩, 0)) (by unfold maxLen; omega) (by omega) HO14.out.bel.size ?_; intro v15 w15 ho15 hg15 hvb15; obtain ⟨A15, c15, e15, _⟩ := own_slice ho15; subst e15; have HO15 := Lib.hid (HO14.out.grow (x := ((⟨none, 0, []⟩ : PV), 0)) ho15 hg15); refine Stop.out ?_; clear ho15 hg15 hvb15)
  refine Stop.mk ?_
  clear hW14
  have HS11 : Hid (∀ b, sF F g g3 gt gf b → b < W11.heap.size) := Lib.hid (fun b hb => by
    have h1 := B11.out.size
    have h2g := (Array.getElem?_eq_some_iff.1 R11g.out).1
    have h3z := (Array.getElem?_eq_some_iff.1 R11z.out).1
    have h4t := (Array.getElem?_eq_some_iff.1 R11t.out).1
    rcases hb with h | h | h | h | h
    · have := HFW.out b h; omega
    all_goals omega)
  have R15g : Hid (w15.heap[g]? = some (.cells #[.slice fa nf fc, .slice na n nc, .slice sa ns sc, .slice ta nt tc, .int .i64 (mo : Int), .int .i64 ((x : Int) + 1), .bool false] 50 (0, 0))) := Lib.hid ((HO15.out.bel.block _ (Array.getElem?_eq_some_iff.1 R11g.out).1).trans R11g.out)
  have R15o : Hid (w15.heap[g2]? = some (.cells #[.int .i64 1, .string S, .string Z, .slice Ab nb cb] 58 (0, 0))) := Lib.hid ((HO15.out.bel.block _ (Array.getElem?_eq_some_iff.1 R11o.out).1).trans R11o.out)
  have R15z : Hid (w15.heap[g3]? = some (.cells #[.slice none 0 0, .slice none 0 0, .slice none 0 0, .slice none 0 0, .int .i64 0, .int .i64 0, .bool false] 50 (0, 0))) := Lib.hid ((HO15.out.bel.block _ (Array.getElem?_eq_some_iff.1 R11z.out).1).trans R11z.out)
  have R15t : Hid (w15.heap[gt]? = some (.cells #[.string ⟨#[]⟩, .string ⟨#[]⟩, .int .i64 0] 90 (0, 0))) := Lib.hid ((HO15.out.bel.block _ (Array.getElem?_eq_some_iff.1 R11t.out).1).trans R11t.out)
  have B15 : Hid (Below w.heap.size w w15) := Lib.hid (B11.out.trans (HO15.out.bel.mono B11.out.size))
  have X15_15 : Hid (Frm (sF F g g3 gt gf) w15 w15) := Lib.hid (Frm.refl _ _)
  have c15g0 : w15.cell? ⟨g, 0, none⟩ = some (.slice fa nf fc) := row_cell R15g.out 0
  have f15g0 : w15.frozen? ⟨g, 0, none⟩ = false := row_free R15g.out 0
  obtain ⟨W16, hW16⟩ : ∃ W, w15.setCell ⟨g, 0, none⟩ (.slice A15 (nf + 1) c15) = W := ⟨_, rfl⟩
  have G16 : Hid (w15.grownBy W16 (some g)) := Lib.hid (by rw [← hW16]; exact grown_set g 0 _)
  have R16g : Hid (W16.heap[g]? = some (.cells #[.slice A15 (nf + 1) c15, .slice na n nc, .slice sa ns sc, .slice ta nt tc, .int .i64 (mo : Int), .int .i64 ((x : Int) + 1), .bool false] 50 (0, 0))) := Lib.hid (by have h9 := row_set R15g.out 0 (.slice A15 (nf + 1) c15); rw [hW16] at h9; simpa using h9)
  have R16o : Hid (W16.heap[g2]? = some (.cells #[.int .i64 1, .string S, .string Z, .slice Ab nb cb] 58 (0, 0))) := Lib.hid (row_other R15o.out G16.out (by omega) (Array.getElem?_eq_some_iff.1 R15o.out).1)
  have R16z : Hid (W16.heap[g3]? = some (.cells #[.slice none 0 0, .slice none 0 0, .slice none 0 0, .slice none 0 0, .int .i64 0, .int .i64 0, .bool false] 50 (0, 0))) := Lib.hid (row_other R15z.out G16.out (by omega) (Array.getElem?_eq_some_iff.1 R15z.out).1)
  have R16t : Hid (W16.heap[gt]? = some (.cells #[.string ⟨#[]⟩, .string ⟨#[]⟩, .int .i64 0] 90 (0, 0))) := Lib.hid (row_other R15t.out G16.out (by omega) (Array.getElem?_eq_some_iff.1 R15t.out).1)
  have B16 : Hid (Below w.heap.size w W16) := Lib.hid (bel_grown B15.out B15.out.size G16.out (by have := HGW.out; omega))
  have X16_15 : Hid (Frm (sF F g g3 gt gf) w15 W16) := Lib.hid (X15_15.out.trans (grown_frm (F := sF F g g3 gt gf) G16.out (.inr (.inl rfl))) (fun i hi => .inl hi))
  have c16g0 : W16.cell? ⟨g, 0, none⟩ = some (.slice A15 (nf + 1) c15) := row_cell R16g.out 0
  have c16g1 : W16.cell? ⟨g, 1, none⟩ = some (.slice na n nc) := row_cell R16g.out 1
  have c16g3 : W16.cell? ⟨g, 3, none⟩ = some (.slice ta nt tc) := row_cell R16g.out 3
  have c16o1 : W16.cell? ⟨g2, 1, none⟩ = some (.string S) := row_cell R16o.out 1
  have jw : IntKind.i64.wrap (nf : Int) = (nf : Int) := by rw [IntKind.wrap_i64]; omega
  have jw2 : (nf : Int) + 1 - 1 = (nf : Int) := by omega
  obtain ⟨W17, hW17, T17, R17t, G17⟩ := put_row (new := [.string (⟨#[]⟩ : ByteArray), .string S, .int .i64 (nf : Int)]) R16t.out rfl
  have HW17 := Lib.hid hW17
  clear hW17
  have R17g : Hid (W17.heap[g]? = some (.cells #[.slice A15 (nf + 1) c15, .slice na n nc, .slice sa ns sc, .slice ta nt tc, .int .i64 (mo : Int), .int .i64 ((x : Int) + 1), .bool false] 50 (0, 0))) := Lib.hid (row_other R16g.out G17.out (by omega) (Array.getElem?_eq_some_iff.1 R16g.out).1)
  have R17o : Hid (W17.heap[g2]? = some (.cells #[.int .i64 1, .string S, .string Z, .slice Ab nb cb] 58 (0, 0))) := Lib.hid (row_other R16o.out G17.out (by omega) (Array.getElem?_eq_some_iff.1 R16o.out).1)
  have R17z : Hid (W17.heap[g3]? = some (.cells #[.slice none 0 0, .slice none 0 0, .slice none 0 0, .slice none 0 0, .int .i64 0, .int .i64 0, .bool false] 50 (0, 0))) := Lib.hid (row_other R16z.out G17.out (by omega) (Array.getElem?_eq_some_iff.1 R16z.out).1)
  have B17 : Hid (Below w.heap.size w W17) := Lib.hid (bel_grown B16.out B16.out.size G17.out (by have := HGW.out; omega))
  have X17_15 : Hid (Frm (sF F g g3 gt gf) w15 W17) := Lib.hid (X16_15.out.trans (grown_frm (F := sF F g g3 gt gf) G17.out (.inr (.inr (.inr (.inl rfl))))) (fun i hi => .inl hi))
  have c17g0 : W17.cell? ⟨g, 0, none⟩ = some (.slice A15 (nf + 1) c15) := row_cell R17g.out 0
  have c17g1 : W17.cell? ⟨g, 1, none⟩ = some (.slice na n nc) := row_cell R17g.out 1
  have c17g3 : W17.cell? ⟨g, 3, none⟩ = some (.slice ta nt tc) := row_cell R17g.out 3
  have HTR : Hid (turnR (⟨(⟨#[]⟩ : ByteArray).data.toList, S.data.toList, nf⟩ : TM) = [.string (⟨#[]⟩ : ByteArray), .string S, .int .i64 (nf : Int)]) := Lib.hid (by
    unfold turnR strV
    rw [show (⟨((⟨#[]⟩ : ByteArray).data.toList).toArray⟩ : ByteArray) = (⟨#[]⟩ : ByteArray) from ba_ext (by simp), show (⟨(S.data.toList).toArray⟩ : ByteArray) = S from ba_ext (by simp)])
  obtain ⟨x20, hx20⟩ : ∃ x, W17.heap.size = x := ⟨_, rfl⟩
  obtain ⟨W18, hW18⟩ : ∃ W, W17.alloc (.cells #[] 90) = W := ⟨_, rfl⟩
  have HLT : Hid (LOut 90 3 turnR W17 W18 (some ⟨x20, 0, none⟩) 0 0 []) := Lib.hid (by rw [← hW18, ← hx20]; exact LOut.start _ _ _ (Below.refl _ _))
  have HRT := Lib.hid (((Below.refl _ _).alloc (Nat.le_refl _) (.cells #[] 90) : Below W17.heap.size W17 _).block _ (Array.getElem?_eq_some_iff.1 R17g.out).1 |>.trans R17g.out)
  rw [hW18] at HRT
  go_upto_block 3 with (first
    | ((with_reducible (refine wpList_store_mid rfl _ _ _ rfl ?_ ?_ ?_ ?_ ?_ ?_ ?_ ?_ ?_)); (exact gt); (exact 0); (exact ([.string (⟨#[]⟩ : ByteArray), .string S, .int .i64 (nf : Int)]).toArray); (exact rfl); (exact rfl); (exact T17.out); (exact info_tn3a); (exact cells3); rw [HW17.out]))
  refine cp_turns g x20 nt tc ta _ m.turns W18 W17 HRT.out (Array.getElem?_eq_some_iff.1 R17g.out).1 rfl HEQ.out.2.2.2.2.2.2.2.2.2.2.2.1 (by omega) (fun W hb => by have := (H.out.below (B17.out.trans (hb.mono B17.out.size))).rt.1; rw [HEQ.out.2.2.2.2.2.2.2.2.1] at this; exact this) HLT.out _ ?_
  intros
  rename_i A21 c21 w19 ho21
  have HO21 := Lib.hid ho21
  clear ho21 hW18
  have R19g : Hid (w19.heap[g]? = some (.cells #[.slice A15 (nf + 1) c15, .slice na n nc, .slice sa ns sc, .slice ta nt tc, .int .i64 (mo : Int), .int .i64 ((x : Int) + 1), .bool false] 50 (0, 0))) := Lib.hid ((HO21.out.bel.block _ (Array.getElem?_eq_some_iff.1 R17g.out).1).trans R17g.out)
  have R19o : Hid (w19.heap[g2]? = some (.cells #[.int .i64 1, .string S, .string Z, .slice Ab nb cb] 58 (0, 0))) := Lib.hid ((HO21.out.bel.block _ (Array.getElem?_eq_some_iff.1 R17o.out).1).trans R17o.out)
  have R19z : Hid (w19.heap[g3]? = some (.cells #[.slice none 0 0, .slice none 0 0, .slice none 0 0, .slice none 0 0, .int .i64 0, .int .i64 0, .bool false] 50 (0, 0))) := Lib.hid ((HO21.out.bel.block _ (Array.getElem?_eq_some_iff.1 R17z.out).1).trans R17z.out)
  have R19t : Hid (w19.heap[gt]? = some (.cells #[.string (⟨#[]⟩ : ByteArray), .string S, .int .i64 (nf : Int)] 90 (0, 0))) := Lib.hid ((HO21.out.bel.block _ (Array.getElem?_eq_some_iff.1 R17t.out).1).trans R17t.out)
  have B19 : Hid (Below w.heap.size w w19) := Lib.hid (B17.out.trans (HO21.out.bel.mono B17.out.size))
  have X19_15 : Hid (Frm (sF F g g3 gt gf) w15 w19) := Lib.hid (X17_15.out.trans (Frm.of_below (F := sF F g g3 gt gf) HO21.out.bel) (fun i hi => .inl hi))
  obtain ⟨W20, hW20⟩ : ∃ W, w19.alloc (.cells #[.string (⟨#[]⟩ : ByteArray), .string S, .int .i64 (nf : Int)] 90) = W := ⟨_, rfl⟩
  obtain ⟨r20, b20, s20⟩ := new_row hW20
  have HO22 := Lib.hid (HO21.out.below b20)
  have HR22 : Hid (Rd W20 (some ⟨w19.heap.size, 0, none⟩) [.string (⟨#[]⟩ : ByteArray), .string S, .int .i64 (nf : Int)]) := Lib.hid (range_rd (range_of_row (cs := [.string (⟨#[]⟩ : ByteArray), .string S, .int .i64 (nf : Int)]) r20))
  clear r20 b20 s20
  go_wp2_with (first
    | (refine wpList_load_row rfl _ _ rfl _ rfl _ _ _ _ R19t.out Try.underlying90 rfl info_tn3a ?_)
    | (at_builtin; refine wpList_append_rd _ rfl _ _ 48 rfl W17.heap.size 90 _ 3 40 Try.underlying48 info_tnz rfl (by decide) (.slice A21 nt c21) nt _ rfl HO22.out.own _ 1 _ ([.string (⟨#[]⟩ : ByteArray), .string S, .int .i64 (nf : Int)]) rfl (rfl) HR22.out (tn_one3) (by unfold maxLen; omega) (by omega) HO22.out.bel.size ?_; intro v23 w23 ho23 hg23 hvb23; obtain ⟨A23, c23, e23, _⟩ := own_slice ho23; subst e23; have HO23 := Lib.hid (HO22.out.grow (x := (⟨(⟨#[]⟩ : ByteArray).data.toList, S.data.toList, nf⟩ : TM)) (by rw [HTR.out]; exact ho23) hg23); refine Stop.out ?_; clear ho23 hg23 hvb23))
  refine Stop.mk ?_
  clear hW20
  have HS17 : Hid (∀ b, sF F g g3 gt gf b → b < W17.heap.size) := Lib.hid (fun b hb => by
    have h1 := B17.out.size
    have h2g := (Array.getElem?_eq_some_iff.1 R17g.out).1
    have h3z := (Array.getElem?_eq_some_iff.1 R17z.out).1
    have h4t := (Array.getElem?_eq_some_iff.1 R17t.out).1
    rcases hb with h | h | h | h | h
    · have := HFW.out b h; omega
    all_goals omega)
  have R23g : Hid (w23.heap[g]? = some (.cells #[.slice A15 (nf + 1) c15, .slice na n nc, .slice sa ns sc, .slice ta nt tc, .int .i64 (mo : Int), .int .i64 ((x : Int) + 1), .bool false] 50 (0, 0))) := Lib.hid ((HO23.out.bel.block _ (Array.getElem?_eq_some_iff.1 R17g.out).1).trans R17g.out)
  have R23o : Hid (w23.heap[g2]? = some (.cells #[.int .i64 1, .string S, .string Z, .slice Ab nb cb] 58 (0, 0))) := Lib.hid ((HO23.out.bel.block _ (Array.getElem?_eq_some_iff.1 R17o.out).1).trans R17o.out)
  have R23z : Hid (w23.heap[g3]? = some (.cells #[.slice none 0 0, .slice none 0 0, .slice none 0 0, .slice none 0 0, .int .i64 0, .int .i64 0, .bool false] 50 (0, 0))) := Lib.hid ((HO23.out.bel.block _ (Array.getElem?_eq_some_iff.1 R17z.out).1).trans R17z.out)
  have R23t : Hid (w23.heap[gt]? = some (.cells #[.string (⟨#[]⟩ : ByteArray), .string S, .int .i64 (nf : Int)] 90 (0, 0))) := Lib.hid ((HO23.out.bel.block _ (Array.getElem?_eq_some_iff.1 R17t.out).1).trans R17t.out)
  have B23 : Hid (Below w.heap.size w w23) := Lib.hid (B17.out.trans (HO23.out.bel.mono B17.out.size))
  have X23_15 : Hid (Frm (sF F g g3 gt gf) w15 w23) := Lib.hid (X17_15.out.trans (Frm.of_below (F := sF F g g3 gt gf) HO23.out.bel) (fun i hi => .inl hi))
  have X23_23 : Hid (Frm (sF F g g3 gt gf) w23 w23) := Lib.hid (Frm.refl _ _)
  have c23g3 : w23.cell? ⟨g, 3, none⟩ = some (.slice ta nt tc) := row_cell R23g.out 3
  have f23g3 : w23.frozen? ⟨g, 3, none⟩ = false := row_free R23g.out 3
  obtain ⟨W24, hW24⟩ : ∃ W, w23.setCell ⟨g, 3, none⟩ (.slice A23 (nt + 1) c23) = W := ⟨_, rfl⟩
  have G24 : Hid (w23.grownBy W24 (some g)) := Lib.hid (by rw [← hW24]; exact grown_set g 3 _)
  have R24g : Hid (W24.heap[g]? = some (.cells #[.slice A15 (nf + 1) c15, .slice na n nc, .slice sa ns sc, .slice A23 (nt + 1) c23, .int .i64 (mo : Int), .int .i64 ((x : Int) + 1), .bool false] 50 (0, 0))) := Lib.hid (by have h9 := row_set R23g.out 3 (.slice A23 (nt + 1) c23); rw [hW24] at h9; simpa using h9)
  have R24o : Hid (W24.heap[g2]? = some (.cells #[.int .i64 1, .string S, .string Z, .slice Ab nb cb] 58 (0, 0))) := Lib.hid (row_other R23o.out G24.out (by omega) (Array.getElem?_eq_some_iff.1 R23o.out).1)
  have R24z : Hid (W24.heap[g3]? = some (.cells #[.slice none 0 0, .slice none 0 0, .slice none 0 0, .slice none 0 0, .int .i64 0, .int .i64 0, .bool false] 50 (0, 0))) := Lib.hid (row_other R23z.out G24.out (by omega) (Array.getElem?_eq_some_iff.1 R23z.out).1)
  have R24t : Hid (W24.heap[gt]? = some (.cells #[.string (⟨#[]⟩ : ByteArray), .string S, .int .i64 (nf : Int)] 90 (0, 0))) := Lib.hid (row_other R23t.out G24.out (by omega) (Array.getElem?_eq_some_iff.1 R23t.out).1)
  have B24 : Hid (Below w.heap.size w W24) := Lib.hid (bel_grown B23.out B23.out.size G24.out (by have := HGW.out; omega))
  have X24_15 : Hid (Frm (sF F g g3 gt gf) w15 W24) := Lib.hid (X23_15.out.trans (grown_frm (F := sF F g g3 gt gf) G24.out (.inr (.inl rfl))) (fun i hi => .inl hi))
  have X24_23 : Hid (Frm (sF F g g3 gt gf) w23 W24) := Lib.hid (X23_23.out.trans (grown_frm (F := sF F g g3 gt gf) G24.out (.inr (.inl rfl))) (fun i hi => .inl hi))
  have c24g1 : W24.cell? ⟨g, 1, none⟩ = some (.slice na n nc) := row_cell R24g.out 1
  have HDO := Lib.hid (rdo_any na m.now n nc HN.out (by omega) (⟨#[]⟩ : ByteArray) S nf W24 (by have := (H.out.below B24.out).rn.1; rw [HEQ.out.2.2.1] at this; exact this))
  go_wp2_with (refine wpList_load_row rfl _ _ rfl _ rfl _ _ _ _ R24t.out Try.underlying90 rfl info_tn3a ?_)
  refine HDO.out.mono ?_
  rintro e w25 ⟨A25, n25, c25, rfl, ho25⟩
  have HO25 := Lib.hid ho25
  clear ho25
  have HS24 : Hid (∀ b, sF F g g3 gt gf b → b < W24.heap.size) := Lib.hid (fun b hb => by
    have h1 := B24.out.size
    have h2g := (Array.getElem?_eq_some_iff.1 R24g.out).1
    have h3z := (Array.getElem?_eq_some_iff.1 R24z.out).1
    have h4t := (Array.getElem?_eq_some_iff.1 R24t.out).1
    rcases hb with h | h | h | h | h
    · have := HFW.out b h; omega
    all_goals omega)
  have R25g : Hid (w25.heap[g]? = some (.cells #[.slice A15 (nf + 1) c15, .slice na n nc, .slice sa ns sc, .slice A23 (nt + 1) c23, .int .i64 (mo : Int), .int .i64 ((x : Int) + 1), .bool false] 50 (0, 0))) := Lib.hid ((HO25.out.bel.block _ (Array.getElem?_eq_some_iff.1 R24g.out).1).trans R24g.out)
  have R25o : Hid (w25.heap[g2]? = some (.cells #[.int .i64 1, .string S, .string Z, .slice Ab nb cb] 58 (0, 0))) := Lib.hid ((HO25.out.bel.block _ (Array.getElem?_eq_some_iff.1 R24o.out).1).trans R24o.out)
  have R25z : Hid (w25.heap[g3]? = some (.cells #[.slice none 0 0, .slice none 0 0, .slice none 0 0, .slice none 0 0, .int .i64 0, .int .i64 0, .bool false] 50 (0, 0))) := Lib.hid ((HO25.out.bel.block _ (Array.getElem?_eq_some_iff.1 R24z.out).1).trans R24z.out)
  have R25t : Hid (w25.heap[gt]? = some (.cells #[.string (⟨#[]⟩ : ByteArray), .string S, .int .i64 (nf : Int)] 90 (0, 0))) := Lib.hid ((HO25.out.bel.block _ (Array.getElem?_eq_some_iff.1 R24t.out).1).trans R24t.out)
  have B25 : Hid (Below w.heap.size w w25) := Lib.hid (B24.out.trans (HO25.out.bel.mono B24.out.size))
  have X25_15 : Hid (Frm (sF F g g3 gt gf) w15 w25) := Lib.hid (X24_15.out.trans (Frm.of_below (F := sF F g g3 gt gf) HO25.out.bel) (fun i hi => .inl hi))
  have X25_23 : Hid (Frm (sF F g g3 gt gf) w23 w25) := Lib.hid (X24_23.out.trans (Frm.of_below (F := sF F g g3 gt gf) HO25.out.bel) (fun i hi => .inl hi))
  have X25_25 : Hid (Frm (sF F g g3 gt gf) w25 w25) := Lib.hid (Frm.refl _ _)
  have c25g1 : w25.cell? ⟨g, 1, none⟩ = some (.slice na n nc) := row_cell R25g.out 1
  have f25g1 : w25.frozen? ⟨g, 1, none⟩ = false := row_free R25g.out 1
  obtain ⟨W26, hW26⟩ : ∃ W, w25.setCell ⟨g, 1, none⟩ (.slice A25 n25 c25) = W := ⟨_, rfl⟩
  have G26 : Hid (w25.grownBy W26 (some g)) := Lib.hid (by rw [← hW26]; exact grown_set g 1 _)
  have R26g : Hid (W26.heap[g]? = some (.cells #[.slice A15 (nf + 1) c15, .slice A25 n25 c25, .slice sa ns sc, .slice A23 (nt + 1) c23, .int .i64 (mo : Int), .int .i64 ((x : Int) + 1), .bool false] 50 (0, 0))) := Lib.hid (by have h9 := row_set R25g.out 1 (.slice A25 n25 c25); rw [hW26] at h9; simpa using h9)
  have R26o : Hid (W26.heap[g2]? = some (.cells #[.int .i64 1, .string S, .string Z, .slice Ab nb cb] 58 (0, 0))) := Lib.hid (row_other R25o.out G26.out (by omega) (Array.getElem?_eq_some_iff.1 R25o.out).1)
  have R26z : Hid (W26.heap[g3]? = some (.cells #[.slice none 0 0, .slice none 0 0, .slice none 0 0, .slice none 0 0, .int .i64 0, .int .i64 0, .bool false] 50 (0, 0))) := Lib.hid (row_other R25z.out G26.out (by omega) (Array.getElem?_eq_some_iff.1 R25z.out).1)
  have R26t : Hid (W26.heap[gt]? = some (.cells #[.string (⟨#[]⟩ : ByteArray), .string S, .int .i64 (nf : Int)] 90 (0, 0))) := Lib.hid (row_other R25t.out G26.out (by omega) (Array.getElem?_eq_some_iff.1 R25t.out).1)
  have B26 : Hid (Below w.heap.size w W26) := Lib.hid (bel_grown B25.out B25.out.size G26.out (by have := HGW.out; omega))
  have X26_15 : Hid (Frm (sF F g g3 gt gf) w15 W26) := Lib.hid (X25_15.out.trans (grown_frm (F := sF F g g3 gt gf) G26.out (.inr (.inl rfl))) (fun i hi => .inl hi))
  have X26_23 : Hid (Frm (sF F g g3 gt gf) w23 W26) := Lib.hid (X25_23.out.trans (grown_frm (F := sF F g g3 gt gf) G26.out (.inr (.inl rfl))) (fun i hi => .inl hi))
  have X26_25 : Hid (Frm (sF F g g3 gt gf) w25 W26) := Lib.hid (X25_25.out.trans (grown_frm (F := sF F g g3 gt gf) G26.out (.inr (.inl rfl))) (fun i hi => .inl hi))
  have HND : Hid (doN m.now (⟨(⟨#[]⟩ : ByteArray).data.toList, S.data.toList, nf⟩ : TM) = doD m.now (⟨#[]⟩ : ByteArray).data.toList S.data.toList nf) := Lib.hid (doD_do HNE.out (⟨(⟨#[]⟩ : ByteArray).data.toList, S.data.toList, nf⟩ : TM)).symm
  obtain ⟨W27, hW27, T27, R27z, G27⟩ := put_row (new := [.slice A15 (nf + 1) c15, .slice A25 n25 c25, .slice sa ns sc, .slice A23 (nt + 1) c23, .int .i64 (mo : Int), .int .i64 ((x : Int) + 1), .bool false]) R26z.out rfl
  have HW27 := Lib.hid hW27
  clear hW27
  have R27g : Hid (W27.heap[g]? = some (.cells #[.slice A15 (nf + 1) c15, .slice A25 n25 c25, .slice sa ns sc, .slice A23 (nt + 1) c23, .int .i64 (mo : Int), .int .i64 ((x : Int) + 1), .bool false] 50 (0, 0))) := Lib.hid (row_other R26g.out G27.out (by omega) (Array.getElem?_eq_some_iff.1 R26g.out).1)
  have R27o : Hid (W27.heap[g2]? = some (.cells #[.int .i64 1, .string S, .string Z, .slice Ab nb cb] 58 (0, 0))) := Lib.hid (row_other R26o.out G27.out (by omega) (Array.getElem?_eq_some_iff.1 R26o.out).1)
  have R27t : Hid (W27.heap[gt]? = some (.cells #[.string (⟨#[]⟩ : ByteArray), .string S, .int .i64 (nf : Int)] 90 (0, 0))) := Lib.hid (row_other R26t.out G27.out (by omega) (Array.getElem?_eq_some_iff.1 R26t.out).1)
  have B27 : Hid (Below w.heap.size w W27) := Lib.hid (bel_grown B26.out B26.out.size G27.out (by have := HGW.out; omega))
  have X27_15 : Hid (Frm (sF F g g3 gt gf) w15 W27) := Lib.hid (X26_15.out.trans (grown_frm (F := sF F g g3 gt gf) G27.out (.inr (.inr (.inl rfl)))) (fun i hi => .inl hi))
  have X27_23 : Hid (Frm (sF F g g3 gt gf) w23 W27) := Lib.hid (X26_23.out.trans (grown_frm (F := sF F g g3 gt gf) G27.out (.inr (.inr (.inl rfl)))) (fun i hi => .inl hi))
  have X27_25 : Hid (Frm (sF F g g3 gt gf) w25 W27) := Lib.hid (X26_25.out.trans (grown_frm (F := sF F g g3 gt gf) G27.out (.inr (.inr (.inl rfl)))) (fun i hi => .inl hi))
  obtain ⟨R9, hR9⟩ : ∃ x : RA, x = { R with fs := R.fs ++ [((⟨none, 0, []⟩ : PV), 0)], fa := A15, fc := c15, ta := A23, tc := c23, na := A25, nc := c25 } := ⟨_, rfl⟩
  have HRI : Hid (RIn F W27 R9 mm) := Lib.hid (by
    rw [hR9, ← HMM.out]
    have hA9 : RdF (sF F g g3 gt gf) W27 A23 (turnsR (m.turns ++ [(⟨(⟨#[]⟩ : ByteArray).data.toList, S.data.toList, nf⟩ : TM)])) := (fresh_rdf HO23.out.rd HO23.out.addr HS17.out).frm X27_23.out (fun b hb => hb)
    have hB9 : RdF (sF F g g3 gt gf) W27 A25 (namesR (doN m.now (⟨(⟨#[]⟩ : ByteArray).data.toList, S.data.toList, nf⟩ : TM))) := by
      rw [HND.out]
      exact (fresh_rdf HO25.out.rd HO25.out.addr HS24.out).frm X27_25.out (fun b hb => hb)
    have hC9 : RdF (sF F g g3 gt gf) W27 A15 (filesC (R.fs ++ [((⟨none, 0, []⟩ : PV), 0)])) := (fresh_rdf HO15.out.rd HO15.out.addr HS11.out).frm X27_15.out (fun b hb => hb)
    have h9 := ((((H.out.wide (G := sF F g g3 gt gf) (by rintro b (h | h | h | h | h); exact .inl h; all_goals (right; have h1 := HGW.out; omega))).below B27.out)).newf (c := c15) hC9).turned (c := c23) (c' := c25) hA9 hB9
    rw [HNF.out]
    exact (h9.narrow (fun b hb => .inl hb)).same rfl rfl rfl rfl)
  have HV : Hid (R9.val mm = .agg #[.slice A15 (nf + 1) c15, .slice A25 n25 c25, .slice sa ns sc, .slice A23 (nt + 1) c23, .int .i64 (mo : Int), .int .i64 ((x : Int) + 1), .bool false]) := Lib.hid (by
    obtain ⟨e1, e2, e3, e4, e5, e6, e7, e8, e9, e10, e11, e12, e13⟩ := HEQ.out
    rw [hR9, ← HMM.out]
    have e14 : (doN m.now (⟨(⟨#[]⟩ : ByteArray).data.toList, S.data.toList, nf⟩ : TM)).length = n25 := by rw [HND.out]; exact HO25.out.len.symm
    rw [e1]
    simp only [RA.val, RA.row, setF, List.length_set, List.length_append, List.length_cons, List.length_nil, e1, e2, e3, e4, e5, e6, e7, e8, e9, e10, e11, e12, e13, HDN.out, e14]
    try rfl)
  go_wp2_with (first
    | (refine wpList_load_row rfl _ _ rfl _ rfl _ _ _ _ R26g.out Try.underlying50 rfl info_dk7 ?_)
    | ((with_reducible (refine wpList_store_mid rfl _ _ _ rfl ?_ ?_ ?_ ?_ ?_ ?_ ?_ ?_ ?_)); (exact g3); (exact 0); (exact ([.slice A15 (nf + 1) c15, .slice A25 n25 c25, .slice sa ns sc, .slice A23 (nt + 1) c23, .int .i64 (mo : Int), .int .i64 ((x : Int) + 1), .bool false]).toArray); (exact rfl); (exact rfl); (exact T27.out); (exact info_dk7); (exact cells7); rw [HW27.out]))
  refine bodyPost_ret (results_row_tmp rfl _ _ _ _ _ _ _ rfl R27z.out Try.underlying50 rfl info_dk7) rfl ⟨R9, by rw [HV.out]; rfl, HRI.out, B27.out⟩
end

end Go.Proofs.Ytpmifpblamjclaa
