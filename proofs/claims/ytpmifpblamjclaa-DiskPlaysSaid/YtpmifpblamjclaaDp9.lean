
/- The document's disk: Do: Sync. (Printed by wip/genDp8.py.) -/

import Derived.Test.YtpmifpblamjclaaDp8

namespace Go.Proofs.Ytpmifpblamjclaa

set_option linter.unusedVariables false

set_option linter.unusedSimpArgs false

set_option linter.unusedSectionVars false

open Go.RowKit

section

variable {K L : Nat} {F : Nat → Prop} (R : RA) (m : DM) (S Z : ByteArray) (Ab : Option Addr) (nb cb : Nat) (bs : List UInt8) (w : World) (h : RIn F w R m) (hF : ∀ b, F b → b < w.heap.size) (hf : Fit K L m) (hK : K ≤ 998) (hL : L ≤ 999999) (hnb : nb = bs.length ∧ nb ≤ 1000000) (hbs : Rd w Ab (b8s bs))
include h hF hf hK hL hnb hbs
set_option maxRecDepth 100000 in
set_option maxHeartbeats 16000000 in
theorem rdo3n (he : wrongM m 3 S.data.toList Z.data.toList nb = 0) (hdn : m.down = false) (hfu : m.fuse = 0) (fi : Nat) (hfi : findN m.now S.data.toList = some fi) :
    Calls Try.prog 25 #[R.val m, .agg #[.int .i64 3, .string S, .string Z, .slice Ab nb cb]] w fun e w' => ∃ R' : RA, e = .returned (.tuple #[R'.val (setF { m with fuse := 0 } fi ⟨(fileM m fi).b, (fileM m fi).b.length⟩), .int .i64 0]) ∧ RIn F w' R' (setF { m with fuse := 0 } fi ⟨(fileM m fi).b, (fileM m fi).b.length⟩) ∧ Below w.heap.size w w' := by
  obtain ⟨mm, hmm⟩ : ∃ y, setF { m with fuse := 0 } fi ⟨(fileM m fi).b, (fileM m fi).b.length⟩ = y := ⟨_, rfl⟩
  rw [hmm]
  have HMM := Lib.hid hmm
  clear hmm
  have HFI := Lib.hid hfi
  clear hfi
  have H := Lib.hid h
  obtain ⟨fq, hfq, hfq2⟩ := findN_mem HFI.out
  have hfl : fi < m.files.length := by have := hf.ids.now _ hfq; rw [hfq2] at this; exact this
  obtain ⟨⟨⟨pA, pc, pbs⟩, sf⟩, hfp, hmem, hfm, _⟩ := h.file hfl
  obtain ⟨b, o, hA0, hrow⟩ := h.fcell hfp
  obtain ⟨pn, hpn⟩ : ∃ x, pbs.length = x := ⟨_, rfl⟩
  have HPN := Lib.hid hpn
  have HRX : Hid (∀ W, Below w.heap.size w W → W.rangeAt b (o + fi * 2) [.slice pA pn pc, .int .i64 (sf : Int)]) := Lib.hid (fun W hb => range_below (by rw [← hpn]; exact hrow) (World.block_lt_of_cell? w _ (hrow 0 _ rfl)) hb)
  have HFM : Hid (fileM m fi = ⟨pbs, sf⟩) := Lib.hid hfm
  have HMEM := Lib.hid hmem
  have HPL : Hid (pbs.length ≤ L) := Lib.hid (by have := (hf.fileM fi).1; rw [hfm] at this; exact this)
  have HFL := Lib.hid hfl
  clear hfq hfq2 hfl hfp hmem hfm hrow hpn
  have HF := Lib.hid hf
  have HFW := Lib.hid hF
  have HBS := Lib.hid hbs
  have HNB := Lib.hid hnb
  have hnb' := hnb.2
  have hflk := hf.files
  have hnwk := hf.now
  have hstk := hf.st
  have hfuk := hf.fuse
  have hlk : ∀ i, (fileM m i).b.length ≤ L ∧ (fileM m i).safe ≤ (fileM m i).b.length := fun i => hf.fileM i
  have HLK := Lib.hid hlk
  clear hlk
  obtain ⟨nf, hnf⟩ : ∃ n, m.files.length = n := ⟨_, rfl⟩
  obtain ⟨n, hn⟩ : ∃ n, m.now.length = n := ⟨_, rfl⟩
  have hnk : n ≤ 998 := by omega
  have hnfk : nf ≤ 998 := by omega
  obtain ⟨na, hna⟩ : ∃ n, R.na = n := ⟨_, rfl⟩
  have hfa : R.fa = some ⟨b, o, none⟩ := hA0
  obtain ⟨fc, hfc⟩ : ∃ n, R.fc = n := ⟨_, rfl⟩
  obtain ⟨nc, hnc⟩ : ∃ n, R.nc = n := ⟨_, rfl⟩
  obtain ⟨sa, hsa⟩ : ∃ n, R.sa = n := ⟨_, rfl⟩
  obtain ⟨sc, hsc⟩ : ∃ n, R.sc = n := ⟨_, rfl⟩
  obtain ⟨ta, hta⟩ : ∃ n, R.ta = n := ⟨_, rfl⟩
  obtain ⟨tc, htc⟩ : ∃ n, R.tc = n := ⟨_, rfl⟩
  obtain ⟨ns, hns⟩ : ∃ n, m.sure.length = n := ⟨_, rfl⟩
  obtain ⟨nt, hnt⟩ : ∃ n, m.turns.length = n := ⟨_, rfl⟩
  have hntk : nt ≤ 998 := by omega
  obtain ⟨mo, hmo⟩ : ∃ n, m.most = n := ⟨_, rfl⟩

  have jf : (fi : Int) < (nf : Int) := by have := HFL.out; omega
  have HEQ : Hid (m.files.length = nf ∧ m.now.length = n ∧ R.na = na ∧ R.fa = some ⟨b, o, none⟩ ∧ R.fc = fc ∧ R.nc = nc ∧ R.sa = sa ∧ R.sc = sc ∧ R.ta = ta ∧ R.tc = tc ∧ m.sure.length = ns ∧ m.turns.length = nt ∧ m.most = mo) := Lib.hid ⟨hnf, hn, hna, hfa, hfc, hnc, hsa, hsc, hta, htc, hns, hnt, hmo⟩
  have HVAL : Hid (R.val m = .agg #[.slice (some ⟨b, o, none⟩) nf fc, .slice na n nc, .slice sa ns sc, .slice ta nt tc, .int .i64 (mo : Int), .int .i64 0, .bool false]) := Lib.hid (by
    unfold RA.val RA.row
    rw [hn, hnf, hfa, hna, hsa, hta, hfc, hnc, hsc, htc, hns, hnt, hmo, hfu, hdn]
    try first | rfl | simp)
  have HN := Lib.hid hn
  have HNF := Lib.hid hnf
  have HFU := Lib.hid hfu
  have HDN := Lib.hid hdn
  rw [HVAL.out]
  obtain ⟨g, hg⟩ : ∃ g, w.heap.size = g := ⟨_, rfl⟩
  have HGW := Lib.hid hg
  obtain ⟨W1, hW1⟩ : ∃ W, w.alloc (.cells #[.slice (some ⟨b, o, none⟩) nf fc, .slice na n nc, .slice sa ns sc, .slice ta nt tc, .int .i64 (mo : Int), .int .i64 0, .bool false] 50) = W := ⟨_, rfl⟩
  obtain ⟨r1, b1, s1⟩ := new_row hW1
  obtain ⟨W2, hW2⟩ : ∃ W, W1.alloc (.cells #[.int .i64 3, .string S, .string Z, .slice Ab nb cb] 58) = W := ⟨_, rfl⟩
  obtain ⟨r2, b2, s2⟩ := new_row hW2
  obtain ⟨W3, hW3⟩ : ∃ W, W2.alloc (.cells #[.slice none 0 0, .slice none 0 0, .slice none 0 0, .slice none 0 0, .int .i64 0, .int .i64 0, .bool false] 50) = W := ⟨_, rfl⟩
  obtain ⟨r3, b3, s3⟩ := new_row hW3
  obtain ⟨g2, hg2⟩ : ∃ g, W1.heap.size = g := ⟨_, rfl⟩
  obtain ⟨g3, hg3⟩ : ∃ g, W2.heap.size = g := ⟨_, rfl⟩
  have hl1 : g < g2 := by omega
  have hl2 : g2 < g3 := by omega
  replace r1 := (b3.block _ (by omega)).trans ((b2.block _ (by omega)).trans r1)
  replace r2 := (b3.block _ (by omega)).trans r2
  rw [hg] at r1
  rw [hg2] at r2
  rw [hg3] at r3
  have R3g := Lib.hid r1
  have R3o := Lib.hid r2
  have R3z := Lib.hid r3
  have B3 : Hid (Below w.heap.size w W3) := Lib.hid (b1.trans ((b2.mono b1.size).trans (b3.mono (Nat.le_trans b1.size b2.size))))
  have HWR : Hid (Calls Try.prog 40 #[R.val m, .agg #[.int .i64 3, .string S, .string Z, .slice Ab nb cb]] W3 fun e w' => e = .returned (.int .i64 0) ∧ Below W3.heap.size W3 w') := Lib.hid (rwrong_any R m S Z Ab nb cb W3 (h.below B3.out) hf (by omega) (by omega) hnb' 3 ⟨by omega, by omega⟩ 0 he)
  rw [HVAL.out] at HWR
  clear hA0 h hf hF hbs hnb he hn hnf hna hfa hfc hnc hsa hsc hta htc hns hnt hmo hfu hdn b1 s1 b2 s2 b3 s3 hflk hnwk hstk hfuk 
  go_enter Try.func25, Try.ntmps25
  go_wp2_with (first
    | (refine wpList_load_row rfl _ _ rfl _ rfl _ _ _ _ r1 Try.underlying50 rfl info_dk7 ?_)
    | (refine wpList_load_row rfl _ _ rfl _ rfl _ _ _ _ r2 Try.underlying58 rfl info_op4 ?_))
  try rw [hg, hg2, hg3]
  clear hg hg2 hg3 hW1 hW2 hW3 r1 r2 r3
  refine HWR.out.mono ?_
  rintro e w4 ⟨rfl, hb4⟩
  have R4g : Hid (w4.heap[g]? = some (.cells #[.slice (some ⟨b, o, none⟩) nf fc, .slice na n nc, .slice sa ns sc, .slice ta nt tc, .int .i64 (mo : Int), .int .i64 0, .bool false] 50 (0, 0))) := Lib.hid ((hb4.block _ (Array.getElem?_eq_some_iff.1 R3g.out).1).trans R3g.out)
  have R4o : Hid (w4.heap[g2]? = some (.cells #[.int .i64 3, .string S, .string Z, .slice Ab nb cb] 58 (0, 0))) := Lib.hid ((hb4.block _ (Array.getElem?_eq_some_iff.1 R3o.out).1).trans R3o.out)
  have R4z : Hid (w4.heap[g3]? = some (.cells #[.slice none 0 0, .slice none 0 0, .slice none 0 0, .slice none 0 0, .int .i64 0, .int .i64 0, .bool false] 50 (0, 0))) := Lib.hid ((hb4.block _ (Array.getElem?_eq_some_iff.1 R3z.out).1).trans R3z.out)
  have B4 : Hid (Below w.heap.size w w4) := Lib.hid (B3.out.trans (hb4.mono B3.out.size))
  have c4g0 : w4.cell? ⟨g, 0, none⟩ = some (.slice (some ⟨b, o, none⟩) nf fc) := row_cell R4g.out 0
  have c4g1 : w4.cell? ⟨g, 1, none⟩ = some (.slice na n nc) := row_cell R4g.out 1
  have c4g3 : w4.cell? ⟨g, 3, none⟩ = some (.slice ta nt tc) := row_cell R4g.out 3
  have c4g5 : w4.cell? ⟨g, 5, none⟩ = some (.int .i64 0) := row_cell R4g.out 5
  have c4o0 : w4.cell? ⟨g2, 0, none⟩ = some (.int .i64 3) := row_cell R4o.out 0
  have c4o1 : w4.cell? ⟨g2, 1, none⟩ = some (.string S) := row_cell R4o.out 1
  have c4o2 : w4.cell? ⟨g2, 2, none⟩ = some (.string Z) := row_cell R4o.out 2
  have c4o3 : w4.cell? ⟨g2, 3, none⟩ = some (.slice Ab nb cb) := row_cell R4o.out 3
  have HFND := Lib.hid (rfind_any na m.now n nc HN.out (by omega) S w4 (by have := (H.out.below B4.out).rn.1; rw [HEQ.out.2.2.1] at this; exact this))
  obtain ⟨q, hq⟩ : ∃ q, findI m.now S.data.toList = q := ⟨_, rfl⟩
  rw [hq] at HFND
  obtain rfl : q = (fi : Int) := by rw [← hq]; exact findI_some HFI.out
  clear hq
  go_wp2_with fail
  refine HFND.out.mono ?_
  rintro e w9 ⟨rfl, rfl⟩
  have R9g := R4g
  have R9o := R4o
  have R9z := R4z
  have B9 := B4
  obtain ⟨gt, hq10⟩ : ∃ x, w9.heap.size = x := ⟨_, rfl⟩
  obtain ⟨W10, hW10⟩ : ∃ W, w9.alloc (.cells #[.string ⟨#[]⟩, .string ⟨#[]⟩, .int .i64 0] 90) = W := ⟨_, rfl⟩
  obtain ⟨r10, b10, s10⟩ := new_row hW10
  have R10g : Hid (W10.heap[g]? = some (.cells #[.slice (some ⟨b, o, none⟩) nf fc, .slice na n nc, .slice sa ns sc, .slice ta nt tc, .int .i64 (mo : Int), .int .i64 0, .bool false] 50 (0, 0))) := Lib.hid ((b10.block _ (Array.getElem?_eq_some_iff.1 R9g.out).1).trans R9g.out)
  have R10o : Hid (W10.heap[g2]? = some (.cells #[.int .i64 3, .string S, .string Z, .slice Ab nb cb] 58 (0, 0))) := Lib.hid ((b10.block _ (Array.getElem?_eq_some_iff.1 R9o.out).1).trans R9o.out)
  have R10z : Hid (W10.heap[g3]? = some (.cells #[.slice none 0 0, .slice none 0 0, .slice none 0 0, .slice none 0 0, .int .i64 0, .int .i64 0, .bool false] 50 (0, 0))) := Lib.hid ((b10.block _ (Array.getElem?_eq_some_iff.1 R9z.out).1).trans R9z.out)
  have B10 : Hid (Below w.heap.size w W10) := Lib.hid (B9.out.trans (b10.mono B9.out.size))
  rw [hq10] at r10
  have R10t := Lib.hid r10
  have HQ10 := Lib.hid hq10
  clear b10 s10
  have hl3 : g3 < gt := by have := (Array.getElem?_eq_some_iff.1 R9z.out).1; have := HQ10.out; omega
  obtain ⟨W11, hW11, T11, R11t, G11⟩ := put_row (new := [.string ⟨#[]⟩, .string ⟨#[]⟩, .int .i64 0]) R10t.out rfl
  have HW11 := Lib.hid hW11
  clear hW11
  have R11g : Hid (W11.heap[g]? = some (.cells #[.slice (some ⟨b, o, none⟩) nf fc, .slice na n nc, .slice sa ns sc, .slice ta nt tc, .int .i64 (mo : Int), .int .i64 0, .bool false] 50 (0, 0))) := Lib.hid (row_other R10g.out G11.out (by omega) (Array.getElem?_eq_some_iff.1 R10g.out).1)
  have R11o : Hid (W11.heap[g2]? = some (.cells #[.int .i64 3, .string S, .string Z, .slice Ab nb cb] 58 (0, 0))) := Lib.hid (row_other R10o.out G11.out (by omega) (Array.getElem?_eq_some_iff.1 R10o.out).1)
  have R11z : Hid (W11.heap[g3]? = some (.cells #[.slice none 0 0, .slice none 0 0, .slice none 0 0, .slice none 0 0, .int .i64 0, .int .i64 0, .bool false] 50 (0, 0))) := Lib.hid (row_other R10z.out G11.out (by omega) (Array.getElem?_eq_some_iff.1 R10z.out).1)
  have B11 : Hid (Below w.heap.size w W11) := Lib.hid (bel_grown B10.out B10.out.size G11.out (by have := HGW.out; omega))
  have c11o0 : W11.cell? ⟨g2, 0, none⟩ = some (.int .i64 3) := row_cell R11o.out 0
  have c11o1 : W11.cell? ⟨g2, 1, none⟩ = some (.string S) := row_cell R11o.out 1
  have c11o2 : W11.cell? ⟨g2, 2, none⟩ = some (.string Z) := row_cell R11o.out 2
  have c11o3 : W11.cell? ⟨g2, 3, none⟩ = some (.slice Ab nb cb) := row_cell R11o.out 3
  have c11g0 : W11.cell? ⟨g, 0, none⟩ = some (.slice (some ⟨b, o, none⟩) nf fc) := row_cell R11g.out 0
  have c11g1 : W11.cell? ⟨g, 1, none⟩ = some (.slice na n nc) := row_cell R11g.out 1
  have c11g3 : W11.cell? ⟨g, 3, none⟩ = some (.slice ta nt tc) := row_cell R11g.out 3
  obtain ⟨gf, hgf⟩ : ∃ x, W11.heap.size = x := ⟨_, rfl⟩
  obtain ⟨W12, hW12⟩ : ∃ W, W11.alloc (.cells #[.slice none 0 0, .int .i64 0] 92) = W := ⟨_, rfl⟩
  obtain ⟨r12, b12, s12⟩ := new_row hW12
  have HLD := Lib.hid (HRX.out _ B11.out)
  have R12g : Hid (W12.heap[g]? = some (.cells #[.slice (some ⟨b, o, none⟩) nf fc, .slice na n nc, .slice sa ns sc, .slice ta nt tc, .int .i64 (mo : Int), .int .i64 0, .bool false] 50 (0, 0))) := Lib.hid ((b12.block _ (Array.getElem?_eq_some_iff.1 R11g.out).1).trans R11g.out)
  have R12o : Hid (W12.heap[g2]? = some (.cells #[.int .i64 3, .string S, .string Z, .slice Ab nb cb] 58 (0, 0))) := Lib.hid ((b12.block _ (Array.getElem?_eq_some_iff.1 R11o.out).1).trans R11o.out)
  have R12z : Hid (W12.heap[g3]? = some (.cells #[.slice none 0 0, .slice none 0 0, .slice none 0 0, .slice none 0 0, .int .i64 0, .int .i64 0, .bool false] 50 (0, 0))) := Lib.hid ((b12.block _ (Array.getElem?_eq_some_iff.1 R11z.out).1).trans R11z.out)
  have R12t : Hid (W12.heap[gt]? = some (.cells #[.string ⟨#[]⟩, .string ⟨#[]⟩, .int .i64 0] 90 (0, 0))) := Lib.hid ((b12.block _ (Array.getElem?_eq_some_iff.1 R11t.out).1).trans R11t.out)
  have B12 : Hid (Below w.heap.size w W12) := Lib.hid (B11.out.trans (b12.mono B11.out.size))
  rw [hgf] at r12
  have R12f := Lib.hid r12
  have HGF := Lib.hid hgf
  have hl4 : gt < gf := by have := (Array.getElem?_eq_some_iff.1 R11t.out).1; omega
  clear b12 s12
  obtain ⟨W13, hW13, T13, R13f, G13⟩ := put_row (new := [.slice pA pn pc, .int .i64 (sf : Int)]) R12f.out rfl
  have HW13 := Lib.hid hW13
  clear hW13
  have R13g : Hid (W13.heap[g]? = some (.cells #[.slice (some ⟨b, o, none⟩) nf fc, .slice na n nc, .slice sa ns sc, .slice ta nt tc, .int .i64 (mo : Int), .int .i64 0, .bool false] 50 (0, 0))) := Lib.hid (row_other R12g.out G13.out (by omega) (Array.getElem?_eq_some_iff.1 R12g.out).1)
  have R13o : Hid (W13.heap[g2]? = some (.cells #[.int .i64 3, .string S, .string Z, .slice Ab nb cb] 58 (0, 0))) := Lib.hid (row_other R12o.out G13.out (by omega) (Array.getElem?_eq_some_iff.1 R12o.out).1)
  have R13z : Hid (W13.heap[g3]? = some (.cells #[.slice none 0 0, .slice none 0 0, .slice none 0 0, .slice none 0 0, .int .i64 0, .int .i64 0, .bool false] 50 (0, 0))) := Lib.hid (row_other R12z.out G13.out (by omega) (Array.getElem?_eq_some_iff.1 R12z.out).1)
  have R13t : Hid (W13.heap[gt]? = some (.cells #[.string ⟨#[]⟩, .string ⟨#[]⟩, .int .i64 0] 90 (0, 0))) := Lib.hid (row_other R12t.out G13.out (by omega) (Array.getElem?_eq_some_iff.1 R12t.out).1)
  have B13 : Hid (Below w.heap.size w W13) := Lib.hid (bel_grown B12.out B12.out.size G13.out (by have := HGW.out; omega))
  have c13f0 : W13.cell? ⟨gf, 0, none⟩ = some (.slice pA pn pc) := row_cell R13f.out 0
  have c13f1 : W13.cell? ⟨gf, 1, none⟩ = some (.int .i64 (sf : Int)) := row_cell R13f.out 1
  have f13f1 : W13.frozen? ⟨gf, 1, none⟩ = false := row_free R13f.out 1
  obtain ⟨W14, hW14⟩ : ∃ W, W13.setCell ⟨gf, 1, none⟩ (.int .i64 (pn : Int)) = W := ⟨_, rfl⟩
  have G14 : Hid (W13.grownBy W14 (some gf)) := Lib.hid (by rw [← hW14]; exact grown_set gf 1 _)
  have R14f : Hid (W14.heap[gf]? = some (.cells #[.slice pA pn pc, .int .i64 (pn : Int)] 92 (0, 0))) := Lib.hid (by have h9 := row_set R13f.out 1 (.int .i64 (pn : Int)); rw [hW14] at h9; simpa using h9)
  have R14g : Hid (W14.heap[g]? = some (.cells #[.slice (some ⟨b, o, none⟩) nf fc, .slice na n nc, .slice sa ns sc, .slice ta nt tc, .int .i64 (mo : Int), .int .i64 0, .bool false] 50 (0, 0))) := Lib.hid (row_other R13g.out G14.out (by omega) (Array.getElem?_eq_some_iff.1 R13g.out).1)
  have R14o : Hid (W14.heap[g2]? = some (.cells #[.int .i64 3, .string S, .string Z, .slice Ab nb cb] 58 (0, 0))) := Lib.hid (row_other R13o.out G14.out (by omega) (Array.getElem?_eq_some_iff.1 R13o.out).1)
  have R14z : Hid (W14.heap[g3]? = some (.cells #[.slice none 0 0, .slice none 0 0, .slice none 0 0, .slice none 0 0, .int .i64 0, .int .i64 0, .bool false] 50 (0, 0))) := Lib.hid (row_other R13z.out G14.out (by omega) (Array.getElem?_eq_some_iff.1 R13z.out).1)
  have R14t : Hid (W14.heap[gt]? = some (.cells #[.string ⟨#[]⟩, .string ⟨#[]⟩, .int .i64 0] 90 (0, 0))) := Lib.hid (row_other R13t.out G14.out (by omega) (Array.getElem?_eq_some_iff.1 R13t.out).1)
  have B14 : Hid (Below w.heap.size w W14) := Lib.hid (bel_grown B13.out B13.out.size G14.out (by have := HGW.out; omega))
  have c14g0 : W14.cell? ⟨g, 0, none⟩ = some (.slice (some ⟨b, o, none⟩) nf fc) := row_cell R14g.out 0
  have c14f0 : W14.cell? ⟨gf, 0, none⟩ = some (.slice pA pn pc) := row_cell R14f.out 0
  have c14f1 : W14.cell? ⟨gf, 1, none⟩ = some (.int .i64 (pn : Int)) := row_cell R14f.out 1
  have HWT : Hid (Calls Try.prog 43 #[.slice (some ⟨b, o, none⟩) nf fc, .int .i64 (fi : Int), .agg #[.slice pA pn pc, .int .i64 (pn : Int)]] W14 fun e w' => ∃ A' c', e = .returned (.slice A' nf c') ∧ LOut 92 2 fileC W14 w' A' nf c' (R.fs.set fi (⟨pA, pc, pbs⟩, pn))) := Lib.hid (by
    obtain rfl := HPN.out
    exact rwith_any (some ⟨b, o, none⟩) R.fs nf fc (H.out.fl.trans HNF.out) (by omega) fi (⟨pA, pc, pbs⟩, pbs.length) W14 (by have := (H.out.below B14.out).rf.1; rw [HEQ.out.2.2.2.1] at this; exact this))
  go_wp2_with (first
    | ((with_reducible (refine wpList_store_mid rfl _ _ _ rfl ?_ ?_ ?_ ?_ ?_ ?_ ?_ ?_ ?_)); (exact gt); (exact 0); (exact ([.string ⟨#[]⟩, .string ⟨#[]⟩, .int .i64 0]).toArray); (exact rfl); (exact rfl); (exact T11.out); (exact info_tn3a); (exact cells3); rw [HW11.out])
    | ((with_reducible (refine wpList_load_cells 92 _ b (o + fi * 2) ([.slice pA pn pc, .int .i64 (sf : Int)]) HLD.out Try.underlying92 rfl info_fl2 ?_ rfl ?_ ?_)); (exact rfl); (exact rfl))
    | ((with_reducible (refine wpList_store_mid rfl _ _ _ rfl ?_ ?_ ?_ ?_ ?_ ?_ ?_ ?_ ?_)); (exact gf); (exact 0); (exact ([.slice pA pn pc, .int .i64 (sf : Int)]).toArray); (exact rfl); (exact rfl); (exact T13.out); (exact info_fl2a); (exact cells2); rw [HW13.out])
    | (refine wpList_load_row rfl _ _ rfl _ rfl _ _ _ _ R14f.out Try.underlying92 rfl info_fl2a ?_))
  refine HWT.out.mono ?_
  rintro e w15 ⟨A15, c15, rfl, ho15⟩
  have HO15 := Lib.hid ho15
  clear ho15
  have HS14 : Hid (∀ b, sF F g g3 gt gf b → b < W14.heap.size) := Lib.hid (fun b hb => by
    have h1 := B14.out.size
    have h2g := (Array.getElem?_eq_some_iff.1 R14g.out).1
    have h3z := (Array.getElem?_eq_some_iff.1 R14z.out).1
    have h4t := (Array.getElem?_eq_some_iff.1 R14t.out).1
    have h5f := (Array.getElem?_eq_some_iff.1 R14f.out).1
    rcases hb with h | h | h | h | h
    · have := HFW.out b h; omega
    all_goals omega)
  have R15g : Hid (w15.heap[g]? = some (.cells #[.slice (some ⟨b, o, none⟩) nf fc, .slice na n nc, .slice sa ns sc, .slice ta nt tc, .int .i64 (mo : Int), .int .i64 0, .bool false] 50 (0, 0))) := Lib.hid ((HO15.out.bel.block _ (Array.getElem?_eq_some_iff.1 R14g.out).1).trans R14g.out)
  have R15o : Hid (w15.heap[g2]? = some (.cells #[.int .i64 3, .string S, .string Z, .slice Ab nb cb] 58 (0, 0))) := Lib.hid ((HO15.out.bel.block _ (Array.getElem?_eq_some_iff.1 R14o.out).1).trans R14o.out)
  have R15z : Hid (w15.heap[g3]? = some (.cells #[.slice none 0 0, .slice none 0 0, .slice none 0 0, .slice none 0 0, .int .i64 0, .int .i64 0, .bool false] 50 (0, 0))) := Lib.hid ((HO15.out.bel.block _ (Array.getElem?_eq_some_iff.1 R14z.out).1).trans R14z.out)
  have R15t : Hid (w15.heap[gt]? = some (.cells #[.string ⟨#[]⟩, .string ⟨#[]⟩, .int .i64 0] 90 (0, 0))) := Lib.hid ((HO15.out.bel.block _ (Array.getElem?_eq_some_iff.1 R14t.out).1).trans R14t.out)
  have R15f : Hid (w15.heap[gf]? = some (.cells #[.slice pA pn pc, .int .i64 (pn : Int)] 92 (0, 0))) := Lib.hid ((HO15.out.bel.block _ (Array.getElem?_eq_some_iff.1 R14f.out).1).trans R14f.out)
  have B15 : Hid (Below w.heap.size w w15) := Lib.hid (B14.out.trans (HO15.out.bel.mono B14.out.size))
  have X15_15 : Hid (Frm (sF F g g3 gt gf) w15 w15) := Lib.hid (Frm.refl _ _)
  have c15g0 : w15.cell? ⟨g, 0, none⟩ = some (.slice (some ⟨b, o, none⟩) nf fc) := row_cell R15g.out 0
  have f15g0 : w15.frozen? ⟨g, 0, none⟩ = false := row_free R15g.out 0
  obtain ⟨W16, hW16⟩ : ∃ W, w15.setCell ⟨g, 0, none⟩ (.slice A15 nf c15) = W := ⟨_, rfl⟩
  have G16 : Hid (w15.grownBy W16 (some g)) := Lib.hid (by rw [← hW16]; exact grown_set g 0 _)
  have R16g : Hid (W16.heap[g]? = some (.cells #[.slice A15 nf c15, .slice na n nc, .slice sa ns sc, .slice ta nt tc, .int .i64 (mo : Int), .int .i64 0, .bool false] 50 (0, 0))) := Lib.hid (by have h9 := row_set R15g.out 0 (.slice A15 nf c15); rw [hW16] at h9; simpa using h9)
  have R16o : Hid (W16.heap[g2]? = some (.cells #[.int .i64 3, .string S, .string Z, .slice Ab nb cb] 58 (0, 0))) := Lib.hid (row_other R15o.out G16.out (by omega) (Array.getElem?_eq_some_iff.1 R15o.out).1)
  have R16z : Hid (W16.heap[g3]? = some (.cells #[.slice none 0 0, .slice none 0 0, .slice none 0 0, .slice none 0 0, .int .i64 0, .int .i64 0, .bool false] 50 (0, 0))) := Lib.hid (row_other R15z.out G16.out (by omega) (Array.getElem?_eq_some_iff.1 R15z.out).1)
  have R16t : Hid (W16.heap[gt]? = some (.cells #[.string ⟨#[]⟩, .string ⟨#[]⟩, .int .i64 0] 90 (0, 0))) := Lib.hid (row_other R15t.out G16.out (by omega) (Array.getElem?_eq_some_iff.1 R15t.out).1)
  have R16f : Hid (W16.heap[gf]? = some (.cells #[.slice pA pn pc, .int .i64 (pn : Int)] 92 (0, 0))) := Lib.hid (row_other R15f.out G16.out (by omega) (Array.getElem?_eq_some_iff.1 R15f.out).1)
  have B16 : Hid (Below w.heap.size w W16) := Lib.hid (bel_grown B15.out B15.out.size G16.out (by have := HGW.out; omega))
  have X16_15 : Hid (Frm (sF F g g3 gt gf) w15 W16) := Lib.hid (X15_15.out.trans (grown_frm (F := sF F g g3 gt gf) G16.out (.inr (.inl rfl))) (fun i hi => .inl hi))
  obtain ⟨W17, hW17, T17, R17z, G17⟩ := put_row (new := [.slice A15 nf c15, .slice na n nc, .slice sa ns sc, .slice ta nt tc, .int .i64 (mo : Int), .int .i64 0, .bool false]) R16z.out rfl
  have HW17 := Lib.hid hW17
  clear hW17
  have R17g : Hid (W17.heap[g]? = some (.cells #[.slice A15 nf c15, .slice na n nc, .slice sa ns sc, .slice ta nt tc, .int .i64 (mo : Int), .int .i64 0, .bool false] 50 (0, 0))) := Lib.hid (row_other R16g.out G17.out (by omega) (Array.getElem?_eq_some_iff.1 R16g.out).1)
  have R17o : Hid (W17.heap[g2]? = some (.cells #[.int .i64 3, .string S, .string Z, .slice Ab nb cb] 58 (0, 0))) := Lib.hid (row_other R16o.out G17.out (by omega) (Array.getElem?_eq_some_iff.1 R16o.out).1)
  have R17t : Hid (W17.heap[gt]? = some (.cells #[.string ⟨#[]⟩, .string ⟨#[]⟩, .int .i64 0] 90 (0, 0))) := Lib.hid (row_other R16t.out G17.out (by omega) (Array.getElem?_eq_some_iff.1 R16t.out).1)
  have R17f : Hid (W17.heap[gf]? = some (.cells #[.slice pA pn pc, .int .i64 (pn : Int)] 92 (0, 0))) := Lib.hid (row_other R16f.out G17.out (by omega) (Array.getElem?_eq_some_iff.1 R16f.out).1)
  have B17 : Hid (Below w.heap.size w W17) := Lib.hid (bel_grown B16.out B16.out.size G17.out (by have := HGW.out; omega))
  have X17_15 : Hid (Frm (sF F g g3 gt gf) w15 W17) := Lib.hid (X16_15.out.trans (grown_frm (F := sF F g g3 gt gf) G17.out (.inr (.inr (.inl rfl)))) (fun i hi => .inl hi))
  obtain ⟨R9, hR9⟩ : ∃ x : RA, x = { R with fs := R.fs.set fi (⟨pA, pc, pbs⟩, pn), fa := A15, fc := c15 } := ⟨_, rfl⟩
  have HRI : Hid (RIn F W17 R9 mm) := Lib.hid (by
    rw [hR9, ← HMM.out]
    have hA9 : RdF (sF F g g3 gt gf) W17 A15 (filesC (R.fs.set fi (⟨pA, pc, pbs⟩, pn))) := (fresh_rdf HO15.out.rd HO15.out.addr HS14.out).frm X17_15.out (fun b hb => hb)
    have h9 := (((H.out.wide (G := sF F g g3 gt gf) (by rintro b (h | h | h | h | h); exact .inl h; all_goals (right; have h1 := HGW.out; omega))).below B17.out)).setf (c := c15) hA9 (by have := (((H.out.wide (G := sF F g g3 gt gf) (by rintro b (h | h | h | h | h); exact .inl h; all_goals (right; have h1 := HGW.out; omega))).below B17.out)).rb _ HMEM.out; exact this)
    refine (h9.narrow (fun b hb => .inl hb)).same ?_ rfl rfl rfl
    rw [HFM.out]
    have := HPN.out
    subst this
    rfl)
  have HV : Hid (R9.val mm = .agg #[.slice A15 nf c15, .slice na n nc, .slice sa ns sc, .slice ta nt tc, .int .i64 (mo : Int), .int .i64 0, .bool false]) := Lib.hid (by
    obtain ⟨e1, e2, e3, e4, e5, e6, e7, e8, e9, e10, e11, e12, e13⟩ := HEQ.out
    rw [hR9, ← HMM.out]
    simp only [RA.val, RA.row, setF, List.length_set, List.length_append, List.length_cons, List.length_nil, e1, e2, e3, e4, e5, e6, e7, e8, e9, e10, e11, e12, e13, HDN.out]
    try rfl)
  go_wp2_with (first
    | (refine wpList_load_row rfl _ _ rfl _ rfl _ _ _ _ R16g.out Try.underlying50 rfl info_dk7 ?_)
    | ((with_reducible (refine wpList_store_mid rfl _ _ _ rfl ?_ ?_ ?_ ?_ ?_ ?_ ?_ ?_ ?_)); (exact g3); (exact 0); (exact ([.slice A15 nf c15, .slice na n nc, .slice sa ns sc, .slice ta nt tc, .int .i64 (mo : Int), .int .i64 0, .bool false]).toArray); (exact rfl); (exact rfl); (exact T17.out); (exact info_dk7); (exact cells7); rw [HW17.out]))
  refine bodyPost_ret (results_row_tmp rfl _ _ _ _ _ _ _ rfl R17z.out Try.underlying50 rfl info_dk7) rfl ⟨R9, by rw [HV.out]; rfl, HRI.out, B17.out⟩
set_option maxRecDepth 100000 in
set_option maxHeartbeats 16000000 in
theorem rdo3f (he : wrongM m 3 S.data.toList Z.data.toList nb = 0) (hdn : m.down = false) (x : Nat) (hfu : m.fuse = x + 2) (fi : Nat) (hfi : findN m.now S.data.toList = some fi) :
    Calls Try.prog 25 #[R.val m, .agg #[.int .i64 3, .string S, .string Z, .slice Ab nb cb]] w fun e w' => ∃ R' : RA, e = .returned (.tuple #[R'.val (setF { m with fuse := (x + 1) } fi ⟨(fileM m fi).b, (fileM m fi).b.length⟩), .int .i64 0]) ∧ RIn F w' R' (setF { m with fuse := (x + 1) } fi ⟨(fileM m fi).b, (fileM m fi).b.length⟩) ∧ Below w.heap.size w w' := by
  obtain ⟨mm, hmm⟩ : ∃ y, setF { m with fuse := (x + 1) } fi ⟨(fileM m fi).b, (fileM m fi).b.length⟩ = y := ⟨_, rfl⟩
  rw [hmm]
  have HMM := Lib.hid hmm
  clear hmm
  have HFI := Lib.hid hfi
  clear hfi
  have hxb : x ≤ 9223372036854775805 := by have := hf.fuse; omega
  have H := Lib.hid h
  obtain ⟨fq, hfq, hfq2⟩ := findN_mem HFI.out
  have hfl : fi < m.files.length := by have := hf.ids.now _ hfq; rw [hfq2] at this; exact this
  obtain ⟨⟨⟨pA, pc, pbs⟩, sf⟩, hfp, hmem, hfm, _⟩ := h.file hfl
  obtain ⟨b, o, hA0, hrow⟩ := h.fcell hfp
  obtain ⟨pn, hpn⟩ : ∃ x, pbs.length = x := ⟨_, rfl⟩
  have HPN := Lib.hid hpn
  have HRX : Hid (∀ W, Below w.heap.size w W → W.rangeAt b (o + fi * 2) [.slice pA pn pc, .int .i64 (sf : Int)]) := Lib.hid (fun W hb => range_below (by rw [← hpn]; exact hrow) (World.block_lt_of_cell? w _ (hrow 0 _ rfl)) hb)
  have HFM : Hid (fileM m fi = ⟨pbs, sf⟩) := Lib.hid hfm
  have HMEM := Lib.hid hmem
  have HPL : Hid (pbs.length ≤ L) := Lib.hid (by have := (hf.fileM fi).1; rw [hfm] at this; exact this)
  have HFL := Lib.hid hfl
  clear hfq hfq2 hfl hfp hmem hfm hrow hpn
  have HF := Lib.hid hf
  have HFW := Lib.hid hF
  have HBS := Lib.hid hbs
  have HNB := Lib.hid hnb
  have hnb' := hnb.2
  have hflk := hf.files
  have hnwk := hf.now
  have hstk := hf.st
  have hfuk := hf.fuse
  have hlk : ∀ i, (fileM m i).b.length ≤ L ∧ (fileM m i).safe ≤ (fileM m i).b.length := fun i => hf.fileM i
  have HLK := Lib.hid hlk
  clear hlk
  obtain ⟨nf, hnf⟩ : ∃ n, m.files.length = n := ⟨_, rfl⟩
  obtain ⟨n, hn⟩ : ∃ n, m.now.length = n := ⟨_, rfl⟩
  have hnk : n ≤ 998 := by omega
  have hnfk : nf ≤ 998 := by omega
  obtain ⟨na, hna⟩ : ∃ n, R.na = n := ⟨_, rfl⟩
  have hfa : R.fa = some ⟨b, o, none⟩ := hA0
  obtain ⟨fc, hfc⟩ : ∃ n, R.fc = n := ⟨_, rfl⟩
  obtain ⟨nc, hnc⟩ : ∃ n, R.nc = n := ⟨_, rfl⟩
  obtain ⟨sa, hsa⟩ : ∃ n, R.sa = n := ⟨_, rfl⟩
  obtain ⟨sc, hsc⟩ : ∃ n, R.sc = n := ⟨_, rfl⟩
  obtain ⟨ta, hta⟩ : ∃ n, R.ta = n := ⟨_, rfl⟩
  obtain ⟨tc, htc⟩ : ∃ n, R.tc = n := ⟨_, rfl⟩
  obtain ⟨ns, hns⟩ : ∃ n, m.sure.length = n := ⟨_, rfl⟩
  obtain ⟨nt, hnt⟩ : ∃ n, m.turns.length = n := ⟨_, rfl⟩
  have hntk : nt ≤ 998 := by omega
  obtain ⟨mo, hmo⟩ : ∃ n, m.most = n := ⟨_, rfl⟩

  have jf : (fi : Int) < (nf : Int) := by have := HFL.out; omega
  have HEQ : Hid (m.files.length = nf ∧ m.now.length = n ∧ R.na = na ∧ R.fa = some ⟨b, o, none⟩ ∧ R.fc = fc ∧ R.nc = nc ∧ R.sa = sa ∧ R.sc = sc ∧ R.ta = ta ∧ R.tc = tc ∧ m.sure.length = ns ∧ m.turns.length = nt ∧ m.most = mo) := Lib.hid ⟨hnf, hn, hna, hfa, hfc, hnc, hsa, hsc, hta, htc, hns, hnt, hmo⟩
  have HVAL : Hid (R.val m = .agg #[.slice (some ⟨b, o, none⟩) nf fc, .slice na n nc, .slice sa ns sc, .slice ta nt tc, .int .i64 (mo : Int), .int .i64 ((x : Int) + 2), .bool false]) := Lib.hid (by
    unfold RA.val RA.row
    rw [hn, hnf, hfa, hna, hsa, hta, hfc, hnc, hsc, htc, hns, hnt, hmo, hfu, hdn]
    try first | rfl | simp)
  have HN := Lib.hid hn
  have HNF := Lib.hid hnf
  have HFU := Lib.hid hfu
  have HDN := Lib.hid hdn
  rw [HVAL.out]
  obtain ⟨g, hg⟩ : ∃ g, w.heap.size = g := ⟨_, rfl⟩
  have HGW := Lib.hid hg
  obtain ⟨W1, hW1⟩ : ∃ W, w.alloc (.cells #[.slice (some ⟨b, o, none⟩) nf fc, .slice na n nc, .slice sa ns sc, .slice ta nt tc, .int .i64 (mo : Int), .int .i64 ((x : Int) + 2), .bool false] 50) = W := ⟨_, rfl⟩
  obtain ⟨r1, b1, s1⟩ := new_row hW1
  obtain ⟨W2, hW2⟩ : ∃ W, W1.alloc (.cells #[.int .i64 3, .string S, .string Z, .slice Ab nb cb] 58) = W := ⟨_, rfl⟩
  obtain ⟨r2, b2, s2⟩ := new_row hW2
  obtain ⟨W3, hW3⟩ : ∃ W, W2.alloc (.cells #[.slice none 0 0, .slice none 0 0, .slice none 0 0, .slice none 0 0, .int .i64 0, .int .i64 0, .bool false] 50) = W := ⟨_, rfl⟩
  obtain ⟨r3, b3, s3⟩ := new_row hW3
  obtain ⟨g2, hg2⟩ : ∃ g, W1.heap.size = g := ⟨_, rfl⟩
  obtain ⟨g3, hg3⟩ : ∃ g, W2.heap.size = g := ⟨_, rfl⟩
  have hl1 : g < g2 := by omega
  have hl2 : g2 < g3 := by omega
  replace r1 := (b3.block _ (by omega)).trans ((b2.block _ (by omega)).trans r1)
  replace r2 := (b3.block _ (by omega)).trans r2
  rw [hg] at r1
  rw [hg2] at r2
  rw [hg3] at r3
  have R3g := Lib.hid r1
  have R3o := Lib.hid r2
  have R3z := Lib.hid r3
  have B3 : Hid (Below w.heap.size w W3) := Lib.hid (b1.trans ((b2.mono b1.size).trans (b3.mono (Nat.le_trans b1.size b2.size))))
  have HWR : Hid (Calls Try.prog 40 #[R.val m, .agg #[.int .i64 3, .string S, .string Z, .slice Ab nb cb]] W3 fun e w' => e = .returned (.int .i64 0) ∧ Below W3.heap.size W3 w') := Lib.hid (rwrong_any R m S Z Ab nb cb W3 (h.below B3.out) hf (by omega) (by omega) hnb' 3 ⟨by omega, by omega⟩ 0 he)
  rw [HVAL.out] at HWR
  clear hA0 h hf hF hbs hnb he hn hnf hna hfa hfc hnc hsa hsc hta htc hns hnt hmo hfu hdn b1 s1 b2 s2 b3 s3 hflk hnwk hstk hfuk 
  go_enter Try.func25, Try.ntmps25
  go_wp2_with (first
    | (refine wpList_load_row rfl _ _ rfl _ rfl _ _ _ _ r1 Try.underlying50 rfl info_dk7 ?_)
    | (refine wpList_load_row rfl _ _ rfl _ rfl _ _ _ _ r2 Try.underlying58 rfl info_op4 ?_))
  try rw [hg, hg2, hg3]
  clear hg hg2 hg3 hW1 hW2 hW3 r1 r2 r3
  refine HWR.out.mono ?_
  rintro e w4 ⟨rfl, hb4⟩
  have R4g : Hid (w4.heap[g]? = some (.cells #[.slice (some ⟨b, o, none⟩) nf fc, .slice na n nc, .slice sa ns sc, .slice ta nt tc, .int .i64 (mo : Int), .int .i64 ((x : Int) + 2), .bool false] 50 (0, 0))) := Lib.hid ((hb4.block _ (Array.getElem?_eq_some_iff.1 R3g.out).1).trans R3g.out)
  have R4o : Hid (w4.heap[g2]? = some (.cells #[.int .i64 3, .string S, .string Z, .slice Ab nb cb] 58 (0, 0))) := Lib.hid ((hb4.block _ (Array.getElem?_eq_some_iff.1 R3o.out).1).trans R3o.out)
  have R4z : Hid (w4.heap[g3]? = some (.cells #[.slice none 0 0, .slice none 0 0, .slice none 0 0, .slice none 0 0, .int .i64 0, .int .i64 0, .bool false] 50 (0, 0))) := Lib.hid ((hb4.block _ (Array.getElem?_eq_some_iff.1 R3z.out).1).trans R3z.out)
  have B4 : Hid (Below w.heap.size w w4) := Lib.hid (B3.out.trans (hb4.mono B3.out.size))
  have c4g5 : w4.cell? ⟨g, 5, none⟩ = some (.int .i64 ((x : Int) + 2)) := row_cell R4g.out 5
  have f4g5 : w4.frozen? ⟨g, 5, none⟩ = false := row_free R4g.out 5
  obtain ⟨W5, hW5⟩ : ∃ W, w4.setCell ⟨g, 5, none⟩ (.int .i64 ((x : Int) + 1)) = W := ⟨_, rfl⟩
  have G5 : Hid (w4.grownBy W5 (some g)) := Lib.hid (by rw [← hW5]; exact grown_set g 5 _)
  have R5g : Hid (W5.heap[g]? = some (.cells #[.slice (some ⟨b, o, none⟩) nf fc, .slice na n nc, .slice sa ns sc, .slice ta nt tc, .int .i64 (mo : Int), .int .i64 ((x : Int) + 1), .bool false] 50 (0, 0))) := Lib.hid (by have h9 := row_set R4g.out 5 (.int .i64 ((x : Int) + 1)); rw [hW5] at h9; simpa using h9)
  have R5o : Hid (W5.heap[g2]? = some (.cells #[.int .i64 3, .string S, .string Z, .slice Ab nb cb] 58 (0, 0))) := Lib.hid (row_other R4o.out G5.out (by omega) (Array.getElem?_eq_some_iff.1 R4o.out).1)
  have R5z : Hid (W5.heap[g3]? = some (.cells #[.slice none 0 0, .slice none 0 0, .slice none 0 0, .slice none 0 0, .int .i64 0, .int .i64 0, .bool false] 50 (0, 0))) := Lib.hid (row_other R4z.out G5.out (by omega) (Array.getElem?_eq_some_iff.1 R4z.out).1)
  have B5 : Hid (Below w.heap.size w W5) := Lib.hid (bel_grown B4.out B4.out.size G5.out (by have := HGW.out; omega))
  have c5g0 : W5.cell? ⟨g, 0, none⟩ = some (.slice (some ⟨b, o, none⟩) nf fc) := row_cell R5g.out 0
  have c5g1 : W5.cell? ⟨g, 1, none⟩ = some (.slice na n nc) := row_cell R5g.out 1
  have c5g3 : W5.cell? ⟨g, 3, none⟩ = some (.slice ta nt tc) := row_cell R5g.out 3
  have c5g5 : W5.cell? ⟨g, 5, none⟩ = some (.int .i64 ((x : Int) + 1)) := row_cell R5g.out 5
  have c5o0 : W5.cell? ⟨g2, 0, none⟩ = some (.int .i64 3) := row_cell R5o.out 0
  have c5o1 : W5.cell? ⟨g2, 1, none⟩ = some (.string S) := row_cell R5o.out 1
  have c5o2 : W5.cell? ⟨g2, 2, none⟩ = some (.string Z) := row_cell R5o.out 2
  have c5o3 : W5.cell? ⟨g2, 3, none⟩ = some (.slice Ab nb cb) := row_cell R5o.out 3
  have j9 : (0 : Int) < (x : Int) + 2 := by omega
  have j8 : (x : Int) + 2 - 1 = (x : Int) + 1 := by omega
  have j7 : ((x : Int) + 1 == 0) = false := by rw [beq_eq_false_iff_ne]; omega
  have j6 : IntKind.i64.wrap ((x : Int) + 1) = (x : Int) + 1 := by rw [IntKind.wrap_i64]; omega
  have HFND := Lib.hid (rfind_any na m.now n nc HN.out (by omega) S W5 (by have := (H.out.below B5.out).rn.1; rw [HEQ.out.2.2.1] at this; exact this))
  obtain ⟨q, hq⟩ : ∃ q, findI m.now S.data.toList = q := ⟨_, rfl⟩
  rw [hq] at HFND
  obtain rfl : q = (fi : Int) := by rw [← hq]; exact findI_some HFI.out
  clear hq
  go_wp2_with fail
  refine HFND.out.mono ?_
  rintro e w9 ⟨rfl, rfl⟩
  have R9g := R5g
  have R9o := R5o
  have R9z := R5z
  have B9 := B5
  obtain ⟨gt, hq10⟩ : ∃ x, w9.heap.size = x := ⟨_, rfl⟩
  obtain ⟨W10, hW10⟩ : ∃ W, w9.alloc (.cells #[.string ⟨#[]⟩, .string ⟨#[]⟩, .int .i64 0] 90) = W := ⟨_, rfl⟩
  obtain ⟨r10, b10, s10⟩ := new_row hW10
  have R10g : Hid (W10.heap[g]? = some (.cells #[.slice (some ⟨b, o, none⟩) nf fc, .slice na n nc, .slice sa ns sc, .slice ta nt tc, .int .i64 (mo : Int), .int .i64 ((x : Int) + 1), .bool false] 50 (0, 0))) := Lib.hid ((b10.block _ (Array.getElem?_eq_some_iff.1 R9g.out).1).trans R9g.out)
  have R10o : Hid (W10.heap[g2]? = some (.cells #[.int .i64 3, .string S, .string Z, .slice Ab nb cb] 58 (0, 0))) := Lib.hid ((b10.block _ (Array.getElem?_eq_some_iff.1 R9o.out).1).trans R9o.out)
  have R10z : Hid (W10.heap[g3]? = some (.cells #[.slice none 0 0, .slice none 0 0, .slice none 0 0, .slice none 0 0, .int .i64 0, .int .i64 0, .bool false] 50 (0, 0))) := Lib.hid ((b10.block _ (Array.getElem?_eq_some_iff.1 R9z.out).1).trans R9z.out)
  have B10 : Hid (Below w.heap.size w W10) := Lib.hid (B9.out.trans (b10.mono B9.out.size))
  rw [hq10] at r10
  have R10t := Lib.hid r10
  have HQ10 := Lib.hid hq10
  clear b10 s10
  have hl3 : g3 < gt := by have := (Array.getElem?_eq_some_iff.1 R9z.out).1; have := HQ10.out; omega
  obtain ⟨W11, hW11, T11, R11t, G11⟩ := put_row (new := [.string ⟨#[]⟩, .string ⟨#[]⟩, .int .i64 0]) R10t.out rfl
  have HW11 := Lib.hid hW11
  clear hW11
  have R11g : Hid (W11.heap[g]? = some (.cells #[.slice (some ⟨b, o, none⟩) nf fc, .slice na n nc, .slice sa ns sc, .slice ta nt tc, .int .i64 (mo : Int), .int .i64 ((x : Int) + 1), .bool false] 50 (0, 0))) := Lib.hid (row_other R10g.out G11.out (by omega) (Array.getElem?_eq_some_iff.1 R10g.out).1)
  have R11o : Hid (W11.heap[g2]? = some (.cells #[.int .i64 3, .string S, .string Z, .slice Ab nb cb] 58 (0, 0))) := Lib.hid (row_other R10o.out G11.out (by omega) (Array.getElem?_eq_some_iff.1 R10o.out).1)
  have R11z : Hid (W11.heap[g3]? = some (.cells #[.slice none 0 0, .slice none 0 0, .slice none 0 0, .slice none 0 0, .int .i64 0, .int .i64 0, .bool false] 50 (0, 0))) := Lib.hid (row_other R10z.out G11.out (by omega) (Array.getElem?_eq_some_iff.1 R10z.out).1)
  have B11 : Hid (Below w.heap.size w W11) := Lib.hid (bel_grown B10.out B10.out.size G11.out (by have := HGW.out; omega))
  have c11o0 : W11.cell? ⟨g2, 0, none⟩ = some (.int .i64 3) := row_cell R11o.out 0
  have c11o1 : W11.cell? ⟨g2, 1, none⟩ = some (.string S) := row_cell R11o.out 1
  have c11o2 : W11.cell? ⟨g2, 2, none⟩ = some (.string Z) := row_cell R11o.out 2
  have c11o3 : W11.cell? ⟨g2, 3, none⟩ = some (.slice Ab nb cb) := row_cell R11o.out 3
  have c11g0 : W11.cell? ⟨g, 0, none⟩ = some (.slice (some ⟨b, o, none⟩) nf fc) := row_cell R11g.out 0
  have c11g1 : W11.cell? ⟨g, 1, none⟩ = some (.slice na n nc) := row_cell R11g.out 1
  have c11g3 : W11.cell? ⟨g, 3, none⟩ = some (.slice ta nt tc) := row_cell R11g.out 3
  obtain ⟨gf, hgf⟩ : ∃ x, W11.heap.size = x := ⟨_, rfl⟩
  obtain ⟨W12, hW12⟩ : ∃ W, W11.alloc (.cells #[.slice none 0 0, .int .i64 0] 92) = W := ⟨_, rfl⟩
  obtain ⟨r12, b12, s12⟩ := new_row hW12
  have HLD := Lib.hid (HRX.out _ B11.out)
  have R12g : Hid (W12.heap[g]? = some (.cells #[.slice (some ⟨b, o, none⟩) nf fc, .slice na n nc, .slice sa ns sc, .slice ta nt tc, .int .i64 (mo : Int), .int .i64 ((x : Int) + 1), .bool false] 50 (0, 0))) := Lib.hid ((b12.block _ (Array.getElem?_eq_some_iff.1 R11g.out).1).trans R11g.out)
  have R12o : Hid (W12.heap[g2]? = some (.cells #[.int .i64 3, .string S, .string Z, .slice Ab nb cb] 58 (0, 0))) := Lib.hid ((b12.block _ (Array.getElem?_eq_some_iff.1 R11o.out).1).trans R11o.out)
  have R12z : Hid (W12.heap[g3]? = some (.cells #[.slice none 0 0, .slice none 0 0, .slice none 0 0, .slice none 0 0, .int .i64 0, .int .i64 0, .bool false] 50 (0, 0))) := Lib.hid ((b12.block _ (Array.getElem?_eq_some_iff.1 R11z.out).1).trans R11z.out)
  have R12t : Hid (W12.heap[gt]? = some (.cells #[.string ⟨#[]⟩, .string ⟨#[]⟩, .int .i64 0] 90 (0, 0))) := Lib.hid ((b12.block _ (Array.getElem?_eq_some_iff.1 R11t.out).1).trans R11t.out)
  have B12 : Hid (Below w.heap.size w W12) := Lib.hid (B11.out.trans (b12.mono B11.out.size))
  rw [hgf] at r12
  have R12f := Lib.hid r12
  have HGF := Lib.hid hgf
  have hl4 : gt < gf := by have := (Array.getElem?_eq_some_iff.1 R11t.out).1; omega
  clear b12 s12
  obtain ⟨W13, hW13, T13, R13f, G13⟩ := put_row (new := [.slice pA pn pc, .int .i64 (sf : Int)]) R12f.out rfl
  have HW13 := Lib.hid hW13
  clear hW13
  have R13g : Hid (W13.heap[g]? = some (.cells #[.slice (some ⟨b, o, none⟩) nf fc, .slice na n nc, .slice sa ns sc, .slice ta nt tc, .int .i64 (mo : Int), .int .i64 ((x : Int) + 1), .bool false] 50 (0, 0))) := Lib.hid (row_other R12g.out G13.out (by omega) (Array.getElem?_eq_some_iff.1 R12g.out).1)
  have R13o : Hid (W13.heap[g2]? = some (.cells #[.int .i64 3, .string S, .string Z, .slice Ab nb cb] 58 (0, 0))) := Lib.hid (row_other R12o.out G13.out (by omega) (Array.getElem?_eq_some_iff.1 R12o.out).1)
  have R13z : Hid (W13.heap[g3]? = some (.cells #[.slice none 0 0, .slice none 0 0, .slice none 0 0, .slice none 0 0, .int .i64 0, .int .i64 0, .bool false] 50 (0, 0))) := Lib.hid (row_other R12z.out G13.out (by omega) (Array.getElem?_eq_some_iff.1 R12z.out).1)
  have R13t : Hid (W13.heap[gt]? = some (.cells #[.string ⟨#[]⟩, .string ⟨#[]⟩, .int .i64 0] 90 (0, 0))) := Lib.hid (row_other R12t.out G13.out (by omega) (Array.getElem?_eq_some_iff.1 R12t.out).1)
  have B13 : Hid (Below w.heap.size w W13) := Lib.hid (bel_grown B12.out B12.out.size G13.out (by have := HGW.out; omega))
  have c13f0 : W13.cell? ⟨gf, 0, none⟩ = some (.slice pA pn pc) := row_cell R13f.out 0
  have c13f1 : W13.cell? ⟨gf, 1, none⟩ = some (.int .i64 (sf : Int)) := row_cell R13f.out 1
  have f13f1 : W13.frozen? ⟨gf, 1, none⟩ = false := row_free R13f.out 1
  obtain ⟨W14, hW14⟩ : ∃ W, W13.setCell ⟨gf, 1, none⟩ (.int .i64 (pn : Int)) = W := ⟨_, rfl⟩
  have G14 : Hid (W13.grownBy W14 (some gf)) := Lib.hid (by rw [← hW14]; exact grown_set gf 1 _)
  have R14f : Hid (W14.heap[gf]? = some (.cells #[.slice pA pn pc, .int .i64 (pn : Int)] 92 (0, 0))) := Lib.hid (by have h9 := row_set R13f.out 1 (.int .i64 (pn : Int)); rw [hW14] at h9; simpa using h9)
  have R14g : Hid (W14.heap[g]? = some (.cells #[.slice (some ⟨b, o, none⟩) nf fc, .slice na n nc, .slice sa ns sc, .slice ta nt tc, .int .i64 (mo : Int), .int .i64 ((x : Int) + 1), .bool false] 50 (0, 0))) := Lib.hid (row_other R13g.out G14.out (by omega) (Array.getElem?_eq_some_iff.1 R13g.out).1)
  have R14o : Hid (W14.heap[g2]? = some (.cells #[.int .i64 3, .string S, .string Z, .slice Ab nb cb] 58 (0, 0))) := Lib.hid (row_other R13o.out G14.out (by omega) (Array.getElem?_eq_some_iff.1 R13o.out).1)
  have R14z : Hid (W14.heap[g3]? = some (.cells #[.slice none 0 0, .slice none 0 0, .slice none 0 0, .slice none 0 0, .int .i64 0, .int .i64 0, .bool false] 50 (0, 0))) := Lib.hid (row_other R13z.out G14.out (by omega) (Array.getElem?_eq_some_iff.1 R13z.out).1)
  have R14t : Hid (W14.heap[gt]? = some (.cells #[.string ⟨#[]⟩, .string ⟨#[]⟩, .int .i64 0] 90 (0, 0))) := Lib.hid (row_other R13t.out G14.out (by omega) (Array.getElem?_eq_some_iff.1 R13t.out).1)
  have B14 : Hid (Below w.heap.size w W14) := Lib.hid (bel_grown B13.out B13.out.size G14.out (by have := HGW.out; omega))
  have c14g0 : W14.cell? ⟨g, 0, none⟩ = some (.slice (some ⟨b, o, none⟩) nf fc) := row_cell R14g.out 0
  have c14f0 : W14.cell? ⟨gf, 0, none⟩ = some (.slice pA pn pc) := row_cell R14f.out 0
  have c14f1 : W14.cell? ⟨gf, 1, none⟩ = some (.int .i64 (pn : Int)) := row_cell R14f.out 1
  have HWT : Hid (Calls Try.prog 43 #[.slice (some ⟨b, o, none⟩) nf fc, .int .i64 (fi : Int), .agg #[.slice pA pn pc, .int .i64 (pn : Int)]] W14 fun e w' => ∃ A' c', e = .returned (.slice A' nf c') ∧ LOut 92 2 fileC W14 w' A' nf c' (R.fs.set fi (⟨pA, pc, pbs⟩, pn))) := Lib.hid (by
    obtain rfl := HPN.out
    exact rwith_any (some ⟨b, o, none⟩) R.fs nf fc (H.out.fl.trans HNF.out) (by omega) fi (⟨pA, pc, pbs⟩, pbs.length) W14 (by have := (H.out.below B14.out).rf.1; rw [HEQ.out.2.2.2.1] at this; exact this))
  go_wp2_with (first
    | ((with_reducible (refine wpList_store_mid rfl _ _ _ rfl ?_ ?_ ?_ ?_ ?_ ?_ ?_ ?_ ?_)); (exact gt); (exact 0); (exact ([.string ⟨#[]⟩, .string ⟨#[]⟩, .int .i64 0]).toArray); (exact rfl); (exact rfl); (exact T11.out); (exact info_tn3a); (exact cells3); rw [HW11.out])
    | ((with_reducible (refine wpList_load_cells 92 _ b (o + fi * 2) ([.slice pA pn pc, .int .i64 (sf : Int)]) HLD.out Try.underlying92 rfl info_fl2 ?_ rfl ?_ ?_)); (exact rfl); (exact rfl))
    | ((with_reducible (refine wpList_store_mid rfl _ _ _ rfl ?_ ?_ ?_ ?_ ?_ ?_ ?_ ?_ ?_)); (exact gf); (exact 0); (exact ([.slice pA pn pc, .int .i64 (sf : Int)]).toArray); (exact rfl); (exact rfl); (exact T13.out); (exact info_fl2a); (exact cells2); rw [HW13.out])
    | (refine wpList_load_row rfl _ _ rfl _ rfl _ _ _ _ R14f.out Try.underlying92 rfl info_fl2a ?_))
  refine HWT.out.mono ?_
  rintro e w15 ⟨A15, c15, rfl, ho15⟩
  have HO15 := Lib.hid ho15
  clear ho15
  have HS14 : Hid (∀ b, sF F g g3 gt gf b → b < W14.heap.size) := Lib.hid (fun b hb => by
    have h1 := B14.out.size
    have h2g := (Array.getElem?_eq_some_iff.1 R14g.out).1
    have h3z := (Array.getElem?_eq_some_iff.1 R14z.out).1
    have h4t := (Array.getElem?_eq_some_iff.1 R14t.out).1
    have h5f := (Array.getElem?_eq_some_iff.1 R14f.out).1
    rcases hb with h | h | h | h | h
    · have := HFW.out b h; omega
    all_goals omega)
  have R15g : Hid (w15.heap[g]? = some (.cells #[.slice (some ⟨b, o, none⟩) nf fc, .slice na n nc, .slice sa ns sc, .slice ta nt tc, .int .i64 (mo : Int), .int .i64 ((x : Int) + 1), .bool false] 50 (0, 0))) := Lib.hid ((HO15.out.bel.block _ (Array.getElem?_eq_some_iff.1 R14g.out).1).trans R14g.out)
  have R15o : Hid (w15.heap[g2]? = some (.cells #[.int .i64 3, .string S, .string Z, .slice Ab nb cb] 58 (0, 0))) := Lib.hid ((HO15.out.bel.block _ (Array.getElem?_eq_some_iff.1 R14o.out).1).trans R14o.out)
  have R15z : Hid (w15.heap[g3]? = some (.cells #[.slice none 0 0, .slice none 0 0, .slice none 0 0, .slice none 0 0, .int .i64 0, .int .i64 0, .bool false] 50 (0, 0))) := Lib.hid ((HO15.out.bel.block _ (Array.getElem?_eq_some_iff.1 R14z.out).1).trans R14z.out)
  have R15t : Hid (w15.heap[gt]? = some (.cells #[.string ⟨#[]⟩, .string ⟨#[]⟩, .int .i64 0] 90 (0, 0))) := Lib.hid ((HO15.out.bel.block _ (Array.getElem?_eq_some_iff.1 R14t.out).1).trans R14t.out)
  have R15f : Hid (w15.heap[gf]? = some (.cells #[.slice pA pn pc, .int .i64 (pn : Int)] 92 (0, 0))) := Lib.hid ((HO15.out.bel.block _ (Array.getElem?_eq_some_iff.1 R14f.out).1).trans R14f.out)
  have B15 : Hid (Below w.heap.size w w15) := Lib.hid (B14.out.trans (HO15.out.bel.mono B14.out.size))
  have X15_15 : Hid (Frm (sF F g g3 gt gf) w15 w15) := Lib.hid (Frm.refl _ _)
  have c15g0 : w15.cell? ⟨g, 0, none⟩ = some (.slice (some ⟨b, o, none⟩) nf fc) := row_cell R15g.out 0
  have f15g0 : w15.frozen? ⟨g, 0, none⟩ = false := row_free R15g.out 0
  obtain ⟨W16, hW16⟩ : ∃ W, w15.setCell ⟨g, 0, none⟩ (.slice A15 nf c15) = W := ⟨_, rfl⟩
  have G16 : Hid (w15.grownBy W16 (some g)) := Lib.hid (by rw [← hW16]; exact grown_set g 0 _)
  have R16g : Hid (W16.heap[g]? = some (.cells #[.slice A15 nf c15, .slice na n nc, .slice sa ns sc, .slice ta nt tc, .int .i64 (mo : Int), .int .i64 ((x : Int) + 1), .bool false] 50 (0, 0))) := Lib.hid (by have h9 := row_set R15g.out 0 (.slice A15 nf c15); rw [hW16] at h9; simpa using h9)
  have R16o : Hid (W16.heap[g2]? = some (.cells #[.int .i64 3, .string S, .string Z, .slice Ab nb cb] 58 (0, 0))) := Lib.hid (row_other R15o.out G16.out (by omega) (Array.getElem?_eq_some_iff.1 R15o.out).1)
  have R16z : Hid (W16.heap[g3]? = some (.cells #[.slice none 0 0, .slice none 0 0, .slice none 0 0, .slice none 0 0, .int .i64 0, .int .i64 0, .bool false] 50 (0, 0))) := Lib.hid (row_other R15z.out G16.out (by omega) (Array.getElem?_eq_some_iff.1 R15z.out).1)
  have R16t : Hid (W16.heap[gt]? = some (.cells #[.string ⟨#[]⟩, .string ⟨#[]⟩, .int .i64 0] 90 (0, 0))) := Lib.hid (row_other R15t.out G16.out (by omega) (Array.getElem?_eq_some_iff.1 R15t.out).1)
  have R16f : Hid (W16.heap[gf]? = some (.cells #[.slice pA pn pc, .int .i64 (pn : Int)] 92 (0, 0))) := Lib.hid (row_other R15f.out G16.out (by omega) (Array.getElem?_eq_some_iff.1 R15f.out).1)
  have B16 : Hid (Below w.heap.size w W16) := Lib.hid (bel_grown B15.out B15.out.size G16.out (by have := HGW.out; omega))
  have X16_15 : Hid (Frm (sF F g g3 gt gf) w15 W16) := Lib.hid (X15_15.out.trans (grown_frm (F := sF F g g3 gt gf) G16.out (.inr (.inl rfl))) (fun i hi => .inl hi))
  obtain ⟨W17, hW17, T17, R17z, G17⟩ := put_row (new := [.slice A15 nf c15, .slice na n nc, .slice sa ns sc, .slice ta nt tc, .int .i64 (mo : Int), .int .i64 ((x : Int) + 1), .bool false]) R16z.out rfl
  have HW17 := Lib.hid hW17
  clear hW17
  have R17g : Hid (W17.heap[g]? = some (.cells #[.slice A15 nf c15, .slice na n nc, .slice sa ns sc, .slice ta nt tc, .int .i64 (mo : Int), .int .i64 ((x : Int) + 1), .bool false] 50 (0, 0))) := Lib.hid (row_other R16g.out G17.out (by omega) (Array.getElem?_eq_some_iff.1 R16g.out).1)
  have R17o : Hid (W17.heap[g2]? = some (.cells #[.int .i64 3, .string S, .string Z, .slice Ab nb cb] 58 (0, 0))) := Lib.hid (row_other R16o.out G17.out (by omega) (Array.getElem?_eq_some_iff.1 R16o.out).1)
  have R17t : Hid (W17.heap[gt]? = some (.cells #[.string ⟨#[]⟩, .string ⟨#[]⟩, .int .i64 0] 90 (0, 0))) := Lib.hid (row_other R16t.out G17.out (by omega) (Array.getElem?_eq_some_iff.1 R16t.out).1)
  have R17f : Hid (W17.heap[gf]? = some (.cells #[.slice pA pn pc, .int .i64 (pn : Int)] 92 (0, 0))) := Lib.hid (row_other R16f.out G17.out (by omega) (Array.getElem?_eq_some_iff.1 R16f.out).1)
  have B17 : Hid (Below w.heap.size w W17) := Lib.hid (bel_grown B16.out B16.out.size G17.out (by have := HGW.out; omega))
  have X17_15 : Hid (Frm (sF F g g3 gt gf) w15 W17) := Lib.hid (X16_15.out.trans (grown_frm (F := sF F g g3 gt gf) G17.out (.inr (.inr (.inl rfl)))) (fun i hi => .inl hi))
  obtain ⟨R9, hR9⟩ : ∃ x : RA, x = { R with fs := R.fs.set fi (⟨pA, pc, pbs⟩, pn), fa := A15, fc := c15 } := ⟨_, rfl⟩
  have HRI : Hid (RIn F W17 R9 mm) := Lib.hid (by
    rw [hR9, ← HMM.out]
    have hA9 : RdF (sF F g g3 gt gf) W17 A15 (filesC (R.fs.set fi (⟨pA, pc, pbs⟩, pn))) := (fresh_rdf HO15.out.rd HO15.out.addr HS14.out).frm X17_15.out (fun b hb => hb)
    have h9 := (((H.out.wide (G := sF F g g3 gt gf) (by rintro b (h | h | h | h | h); exact .inl h; all_goals (right; have h1 := HGW.out; omega))).below B17.out)).setf (c := c15) hA9 (by have := (((H.out.wide (G := sF F g g3 gt gf) (by rintro b (h | h | h | h | h); exact .inl h; all_goals (right; have h1 := HGW.out; omega))).below B17.out)).rb _ HMEM.out; exact this)
    refine (h9.narrow (fun b hb => .inl hb)).same ?_ rfl rfl rfl
    rw [HFM.out]
    have := HPN.out
    subst this
    rfl)
  have HV : Hid (R9.val mm = .agg #[.slice A15 nf c15, .slice na n nc, .slice sa ns sc, .slice ta nt tc, .int .i64 (mo : Int), .int .i64 ((x : Int) + 1), .bool false]) := Lib.hid (by
    obtain ⟨e1, e2, e3, e4, e5, e6, e7, e8, e9, e10, e11, e12, e13⟩ := HEQ.out
    rw [hR9, ← HMM.out]
    simp only [RA.val, RA.row, setF, List.length_set, List.length_append, List.length_cons, List.length_nil, e1, e2, e3, e4, e5, e6, e7, e8, e9, e10, e11, e12, e13, HDN.out]
    try rfl)
  go_wp2_with (first
    | (refine wpList_load_row rfl _ _ rfl _ rfl _ _ _ _ R16g.out Try.underlying50 rfl info_dk7 ?_)
    | ((with_reducible (refine wpList_store_mid rfl _ _ _ rfl ?_ ?_ ?_ ?_ ?_ ?_ ?_ ?_ ?_)); (exact g3); (exact 0); (exact ([.slice A15 nf c15, .slice na n nc, .slice sa ns sc, .slice ta nt tc, .int .i64 (mo : Int), .int .i64 ((x : Int) + 1), .bool false]).toArray); (exact rfl); (exact rfl); (exact T17.out); (exact info_dk7); (exact cells7); rw [HW17.out]))
  refine bodyPost_ret (results_row_tmp rfl _ _ _ _ _ _ _ rfl R17z.out Try.underlying50 rfl info_dk7) rfl ⟨R9, by rw [HV.out]; rfl, HRI.out, B17.out⟩
end

end Go.Proofs.Ytpmifpblamjclaa
