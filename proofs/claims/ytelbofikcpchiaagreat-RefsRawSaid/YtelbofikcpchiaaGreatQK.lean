/- The document's disk: Do: Create. (Printed by wip/genDp8.py.) (With the texts that it stands on.) -/
import Derived.Test.YtelbofikcpchiaaGreatDp8
namespace Go.Proofs.YtelbofikcpchiaaGreat
open Go.RowKit
set_option linter.unusedSectionVars false
section
variable {K L : Nat} {F : Nat → Prop} (R : RA) (m : DM) (S Z : ByteArray) (Ab : Option Addr) (nb cb : Nat) (bs : List UInt8) (w : World) (h : RIn F w R m) (hF : ∀ b, F b → b < w.heap.size) (hf : Fit K L m) (hK : K ≤ 998) (hL : L ≤ 999999) (hnb : nb = bs.length ∧ nb ≤ 1000000) (hbs : Rd w Ab (b8s bs))
include h hF hf hK hL hnb hbs
set_option maxRecDepth 100000 in
set_option maxHeartbeats 16000000 in
theorem rdo3n (he : wrongM m 3 S.data.toList Z.data.toList nb = 0) (hdn : m.down = false) (hfu : m.fuse = 0) (fi : Nat) (hfi : findN m.now S.data.toList = some fi) :
  Calls Tryz.prog 18 #[R.val m, .agg #[.int .i64 3, .string S, .string Z, .slice Ab nb cb]] w fun e w' => ∃ R' : RA, e = .returned (.tuple #[R'.val (setF { m with fuse := 0 } fi ⟨(fileM m fi).b, (fileM m fi).b.length⟩), .int .i64 0]) ∧ RIn F w' R' (setF { m with fuse := 0 } fi ⟨(fileM m fi).b, (fileM m fi).b.length⟩) ∧ Below w.heap.size w w' := by
 obtain ⟨mm, hmm⟩ : ∃ y, setF { m with fuse := 0 } fi ⟨(fileM m fi).b, (fileM m fi).b.length⟩ = y := ⟨_, rfl⟩
 rw [hmm]
 have HMM := h_ hmm
 clear hmm
 have HFI := h_ hfi
 clear hfi
 have H := h_ h
 obtain ⟨fq, hfq, hfq2⟩ := findN_mem HFI.out
 have hfl : fi < m.files.length := by have := hf.ids.now _ hfq; rw [hfq2] at this; exact this
 obtain ⟨⟨⟨pA, pc, pbs⟩, sf⟩, hfp, hmem, hfm, _⟩ := h.file hfl
 obtain ⟨b, o, hA0, hrow⟩ := h.fcell hfp
 obtain ⟨pn, hpn⟩ := eX pbs.length
 have HPN := h_ hpn
 have HRX : Hid (∀ W, Below w.heap.size w W → W.rangeAt b (o + fi * 2) [.slice pA pn pc, .int .i64 (sf : Int)]) := h_ (fun W hb => range_below (by rw [← hpn]; exact hrow) (World.block_lt_of_cell? w _ (hrow 0 _ rfl)) hb)
 have HFM : Hid (fileM m fi = ⟨pbs, sf⟩) := h_ hfm
 have HMEM := h_ hmem
 have HPL : Hid (pbs.length ≤ L) := h_ (by have := (hf.fileM fi).1; rw [hfm] at this; exact this)
 have HFL := h_ hfl
 clear hfq hfq2 hfl hfp hmem hfm hrow hpn
 have HF := h_ hf
 have HFW := h_ hF
 have HBS := h_ hbs
 have HNB := h_ hnb
 have hnb' := hnb.2
 have hflk := hf.files
 have hnwk := hf.now
 have hstk := hf.st
 have hfuk := hf.fuse
 have hlk : ∀ i, (fileM m i).b.length ≤ L ∧ (fileM m i).safe ≤ (fileM m i).b.length := fun i => hf.fileM i
 have HLK := h_ hlk
 clear hlk
 obtain ⟨nf, hnf⟩ := eX m.files.length
 obtain ⟨n, hn⟩ := eX m.now.length
 have hnk : n ≤ 998 := by omega
 have hnfk : nf ≤ 998 := by omega
 obtain ⟨na, hna⟩ := eX R.na
 have hfa : R.fa = some ⟨b, o, none⟩ := hA0
 obtain ⟨fc, hfc⟩ := eX R.fc
 obtain ⟨nc, hnc⟩ := eX R.nc
 obtain ⟨sa, hsa⟩ := eX R.sa
 obtain ⟨sc, hsc⟩ := eX R.sc
 obtain ⟨ta, hta⟩ := eX R.ta
 obtain ⟨tc, htc⟩ := eX R.tc
 obtain ⟨ns, hns⟩ := eX m.sure.length
 obtain ⟨nt, hnt⟩ := eX m.turns.length
 have hntk : nt ≤ 998 := by omega
 obtain ⟨mo, hmo⟩ := eX m.most
 have jf : (fi : Int) < (nf : Int) := by have := HFL.out; omega
 have HEQ : Hid (m.files.length = nf ∧ m.now.length = n ∧ R.na = na ∧ R.fa = some ⟨b, o, none⟩ ∧ R.fc = fc ∧ R.nc = nc ∧ R.sa = sa ∧ R.sc = sc ∧ R.ta = ta ∧ R.tc = tc ∧ m.sure.length = ns ∧ m.turns.length = nt ∧ m.most = mo) := h_ ⟨hnf, hn, hna, hfa, hfc, hnc, hsa, hsc, hta, htc, hns, hnt, hmo⟩
 have HVAL : Hid (R.val m = .agg #[.slice (some ⟨b, o, none⟩) nf fc, .slice na n nc, .slice sa ns sc, .slice ta nt tc, .int .i64 (mo : Int), .int .i64 0, .bool false]) := h_ (by
  unfold RA.val RA.row
  rw [hn, hnf, hfa, hna, hsa, hta, hfc, hnc, hsc, htc, hns, hnt, hmo, hfu, hdn]
  try first | rfl | simp)
 have HN := h_ hn
 have HNF := h_ hnf
 have HFU := h_ hfu
 have HDN := h_ hdn
 rw [HVAL.out]
 obtain ⟨g, hg⟩ := eX w.heap.size
 have HGW := h_ hg
 obtain ⟨W1, hW1⟩ := eX (w.alloc (.cells #[.slice (some ⟨b, o, none⟩) nf fc, .slice na n nc, .slice sa ns sc, .slice ta nt tc, .int .i64 (mo : Int), .int .i64 0, .bool false] 53))
 obtain ⟨r1, b1, s1⟩ := new_row hW1
 obtain ⟨W2, hW2⟩ := eX (W1.alloc (.cells #[.int .i64 3, .string S, .string Z, .slice Ab nb cb] 56))
 obtain ⟨r2, b2, s2⟩ := new_row hW2
 obtain ⟨W3, hW3⟩ := eX (W2.alloc (.cells #[.slice none 0 0, .slice none 0 0, .slice none 0 0, .slice none 0 0, .int .i64 0, .int .i64 0, .bool false] 53))
 obtain ⟨r3, b3, s3⟩ := new_row hW3
 obtain ⟨g2, hg2⟩ := eX W1.heap.size
 obtain ⟨g3, hg3⟩ := eX W2.heap.size
 have hl1 : g < g2 := by omega
 have hl2 : g2 < g3 := by omega
 replace r1 := (b3.block _ (by omega)).trans ((b2.block _ (by omega)).trans r1)
 replace r2 := (b3.block _ (by omega)).trans r2
 rw [hg] at r1
 rw [hg2] at r2
 rw [hg3] at r3
 have R3g := h_ r1
 have R3o := h_ r2
 have R3z := h_ r3
 have B3 : Hid (Below w.heap.size w W3) := h_ (b1.trans ((b2.mono b1.size).trans (b3.mono (Nat.le_trans b1.size b2.size))))
 have HWR : Hid (Calls Tryz.prog 42 #[R.val m, .agg #[.int .i64 3, .string S, .string Z, .slice Ab nb cb]] W3 fun e w' => e = .returned (.int .i64 0) ∧ Below W3.heap.size W3 w') := h_ (rwrong_any R m S Z Ab nb cb W3 (h.below B3.out) hf (by omega) (by omega) hnb' 3 ⟨by omega, by omega⟩ 0 he)
 rw [HVAL.out] at HWR
 clear hA0 h hf hF hbs hnb he hn hnf hna hfa hfc hnc hsa hsc hta htc hns hnt hmo hfu hdn b1 s1 b2 s2 b3 s3 hflk hnwk hstk hfuk
 go_enter Tryz.func18, Tryz.ntmps18
 go_wp2_with (first
  | (refine wpList_load_row rfl _ _ rfl _ rfl _ _ _ _ r1 Tryz.underlying53 rfl info_dk7 ?_)
  | (refine wpList_load_row rfl _ _ rfl _ rfl _ _ _ _ r2 Tryz.underlying56 rfl info_op4 ?_))
 try rw [hg, hg2, hg3]
 clear hg hg2 hg3 hW1 hW2 hW3 r1 r2 r3
 refine HWR.out.mono ?_
 rintro e w4 ⟨rfl, hb4⟩
 have R4g := bl_ hb4 R3g
 have R4o := bl_ hb4 R3o
 have R4z := bl_ hb4 R3z
 have B4 := bt_ B3 hb4
 obtain ⟨c4g0, c4g1, -, c4g3, -, c4g5, -⟩ := rw7 R4g
 obtain ⟨c4o0, c4o1, c4o2, c4o3⟩ := rw4 R4o
 have HFND := h_ (rfind_any na m.now n nc HN.out (by omega) S w4 (by have := (H.out.below B4.out).rn.1; rw [HEQ.out.2.2.1] at this; exact this))
 obtain ⟨q, hq⟩ := eX (findI m.now S.data.toList)
 rw [hq] at HFND
 obtain rfl : q = (fi : Int) := by rw [← hq]; exact findI_some HFI.out
 clear hq
 go_wp2_with fail
 refine HFND.out.mono ?_
 rintro e w9 ⟨rfl, rfl⟩
 have R9g := R4g
 have R9o := R4o
 have R9z := R4z
 have B9 := B4
 obtain ⟨gt, hq10⟩ := eX w9.heap.size
 obtain ⟨W10, hW10⟩ := eX (w9.alloc (.cells #[.string ⟨#[]⟩, .string ⟨#[]⟩, .int .i64 0] 103))
 obtain ⟨r10, b10, s10⟩ := new_row hW10
 have R10g := bl_ b10 R9g
 have R10o := bl_ b10 R9o
 have R10z := bl_ b10 R9z
 have B10 := bt_ B9 b10
 rw [hq10] at r10
 have R10t := h_ r10
 have HQ10 := h_ hq10
 clear b10 s10
 have hl3 : g3 < gt := by have := (b_ R9z); have := HQ10.out; omega
 obtain ⟨W11, hW11, T11, R11t, G11⟩ := put_row (new := [.string ⟨#[]⟩, .string ⟨#[]⟩, .int .i64 0]) R10t.out rfl
 have HW11 := h_ hW11
 clear hW11
 have R11g := ro_ R10g G11 (by omega)
 have R11o := ro_ R10o G11 (by omega)
 have R11z := ro_ R10z G11 (by omega)
 have B11 := bg_ B10 G11 (by have := HGW.out; omega)
 obtain ⟨c11o0, c11o1, c11o2, c11o3⟩ := rw4 R11o
 obtain ⟨c11g0, c11g1, -, c11g3, -⟩ := rw7 R11g
 obtain ⟨gf, hgf⟩ := eX W11.heap.size
 obtain ⟨W12, hW12⟩ := eX (W11.alloc (.cells #[.slice none 0 0, .int .i64 0] 105))
 obtain ⟨r12, b12, s12⟩ := new_row hW12
 have HLD := h_ (HRX.out _ B11.out)
 have R12g := bl_ b12 R11g
 have R12o := bl_ b12 R11o
 have R12z := bl_ b12 R11z
 have R12t := bl_ b12 R11t
 have B12 := bt_ B11 b12
 rw [hgf] at r12
 have R12f := h_ r12
 have HGF := h_ hgf
 have hl4 : gt < gf := by have := (b_ R11t); omega
 clear b12 s12
 obtain ⟨W13, hW13, T13, R13f, G13⟩ := put_row (new := [.slice pA pn pc, .int .i64 (sf : Int)]) R12f.out rfl
 have HW13 := h_ hW13
 clear hW13
 have R13g := ro_ R12g G13 (by omega)
 have R13o := ro_ R12o G13 (by omega)
 have R13z := ro_ R12z G13 (by omega)
 have R13t := ro_ R12t G13 (by omega)
 have B13 := bg_ B12 G13 (by have := HGW.out; omega)
 have c13f0 : W13.cell? ⟨gf, 0, none⟩ = some (.slice pA pn pc) := row_cell R13f.out 0
 have c13f1 : W13.cell? ⟨gf, 1, none⟩ = some (.int .i64 (sf : Int)) := row_cell R13f.out 1
 have f13f1 : W13.frozen? ⟨gf, 1, none⟩ = false := row_free R13f.out 1
 obtain ⟨W14, hW14⟩ := eX (W13.setCell ⟨gf, 1, none⟩ (.int .i64 (pn : Int)))
 have G14 : Hid (W13.grownBy W14 (some gf)) := h_ (by rw [← hW14]; exact grown_set gf 1 _)
 have R14f : Hid (W14.heap[gf]? = some (.cells #[.slice pA pn pc, .int .i64 (pn : Int)] 105 (0, 0))) := h_ (by have h9 := row_set R13f.out 1 (.int .i64 (pn : Int)); rw [hW14] at h9; simpa using h9)
 have R14g := ro_ R13g G14 (by omega)
 have R14o := ro_ R13o G14 (by omega)
 have R14z := ro_ R13z G14 (by omega)
 have R14t := ro_ R13t G14 (by omega)
 have B14 := bg_ B13 G14 (by have := HGW.out; omega)
 have c14g0 := (rw7 R14g).1
 obtain ⟨c14f0, c14f1⟩ := rw2 R14f
 have HWT : Hid (Calls Tryz.prog 45 #[.slice (some ⟨b, o, none⟩) nf fc, .int .i64 (fi : Int), .agg #[.slice pA pn pc, .int .i64 (pn : Int)]] W14 fun e w' => ∃ A' c', e = .returned (.slice A' nf c') ∧ LOut 105 2 fileC W14 w' A' nf c' (R.fs.set fi (⟨pA, pc, pbs⟩, pn))) := h_ (by
  obtain rfl := HPN.out
  exact rwith_any (some ⟨b, o, none⟩) R.fs nf fc (H.out.fl.trans HNF.out) (by omega) fi (⟨pA, pc, pbs⟩, pbs.length) W14 (by have := (H.out.below B14.out).rf.1; rw [HEQ.out.2.2.2.1] at this; exact this))
 go_wp2_with (first
  | ((with_reducible (refine wpList_store_mid rfl _ _ _ rfl ?_ ?_ ?_ ?_ ?_ ?_ ?_ ?_ ?_)); exact gt; exact 0; (exact ([.string ⟨#[]⟩, .string ⟨#[]⟩, .int .i64 0]).toArray); exact rfl; exact rfl; exact T11.out; exact info_tn3a; exact cells3; rw [HW11.out])
  | ((with_reducible (refine wpList_load_cells 105 _ b (o + fi * 2) ([.slice pA pn pc, .int .i64 (sf : Int)]) HLD.out Tryz.underlying105 rfl info_fl2 ?_ rfl ?_ ?_)); exact rfl; (exact rfl))
  | ((with_reducible (refine wpList_store_mid rfl _ _ _ rfl ?_ ?_ ?_ ?_ ?_ ?_ ?_ ?_ ?_)); exact gf; exact 0; (exact ([.slice pA pn pc, .int .i64 (sf : Int)]).toArray); exact rfl; exact rfl; exact T13.out; exact info_fl2a; exact cells2; rw [HW13.out])
  | (refine wpList_load_row rfl _ _ rfl _ rfl _ _ _ _ R14f.out Tryz.underlying105 rfl info_fl2a ?_))
 refine HWT.out.mono ?_
 rintro e w15 ⟨A15, c15, rfl, ho15⟩
 have HO15 := h_ ho15
 clear ho15
 have HS14 : Hid (∀ b, sF F g g3 gt gf b → b < W14.heap.size) := h_ (fun b hb => by
  have h1 := B14.out.size
  have h2g := (b_ R14g)
  have h3z := (b_ R14z)
  have h4t := (b_ R14t)
  have h5f := (b_ R14f)
  rcases hb with h | h | h | h | h
  ·have := HFW.out b h; omega
  all_goals omega)
 have R15g := bl_ HO15.out.bel R14g
 have R15o := bl_ HO15.out.bel R14o
 have R15z := bl_ HO15.out.bel R14z
 have R15t := bl_ HO15.out.bel R14t
 have R15f := bl_ HO15.out.bel R14f
 have B15 := bt_ B14 HO15.out.bel
 have X15_15 : Hid (Frm (sF F g g3 gt gf) w15 w15) := h_ (Frm.refl _ _)
 have c15g0 := (rw7 R15g).1
 have f15g0 : w15.frozen? ⟨g, 0, none⟩ = false := row_free R15g.out 0
 obtain ⟨W16, hW16⟩ := eX (w15.setCell ⟨g, 0, none⟩ (.slice A15 nf c15))
 have G16 : Hid (w15.grownBy W16 (some g)) := h_ (by rw [← hW16]; exact grown_set g 0 _)
 have R16g : Hid (W16.heap[g]? = some (.cells #[.slice A15 nf c15, .slice na n nc, .slice sa ns sc, .slice ta nt tc, .int .i64 (mo : Int), .int .i64 0, .bool false] 53 (0, 0))) := h_ (by have h9 := row_set R15g.out 0 (.slice A15 nf c15); rw [hW16] at h9; simpa using h9)
 have R16o := ro_ R15o G16 (by omega)
 have R16z := ro_ R15z G16 (by omega)
 have R16t := ro_ R15t G16 (by omega)
 have R16f := ro_ R15f G16 (by omega)
 have B16 := bg_ B15 G16 (by have := HGW.out; omega)
 have X16_15 : Hid (Frm (sF F g g3 gt gf) w15 W16) := h_ (X15_15.out.trans (grown_frm (F := sF F g g3 gt gf) G16.out (.inr (.inl rfl))) (fun i hi => .inl hi))
 obtain ⟨W17, hW17, T17, R17z, G17⟩ := put_row (new := [.slice A15 nf c15, .slice na n nc, .slice sa ns sc, .slice ta nt tc, .int .i64 (mo : Int), .int .i64 0, .bool false]) R16z.out rfl
 have HW17 := h_ hW17
 clear hW17
 have R17g := ro_ R16g G17 (by omega)
 have R17o := ro_ R16o G17 (by omega)
 have R17t := ro_ R16t G17 (by omega)
 have R17f := ro_ R16f G17 (by omega)
 have B17 := bg_ B16 G17 (by have := HGW.out; omega)
 have X17_15 : Hid (Frm (sF F g g3 gt gf) w15 W17) := h_ (X16_15.out.trans (grown_frm (F := sF F g g3 gt gf) G17.out (.inr (.inr (.inl rfl)))) (fun i hi => .inl hi))
 obtain ⟨R9, hR9⟩ : ∃ x : RA, x = { R with fs := R.fs.set fi (⟨pA, pc, pbs⟩, pn), fa := A15, fc := c15 } := ⟨_, rfl⟩
 have HRI : Hid (RIn F W17 R9 mm) := h_ (by
  rw [hR9, ← HMM.out]
  have hA9 : RdF (sF F g g3 gt gf) W17 A15 (filesC (R.fs.set fi (⟨pA, pc, pbs⟩, pn))) := (fresh_rdf HO15.out.rd HO15.out.addr HS14.out).frm X17_15.out (fun b hb => hb)
  have h9 := (((H.out.wide (G := sF F g g3 gt gf) (by rintro b (h | h | h | h | h); exact .inl h; all_goals (right; have h1 := HGW.out; omega))).below B17.out)).setf (c := c15) hA9 (by have := (((H.out.wide (G := sF F g g3 gt gf) (by rintro b (h | h | h | h | h); exact .inl h; all_goals (right; have h1 := HGW.out; omega))).below B17.out)).rb _ HMEM.out; exact this)
  refine (h9.narrow (fun b hb => .inl hb)).same ?_ rfl rfl rfl
  rw [HFM.out]
  have := HPN.out
  subst this
  rfl)
 have HV : Hid (R9.val mm = .agg #[.slice A15 nf c15, .slice na n nc, .slice sa ns sc, .slice ta nt tc, .int .i64 (mo : Int), .int .i64 0, .bool false]) := h_ (by
  obtain ⟨e1, e2, e3, e4, e5, e6, e7, e8, e9, e10, e11, e12, e13⟩ := HEQ.out
  rw [hR9, ← HMM.out]
  simp only [RA.val, RA.row, setF, List.length_set, List.length_append, List.length_cons, List.length_nil, e1, e2, e3, e4, e5, e6, e7, e8, e9, e10, e11, e12, e13, HDN.out]
  try rfl)
 go_wp2_with (first
  | (refine wpList_load_row rfl _ _ rfl _ rfl _ _ _ _ R16g.out Tryz.underlying53 rfl info_dk7 ?_)
  | ((with_reducible (refine wpList_store_mid rfl _ _ _ rfl ?_ ?_ ?_ ?_ ?_ ?_ ?_ ?_ ?_)); exact g3; exact 0; (exact ([.slice A15 nf c15, .slice na n nc, .slice sa ns sc, .slice ta nt tc, .int .i64 (mo : Int), .int .i64 0, .bool false]).toArray); exact rfl; exact rfl; exact T17.out; exact info_dk7; exact cells7; rw [HW17.out]))
 refine bodyPost_ret (results_row_tmp rfl _ _ _ _ _ _ _ rfl R17z.out Tryz.underlying53 rfl info_dk7) rfl ⟨R9, by rw [HV.out]; rfl, HRI.out, B17.out⟩
set_option maxRecDepth 100000 in
set_option maxHeartbeats 16000000 in
theorem rdo3f (he : wrongM m 3 S.data.toList Z.data.toList nb = 0) (hdn : m.down = false) (x : Nat) (hfu : m.fuse = x + 2) (fi : Nat) (hfi : findN m.now S.data.toList = some fi) :
  Calls Tryz.prog 18 #[R.val m, .agg #[.int .i64 3, .string S, .string Z, .slice Ab nb cb]] w fun e w' => ∃ R' : RA, e = .returned (.tuple #[R'.val (setF { m with fuse := (x + 1) } fi ⟨(fileM m fi).b, (fileM m fi).b.length⟩), .int .i64 0]) ∧ RIn F w' R' (setF { m with fuse := (x + 1) } fi ⟨(fileM m fi).b, (fileM m fi).b.length⟩) ∧ Below w.heap.size w w' := by
 obtain ⟨mm, hmm⟩ : ∃ y, setF { m with fuse := (x + 1) } fi ⟨(fileM m fi).b, (fileM m fi).b.length⟩ = y := ⟨_, rfl⟩
 rw [hmm]
 have HMM := h_ hmm
 clear hmm
 have HFI := h_ hfi
 clear hfi
 have hxb : x ≤ 9223372036854775805 := by have := hf.fuse; omega
 have H := h_ h
 obtain ⟨fq, hfq, hfq2⟩ := findN_mem HFI.out
 have hfl : fi < m.files.length := by have := hf.ids.now _ hfq; rw [hfq2] at this; exact this
 obtain ⟨⟨⟨pA, pc, pbs⟩, sf⟩, hfp, hmem, hfm, _⟩ := h.file hfl
 obtain ⟨b, o, hA0, hrow⟩ := h.fcell hfp
 obtain ⟨pn, hpn⟩ := eX pbs.length
 have HPN := h_ hpn
 have HRX : Hid (∀ W, Below w.heap.size w W → W.rangeAt b (o + fi * 2) [.slice pA pn pc, .int .i64 (sf : Int)]) := h_ (fun W hb => range_below (by rw [← hpn]; exact hrow) (World.block_lt_of_cell? w _ (hrow 0 _ rfl)) hb)
 have HFM : Hid (fileM m fi = ⟨pbs, sf⟩) := h_ hfm
 have HMEM := h_ hmem
 have HPL : Hid (pbs.length ≤ L) := h_ (by have := (hf.fileM fi).1; rw [hfm] at this; exact this)
 have HFL := h_ hfl
 clear hfq hfq2 hfl hfp hmem hfm hrow hpn
 have HF := h_ hf
 have HFW := h_ hF
 have HBS := h_ hbs
 have HNB := h_ hnb
 have hnb' := hnb.2
 have hflk := hf.files
 have hnwk := hf.now
 have hstk := hf.st
 have hfuk := hf.fuse
 have hlk : ∀ i, (fileM m i).b.length ≤ L ∧ (fileM m i).safe ≤ (fileM m i).b.length := fun i => hf.fileM i
 have HLK := h_ hlk
 clear hlk
 obtain ⟨nf, hnf⟩ := eX m.files.length
 obtain ⟨n, hn⟩ := eX m.now.length
 have hnk : n ≤ 998 := by omega
 have hnfk : nf ≤ 998 := by omega
 obtain ⟨na, hna⟩ := eX R.na
 have hfa : R.fa = some ⟨b, o, none⟩ := hA0
 obtain ⟨fc, hfc⟩ := eX R.fc
 obtain ⟨nc, hnc⟩ := eX R.nc
 obtain ⟨sa, hsa⟩ := eX R.sa
 obtain ⟨sc, hsc⟩ := eX R.sc
 obtain ⟨ta, hta⟩ := eX R.ta
 obtain ⟨tc, htc⟩ := eX R.tc
 obtain ⟨ns, hns⟩ := eX m.sure.length
 obtain ⟨nt, hnt⟩ := eX m.turns.length
 have hntk : nt ≤ 998 := by omega
 obtain ⟨mo, hmo⟩ := eX m.most
 have jf : (fi : Int) < (nf : Int) := by have := HFL.out; omega
 have HEQ : Hid (m.files.length = nf ∧ m.now.length = n ∧ R.na = na ∧ R.fa = some ⟨b, o, none⟩ ∧ R.fc = fc ∧ R.nc = nc ∧ R.sa = sa ∧ R.sc = sc ∧ R.ta = ta ∧ R.tc = tc ∧ m.sure.length = ns ∧ m.turns.length = nt ∧ m.most = mo) := h_ ⟨hnf, hn, hna, hfa, hfc, hnc, hsa, hsc, hta, htc, hns, hnt, hmo⟩
 have HVAL : Hid (R.val m = .agg #[.slice (some ⟨b, o, none⟩) nf fc, .slice na n nc, .slice sa ns sc, .slice ta nt tc, .int .i64 (mo : Int), .int .i64 ((x : Int) + 2), .bool false]) := h_ (by
  unfold RA.val RA.row
  rw [hn, hnf, hfa, hna, hsa, hta, hfc, hnc, hsc, htc, hns, hnt, hmo, hfu, hdn]
  try first | rfl | simp)
 have HN := h_ hn
 have HNF := h_ hnf
 have HFU := h_ hfu
 have HDN := h_ hdn
 rw [HVAL.out]
 obtain ⟨g, hg⟩ := eX w.heap.size
 have HGW := h_ hg
 obtain ⟨W1, hW1⟩ := eX (w.alloc (.cells #[.slice (some ⟨b, o, none⟩) nf fc, .slice na n nc, .slice sa ns sc, .slice ta nt tc, .int .i64 (mo : Int), .int .i64 ((x : Int) + 2), .bool false] 53))
 obtain ⟨r1, b1, s1⟩ := new_row hW1
 obtain ⟨W2, hW2⟩ := eX (W1.alloc (.cells #[.int .i64 3, .string S, .string Z, .slice Ab nb cb] 56))
 obtain ⟨r2, b2, s2⟩ := new_row hW2
 obtain ⟨W3, hW3⟩ := eX (W2.alloc (.cells #[.slice none 0 0, .slice none 0 0, .slice none 0 0, .slice none 0 0, .int .i64 0, .int .i64 0, .bool false] 53))
 obtain ⟨r3, b3, s3⟩ := new_row hW3
 obtain ⟨g2, hg2⟩ := eX W1.heap.size
 obtain ⟨g3, hg3⟩ := eX W2.heap.size
 have hl1 : g < g2 := by omega
 have hl2 : g2 < g3 := by omega
 replace r1 := (b3.block _ (by omega)).trans ((b2.block _ (by omega)).trans r1)
 replace r2 := (b3.block _ (by omega)).trans r2
 rw [hg] at r1
 rw [hg2] at r2
 rw [hg3] at r3
 have R3g := h_ r1
 have R3o := h_ r2
 have R3z := h_ r3
 have B3 : Hid (Below w.heap.size w W3) := h_ (b1.trans ((b2.mono b1.size).trans (b3.mono (Nat.le_trans b1.size b2.size))))
 have HWR : Hid (Calls Tryz.prog 42 #[R.val m, .agg #[.int .i64 3, .string S, .string Z, .slice Ab nb cb]] W3 fun e w' => e = .returned (.int .i64 0) ∧ Below W3.heap.size W3 w') := h_ (rwrong_any R m S Z Ab nb cb W3 (h.below B3.out) hf (by omega) (by omega) hnb' 3 ⟨by omega, by omega⟩ 0 he)
 rw [HVAL.out] at HWR
 clear hA0 h hf hF hbs hnb he hn hnf hna hfa hfc hnc hsa hsc hta htc hns hnt hmo hfu hdn b1 s1 b2 s2 b3 s3 hflk hnwk hstk hfuk
 go_enter Tryz.func18, Tryz.ntmps18
 go_wp2_with (first
  | (refine wpList_load_row rfl _ _ rfl _ rfl _ _ _ _ r1 Tryz.underlying53 rfl info_dk7 ?_)
  | (refine wpList_load_row rfl _ _ rfl _ rfl _ _ _ _ r2 Tryz.underlying56 rfl info_op4 ?_))
 try rw [hg, hg2, hg3]
 clear hg hg2 hg3 hW1 hW2 hW3 r1 r2 r3
 refine HWR.out.mono ?_
 rintro e w4 ⟨rfl, hb4⟩
 have R4g := bl_ hb4 R3g
 have R4o := bl_ hb4 R3o
 have R4z := bl_ hb4 R3z
 have B4 := bt_ B3 hb4
 have c4g5 := (rw7 R4g).2.2.2.2.2.1
 have f4g5 : w4.frozen? ⟨g, 5, none⟩ = false := row_free R4g.out 5
 obtain ⟨W5, hW5⟩ := eX (w4.setCell ⟨g, 5, none⟩ (.int .i64 ((x : Int) + 1)))
 have G5 : Hid (w4.grownBy W5 (some g)) := h_ (by rw [← hW5]; exact grown_set g 5 _)
 have R5g : Hid (W5.heap[g]? = some (.cells #[.slice (some ⟨b, o, none⟩) nf fc, .slice na n nc, .slice sa ns sc, .slice ta nt tc, .int .i64 (mo : Int), .int .i64 ((x : Int) + 1), .bool false] 53 (0, 0))) := h_ (by have h9 := row_set R4g.out 5 (.int .i64 ((x : Int) + 1)); rw [hW5] at h9; simpa using h9)
 have R5o := ro_ R4o G5 (by omega)
 have R5z := ro_ R4z G5 (by omega)
 have B5 := bg_ B4 G5 (by have := HGW.out; omega)
 obtain ⟨c5g0, c5g1, -, c5g3, -, c5g5, -⟩ := rw7 R5g
 obtain ⟨c5o0, c5o1, c5o2, c5o3⟩ := rw4 R5o
 have j9 : (0 : Int) < (x : Int) + 2 := by omega
 have j8 : (x : Int) + 2 - 1 = (x : Int) + 1 := by omega
 have j7 : ((x : Int) + 1 == 0) = false := by rw [beq_eq_false_iff_ne]; omega
 have j6 : IntKind.i64.wrap ((x : Int) + 1) = (x : Int) + 1 := by rw [IntKind.wrap_i64]; omega
 have HFND := h_ (rfind_any na m.now n nc HN.out (by omega) S W5 (by have := (H.out.below B5.out).rn.1; rw [HEQ.out.2.2.1] at this; exact this))
 obtain ⟨q, hq⟩ := eX (findI m.now S.data.toList)
 rw [hq] at HFND
 obtain rfl : q = (fi : Int) := by rw [← hq]; exact findI_some HFI.out
 clear hq
 go_wp2_with fail
 refine HFND.out.mono ?_
 rintro e w9 ⟨rfl, rfl⟩
 have R9g := R5g
 have R9o := R5o
 have R9z := R5z
 have B9 := B5
 obtain ⟨gt, hq10⟩ := eX w9.heap.size
 obtain ⟨W10, hW10⟩ := eX (w9.alloc (.cells #[.string ⟨#[]⟩, .string ⟨#[]⟩, .int .i64 0] 103))
 obtain ⟨r10, b10, s10⟩ := new_row hW10
 have R10g := bl_ b10 R9g
 have R10o := bl_ b10 R9o
 have R10z := bl_ b10 R9z
 have B10 := bt_ B9 b10
 rw [hq10] at r10
 have R10t := h_ r10
 have HQ10 := h_ hq10
 clear b10 s10
 have hl3 : g3 < gt := by have := (b_ R9z); have := HQ10.out; omega
 obtain ⟨W11, hW11, T11, R11t, G11⟩ := put_row (new := [.string ⟨#[]⟩, .string ⟨#[]⟩, .int .i64 0]) R10t.out rfl
 have HW11 := h_ hW11
 clear hW11
 have R11g := ro_ R10g G11 (by omega)
 have R11o := ro_ R10o G11 (by omega)
 have R11z := ro_ R10z G11 (by omega)
 have B11 := bg_ B10 G11 (by have := HGW.out; omega)
 obtain ⟨c11o0, c11o1, c11o2, c11o3⟩ := rw4 R11o
 obtain ⟨c11g0, c11g1, -, c11g3, -⟩ := rw7 R11g
 obtain ⟨gf, hgf⟩ := eX W11.heap.size
 obtain ⟨W12, hW12⟩ := eX (W11.alloc (.cells #[.slice none 0 0, .int .i64 0] 105))
 obtain ⟨r12, b12, s12⟩ := new_row hW12
 have HLD := h_ (HRX.out _ B11.out)
 have R12g := bl_ b12 R11g
 have R12o := bl_ b12 R11o
 have R12z := bl_ b12 R11z
 have R12t := bl_ b12 R11t
 have B12 := bt_ B11 b12
 rw [hgf] at r12
 have R12f := h_ r12
 have HGF := h_ hgf
 have hl4 : gt < gf := by have := (b_ R11t); omega
 clear b12 s12
 obtain ⟨W13, hW13, T13, R13f, G13⟩ := put_row (new := [.slice pA pn pc, .int .i64 (sf : Int)]) R12f.out rfl
 have HW13 := h_ hW13
 clear hW13
 have R13g := ro_ R12g G13 (by omega)
 have R13o := ro_ R12o G13 (by omega)
 have R13z := ro_ R12z G13 (by omega)
 have R13t := ro_ R12t G13 (by omega)
 have B13 := bg_ B12 G13 (by have := HGW.out; omega)
 have c13f0 : W13.cell? ⟨gf, 0, none⟩ = some (.slice pA pn pc) := row_cell R13f.out 0
 have c13f1 : W13.cell? ⟨gf, 1, none⟩ = some (.int .i64 (sf : Int)) := row_cell R13f.out 1
 have f13f1 : W13.frozen? ⟨gf, 1, none⟩ = false := row_free R13f.out 1
 obtain ⟨W14, hW14⟩ := eX (W13.setCell ⟨gf, 1, none⟩ (.int .i64 (pn : Int)))
 have G14 : Hid (W13.grownBy W14 (some gf)) := h_ (by rw [← hW14]; exact grown_set gf 1 _)
 have R14f : Hid (W14.heap[gf]? = some (.cells #[.slice pA pn pc, .int .i64 (pn : Int)] 105 (0, 0))) := h_ (by have h9 := row_set R13f.out 1 (.int .i64 (pn : Int)); rw [hW14] at h9; simpa using h9)
 have R14g := ro_ R13g G14 (by omega)
 have R14o := ro_ R13o G14 (by omega)
 have R14z := ro_ R13z G14 (by omega)
 have R14t := ro_ R13t G14 (by omega)
 have B14 := bg_ B13 G14 (by have := HGW.out; omega)
 have c14g0 := (rw7 R14g).1
 obtain ⟨c14f0, c14f1⟩ := rw2 R14f
 have HWT : Hid (Calls Tryz.prog 45 #[.slice (some ⟨b, o, none⟩) nf fc, .int .i64 (fi : Int), .agg #[.slice pA pn pc, .int .i64 (pn : Int)]] W14 fun e w' => ∃ A' c', e = .returned (.slice A' nf c') ∧ LOut 105 2 fileC W14 w' A' nf c' (R.fs.set fi (⟨pA, pc, pbs⟩, pn))) := h_ (by
  obtain rfl := HPN.out
  exact rwith_any (some ⟨b, o, none⟩) R.fs nf fc (H.out.fl.trans HNF.out) (by omega) fi (⟨pA, pc, pbs⟩, pbs.length) W14 (by have := (H.out.below B14.out).rf.1; rw [HEQ.out.2.2.2.1] at this; exact this))
 go_wp2_with (first
  | ((with_reducible (refine wpList_store_mid rfl _ _ _ rfl ?_ ?_ ?_ ?_ ?_ ?_ ?_ ?_ ?_)); exact gt; exact 0; (exact ([.string ⟨#[]⟩, .string ⟨#[]⟩, .int .i64 0]).toArray); exact rfl; exact rfl; exact T11.out; exact info_tn3a; exact cells3; rw [HW11.out])
  | ((with_reducible (refine wpList_load_cells 105 _ b (o + fi * 2) ([.slice pA pn pc, .int .i64 (sf : Int)]) HLD.out Tryz.underlying105 rfl info_fl2 ?_ rfl ?_ ?_)); exact rfl; (exact rfl))
  | ((with_reducible (refine wpList_store_mid rfl _ _ _ rfl ?_ ?_ ?_ ?_ ?_ ?_ ?_ ?_ ?_)); exact gf; exact 0; (exact ([.slice pA pn pc, .int .i64 (sf : Int)]).toArray); exact rfl; exact rfl; exact T13.out; exact info_fl2a; exact cells2; rw [HW13.out])
  | (refine wpList_load_row rfl _ _ rfl _ rfl _ _ _ _ R14f.out Tryz.underlying105 rfl info_fl2a ?_))
 refine HWT.out.mono ?_
 rintro e w15 ⟨A15, c15, rfl, ho15⟩
 have HO15 := h_ ho15
 clear ho15
 have HS14 : Hid (∀ b, sF F g g3 gt gf b → b < W14.heap.size) := h_ (fun b hb => by
  have h1 := B14.out.size
  have h2g := (b_ R14g)
  have h3z := (b_ R14z)
  have h4t := (b_ R14t)
  have h5f := (b_ R14f)
  rcases hb with h | h | h | h | h
  ·have := HFW.out b h; omega
  all_goals omega)
 have R15g := bl_ HO15.out.bel R14g
 have R15o := bl_ HO15.out.bel R14o
 have R15z := bl_ HO15.out.bel R14z
 have R15t := bl_ HO15.out.bel R14t
 have R15f := bl_ HO15.out.bel R14f
 have B15 := bt_ B14 HO15.out.bel
 have X15_15 : Hid (Frm (sF F g g3 gt gf) w15 w15) := h_ (Frm.refl _ _)
 have c15g0 := (rw7 R15g).1
 have f15g0 : w15.frozen? ⟨g, 0, none⟩ = false := row_free R15g.out 0
 obtain ⟨W16, hW16⟩ := eX (w15.setCell ⟨g, 0, none⟩ (.slice A15 nf c15))
 have G16 : Hid (w15.grownBy W16 (some g)) := h_ (by rw [← hW16]; exact grown_set g 0 _)
 have R16g : Hid (W16.heap[g]? = some (.cells #[.slice A15 nf c15, .slice na n nc, .slice sa ns sc, .slice ta nt tc, .int .i64 (mo : Int), .int .i64 ((x : Int) + 1), .bool false] 53 (0, 0))) := h_ (by have h9 := row_set R15g.out 0 (.slice A15 nf c15); rw [hW16] at h9; simpa using h9)
 have R16o := ro_ R15o G16 (by omega)
 have R16z := ro_ R15z G16 (by omega)
 have R16t := ro_ R15t G16 (by omega)
 have R16f := ro_ R15f G16 (by omega)
 have B16 := bg_ B15 G16 (by have := HGW.out; omega)
 have X16_15 : Hid (Frm (sF F g g3 gt gf) w15 W16) := h_ (X15_15.out.trans (grown_frm (F := sF F g g3 gt gf) G16.out (.inr (.inl rfl))) (fun i hi => .inl hi))
 obtain ⟨W17, hW17, T17, R17z, G17⟩ := put_row (new := [.slice A15 nf c15, .slice na n nc, .slice sa ns sc, .slice ta nt tc, .int .i64 (mo : Int), .int .i64 ((x : Int) + 1), .bool false]) R16z.out rfl
 have HW17 := h_ hW17
 clear hW17
 have R17g := ro_ R16g G17 (by omega)
 have R17o := ro_ R16o G17 (by omega)
 have R17t := ro_ R16t G17 (by omega)
 have R17f := ro_ R16f G17 (by omega)
 have B17 := bg_ B16 G17 (by have := HGW.out; omega)
 have X17_15 : Hid (Frm (sF F g g3 gt gf) w15 W17) := h_ (X16_15.out.trans (grown_frm (F := sF F g g3 gt gf) G17.out (.inr (.inr (.inl rfl)))) (fun i hi => .inl hi))
 obtain ⟨R9, hR9⟩ : ∃ x : RA, x = { R with fs := R.fs.set fi (⟨pA, pc, pbs⟩, pn), fa := A15, fc := c15 } := ⟨_, rfl⟩
 have HRI : Hid (RIn F W17 R9 mm) := h_ (by
  rw [hR9, ← HMM.out]
  have hA9 : RdF (sF F g g3 gt gf) W17 A15 (filesC (R.fs.set fi (⟨pA, pc, pbs⟩, pn))) := (fresh_rdf HO15.out.rd HO15.out.addr HS14.out).frm X17_15.out (fun b hb => hb)
  have h9 := (((H.out.wide (G := sF F g g3 gt gf) (by rintro b (h | h | h | h | h); exact .inl h; all_goals (right; have h1 := HGW.out; omega))).below B17.out)).setf (c := c15) hA9 (by have := (((H.out.wide (G := sF F g g3 gt gf) (by rintro b (h | h | h | h | h); exact .inl h; all_goals (right; have h1 := HGW.out; omega))).below B17.out)).rb _ HMEM.out; exact this)
  refine (h9.narrow (fun b hb => .inl hb)).same ?_ rfl rfl rfl
  rw [HFM.out]
  have := HPN.out
  subst this
  rfl)
 have HV : Hid (R9.val mm = .agg #[.slice A15 nf c15, .slice na n nc, .slice sa ns sc, .slice ta nt tc, .int .i64 (mo : Int), .int .i64 ((x : Int) + 1), .bool false]) := h_ (by
  obtain ⟨e1, e2, e3, e4, e5, e6, e7, e8, e9, e10, e11, e12, e13⟩ := HEQ.out
  rw [hR9, ← HMM.out]
  simp only [RA.val, RA.row, setF, List.length_set, List.length_append, List.length_cons, List.length_nil, e1, e2, e3, e4, e5, e6, e7, e8, e9, e10, e11, e12, e13, HDN.out]
  try rfl)
 go_wp2_with (first
  | (refine wpList_load_row rfl _ _ rfl _ rfl _ _ _ _ R16g.out Tryz.underlying53 rfl info_dk7 ?_)
  | ((with_reducible (refine wpList_store_mid rfl _ _ _ rfl ?_ ?_ ?_ ?_ ?_ ?_ ?_ ?_ ?_)); exact g3; exact 0; (exact ([.slice A15 nf c15, .slice na n nc, .slice sa ns sc, .slice ta nt tc, .int .i64 (mo : Int), .int .i64 ((x : Int) + 1), .bool false]).toArray); exact rfl; exact rfl; exact T17.out; exact info_dk7; exact cells7; rw [HW17.out]))
 refine bodyPost_ret (results_row_tmp rfl _ _ _ _ _ _ _ rfl R17z.out Tryz.underlying53 rfl info_dk7) rfl ⟨R9, by rw [HV.out]; rfl, HRI.out, B17.out⟩
end
section
variable {K L : Nat} {F : Nat → Prop} (R : RA) (m : DM) (S Z : ByteArray) (Ab : Option Addr) (nb cb : Nat) (bs : List UInt8) (w : World) (h : RIn F w R m) (hF : ∀ b, F b → b < w.heap.size) (hf : Fit K L m) (hK : K ≤ 998) (hL : L ≤ 999999) (hnb : nb = bs.length ∧ nb ≤ 1000000) (hbs : Rd w Ab (b8s bs))
include h hF hf hK hL hnb hbs
set_option maxRecDepth 100000 in
set_option maxHeartbeats 16000000 in
theorem rdo2n (he : wrongM m 2 S.data.toList Z.data.toList nb = 0) (hdn : m.down = false) (hfu : m.fuse = 0) (fi : Nat) (hfi : findN m.now S.data.toList = some fi) :
  Calls Tryz.prog 18 #[R.val m, .agg #[.int .i64 2, .string S, .string Z, .slice Ab nb cb]] w fun e w' => ∃ R' : RA, e = .returned (.tuple #[R'.val (setF { m with fuse := 0 } fi ⟨(fileM m fi).b ++ bs, (fileM m fi).safe⟩), .int .i64 0]) ∧ RIn F w' R' (setF { m with fuse := 0 } fi ⟨(fileM m fi).b ++ bs, (fileM m fi).safe⟩) ∧ Below w.heap.size w w' := by
 obtain ⟨mm, hmm⟩ : ∃ y, setF { m with fuse := 0 } fi ⟨(fileM m fi).b ++ bs, (fileM m fi).safe⟩ = y := ⟨_, rfl⟩
 rw [hmm]
 have HMM := h_ hmm
 clear hmm
 have HFI := h_ hfi
 clear hfi
 have H := h_ h
 obtain ⟨fq, hfq, hfq2⟩ := findN_mem HFI.out
 have hfl : fi < m.files.length := by have := hf.ids.now _ hfq; rw [hfq2] at this; exact this
 obtain ⟨⟨⟨pA, pc, pbs⟩, sf⟩, hfp, hmem, hfm, _⟩ := h.file hfl
 obtain ⟨b, o, hA0, hrow⟩ := h.fcell hfp
 obtain ⟨pn, hpn⟩ := eX pbs.length
 have HPN := h_ hpn
 have HRX : Hid (∀ W, Below w.heap.size w W → W.rangeAt b (o + fi * 2) [.slice pA pn pc, .int .i64 (sf : Int)]) := h_ (fun W hb => range_below (by rw [← hpn]; exact hrow) (World.block_lt_of_cell? w _ (hrow 0 _ rfl)) hb)
 have HFM : Hid (fileM m fi = ⟨pbs, sf⟩) := h_ hfm
 have HMEM := h_ hmem
 have HPL : Hid (pbs.length ≤ L) := h_ (by have := (hf.fileM fi).1; rw [hfm] at this; exact this)
 have HFL := h_ hfl
 clear hfq hfq2 hfl hfp hmem hfm hrow hpn
 have HF := h_ hf
 have HFW := h_ hF
 have HBS := h_ hbs
 have HNB := h_ hnb
 have hnb' := hnb.2
 have hflk := hf.files
 have hnwk := hf.now
 have hstk := hf.st
 have hfuk := hf.fuse
 have hlk : ∀ i, (fileM m i).b.length ≤ L ∧ (fileM m i).safe ≤ (fileM m i).b.length := fun i => hf.fileM i
 have HLK := h_ hlk
 clear hlk
 obtain ⟨nf, hnf⟩ := eX m.files.length
 obtain ⟨n, hn⟩ := eX m.now.length
 have hnk : n ≤ 998 := by omega
 have hnfk : nf ≤ 998 := by omega
 obtain ⟨na, hna⟩ := eX R.na
 have hfa : R.fa = some ⟨b, o, none⟩ := hA0
 obtain ⟨fc, hfc⟩ := eX R.fc
 obtain ⟨nc, hnc⟩ := eX R.nc
 obtain ⟨sa, hsa⟩ := eX R.sa
 obtain ⟨sc, hsc⟩ := eX R.sc
 obtain ⟨ta, hta⟩ := eX R.ta
 obtain ⟨tc, htc⟩ := eX R.tc
 obtain ⟨ns, hns⟩ := eX m.sure.length
 obtain ⟨nt, hnt⟩ := eX m.turns.length
 have hntk : nt ≤ 998 := by omega
 obtain ⟨mo, hmo⟩ := eX m.most
 have jf : (fi : Int) < (nf : Int) := by have := HFL.out; omega
 have HEQ : Hid (m.files.length = nf ∧ m.now.length = n ∧ R.na = na ∧ R.fa = some ⟨b, o, none⟩ ∧ R.fc = fc ∧ R.nc = nc ∧ R.sa = sa ∧ R.sc = sc ∧ R.ta = ta ∧ R.tc = tc ∧ m.sure.length = ns ∧ m.turns.length = nt ∧ m.most = mo) := h_ ⟨hnf, hn, hna, hfa, hfc, hnc, hsa, hsc, hta, htc, hns, hnt, hmo⟩
 have HVAL : Hid (R.val m = .agg #[.slice (some ⟨b, o, none⟩) nf fc, .slice na n nc, .slice sa ns sc, .slice ta nt tc, .int .i64 (mo : Int), .int .i64 0, .bool false]) := h_ (by
  unfold RA.val RA.row
  rw [hn, hnf, hfa, hna, hsa, hta, hfc, hnc, hsc, htc, hns, hnt, hmo, hfu, hdn]
  try first | rfl | simp)
 have HN := h_ hn
 have HNF := h_ hnf
 have HFU := h_ hfu
 have HDN := h_ hdn
 rw [HVAL.out]
 obtain ⟨g, hg⟩ := eX w.heap.size
 have HGW := h_ hg
 obtain ⟨W1, hW1⟩ := eX (w.alloc (.cells #[.slice (some ⟨b, o, none⟩) nf fc, .slice na n nc, .slice sa ns sc, .slice ta nt tc, .int .i64 (mo : Int), .int .i64 0, .bool false] 53))
 obtain ⟨r1, b1, s1⟩ := new_row hW1
 obtain ⟨W2, hW2⟩ := eX (W1.alloc (.cells #[.int .i64 2, .string S, .string Z, .slice Ab nb cb] 56))
 obtain ⟨r2, b2, s2⟩ := new_row hW2
 obtain ⟨W3, hW3⟩ := eX (W2.alloc (.cells #[.slice none 0 0, .slice none 0 0, .slice none 0 0, .slice none 0 0, .int .i64 0, .int .i64 0, .bool false] 53))
 obtain ⟨r3, b3, s3⟩ := new_row hW3
 obtain ⟨g2, hg2⟩ := eX W1.heap.size
 obtain ⟨g3, hg3⟩ := eX W2.heap.size
 have hl1 : g < g2 := by omega
 have hl2 : g2 < g3 := by omega
 replace r1 := (b3.block _ (by omega)).trans ((b2.block _ (by omega)).trans r1)
 replace r2 := (b3.block _ (by omega)).trans r2
 rw [hg] at r1
 rw [hg2] at r2
 rw [hg3] at r3
 have R3g := h_ r1
 have R3o := h_ r2
 have R3z := h_ r3
 have B3 : Hid (Below w.heap.size w W3) := h_ (b1.trans ((b2.mono b1.size).trans (b3.mono (Nat.le_trans b1.size b2.size))))
 have HWR : Hid (Calls Tryz.prog 42 #[R.val m, .agg #[.int .i64 2, .string S, .string Z, .slice Ab nb cb]] W3 fun e w' => e = .returned (.int .i64 0) ∧ Below W3.heap.size W3 w') := h_ (rwrong_any R m S Z Ab nb cb W3 (h.below B3.out) hf (by omega) (by omega) hnb' 2 ⟨by omega, by omega⟩ 0 he)
 rw [HVAL.out] at HWR
 clear hA0 h hf hF hbs hnb he hn hnf hna hfa hfc hnc hsa hsc hta htc hns hnt hmo hfu hdn b1 s1 b2 s2 b3 s3 hflk hnwk hstk hfuk
 go_enter Tryz.func18, Tryz.ntmps18
 go_wp2_with (first
  | (refine wpList_load_row rfl _ _ rfl _ rfl _ _ _ _ r1 Tryz.underlying53 rfl info_dk7 ?_)
  | (refine wpList_load_row rfl _ _ rfl _ rfl _ _ _ _ r2 Tryz.underlying56 rfl info_op4 ?_))
 try rw [hg, hg2, hg3]
 clear hg hg2 hg3 hW1 hW2 hW3 r1 r2 r3
 refine HWR.out.mono ?_
 rintro e w4 ⟨rfl, hb4⟩
 have R4g := bl_ hb4 R3g
 have R4o := bl_ hb4 R3o
 have R4z := bl_ hb4 R3z
 have B4 := bt_ B3 hb4
 obtain ⟨c4g0, c4g1, -, c4g3, -, c4g5, -⟩ := rw7 R4g
 obtain ⟨c4o0, c4o1, c4o2, c4o3⟩ := rw4 R4o
 have HFND := h_ (rfind_any na m.now n nc HN.out (by omega) S w4 (by have := (H.out.below B4.out).rn.1; rw [HEQ.out.2.2.1] at this; exact this))
 obtain ⟨q, hq⟩ := eX (findI m.now S.data.toList)
 rw [hq] at HFND
 obtain rfl : q = (fi : Int) := by rw [← hq]; exact findI_some HFI.out
 clear hq
 go_wp2_with fail
 refine HFND.out.mono ?_
 rintro e w9 ⟨rfl, rfl⟩
 have R9g := R4g
 have R9o := R4o
 have R9z := R4z
 have B9 := B4
 obtain ⟨gt, hq10⟩ := eX w9.heap.size
 obtain ⟨W10, hW10⟩ := eX (w9.alloc (.cells #[.string ⟨#[]⟩, .string ⟨#[]⟩, .int .i64 0] 103))
 obtain ⟨r10, b10, s10⟩ := new_row hW10
 have R10g := bl_ b10 R9g
 have R10o := bl_ b10 R9o
 have R10z := bl_ b10 R9z
 have B10 := bt_ B9 b10
 rw [hq10] at r10
 have R10t := h_ r10
 have HQ10 := h_ hq10
 clear b10 s10
 have hl3 : g3 < gt := by have := (b_ R9z); have := HQ10.out; omega
 obtain ⟨W11, hW11, T11, R11t, G11⟩ := put_row (new := [.string ⟨#[]⟩, .string ⟨#[]⟩, .int .i64 0]) R10t.out rfl
 have HW11 := h_ hW11
 clear hW11
 have R11g := ro_ R10g G11 (by omega)
 have R11o := ro_ R10o G11 (by omega)
 have R11z := ro_ R10z G11 (by omega)
 have B11 := bg_ B10 G11 (by have := HGW.out; omega)
 obtain ⟨c11o0, c11o1, c11o2, c11o3⟩ := rw4 R11o
 obtain ⟨c11g0, c11g1, -, c11g3, -⟩ := rw7 R11g
 obtain ⟨gf, hgf⟩ := eX W11.heap.size
 obtain ⟨W12, hW12⟩ := eX (W11.alloc (.cells #[.slice none 0 0, .int .i64 0] 105))
 obtain ⟨r12, b12, s12⟩ := new_row hW12
 have HLD := h_ (HRX.out _ B11.out)
 have R12g := bl_ b12 R11g
 have R12o := bl_ b12 R11o
 have R12z := bl_ b12 R11z
 have R12t := bl_ b12 R11t
 have B12 := bt_ B11 b12
 rw [hgf] at r12
 have R12f := h_ r12
 have HGF := h_ hgf
 have hl4 : gt < gf := by have := (b_ R11t); omega
 clear b12 s12
 obtain ⟨W13, hW13, T13, R13f, G13⟩ := put_row (new := [.slice pA pn pc, .int .i64 (sf : Int)]) R12f.out rfl
 have HW13 := h_ hW13
 clear hW13
 have R13g := ro_ R12g G13 (by omega)
 have R13o := ro_ R12o G13 (by omega)
 have R13z := ro_ R12z G13 (by omega)
 have R13t := ro_ R12t G13 (by omega)
 have B13 := bg_ B12 G13 (by have := HGW.out; omega)
 have c13f0 : W13.cell? ⟨gf, 0, none⟩ = some (.slice pA pn pc) := row_cell R13f.out 0
 have c13f1 : W13.cell? ⟨gf, 1, none⟩ = some (.int .i64 (sf : Int)) := row_cell R13f.out 1
 have f13f0 : W13.frozen? ⟨gf, 0, none⟩ = false := row_free R13f.out 0
 obtain ⟨c13o0, c13o1, c13o2, c13o3⟩ := rw4 R13o
 have HJN : Hid (Calls Tryz.prog 44 #[.slice pA pn pc, .slice Ab nb cb] W13 fun e w' => ∃ v, e = .returned v ∧ Own8 W13.heap.size W13 w' v (pbs ++ bs)) := h_ (join_n pA Ab pbs bs pc cb W13 (((H.out.below B13.out).rb _ HMEM.out).1.1) (HBS.out.below B13.out) pn nb HPN.out.symm HNB.out.1 (by have h1 := HPL.out; have h2 := HNB.out; omega))
 go_wp2_with (first
  | ((with_reducible (refine wpList_store_mid rfl _ _ _ rfl ?_ ?_ ?_ ?_ ?_ ?_ ?_ ?_ ?_)); exact gt; exact 0; (exact ([.string ⟨#[]⟩, .string ⟨#[]⟩, .int .i64 0]).toArray); exact rfl; exact rfl; exact T11.out; exact info_tn3a; exact cells3; rw [HW11.out])
  | ((with_reducible (refine wpList_load_cells 105 _ b (o + fi * 2) ([.slice pA pn pc, .int .i64 (sf : Int)]) HLD.out Tryz.underlying105 rfl info_fl2 ?_ rfl ?_ ?_)); exact rfl; (exact rfl))
  | ((with_reducible (refine wpList_store_mid rfl _ _ _ rfl ?_ ?_ ?_ ?_ ?_ ?_ ?_ ?_ ?_)); exact gf; exact 0; (exact ([.slice pA pn pc, .int .i64 (sf : Int)]).toArray); exact rfl; exact rfl; exact T13.out; exact info_fl2a; exact cells2; rw [HW13.out]))
 refine HJN.out.mono ?_
 rintro e w14 ⟨v, rfl, ho⟩
 obtain ⟨Aj, nj, cj, rfl, hnj, hlj, hmj, hrj, haj⟩ := ho.sliceN
 have HOJ := h_ ho
 have HRJ := h_ hrj
 have HAJ := h_ (fun ad e => (haj ad e).1)
 have HLJ := h_ (And.intro hlj hmj)
 have HNJ := h_ hnj
 clear ho hrj haj hlj hmj hnj
 have HS13 : Hid (∀ b, sF F g g3 gt gf b → b < W13.heap.size) := h_ (fun b hb => by
  have h1 := B13.out.size
  have h2g := (b_ R13g)
  have h3z := (b_ R13z)
  have h4t := (b_ R13t)
  have h5f := (b_ R13f)
  rcases hb with h | h | h | h | h
  ·have := HFW.out b h; omega
  all_goals omega)
 have R14g := bl_ HOJ.out.bel R13g
 have R14o := bl_ HOJ.out.bel R13o
 have R14z := bl_ HOJ.out.bel R13z
 have R14t := bl_ HOJ.out.bel R13t
 have R14f : Hid (w14.heap[gf]? = some (.cells #[.slice pA pn pc, .int .i64 (sf : Int)] 105 (0, 0))) := bl_ HOJ.out.bel R13f
 have B14 := bt_ B13 HOJ.out.bel
 have X14_14 : Hid (Frm (sF F g g3 gt gf) w14 w14) := h_ (Frm.refl _ _)
 have c14f0 := (rw2 R14f).1
 have f14f0 : w14.frozen? ⟨gf, 0, none⟩ = false := row_free R14f.out 0
 obtain ⟨W15, hW15⟩ := eX (w14.setCell ⟨gf, 0, none⟩ (.slice Aj nj cj))
 have G15 : Hid (w14.grownBy W15 (some gf)) := h_ (by rw [← hW15]; exact grown_set gf 0 _)
 have R15f : Hid (W15.heap[gf]? = some (.cells #[.slice Aj nj cj, .int .i64 (sf : Int)] 105 (0, 0))) := h_ (by have h9 := row_set R14f.out 0 (.slice Aj nj cj); rw [hW15] at h9; simpa using h9)
 have R15g := ro_ R14g G15 (by omega)
 have R15o := ro_ R14o G15 (by omega)
 have R15z := ro_ R14z G15 (by omega)
 have R15t := ro_ R14t G15 (by omega)
 have B15 := bg_ B14 G15 (by have := HGW.out; omega)
 have X15_14 : Hid (Frm (sF F g g3 gt gf) w14 W15) := h_ (X14_14.out.trans (grown_frm (F := sF F g g3 gt gf) G15.out (.inr (.inr (.inr (.inr rfl))))) (fun i hi => .inl hi))
 have c15g0 := (rw7 R15g).1
 have HWT : Hid (Calls Tryz.prog 45 #[.slice (some ⟨b, o, none⟩) nf fc, .int .i64 (fi : Int), .agg #[.slice Aj nj cj, .int .i64 (sf : Int)]] W15 fun e w' => ∃ A' c', e = .returned (.slice A' nf c') ∧ LOut 105 2 fileC W15 w' A' nf c' (R.fs.set fi (⟨Aj, cj, pbs ++ bs⟩, sf))) := h_ (by
  have h1 := HNJ.out
  subst h1
  exact rwith_any (some ⟨b, o, none⟩) R.fs nf fc (H.out.fl.trans HNF.out) (by omega) fi (⟨Aj, cj, pbs ++ bs⟩, sf) W15 (by have := (H.out.below B15.out).rf.1; rw [HEQ.out.2.2.2.1] at this; exact this))
 go_wp2_with (first
  | (refine wpList_load_row rfl _ _ rfl _ rfl _ _ _ _ R15f.out Tryz.underlying105 rfl info_fl2a ?_))
 refine HWT.out.mono ?_
 rintro e w16 ⟨A15, c15, rfl, ho15⟩
 have HO15 := h_ ho15
 clear ho15
 have HS15 : Hid (∀ b, sF F g g3 gt gf b → b < W15.heap.size) := h_ (fun b hb => by
  have h1 := B15.out.size
  have h2g := (b_ R15g)
  have h3z := (b_ R15z)
  have h4t := (b_ R15t)
  have h5f := (b_ R15f)
  rcases hb with h | h | h | h | h
  ·have := HFW.out b h; omega
  all_goals omega)
 have R16g := bl_ HO15.out.bel R15g
 have R16o := bl_ HO15.out.bel R15o
 have R16z := bl_ HO15.out.bel R15z
 have R16t := bl_ HO15.out.bel R15t
 have R16f := bl_ HO15.out.bel R15f
 have B16 := bt_ B15 HO15.out.bel
 have X16_14 : Hid (Frm (sF F g g3 gt gf) w14 w16) := h_ (X15_14.out.trans (Frm.of_below (F := sF F g g3 gt gf) HO15.out.bel) (fun i hi => .inl hi))
 have X16_15 : Hid (Frm (sF F g g3 gt gf) w16 w16) := h_ (Frm.refl _ _)
 have c16g0 := (rw7 R16g).1
 have f16g0 : w16.frozen? ⟨g, 0, none⟩ = false := row_free R16g.out 0
 obtain ⟨W17, hW17⟩ := eX (w16.setCell ⟨g, 0, none⟩ (.slice A15 nf c15))
 have G17 : Hid (w16.grownBy W17 (some g)) := h_ (by rw [← hW17]; exact grown_set g 0 _)
 have R17g : Hid (W17.heap[g]? = some (.cells #[.slice A15 nf c15, .slice na n nc, .slice sa ns sc, .slice ta nt tc, .int .i64 (mo : Int), .int .i64 0, .bool false] 53 (0, 0))) := h_ (by have h9 := row_set R16g.out 0 (.slice A15 nf c15); rw [hW17] at h9; simpa using h9)
 have R17o := ro_ R16o G17 (by omega)
 have R17z := ro_ R16z G17 (by omega)
 have R17t := ro_ R16t G17 (by omega)
 have R17f := ro_ R16f G17 (by omega)
 have B17 := bg_ B16 G17 (by have := HGW.out; omega)
 have X17_14 : Hid (Frm (sF F g g3 gt gf) w14 W17) := h_ (X16_14.out.trans (grown_frm (F := sF F g g3 gt gf) G17.out (.inr (.inl rfl))) (fun i hi => .inl hi))
 have X17_15 : Hid (Frm (sF F g g3 gt gf) w16 W17) := h_ (X16_15.out.trans (grown_frm (F := sF F g g3 gt gf) G17.out (.inr (.inl rfl))) (fun i hi => .inl hi))
 obtain ⟨W18, hW18, T18, R18z, G18⟩ := put_row (new := [.slice A15 nf c15, .slice na n nc, .slice sa ns sc, .slice ta nt tc, .int .i64 (mo : Int), .int .i64 0, .bool false]) R17z.out rfl
 have HW18 := h_ hW18
 clear hW18
 have R18g := ro_ R17g G18 (by omega)
 have R18o := ro_ R17o G18 (by omega)
 have R18t := ro_ R17t G18 (by omega)
 have R18f := ro_ R17f G18 (by omega)
 have B18 := bg_ B17 G18 (by have := HGW.out; omega)
 have X18_14 : Hid (Frm (sF F g g3 gt gf) w14 W18) := h_ (X17_14.out.trans (grown_frm (F := sF F g g3 gt gf) G18.out (.inr (.inr (.inl rfl)))) (fun i hi => .inl hi))
 have X18_15 : Hid (Frm (sF F g g3 gt gf) w16 W18) := h_ (X17_15.out.trans (grown_frm (F := sF F g g3 gt gf) G18.out (.inr (.inr (.inl rfl)))) (fun i hi => .inl hi))
 obtain ⟨R9, hR9⟩ : ∃ x : RA, x = { R with fs := R.fs.set fi (⟨Aj, cj, pbs ++ bs⟩, sf), fa := A15, fc := c15 } := ⟨_, rfl⟩
 have HRI : Hid (RIn F W18 R9 mm) := h_ (by
  rw [hR9, ← HMM.out]
  have hA9 : RdF (sF F g g3 gt gf) W18 A15 (filesC (R.fs.set fi (⟨Aj, cj, pbs ++ bs⟩, sf))) := (fresh_rdf HO15.out.rd HO15.out.addr HS15.out).frm X18_15.out (fun b hb => hb)
  have hB9 : RdF (sF F g g3 gt gf) W18 Aj (b8s (pbs ++ bs)) := (fresh_rdf HRJ.out HAJ.out HS13.out).frm X18_14.out (fun b hb => hb)
  have h9 := (((H.out.wide (G := sF F g g3 gt gf) (by rintro b (h | h | h | h | h); exact .inl h; all_goals (right; have h1 := HGW.out; omega))).below B18.out)).setf (c := c15) hA9 ⟨hB9, by have := HLJ.out; have h1 := HNJ.out; dsimp only; omega, by have := HLJ.out; dsimp only; unfold maxLen at this; omega⟩
  refine (h9.narrow (fun b hb => .inl hb)).same ?_ rfl rfl rfl
  rw [HFM.out]
  rfl)
 have HV : Hid (R9.val mm = .agg #[.slice A15 nf c15, .slice na n nc, .slice sa ns sc, .slice ta nt tc, .int .i64 (mo : Int), .int .i64 0, .bool false]) := h_ (by
  obtain ⟨e1, e2, e3, e4, e5, e6, e7, e8, e9, e10, e11, e12, e13⟩ := HEQ.out
  rw [hR9, ← HMM.out]
  simp only [RA.val, RA.row, setF, List.length_set, List.length_append, List.length_cons, List.length_nil, e1, e2, e3, e4, e5, e6, e7, e8, e9, e10, e11, e12, e13, HDN.out]
  try rfl)
 go_wp2_with (first
  | (refine wpList_load_row rfl _ _ rfl _ rfl _ _ _ _ R17g.out Tryz.underlying53 rfl info_dk7 ?_)
  | ((with_reducible (refine wpList_store_mid rfl _ _ _ rfl ?_ ?_ ?_ ?_ ?_ ?_ ?_ ?_ ?_)); exact g3; exact 0; (exact ([.slice A15 nf c15, .slice na n nc, .slice sa ns sc, .slice ta nt tc, .int .i64 (mo : Int), .int .i64 0, .bool false]).toArray); exact rfl; exact rfl; exact T18.out; exact info_dk7; exact cells7; rw [HW18.out]))
 refine bodyPost_ret (results_row_tmp rfl _ _ _ _ _ _ _ rfl R18z.out Tryz.underlying53 rfl info_dk7) rfl ⟨R9, by rw [HV.out]; rfl, HRI.out, B18.out⟩
set_option maxRecDepth 100000 in
set_option maxHeartbeats 16000000 in
theorem rdo2f (he : wrongM m 2 S.data.toList Z.data.toList nb = 0) (hdn : m.down = false) (x : Nat) (hfu : m.fuse = x + 2) (fi : Nat) (hfi : findN m.now S.data.toList = some fi) :
  Calls Tryz.prog 18 #[R.val m, .agg #[.int .i64 2, .string S, .string Z, .slice Ab nb cb]] w fun e w' => ∃ R' : RA, e = .returned (.tuple #[R'.val (setF { m with fuse := (x + 1) } fi ⟨(fileM m fi).b ++ bs, (fileM m fi).safe⟩), .int .i64 0]) ∧ RIn F w' R' (setF { m with fuse := (x + 1) } fi ⟨(fileM m fi).b ++ bs, (fileM m fi).safe⟩) ∧ Below w.heap.size w w' := by
 obtain ⟨mm, hmm⟩ : ∃ y, setF { m with fuse := (x + 1) } fi ⟨(fileM m fi).b ++ bs, (fileM m fi).safe⟩ = y := ⟨_, rfl⟩
 rw [hmm]
 have HMM := h_ hmm
 clear hmm
 have HFI := h_ hfi
 clear hfi
 have hxb : x ≤ 9223372036854775805 := by have := hf.fuse; omega
 have H := h_ h
 obtain ⟨fq, hfq, hfq2⟩ := findN_mem HFI.out
 have hfl : fi < m.files.length := by have := hf.ids.now _ hfq; rw [hfq2] at this; exact this
 obtain ⟨⟨⟨pA, pc, pbs⟩, sf⟩, hfp, hmem, hfm, _⟩ := h.file hfl
 obtain ⟨b, o, hA0, hrow⟩ := h.fcell hfp
 obtain ⟨pn, hpn⟩ := eX pbs.length
 have HPN := h_ hpn
 have HRX : Hid (∀ W, Below w.heap.size w W → W.rangeAt b (o + fi * 2) [.slice pA pn pc, .int .i64 (sf : Int)]) := h_ (fun W hb => range_below (by rw [← hpn]; exact hrow) (World.block_lt_of_cell? w _ (hrow 0 _ rfl)) hb)
 have HFM : Hid (fileM m fi = ⟨pbs, sf⟩) := h_ hfm
 have HMEM := h_ hmem
 have HPL : Hid (pbs.length ≤ L) := h_ (by have := (hf.fileM fi).1; rw [hfm] at this; exact this)
 have HFL := h_ hfl
 clear hfq hfq2 hfl hfp hmem hfm hrow hpn
 have HF := h_ hf
 have HFW := h_ hF
 have HBS := h_ hbs
 have HNB := h_ hnb
 have hnb' := hnb.2
 have hflk := hf.files
 have hnwk := hf.now
 have hstk := hf.st
 have hfuk := hf.fuse
 have hlk : ∀ i, (fileM m i).b.length ≤ L ∧ (fileM m i).safe ≤ (fileM m i).b.length := fun i => hf.fileM i
 have HLK := h_ hlk
 clear hlk
 obtain ⟨nf, hnf⟩ := eX m.files.length
 obtain ⟨n, hn⟩ := eX m.now.length
 have hnk : n ≤ 998 := by omega
 have hnfk : nf ≤ 998 := by omega
 obtain ⟨na, hna⟩ := eX R.na
 have hfa : R.fa = some ⟨b, o, none⟩ := hA0
 obtain ⟨fc, hfc⟩ := eX R.fc
 obtain ⟨nc, hnc⟩ := eX R.nc
 obtain ⟨sa, hsa⟩ := eX R.sa
 obtain ⟨sc, hsc⟩ := eX R.sc
 obtain ⟨ta, hta⟩ := eX R.ta
 obtain ⟨tc, htc⟩ := eX R.tc
 obtain ⟨ns, hns⟩ := eX m.sure.length
 obtain ⟨nt, hnt⟩ := eX m.turns.length
 have hntk : nt ≤ 998 := by omega
 obtain ⟨mo, hmo⟩ := eX m.most
 have jf : (fi : Int) < (nf : Int) := by have := HFL.out; omega
 have HEQ : Hid (m.files.length = nf ∧ m.now.length = n ∧ R.na = na ∧ R.fa = some ⟨b, o, none⟩ ∧ R.fc = fc ∧ R.nc = nc ∧ R.sa = sa ∧ R.sc = sc ∧ R.ta = ta ∧ R.tc = tc ∧ m.sure.length = ns ∧ m.turns.length = nt ∧ m.most = mo) := h_ ⟨hnf, hn, hna, hfa, hfc, hnc, hsa, hsc, hta, htc, hns, hnt, hmo⟩
 have HVAL : Hid (R.val m = .agg #[.slice (some ⟨b, o, none⟩) nf fc, .slice na n nc, .slice sa ns sc, .slice ta nt tc, .int .i64 (mo : Int), .int .i64 ((x : Int) + 2), .bool false]) := h_ (by
  unfold RA.val RA.row
  rw [hn, hnf, hfa, hna, hsa, hta, hfc, hnc, hsc, htc, hns, hnt, hmo, hfu, hdn]
  try first | rfl | simp)
 have HN := h_ hn
 have HNF := h_ hnf
 have HFU := h_ hfu
 have HDN := h_ hdn
 rw [HVAL.out]
 obtain ⟨g, hg⟩ := eX w.heap.size
 have HGW := h_ hg
 obtain ⟨W1, hW1⟩ := eX (w.alloc (.cells #[.slice (some ⟨b, o, none⟩) nf fc, .slice na n nc, .slice sa ns sc, .slice ta nt tc, .int .i64 (mo : Int), .int .i64 ((x : Int) + 2), .bool false] 53))
 obtain ⟨r1, b1, s1⟩ := new_row hW1
 obtain ⟨W2, hW2⟩ := eX (W1.alloc (.cells #[.int .i64 2, .string S, .string Z, .slice Ab nb cb] 56))
 obtain ⟨r2, b2, s2⟩ := new_row hW2
 obtain ⟨W3, hW3⟩ := eX (W2.alloc (.cells #[.slice none 0 0, .slice none 0 0, .slice none 0 0, .slice none 0 0, .int .i64 0, .int .i64 0, .bool false] 53))
 obtain ⟨r3, b3, s3⟩ := new_row hW3
 obtain ⟨g2, hg2⟩ := eX W1.heap.size
 obtain ⟨g3, hg3⟩ := eX W2.heap.size
 have hl1 : g < g2 := by omega
 have hl2 : g2 < g3 := by omega
 replace r1 := (b3.block _ (by omega)).trans ((b2.block _ (by omega)).trans r1)
 replace r2 := (b3.block _ (by omega)).trans r2
 rw [hg] at r1
 rw [hg2] at r2
 rw [hg3] at r3
 have R3g := h_ r1
 have R3o := h_ r2
 have R3z := h_ r3
 have B3 : Hid (Below w.heap.size w W3) := h_ (b1.trans ((b2.mono b1.size).trans (b3.mono (Nat.le_trans b1.size b2.size))))
 have HWR : Hid (Calls Tryz.prog 42 #[R.val m, .agg #[.int .i64 2, .string S, .string Z, .slice Ab nb cb]] W3 fun e w' => e = .returned (.int .i64 0) ∧ Below W3.heap.size W3 w') := h_ (rwrong_any R m S Z Ab nb cb W3 (h.below B3.out) hf (by omega) (by omega) hnb' 2 ⟨by omega, by omega⟩ 0 he)
 rw [HVAL.out] at HWR
 clear hA0 h hf hF hbs hnb he hn hnf hna hfa hfc hnc hsa hsc hta htc hns hnt hmo hfu hdn b1 s1 b2 s2 b3 s3 hflk hnwk hstk hfuk
 go_enter Tryz.func18, Tryz.ntmps18
 go_wp2_with (first
  | (refine wpList_load_row rfl _ _ rfl _ rfl _ _ _ _ r1 Tryz.underlying53 rfl info_dk7 ?_)
  | (refine wpList_load_row rfl _ _ rfl _ rfl _ _ _ _ r2 Tryz.underlying56 rfl info_op4 ?_))
 try rw [hg, hg2, hg3]
 clear hg hg2 hg3 hW1 hW2 hW3 r1 r2 r3
 refine HWR.out.mono ?_
 rintro e w4 ⟨rfl, hb4⟩
 have R4g := bl_ hb4 R3g
 have R4o := bl_ hb4 R3o
 have R4z := bl_ hb4 R3z
 have B4 := bt_ B3 hb4
 have c4g5 := (rw7 R4g).2.2.2.2.2.1
 have f4g5 : w4.frozen? ⟨g, 5, none⟩ = false := row_free R4g.out 5
 obtain ⟨W5, hW5⟩ := eX (w4.setCell ⟨g, 5, none⟩ (.int .i64 ((x : Int) + 1)))
 have G5 : Hid (w4.grownBy W5 (some g)) := h_ (by rw [← hW5]; exact grown_set g 5 _)
 have R5g : Hid (W5.heap[g]? = some (.cells #[.slice (some ⟨b, o, none⟩) nf fc, .slice na n nc, .slice sa ns sc, .slice ta nt tc, .int .i64 (mo : Int), .int .i64 ((x : Int) + 1), .bool false] 53 (0, 0))) := h_ (by have h9 := row_set R4g.out 5 (.int .i64 ((x : Int) + 1)); rw [hW5] at h9; simpa using h9)
 have R5o := ro_ R4o G5 (by omega)
 have R5z := ro_ R4z G5 (by omega)
 have B5 := bg_ B4 G5 (by have := HGW.out; omega)
 obtain ⟨c5g0, c5g1, -, c5g3, -, c5g5, -⟩ := rw7 R5g
 obtain ⟨c5o0, c5o1, c5o2, c5o3⟩ := rw4 R5o
 have j9 : (0 : Int) < (x : Int) + 2 := by omega
 have j8 : (x : Int) + 2 - 1 = (x : Int) + 1 := by omega
 have j7 : ((x : Int) + 1 == 0) = false := by rw [beq_eq_false_iff_ne]; omega
 have j6 : IntKind.i64.wrap ((x : Int) + 1) = (x : Int) + 1 := by rw [IntKind.wrap_i64]; omega
 have HFND := h_ (rfind_any na m.now n nc HN.out (by omega) S W5 (by have := (H.out.below B5.out).rn.1; rw [HEQ.out.2.2.1] at this; exact this))
 obtain ⟨q, hq⟩ := eX (findI m.now S.data.toList)
 rw [hq] at HFND
 obtain rfl : q = (fi : Int) := by rw [← hq]; exact findI_some HFI.out
 clear hq
 go_wp2_with fail
 refine HFND.out.mono ?_
 rintro e w9 ⟨rfl, rfl⟩
 have R9g := R5g
 have R9o := R5o
 have R9z := R5z
 have B9 := B5
 obtain ⟨gt, hq10⟩ := eX w9.heap.size
 obtain ⟨W10, hW10⟩ := eX (w9.alloc (.cells #[.string ⟨#[]⟩, .string ⟨#[]⟩, .int .i64 0] 103))
 obtain ⟨r10, b10, s10⟩ := new_row hW10
 have R10g := bl_ b10 R9g
 have R10o := bl_ b10 R9o
 have R10z := bl_ b10 R9z
 have B10 := bt_ B9 b10
 rw [hq10] at r10
 have R10t := h_ r10
 have HQ10 := h_ hq10
 clear b10 s10
 have hl3 : g3 < gt := by have := (b_ R9z); have := HQ10.out; omega
 obtain ⟨W11, hW11, T11, R11t, G11⟩ := put_row (new := [.string ⟨#[]⟩, .string ⟨#[]⟩, .int .i64 0]) R10t.out rfl
 have HW11 := h_ hW11
 clear hW11
 have R11g := ro_ R10g G11 (by omega)
 have R11o := ro_ R10o G11 (by omega)
 have R11z := ro_ R10z G11 (by omega)
 have B11 := bg_ B10 G11 (by have := HGW.out; omega)
 obtain ⟨c11o0, c11o1, c11o2, c11o3⟩ := rw4 R11o
 obtain ⟨c11g0, c11g1, -, c11g3, -⟩ := rw7 R11g
 obtain ⟨gf, hgf⟩ := eX W11.heap.size
 obtain ⟨W12, hW12⟩ := eX (W11.alloc (.cells #[.slice none 0 0, .int .i64 0] 105))
 obtain ⟨r12, b12, s12⟩ := new_row hW12
 have HLD := h_ (HRX.out _ B11.out)
 have R12g := bl_ b12 R11g
 have R12o := bl_ b12 R11o
 have R12z := bl_ b12 R11z
 have R12t := bl_ b12 R11t
 have B12 := bt_ B11 b12
 rw [hgf] at r12
 have R12f := h_ r12
 have HGF := h_ hgf
 have hl4 : gt < gf := by have := (b_ R11t); omega
 clear b12 s12
 obtain ⟨W13, hW13, T13, R13f, G13⟩ := put_row (new := [.slice pA pn pc, .int .i64 (sf : Int)]) R12f.out rfl
 have HW13 := h_ hW13
 clear hW13
 have R13g := ro_ R12g G13 (by omega)
 have R13o := ro_ R12o G13 (by omega)
 have R13z := ro_ R12z G13 (by omega)
 have R13t := ro_ R12t G13 (by omega)
 have B13 := bg_ B12 G13 (by have := HGW.out; omega)
 have c13f0 : W13.cell? ⟨gf, 0, none⟩ = some (.slice pA pn pc) := row_cell R13f.out 0
 have c13f1 : W13.cell? ⟨gf, 1, none⟩ = some (.int .i64 (sf : Int)) := row_cell R13f.out 1
 have f13f0 : W13.frozen? ⟨gf, 0, none⟩ = false := row_free R13f.out 0
 obtain ⟨c13o0, c13o1, c13o2, c13o3⟩ := rw4 R13o
 have HJN : Hid (Calls Tryz.prog 44 #[.slice pA pn pc, .slice Ab nb cb] W13 fun e w' => ∃ v, e = .returned v ∧ Own8 W13.heap.size W13 w' v (pbs ++ bs)) := h_ (join_n pA Ab pbs bs pc cb W13 (((H.out.below B13.out).rb _ HMEM.out).1.1) (HBS.out.below B13.out) pn nb HPN.out.symm HNB.out.1 (by have h1 := HPL.out; have h2 := HNB.out; omega))
 go_wp2_with (first
  | ((with_reducible (refine wpList_store_mid rfl _ _ _ rfl ?_ ?_ ?_ ?_ ?_ ?_ ?_ ?_ ?_)); exact gt; exact 0; (exact ([.string ⟨#[]⟩, .string ⟨#[]⟩, .int .i64 0]).toArray); exact rfl; exact rfl; exact T11.out; exact info_tn3a; exact cells3; rw [HW11.out])
  | ((with_reducible (refine wpList_load_cells 105 _ b (o + fi * 2) ([.slice pA pn pc, .int .i64 (sf : Int)]) HLD.out Tryz.underlying105 rfl info_fl2 ?_ rfl ?_ ?_)); exact rfl; (exact rfl))
  | ((with_reducible (refine wpList_store_mid rfl _ _ _ rfl ?_ ?_ ?_ ?_ ?_ ?_ ?_ ?_ ?_)); exact gf; exact 0; (exact ([.slice pA pn pc, .int .i64 (sf : Int)]).toArray); exact rfl; exact rfl; exact T13.out; exact info_fl2a; exact cells2; rw [HW13.out]))
 refine HJN.out.mono ?_
 rintro e w14 ⟨v, rfl, ho⟩
 obtain ⟨Aj, nj, cj, rfl, hnj, hlj, hmj, hrj, haj⟩ := ho.sliceN
 have HOJ := h_ ho
 have HRJ := h_ hrj
 have HAJ := h_ (fun ad e => (haj ad e).1)
 have HLJ := h_ (And.intro hlj hmj)
 have HNJ := h_ hnj
 clear ho hrj haj hlj hmj hnj
 have HS13 : Hid (∀ b, sF F g g3 gt gf b → b < W13.heap.size) := h_ (fun b hb => by
  have h1 := B13.out.size
  have h2g := (b_ R13g)
  have h3z := (b_ R13z)
  have h4t := (b_ R13t)
  have h5f := (b_ R13f)
  rcases hb with h | h | h | h | h
  ·have := HFW.out b h; omega
  all_goals omega)
 have R14g := bl_ HOJ.out.bel R13g
 have R14o := bl_ HOJ.out.bel R13o
 have R14z := bl_ HOJ.out.bel R13z
 have R14t := bl_ HOJ.out.bel R13t
 have R14f : Hid (w14.heap[gf]? = some (.cells #[.slice pA pn pc, .int .i64 (sf : Int)] 105 (0, 0))) := bl_ HOJ.out.bel R13f
 have B14 := bt_ B13 HOJ.out.bel
 have X14_14 : Hid (Frm (sF F g g3 gt gf) w14 w14) := h_ (Frm.refl _ _)
 have c14f0 := (rw2 R14f).1
 have f14f0 : w14.frozen? ⟨gf, 0, none⟩ = false := row_free R14f.out 0
 obtain ⟨W15, hW15⟩ := eX (w14.setCell ⟨gf, 0, none⟩ (.slice Aj nj cj))
 have G15 : Hid (w14.grownBy W15 (some gf)) := h_ (by rw [← hW15]; exact grown_set gf 0 _)
 have R15f : Hid (W15.heap[gf]? = some (.cells #[.slice Aj nj cj, .int .i64 (sf : Int)] 105 (0, 0))) := h_ (by have h9 := row_set R14f.out 0 (.slice Aj nj cj); rw [hW15] at h9; simpa using h9)
 have R15g := ro_ R14g G15 (by omega)
 have R15o := ro_ R14o G15 (by omega)
 have R15z := ro_ R14z G15 (by omega)
 have R15t := ro_ R14t G15 (by omega)
 have B15 := bg_ B14 G15 (by have := HGW.out; omega)
 have X15_14 : Hid (Frm (sF F g g3 gt gf) w14 W15) := h_ (X14_14.out.trans (grown_frm (F := sF F g g3 gt gf) G15.out (.inr (.inr (.inr (.inr rfl))))) (fun i hi => .inl hi))
 have c15g0 := (rw7 R15g).1
 have HWT : Hid (Calls Tryz.prog 45 #[.slice (some ⟨b, o, none⟩) nf fc, .int .i64 (fi : Int), .agg #[.slice Aj nj cj, .int .i64 (sf : Int)]] W15 fun e w' => ∃ A' c', e = .returned (.slice A' nf c') ∧ LOut 105 2 fileC W15 w' A' nf c' (R.fs.set fi (⟨Aj, cj, pbs ++ bs⟩, sf))) := h_ (by
  have h1 := HNJ.out
  subst h1
  exact rwith_any (some ⟨b, o, none⟩) R.fs nf fc (H.out.fl.trans HNF.out) (by omega) fi (⟨Aj, cj, pbs ++ bs⟩, sf) W15 (by have := (H.out.below B15.out).rf.1; rw [HEQ.out.2.2.2.1] at this; exact this))
 go_wp2_with (first
  | (refine wpList_load_row rfl _ _ rfl _ rfl _ _ _ _ R15f.out Tryz.underlying105 rfl info_fl2a ?_))
 refine HWT.out.mono ?_
 rintro e w16 ⟨A15, c15, rfl, ho15⟩
 have HO15 := h_ ho15
 clear ho15
 have HS15 : Hid (∀ b, sF F g g3 gt gf b → b < W15.heap.size) := h_ (fun b hb => by
  have h1 := B15.out.size
  have h2g := (b_ R15g)
  have h3z := (b_ R15z)
  have h4t := (b_ R15t)
  have h5f := (b_ R15f)
  rcases hb with h | h | h | h | h
  ·have := HFW.out b h; omega
  all_goals omega)
 have R16g := bl_ HO15.out.bel R15g
 have R16o := bl_ HO15.out.bel R15o
 have R16z := bl_ HO15.out.bel R15z
 have R16t := bl_ HO15.out.bel R15t
 have R16f := bl_ HO15.out.bel R15f
 have B16 := bt_ B15 HO15.out.bel
 have X16_14 : Hid (Frm (sF F g g3 gt gf) w14 w16) := h_ (X15_14.out.trans (Frm.of_below (F := sF F g g3 gt gf) HO15.out.bel) (fun i hi => .inl hi))
 have X16_15 : Hid (Frm (sF F g g3 gt gf) w16 w16) := h_ (Frm.refl _ _)
 have c16g0 := (rw7 R16g).1
 have f16g0 : w16.frozen? ⟨g, 0, none⟩ = false := row_free R16g.out 0
 obtain ⟨W17, hW17⟩ := eX (w16.setCell ⟨g, 0, none⟩ (.slice A15 nf c15))
 have G17 : Hid (w16.grownBy W17 (some g)) := h_ (by rw [← hW17]; exact grown_set g 0 _)
 have R17g : Hid (W17.heap[g]? = some (.cells #[.slice A15 nf c15, .slice na n nc, .slice sa ns sc, .slice ta nt tc, .int .i64 (mo : Int), .int .i64 ((x : Int) + 1), .bool false] 53 (0, 0))) := h_ (by have h9 := row_set R16g.out 0 (.slice A15 nf c15); rw [hW17] at h9; simpa using h9)
 have R17o := ro_ R16o G17 (by omega)
 have R17z := ro_ R16z G17 (by omega)
 have R17t := ro_ R16t G17 (by omega)
 have R17f := ro_ R16f G17 (by omega)
 have B17 := bg_ B16 G17 (by have := HGW.out; omega)
 have X17_14 : Hid (Frm (sF F g g3 gt gf) w14 W17) := h_ (X16_14.out.trans (grown_frm (F := sF F g g3 gt gf) G17.out (.inr (.inl rfl))) (fun i hi => .inl hi))
 have X17_15 : Hid (Frm (sF F g g3 gt gf) w16 W17) := h_ (X16_15.out.trans (grown_frm (F := sF F g g3 gt gf) G17.out (.inr (.inl rfl))) (fun i hi => .inl hi))
 obtain ⟨W18, hW18, T18, R18z, G18⟩ := put_row (new := [.slice A15 nf c15, .slice na n nc, .slice sa ns sc, .slice ta nt tc, .int .i64 (mo : Int), .int .i64 ((x : Int) + 1), .bool false]) R17z.out rfl
 have HW18 := h_ hW18
 clear hW18
 have R18g := ro_ R17g G18 (by omega)
 have R18o := ro_ R17o G18 (by omega)
 have R18t := ro_ R17t G18 (by omega)
 have R18f := ro_ R17f G18 (by omega)
 have B18 := bg_ B17 G18 (by have := HGW.out; omega)
 have X18_14 : Hid (Frm (sF F g g3 gt gf) w14 W18) := h_ (X17_14.out.trans (grown_frm (F := sF F g g3 gt gf) G18.out (.inr (.inr (.inl rfl)))) (fun i hi => .inl hi))
 have X18_15 : Hid (Frm (sF F g g3 gt gf) w16 W18) := h_ (X17_15.out.trans (grown_frm (F := sF F g g3 gt gf) G18.out (.inr (.inr (.inl rfl)))) (fun i hi => .inl hi))
 obtain ⟨R9, hR9⟩ : ∃ x : RA, x = { R with fs := R.fs.set fi (⟨Aj, cj, pbs ++ bs⟩, sf), fa := A15, fc := c15 } := ⟨_, rfl⟩
 have HRI : Hid (RIn F W18 R9 mm) := h_ (by
  rw [hR9, ← HMM.out]
  have hA9 : RdF (sF F g g3 gt gf) W18 A15 (filesC (R.fs.set fi (⟨Aj, cj, pbs ++ bs⟩, sf))) := (fresh_rdf HO15.out.rd HO15.out.addr HS15.out).frm X18_15.out (fun b hb => hb)
  have hB9 : RdF (sF F g g3 gt gf) W18 Aj (b8s (pbs ++ bs)) := (fresh_rdf HRJ.out HAJ.out HS13.out).frm X18_14.out (fun b hb => hb)
  have h9 := (((H.out.wide (G := sF F g g3 gt gf) (by rintro b (h | h | h | h | h); exact .inl h; all_goals (right; have h1 := HGW.out; omega))).below B18.out)).setf (c := c15) hA9 ⟨hB9, by have := HLJ.out; have h1 := HNJ.out; dsimp only; omega, by have := HLJ.out; dsimp only; unfold maxLen at this; omega⟩
  refine (h9.narrow (fun b hb => .inl hb)).same ?_ rfl rfl rfl
  rw [HFM.out]
  rfl)
 have HV : Hid (R9.val mm = .agg #[.slice A15 nf c15, .slice na n nc, .slice sa ns sc, .slice ta nt tc, .int .i64 (mo : Int), .int .i64 ((x : Int) + 1), .bool false]) := h_ (by
  obtain ⟨e1, e2, e3, e4, e5, e6, e7, e8, e9, e10, e11, e12, e13⟩ := HEQ.out
  rw [hR9, ← HMM.out]
  simp only [RA.val, RA.row, setF, List.length_set, List.length_append, List.length_cons, List.length_nil, e1, e2, e3, e4, e5, e6, e7, e8, e9, e10, e11, e12, e13, HDN.out]
  try rfl)
 go_wp2_with (first
  | (refine wpList_load_row rfl _ _ rfl _ rfl _ _ _ _ R17g.out Tryz.underlying53 rfl info_dk7 ?_)
  | ((with_reducible (refine wpList_store_mid rfl _ _ _ rfl ?_ ?_ ?_ ?_ ?_ ?_ ?_ ?_ ?_)); exact g3; exact 0; (exact ([.slice A15 nf c15, .slice na n nc, .slice sa ns sc, .slice ta nt tc, .int .i64 (mo : Int), .int .i64 ((x : Int) + 1), .bool false]).toArray); exact rfl; exact rfl; exact T18.out; exact info_dk7; exact cells7; rw [HW18.out]))
 refine bodyPost_ret (results_row_tmp rfl _ _ _ _ _ _ _ rfl R18z.out Tryz.underlying53 rfl info_dk7) rfl ⟨R9, by rw [HV.out]; rfl, HRI.out, B18.out⟩
end
section
variable {K L : Nat} {F : Nat → Prop} (R : RA) (m : DM) (S Z : ByteArray) (Ab : Option Addr) (nb cb : Nat) (bs : List UInt8) (w : World) (h : RIn F w R m) (hF : ∀ b, F b → b < w.heap.size) (hf : Fit K L m) (hK : K ≤ 998) (hL : L ≤ 999999) (hnb : nb = bs.length ∧ nb ≤ 1000000) (hbs : Rd w Ab (b8s bs))
include h hF hf hK hL hnb hbs
set_option maxRecDepth 100000 in
set_option maxHeartbeats 16000000 in
theorem rdo4n (he : wrongM m 4 S.data.toList Z.data.toList nb = 0) (hdn : m.down = false) (hfu : m.fuse = 0) (fi : Nat) (hfi : findN m.now S.data.toList = some fi) (hne : ∀ p ∈ m.now, p.1 ≠ []) :
  Calls Tryz.prog 18 #[R.val m, .agg #[.int .i64 4, .string S, .string Z, .slice Ab nb cb]] w fun e w' => ∃ R' : RA, e = .returned (.tuple #[R'.val ({ m with fuse := 0, now := doN m.now ⟨S.data.toList, Z.data.toList, fi⟩, turns := m.turns ++ [(⟨S.data.toList, Z.data.toList, fi⟩ : TM)] }), .int .i64 0]) ∧ RIn F w' R' ({ m with fuse := 0, now := doN m.now ⟨S.data.toList, Z.data.toList, fi⟩, turns := m.turns ++ [(⟨S.data.toList, Z.data.toList, fi⟩ : TM)] }) ∧ Below w.heap.size w w' := by
 obtain ⟨mm, hmm⟩ : ∃ y, { m with fuse := 0, now := doN m.now ⟨S.data.toList, Z.data.toList, fi⟩, turns := m.turns ++ [(⟨S.data.toList, Z.data.toList, fi⟩ : TM)] } = y := ⟨_, rfl⟩
 rw [hmm]
 have HMM := h_ hmm
 clear hmm
 have HFI := h_ hfi
 clear hfi
 have HNE := h_ hne
 clear hne
 have H := h_ h
 have HF := h_ hf
 have HFW := h_ hF
 have HBS := h_ hbs
 have HNB := h_ hnb
 have hnb' := hnb.2
 have hflk := hf.files
 have hnwk := hf.now
 have hstk := hf.st
 have hfuk := hf.fuse
 have hlk : ∀ i, (fileM m i).b.length ≤ L ∧ (fileM m i).safe ≤ (fileM m i).b.length := fun i => hf.fileM i
 have HLK := h_ hlk
 clear hlk
 obtain ⟨nf, hnf⟩ := eX m.files.length
 obtain ⟨n, hn⟩ := eX m.now.length
 have hnk : n ≤ 998 := by omega
 have hnfk : nf ≤ 998 := by omega
 obtain ⟨na, hna⟩ := eX R.na
 obtain ⟨fa, hfa⟩ := eX R.fa
 obtain ⟨fc, hfc⟩ := eX R.fc
 obtain ⟨nc, hnc⟩ := eX R.nc
 obtain ⟨sa, hsa⟩ := eX R.sa
 obtain ⟨sc, hsc⟩ := eX R.sc
 obtain ⟨ta, hta⟩ := eX R.ta
 obtain ⟨tc, htc⟩ := eX R.tc
 obtain ⟨ns, hns⟩ := eX m.sure.length
 obtain ⟨nt, hnt⟩ := eX m.turns.length
 have hntk : nt ≤ 998 := by omega
 obtain ⟨mo, hmo⟩ := eX m.most
 have HEQ : Hid (m.files.length = nf ∧ m.now.length = n ∧ R.na = na ∧ R.fa = fa ∧ R.fc = fc ∧ R.nc = nc ∧ R.sa = sa ∧ R.sc = sc ∧ R.ta = ta ∧ R.tc = tc ∧ m.sure.length = ns ∧ m.turns.length = nt ∧ m.most = mo) := h_ ⟨hnf, hn, hna, hfa, hfc, hnc, hsa, hsc, hta, htc, hns, hnt, hmo⟩
 have HVAL : Hid (R.val m = .agg #[.slice fa nf fc, .slice na n nc, .slice sa ns sc, .slice ta nt tc, .int .i64 (mo : Int), .int .i64 0, .bool false]) := h_ (by
  unfold RA.val RA.row
  rw [hn, hnf, hfa, hna, hsa, hta, hfc, hnc, hsc, htc, hns, hnt, hmo, hfu, hdn]
  try first | rfl | simp)
 have HN := h_ hn
 have HNF := h_ hnf
 have HFU := h_ hfu
 have HDN := h_ hdn
 rw [HVAL.out]
 obtain ⟨g, hg⟩ := eX w.heap.size
 have HGW := h_ hg
 obtain ⟨W1, hW1⟩ := eX (w.alloc (.cells #[.slice fa nf fc, .slice na n nc, .slice sa ns sc, .slice ta nt tc, .int .i64 (mo : Int), .int .i64 0, .bool false] 53))
 obtain ⟨r1, b1, s1⟩ := new_row hW1
 obtain ⟨W2, hW2⟩ := eX (W1.alloc (.cells #[.int .i64 4, .string S, .string Z, .slice Ab nb cb] 56))
 obtain ⟨r2, b2, s2⟩ := new_row hW2
 obtain ⟨W3, hW3⟩ := eX (W2.alloc (.cells #[.slice none 0 0, .slice none 0 0, .slice none 0 0, .slice none 0 0, .int .i64 0, .int .i64 0, .bool false] 53))
 obtain ⟨r3, b3, s3⟩ := new_row hW3
 obtain ⟨g2, hg2⟩ := eX W1.heap.size
 obtain ⟨g3, hg3⟩ := eX W2.heap.size
 have hl1 : g < g2 := by omega
 have hl2 : g2 < g3 := by omega
 replace r1 := (b3.block _ (by omega)).trans ((b2.block _ (by omega)).trans r1)
 replace r2 := (b3.block _ (by omega)).trans r2
 rw [hg] at r1
 rw [hg2] at r2
 rw [hg3] at r3
 have R3g := h_ r1
 have R3o := h_ r2
 have R3z := h_ r3
 have B3 : Hid (Below w.heap.size w W3) := h_ (b1.trans ((b2.mono b1.size).trans (b3.mono (Nat.le_trans b1.size b2.size))))
 have HWR : Hid (Calls Tryz.prog 42 #[R.val m, .agg #[.int .i64 4, .string S, .string Z, .slice Ab nb cb]] W3 fun e w' => e = .returned (.int .i64 0) ∧ Below W3.heap.size W3 w') := h_ (rwrong_any R m S Z Ab nb cb W3 (h.below B3.out) hf (by omega) (by omega) hnb' 4 ⟨by omega, by omega⟩ 0 he)
 rw [HVAL.out] at HWR
 clear h hf hF hbs hnb he hn hnf hna hfa hfc hnc hsa hsc hta htc hns hnt hmo hfu hdn b1 s1 b2 s2 b3 s3 hflk hnwk hstk hfuk
 go_enter Tryz.func18, Tryz.ntmps18
 go_wp2_with (first
  | (refine wpList_load_row rfl _ _ rfl _ rfl _ _ _ _ r1 Tryz.underlying53 rfl info_dk7 ?_)
  | (refine wpList_load_row rfl _ _ rfl _ rfl _ _ _ _ r2 Tryz.underlying56 rfl info_op4 ?_))
 try rw [hg, hg2, hg3]
 clear hg hg2 hg3 hW1 hW2 hW3 r1 r2 r3
 refine HWR.out.mono ?_
 rintro e w4 ⟨rfl, hb4⟩
 have R4g := bl_ hb4 R3g
 have R4o := bl_ hb4 R3o
 have R4z := bl_ hb4 R3z
 have B4 := bt_ B3 hb4
 obtain ⟨c4g0, c4g1, -, c4g3, -, c4g5, -⟩ := rw7 R4g
 obtain ⟨c4o0, c4o1, c4o2, c4o3⟩ := rw4 R4o
 have HFND := h_ (rfind_any na m.now n nc HN.out (by omega) S w4 (by have := (H.out.below B4.out).rn.1; rw [HEQ.out.2.2.1] at this; exact this))
 obtain ⟨q, hq⟩ := eX (findI m.now S.data.toList)
 rw [hq] at HFND
 obtain rfl : q = (fi : Int) := by rw [← hq]; exact findI_some HFI.out
 clear hq
 go_wp2_with fail
 refine HFND.out.mono ?_
 rintro e w9 ⟨rfl, rfl⟩
 have R9g := R4g
 have R9o := R4o
 have R9z := R4z
 have B9 := B4
 obtain ⟨gt, hq10⟩ := eX w9.heap.size
 obtain ⟨W10, hW10⟩ := eX (w9.alloc (.cells #[.string ⟨#[]⟩, .string ⟨#[]⟩, .int .i64 0] 103))
 obtain ⟨r10, b10, s10⟩ := new_row hW10
 have R10g := bl_ b10 R9g
 have R10o := bl_ b10 R9o
 have R10z := bl_ b10 R9z
 have B10 := bt_ B9 b10
 rw [hq10] at r10
 have R10t := h_ r10
 have HQ10 := h_ hq10
 clear b10 s10
 have hl3 : g3 < gt := by have := (b_ R9z); have := HQ10.out; omega
 obtain ⟨gf, hgf⟩ : ∃ x, x = gt := ⟨_, rfl⟩
 obtain ⟨W11, hW11, T11, R11t, G11⟩ := put_row (new := [.string ⟨#[]⟩, .string ⟨#[]⟩, .int .i64 0]) R10t.out rfl
 have HW11 := h_ hW11
 clear hW11
 have R11g := ro_ R10g G11 (by omega)
 have R11o := ro_ R10o G11 (by omega)
 have R11z := ro_ R10z G11 (by omega)
 have B11 := bg_ B10 G11 (by have := HGW.out; omega)
 obtain ⟨c11o0, c11o1, c11o2, c11o3⟩ := rw4 R11o
 obtain ⟨c11g0, c11g1, -, c11g3, -⟩ := rw7 R11g
 obtain ⟨W12, hW12, T12, R12t, G12⟩ := put_row (new := [.string S, .string Z, .int .i64 (fi : Int)]) R11t.out rfl
 have HW12 := h_ hW12
 clear hW12
 have R12g := ro_ R11g G12 (by omega)
 have R12o := ro_ R11o G12 (by omega)
 have R12z := ro_ R11z G12 (by omega)
 have B12 := bg_ B11 G12 (by have := HGW.out; omega)
 obtain ⟨c12g0, c12g1, -, c12g3, -⟩ := rw7 R12g
 have HTR : Hid (turnR (⟨S.data.toList, Z.data.toList, fi⟩ : TM) = [.string S, .string Z, .int .i64 (fi : Int)]) := h_ (by
  unfold turnR strV
  rw [show (⟨(S.data.toList).toArray⟩ : ByteArray) = S from ba_ext (by simp), show (⟨(Z.data.toList).toArray⟩ : ByteArray) = Z from ba_ext (by simp)])
 obtain ⟨x20, hx20⟩ := eX W12.heap.size
 obtain ⟨W13, hW13⟩ := eX (W12.alloc (.cells #[] 103))
 have HLT : Hid (LOut 103 3 turnR W12 W13 (some ⟨x20, 0, none⟩) 0 0 []) := h_ (by rw [← hW13, ← hx20]; exact LOut.start _ _ _ (Below.refl _ _))
 have HRT := h_ (((Below.refl _ _).alloc (Nat.le_refl _) (.cells #[] 103) : Below W12.heap.size W12 _).block _ (b_ R12g) |>.trans R12g.out)
 rw [hW13] at HRT
 go_upto_block 3 with (first
  | ((with_reducible (refine wpList_store_mid rfl _ _ _ rfl ?_ ?_ ?_ ?_ ?_ ?_ ?_ ?_ ?_)); exact gt; exact 0; (exact ([.string ⟨#[]⟩, .string ⟨#[]⟩, .int .i64 0]).toArray); exact rfl; exact rfl; exact T11.out; exact info_tn3a; exact cells3; rw [HW11.out])
  | ((with_reducible (refine wpList_store_mid rfl _ _ _ rfl ?_ ?_ ?_ ?_ ?_ ?_ ?_ ?_ ?_)); exact gt; exact 0; (exact ([.string S, .string Z, .int .i64 (fi : Int)]).toArray); exact rfl; exact rfl; exact T12.out; exact info_tn3a; exact cells3; rw [HW12.out]))
 refine cp_turns g x20 nt tc ta _ m.turns W13 W12 HRT.out (b_ R12g) rfl HEQ.out.2.2.2.2.2.2.2.2.2.2.2.1 (by omega) (fun W hb => by have := (H.out.below (B12.out.trans (hb.mono B12.out.size))).rt.1; rw [HEQ.out.2.2.2.2.2.2.2.2.1] at this; exact this) HLT.out _ ?_
 intros
 rename_i A21 c21 w14 ho21
 have HO21 := h_ ho21
 clear ho21 hW13
 have R14g := bl_ HO21.out.bel R12g
 have R14o := bl_ HO21.out.bel R12o
 have R14z := bl_ HO21.out.bel R12z
 have R14t : Hid (w14.heap[gt]? = some (.cells #[.string S, .string Z, .int .i64 (fi : Int)] 103 (0, 0))) := bl_ HO21.out.bel R12t
 have B14 := bt_ B12 HO21.out.bel
 obtain ⟨W15, hW15⟩ := eX (w14.alloc (.cells #[.string S, .string Z, .int .i64 (fi : Int)] 103))
 obtain ⟨r15, b15, s15⟩ := new_row hW15
 have HO22 := h_ (HO21.out.below b15)
 have HR22 : Hid (Rd W15 (some ⟨w14.heap.size, 0, none⟩) [.string S, .string Z, .int .i64 (fi : Int)]) := h_ (range_rd (range_of_row (cs := [.string S, .string Z, .int .i64 (fi : Int)]) r15))
 clear r15 b15 s15
 go_wp2_with (first
  | (refine wpList_load_row rfl _ _ rfl _ rfl _ _ _ _ R14t.out Tryz.underlying103 rfl info_tn3a ?_)
  | (at_builtin; refine wpList_append_rd _ rfl _ _ 51 rfl W12.heap.size 103 _ 3 40 Tryz.underlying51 info_tnz rfl (by decide) (.slice A21 nt c21) nt _ rfl HO22.out.own _ 1 _ ([.string S, .string Z, .int .i64 (fi : Int)]) rfl (rfl) HR22.out (tn_one3) (by unfold maxLen; omega) (by omega) HO22.out.bel.size ?_; intro v23 w23 ho23 hg23 hvb23; obtain ⟨A23, c23, e23, _⟩ := own_slice ho23; subst e23; have HO23 := h_ (HO22.out.grow (x := (⟨S.data.toList, Z.data.toList, fi⟩ : TM)) (by rw [HTR.out]; exact ho23) hg23); refine StopD.out ?_; clear ho23 hg23 hvb23))
 refine StopD.mk ?_
 clear hW15
 have HS12 : Hid (∀ b, sF F g g3 gt gf b → b < W12.heap.size) := h_ (fun b hb => by
  have h1 := B12.out.size
  have h2g := (b_ R12g)
  have h3z := (b_ R12z)
  have h4t := (b_ R12t)
  rcases hb with h | h | h | h | h
  ·have := HFW.out b h; omega
  all_goals omega)
 have R23g := bl_ HO23.out.bel R12g
 have R23o := bl_ HO23.out.bel R12o
 have R23z := bl_ HO23.out.bel R12z
 have R23t := bl_ HO23.out.bel R12t
 have B23 := bt_ B12 HO23.out.bel
 have X23_23 : Hid (Frm (sF F g g3 gt gf) w23 w23) := h_ (Frm.refl _ _)
 have c23g3 := (rw7 R23g).2.2.2.1
 have f23g3 : w23.frozen? ⟨g, 3, none⟩ = false := row_free R23g.out 3
 obtain ⟨W24, hW24⟩ := eX (w23.setCell ⟨g, 3, none⟩ (.slice A23 (nt + 1) c23))
 have G24 : Hid (w23.grownBy W24 (some g)) := h_ (by rw [← hW24]; exact grown_set g 3 _)
 have R24g : Hid (W24.heap[g]? = some (.cells #[.slice fa nf fc, .slice na n nc, .slice sa ns sc, .slice A23 (nt + 1) c23, .int .i64 (mo : Int), .int .i64 0, .bool false] 53 (0, 0))) := h_ (by have h9 := row_set R23g.out 3 (.slice A23 (nt + 1) c23); rw [hW24] at h9; simpa using h9)
 have R24o := ro_ R23o G24 (by omega)
 have R24z := ro_ R23z G24 (by omega)
 have R24t := ro_ R23t G24 (by omega)
 have B24 := bg_ B23 G24 (by have := HGW.out; omega)
 have X24_23 : Hid (Frm (sF F g g3 gt gf) w23 W24) := h_ (X23_23.out.trans (grown_frm (F := sF F g g3 gt gf) G24.out (.inr (.inl rfl))) (fun i hi => .inl hi))
 have c24g1 := (rw7 R24g).2.1
 have HDO := h_ (rdo_any na m.now n nc HN.out (by omega) S Z fi W24 (by have := (H.out.below B24.out).rn.1; rw [HEQ.out.2.2.1] at this; exact this))
 go_wp2_with (refine wpList_load_row rfl _ _ rfl _ rfl _ _ _ _ R24t.out Tryz.underlying103 rfl info_tn3a ?_)
 refine HDO.out.mono ?_
 rintro e w25 ⟨A25, n25, c25, rfl, ho25⟩
 have HO25 := h_ ho25
 clear ho25
 have HS24 : Hid (∀ b, sF F g g3 gt gf b → b < W24.heap.size) := h_ (fun b hb => by
  have h1 := B24.out.size
  have h2g := (b_ R24g)
  have h3z := (b_ R24z)
  have h4t := (b_ R24t)
  rcases hb with h | h | h | h | h
  ·have := HFW.out b h; omega
  all_goals omega)
 have R25g := bl_ HO25.out.bel R24g
 have R25o := bl_ HO25.out.bel R24o
 have R25z := bl_ HO25.out.bel R24z
 have R25t := bl_ HO25.out.bel R24t
 have B25 := bt_ B24 HO25.out.bel
 have X25_23 : Hid (Frm (sF F g g3 gt gf) w23 w25) := h_ (X24_23.out.trans (Frm.of_below (F := sF F g g3 gt gf) HO25.out.bel) (fun i hi => .inl hi))
 have X25_25 : Hid (Frm (sF F g g3 gt gf) w25 w25) := h_ (Frm.refl _ _)
 have c25g1 := (rw7 R25g).2.1
 have f25g1 : w25.frozen? ⟨g, 1, none⟩ = false := row_free R25g.out 1
 obtain ⟨W26, hW26⟩ := eX (w25.setCell ⟨g, 1, none⟩ (.slice A25 n25 c25))
 have G26 : Hid (w25.grownBy W26 (some g)) := h_ (by rw [← hW26]; exact grown_set g 1 _)
 have R26g : Hid (W26.heap[g]? = some (.cells #[.slice fa nf fc, .slice A25 n25 c25, .slice sa ns sc, .slice A23 (nt + 1) c23, .int .i64 (mo : Int), .int .i64 0, .bool false] 53 (0, 0))) := h_ (by have h9 := row_set R25g.out 1 (.slice A25 n25 c25); rw [hW26] at h9; simpa using h9)
 have R26o := ro_ R25o G26 (by omega)
 have R26z := ro_ R25z G26 (by omega)
 have R26t := ro_ R25t G26 (by omega)
 have B26 := bg_ B25 G26 (by have := HGW.out; omega)
 have X26_23 : Hid (Frm (sF F g g3 gt gf) w23 W26) := h_ (X25_23.out.trans (grown_frm (F := sF F g g3 gt gf) G26.out (.inr (.inl rfl))) (fun i hi => .inl hi))
 have X26_25 : Hid (Frm (sF F g g3 gt gf) w25 W26) := h_ (X25_25.out.trans (grown_frm (F := sF F g g3 gt gf) G26.out (.inr (.inl rfl))) (fun i hi => .inl hi))
 have HND : Hid (doN m.now (⟨S.data.toList, Z.data.toList, fi⟩ : TM) = doD m.now S.data.toList Z.data.toList fi) := h_ (doD_do HNE.out (⟨S.data.toList, Z.data.toList, fi⟩ : TM)).symm
 obtain ⟨W27, hW27, T27, R27z, G27⟩ := put_row (new := [.slice fa nf fc, .slice A25 n25 c25, .slice sa ns sc, .slice A23 (nt + 1) c23, .int .i64 (mo : Int), .int .i64 0, .bool false]) R26z.out rfl
 have HW27 := h_ hW27
 clear hW27
 have R27g := ro_ R26g G27 (by omega)
 have R27o := ro_ R26o G27 (by omega)
 have R27t := ro_ R26t G27 (by omega)
 have B27 := bg_ B26 G27 (by have := HGW.out; omega)
 have X27_23 : Hid (Frm (sF F g g3 gt gf) w23 W27) := h_ (X26_23.out.trans (grown_frm (F := sF F g g3 gt gf) G27.out (.inr (.inr (.inl rfl)))) (fun i hi => .inl hi))
 have X27_25 : Hid (Frm (sF F g g3 gt gf) w25 W27) := h_ (X26_25.out.trans (grown_frm (F := sF F g g3 gt gf) G27.out (.inr (.inr (.inl rfl)))) (fun i hi => .inl hi))
 obtain ⟨R9, hR9⟩ : ∃ x : RA, x = { R with ta := A23, tc := c23, na := A25, nc := c25 } := ⟨_, rfl⟩
 have HRI : Hid (RIn F W27 R9 mm) := h_ (by
  rw [hR9, ← HMM.out]
  have hA9 : RdF (sF F g g3 gt gf) W27 A23 (turnsR (m.turns ++ [(⟨S.data.toList, Z.data.toList, fi⟩ : TM)])) := (fresh_rdf HO23.out.rd HO23.out.addr HS12.out).frm X27_23.out (fun b hb => hb)
  have hB9 : RdF (sF F g g3 gt gf) W27 A25 (namesR (doN m.now (⟨S.data.toList, Z.data.toList, fi⟩ : TM))) := by
   rw [HND.out]
   exact (fresh_rdf HO25.out.rd HO25.out.addr HS24.out).frm X27_25.out (fun b hb => hb)
  have h9 := (((H.out.wide (G := sF F g g3 gt gf) (by rintro b (h | h | h | h | h); exact .inl h; all_goals (right; have h1 := HGW.out; omega))).below B27.out)).turned (c := c23) (c' := c25) hA9 hB9
  exact (h9.narrow (fun b hb => .inl hb)).same rfl rfl rfl rfl)
 have HV : Hid (R9.val mm = .agg #[.slice fa nf fc, .slice A25 n25 c25, .slice sa ns sc, .slice A23 (nt + 1) c23, .int .i64 (mo : Int), .int .i64 0, .bool false]) := h_ (by
  obtain ⟨e1, e2, e3, e4, e5, e6, e7, e8, e9, e10, e11, e12, e13⟩ := HEQ.out
  rw [hR9, ← HMM.out]
  have e14 : (doN m.now (⟨S.data.toList, Z.data.toList, fi⟩ : TM)).length = n25 := by rw [HND.out]; exact HO25.out.len.symm
  simp only [RA.val, RA.row, setF, List.length_set, List.length_append, List.length_cons, List.length_nil, e1, e2, e3, e4, e5, e6, e7, e8, e9, e10, e11, e12, e13, HDN.out, e14]
  try rfl)
 go_wp2_with (first
  | (refine wpList_load_row rfl _ _ rfl _ rfl _ _ _ _ R26g.out Tryz.underlying53 rfl info_dk7 ?_)
  | ((with_reducible (refine wpList_store_mid rfl _ _ _ rfl ?_ ?_ ?_ ?_ ?_ ?_ ?_ ?_ ?_)); exact g3; exact 0; (exact ([.slice fa nf fc, .slice A25 n25 c25, .slice sa ns sc, .slice A23 (nt + 1) c23, .int .i64 (mo : Int), .int .i64 0, .bool false]).toArray); exact rfl; exact rfl; exact T27.out; exact info_dk7; exact cells7; rw [HW27.out]))
 refine bodyPost_ret (results_row_tmp rfl _ _ _ _ _ _ _ rfl R27z.out Tryz.underlying53 rfl info_dk7) rfl ⟨R9, by rw [HV.out]; rfl, HRI.out, B27.out⟩
set_option maxRecDepth 100000 in
set_option maxHeartbeats 16000000 in
theorem rdo4f (he : wrongM m 4 S.data.toList Z.data.toList nb = 0) (hdn : m.down = false) (x : Nat) (hfu : m.fuse = x + 2) (fi : Nat) (hfi : findN m.now S.data.toList = some fi) (hne : ∀ p ∈ m.now, p.1 ≠ []) :
  Calls Tryz.prog 18 #[R.val m, .agg #[.int .i64 4, .string S, .string Z, .slice Ab nb cb]] w fun e w' => ∃ R' : RA, e = .returned (.tuple #[R'.val ({ m with fuse := (x + 1), now := doN m.now ⟨S.data.toList, Z.data.toList, fi⟩, turns := m.turns ++ [(⟨S.data.toList, Z.data.toList, fi⟩ : TM)] }), .int .i64 0]) ∧ RIn F w' R' ({ m with fuse := (x + 1), now := doN m.now ⟨S.data.toList, Z.data.toList, fi⟩, turns := m.turns ++ [(⟨S.data.toList, Z.data.toList, fi⟩ : TM)] }) ∧ Below w.heap.size w w' := by
 obtain ⟨mm, hmm⟩ : ∃ y, { m with fuse := (x + 1), now := doN m.now ⟨S.data.toList, Z.data.toList, fi⟩, turns := m.turns ++ [(⟨S.data.toList, Z.data.toList, fi⟩ : TM)] } = y := ⟨_, rfl⟩
 rw [hmm]
 have HMM := h_ hmm
 clear hmm
 have HFI := h_ hfi
 clear hfi
 have HNE := h_ hne
 clear hne
 have hxb : x ≤ 9223372036854775805 := by have := hf.fuse; omega
 have H := h_ h
 have HF := h_ hf
 have HFW := h_ hF
 have HBS := h_ hbs
 have HNB := h_ hnb
 have hnb' := hnb.2
 have hflk := hf.files
 have hnwk := hf.now
 have hstk := hf.st
 have hfuk := hf.fuse
 have hlk : ∀ i, (fileM m i).b.length ≤ L ∧ (fileM m i).safe ≤ (fileM m i).b.length := fun i => hf.fileM i
 have HLK := h_ hlk
 clear hlk
 obtain ⟨nf, hnf⟩ := eX m.files.length
 obtain ⟨n, hn⟩ := eX m.now.length
 have hnk : n ≤ 998 := by omega
 have hnfk : nf ≤ 998 := by omega
 obtain ⟨na, hna⟩ := eX R.na
 obtain ⟨fa, hfa⟩ := eX R.fa
 obtain ⟨fc, hfc⟩ := eX R.fc
 obtain ⟨nc, hnc⟩ := eX R.nc
 obtain ⟨sa, hsa⟩ := eX R.sa
 obtain ⟨sc, hsc⟩ := eX R.sc
 obtain ⟨ta, hta⟩ := eX R.ta
 obtain ⟨tc, htc⟩ := eX R.tc
 obtain ⟨ns, hns⟩ := eX m.sure.length
 obtain ⟨nt, hnt⟩ := eX m.turns.length
 have hntk : nt ≤ 998 := by omega
 obtain ⟨mo, hmo⟩ := eX m.most
 have HEQ : Hid (m.files.length = nf ∧ m.now.length = n ∧ R.na = na ∧ R.fa = fa ∧ R.fc = fc ∧ R.nc = nc ∧ R.sa = sa ∧ R.sc = sc ∧ R.ta = ta ∧ R.tc = tc ∧ m.sure.length = ns ∧ m.turns.length = nt ∧ m.most = mo) := h_ ⟨hnf, hn, hna, hfa, hfc, hnc, hsa, hsc, hta, htc, hns, hnt, hmo⟩
 have HVAL : Hid (R.val m = .agg #[.slice fa nf fc, .slice na n nc, .slice sa ns sc, .slice ta nt tc, .int .i64 (mo : Int), .int .i64 ((x : Int) + 2), .bool false]) := h_ (by
  unfold RA.val RA.row
  rw [hn, hnf, hfa, hna, hsa, hta, hfc, hnc, hsc, htc, hns, hnt, hmo, hfu, hdn]
  try first | rfl | simp)
 have HN := h_ hn
 have HNF := h_ hnf
 have HFU := h_ hfu
 have HDN := h_ hdn
 rw [HVAL.out]
 obtain ⟨g, hg⟩ := eX w.heap.size
 have HGW := h_ hg
 obtain ⟨W1, hW1⟩ := eX (w.alloc (.cells #[.slice fa nf fc, .slice na n nc, .slice sa ns sc, .slice ta nt tc, .int .i64 (mo : Int), .int .i64 ((x : Int) + 2), .bool false] 53))
 obtain ⟨r1, b1, s1⟩ := new_row hW1
 obtain ⟨W2, hW2⟩ := eX (W1.alloc (.cells #[.int .i64 4, .string S, .string Z, .slice Ab nb cb] 56))
 obtain ⟨r2, b2, s2⟩ := new_row hW2
 obtain ⟨W3, hW3⟩ := eX (W2.alloc (.cells #[.slice none 0 0, .slice none 0 0, .slice none 0 0, .slice none 0 0, .int .i64 0, .int .i64 0, .bool false] 53))
 obtain ⟨r3, b3, s3⟩ := new_row hW3
 obtain ⟨g2, hg2⟩ := eX W1.heap.size
 obtain ⟨g3, hg3⟩ := eX W2.heap.size
 have hl1 : g < g2 := by omega
 have hl2 : g2 < g3 := by omega
 replace r1 := (b3.block _ (by omega)).trans ((b2.block _ (by omega)).trans r1)
 replace r2 := (b3.block _ (by omega)).trans r2
 rw [hg] at r1
 rw [hg2] at r2
 rw [hg3] at r3
 have R3g := h_ r1
 have R3o := h_ r2
 have R3z := h_ r3
 have B3 : Hid (Below w.heap.size w W3) := h_ (b1.trans ((b2.mono b1.size).trans (b3.mono (Nat.le_trans b1.size b2.size))))
 have HWR : Hid (Calls Tryz.prog 42 #[R.val m, .agg #[.int .i64 4, .string S, .string Z, .slice Ab nb cb]] W3 fun e w' => e = .returned (.int .i64 0) ∧ Below W3.heap.size W3 w') := h_ (rwrong_any R m S Z Ab nb cb W3 (h.below B3.out) hf (by omega) (by omega) hnb' 4 ⟨by omega, by omega⟩ 0 he)
 rw [HVAL.out] at HWR
 clear h hf hF hbs hnb he hn hnf hna hfa hfc hnc hsa hsc hta htc hns hnt hmo hfu hdn b1 s1 b2 s2 b3 s3 hflk hnwk hstk hfuk
 go_enter Tryz.func18, Tryz.ntmps18
 go_wp2_with (first
  | (refine wpList_load_row rfl _ _ rfl _ rfl _ _ _ _ r1 Tryz.underlying53 rfl info_dk7 ?_)
  | (refine wpList_load_row rfl _ _ rfl _ rfl _ _ _ _ r2 Tryz.underlying56 rfl info_op4 ?_))
 try rw [hg, hg2, hg3]
 clear hg hg2 hg3 hW1 hW2 hW3 r1 r2 r3
 refine HWR.out.mono ?_
 rintro e w4 ⟨rfl, hb4⟩
 have R4g := bl_ hb4 R3g
 have R4o := bl_ hb4 R3o
 have R4z := bl_ hb4 R3z
 have B4 := bt_ B3 hb4
 have c4g5 := (rw7 R4g).2.2.2.2.2.1
 have f4g5 : w4.frozen? ⟨g, 5, none⟩ = false := row_free R4g.out 5
 obtain ⟨W5, hW5⟩ := eX (w4.setCell ⟨g, 5, none⟩ (.int .i64 ((x : Int) + 1)))
 have G5 : Hid (w4.grownBy W5 (some g)) := h_ (by rw [← hW5]; exact grown_set g 5 _)
 have R5g : Hid (W5.heap[g]? = some (.cells #[.slice fa nf fc, .slice na n nc, .slice sa ns sc, .slice ta nt tc, .int .i64 (mo : Int), .int .i64 ((x : Int) + 1), .bool false] 53 (0, 0))) := h_ (by have h9 := row_set R4g.out 5 (.int .i64 ((x : Int) + 1)); rw [hW5] at h9; simpa using h9)
 have R5o := ro_ R4o G5 (by omega)
 have R5z := ro_ R4z G5 (by omega)
 have B5 := bg_ B4 G5 (by have := HGW.out; omega)
 obtain ⟨c5g0, c5g1, -, c5g3, -, c5g5, -⟩ := rw7 R5g
 obtain ⟨c5o0, c5o1, c5o2, c5o3⟩ := rw4 R5o
 have j9 : (0 : Int) < (x : Int) + 2 := by omega
 have j8 : (x : Int) + 2 - 1 = (x : Int) + 1 := by omega
 have j7 : ((x : Int) + 1 == 0) = false := by rw [beq_eq_false_iff_ne]; omega
 have j6 : IntKind.i64.wrap ((x : Int) + 1) = (x : Int) + 1 := by rw [IntKind.wrap_i64]; omega
 have HFND := h_ (rfind_any na m.now n nc HN.out (by omega) S W5 (by have := (H.out.below B5.out).rn.1; rw [HEQ.out.2.2.1] at this; exact this))
 obtain ⟨q, hq⟩ := eX (findI m.now S.data.toList)
 rw [hq] at HFND
 obtain rfl : q = (fi : Int) := by rw [← hq]; exact findI_some HFI.out
 clear hq
 go_wp2_with fail
 refine HFND.out.mono ?_
 rintro e w9 ⟨rfl, rfl⟩
 have R9g := R5g
 have R9o := R5o
 have R9z := R5z
 have B9 := B5
 obtain ⟨gt, hq10⟩ := eX w9.heap.size
 obtain ⟨W10, hW10⟩ := eX (w9.alloc (.cells #[.string ⟨#[]⟩, .string ⟨#[]⟩, .int .i64 0] 103))
 obtain ⟨r10, b10, s10⟩ := new_row hW10
 have R10g := bl_ b10 R9g
 have R10o := bl_ b10 R9o
 have R10z := bl_ b10 R9z
 have B10 := bt_ B9 b10
 rw [hq10] at r10
 have R10t := h_ r10
 have HQ10 := h_ hq10
 clear b10 s10
 have hl3 : g3 < gt := by have := (b_ R9z); have := HQ10.out; omega
 obtain ⟨gf, hgf⟩ : ∃ x, x = gt := ⟨_, rfl⟩
 obtain ⟨W11, hW11, T11, R11t, G11⟩ := put_row (new := [.string ⟨#[]⟩, .string ⟨#[]⟩, .int .i64 0]) R10t.out rfl
 have HW11 := h_ hW11
 clear hW11
 have R11g := ro_ R10g G11 (by omega)
 have R11o := ro_ R10o G11 (by omega)
 have R11z := ro_ R10z G11 (by omega)
 have B11 := bg_ B10 G11 (by have := HGW.out; omega)
 obtain ⟨c11o0, c11o1, c11o2, c11o3⟩ := rw4 R11o
 obtain ⟨c11g0, c11g1, -, c11g3, -⟩ := rw7 R11g
 obtain ⟨W12, hW12, T12, R12t, G12⟩ := put_row (new := [.string S, .string Z, .int .i64 (fi : Int)]) R11t.out rfl
 have HW12 := h_ hW12
 clear hW12
 have R12g := ro_ R11g G12 (by omega)
 have R12o := ro_ R11o G12 (by omega)
 have R12z := ro_ R11z G12 (by omega)
 have B12 := bg_ B11 G12 (by have := HGW.out; omega)
 obtain ⟨c12g0, c12g1, -, c12g3, -⟩ := rw7 R12g
 have HTR : Hid (turnR (⟨S.data.toList, Z.data.toList, fi⟩ : TM) = [.string S, .string Z, .int .i64 (fi : Int)]) := h_ (by
  unfold turnR strV
  rw [show (⟨(S.data.toList).toArray⟩ : ByteArray) = S from ba_ext (by simp), show (⟨(Z.data.toList).toArray⟩ : ByteArray) = Z from ba_ext (by simp)])
 obtain ⟨x20, hx20⟩ := eX W12.heap.size
 obtain ⟨W13, hW13⟩ := eX (W12.alloc (.cells #[] 103))
 have HLT : Hid (LOut 103 3 turnR W12 W13 (some ⟨x20, 0, none⟩) 0 0 []) := h_ (by rw [← hW13, ← hx20]; exact LOut.start _ _ _ (Below.refl _ _))
 have HRT := h_ (((Below.refl _ _).alloc (Nat.le_refl _) (.cells #[] 103) : Below W12.heap.size W12 _).block _ (b_ R12g) |>.trans R12g.out)
 rw [hW13] at HRT
 go_upto_block 3 with (first
  | ((with_reducible (refine wpList_store_mid rfl _ _ _ rfl ?_ ?_ ?_ ?_ ?_ ?_ ?_ ?_ ?_)); exact gt; exact 0; (exact ([.string ⟨#[]⟩, .string ⟨#[]⟩, .int .i64 0]).toArray); exact rfl; exact rfl; exact T11.out; exact info_tn3a; exact cells3; rw [HW11.out])
  | ((with_reducible (refine wpList_store_mid rfl _ _ _ rfl ?_ ?_ ?_ ?_ ?_ ?_ ?_ ?_ ?_)); exact gt; exact 0; (exact ([.string S, .string Z, .int .i64 (fi : Int)]).toArray); exact rfl; exact rfl; exact T12.out; exact info_tn3a; exact cells3; rw [HW12.out]))
 refine cp_turns g x20 nt tc ta _ m.turns W13 W12 HRT.out (b_ R12g) rfl HEQ.out.2.2.2.2.2.2.2.2.2.2.2.1 (by omega) (fun W hb => by have := (H.out.below (B12.out.trans (hb.mono B12.out.size))).rt.1; rw [HEQ.out.2.2.2.2.2.2.2.2.1] at this; exact this) HLT.out _ ?_
 intros
 rename_i A21 c21 w14 ho21
 have HO21 := h_ ho21
 clear ho21 hW13
 have R14g := bl_ HO21.out.bel R12g
 have R14o := bl_ HO21.out.bel R12o
 have R14z := bl_ HO21.out.bel R12z
 have R14t : Hid (w14.heap[gt]? = some (.cells #[.string S, .string Z, .int .i64 (fi : Int)] 103 (0, 0))) := bl_ HO21.out.bel R12t
 have B14 := bt_ B12 HO21.out.bel
 obtain ⟨W15, hW15⟩ := eX (w14.alloc (.cells #[.string S, .string Z, .int .i64 (fi : Int)] 103))
 obtain ⟨r15, b15, s15⟩ := new_row hW15
 have HO22 := h_ (HO21.out.below b15)
 have HR22 : Hid (Rd W15 (some ⟨w14.heap.size, 0, none⟩) [.string S, .string Z, .int .i64 (fi : Int)]) := h_ (range_rd (range_of_row (cs := [.string S, .string Z, .int .i64 (fi : Int)]) r15))
 clear r15 b15 s15
 go_wp2_with (first
  | (refine wpList_load_row rfl _ _ rfl _ rfl _ _ _ _ R14t.out Tryz.underlying103 rfl info_tn3a ?_)
  | (at_builtin; refine wpList_append_rd _ rfl _ _ 51 rfl W12.heap.size 103 _ 3 40 Tryz.underlying51 info_tnz rfl (by decide) (.slice A21 nt c21) nt _ rfl HO22.out.own _ 1 _ ([.string S, .string Z, .int .i64 (fi : Int)]) rfl (rfl) HR22.out (tn_one3) (by unfold maxLen; omega) (by omega) HO22.out.bel.size ?_; intro v23 w23 ho23 hg23 hvb23; obtain ⟨A23, c23, e23, _⟩ := own_slice ho23; subst e23; have HO23 := h_ (HO22.out.grow (x := (⟨S.data.toList, Z.data.toList, fi⟩ : TM)) (by rw [HTR.out]; exact ho23) hg23); refine StopD.out ?_; clear ho23 hg23 hvb23))
 refine StopD.mk ?_
 clear hW15
 have HS12 : Hid (∀ b, sF F g g3 gt gf b → b < W12.heap.size) := h_ (fun b hb => by
  have h1 := B12.out.size
  have h2g := (b_ R12g)
  have h3z := (b_ R12z)
  have h4t := (b_ R12t)
  rcases hb with h | h | h | h | h
  ·have := HFW.out b h; omega
  all_goals omega)
 have R23g := bl_ HO23.out.bel R12g
 have R23o := bl_ HO23.out.bel R12o
 have R23z := bl_ HO23.out.bel R12z
 have R23t := bl_ HO23.out.bel R12t
 have B23 := bt_ B12 HO23.out.bel
 have X23_23 : Hid (Frm (sF F g g3 gt gf) w23 w23) := h_ (Frm.refl _ _)
 have c23g3 := (rw7 R23g).2.2.2.1
 have f23g3 : w23.frozen? ⟨g, 3, none⟩ = false := row_free R23g.out 3
 obtain ⟨W24, hW24⟩ := eX (w23.setCell ⟨g, 3, none⟩ (.slice A23 (nt + 1) c23))
 have G24 : Hid (w23.grownBy W24 (some g)) := h_ (by rw [← hW24]; exact grown_set g 3 _)
 have R24g : Hid (W24.heap[g]? = some (.cells #[.slice fa nf fc, .slice na n nc, .slice sa ns sc, .slice A23 (nt + 1) c23, .int .i64 (mo : Int), .int .i64 ((x : Int) + 1), .bool false] 53 (0, 0))) := h_ (by have h9 := row_set R23g.out 3 (.slice A23 (nt + 1) c23); rw [hW24] at h9; simpa using h9)
 have R24o := ro_ R23o G24 (by omega)
 have R24z := ro_ R23z G24 (by omega)
 have R24t := ro_ R23t G24 (by omega)
 have B24 := bg_ B23 G24 (by have := HGW.out; omega)
 have X24_23 : Hid (Frm (sF F g g3 gt gf) w23 W24) := h_ (X23_23.out.trans (grown_frm (F := sF F g g3 gt gf) G24.out (.inr (.inl rfl))) (fun i hi => .inl hi))
 have c24g1 := (rw7 R24g).2.1
 have HDO := h_ (rdo_any na m.now n nc HN.out (by omega) S Z fi W24 (by have := (H.out.below B24.out).rn.1; rw [HEQ.out.2.2.1] at this; exact this))
 go_wp2_with (refine wpList_load_row rfl _ _ rfl _ rfl _ _ _ _ R24t.out Tryz.underlying103 rfl info_tn3a ?_)
 refine HDO.out.mono ?_
 rintro e w25 ⟨A25, n25, c25, rfl, ho25⟩
 have HO25 := h_ ho25
 clear ho25
 have HS24 : Hid (∀ b, sF F g g3 gt gf b → b < W24.heap.size) := h_ (fun b hb => by
  have h1 := B24.out.size
  have h2g := (b_ R24g)
  have h3z := (b_ R24z)
  have h4t := (b_ R24t)
  rcases hb with h | h | h | h | h
  ·have := HFW.out b h; omega
  all_goals omega)
 have R25g := bl_ HO25.out.bel R24g
 have R25o := bl_ HO25.out.bel R24o
 have R25z := bl_ HO25.out.bel R24z
 have R25t := bl_ HO25.out.bel R24t
 have B25 := bt_ B24 HO25.out.bel
 have X25_23 : Hid (Frm (sF F g g3 gt gf) w23 w25) := h_ (X24_23.out.trans (Frm.of_below (F := sF F g g3 gt gf) HO25.out.bel) (fun i hi => .inl hi))
 have X25_25 : Hid (Frm (sF F g g3 gt gf) w25 w25) := h_ (Frm.refl _ _)
 have c25g1 := (rw7 R25g).2.1
 have f25g1 : w25.frozen? ⟨g, 1, none⟩ = false := row_free R25g.out 1
 obtain ⟨W26, hW26⟩ := eX (w25.setCell ⟨g, 1, none⟩ (.slice A25 n25 c25))
 have G26 : Hid (w25.grownBy W26 (some g)) := h_ (by rw [← hW26]; exact grown_set g 1 _)
 have R26g : Hid (W26.heap[g]? = some (.cells #[.slice fa nf fc, .slice A25 n25 c25, .slice sa ns sc, .slice A23 (nt + 1) c23, .int .i64 (mo : Int), .int .i64 ((x : Int) + 1), .bool false] 53 (0, 0))) := h_ (by have h9 := row_set R25g.out 1 (.slice A25 n25 c25); rw [hW26] at h9; simpa using h9)
 have R26o := ro_ R25o G26 (by omega)
 have R26z := ro_ R25z G26 (by omega)
 have R26t := ro_ R25t G26 (by omega)
 have B26 := bg_ B25 G26 (by have := HGW.out; omega)
 have X26_23 : Hid (Frm (sF F g g3 gt gf) w23 W26) := h_ (X25_23.out.trans (grown_frm (F := sF F g g3 gt gf) G26.out (.inr (.inl rfl))) (fun i hi => .inl hi))
 have X26_25 : Hid (Frm (sF F g g3 gt gf) w25 W26) := h_ (X25_25.out.trans (grown_frm (F := sF F g g3 gt gf) G26.out (.inr (.inl rfl))) (fun i hi => .inl hi))
 have HND : Hid (doN m.now (⟨S.data.toList, Z.data.toList, fi⟩ : TM) = doD m.now S.data.toList Z.data.toList fi) := h_ (doD_do HNE.out (⟨S.data.toList, Z.data.toList, fi⟩ : TM)).symm
 obtain ⟨W27, hW27, T27, R27z, G27⟩ := put_row (new := [.slice fa nf fc, .slice A25 n25 c25, .slice sa ns sc, .slice A23 (nt + 1) c23, .int .i64 (mo : Int), .int .i64 ((x : Int) + 1), .bool false]) R26z.out rfl
 have HW27 := h_ hW27
 clear hW27
 have R27g := ro_ R26g G27 (by omega)
 have R27o := ro_ R26o G27 (by omega)
 have R27t := ro_ R26t G27 (by omega)
 have B27 := bg_ B26 G27 (by have := HGW.out; omega)
 have X27_23 : Hid (Frm (sF F g g3 gt gf) w23 W27) := h_ (X26_23.out.trans (grown_frm (F := sF F g g3 gt gf) G27.out (.inr (.inr (.inl rfl)))) (fun i hi => .inl hi))
 have X27_25 : Hid (Frm (sF F g g3 gt gf) w25 W27) := h_ (X26_25.out.trans (grown_frm (F := sF F g g3 gt gf) G27.out (.inr (.inr (.inl rfl)))) (fun i hi => .inl hi))
 obtain ⟨R9, hR9⟩ : ∃ x : RA, x = { R with ta := A23, tc := c23, na := A25, nc := c25 } := ⟨_, rfl⟩
 have HRI : Hid (RIn F W27 R9 mm) := h_ (by
  rw [hR9, ← HMM.out]
  have hA9 : RdF (sF F g g3 gt gf) W27 A23 (turnsR (m.turns ++ [(⟨S.data.toList, Z.data.toList, fi⟩ : TM)])) := (fresh_rdf HO23.out.rd HO23.out.addr HS12.out).frm X27_23.out (fun b hb => hb)
  have hB9 : RdF (sF F g g3 gt gf) W27 A25 (namesR (doN m.now (⟨S.data.toList, Z.data.toList, fi⟩ : TM))) := by
   rw [HND.out]
   exact (fresh_rdf HO25.out.rd HO25.out.addr HS24.out).frm X27_25.out (fun b hb => hb)
  have h9 := (((H.out.wide (G := sF F g g3 gt gf) (by rintro b (h | h | h | h | h); exact .inl h; all_goals (right; have h1 := HGW.out; omega))).below B27.out)).turned (c := c23) (c' := c25) hA9 hB9
  exact (h9.narrow (fun b hb => .inl hb)).same rfl rfl rfl rfl)
 have HV : Hid (R9.val mm = .agg #[.slice fa nf fc, .slice A25 n25 c25, .slice sa ns sc, .slice A23 (nt + 1) c23, .int .i64 (mo : Int), .int .i64 ((x : Int) + 1), .bool false]) := h_ (by
  obtain ⟨e1, e2, e3, e4, e5, e6, e7, e8, e9, e10, e11, e12, e13⟩ := HEQ.out
  rw [hR9, ← HMM.out]
  have e14 : (doN m.now (⟨S.data.toList, Z.data.toList, fi⟩ : TM)).length = n25 := by rw [HND.out]; exact HO25.out.len.symm
  simp only [RA.val, RA.row, setF, List.length_set, List.length_append, List.length_cons, List.length_nil, e1, e2, e3, e4, e5, e6, e7, e8, e9, e10, e11, e12, e13, HDN.out, e14]
  try rfl)
 go_wp2_with (first
  | (refine wpList_load_row rfl _ _ rfl _ rfl _ _ _ _ R26g.out Tryz.underlying53 rfl info_dk7 ?_)
  | ((with_reducible (refine wpList_store_mid rfl _ _ _ rfl ?_ ?_ ?_ ?_ ?_ ?_ ?_ ?_ ?_)); exact g3; exact 0; (exact ([.slice fa nf fc, .slice A25 n25 c25, .slice sa ns sc, .slice A23 (nt + 1) c23, .int .i64 (mo : Int), .int .i64 ((x : Int) + 1), .bool false]).toArray); exact rfl; exact rfl; exact T27.out; exact info_dk7; exact cells7; rw [HW27.out]))
 refine bodyPost_ret (results_row_tmp rfl _ _ _ _ _ _ _ rfl R27z.out Tryz.underlying53 rfl info_dk7) rfl ⟨R9, by rw [HV.out]; rfl, HRI.out, B27.out⟩
end
section
variable {K L : Nat} {F : Nat → Prop} (R : RA) (m : DM) (S Z : ByteArray) (Ab : Option Addr) (nb cb : Nat) (bs : List UInt8) (w : World) (h : RIn F w R m) (hF : ∀ b, F b → b < w.heap.size) (hf : Fit K L m) (hK : K ≤ 998) (hL : L ≤ 999999) (hnb : nb = bs.length ∧ nb ≤ 1000000) (hbs : Rd w Ab (b8s bs))
include h hF hf hK hL hnb hbs
set_option maxRecDepth 100000 in
set_option maxHeartbeats 16000000 in
theorem rdo5n (he : wrongM m 5 S.data.toList Z.data.toList nb = 0) (hdn : m.down = false) (hfu : m.fuse = 0) (fi : Nat) (hfi : findN m.now S.data.toList = some fi) (hne : ∀ p ∈ m.now, p.1 ≠ []) :
  Calls Tryz.prog 18 #[R.val m, .agg #[.int .i64 5, .string S, .string Z, .slice Ab nb cb]] w fun e w' => ∃ R' : RA, e = .returned (.tuple #[R'.val ({ m with fuse := 0, now := doN m.now ⟨S.data.toList, [], fi⟩, turns := m.turns ++ [(⟨S.data.toList, [], fi⟩ : TM)] }), .int .i64 0]) ∧ RIn F w' R' ({ m with fuse := 0, now := doN m.now ⟨S.data.toList, [], fi⟩, turns := m.turns ++ [(⟨S.data.toList, [], fi⟩ : TM)] }) ∧ Below w.heap.size w w' := by
 obtain ⟨mm, hmm⟩ : ∃ y, { m with fuse := 0, now := doN m.now ⟨S.data.toList, [], fi⟩, turns := m.turns ++ [(⟨S.data.toList, [], fi⟩ : TM)] } = y := ⟨_, rfl⟩
 rw [hmm]
 have HMM := h_ hmm
 clear hmm
 have HFI := h_ hfi
 clear hfi
 have HNE := h_ hne
 clear hne
 have H := h_ h
 have HF := h_ hf
 have HFW := h_ hF
 have HBS := h_ hbs
 have HNB := h_ hnb
 have hnb' := hnb.2
 have hflk := hf.files
 have hnwk := hf.now
 have hstk := hf.st
 have hfuk := hf.fuse
 have hlk : ∀ i, (fileM m i).b.length ≤ L ∧ (fileM m i).safe ≤ (fileM m i).b.length := fun i => hf.fileM i
 have HLK := h_ hlk
 clear hlk
 obtain ⟨nf, hnf⟩ := eX m.files.length
 obtain ⟨n, hn⟩ := eX m.now.length
 have hnk : n ≤ 998 := by omega
 have hnfk : nf ≤ 998 := by omega
 obtain ⟨na, hna⟩ := eX R.na
 obtain ⟨fa, hfa⟩ := eX R.fa
 obtain ⟨fc, hfc⟩ := eX R.fc
 obtain ⟨nc, hnc⟩ := eX R.nc
 obtain ⟨sa, hsa⟩ := eX R.sa
 obtain ⟨sc, hsc⟩ := eX R.sc
 obtain ⟨ta, hta⟩ := eX R.ta
 obtain ⟨tc, htc⟩ := eX R.tc
 obtain ⟨ns, hns⟩ := eX m.sure.length
 obtain ⟨nt, hnt⟩ := eX m.turns.length
 have hntk : nt ≤ 998 := by omega
 obtain ⟨mo, hmo⟩ := eX m.most
 have HEQ : Hid (m.files.length = nf ∧ m.now.length = n ∧ R.na = na ∧ R.fa = fa ∧ R.fc = fc ∧ R.nc = nc ∧ R.sa = sa ∧ R.sc = sc ∧ R.ta = ta ∧ R.tc = tc ∧ m.sure.length = ns ∧ m.turns.length = nt ∧ m.most = mo) := h_ ⟨hnf, hn, hna, hfa, hfc, hnc, hsa, hsc, hta, htc, hns, hnt, hmo⟩
 have HVAL : Hid (R.val m = .agg #[.slice fa nf fc, .slice na n nc, .slice sa ns sc, .slice ta nt tc, .int .i64 (mo : Int), .int .i64 0, .bool false]) := h_ (by
  unfold RA.val RA.row
  rw [hn, hnf, hfa, hna, hsa, hta, hfc, hnc, hsc, htc, hns, hnt, hmo, hfu, hdn]
  try first | rfl | simp)
 have HN := h_ hn
 have HNF := h_ hnf
 have HFU := h_ hfu
 have HDN := h_ hdn
 rw [HVAL.out]
 obtain ⟨g, hg⟩ := eX w.heap.size
 have HGW := h_ hg
 obtain ⟨W1, hW1⟩ := eX (w.alloc (.cells #[.slice fa nf fc, .slice na n nc, .slice sa ns sc, .slice ta nt tc, .int .i64 (mo : Int), .int .i64 0, .bool false] 53))
 obtain ⟨r1, b1, s1⟩ := new_row hW1
 obtain ⟨W2, hW2⟩ := eX (W1.alloc (.cells #[.int .i64 5, .string S, .string Z, .slice Ab nb cb] 56))
 obtain ⟨r2, b2, s2⟩ := new_row hW2
 obtain ⟨W3, hW3⟩ := eX (W2.alloc (.cells #[.slice none 0 0, .slice none 0 0, .slice none 0 0, .slice none 0 0, .int .i64 0, .int .i64 0, .bool false] 53))
 obtain ⟨r3, b3, s3⟩ := new_row hW3
 obtain ⟨g2, hg2⟩ := eX W1.heap.size
 obtain ⟨g3, hg3⟩ := eX W2.heap.size
 have hl1 : g < g2 := by omega
 have hl2 : g2 < g3 := by omega
 replace r1 := (b3.block _ (by omega)).trans ((b2.block _ (by omega)).trans r1)
 replace r2 := (b3.block _ (by omega)).trans r2
 rw [hg] at r1
 rw [hg2] at r2
 rw [hg3] at r3
 have R3g := h_ r1
 have R3o := h_ r2
 have R3z := h_ r3
 have B3 : Hid (Below w.heap.size w W3) := h_ (b1.trans ((b2.mono b1.size).trans (b3.mono (Nat.le_trans b1.size b2.size))))
 have HWR : Hid (Calls Tryz.prog 42 #[R.val m, .agg #[.int .i64 5, .string S, .string Z, .slice Ab nb cb]] W3 fun e w' => e = .returned (.int .i64 0) ∧ Below W3.heap.size W3 w') := h_ (rwrong_any R m S Z Ab nb cb W3 (h.below B3.out) hf (by omega) (by omega) hnb' 5 ⟨by omega, by omega⟩ 0 he)
 rw [HVAL.out] at HWR
 clear h hf hF hbs hnb he hn hnf hna hfa hfc hnc hsa hsc hta htc hns hnt hmo hfu hdn b1 s1 b2 s2 b3 s3 hflk hnwk hstk hfuk
 go_enter Tryz.func18, Tryz.ntmps18
 go_wp2_with (first
  | (refine wpList_load_row rfl _ _ rfl _ rfl _ _ _ _ r1 Tryz.underlying53 rfl info_dk7 ?_)
  | (refine wpList_load_row rfl _ _ rfl _ rfl _ _ _ _ r2 Tryz.underlying56 rfl info_op4 ?_))
 try rw [hg, hg2, hg3]
 clear hg hg2 hg3 hW1 hW2 hW3 r1 r2 r3
 refine HWR.out.mono ?_
 rintro e w4 ⟨rfl, hb4⟩
 have R4g := bl_ hb4 R3g
 have R4o := bl_ hb4 R3o
 have R4z := bl_ hb4 R3z
 have B4 := bt_ B3 hb4
 obtain ⟨c4g0, c4g1, -, c4g3, -, c4g5, -⟩ := rw7 R4g
 obtain ⟨c4o0, c4o1, c4o2, c4o3⟩ := rw4 R4o
 have HFND := h_ (rfind_any na m.now n nc HN.out (by omega) S w4 (by have := (H.out.below B4.out).rn.1; rw [HEQ.out.2.2.1] at this; exact this))
 obtain ⟨q, hq⟩ := eX (findI m.now S.data.toList)
 rw [hq] at HFND
 obtain rfl : q = (fi : Int) := by rw [← hq]; exact findI_some HFI.out
 clear hq
 go_wp2_with fail
 refine HFND.out.mono ?_
 rintro e w9 ⟨rfl, rfl⟩
 have R9g := R4g
 have R9o := R4o
 have R9z := R4z
 have B9 := B4
 obtain ⟨gt, hq10⟩ := eX w9.heap.size
 obtain ⟨W10, hW10⟩ := eX (w9.alloc (.cells #[.string ⟨#[]⟩, .string ⟨#[]⟩, .int .i64 0] 103))
 obtain ⟨r10, b10, s10⟩ := new_row hW10
 have R10g := bl_ b10 R9g
 have R10o := bl_ b10 R9o
 have R10z := bl_ b10 R9z
 have B10 := bt_ B9 b10
 rw [hq10] at r10
 have R10t := h_ r10
 have HQ10 := h_ hq10
 clear b10 s10
 have hl3 : g3 < gt := by have := (b_ R9z); have := HQ10.out; omega
 obtain ⟨gf, hgf⟩ : ∃ x, x = gt := ⟨_, rfl⟩
 obtain ⟨W11, hW11, T11, R11t, G11⟩ := put_row (new := [.string ⟨#[]⟩, .string ⟨#[]⟩, .int .i64 0]) R10t.out rfl
 have HW11 := h_ hW11
 clear hW11
 have R11g := ro_ R10g G11 (by omega)
 have R11o := ro_ R10o G11 (by omega)
 have R11z := ro_ R10z G11 (by omega)
 have B11 := bg_ B10 G11 (by have := HGW.out; omega)
 obtain ⟨c11o0, c11o1, c11o2, c11o3⟩ := rw4 R11o
 obtain ⟨c11g0, c11g1, -, c11g3, -⟩ := rw7 R11g
 obtain ⟨W12, hW12, T12, R12t, G12⟩ := put_row (new := [.string S, .string (⟨#[]⟩ : ByteArray), .int .i64 (fi : Int)]) R11t.out rfl
 have HW12 := h_ hW12
 clear hW12
 have R12g := ro_ R11g G12 (by omega)
 have R12o := ro_ R11o G12 (by omega)
 have R12z := ro_ R11z G12 (by omega)
 have B12 := bg_ B11 G12 (by have := HGW.out; omega)
 obtain ⟨c12g0, c12g1, -, c12g3, -⟩ := rw7 R12g
 have HTR : Hid (turnR (⟨S.data.toList, (⟨#[]⟩ : ByteArray).data.toList, fi⟩ : TM) = [.string S, .string (⟨#[]⟩ : ByteArray), .int .i64 (fi : Int)]) := h_ (by
  unfold turnR strV
  rw [show (⟨(S.data.toList).toArray⟩ : ByteArray) = S from ba_ext (by simp), show (⟨((⟨#[]⟩ : ByteArray).data.toList).toArray⟩ : ByteArray) = (⟨#[]⟩ : ByteArray) from ba_ext (by simp)])
 obtain ⟨x20, hx20⟩ := eX W12.heap.size
 obtain ⟨W13, hW13⟩ := eX (W12.alloc (.cells #[] 103))
 have HLT : Hid (LOut 103 3 turnR W12 W13 (some ⟨x20, 0, none⟩) 0 0 []) := h_ (by rw [← hW13, ← hx20]; exact LOut.start _ _ _ (Below.refl _ _))
 have HRT := h_ (((Below.refl _ _).alloc (Nat.le_refl _) (.cells #[] 103) : Below W12.heap.size W12 _).block _ (b_ R12g) |>.trans R12g.out)
 rw [hW13] at HRT
 go_upto_block 3 with (first
  | ((with_reducible (refine wpList_store_mid rfl _ _ _ rfl ?_ ?_ ?_ ?_ ?_ ?_ ?_ ?_ ?_)); exact gt; exact 0; (exact ([.string ⟨#[]⟩, .string ⟨#[]⟩, .int .i64 0]).toArray); exact rfl; exact rfl; exact T11.out; exact info_tn3a; exact cells3; rw [HW11.out])
  | ((with_reducible (refine wpList_store_mid rfl _ _ _ rfl ?_ ?_ ?_ ?_ ?_ ?_ ?_ ?_ ?_)); exact gt; exact 0; (exact ([.string S, .string (⟨#[]⟩ : ByteArray), .int .i64 (fi : Int)]).toArray); exact rfl; exact rfl; exact T12.out; exact info_tn3a; exact cells3; rw [HW12.out]))
 refine cp_turns g x20 nt tc ta _ m.turns W13 W12 HRT.out (b_ R12g) rfl HEQ.out.2.2.2.2.2.2.2.2.2.2.2.1 (by omega) (fun W hb => by have := (H.out.below (B12.out.trans (hb.mono B12.out.size))).rt.1; rw [HEQ.out.2.2.2.2.2.2.2.2.1] at this; exact this) HLT.out _ ?_
 intros
 rename_i A21 c21 w14 ho21
 have HO21 := h_ ho21
 clear ho21 hW13
 have R14g := bl_ HO21.out.bel R12g
 have R14o := bl_ HO21.out.bel R12o
 have R14z := bl_ HO21.out.bel R12z
 have R14t : Hid (w14.heap[gt]? = some (.cells #[.string S, .string (⟨#[]⟩ : ByteArray), .int .i64 (fi : Int)] 103 (0, 0))) := bl_ HO21.out.bel R12t
 have B14 := bt_ B12 HO21.out.bel
 obtain ⟨W15, hW15⟩ := eX (w14.alloc (.cells #[.string S, .string (⟨#[]⟩ : ByteArray), .int .i64 (fi : Int)] 103))
 obtain ⟨r15, b15, s15⟩ := new_row hW15
 have HO22 := h_ (HO21.out.below b15)
 have HR22 : Hid (Rd W15 (some ⟨w14.heap.size, 0, none⟩) [.string S, .string (⟨#[]⟩ : ByteArray), .int .i64 (fi : Int)]) := h_ (range_rd (range_of_row (cs := [.string S, .string (⟨#[]⟩ : ByteArray), .int .i64 (fi : Int)]) r15))
 clear r15 b15 s15
 go_wp2_with (first
  | (refine wpList_load_row rfl _ _ rfl _ rfl _ _ _ _ R14t.out Tryz.underlying103 rfl info_tn3a ?_)
  | (at_builtin; refine wpList_append_rd _ rfl _ _ 51 rfl W12.heap.size 103 _ 3 40 Tryz.underlying51 info_tnz rfl (by decide) (.slice A21 nt c21) nt _ rfl HO22.out.own _ 1 _ ([.string S, .string (⟨#[]⟩ : ByteArray), .int .i64 (fi : Int)]) rfl (rfl) HR22.out (tn_one3) (by unfold maxLen; omega) (by omega) HO22.out.bel.size ?_; intro v23 w23 ho23 hg23 hvb23; obtain ⟨A23, c23, e23, _⟩ := own_slice ho23; subst e23; have HO23 := h_ (HO22.out.grow (x := (⟨S.data.toList, (⟨#[]⟩ : ByteArray).data.toList, fi⟩ : TM)) (by rw [HTR.out]; exact ho23) hg23); refine StopD.out ?_; clear ho23 hg23 hvb23))
 refine StopD.mk ?_
 clear hW15
 have HS12 : Hid (∀ b, sF F g g3 gt gf b → b < W12.heap.size) := h_ (fun b hb => by
  have h1 := B12.out.size
  have h2g := (b_ R12g)
  have h3z := (b_ R12z)
  have h4t := (b_ R12t)
  rcases hb with h | h | h | h | h
  ·have := HFW.out b h; omega
  all_goals omega)
 have R23g := bl_ HO23.out.bel R12g
 have R23o := bl_ HO23.out.bel R12o
 have R23z := bl_ HO23.out.bel R12z
 have R23t := bl_ HO23.out.bel R12t
 have B23 := bt_ B12 HO23.out.bel
 have X23_23 : Hid (Frm (sF F g g3 gt gf) w23 w23) := h_ (Frm.refl _ _)
 have c23g3 := (rw7 R23g).2.2.2.1
 have f23g3 : w23.frozen? ⟨g, 3, none⟩ = false := row_free R23g.out 3
 obtain ⟨W24, hW24⟩ := eX (w23.setCell ⟨g, 3, none⟩ (.slice A23 (nt + 1) c23))
 have G24 : Hid (w23.grownBy W24 (some g)) := h_ (by rw [← hW24]; exact grown_set g 3 _)
 have R24g : Hid (W24.heap[g]? = some (.cells #[.slice fa nf fc, .slice na n nc, .slice sa ns sc, .slice A23 (nt + 1) c23, .int .i64 (mo : Int), .int .i64 0, .bool false] 53 (0, 0))) := h_ (by have h9 := row_set R23g.out 3 (.slice A23 (nt + 1) c23); rw [hW24] at h9; simpa using h9)
 have R24o := ro_ R23o G24 (by omega)
 have R24z := ro_ R23z G24 (by omega)
 have R24t := ro_ R23t G24 (by omega)
 have B24 := bg_ B23 G24 (by have := HGW.out; omega)
 have X24_23 : Hid (Frm (sF F g g3 gt gf) w23 W24) := h_ (X23_23.out.trans (grown_frm (F := sF F g g3 gt gf) G24.out (.inr (.inl rfl))) (fun i hi => .inl hi))
 have c24g1 := (rw7 R24g).2.1
 have HDO := h_ (rdo_any na m.now n nc HN.out (by omega) S (⟨#[]⟩ : ByteArray) fi W24 (by have := (H.out.below B24.out).rn.1; rw [HEQ.out.2.2.1] at this; exact this))
 go_wp2_with (refine wpList_load_row rfl _ _ rfl _ rfl _ _ _ _ R24t.out Tryz.underlying103 rfl info_tn3a ?_)
 refine HDO.out.mono ?_
 rintro e w25 ⟨A25, n25, c25, rfl, ho25⟩
 have HO25 := h_ ho25
 clear ho25
 have HS24 : Hid (∀ b, sF F g g3 gt gf b → b < W24.heap.size) := h_ (fun b hb => by
  have h1 := B24.out.size
  have h2g := (b_ R24g)
  have h3z := (b_ R24z)
  have h4t := (b_ R24t)
  rcases hb with h | h | h | h | h
  ·have := HFW.out b h; omega
  all_goals omega)
 have R25g := bl_ HO25.out.bel R24g
 have R25o := bl_ HO25.out.bel R24o
 have R25z := bl_ HO25.out.bel R24z
 have R25t := bl_ HO25.out.bel R24t
 have B25 := bt_ B24 HO25.out.bel
 have X25_23 : Hid (Frm (sF F g g3 gt gf) w23 w25) := h_ (X24_23.out.trans (Frm.of_below (F := sF F g g3 gt gf) HO25.out.bel) (fun i hi => .inl hi))
 have X25_25 : Hid (Frm (sF F g g3 gt gf) w25 w25) := h_ (Frm.refl _ _)
 have c25g1 := (rw7 R25g).2.1
 have f25g1 : w25.frozen? ⟨g, 1, none⟩ = false := row_free R25g.out 1
 obtain ⟨W26, hW26⟩ := eX (w25.setCell ⟨g, 1, none⟩ (.slice A25 n25 c25))
 have G26 : Hid (w25.grownBy W26 (some g)) := h_ (by rw [← hW26]; exact grown_set g 1 _)
 have R26g : Hid (W26.heap[g]? = some (.cells #[.slice fa nf fc, .slice A25 n25 c25, .slice sa ns sc, .slice A23 (nt + 1) c23, .int .i64 (mo : Int), .int .i64 0, .bool false] 53 (0, 0))) := h_ (by have h9 := row_set R25g.out 1 (.slice A25 n25 c25); rw [hW26] at h9; simpa using h9)
 have R26o := ro_ R25o G26 (by omega)
 have R26z := ro_ R25z G26 (by omega)
 have R26t := ro_ R25t G26 (by omega)
 have B26 := bg_ B25 G26 (by have := HGW.out; omega)
 have X26_23 : Hid (Frm (sF F g g3 gt gf) w23 W26) := h_ (X25_23.out.trans (grown_frm (F := sF F g g3 gt gf) G26.out (.inr (.inl rfl))) (fun i hi => .inl hi))
 have X26_25 : Hid (Frm (sF F g g3 gt gf) w25 W26) := h_ (X25_25.out.trans (grown_frm (F := sF F g g3 gt gf) G26.out (.inr (.inl rfl))) (fun i hi => .inl hi))
 have HND : Hid (doN m.now (⟨S.data.toList, (⟨#[]⟩ : ByteArray).data.toList, fi⟩ : TM) = doD m.now S.data.toList (⟨#[]⟩ : ByteArray).data.toList fi) := h_ (doD_do HNE.out (⟨S.data.toList, (⟨#[]⟩ : ByteArray).data.toList, fi⟩ : TM)).symm
 obtain ⟨W27, hW27, T27, R27z, G27⟩ := put_row (new := [.slice fa nf fc, .slice A25 n25 c25, .slice sa ns sc, .slice A23 (nt + 1) c23, .int .i64 (mo : Int), .int .i64 0, .bool false]) R26z.out rfl
 have HW27 := h_ hW27
 clear hW27
 have R27g := ro_ R26g G27 (by omega)
 have R27o := ro_ R26o G27 (by omega)
 have R27t := ro_ R26t G27 (by omega)
 have B27 := bg_ B26 G27 (by have := HGW.out; omega)
 have X27_23 : Hid (Frm (sF F g g3 gt gf) w23 W27) := h_ (X26_23.out.trans (grown_frm (F := sF F g g3 gt gf) G27.out (.inr (.inr (.inl rfl)))) (fun i hi => .inl hi))
 have X27_25 : Hid (Frm (sF F g g3 gt gf) w25 W27) := h_ (X26_25.out.trans (grown_frm (F := sF F g g3 gt gf) G27.out (.inr (.inr (.inl rfl)))) (fun i hi => .inl hi))
 obtain ⟨R9, hR9⟩ : ∃ x : RA, x = { R with ta := A23, tc := c23, na := A25, nc := c25 } := ⟨_, rfl⟩
 have HRI : Hid (RIn F W27 R9 mm) := h_ (by
  rw [hR9, ← HMM.out]
  have hA9 : RdF (sF F g g3 gt gf) W27 A23 (turnsR (m.turns ++ [(⟨S.data.toList, (⟨#[]⟩ : ByteArray).data.toList, fi⟩ : TM)])) := (fresh_rdf HO23.out.rd HO23.out.addr HS12.out).frm X27_23.out (fun b hb => hb)
  have hB9 : RdF (sF F g g3 gt gf) W27 A25 (namesR (doN m.now (⟨S.data.toList, (⟨#[]⟩ : ByteArray).data.toList, fi⟩ : TM))) := by
   rw [HND.out]
   exact (fresh_rdf HO25.out.rd HO25.out.addr HS24.out).frm X27_25.out (fun b hb => hb)
  have h9 := (((H.out.wide (G := sF F g g3 gt gf) (by rintro b (h | h | h | h | h); exact .inl h; all_goals (right; have h1 := HGW.out; omega))).below B27.out)).turned (c := c23) (c' := c25) hA9 hB9
  exact (h9.narrow (fun b hb => .inl hb)).same rfl rfl rfl rfl)
 have HV : Hid (R9.val mm = .agg #[.slice fa nf fc, .slice A25 n25 c25, .slice sa ns sc, .slice A23 (nt + 1) c23, .int .i64 (mo : Int), .int .i64 0, .bool false]) := h_ (by
  obtain ⟨e1, e2, e3, e4, e5, e6, e7, e8, e9, e10, e11, e12, e13⟩ := HEQ.out
  rw [hR9, ← HMM.out]
  have e14 : (doN m.now (⟨S.data.toList, (⟨#[]⟩ : ByteArray).data.toList, fi⟩ : TM)).length = n25 := by rw [HND.out]; exact HO25.out.len.symm
  simp only [RA.val, RA.row, setF, List.length_set, List.length_append, List.length_cons, List.length_nil, e1, e2, e3, e4, e5, e6, e7, e8, e9, e10, e11, e12, e13, HDN.out, e14]
  try rfl)
 go_wp2_with (first
  | (refine wpList_load_row rfl _ _ rfl _ rfl _ _ _ _ R26g.out Tryz.underlying53 rfl info_dk7 ?_)
  | ((with_reducible (refine wpList_store_mid rfl _ _ _ rfl ?_ ?_ ?_ ?_ ?_ ?_ ?_ ?_ ?_)); exact g3; exact 0; (exact ([.slice fa nf fc, .slice A25 n25 c25, .slice sa ns sc, .slice A23 (nt + 1) c23, .int .i64 (mo : Int), .int .i64 0, .bool false]).toArray); exact rfl; exact rfl; exact T27.out; exact info_dk7; exact cells7; rw [HW27.out]))
 refine bodyPost_ret (results_row_tmp rfl _ _ _ _ _ _ _ rfl R27z.out Tryz.underlying53 rfl info_dk7) rfl ⟨R9, by rw [HV.out]; rfl, HRI.out, B27.out⟩
set_option maxRecDepth 100000 in
set_option maxHeartbeats 16000000 in
theorem rdo5f (he : wrongM m 5 S.data.toList Z.data.toList nb = 0) (hdn : m.down = false) (x : Nat) (hfu : m.fuse = x + 2) (fi : Nat) (hfi : findN m.now S.data.toList = some fi) (hne : ∀ p ∈ m.now, p.1 ≠ []) :
  Calls Tryz.prog 18 #[R.val m, .agg #[.int .i64 5, .string S, .string Z, .slice Ab nb cb]] w fun e w' => ∃ R' : RA, e = .returned (.tuple #[R'.val ({ m with fuse := (x + 1), now := doN m.now ⟨S.data.toList, [], fi⟩, turns := m.turns ++ [(⟨S.data.toList, [], fi⟩ : TM)] }), .int .i64 0]) ∧ RIn F w' R' ({ m with fuse := (x + 1), now := doN m.now ⟨S.data.toList, [], fi⟩, turns := m.turns ++ [(⟨S.data.toList, [], fi⟩ : TM)] }) ∧ Below w.heap.size w w' := by
 obtain ⟨mm, hmm⟩ : ∃ y, { m with fuse := (x + 1), now := doN m.now ⟨S.data.toList, [], fi⟩, turns := m.turns ++ [(⟨S.data.toList, [], fi⟩ : TM)] } = y := ⟨_, rfl⟩
 rw [hmm]
 have HMM := h_ hmm
 clear hmm
 have HFI := h_ hfi
 clear hfi
 have HNE := h_ hne
 clear hne
 have hxb : x ≤ 9223372036854775805 := by have := hf.fuse; omega
 have H := h_ h
 have HF := h_ hf
 have HFW := h_ hF
 have HBS := h_ hbs
 have HNB := h_ hnb
 have hnb' := hnb.2
 have hflk := hf.files
 have hnwk := hf.now
 have hstk := hf.st
 have hfuk := hf.fuse
 have hlk : ∀ i, (fileM m i).b.length ≤ L ∧ (fileM m i).safe ≤ (fileM m i).b.length := fun i => hf.fileM i
 have HLK := h_ hlk
 clear hlk
 obtain ⟨nf, hnf⟩ := eX m.files.length
 obtain ⟨n, hn⟩ := eX m.now.length
 have hnk : n ≤ 998 := by omega
 have hnfk : nf ≤ 998 := by omega
 obtain ⟨na, hna⟩ := eX R.na
 obtain ⟨fa, hfa⟩ := eX R.fa
 obtain ⟨fc, hfc⟩ := eX R.fc
 obtain ⟨nc, hnc⟩ := eX R.nc
 obtain ⟨sa, hsa⟩ := eX R.sa
 obtain ⟨sc, hsc⟩ := eX R.sc
 obtain ⟨ta, hta⟩ := eX R.ta
 obtain ⟨tc, htc⟩ := eX R.tc
 obtain ⟨ns, hns⟩ := eX m.sure.length
 obtain ⟨nt, hnt⟩ := eX m.turns.length
 have hntk : nt ≤ 998 := by omega
 obtain ⟨mo, hmo⟩ := eX m.most
 have HEQ : Hid (m.files.length = nf ∧ m.now.length = n ∧ R.na = na ∧ R.fa = fa ∧ R.fc = fc ∧ R.nc = nc ∧ R.sa = sa ∧ R.sc = sc ∧ R.ta = ta ∧ R.tc = tc ∧ m.sure.length = ns ∧ m.turns.length = nt ∧ m.most = mo) := h_ ⟨hnf, hn, hna, hfa, hfc, hnc, hsa, hsc, hta, htc, hns, hnt, hmo⟩
 have HVAL : Hid (R.val m = .agg #[.slice fa nf fc, .slice na n nc, .slice sa ns sc, .slice ta nt tc, .int .i64 (mo : Int), .int .i64 ((x : Int) + 2), .bool false]) := h_ (by
  unfold RA.val RA.row
  rw [hn, hnf, hfa, hna, hsa, hta, hfc, hnc, hsc, htc, hns, hnt, hmo, hfu, hdn]
  try first | rfl | simp)
 have HN := h_ hn
 have HNF := h_ hnf
 have HFU := h_ hfu
 have HDN := h_ hdn
 rw [HVAL.out]
 obtain ⟨g, hg⟩ := eX w.heap.size
 have HGW := h_ hg
 obtain ⟨W1, hW1⟩ := eX (w.alloc (.cells #[.slice fa nf fc, .slice na n nc, .slice sa ns sc, .slice ta nt tc, .int .i64 (mo : Int), .int .i64 ((x : Int) + 2), .bool false] 53))
 obtain ⟨r1, b1, s1⟩ := new_row hW1
 obtain ⟨W2, hW2⟩ := eX (W1.alloc (.cells #[.int .i64 5, .string S, .string Z, .slice Ab nb cb] 56))
 obtain ⟨r2, b2, s2⟩ := new_row hW2
 obtain ⟨W3, hW3⟩ := eX (W2.alloc (.cells #[.slice none 0 0, .slice none 0 0, .slice none 0 0, .slice none 0 0, .int .i64 0, .int .i64 0, .bool false] 53))
 obtain ⟨r3, b3, s3⟩ := new_row hW3
 obtain ⟨g2, hg2⟩ := eX W1.heap.size
 obtain ⟨g3, hg3⟩ := eX W2.heap.size
 have hl1 : g < g2 := by omega
 have hl2 : g2 < g3 := by omega
 replace r1 := (b3.block _ (by omega)).trans ((b2.block _ (by omega)).trans r1)
 replace r2 := (b3.block _ (by omega)).trans r2
 rw [hg] at r1
 rw [hg2] at r2
 rw [hg3] at r3
 have R3g := h_ r1
 have R3o := h_ r2
 have R3z := h_ r3
 have B3 : Hid (Below w.heap.size w W3) := h_ (b1.trans ((b2.mono b1.size).trans (b3.mono (Nat.le_trans b1.size b2.size))))
 have HWR : Hid (Calls Tryz.prog 42 #[R.val m, .agg #[.int .i64 5, .string S, .string Z, .slice Ab nb cb]] W3 fun e w' => e = .returned (.int .i64 0) ∧ Below W3.heap.size W3 w') := h_ (rwrong_any R m S Z Ab nb cb W3 (h.below B3.out) hf (by omega) (by omega) hnb' 5 ⟨by omega, by omega⟩ 0 he)
 rw [HVAL.out] at HWR
 clear h hf hF hbs hnb he hn hnf hna hfa hfc hnc hsa hsc hta htc hns hnt hmo hfu hdn b1 s1 b2 s2 b3 s3 hflk hnwk hstk hfuk
 go_enter Tryz.func18, Tryz.ntmps18
 go_wp2_with (first
  | (refine wpList_load_row rfl _ _ rfl _ rfl _ _ _ _ r1 Tryz.underlying53 rfl info_dk7 ?_)
  | (refine wpList_load_row rfl _ _ rfl _ rfl _ _ _ _ r2 Tryz.underlying56 rfl info_op4 ?_))
 try rw [hg, hg2, hg3]
 clear hg hg2 hg3 hW1 hW2 hW3 r1 r2 r3
 refine HWR.out.mono ?_
 rintro e w4 ⟨rfl, hb4⟩
 have R4g := bl_ hb4 R3g
 have R4o := bl_ hb4 R3o
 have R4z := bl_ hb4 R3z
 have B4 := bt_ B3 hb4
 have c4g5 := (rw7 R4g).2.2.2.2.2.1
 have f4g5 : w4.frozen? ⟨g, 5, none⟩ = false := row_free R4g.out 5
 obtain ⟨W5, hW5⟩ := eX (w4.setCell ⟨g, 5, none⟩ (.int .i64 ((x : Int) + 1)))
 have G5 : Hid (w4.grownBy W5 (some g)) := h_ (by rw [← hW5]; exact grown_set g 5 _)
 have R5g : Hid (W5.heap[g]? = some (.cells #[.slice fa nf fc, .slice na n nc, .slice sa ns sc, .slice ta nt tc, .int .i64 (mo : Int), .int .i64 ((x : Int) + 1), .bool false] 53 (0, 0))) := h_ (by have h9 := row_set R4g.out 5 (.int .i64 ((x : Int) + 1)); rw [hW5] at h9; simpa using h9)
 have R5o := ro_ R4o G5 (by omega)
 have R5z := ro_ R4z G5 (by omega)
 have B5 := bg_ B4 G5 (by have := HGW.out; omega)
 obtain ⟨c5g0, c5g1, -, c5g3, -, c5g5, -⟩ := rw7 R5g
 obtain ⟨c5o0, c5o1, c5o2, c5o3⟩ := rw4 R5o
 have j9 : (0 : Int) < (x : Int) + 2 := by omega
 have j8 : (x : Int) + 2 - 1 = (x : Int) + 1 := by omega
 have j7 : ((x : Int) + 1 == 0) = false := by rw [beq_eq_false_iff_ne]; omega
 have j6 : IntKind.i64.wrap ((x : Int) + 1) = (x : Int) + 1 := by rw [IntKind.wrap_i64]; omega
 have HFND := h_ (rfind_any na m.now n nc HN.out (by omega) S W5 (by have := (H.out.below B5.out).rn.1; rw [HEQ.out.2.2.1] at this; exact this))
 obtain ⟨q, hq⟩ := eX (findI m.now S.data.toList)
 rw [hq] at HFND
 obtain rfl : q = (fi : Int) := by rw [← hq]; exact findI_some HFI.out
 clear hq
 go_wp2_with fail
 refine HFND.out.mono ?_
 rintro e w9 ⟨rfl, rfl⟩
 have R9g := R5g
 have R9o := R5o
 have R9z := R5z
 have B9 := B5
 obtain ⟨gt, hq10⟩ := eX w9.heap.size
 obtain ⟨W10, hW10⟩ := eX (w9.alloc (.cells #[.string ⟨#[]⟩, .string ⟨#[]⟩, .int .i64 0] 103))
 obtain ⟨r10, b10, s10⟩ := new_row hW10
 have R10g := bl_ b10 R9g
 have R10o := bl_ b10 R9o
 have R10z := bl_ b10 R9z
 have B10 := bt_ B9 b10
 rw [hq10] at r10
 have R10t := h_ r10
 have HQ10 := h_ hq10
 clear b10 s10
 have hl3 : g3 < gt := by have := (b_ R9z); have := HQ10.out; omega
 obtain ⟨gf, hgf⟩ : ∃ x, x = gt := ⟨_, rfl⟩
 obtain ⟨W11, hW11, T11, R11t, G11⟩ := put_row (new := [.string ⟨#[]⟩, .string ⟨#[]⟩, .int .i64 0]) R10t.out rfl
 have HW11 := h_ hW11
 clear hW11
 have R11g := ro_ R10g G11 (by omega)
 have R11o := ro_ R10o G11 (by omega)
 have R11z := ro_ R10z G11 (by omega)
 have B11 := bg_ B10 G11 (by have := HGW.out; omega)
 obtain ⟨c11o0, c11o1, c11o2, c11o3⟩ := rw4 R11o
 obtain ⟨c11g0, c11g1, -, c11g3, -⟩ := rw7 R11g
 obtain ⟨W12, hW12, T12, R12t, G12⟩ := put_row (new := [.string S, .string (⟨#[]⟩ : ByteArray), .int .i64 (fi : Int)]) R11t.out rfl
 have HW12 := h_ hW12
 clear hW12
 have R12g := ro_ R11g G12 (by omega)
 have R12o := ro_ R11o G12 (by omega)
 have R12z := ro_ R11z G12 (by omega)
 have B12 := bg_ B11 G12 (by have := HGW.out; omega)
 obtain ⟨c12g0, c12g1, -, c12g3, -⟩ := rw7 R12g
 have HTR : Hid (turnR (⟨S.data.toList, (⟨#[]⟩ : ByteArray).data.toList, fi⟩ : TM) = [.string S, .string (⟨#[]⟩ : ByteArray), .int .i64 (fi : Int)]) := h_ (by
  unfold turnR strV
  rw [show (⟨(S.data.toList).toArray⟩ : ByteArray) = S from ba_ext (by simp), show (⟨((⟨#[]⟩ : ByteArray).data.toList).toArray⟩ : ByteArray) = (⟨#[]⟩ : ByteArray) from ba_ext (by simp)])
 obtain ⟨x20, hx20⟩ := eX W12.heap.size
 obtain ⟨W13, hW13⟩ := eX (W12.alloc (.cells #[] 103))
 have HLT : Hid (LOut 103 3 turnR W12 W13 (some ⟨x20, 0, none⟩) 0 0 []) := h_ (by rw [← hW13, ← hx20]; exact LOut.start _ _ _ (Below.refl _ _))
 have HRT := h_ (((Below.refl _ _).alloc (Nat.le_refl _) (.cells #[] 103) : Below W12.heap.size W12 _).block _ (b_ R12g) |>.trans R12g.out)
 rw [hW13] at HRT
 go_upto_block 3 with (first
  | ((with_reducible (refine wpList_store_mid rfl _ _ _ rfl ?_ ?_ ?_ ?_ ?_ ?_ ?_ ?_ ?_)); exact gt; exact 0; (exact ([.string ⟨#[]⟩, .string ⟨#[]⟩, .int .i64 0]).toArray); exact rfl; exact rfl; exact T11.out; exact info_tn3a; exact cells3; rw [HW11.out])
  | ((with_reducible (refine wpList_store_mid rfl _ _ _ rfl ?_ ?_ ?_ ?_ ?_ ?_ ?_ ?_ ?_)); exact gt; exact 0; (exact ([.string S, .string (⟨#[]⟩ : ByteArray), .int .i64 (fi : Int)]).toArray); exact rfl; exact rfl; exact T12.out; exact info_tn3a; exact cells3; rw [HW12.out]))
 refine cp_turns g x20 nt tc ta _ m.turns W13 W12 HRT.out (b_ R12g) rfl HEQ.out.2.2.2.2.2.2.2.2.2.2.2.1 (by omega) (fun W hb => by have := (H.out.below (B12.out.trans (hb.mono B12.out.size))).rt.1; rw [HEQ.out.2.2.2.2.2.2.2.2.1] at this; exact this) HLT.out _ ?_
 intros
 rename_i A21 c21 w14 ho21
 have HO21 := h_ ho21
 clear ho21 hW13
 have R14g := bl_ HO21.out.bel R12g
 have R14o := bl_ HO21.out.bel R12o
 have R14z := bl_ HO21.out.bel R12z
 have R14t : Hid (w14.heap[gt]? = some (.cells #[.string S, .string (⟨#[]⟩ : ByteArray), .int .i64 (fi : Int)] 103 (0, 0))) := bl_ HO21.out.bel R12t
 have B14 := bt_ B12 HO21.out.bel
 obtain ⟨W15, hW15⟩ := eX (w14.alloc (.cells #[.string S, .string (⟨#[]⟩ : ByteArray), .int .i64 (fi : Int)] 103))
 obtain ⟨r15, b15, s15⟩ := new_row hW15
 have HO22 := h_ (HO21.out.below b15)
 have HR22 : Hid (Rd W15 (some ⟨w14.heap.size, 0, none⟩) [.string S, .string (⟨#[]⟩ : ByteArray), .int .i64 (fi : Int)]) := h_ (range_rd (range_of_row (cs := [.string S, .string (⟨#[]⟩ : ByteArray), .int .i64 (fi : Int)]) r15))
 clear r15 b15 s15
 go_wp2_with (first
  | (refine wpList_load_row rfl _ _ rfl _ rfl _ _ _ _ R14t.out Tryz.underlying103 rfl info_tn3a ?_)
  | (at_builtin; refine wpList_append_rd _ rfl _ _ 51 rfl W12.heap.size 103 _ 3 40 Tryz.underlying51 info_tnz rfl (by decide) (.slice A21 nt c21) nt _ rfl HO22.out.own _ 1 _ ([.string S, .string (⟨#[]⟩ : ByteArray), .int .i64 (fi : Int)]) rfl (rfl) HR22.out (tn_one3) (by unfold maxLen; omega) (by omega) HO22.out.bel.size ?_; intro v23 w23 ho23 hg23 hvb23; obtain ⟨A23, c23, e23, _⟩ := own_slice ho23; subst e23; have HO23 := h_ (HO22.out.grow (x := (⟨S.data.toList, (⟨#[]⟩ : ByteArray).data.toList, fi⟩ : TM)) (by rw [HTR.out]; exact ho23) hg23); refine StopD.out ?_; clear ho23 hg23 hvb23))
 refine StopD.mk ?_
 clear hW15
 have HS12 : Hid (∀ b, sF F g g3 gt gf b → b < W12.heap.size) := h_ (fun b hb => by
  have h1 := B12.out.size
  have h2g := (b_ R12g)
  have h3z := (b_ R12z)
  have h4t := (b_ R12t)
  rcases hb with h | h | h | h | h
  ·have := HFW.out b h; omega
  all_goals omega)
 have R23g := bl_ HO23.out.bel R12g
 have R23o := bl_ HO23.out.bel R12o
 have R23z := bl_ HO23.out.bel R12z
 have R23t := bl_ HO23.out.bel R12t
 have B23 := bt_ B12 HO23.out.bel
 have X23_23 : Hid (Frm (sF F g g3 gt gf) w23 w23) := h_ (Frm.refl _ _)
 have c23g3 := (rw7 R23g).2.2.2.1
 have f23g3 : w23.frozen? ⟨g, 3, none⟩ = false := row_free R23g.out 3
 obtain ⟨W24, hW24⟩ := eX (w23.setCell ⟨g, 3, none⟩ (.slice A23 (nt + 1) c23))
 have G24 : Hid (w23.grownBy W24 (some g)) := h_ (by rw [← hW24]; exact grown_set g 3 _)
 have R24g : Hid (W24.heap[g]? = some (.cells #[.slice fa nf fc, .slice na n nc, .slice sa ns sc, .slice A23 (nt + 1) c23, .int .i64 (mo : Int), .int .i64 ((x : Int) + 1), .bool false] 53 (0, 0))) := h_ (by have h9 := row_set R23g.out 3 (.slice A23 (nt + 1) c23); rw [hW24] at h9; simpa using h9)
 have R24o := ro_ R23o G24 (by omega)
 have R24z := ro_ R23z G24 (by omega)
 have R24t := ro_ R23t G24 (by omega)
 have B24 := bg_ B23 G24 (by have := HGW.out; omega)
 have X24_23 : Hid (Frm (sF F g g3 gt gf) w23 W24) := h_ (X23_23.out.trans (grown_frm (F := sF F g g3 gt gf) G24.out (.inr (.inl rfl))) (fun i hi => .inl hi))
 have c24g1 := (rw7 R24g).2.1
 have HDO := h_ (rdo_any na m.now n nc HN.out (by omega) S (⟨#[]⟩ : ByteArray) fi W24 (by have := (H.out.below B24.out).rn.1; rw [HEQ.out.2.2.1] at this; exact this))
 go_wp2_with (refine wpList_load_row rfl _ _ rfl _ rfl _ _ _ _ R24t.out Tryz.underlying103 rfl info_tn3a ?_)
 refine HDO.out.mono ?_
 rintro e w25 ⟨A25, n25, c25, rfl, ho25⟩
 have HO25 := h_ ho25
 clear ho25
 have HS24 : Hid (∀ b, sF F g g3 gt gf b → b < W24.heap.size) := h_ (fun b hb => by
  have h1 := B24.out.size
  have h2g := (b_ R24g)
  have h3z := (b_ R24z)
  have h4t := (b_ R24t)
  rcases hb with h | h | h | h | h
  ·have := HFW.out b h; omega
  all_goals omega)
 have R25g := bl_ HO25.out.bel R24g
 have R25o := bl_ HO25.out.bel R24o
 have R25z := bl_ HO25.out.bel R24z
 have R25t := bl_ HO25.out.bel R24t
 have B25 := bt_ B24 HO25.out.bel
 have X25_23 : Hid (Frm (sF F g g3 gt gf) w23 w25) := h_ (X24_23.out.trans (Frm.of_below (F := sF F g g3 gt gf) HO25.out.bel) (fun i hi => .inl hi))
 have X25_25 : Hid (Frm (sF F g g3 gt gf) w25 w25) := h_ (Frm.refl _ _)
 have c25g1 := (rw7 R25g).2.1
 have f25g1 : w25.frozen? ⟨g, 1, none⟩ = false := row_free R25g.out 1
 obtain ⟨W26, hW26⟩ := eX (w25.setCell ⟨g, 1, none⟩ (.slice A25 n25 c25))
 have G26 : Hid (w25.grownBy W26 (some g)) := h_ (by rw [← hW26]; exact grown_set g 1 _)
 have R26g : Hid (W26.heap[g]? = some (.cells #[.slice fa nf fc, .slice A25 n25 c25, .slice sa ns sc, .slice A23 (nt + 1) c23, .int .i64 (mo : Int), .int .i64 ((x : Int) + 1), .bool false] 53 (0, 0))) := h_ (by have h9 := row_set R25g.out 1 (.slice A25 n25 c25); rw [hW26] at h9; simpa using h9)
 have R26o := ro_ R25o G26 (by omega)
 have R26z := ro_ R25z G26 (by omega)
 have R26t := ro_ R25t G26 (by omega)
 have B26 := bg_ B25 G26 (by have := HGW.out; omega)
 have X26_23 : Hid (Frm (sF F g g3 gt gf) w23 W26) := h_ (X25_23.out.trans (grown_frm (F := sF F g g3 gt gf) G26.out (.inr (.inl rfl))) (fun i hi => .inl hi))
 have X26_25 : Hid (Frm (sF F g g3 gt gf) w25 W26) := h_ (X25_25.out.trans (grown_frm (F := sF F g g3 gt gf) G26.out (.inr (.inl rfl))) (fun i hi => .inl hi))
 have HND : Hid (doN m.now (⟨S.data.toList, (⟨#[]⟩ : ByteArray).data.toList, fi⟩ : TM) = doD m.now S.data.toList (⟨#[]⟩ : ByteArray).data.toList fi) := h_ (doD_do HNE.out (⟨S.data.toList, (⟨#[]⟩ : ByteArray).data.toList, fi⟩ : TM)).symm
 obtain ⟨W27, hW27, T27, R27z, G27⟩ := put_row (new := [.slice fa nf fc, .slice A25 n25 c25, .slice sa ns sc, .slice A23 (nt + 1) c23, .int .i64 (mo : Int), .int .i64 ((x : Int) + 1), .bool false]) R26z.out rfl
 have HW27 := h_ hW27
 clear hW27
 have R27g := ro_ R26g G27 (by omega)
 have R27o := ro_ R26o G27 (by omega)
 have R27t := ro_ R26t G27 (by omega)
 have B27 := bg_ B26 G27 (by have := HGW.out; omega)
 have X27_23 : Hid (Frm (sF F g g3 gt gf) w23 W27) := h_ (X26_23.out.trans (grown_frm (F := sF F g g3 gt gf) G27.out (.inr (.inr (.inl rfl)))) (fun i hi => .inl hi))
 have X27_25 : Hid (Frm (sF F g g3 gt gf) w25 W27) := h_ (X26_25.out.trans (grown_frm (F := sF F g g3 gt gf) G27.out (.inr (.inr (.inl rfl)))) (fun i hi => .inl hi))
 obtain ⟨R9, hR9⟩ : ∃ x : RA, x = { R with ta := A23, tc := c23, na := A25, nc := c25 } := ⟨_, rfl⟩
 have HRI : Hid (RIn F W27 R9 mm) := h_ (by
  rw [hR9, ← HMM.out]
  have hA9 : RdF (sF F g g3 gt gf) W27 A23 (turnsR (m.turns ++ [(⟨S.data.toList, (⟨#[]⟩ : ByteArray).data.toList, fi⟩ : TM)])) := (fresh_rdf HO23.out.rd HO23.out.addr HS12.out).frm X27_23.out (fun b hb => hb)
  have hB9 : RdF (sF F g g3 gt gf) W27 A25 (namesR (doN m.now (⟨S.data.toList, (⟨#[]⟩ : ByteArray).data.toList, fi⟩ : TM))) := by
   rw [HND.out]
   exact (fresh_rdf HO25.out.rd HO25.out.addr HS24.out).frm X27_25.out (fun b hb => hb)
  have h9 := (((H.out.wide (G := sF F g g3 gt gf) (by rintro b (h | h | h | h | h); exact .inl h; all_goals (right; have h1 := HGW.out; omega))).below B27.out)).turned (c := c23) (c' := c25) hA9 hB9
  exact (h9.narrow (fun b hb => .inl hb)).same rfl rfl rfl rfl)
 have HV : Hid (R9.val mm = .agg #[.slice fa nf fc, .slice A25 n25 c25, .slice sa ns sc, .slice A23 (nt + 1) c23, .int .i64 (mo : Int), .int .i64 ((x : Int) + 1), .bool false]) := h_ (by
  obtain ⟨e1, e2, e3, e4, e5, e6, e7, e8, e9, e10, e11, e12, e13⟩ := HEQ.out
  rw [hR9, ← HMM.out]
  have e14 : (doN m.now (⟨S.data.toList, (⟨#[]⟩ : ByteArray).data.toList, fi⟩ : TM)).length = n25 := by rw [HND.out]; exact HO25.out.len.symm
  simp only [RA.val, RA.row, setF, List.length_set, List.length_append, List.length_cons, List.length_nil, e1, e2, e3, e4, e5, e6, e7, e8, e9, e10, e11, e12, e13, HDN.out, e14]
  try rfl)
 go_wp2_with (first
  | (refine wpList_load_row rfl _ _ rfl _ rfl _ _ _ _ R26g.out Tryz.underlying53 rfl info_dk7 ?_)
  | ((with_reducible (refine wpList_store_mid rfl _ _ _ rfl ?_ ?_ ?_ ?_ ?_ ?_ ?_ ?_ ?_)); exact g3; exact 0; (exact ([.slice fa nf fc, .slice A25 n25 c25, .slice sa ns sc, .slice A23 (nt + 1) c23, .int .i64 (mo : Int), .int .i64 ((x : Int) + 1), .bool false]).toArray); exact rfl; exact rfl; exact T27.out; exact info_dk7; exact cells7; rw [HW27.out]))
 refine bodyPost_ret (results_row_tmp rfl _ _ _ _ _ _ _ rfl R27z.out Tryz.underlying53 rfl info_dk7) rfl ⟨R9, by rw [HV.out]; rfl, HRI.out, B27.out⟩
end
section
variable {K L : Nat} {F : Nat → Prop} (R : RA) (m : DM) (S Z : ByteArray) (Ab : Option Addr) (nb cb : Nat) (bs : List UInt8) (w : World) (h : RIn F w R m) (hF : ∀ b, F b → b < w.heap.size) (hf : Fit K L m) (hK : K ≤ 998) (hL : L ≤ 999999) (hnb : nb = bs.length ∧ nb ≤ 1000000) (hbs : Rd w Ab (b8s bs))
include h hF hf hK hL hnb hbs
set_option maxRecDepth 100000 in
set_option maxHeartbeats 16000000 in
theorem rdo1n (he : wrongM m 1 S.data.toList Z.data.toList nb = 0) (hdn : m.down = false) (hfu : m.fuse = 0) (hfi : findN m.now S.data.toList = none) (hne : ∀ p ∈ m.now, p.1 ≠ []) :
  Calls Tryz.prog 18 #[R.val m, .agg #[.int .i64 1, .string S, .string Z, .slice Ab nb cb]] w fun e w' => ∃ R' : RA, e = .returned (.tuple #[R'.val ({ m with fuse := 0, files := m.files ++ [(⟨[], 0⟩ : FM)], now := doN m.now ⟨[], S.data.toList, m.files.length⟩, turns := m.turns ++ [(⟨[], S.data.toList, m.files.length⟩ : TM)] }), .int .i64 0]) ∧ RIn F w' R' ({ m with fuse := 0, files := m.files ++ [(⟨[], 0⟩ : FM)], now := doN m.now ⟨[], S.data.toList, m.files.length⟩, turns := m.turns ++ [(⟨[], S.data.toList, m.files.length⟩ : TM)] }) ∧ Below w.heap.size w w' := by
 obtain ⟨mm, hmm⟩ : ∃ y, { m with fuse := 0, files := m.files ++ [(⟨[], 0⟩ : FM)], now := doN m.now ⟨[], S.data.toList, m.files.length⟩, turns := m.turns ++ [(⟨[], S.data.toList, m.files.length⟩ : TM)] } = y := ⟨_, rfl⟩
 rw [hmm]
 have HMM := h_ hmm
 clear hmm
 have HFI := h_ hfi
 clear hfi
 have HNE := h_ hne
 clear hne
 have H := h_ h
 have HF := h_ hf
 have HFW := h_ hF
 have HBS := h_ hbs
 have HNB := h_ hnb
 have hnb' := hnb.2
 have hflk := hf.files
 have hnwk := hf.now
 have hstk := hf.st
 have hfuk := hf.fuse
 have hlk : ∀ i, (fileM m i).b.length ≤ L ∧ (fileM m i).safe ≤ (fileM m i).b.length := fun i => hf.fileM i
 have HLK := h_ hlk
 clear hlk
 obtain ⟨nf, hnf⟩ := eX m.files.length
 obtain ⟨n, hn⟩ := eX m.now.length
 have hnk : n ≤ 998 := by omega
 have hnfk : nf ≤ 998 := by omega
 obtain ⟨na, hna⟩ := eX R.na
 obtain ⟨fa, hfa⟩ := eX R.fa
 obtain ⟨fc, hfc⟩ := eX R.fc
 obtain ⟨nc, hnc⟩ := eX R.nc
 obtain ⟨sa, hsa⟩ := eX R.sa
 obtain ⟨sc, hsc⟩ := eX R.sc
 obtain ⟨ta, hta⟩ := eX R.ta
 obtain ⟨tc, htc⟩ := eX R.tc
 obtain ⟨ns, hns⟩ := eX m.sure.length
 obtain ⟨nt, hnt⟩ := eX m.turns.length
 have hntk : nt ≤ 998 := by omega
 obtain ⟨mo, hmo⟩ := eX m.most
 have HEQ : Hid (m.files.length = nf ∧ m.now.length = n ∧ R.na = na ∧ R.fa = fa ∧ R.fc = fc ∧ R.nc = nc ∧ R.sa = sa ∧ R.sc = sc ∧ R.ta = ta ∧ R.tc = tc ∧ m.sure.length = ns ∧ m.turns.length = nt ∧ m.most = mo) := h_ ⟨hnf, hn, hna, hfa, hfc, hnc, hsa, hsc, hta, htc, hns, hnt, hmo⟩
 have HVAL : Hid (R.val m = .agg #[.slice fa nf fc, .slice na n nc, .slice sa ns sc, .slice ta nt tc, .int .i64 (mo : Int), .int .i64 0, .bool false]) := h_ (by
  unfold RA.val RA.row
  rw [hn, hnf, hfa, hna, hsa, hta, hfc, hnc, hsc, htc, hns, hnt, hmo, hfu, hdn]
  try first | rfl | simp)
 have HN := h_ hn
 have HNF := h_ hnf
 have HFU := h_ hfu
 have HDN := h_ hdn
 rw [HVAL.out]
 obtain ⟨g, hg⟩ := eX w.heap.size
 have HGW := h_ hg
 obtain ⟨W1, hW1⟩ := eX (w.alloc (.cells #[.slice fa nf fc, .slice na n nc, .slice sa ns sc, .slice ta nt tc, .int .i64 (mo : Int), .int .i64 0, .bool false] 53))
 obtain ⟨r1, b1, s1⟩ := new_row hW1
 obtain ⟨W2, hW2⟩ := eX (W1.alloc (.cells #[.int .i64 1, .string S, .string Z, .slice Ab nb cb] 56))
 obtain ⟨r2, b2, s2⟩ := new_row hW2
 obtain ⟨W3, hW3⟩ := eX (W2.alloc (.cells #[.slice none 0 0, .slice none 0 0, .slice none 0 0, .slice none 0 0, .int .i64 0, .int .i64 0, .bool false] 53))
 obtain ⟨r3, b3, s3⟩ := new_row hW3
 obtain ⟨g2, hg2⟩ := eX W1.heap.size
 obtain ⟨g3, hg3⟩ := eX W2.heap.size
 have hl1 : g < g2 := by omega
 have hl2 : g2 < g3 := by omega
 replace r1 := (b3.block _ (by omega)).trans ((b2.block _ (by omega)).trans r1)
 replace r2 := (b3.block _ (by omega)).trans r2
 rw [hg] at r1
 rw [hg2] at r2
 rw [hg3] at r3
 have R3g := h_ r1
 have R3o := h_ r2
 have R3z := h_ r3
 have B3 : Hid (Below w.heap.size w W3) := h_ (b1.trans ((b2.mono b1.size).trans (b3.mono (Nat.le_trans b1.size b2.size))))
 have HWR : Hid (Calls Tryz.prog 42 #[R.val m, .agg #[.int .i64 1, .string S, .string Z, .slice Ab nb cb]] W3 fun e w' => e = .returned (.int .i64 0) ∧ Below W3.heap.size W3 w') := h_ (rwrong_any R m S Z Ab nb cb W3 (h.below B3.out) hf (by omega) (by omega) hnb' 1 ⟨by omega, by omega⟩ 0 he)
 rw [HVAL.out] at HWR
 clear h hf hF hbs hnb he hn hnf hna hfa hfc hnc hsa hsc hta htc hns hnt hmo hfu hdn b1 s1 b2 s2 b3 s3 hflk hnwk hstk hfuk
 go_enter Tryz.func18, Tryz.ntmps18
 go_wp2_with (first
  | (refine wpList_load_row rfl _ _ rfl _ rfl _ _ _ _ r1 Tryz.underlying53 rfl info_dk7 ?_)
  | (refine wpList_load_row rfl _ _ rfl _ rfl _ _ _ _ r2 Tryz.underlying56 rfl info_op4 ?_))
 try rw [hg, hg2, hg3]
 clear hg hg2 hg3 hW1 hW2 hW3 r1 r2 r3
 refine HWR.out.mono ?_
 rintro e w4 ⟨rfl, hb4⟩
 have R4g := bl_ hb4 R3g
 have R4o := bl_ hb4 R3o
 have R4z := bl_ hb4 R3z
 have B4 := bt_ B3 hb4
 obtain ⟨c4g0, c4g1, -, c4g3, -, c4g5, -⟩ := rw7 R4g
 obtain ⟨c4o0, c4o1, c4o2, c4o3⟩ := rw4 R4o
 have HFND := h_ (rfind_any na m.now n nc HN.out (by omega) S w4 (by have := (H.out.below B4.out).rn.1; rw [HEQ.out.2.2.1] at this; exact this))
 obtain ⟨q, hq⟩ := eX (findI m.now S.data.toList)
 rw [hq] at HFND
 obtain rfl : q = -1 := by rw [← hq]; exact findI_none HFI.out
 clear hq
 go_wp2_with fail
 refine HFND.out.mono ?_
 rintro e w9 ⟨rfl, rfl⟩
 have R9g := R4g
 have R9o := R4o
 have R9z := R4z
 have B9 := B4
 obtain ⟨gt, hq10⟩ := eX w9.heap.size
 obtain ⟨W10, hW10⟩ := eX (w9.alloc (.cells #[.string ⟨#[]⟩, .string ⟨#[]⟩, .int .i64 0] 103))
 obtain ⟨r10, b10, s10⟩ := new_row hW10
 have R10g := bl_ b10 R9g
 have R10o := bl_ b10 R9o
 have R10z := bl_ b10 R9z
 have B10 := bt_ B9 b10
 rw [hq10] at r10
 have R10t := h_ r10
 have HQ10 := h_ hq10
 clear b10 s10
 have hl3 : g3 < gt := by have := (b_ R9z); have := HQ10.out; omega
 obtain ⟨gf, hgf⟩ : ∃ x, x = gt := ⟨_, rfl⟩
 obtain ⟨W11, hW11, T11, R11t, G11⟩ := put_row (new := [.string ⟨#[]⟩, .string ⟨#[]⟩, .int .i64 0]) R10t.out rfl
 have HW11 := h_ hW11
 clear hW11
 have R11g := ro_ R10g G11 (by omega)
 have R11o := ro_ R10o G11 (by omega)
 have R11z := ro_ R10z G11 (by omega)
 have B11 := bg_ B10 G11 (by have := HGW.out; omega)
 obtain ⟨c11o0, c11o1, c11o2, c11o3⟩ := rw4 R11o
 obtain ⟨c11g0, c11g1, -, c11g3, -⟩ := rw7 R11g
 obtain ⟨x12, hx12⟩ := eX W11.heap.size
 obtain ⟨W12, hW12⟩ := eX (W11.alloc (.cells #[] 105))
 have HLO : Hid (LOut 105 2 fileC W11 W12 (some ⟨x12, 0, none⟩) 0 0 []) := h_ (by rw [← hW12, ← hx12]; exact LOut.start _ _ _ (Below.refl _ _))
 have HRG := h_ (((Below.refl _ _).alloc (Nat.le_refl _) (.cells #[] 105) : Below W11.heap.size W11 _).block _ (b_ R11g) |>.trans R11g.out)
 rw [hW12] at HRG
 go_upto_block 1 with (first
  | ((with_reducible (refine wpList_store_mid rfl _ _ _ rfl ?_ ?_ ?_ ?_ ?_ ?_ ?_ ?_ ?_)); exact gt; exact 0; (exact ([.string ⟨#[]⟩, .string ⟨#[]⟩, .int .i64 0]).toArray); exact rfl; exact rfl; exact T11.out; exact info_tn3a; exact cells3; rw [HW11.out]))
 refine cp_files g x12 nf fc fa _ R.fs W12 W11 HRG.out (b_ R11g) rfl (H.out.fl.trans HNF.out) (by omega) (fun W hb => by have := (H.out.below (B11.out.trans (hb.mono B11.out.size))).rf.1; rw [HEQ.out.2.2.2.1] at this; exact this) HLO.out _ ?_
 intros
 rename_i A13 c13 w13 ho13
 have HO13 := h_ ho13
 clear ho13 hW12
 have R13g := bl_ HO13.out.bel R11g
 have R13o := bl_ HO13.out.bel R11o
 have R13z := bl_ HO13.out.bel R11z
 have R13t := bl_ HO13.out.bel R11t
 have B13 := bt_ B11 HO13.out.bel
 obtain ⟨W14, hW14⟩ := eX (w13.alloc (.cells #[.slice none 0 0, .int .i64 0] 105))
 obtain ⟨r14, b14, s14⟩ := new_row hW14
 have HO14 := h_ (HO13.out.below b14)
 have HR14 : Hid (Rd W14 (some ⟨w13.heap.size, 0, none⟩) [.slice none 0 0, .int .i64 0]) := h_ (range_rd (range_of_row (cs := [.slice none 0 0, .int .i64 0]) r14))
 clear r14 b14 s14
 go_wp2_with (at_builtin; refine wpList_append_rd _ rfl _ _ 49 rfl W11.heap.size 105 _ 2 32 Tryz.underlying49 info_flz rfl (by decide) (.slice A13 nf c13) nf _ rfl HO14.out.own _ 1 _ ([.slice none 0 0, .int .i64 0]) rfl (rfl) HR14.out (fl_one (⟨none, 0, []⟩, 0)) (by unfold maxLen; omega) (by omega) HO14.out.bel.size ?_; intro v15 w15 ho15 hg15 hvb15; obtain ⟨A15, c15, e15, _⟩ := own_slice ho15; subst e15; have HO15 := h_ (HO14.out.grow (x := ((⟨none, 0, []⟩ : PV), 0)) ho15 hg15); refine StopD.out ?_; clear ho15 hg15 hvb15)
 refine StopD.mk ?_
 clear hW14
 have HS11 : Hid (∀ b, sF F g g3 gt gf b → b < W11.heap.size) := h_ (fun b hb => by
  have h1 := B11.out.size
  have h2g := (b_ R11g)
  have h3z := (b_ R11z)
  have h4t := (b_ R11t)
  rcases hb with h | h | h | h | h
  ·have := HFW.out b h; omega
  all_goals omega)
 have R15g := bl_ HO15.out.bel R11g
 have R15o := bl_ HO15.out.bel R11o
 have R15z := bl_ HO15.out.bel R11z
 have R15t := bl_ HO15.out.bel R11t
 have B15 := bt_ B11 HO15.out.bel
 have X15_15 : Hid (Frm (sF F g g3 gt gf) w15 w15) := h_ (Frm.refl _ _)
 have c15g0 := (rw7 R15g).1
 have f15g0 : w15.frozen? ⟨g, 0, none⟩ = false := row_free R15g.out 0
 obtain ⟨W16, hW16⟩ := eX (w15.setCell ⟨g, 0, none⟩ (.slice A15 (nf + 1) c15))
 have G16 : Hid (w15.grownBy W16 (some g)) := h_ (by rw [← hW16]; exact grown_set g 0 _)
 have R16g : Hid (W16.heap[g]? = some (.cells #[.slice A15 (nf + 1) c15, .slice na n nc, .slice sa ns sc, .slice ta nt tc, .int .i64 (mo : Int), .int .i64 0, .bool false] 53 (0, 0))) := h_ (by have h9 := row_set R15g.out 0 (.slice A15 (nf + 1) c15); rw [hW16] at h9; simpa using h9)
 have R16o := ro_ R15o G16 (by omega)
 have R16z := ro_ R15z G16 (by omega)
 have R16t := ro_ R15t G16 (by omega)
 have B16 := bg_ B15 G16 (by have := HGW.out; omega)
 have X16_15 : Hid (Frm (sF F g g3 gt gf) w15 W16) := h_ (X15_15.out.trans (grown_frm (F := sF F g g3 gt gf) G16.out (.inr (.inl rfl))) (fun i hi => .inl hi))
 obtain ⟨c16g0, c16g1, -, c16g3, -⟩ := rw7 R16g
 have c16o1 := (rw4 R16o).2.1
 have jw : IntKind.i64.wrap (nf : Int) = (nf : Int) := by rw [IntKind.wrap_i64]; omega
 have jw2 : (nf : Int) + 1 - 1 = (nf : Int) := by omega
 obtain ⟨W17, hW17, T17, R17t, G17⟩ := put_row (new := [.string (⟨#[]⟩ : ByteArray), .string S, .int .i64 (nf : Int)]) R16t.out rfl
 have HW17 := h_ hW17
 clear hW17
 have R17g := ro_ R16g G17 (by omega)
 have R17o := ro_ R16o G17 (by omega)
 have R17z := ro_ R16z G17 (by omega)
 have B17 := bg_ B16 G17 (by have := HGW.out; omega)
 have X17_15 : Hid (Frm (sF F g g3 gt gf) w15 W17) := h_ (X16_15.out.trans (grown_frm (F := sF F g g3 gt gf) G17.out (.inr (.inr (.inr (.inl rfl))))) (fun i hi => .inl hi))
 obtain ⟨c17g0, c17g1, -, c17g3, -⟩ := rw7 R17g
 have HTR : Hid (turnR (⟨(⟨#[]⟩ : ByteArray).data.toList, S.data.toList, nf⟩ : TM) = [.string (⟨#[]⟩ : ByteArray), .string S, .int .i64 (nf : Int)]) := h_ (by
  unfold turnR strV
  rw [show (⟨((⟨#[]⟩ : ByteArray).data.toList).toArray⟩ : ByteArray) = (⟨#[]⟩ : ByteArray) from ba_ext (by simp), show (⟨(S.data.toList).toArray⟩ : ByteArray) = S from ba_ext (by simp)])
 obtain ⟨x20, hx20⟩ := eX W17.heap.size
 obtain ⟨W18, hW18⟩ := eX (W17.alloc (.cells #[] 103))
 have HLT : Hid (LOut 103 3 turnR W17 W18 (some ⟨x20, 0, none⟩) 0 0 []) := h_ (by rw [← hW18, ← hx20]; exact LOut.start _ _ _ (Below.refl _ _))
 have HRT := h_ (((Below.refl _ _).alloc (Nat.le_refl _) (.cells #[] 103) : Below W17.heap.size W17 _).block _ (b_ R17g) |>.trans R17g.out)
 rw [hW18] at HRT
 go_upto_block 3 with (first
  | ((with_reducible (refine wpList_store_mid rfl _ _ _ rfl ?_ ?_ ?_ ?_ ?_ ?_ ?_ ?_ ?_)); exact gt; exact 0; (exact ([.string (⟨#[]⟩ : ByteArray), .string S, .int .i64 (nf : Int)]).toArray); exact rfl; exact rfl; exact T17.out; exact info_tn3a; exact cells3; rw [HW17.out]))
 refine cp_turns g x20 nt tc ta _ m.turns W18 W17 HRT.out (b_ R17g) rfl HEQ.out.2.2.2.2.2.2.2.2.2.2.2.1 (by omega) (fun W hb => by have := (H.out.below (B17.out.trans (hb.mono B17.out.size))).rt.1; rw [HEQ.out.2.2.2.2.2.2.2.2.1] at this; exact this) HLT.out _ ?_
 intros
 rename_i A21 c21 w19 ho21
 have HO21 := h_ ho21
 clear ho21 hW18
 have R19g := bl_ HO21.out.bel R17g
 have R19o := bl_ HO21.out.bel R17o
 have R19z := bl_ HO21.out.bel R17z
 have R19t : Hid (w19.heap[gt]? = some (.cells #[.string (⟨#[]⟩ : ByteArray), .string S, .int .i64 (nf : Int)] 103 (0, 0))) := bl_ HO21.out.bel R17t
 have B19 := bt_ B17 HO21.out.bel
 have X19_15 : Hid (Frm (sF F g g3 gt gf) w15 w19) := h_ (X17_15.out.trans (Frm.of_below (F := sF F g g3 gt gf) HO21.out.bel) (fun i hi => .inl hi))
 obtain ⟨W20, hW20⟩ := eX (w19.alloc (.cells #[.string (⟨#[]⟩ : ByteArray), .string S, .int .i64 (nf : Int)] 103))
 obtain ⟨r20, b20, s20⟩ := new_row hW20
 have HO22 := h_ (HO21.out.below b20)
 have HR22 : Hid (Rd W20 (some ⟨w19.heap.size, 0, none⟩) [.string (⟨#[]⟩ : ByteArray), .string S, .int .i64 (nf : Int)]) := h_ (range_rd (range_of_row (cs := [.string (⟨#[]⟩ : ByteArray), .string S, .int .i64 (nf : Int)]) r20))
 clear r20 b20 s20
 go_wp2_with (first
  | (refine wpList_load_row rfl _ _ rfl _ rfl _ _ _ _ R19t.out Tryz.underlying103 rfl info_tn3a ?_)
  | (at_builtin; refine wpList_append_rd _ rfl _ _ 51 rfl W17.heap.size 103 _ 3 40 Tryz.underlying51 info_tnz rfl (by decide) (.slice A21 nt c21) nt _ rfl HO22.out.own _ 1 _ ([.string (⟨#[]⟩ : ByteArray), .string S, .int .i64 (nf : Int)]) rfl (rfl) HR22.out (tn_one3) (by unfold maxLen; omega) (by omega) HO22.out.bel.size ?_; intro v23 w23 ho23 hg23 hvb23; obtain ⟨A23, c23, e23, _⟩ := own_slice ho23; subst e23; have HO23 := h_ (HO22.out.grow (x := (⟨(⟨#[]⟩ : ByteArray).data.toList, S.data.toList, nf⟩ : TM)) (by rw [HTR.out]; exact ho23) hg23); refine StopD.out ?_; clear ho23 hg23 hvb23))
 refine StopD.mk ?_
 clear hW20
 have HS17 : Hid (∀ b, sF F g g3 gt gf b → b < W17.heap.size) := h_ (fun b hb => by
  have h1 := B17.out.size
  have h2g := (b_ R17g)
  have h3z := (b_ R17z)
  have h4t := (b_ R17t)
  rcases hb with h | h | h | h | h
  ·have := HFW.out b h; omega
  all_goals omega)
 have R23g := bl_ HO23.out.bel R17g
 have R23o := bl_ HO23.out.bel R17o
 have R23z := bl_ HO23.out.bel R17z
 have R23t := bl_ HO23.out.bel R17t
 have B23 := bt_ B17 HO23.out.bel
 have X23_15 : Hid (Frm (sF F g g3 gt gf) w15 w23) := h_ (X17_15.out.trans (Frm.of_below (F := sF F g g3 gt gf) HO23.out.bel) (fun i hi => .inl hi))
 have X23_23 : Hid (Frm (sF F g g3 gt gf) w23 w23) := h_ (Frm.refl _ _)
 have c23g3 := (rw7 R23g).2.2.2.1
 have f23g3 : w23.frozen? ⟨g, 3, none⟩ = false := row_free R23g.out 3
 obtain ⟨W24, hW24⟩ := eX (w23.setCell ⟨g, 3, none⟩ (.slice A23 (nt + 1) c23))
 have G24 : Hid (w23.grownBy W24 (some g)) := h_ (by rw [← hW24]; exact grown_set g 3 _)
 have R24g : Hid (W24.heap[g]? = some (.cells #[.slice A15 (nf + 1) c15, .slice na n nc, .slice sa ns sc, .slice A23 (nt + 1) c23, .int .i64 (mo : Int), .int .i64 0, .bool false] 53 (0, 0))) := h_ (by have h9 := row_set R23g.out 3 (.slice A23 (nt + 1) c23); rw [hW24] at h9; simpa using h9)
 have R24o := ro_ R23o G24 (by omega)
 have R24z := ro_ R23z G24 (by omega)
 have R24t := ro_ R23t G24 (by omega)
 have B24 := bg_ B23 G24 (by have := HGW.out; omega)
 have X24_15 : Hid (Frm (sF F g g3 gt gf) w15 W24) := h_ (X23_15.out.trans (grown_frm (F := sF F g g3 gt gf) G24.out (.inr (.inl rfl))) (fun i hi => .inl hi))
 have X24_23 : Hid (Frm (sF F g g3 gt gf) w23 W24) := h_ (X23_23.out.trans (grown_frm (F := sF F g g3 gt gf) G24.out (.inr (.inl rfl))) (fun i hi => .inl hi))
 have c24g1 := (rw7 R24g).2.1
 have HDO := h_ (rdo_any na m.now n nc HN.out (by omega) (⟨#[]⟩ : ByteArray) S nf W24 (by have := (H.out.below B24.out).rn.1; rw [HEQ.out.2.2.1] at this; exact this))
 go_wp2_with (refine wpList_load_row rfl _ _ rfl _ rfl _ _ _ _ R24t.out Tryz.underlying103 rfl info_tn3a ?_)
 refine HDO.out.mono ?_
 rintro e w25 ⟨A25, n25, c25, rfl, ho25⟩
 have HO25 := h_ ho25
 clear ho25
 have HS24 : Hid (∀ b, sF F g g3 gt gf b → b < W24.heap.size) := h_ (fun b hb => by
  have h1 := B24.out.size
  have h2g := (b_ R24g)
  have h3z := (b_ R24z)
  have h4t := (b_ R24t)
  rcases hb with h | h | h | h | h
  ·have := HFW.out b h; omega
  all_goals omega)
 have R25g := bl_ HO25.out.bel R24g
 have R25o := bl_ HO25.out.bel R24o
 have R25z := bl_ HO25.out.bel R24z
 have R25t := bl_ HO25.out.bel R24t
 have B25 := bt_ B24 HO25.out.bel
 have X25_15 : Hid (Frm (sF F g g3 gt gf) w15 w25) := h_ (X24_15.out.trans (Frm.of_below (F := sF F g g3 gt gf) HO25.out.bel) (fun i hi => .inl hi))
 have X25_23 : Hid (Frm (sF F g g3 gt gf) w23 w25) := h_ (X24_23.out.trans (Frm.of_below (F := sF F g g3 gt gf) HO25.out.bel) (fun i hi => .inl hi))
 have X25_25 : Hid (Frm (sF F g g3 gt gf) w25 w25) := h_ (Frm.refl _ _)
 have c25g1 := (rw7 R25g).2.1
 have f25g1 : w25.frozen? ⟨g, 1, none⟩ = false := row_free R25g.out 1
 obtain ⟨W26, hW26⟩ := eX (w25.setCell ⟨g, 1, none⟩ (.slice A25 n25 c25))
 have G26 : Hid (w25.grownBy W26 (some g)) := h_ (by rw [← hW26]; exact grown_set g 1 _)
 have R26g : Hid (W26.heap[g]? = some (.cells #[.slice A15 (nf + 1) c15, .slice A25 n25 c25, .slice sa ns sc, .slice A23 (nt + 1) c23, .int .i64 (mo : Int), .int .i64 0, .bool false] 53 (0, 0))) := h_ (by have h9 := row_set R25g.out 1 (.slice A25 n25 c25); rw [hW26] at h9; simpa using h9)
 have R26o := ro_ R25o G26 (by omega)
 have R26z := ro_ R25z G26 (by omega)
 have R26t := ro_ R25t G26 (by omega)
 have B26 := bg_ B25 G26 (by have := HGW.out; omega)
 have X26_15 : Hid (Frm (sF F g g3 gt gf) w15 W26) := h_ (X25_15.out.trans (grown_frm (F := sF F g g3 gt gf) G26.out (.inr (.inl rfl))) (fun i hi => .inl hi))
 have X26_23 : Hid (Frm (sF F g g3 gt gf) w23 W26) := h_ (X25_23.out.trans (grown_frm (F := sF F g g3 gt gf) G26.out (.inr (.inl rfl))) (fun i hi => .inl hi))
 have X26_25 : Hid (Frm (sF F g g3 gt gf) w25 W26) := h_ (X25_25.out.trans (grown_frm (F := sF F g g3 gt gf) G26.out (.inr (.inl rfl))) (fun i hi => .inl hi))
 have HND : Hid (doN m.now (⟨(⟨#[]⟩ : ByteArray).data.toList, S.data.toList, nf⟩ : TM) = doD m.now (⟨#[]⟩ : ByteArray).data.toList S.data.toList nf) := h_ (doD_do HNE.out (⟨(⟨#[]⟩ : ByteArray).data.toList, S.data.toList, nf⟩ : TM)).symm
 obtain ⟨W27, hW27, T27, R27z, G27⟩ := put_row (new := [.slice A15 (nf + 1) c15, .slice A25 n25 c25, .slice sa ns sc, .slice A23 (nt + 1) c23, .int .i64 (mo : Int), .int .i64 0, .bool false]) R26z.out rfl
 have HW27 := h_ hW27
 clear hW27
 have R27g := ro_ R26g G27 (by omega)
 have R27o := ro_ R26o G27 (by omega)
 have R27t := ro_ R26t G27 (by omega)
 have B27 := bg_ B26 G27 (by have := HGW.out; omega)
 have X27_15 : Hid (Frm (sF F g g3 gt gf) w15 W27) := h_ (X26_15.out.trans (grown_frm (F := sF F g g3 gt gf) G27.out (.inr (.inr (.inl rfl)))) (fun i hi => .inl hi))
 have X27_23 : Hid (Frm (sF F g g3 gt gf) w23 W27) := h_ (X26_23.out.trans (grown_frm (F := sF F g g3 gt gf) G27.out (.inr (.inr (.inl rfl)))) (fun i hi => .inl hi))
 have X27_25 : Hid (Frm (sF F g g3 gt gf) w25 W27) := h_ (X26_25.out.trans (grown_frm (F := sF F g g3 gt gf) G27.out (.inr (.inr (.inl rfl)))) (fun i hi => .inl hi))
 obtain ⟨R9, hR9⟩ : ∃ x : RA, x = { R with fs := R.fs ++ [((⟨none, 0, []⟩ : PV), 0)], fa := A15, fc := c15, ta := A23, tc := c23, na := A25, nc := c25 } := ⟨_, rfl⟩
 have HRI : Hid (RIn F W27 R9 mm) := h_ (by
  rw [hR9, ← HMM.out]
  have hA9 : RdF (sF F g g3 gt gf) W27 A23 (turnsR (m.turns ++ [(⟨(⟨#[]⟩ : ByteArray).data.toList, S.data.toList, nf⟩ : TM)])) := (fresh_rdf HO23.out.rd HO23.out.addr HS17.out).frm X27_23.out (fun b hb => hb)
  have hB9 : RdF (sF F g g3 gt gf) W27 A25 (namesR (doN m.now (⟨(⟨#[]⟩ : ByteArray).data.toList, S.data.toList, nf⟩ : TM))) := by
   rw [HND.out]
   exact (fresh_rdf HO25.out.rd HO25.out.addr HS24.out).frm X27_25.out (fun b hb => hb)
  have hC9 : RdF (sF F g g3 gt gf) W27 A15 (filesC (R.fs ++ [((⟨none, 0, []⟩ : PV), 0)])) := (fresh_rdf HO15.out.rd HO15.out.addr HS11.out).frm X27_15.out (fun b hb => hb)
  have h9 := ((((H.out.wide (G := sF F g g3 gt gf) (by rintro b (h | h | h | h | h); exact .inl h; all_goals (right; have h1 := HGW.out; omega))).below B27.out)).newf (c := c15) hC9).turned (c := c23) (c' := c25) hA9 hB9
  rw [HNF.out]
  exact (h9.narrow (fun b hb => .inl hb)).same rfl rfl rfl rfl)
 have HV : Hid (R9.val mm = .agg #[.slice A15 (nf + 1) c15, .slice A25 n25 c25, .slice sa ns sc, .slice A23 (nt + 1) c23, .int .i64 (mo : Int), .int .i64 0, .bool false]) := h_ (by
  obtain ⟨e1, e2, e3, e4, e5, e6, e7, e8, e9, e10, e11, e12, e13⟩ := HEQ.out
  rw [hR9, ← HMM.out]
  have e14 : (doN m.now (⟨(⟨#[]⟩ : ByteArray).data.toList, S.data.toList, nf⟩ : TM)).length = n25 := by rw [HND.out]; exact HO25.out.len.symm
  rw [e1]
  simp only [RA.val, RA.row, setF, List.length_set, List.length_append, List.length_cons, List.length_nil, e1, e2, e3, e4, e5, e6, e7, e8, e9, e10, e11, e12, e13, HDN.out, e14]
  try rfl)
 go_wp2_with (first
  | (refine wpList_load_row rfl _ _ rfl _ rfl _ _ _ _ R26g.out Tryz.underlying53 rfl info_dk7 ?_)
  | ((with_reducible (refine wpList_store_mid rfl _ _ _ rfl ?_ ?_ ?_ ?_ ?_ ?_ ?_ ?_ ?_)); exact g3; exact 0; (exact ([.slice A15 (nf + 1) c15, .slice A25 n25 c25, .slice sa ns sc, .slice A23 (nt + 1) c23, .int .i64 (mo : Int), .int .i64 0, .bool false]).toArray); exact rfl; exact rfl; exact T27.out; exact info_dk7; exact cells7; rw [HW27.out]))
 refine bodyPost_ret (results_row_tmp rfl _ _ _ _ _ _ _ rfl R27z.out Tryz.underlying53 rfl info_dk7) rfl ⟨R9, by rw [HV.out]; rfl, HRI.out, B27.out⟩
set_option maxRecDepth 100000 in
set_option maxHeartbeats 16000000 in
theorem rdo1f (he : wrongM m 1 S.data.toList Z.data.toList nb = 0) (hdn : m.down = false) (x : Nat) (hfu : m.fuse = x + 2) (hfi : findN m.now S.data.toList = none) (hne : ∀ p ∈ m.now, p.1 ≠ []) :
  Calls Tryz.prog 18 #[R.val m, .agg #[.int .i64 1, .string S, .string Z, .slice Ab nb cb]] w fun e w' => ∃ R' : RA, e = .returned (.tuple #[R'.val ({ m with fuse := (x + 1), files := m.files ++ [(⟨[], 0⟩ : FM)], now := doN m.now ⟨[], S.data.toList, m.files.length⟩, turns := m.turns ++ [(⟨[], S.data.toList, m.files.length⟩ : TM)] }), .int .i64 0]) ∧ RIn F w' R' ({ m with fuse := (x + 1), files := m.files ++ [(⟨[], 0⟩ : FM)], now := doN m.now ⟨[], S.data.toList, m.files.length⟩, turns := m.turns ++ [(⟨[], S.data.toList, m.files.length⟩ : TM)] }) ∧ Below w.heap.size w w' := by
 obtain ⟨mm, hmm⟩ : ∃ y, { m with fuse := (x + 1), files := m.files ++ [(⟨[], 0⟩ : FM)], now := doN m.now ⟨[], S.data.toList, m.files.length⟩, turns := m.turns ++ [(⟨[], S.data.toList, m.files.length⟩ : TM)] } = y := ⟨_, rfl⟩
 rw [hmm]
 have HMM := h_ hmm
 clear hmm
 have HFI := h_ hfi
 clear hfi
 have HNE := h_ hne
 clear hne
 have hxb : x ≤ 9223372036854775805 := by have := hf.fuse; omega
 have H := h_ h
 have HF := h_ hf
 have HFW := h_ hF
 have HBS := h_ hbs
 have HNB := h_ hnb
 have hnb' := hnb.2
 have hflk := hf.files
 have hnwk := hf.now
 have hstk := hf.st
 have hfuk := hf.fuse
 have hlk : ∀ i, (fileM m i).b.length ≤ L ∧ (fileM m i).safe ≤ (fileM m i).b.length := fun i => hf.fileM i
 have HLK := h_ hlk
 clear hlk
 obtain ⟨nf, hnf⟩ := eX m.files.length
 obtain ⟨n, hn⟩ := eX m.now.length
 have hnk : n ≤ 998 := by omega
 have hnfk : nf ≤ 998 := by omega
 obtain ⟨na, hna⟩ := eX R.na
 obtain ⟨fa, hfa⟩ := eX R.fa
 obtain ⟨fc, hfc⟩ := eX R.fc
 obtain ⟨nc, hnc⟩ := eX R.nc
 obtain ⟨sa, hsa⟩ := eX R.sa
 obtain ⟨sc, hsc⟩ := eX R.sc
 obtain ⟨ta, hta⟩ := eX R.ta
 obtain ⟨tc, htc⟩ := eX R.tc
 obtain ⟨ns, hns⟩ := eX m.sure.length
 obtain ⟨nt, hnt⟩ := eX m.turns.length
 have hntk : nt ≤ 998 := by omega
 obtain ⟨mo, hmo⟩ := eX m.most
 have HEQ : Hid (m.files.length = nf ∧ m.now.length = n ∧ R.na = na ∧ R.fa = fa ∧ R.fc = fc ∧ R.nc = nc ∧ R.sa = sa ∧ R.sc = sc ∧ R.ta = ta ∧ R.tc = tc ∧ m.sure.length = ns ∧ m.turns.length = nt ∧ m.most = mo) := h_ ⟨hnf, hn, hna, hfa, hfc, hnc, hsa, hsc, hta, htc, hns, hnt, hmo⟩
 have HVAL : Hid (R.val m = .agg #[.slice fa nf fc, .slice na n nc, .slice sa ns sc, .slice ta nt tc, .int .i64 (mo : Int), .int .i64 ((x : Int) + 2), .bool false]) := h_ (by
  unfold RA.val RA.row
  rw [hn, hnf, hfa, hna, hsa, hta, hfc, hnc, hsc, htc, hns, hnt, hmo, hfu, hdn]
  try first | rfl | simp)
 have HN := h_ hn
 have HNF := h_ hnf
 have HFU := h_ hfu
 have HDN := h_ hdn
 rw [HVAL.out]
 obtain ⟨g, hg⟩ := eX w.heap.size
 have HGW := h_ hg
 obtain ⟨W1, hW1⟩ := eX (w.alloc (.cells #[.slice fa nf fc, .slice na n nc, .slice sa ns sc, .slice ta nt tc, .int .i64 (mo : Int), .int .i64 ((x : Int) + 2), .bool false] 53))
 obtain ⟨r1, b1, s1⟩ := new_row hW1
 obtain ⟨W2, hW2⟩ := eX (W1.alloc (.cells #[.int .i64 1, .string S, .string Z, .slice Ab nb cb] 56))
 obtain ⟨r2, b2, s2⟩ := new_row hW2
 obtain ⟨W3, hW3⟩ := eX (W2.alloc (.cells #[.slice none 0 0, .slice none 0 0, .slice none 0 0, .slice none 0 0, .int .i64 0, .int .i64 0, .bool false] 53))
 obtain ⟨r3, b3, s3⟩ := new_row hW3
 obtain ⟨g2, hg2⟩ := eX W1.heap.size
 obtain ⟨g3, hg3⟩ := eX W2.heap.size
 have hl1 : g < g2 := by omega
 have hl2 : g2 < g3 := by omega
 replace r1 := (b3.block _ (by omega)).trans ((b2.block _ (by omega)).trans r1)
 replace r2 := (b3.block _ (by omega)).trans r2
 rw [hg] at r1
 rw [hg2] at r2
 rw [hg3] at r3
 have R3g := h_ r1
 have R3o := h_ r2
 have R3z := h_ r3
 have B3 : Hid (Below w.heap.size w W3) := h_ (b1.trans ((b2.mono b1.size).trans (b3.mono (Nat.le_trans b1.size b2.size))))
 have HWR : Hid (Calls Tryz.prog 42 #[R.val m, .agg #[.int .i64 1, .string S, .string Z, .slice Ab nb cb]] W3 fun e w' => e = .returned (.int .i64 0) ∧ Below W3.heap.size W3 w') := h_ (rwrong_any R m S Z Ab nb cb W3 (h.below B3.out) hf (by omega) (by omega) hnb' 1 ⟨by omega, by omega⟩ 0 he)
 rw [HVAL.out] at HWR
 clear h hf hF hbs hnb he hn hnf hna hfa hfc hnc hsa hsc hta htc hns hnt hmo hfu hdn b1 s1 b2 s2 b3 s3 hflk hnwk hstk hfuk
 go_enter Tryz.func18, Tryz.ntmps18
 go_wp2_with (first
  | (refine wpList_load_row rfl _ _ rfl _ rfl _ _ _ _ r1 Tryz.underlying53 rfl info_dk7 ?_)
  | (refine wpList_load_row rfl _ _ rfl _ rfl _ _ _ _ r2 Tryz.underlying56 rfl info_op4 ?_))
 try rw [hg, hg2, hg3]
 clear hg hg2 hg3 hW1 hW2 hW3 r1 r2 r3
 refine HWR.out.mono ?_
 rintro e w4 ⟨rfl, hb4⟩
 have R4g := bl_ hb4 R3g
 have R4o := bl_ hb4 R3o
 have R4z := bl_ hb4 R3z
 have B4 := bt_ B3 hb4
 have c4g5 := (rw7 R4g).2.2.2.2.2.1
 have f4g5 : w4.frozen? ⟨g, 5, none⟩ = false := row_free R4g.out 5
 obtain ⟨W5, hW5⟩ := eX (w4.setCell ⟨g, 5, none⟩ (.int .i64 ((x : Int) + 1)))
 have G5 : Hid (w4.grownBy W5 (some g)) := h_ (by rw [← hW5]; exact grown_set g 5 _)
 have R5g : Hid (W5.heap[g]? = some (.cells #[.slice fa nf fc, .slice na n nc, .slice sa ns sc, .slice ta nt tc, .int .i64 (mo : Int), .int .i64 ((x : Int) + 1), .bool false] 53 (0, 0))) := h_ (by have h9 := row_set R4g.out 5 (.int .i64 ((x : Int) + 1)); rw [hW5] at h9; simpa using h9)
 have R5o := ro_ R4o G5 (by omega)
 have R5z := ro_ R4z G5 (by omega)
 have B5 := bg_ B4 G5 (by have := HGW.out; omega)
 obtain ⟨c5g0, c5g1, -, c5g3, -, c5g5, -⟩ := rw7 R5g
 obtain ⟨c5o0, c5o1, c5o2, c5o3⟩ := rw4 R5o
 have j9 : (0 : Int) < (x : Int) + 2 := by omega
 have j8 : (x : Int) + 2 - 1 = (x : Int) + 1 := by omega
 have j7 : ((x : Int) + 1 == 0) = false := by rw [beq_eq_false_iff_ne]; omega
 have j6 : IntKind.i64.wrap ((x : Int) + 1) = (x : Int) + 1 := by rw [IntKind.wrap_i64]; omega
 have HFND := h_ (rfind_any na m.now n nc HN.out (by omega) S W5 (by have := (H.out.below B5.out).rn.1; rw [HEQ.out.2.2.1] at this; exact this))
 obtain ⟨q, hq⟩ := eX (findI m.now S.data.toList)
 rw [hq] at HFND
 obtain rfl : q = -1 := by rw [← hq]; exact findI_none HFI.out
 clear hq
 go_wp2_with fail
 refine HFND.out.mono ?_
 rintro e w9 ⟨rfl, rfl⟩
 have R9g := R5g
 have R9o := R5o
 have R9z := R5z
 have B9 := B5
 obtain ⟨gt, hq10⟩ := eX w9.heap.size
 obtain ⟨W10, hW10⟩ := eX (w9.alloc (.cells #[.string ⟨#[]⟩, .string ⟨#[]⟩, .int .i64 0] 103))
 obtain ⟨r10, b10, s10⟩ := new_row hW10
 have R10g := bl_ b10 R9g
 have R10o := bl_ b10 R9o
 have R10z := bl_ b10 R9z
 have B10 := bt_ B9 b10
 rw [hq10] at r10
 have R10t := h_ r10
 have HQ10 := h_ hq10
 clear b10 s10
 have hl3 : g3 < gt := by have := (b_ R9z); have := HQ10.out; omega
 obtain ⟨gf, hgf⟩ : ∃ x, x = gt := ⟨_, rfl⟩
 obtain ⟨W11, hW11, T11, R11t, G11⟩ := put_row (new := [.string ⟨#[]⟩, .string ⟨#[]⟩, .int .i64 0]) R10t.out rfl
 have HW11 := h_ hW11
 clear hW11
 have R11g := ro_ R10g G11 (by omega)
 have R11o := ro_ R10o G11 (by omega)
 have R11z := ro_ R10z G11 (by omega)
 have B11 := bg_ B10 G11 (by have := HGW.out; omega)
 obtain ⟨c11o0, c11o1, c11o2, c11o3⟩ := rw4 R11o
 obtain ⟨c11g0, c11g1, -, c11g3, -⟩ := rw7 R11g
 obtain ⟨x12, hx12⟩ := eX W11.heap.size
 obtain ⟨W12, hW12⟩ := eX (W11.alloc (.cells #[] 105))
 have HLO : Hid (LOut 105 2 fileC W11 W12 (some ⟨x12, 0, none⟩) 0 0 []) := h_ (by rw [← hW12, ← hx12]; exact LOut.start _ _ _ (Below.refl _ _))
 have HRG := h_ (((Below.refl _ _).alloc (Nat.le_refl _) (.cells #[] 105) : Below W11.heap.size W11 _).block _ (b_ R11g) |>.trans R11g.out)
 rw [hW12] at HRG
 go_upto_block 1 with (first
  | ((with_reducible (refine wpList_store_mid rfl _ _ _ rfl ?_ ?_ ?_ ?_ ?_ ?_ ?_ ?_ ?_)); exact gt; exact 0; (exact ([.string ⟨#[]⟩, .string ⟨#[]⟩, .int .i64 0]).toArray); exact rfl; exact rfl; exact T11.out; exact info_tn3a; exact cells3; rw [HW11.out]))
 refine cp_files g x12 nf fc fa _ R.fs W12 W11 HRG.out (b_ R11g) rfl (H.out.fl.trans HNF.out) (by omega) (fun W hb => by have := (H.out.below (B11.out.trans (hb.mono B11.out.size))).rf.1; rw [HEQ.out.2.2.2.1] at this; exact this) HLO.out _ ?_
 intros
 rename_i A13 c13 w13 ho13
 have HO13 := h_ ho13
 clear ho13 hW12
 have R13g := bl_ HO13.out.bel R11g
 have R13o := bl_ HO13.out.bel R11o
 have R13z := bl_ HO13.out.bel R11z
 have R13t := bl_ HO13.out.bel R11t
 have B13 := bt_ B11 HO13.out.bel
 obtain ⟨W14, hW14⟩ := eX (w13.alloc (.cells #[.slice none 0 0, .int .i64 0] 105))
 obtain ⟨r14, b14, s14⟩ := new_row hW14
 have HO14 := h_ (HO13.out.below b14)
 have HR14 : Hid (Rd W14 (some ⟨w13.heap.size, 0, none⟩) [.slice none 0 0, .int .i64 0]) := h_ (range_rd (range_of_row (cs := [.slice none 0 0, .int .i64 0]) r14))
 clear r14 b14 s14
 go_wp2_with (at_builtin; refine wpList_append_rd _ rfl _ _ 49 rfl W11.heap.size 105 _ 2 32 Tryz.underlying49 info_flz rfl (by decide) (.slice A13 nf c13) nf _ rfl HO14.out.own _ 1 _ ([.slice none 0 0, .int .i64 0]) rfl (rfl) HR14.out (fl_one (⟨none, 0, []⟩, 0)) (by unfold maxLen; omega) (by omega) HO14.out.bel.size ?_; intro v15 w15 ho15 hg15 hvb15; obtain ⟨A15, c15, e15, _⟩ := own_slice ho15; subst e15; have HO15 := h_ (HO14.out.grow (x := ((⟨none, 0, []⟩ : PV), 0)) ho15 hg15); refine StopD.out ?_; clear ho15 hg15 hvb15)
 refine StopD.mk ?_
 clear hW14
 have HS11 : Hid (∀ b, sF F g g3 gt gf b → b < W11.heap.size) := h_ (fun b hb => by
  have h1 := B11.out.size
  have h2g := (b_ R11g)
  have h3z := (b_ R11z)
  have h4t := (b_ R11t)
  rcases hb with h | h | h | h | h
  ·have := HFW.out b h; omega
  all_goals omega)
 have R15g := bl_ HO15.out.bel R11g
 have R15o := bl_ HO15.out.bel R11o
 have R15z := bl_ HO15.out.bel R11z
 have R15t := bl_ HO15.out.bel R11t
 have B15 := bt_ B11 HO15.out.bel
 have X15_15 : Hid (Frm (sF F g g3 gt gf) w15 w15) := h_ (Frm.refl _ _)
 have c15g0 := (rw7 R15g).1
 have f15g0 : w15.frozen? ⟨g, 0, none⟩ = false := row_free R15g.out 0
 obtain ⟨W16, hW16⟩ := eX (w15.setCell ⟨g, 0, none⟩ (.slice A15 (nf + 1) c15))
 have G16 : Hid (w15.grownBy W16 (some g)) := h_ (by rw [← hW16]; exact grown_set g 0 _)
 have R16g : Hid (W16.heap[g]? = some (.cells #[.slice A15 (nf + 1) c15, .slice na n nc, .slice sa ns sc, .slice ta nt tc, .int .i64 (mo : Int), .int .i64 ((x : Int) + 1), .bool false] 53 (0, 0))) := h_ (by have h9 := row_set R15g.out 0 (.slice A15 (nf + 1) c15); rw [hW16] at h9; simpa using h9)
 have R16o := ro_ R15o G16 (by omega)
 have R16z := ro_ R15z G16 (by omega)
 have R16t := ro_ R15t G16 (by omega)
 have B16 := bg_ B15 G16 (by have := HGW.out; omega)
 have X16_15 : Hid (Frm (sF F g g3 gt gf) w15 W16) := h_ (X15_15.out.trans (grown_frm (F := sF F g g3 gt gf) G16.out (.inr (.inl rfl))) (fun i hi => .inl hi))
 obtain ⟨c16g0, c16g1, -, c16g3, -⟩ := rw7 R16g
 have c16o1 := (rw4 R16o).2.1
 have jw : IntKind.i64.wrap (nf : Int) = (nf : Int) := by rw [IntKind.wrap_i64]; omega
 have jw2 : (nf : Int) + 1 - 1 = (nf : Int) := by omega
 obtain ⟨W17, hW17, T17, R17t, G17⟩ := put_row (new := [.string (⟨#[]⟩ : ByteArray), .string S, .int .i64 (nf : Int)]) R16t.out rfl
 have HW17 := h_ hW17
 clear hW17
 have R17g := ro_ R16g G17 (by omega)
 have R17o := ro_ R16o G17 (by omega)
 have R17z := ro_ R16z G17 (by omega)
 have B17 := bg_ B16 G17 (by have := HGW.out; omega)
 have X17_15 : Hid (Frm (sF F g g3 gt gf) w15 W17) := h_ (X16_15.out.trans (grown_frm (F := sF F g g3 gt gf) G17.out (.inr (.inr (.inr (.inl rfl))))) (fun i hi => .inl hi))
 obtain ⟨c17g0, c17g1, -, c17g3, -⟩ := rw7 R17g
 have HTR : Hid (turnR (⟨(⟨#[]⟩ : ByteArray).data.toList, S.data.toList, nf⟩ : TM) = [.string (⟨#[]⟩ : ByteArray), .string S, .int .i64 (nf : Int)]) := h_ (by
  unfold turnR strV
  rw [show (⟨((⟨#[]⟩ : ByteArray).data.toList).toArray⟩ : ByteArray) = (⟨#[]⟩ : ByteArray) from ba_ext (by simp), show (⟨(S.data.toList).toArray⟩ : ByteArray) = S from ba_ext (by simp)])
 obtain ⟨x20, hx20⟩ := eX W17.heap.size
 obtain ⟨W18, hW18⟩ := eX (W17.alloc (.cells #[] 103))
 have HLT : Hid (LOut 103 3 turnR W17 W18 (some ⟨x20, 0, none⟩) 0 0 []) := h_ (by rw [← hW18, ← hx20]; exact LOut.start _ _ _ (Below.refl _ _))
 have HRT := h_ (((Below.refl _ _).alloc (Nat.le_refl _) (.cells #[] 103) : Below W17.heap.size W17 _).block _ (b_ R17g) |>.trans R17g.out)
 rw [hW18] at HRT
 go_upto_block 3 with (first
  | ((with_reducible (refine wpList_store_mid rfl _ _ _ rfl ?_ ?_ ?_ ?_ ?_ ?_ ?_ ?_ ?_)); exact gt; exact 0; (exact ([.string (⟨#[]⟩ : ByteArray), .string S, .int .i64 (nf : Int)]).toArray); exact rfl; exact rfl; exact T17.out; exact info_tn3a; exact cells3; rw [HW17.out]))
 refine cp_turns g x20 nt tc ta _ m.turns W18 W17 HRT.out (b_ R17g) rfl HEQ.out.2.2.2.2.2.2.2.2.2.2.2.1 (by omega) (fun W hb => by have := (H.out.below (B17.out.trans (hb.mono B17.out.size))).rt.1; rw [HEQ.out.2.2.2.2.2.2.2.2.1] at this; exact this) HLT.out _ ?_
 intros
 rename_i A21 c21 w19 ho21
 have HO21 := h_ ho21
 clear ho21 hW18
 have R19g := bl_ HO21.out.bel R17g
 have R19o := bl_ HO21.out.bel R17o
 have R19z := bl_ HO21.out.bel R17z
 have R19t : Hid (w19.heap[gt]? = some (.cells #[.string (⟨#[]⟩ : ByteArray), .string S, .int .i64 (nf : Int)] 103 (0, 0))) := bl_ HO21.out.bel R17t
 have B19 := bt_ B17 HO21.out.bel
 have X19_15 : Hid (Frm (sF F g g3 gt gf) w15 w19) := h_ (X17_15.out.trans (Frm.of_below (F := sF F g g3 gt gf) HO21.out.bel) (fun i hi => .inl hi))
 obtain ⟨W20, hW20⟩ := eX (w19.alloc (.cells #[.string (⟨#[]⟩ : ByteArray), .string S, .int .i64 (nf : Int)] 103))
 obtain ⟨r20, b20, s20⟩ := new_row hW20
 have HO22 := h_ (HO21.out.below b20)
 have HR22 : Hid (Rd W20 (some ⟨w19.heap.size, 0, none⟩) [.string (⟨#[]⟩ : ByteArray), .string S, .int .i64 (nf : Int)]) := h_ (range_rd (range_of_row (cs := [.string (⟨#[]⟩ : ByteArray), .string S, .int .i64 (nf : Int)]) r20))
 clear r20 b20 s20
 go_wp2_with (first
  | (refine wpList_load_row rfl _ _ rfl _ rfl _ _ _ _ R19t.out Tryz.underlying103 rfl info_tn3a ?_)
  | (at_builtin; refine wpList_append_rd _ rfl _ _ 51 rfl W17.heap.size 103 _ 3 40 Tryz.underlying51 info_tnz rfl (by decide) (.slice A21 nt c21) nt _ rfl HO22.out.own _ 1 _ ([.string (⟨#[]⟩ : ByteArray), .string S, .int .i64 (nf : Int)]) rfl (rfl) HR22.out (tn_one3) (by unfold maxLen; omega) (by omega) HO22.out.bel.size ?_; intro v23 w23 ho23 hg23 hvb23; obtain ⟨A23, c23, e23, _⟩ := own_slice ho23; subst e23; have HO23 := h_ (HO22.out.grow (x := (⟨(⟨#[]⟩ : ByteArray).data.toList, S.data.toList, nf⟩ : TM)) (by rw [HTR.out]; exact ho23) hg23); refine StopD.out ?_; clear ho23 hg23 hvb23))
 refine StopD.mk ?_
 clear hW20
 have HS17 : Hid (∀ b, sF F g g3 gt gf b → b < W17.heap.size) := h_ (fun b hb => by
  have h1 := B17.out.size
  have h2g := (b_ R17g)
  have h3z := (b_ R17z)
  have h4t := (b_ R17t)
  rcases hb with h | h | h | h | h
  ·have := HFW.out b h; omega
  all_goals omega)
 have R23g := bl_ HO23.out.bel R17g
 have R23o := bl_ HO23.out.bel R17o
 have R23z := bl_ HO23.out.bel R17z
 have R23t := bl_ HO23.out.bel R17t
 have B23 := bt_ B17 HO23.out.bel
 have X23_15 : Hid (Frm (sF F g g3 gt gf) w15 w23) := h_ (X17_15.out.trans (Frm.of_below (F := sF F g g3 gt gf) HO23.out.bel) (fun i hi => .inl hi))
 have X23_23 : Hid (Frm (sF F g g3 gt gf) w23 w23) := h_ (Frm.refl _ _)
 have c23g3 := (rw7 R23g).2.2.2.1
 have f23g3 : w23.frozen? ⟨g, 3, none⟩ = false := row_free R23g.out 3
 obtain ⟨W24, hW24⟩ := eX (w23.setCell ⟨g, 3, none⟩ (.slice A23 (nt + 1) c23))
 have G24 : Hid (w23.grownBy W24 (some g)) := h_ (by rw [← hW24]; exact grown_set g 3 _)
 have R24g : Hid (W24.heap[g]? = some (.cells #[.slice A15 (nf + 1) c15, .slice na n nc, .slice sa ns sc, .slice A23 (nt + 1) c23, .int .i64 (mo : Int), .int .i64 ((x : Int) + 1), .bool false] 53 (0, 0))) := h_ (by have h9 := row_set R23g.out 3 (.slice A23 (nt + 1) c23); rw [hW24] at h9; simpa using h9)
 have R24o := ro_ R23o G24 (by omega)
 have R24z := ro_ R23z G24 (by omega)
 have R24t := ro_ R23t G24 (by omega)
 have B24 := bg_ B23 G24 (by have := HGW.out; omega)
 have X24_15 : Hid (Frm (sF F g g3 gt gf) w15 W24) := h_ (X23_15.out.trans (grown_frm (F := sF F g g3 gt gf) G24.out (.inr (.inl rfl))) (fun i hi => .inl hi))
 have X24_23 : Hid (Frm (sF F g g3 gt gf) w23 W24) := h_ (X23_23.out.trans (grown_frm (F := sF F g g3 gt gf) G24.out (.inr (.inl rfl))) (fun i hi => .inl hi))
 have c24g1 := (rw7 R24g).2.1
 have HDO := h_ (rdo_any na m.now n nc HN.out (by omega) (⟨#[]⟩ : ByteArray) S nf W24 (by have := (H.out.below B24.out).rn.1; rw [HEQ.out.2.2.1] at this; exact this))
 go_wp2_with (refine wpList_load_row rfl _ _ rfl _ rfl _ _ _ _ R24t.out Tryz.underlying103 rfl info_tn3a ?_)
 refine HDO.out.mono ?_
 rintro e w25 ⟨A25, n25, c25, rfl, ho25⟩
 have HO25 := h_ ho25
 clear ho25
 have HS24 : Hid (∀ b, sF F g g3 gt gf b → b < W24.heap.size) := h_ (fun b hb => by
  have h1 := B24.out.size
  have h2g := (b_ R24g)
  have h3z := (b_ R24z)
  have h4t := (b_ R24t)
  rcases hb with h | h | h | h | h
  ·have := HFW.out b h; omega
  all_goals omega)
 have R25g := bl_ HO25.out.bel R24g
 have R25o := bl_ HO25.out.bel R24o
 have R25z := bl_ HO25.out.bel R24z
 have R25t := bl_ HO25.out.bel R24t
 have B25 := bt_ B24 HO25.out.bel
 have X25_15 : Hid (Frm (sF F g g3 gt gf) w15 w25) := h_ (X24_15.out.trans (Frm.of_below (F := sF F g g3 gt gf) HO25.out.bel) (fun i hi => .inl hi))
 have X25_23 : Hid (Frm (sF F g g3 gt gf) w23 w25) := h_ (X24_23.out.trans (Frm.of_below (F := sF F g g3 gt gf) HO25.out.bel) (fun i hi => .inl hi))
 have X25_25 : Hid (Frm (sF F g g3 gt gf) w25 w25) := h_ (Frm.refl _ _)
 have c25g1 := (rw7 R25g).2.1
 have f25g1 : w25.frozen? ⟨g, 1, none⟩ = false := row_free R25g.out 1
 obtain ⟨W26, hW26⟩ := eX (w25.setCell ⟨g, 1, none⟩ (.slice A25 n25 c25))
 have G26 : Hid (w25.grownBy W26 (some g)) := h_ (by rw [← hW26]; exact grown_set g 1 _)
 have R26g : Hid (W26.heap[g]? = some (.cells #[.slice A15 (nf + 1) c15, .slice A25 n25 c25, .slice sa ns sc, .slice A23 (nt + 1) c23, .int .i64 (mo : Int), .int .i64 ((x : Int) + 1), .bool false] 53 (0, 0))) := h_ (by have h9 := row_set R25g.out 1 (.slice A25 n25 c25); rw [hW26] at h9; simpa using h9)
 have R26o := ro_ R25o G26 (by omega)
 have R26z := ro_ R25z G26 (by omega)
 have R26t := ro_ R25t G26 (by omega)
 have B26 := bg_ B25 G26 (by have := HGW.out; omega)
 have X26_15 : Hid (Frm (sF F g g3 gt gf) w15 W26) := h_ (X25_15.out.trans (grown_frm (F := sF F g g3 gt gf) G26.out (.inr (.inl rfl))) (fun i hi => .inl hi))
 have X26_23 : Hid (Frm (sF F g g3 gt gf) w23 W26) := h_ (X25_23.out.trans (grown_frm (F := sF F g g3 gt gf) G26.out (.inr (.inl rfl))) (fun i hi => .inl hi))
 have X26_25 : Hid (Frm (sF F g g3 gt gf) w25 W26) := h_ (X25_25.out.trans (grown_frm (F := sF F g g3 gt gf) G26.out (.inr (.inl rfl))) (fun i hi => .inl hi))
 have HND : Hid (doN m.now (⟨(⟨#[]⟩ : ByteArray).data.toList, S.data.toList, nf⟩ : TM) = doD m.now (⟨#[]⟩ : ByteArray).data.toList S.data.toList nf) := h_ (doD_do HNE.out (⟨(⟨#[]⟩ : ByteArray).data.toList, S.data.toList, nf⟩ : TM)).symm
 obtain ⟨W27, hW27, T27, R27z, G27⟩ := put_row (new := [.slice A15 (nf + 1) c15, .slice A25 n25 c25, .slice sa ns sc, .slice A23 (nt + 1) c23, .int .i64 (mo : Int), .int .i64 ((x : Int) + 1), .bool false]) R26z.out rfl
 have HW27 := h_ hW27
 clear hW27
 have R27g := ro_ R26g G27 (by omega)
 have R27o := ro_ R26o G27 (by omega)
 have R27t := ro_ R26t G27 (by omega)
 have B27 := bg_ B26 G27 (by have := HGW.out; omega)
 have X27_15 : Hid (Frm (sF F g g3 gt gf) w15 W27) := h_ (X26_15.out.trans (grown_frm (F := sF F g g3 gt gf) G27.out (.inr (.inr (.inl rfl)))) (fun i hi => .inl hi))
 have X27_23 : Hid (Frm (sF F g g3 gt gf) w23 W27) := h_ (X26_23.out.trans (grown_frm (F := sF F g g3 gt gf) G27.out (.inr (.inr (.inl rfl)))) (fun i hi => .inl hi))
 have X27_25 : Hid (Frm (sF F g g3 gt gf) w25 W27) := h_ (X26_25.out.trans (grown_frm (F := sF F g g3 gt gf) G27.out (.inr (.inr (.inl rfl)))) (fun i hi => .inl hi))
 obtain ⟨R9, hR9⟩ : ∃ x : RA, x = { R with fs := R.fs ++ [((⟨none, 0, []⟩ : PV), 0)], fa := A15, fc := c15, ta := A23, tc := c23, na := A25, nc := c25 } := ⟨_, rfl⟩
 have HRI : Hid (RIn F W27 R9 mm) := h_ (by
  rw [hR9, ← HMM.out]
  have hA9 : RdF (sF F g g3 gt gf) W27 A23 (turnsR (m.turns ++ [(⟨(⟨#[]⟩ : ByteArray).data.toList, S.data.toList, nf⟩ : TM)])) := (fresh_rdf HO23.out.rd HO23.out.addr HS17.out).frm X27_23.out (fun b hb => hb)
  have hB9 : RdF (sF F g g3 gt gf) W27 A25 (namesR (doN m.now (⟨(⟨#[]⟩ : ByteArray).data.toList, S.data.toList, nf⟩ : TM))) := by
   rw [HND.out]
   exact (fresh_rdf HO25.out.rd HO25.out.addr HS24.out).frm X27_25.out (fun b hb => hb)
  have hC9 : RdF (sF F g g3 gt gf) W27 A15 (filesC (R.fs ++ [((⟨none, 0, []⟩ : PV), 0)])) := (fresh_rdf HO15.out.rd HO15.out.addr HS11.out).frm X27_15.out (fun b hb => hb)
  have h9 := ((((H.out.wide (G := sF F g g3 gt gf) (by rintro b (h | h | h | h | h); exact .inl h; all_goals (right; have h1 := HGW.out; omega))).below B27.out)).newf (c := c15) hC9).turned (c := c23) (c' := c25) hA9 hB9
  rw [HNF.out]
  exact (h9.narrow (fun b hb => .inl hb)).same rfl rfl rfl rfl)
 have HV : Hid (R9.val mm = .agg #[.slice A15 (nf + 1) c15, .slice A25 n25 c25, .slice sa ns sc, .slice A23 (nt + 1) c23, .int .i64 (mo : Int), .int .i64 ((x : Int) + 1), .bool false]) := h_ (by
  obtain ⟨e1, e2, e3, e4, e5, e6, e7, e8, e9, e10, e11, e12, e13⟩ := HEQ.out
  rw [hR9, ← HMM.out]
  have e14 : (doN m.now (⟨(⟨#[]⟩ : ByteArray).data.toList, S.data.toList, nf⟩ : TM)).length = n25 := by rw [HND.out]; exact HO25.out.len.symm
  rw [e1]
  simp only [RA.val, RA.row, setF, List.length_set, List.length_append, List.length_cons, List.length_nil, e1, e2, e3, e4, e5, e6, e7, e8, e9, e10, e11, e12, e13, HDN.out, e14]
  try rfl)
 go_wp2_with (first
  | (refine wpList_load_row rfl _ _ rfl _ rfl _ _ _ _ R26g.out Tryz.underlying53 rfl info_dk7 ?_)
  | ((with_reducible (refine wpList_store_mid rfl _ _ _ rfl ?_ ?_ ?_ ?_ ?_ ?_ ?_ ?_ ?_)); exact g3; exact 0; (exact ([.slice A15 (nf + 1) c15, .slice A25 n25 c25, .slice sa ns sc, .slice A23 (nt + 1) c23, .int .i64 (mo : Int), .int .i64 ((x : Int) + 1), .bool false]).toArray); exact rfl; exact rfl; exact T27.out; exact info_dk7; exact cells7; rw [HW27.out]))
 refine bodyPost_ret (results_row_tmp rfl _ _ _ _ _ _ _ rfl R27z.out Tryz.underlying53 rfl info_dk7) rfl ⟨R9, by rw [HV.out]; rfl, HRI.out, B27.out⟩
end
end Go.Proofs.YtelbofikcpchiaaGreat
