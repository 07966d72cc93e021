
/- The document's disk: Do: Rename. (Printed by wip/genDp8.py.) -/

import Derived.Test.YtpmifpblamjclaaDp8

namespace Go.Proofs.Ytpmifpblamjclaa

set_option linter.unusedVariables false

set_option linter.unusedSimpArgs false

set_option linter.unusedSectionVars false

open Go.RowKit

section

variable {K L : Nat} {F : Nat → Prop} (R : RA) (m : DM) (S Z : ByteArray) (Ab : Option Addr) (nb cb : Nat) (bs : List UInt8) (w : World) (h : RIn F w R m) (hF : ∀ b, F b → b < w.heap.size) (hf : Fit K L m) (hK : K ≤ 998) (hL : L ≤ 999999) (hnb : nb = bs.length ∧ nb ≤ 1000000) (hbs : Rd w Ab (b8s bs))
include h hF hf hK hL hnb hbs
set_option maxRecDepth 100000 in
set_option maxHeartbeats 16000000 in
theorem rdo4n (he : wrongM m 4 S.data.toList Z.data.toList nb = 0) (hdn : m.down = false) (hfu : m.fuse = 0) (fi : Nat) (hfi : findN m.now S.data.toList = some fi) (hne : ∀ p ∈ m.now, p.1 ≠ []) :
    Calls Try.prog 25 #[R.val m, .agg #[.int .i64 4, .string S, .string Z, .slice Ab nb cb]] w fun e w' => ∃ R' : RA, e = .returned (.tuple #[R'.val ({ m with fuse := 0, now := doN m.now ⟨S.data.toList, Z.data.toList, fi⟩, turns := m.turns ++ [(⟨S.data.toList, Z.data.toList, fi⟩ : TM)] }), .int .i64 0]) ∧ RIn F w' R' ({ m with fuse := 0, now := doN m.now ⟨S.data.toList, Z.data.toList, fi⟩, turns := m.turns ++ [(⟨S.data.toList, Z.data.toList, fi⟩ : TM)] }) ∧ Below w.heap.size w w' := by
  obtain ⟨mm, hmm⟩ : ∃ y, { m with fuse := 0, now := doN m.now ⟨S.data.toList, Z.data.toList, fi⟩, turns := m.turns ++ [(⟨S.data.toList, Z.data.toList, fi⟩ : TM)] } = y := ⟨_, rfl⟩
  rw [hmm]
  have HMM := Lib.hid hmm
  clear hmm
  have HFI := Lib.hid hfi
  clear hfi
  have HNE := Lib.hid hne
  clear hne
  have H := Lib.hid h
  have HF := Lib.hid hf
  have HFW := Lib.hid hF
  have HBS := Lib.hid hbs
  have HNB := Lib.hid hnb
  have hnb' := hnb.2
  have hflk := hf.files
  have hnwk := hf.now
  have hstk := hf.st
  have hfuk := hf.fuse
  have hlk : ∀ i, (fileM m i).b.length ≤ L ∧ (fileM m i).safe ≤ (fileM m i).b.length := fun i => hf.fileM i
  have HLK := Lib.hid hlk
  clear hlk
  obtain ⟨nf, hnf⟩ : ∃ n, m.files.length = n := ⟨_, rfl⟩
  obtain ⟨n, hn⟩ : ∃ n, m.now.length = n := ⟨_, rfl⟩
  have hnk : n ≤ 998 := by omega
  have hnfk : nf ≤ 998 := by omega
  obtain ⟨na, hna⟩ : ∃ n, R.na = n := ⟨_, rfl⟩
  obtain ⟨fa, hfa⟩ : ∃ n, R.fa = n := ⟨_, rfl⟩
  obtain ⟨fc, hfc⟩ : ∃ n, R.fc = n := ⟨_, rfl⟩
  obtain ⟨nc, hnc⟩ : ∃ n, R.nc = n := ⟨_, rfl⟩
  obtain ⟨sa, hsa⟩ : ∃ n, R.sa = n := ⟨_, rfl⟩
  obtain ⟨sc, hsc⟩ : ∃ n, R.sc = n := ⟨_, rfl⟩
  obtain ⟨ta, hta⟩ : ∃ n, R.ta = n := ⟨_, rfl⟩
  obtain ⟨tc, htc⟩ : ∃ n, R.tc = n := ⟨_, rfl⟩
  obtain ⟨ns, hns⟩ : ∃ n, m.sure.length = n := ⟨_, rfl⟩
  obtain ⟨nt, hnt⟩ : ∃ n, m.turns.length = n := ⟨_, rfl⟩
  have hntk : nt ≤ 998 := by omega
  obtain ⟨mo, hmo⟩ : ∃ n, m.most = n := ⟨_, rfl⟩

  have HEQ : Hid (m.files.length = nf ∧ m.now.length = n ∧ R.na = na ∧ R.fa = fa ∧ R.fc = fc ∧ R.nc = nc ∧ R.sa = sa ∧ R.sc = sc ∧ R.ta = ta ∧ R.tc = tc ∧ m.sure.length = ns ∧ m.turns.length = nt ∧ m.most = mo) := Lib.hid ⟨hnf, hn, hna, hfa, hfc, hnc, hsa, hsc, hta, htc, hns, hnt, hmo⟩
  have HVAL : Hid (R.val m = .agg #[.slice fa nf fc, .slice na n nc, .slice sa ns sc, .slice ta nt tc, .int .i64 (mo : Int), .int .i64 0, .bool false]) := Lib.hid (by
    unfold RA.val RA.row
    rw [hn, hnf, hfa, hna, hsa, hta, hfc, hnc, hsc, htc, hns, hnt, hmo, hfu, hdn]
    try first | rfl | simp)
  have HN := Lib.hid hn
  have HNF := Lib.hid hnf
  have HFU := Lib.hid hfu
  have HDN := Lib.hid hdn
  rw [HVAL.out]
  obtain ⟨g, hg⟩ : ∃ g, w.heap.size = g := ⟨_, rfl⟩
  have HGW := Lib.hid hg
  obtain ⟨W1, hW1⟩ : ∃ W, w.alloc (.cells #[.slice fa nf fc, .slice na n nc, .slice sa ns sc, .slice ta nt tc, .int .i64 (mo : Int), .int .i64 0, .bool false] 50) = W := ⟨_, rfl⟩
  obtain ⟨r1, b1, s1⟩ := new_row hW1
  obtain ⟨W2, hW2⟩ : ∃ W, W1.alloc (.cells #[.int .i64 4, .string S, .string Z, .slice Ab nb cb] 58) = W := ⟨_, rfl⟩
  obtain ⟨r2, b2, s2⟩ := new_row hW2
  obtain ⟨W3, hW3⟩ : ∃ W, W2.alloc (.cells #[.slice none 0 0, .slice none 0 0, .slice none 0 0, .slice none 0 0, .int .i64 0, .int .i64 0, .bool false] 50) = W := ⟨_, rfl⟩
  obtain ⟨r3, b3, s3⟩ := new_row hW3
  obtain ⟨g2, hg2⟩ : ∃ g, W1.heap.size = g := ⟨_, rfl⟩
  obtain ⟨g3, hg3⟩ : ∃ g, W2.heap.size = g := ⟨_, rfl⟩
  have hl1 : g < g2 := by omega
  have hl2 : g2 < g3 := by omega
  replace r1 := (b3.block _ (by omega)).trans ((b2.block _ (by omega)).trans r1)
  replace r2 := (b3.block _ (by omega)).trans r2
  rw [hg] at r1
  rw [hg2] at r2
  rw [hg3] at r3
  have R3g := Lib.hid r1
  have R3o := Lib.hid r2
  have R3z := Lib.hid r3
  have B3 : Hid (Below w.heap.size w W3) := Lib.hid (b1.trans ((b2.mono b1.size).trans (b3.mono (Nat.le_trans b1.size b2.size))))
  have HWR : Hid (Calls Try.prog 40 #[R.val m, .agg #[.int .i64 4, .string S, .string Z, .slice Ab nb cb]] W3 fun e w' => e = .returned (.int .i64 0) ∧ Below W3.heap.size W3 w') := Lib.hid (rwrong_any R m S Z Ab nb cb W3 (h.below B3.out) hf (by omega) (by omega) hnb' 4 ⟨by omega, by omega⟩ 0 he)
  rw [HVAL.out] at HWR
  clear h hf hF hbs hnb he hn hnf hna hfa hfc hnc hsa hsc hta htc hns hnt hmo hfu hdn b1 s1 b2 s2 b3 s3 hflk hnwk hstk hfuk 
  go_enter Try.func25, Try.ntmps25
  go_wp2_with (first
    | (refine wpList_load_row rfl _ _ rfl _ rfl _ _ _ _ r1 Try.underlying50 rfl info_dk7 ?_)
    | (refine wpList_load_row rfl _ _ rfl _ rfl _ _ _ _ r2 Try.underlying58 rfl info_op4 ?_))
  try rw [hg, hg2, hg3]
  clear hg hg2 hg3 hW1 hW2 hW3 r1 r2 r3
  refine HWR.out.mono ?_
  rintro e w4 ⟨rfl, hb4⟩
  have R4g : Hid (w4.heap[g]? = some (.cells #[.slice fa nf fc, .slice na n nc, .slice sa ns sc, .slice ta nt tc, .int .i64 (mo : Int), .int .i64 0, .bool false] 50 (0, 0))) := Lib.hid ((hb4.block _ (Array.getElem?_eq_some_iff.1 R3g.out).1).trans R3g.out)
  have R4o : Hid (w4.heap[g2]? = some (.cells #[.int .i64 4, .string S, .string Z, .slice Ab nb cb] 58 (0, 0))) := Lib.hid ((hb4.block _ (Array.getElem?_eq_some_iff.1 R3o.out).1).trans R3o.out)
  have R4z : Hid (w4.heap[g3]? = some (.cells #[.slice none 0 0, .slice none 0 0, .slice none 0 0, .slice none 0 0, .int .i64 0, .int .i64 0, .bool false] 50 (0, 0))) := Lib.hid ((hb4.block _ (Array.getElem?_eq_some_iff.1 R3z.out).1).trans R3z.out)
  have B4 : Hid (Below w.heap.size w w4) := Lib.hid (B3.out.trans (hb4.mono B3.out.size))
  have c4g0 : w4.cell? ⟨g, 0, none⟩ = some (.slice fa nf fc) := row_cell R4g.out 0
  have c4g1 : w4.cell? ⟨g, 1, none⟩ = some (.slice na n nc) := row_cell R4g.out 1
  have c4g3 : w4.cell? ⟨g, 3, none⟩ = some (.slice ta nt tc) := row_cell R4g.out 3
  have c4g5 : w4.cell? ⟨g, 5, none⟩ = some (.int .i64 0) := row_cell R4g.out 5
  have c4o0 : w4.cell? ⟨g2, 0, none⟩ = some (.int .i64 4) := row_cell R4o.out 0
  have c4o1 : w4.cell? ⟨g2, 1, none⟩ = some (.string S) := row_cell R4o.out 1
  have c4o2 : w4.cell? ⟨g2, 2, none⟩ = some (.string Z) := row_cell R4o.out 2
  have c4o3 : w4.cell? ⟨g2, 3, none⟩ = some (.slice Ab nb cb) := row_cell R4o.out 3
  have HFND := Lib.hid (rfind_any na m.now n nc HN.out (by omega) S w4 (by have := (H.out.below B4.out).rn.1; rw [HEQ.out.2.2.1] at this; exact this))
  obtain ⟨q, hq⟩ : ∃ q, findI m.now S.data.toList = q := ⟨_, rfl⟩
  rw [hq] at HFND
  obtain rfl : q = (fi : Int) := by rw [← hq]; exact findI_some HFI.out
  clear hq
  go_wp2_with fail
  refine HFND.out.mono ?_
  rintro e w9 ⟨rfl, rfl⟩
  have R9g := R4g
  have R9o := R4o
  have R9z := R4z
  have B9 := B4
  obtain ⟨gt, hq10⟩ : ∃ x, w9.heap.size = x := ⟨_, rfl⟩
  obtain ⟨W10, hW10⟩ : ∃ W, w9.alloc (.cells #[.string ⟨#[]⟩, .string ⟨#[]⟩, .int .i64 0] 90) = W := ⟨_, rfl⟩
  obtain ⟨r10, b10, s10⟩ := new_row hW10
  have R10g : Hid (W10.heap[g]? = some (.cells #[.slice fa nf fc, .slice na n nc, .slice sa ns sc, .slice ta nt tc, .int .i64 (mo : Int), .int .i64 0, .bool false] 50 (0, 0))) := Lib.hid ((b10.block _ (Array.getElem?_eq_some_iff.1 R9g.out).1).trans R9g.out)
  have R10o : Hid (W10.heap[g2]? = some (.cells #[.int .i64 4, .string S, .string Z, .slice Ab nb cb] 58 (0, 0))) := Lib.hid ((b10.block _ (Array.getElem?_eq_some_iff.1 R9o.out).1).trans R9o.out)
  have R10z : Hid (W10.heap[g3]? = some (.cells #[.slice none 0 0, .slice none 0 0, .slice none 0 0, .slice none 0 0, .int .i64 0, .int .i64 0, .bool false] 50 (0, 0))) := Lib.hid ((b10.block _ (Array.getElem?_eq_some_iff.1 R9z.out).1).trans R9z.out)
  have B10 : Hid (Below w.heap.size w W10) := Lib.hid (B9.out.trans (b10.mono B9.out.size))
  rw [hq10] at r10
  have R10t := Lib.hid r10
  have HQ10 := Lib.hid hq10
  clear b10 s10
  have hl3 : g3 < gt := by have := (Array.getElem?_eq_some_iff.1 R9z.out).1; have := HQ10.out; omega
  obtain ⟨gf, hgf⟩ : ∃ x, x = gt := ⟨_, rfl⟩
  obtain ⟨W11, hW11, T11, R11t, G11⟩ := put_row (new := [.string ⟨#[]⟩, .string ⟨#[]⟩, .int .i64 0]) R10t.out rfl
  have HW11 := Lib.hid hW11
  clear hW11
  have R11g : Hid (W11.heap[g]? = some (.cells #[.slice fa nf fc, .slice na n nc, .slice sa ns sc, .slice ta nt tc, .int .i64 (mo : Int), .int .i64 0, .bool false] 50 (0, 0))) := Lib.hid (row_other R10g.out G11.out (by omega) (Array.getElem?_eq_some_iff.1 R10g.out).1)
  have R11o : Hid (W11.heap[g2]? = some (.cells #[.int .i64 4, .string S, .string Z, .slice Ab nb cb] 58 (0, 0))) := Lib.hid (row_other R10o.out G11.out (by omega) (Array.getElem?_eq_some_iff.1 R10o.out).1)
  have R11z : Hid (W11.heap[g3]? = some (.cells #[.slice none 0 0, .slice none 0 0, .slice none 0 0, .slice none 0 0, .int .i64 0, .int .i64 0, .bool false] 50 (0, 0))) := Lib.hid (row_other R10z.out G11.out (by omega) (Array.getElem?_eq_some_iff.1 R10z.out).1)
  have B11 : Hid (Below w.heap.size w W11) := Lib.hid (bel_grown B10.out B10.out.size G11.out (by have := HGW.out; omega))
  have c11o0 : W11.cell? ⟨g2, 0, none⟩ = some (.int .i64 4) := row_cell R11o.out 0
  have c11o1 : W11.cell? ⟨g2, 1, none⟩ = some (.string S) := row_cell R11o.out 1
  have c11o2 : W11.cell? ⟨g2, 2, none⟩ = some (.string Z) := row_cell R11o.out 2
  have c11o3 : W11.cell? ⟨g2, 3, none⟩ = some (.slice Ab nb cb) := row_cell R11o.out 3
  have c11g0 : W11.cell? ⟨g, 0, none⟩ = some (.slice fa nf fc) := row_cell R11g.out 0
  have c11g1 : W11.cell? ⟨g, 1, none⟩ = some (.slice na n nc) := row_cell R11g.out 1
  have c11g3 : W11.cell? ⟨g, 3, none⟩ = some (.slice ta nt tc) := row_cell R11g.out 3
  obtain ⟨W12, hW12, T12, R12t, G12⟩ := put_row (new := [.string S, .string Z, .int .i64 (fi : Int)]) R11t.out rfl
  have HW12 := Lib.hid hW12
  clear hW12
  have R12g : Hid (W12.heap[g]? = some (.cells #[.slice fa nf fc, .slice na n nc, .slice sa ns sc, .slice ta nt tc, .int .i64 (mo : Int), .int .i64 0, .bool false] 50 (0, 0))) := Lib.hid (row_other R11g.out G12.out (by omega) (Array.getElem?_eq_some_iff.1 R11g.out).1)
  have R12o : Hid (W12.heap[g2]? = some (.cells #[.int .i64 4, .string S, .string Z, .slice Ab nb cb] 58 (0, 0))) := Lib.hid (row_other R11o.out G12.out (by omega) (Array.getElem?_eq_some_iff.1 R11o.out).1)
  have R12z : Hid (W12.heap[g3]? = some (.cells #[.slice none 0 0, .slice none 0 0, .slice none 0 0, .slice none 0 0, .int .i64 0, .int .i64 0, .bool false] 50 (0, 0))) := Lib.hid (row_other R11z.out G12.out (by omega) (Array.getElem?_eq_some_iff.1 R11z.out).1)
  have B12 : Hid (Below w.heap.size w W12) := Lib.hid (bel_grown B11.out B11.out.size G12.out (by have := HGW.out; omega))
  have c12g0 : W12.cell? ⟨g, 0, none⟩ = some (.slice fa nf fc) := row_cell R12g.out 0
  have c12g1 : W12.cell? ⟨g, 1, none⟩ = some (.slice na n nc) := row_cell R12g.out 1
  have c12g3 : W12.cell? ⟨g, 3, none⟩ = some (.slice ta nt tc) := row_cell R12g.out 3
  have HTR : Hid (turnR (⟨S.data.toList, Z.data.toList, fi⟩ : TM) = [.string S, .string Z, .int .i64 (fi : Int)]) := Lib.hid (by
    unfold turnR strV
    rw [show (⟨(S.data.toList).toArray⟩ : ByteArray) = S from ba_ext (by simp), show (⟨(Z.data.toList).toArray⟩ : ByteArray) = Z from ba_ext (by simp)])
  obtain ⟨x20, hx20⟩ : ∃ x, W12.heap.size = x := ⟨_, rfl⟩
  obtain ⟨W13, hW13⟩ : ∃ W, W12.alloc (.cells #[] 90) = W := ⟨_, rfl⟩
  have HLT : Hid (LOut 90 3 turnR W12 W13 (some ⟨x20, 0, none⟩) 0 0 []) := Lib.hid (by rw [← hW13, ← hx20]; exact LOut.start _ _ _ (Below.refl _ _))
  have HRT := Lib.hid (((Below.refl _ _).alloc (Nat.le_refl _) (.cells #[] 90) : Below W12.heap.size W12 _).block _ (Array.getElem?_eq_some_iff.1 R12g.out).1 |>.trans R12g.out)
  rw [hW13] at HRT
  go_upto_block 3 with (first
    | ((with_reducible (refine wpList_store_mid rfl _ _ _ rfl ?_ ?_ ?_ ?_ ?_ ?_ ?_ ?_ ?_)); (exact gt); (exact 0); (exact ([.string ⟨#[]⟩, .string ⟨#[]⟩, .int .i64 0]).toArray); (exact rfl); (exact rfl); (exact T11.out); (exact info_tn3a); (exact cells3); rw [HW11.out])
    | ((with_reducible (refine wpList_store_mid rfl _ _ _ rfl ?_ ?_ ?_ ?_ ?_ ?_ ?_ ?_ ?_)); (exact gt); (exact 0); (exact ([.string S, .string Z, .int .i64 (fi : Int)]).toArray); (exact rfl); (exact rfl); (exact T12.out); (exact info_tn3a); (exact cells3); rw [HW12.out]))
  refine cp_turns g x20 nt tc ta _ m.turns W13 W12 HRT.out (Array.getElem?_eq_some_iff.1 R12g.out).1 rfl HEQ.out.2.2.2.2.2.2.2.2.2.2.2.1 (by omega) (fun W hb => by have := (H.out.below (B12.out.trans (hb.mono B12.out.size))).rt.1; rw [HEQ.out.2.2.2.2.2.2.2.2.1] at this; exact this) HLT.out _ ?_
  intros
  rename_i A21 c21 w14 ho21
  have HO21 := Lib.hid ho21
  clear ho21 hW13
  have R14g : Hid (w14.heap[g]? = some (.cells #[.slice fa nf fc, .slice na n nc, .slice sa ns sc, .slice ta nt tc, .int .i64 (mo : Int), .int .i64 0, .bool false] 50 (0, 0))) := Lib.hid ((HO21.out.bel.block _ (Array.getElem?_eq_some_iff.1 R12g.out).1).trans R12g.out)
  have R14o : Hid (w14.heap[g2]? = some (.cells #[.int .i64 4, .string S, .string Z, .slice Ab nb cb] 58 (0, 0))) := Lib.hid ((HO21.out.bel.block _ (Array.getElem?_eq_some_iff.1 R12o.out).1).trans R12o.out)
  have R14z : Hid (w14.heap[g3]? = some (.cells #[.slice none 0 0, .slice none 0 0, .slice none 0 0, .slice none 0 0, .int .i64 0, .int .i64 0, .bool false] 50 (0, 0))) := Lib.hid ((HO21.out.bel.block _ (Array.getElem?_eq_some_iff.1 R12z.out).1).trans R12z.out)
  have R14t : Hid (w14.heap[gt]? = some (.cells #[.string S, .string Z, .int .i64 (fi : Int)] 90 (0, 0))) := Lib.hid ((HO21.out.bel.block _ (Array.getElem?_eq_some_iff.1 R12t.out).1).trans R12t.out)
  have B14 : Hid (Below w.heap.size w w14) := Lib.hid (B12.out.trans (HO21.out.bel.mono B12.out.size))
  obtain ⟨W15, hW15⟩ : ∃ W, w14.alloc (.cells #[.string S, .string Z, .int .i64 (fi : Int)] 90) = W := ⟨_, rfl⟩
  obtain ⟨r15, b15, s15⟩ := new_row hW15
  have HO22 := Lib.hid (HO21.out.below b15)
  have HR22 : Hid (Rd W15 (some ⟨w14.heap.size, 0, none⟩) [.string S, .string Z, .int .i64 (fi : Int)]) := Lib.hid (range_rd (range_of_row (cs := [.string S, .string Z, .int .i64 (fi : Int)]) r15))
  clear r15 b15 s15
  go_wp2_with (first
    | (refine wpList_load_row rfl _ _ rfl _ rfl _ _ _ _ R14t.out Try.underlying90 rfl info_tn3a ?_)
    | (at_builtin; refine wpList_append_rd _ rfl _ _ 48 rfl W12.heap.size 90 _ 3 40 Try.underlying48 info_tnz rfl (by decide) (.slice A21 nt c21) nt _ rfl HO22.out.own _ 1 _ ([.string S, .string Z, .int .i64 (fi : Int)]) rfl (rfl) HR22.out (tn_one3) (by unfold maxLen; omega) (by omega) HO22.out.bel.size ?_; intro v23 w23 ho23 hg23 hvb23; obtain ⟨A23, c23, e23, _⟩ := own_slice ho23; subst e23; have HO23 := Lib.hid (HO22.out.grow (x := (⟨S.data.toList, Z.data.toList, fi⟩ : TM)) (by rw [HTR.out]; exact ho23) hg23); refine Stop.out ?_; clear ho23 hg23 hvb23))
  refine Stop.mk ?_
  clear hW15
  have HS12 : Hid (∀ b, sF F g g3 gt gf b → b < W12.heap.size) := Lib.hid (fun b hb => by
    have h1 := B12.out.size
    have h2g := (Array.getElem?_eq_some_iff.1 R12g.out).1
    have h3z := (Array.getElem?_eq_some_iff.1 R12z.out).1
    have h4t := (Array.getElem?_eq_some_iff.1 R12t.out).1
    rcases hb with h | h | h | h | h
    · have := HFW.out b h; omega
    all_goals omega)
  have R23g : Hid (w23.heap[g]? = some (.cells #[.slice fa nf fc, .slice na n nc, .slice sa ns sc, .slice ta nt tc, .int .i64 (mo : Int), .int .i64 0, .bool false] 50 (0, 0))) := Lib.hid ((HO23.out.bel.block _ (Array.getElem?_eq_some_iff.1 R12g.out).1).trans R12g.out)
  have R23o : Hid (w23.heap[g2]? = some (.cells #[.int .i64 4, .string S, .string Z, .slice Ab nb cb] 58 (0, 0))) := Lib.hid ((HO23.out.bel.block _ (Array.getElem?_eq_some_iff.1 R12o.out).1).trans R12o.out)
  have R23z : Hid (w23.heap[g3]? = some (.cells #[.slice none 0 0, .slice none 0 0, .slice none 0 0, .slice none 0 0, .int .i64 0, .int .i64 0, .bool false] 50 (0, 0))) := Lib.hid ((HO23.out.bel.block _ (Array.getElem?_eq_some_iff.1 R12z.out).1).trans R12z.out)
  have R23t : Hid (w23.heap[gt]? = some (.cells #[.string S, .string Z, .int .i64 (fi : Int)] 90 (0, 0))) := Lib.hid ((HO23.out.bel.block _ (Array.getElem?_eq_some_iff.1 R12t.out).1).trans R12t.out)
  have B23 : Hid (Below w.heap.size w w23) := Lib.hid (B12.out.trans (HO23.out.bel.mono B12.out.size))
  have X23_23 : Hid (Frm (sF F g g3 gt gf) w23 w23) := Lib.hid (Frm.refl _ _)
  have c23g3 : w23.cell? ⟨g, 3, none⟩ = some (.slice ta nt tc) := row_cell R23g.out 3
  have f23g3 : w23.frozen? ⟨g, 3, none⟩ = false := row_free R23g.out 3
  obtain ⟨W24, hW24⟩ : ∃ W, w23.setCell ⟨g, 3, none⟩ (.slice A23 (nt + 1) c23) = W := ⟨_, rfl⟩
  have G24 : Hid (w23.grownBy W24 (some g)) := Lib.hid (by rw [← hW24]; exact grown_set g 3 _)
  have R24g : Hid (W24.heap[g]? = some (.cells #[.slice fa nf fc, .slice na n nc, .slice sa ns sc, .slice A23 (nt + 1) c23, .int .i64 (mo : Int), .int .i64 0, .bool false] 50 (0, 0))) := Lib.hid (by have h9 := row_set R23g.out 3 (.slice A23 (nt + 1) c23); rw [hW24] at h9; simpa using h9)
  have R24o : Hid (W24.heap[g2]? = some (.cells #[.int .i64 4, .string S, .string Z, .slice Ab nb cb] 58 (0, 0))) := Lib.hid (row_other R23o.out G24.out (by omega) (Array.getElem?_eq_some_iff.1 R23o.out).1)
  have R24z : Hid (W24.heap[g3]? = some (.cells #[.slice none 0 0, .slice none 0 0, .slice none 0 0, .slice none 0 0, .int .i64 0, .int .i64 0, .bool false] 50 (0, 0))) := Lib.hid (row_other R23z.out G24.out (by omega) (Array.getElem?_eq_some_iff.1 R23z.out).1)
  have R24t : Hid (W24.heap[gt]? = some (.cells #[.string S, .string Z, .int .i64 (fi : Int)] 90 (0, 0))) := Lib.hid (row_other R23t.out G24.out (by omega) (Array.getElem?_eq_some_iff.1 R23t.out).1)
  have B24 : Hid (Below w.heap.size w W24) := Lib.hid (bel_grown B23.out B23.out.size G24.out (by have := HGW.out; omega))
  have X24_23 : Hid (Frm (sF F g g3 gt gf) w23 W24) := Lib.hid (X23_23.out.trans (grown_frm (F := sF F g g3 gt gf) G24.out (.inr (.inl rfl))) (fun i hi => .inl hi))
  have c24g1 : W24.cell? ⟨g, 1, none⟩ = some (.slice na n nc) := row_cell R24g.out 1
  have HDO := Lib.hid (rdo_any na m.now n nc HN.out (by omega) S Z fi W24 (by have := (H.out.below B24.out).rn.1; rw [HEQ.out.2.2.1] at this; exact this))
  go_wp2_with (refine wpList_load_row rfl _ _ rfl _ rfl _ _ _ _ R24t.out Try.underlying90 rfl info_tn3a ?_)
  refine HDO.out.mono ?_
  rintro e w25 ⟨A25, n25, c25, rfl, ho25⟩
  have HO25 := Lib.hid ho25
  clear ho25
  have HS24 : Hid (∀ b, sF F g g3 gt gf b → b < W24.heap.size) := Lib.hid (fun b hb => by
    have h1 := B24.out.size
    have h2g := (Array.getElem?_eq_some_iff.1 R24g.out).1
    have h3z := (Array.getElem?_eq_some_iff.1 R24z.out).1
    have h4t := (Array.getElem?_eq_some_iff.1 R24t.out).1
    rcases hb with h | h | h | h | h
    · have := HFW.out b h; omega
    all_goals omega)
  have R25g : Hid (w25.heap[g]? = some (.cells #[.slice fa nf fc, .slice na n nc, .slice sa ns sc, .slice A23 (nt + 1) c23, .int .i64 (mo : Int), .int .i64 0, .bool false] 50 (0, 0))) := Lib.hid ((HO25.out.bel.block _ (Array.getElem?_eq_some_iff.1 R24g.out).1).trans R24g.out)
  have R25o : Hid (w25.heap[g2]? = some (.cells #[.int .i64 4, .string S, .string Z, .slice Ab nb cb] 58 (0, 0))) := Lib.hid ((HO25.out.bel.block _ (Array.getElem?_eq_some_iff.1 R24o.out).1).trans R24o.out)
  have R25z : Hid (w25.heap[g3]? = some (.cells #[.slice none 0 0, .slice none 0 0, .slice none 0 0, .slice none 0 0, .int .i64 0, .int .i64 0, .bool false] 50 (0, 0))) := Lib.hid ((HO25.out.bel.block _ (Array.getElem?_eq_some_iff.1 R24z.out).1).trans R24z.out)
  have R25t : Hid (w25.heap[gt]? = some (.cells #[.string S, .string Z, .int .i64 (fi : Int)] 90 (0, 0))) := Lib.hid ((HO25.out.bel.block _ (Array.getElem?_eq_some_iff.1 R24t.out).1).trans R24t.out)
  have B25 : Hid (Below w.heap.size w w25) := Lib.hid (B24.out.trans (HO25.out.bel.mono B24.out.size))
  have X25_23 : Hid (Frm (sF F g g3 gt gf) w23 w25) := Lib.hid (X24_23.out.trans (Frm.of_below (F := sF F g g3 gt gf) HO25.out.bel) (fun i hi => .inl hi))
  have X25_25 : Hid (Frm (sF F g g3 gt gf) w25 w25) := Lib.hid (Frm.refl _ _)
  have c25g1 : w25.cell? ⟨g, 1, none⟩ = some (.slice na n nc) := row_cell R25g.out 1
  have f25g1 : w25.frozen? ⟨g, 1, none⟩ = false := row_free R25g.out 1
  obtain ⟨W26, hW26⟩ : ∃ W, w25.setCell ⟨g, 1, none⟩ (.slice A25 n25 c25) = W := ⟨_, rfl⟩
  have G26 : Hid (w25.grownBy W26 (some g)) := Lib.hid (by rw [← hW26]; exact grown_set g 1 _)
  have R26g : Hid (W26.heap[g]? = some (.cells #[.slice fa nf fc, .slice A25 n25 c25, .slice sa ns sc, .slice A23 (nt + 1) c23, .int .i64 (mo : Int), .int .i64 0, .bool false] 50 (0, 0))) := Lib.hid (by have h9 := row_set R25g.out 1 (.slice A25 n25 c25); rw [hW26] at h9; simpa using h9)
  have R26o : Hid (W26.heap[g2]? = some (.cells #[.int .i64 4, .string S, .string Z, .slice Ab nb cb] 58 (0, 0))) := Lib.hid (row_other R25o.out G26.out (by omega) (Array.getElem?_eq_some_iff.1 R25o.out).1)
  have R26z : Hid (W26.heap[g3]? = some (.cells #[.slice none 0 0, .slice none 0 0, .slice none 0 0, .slice none 0 0, .int .i64 0, .int .i64 0, .bool false] 50 (0, 0))) := Lib.hid (row_other R25z.out G26.out (by omega) (Array.getElem?_eq_some_iff.1 R25z.out).1)
  have R26t : Hid (W26.heap[gt]? = some (.cells #[.string S, .string Z, .int .i64 (fi : Int)] 90 (0, 0))) := Lib.hid (row_other R25t.out G26.out (by omega) (Array.getElem?_eq_some_iff.1 R25t.out).1)
  have B26 : Hid (Below w.heap.size w W26) := Lib.hid (bel_grown B25.out B25.out.size G26.out (by have := HGW.out; omega))
  have X26_23 : Hid (Frm (sF F g g3 gt gf) w23 W26) := Lib.hid (X25_23.out.trans (grown_frm (F := sF F g g3 gt gf) G26.out (.inr (.inl rfl))) (fun i hi => .inl hi))
  have X26_25 : Hid (Frm (sF F g g3 gt gf) w25 W26) := Lib.hid (X25_25.out.trans (grown_frm (F := sF F g g3 gt gf) G26.out (.inr (.inl rfl))) (fun i hi => .inl hi))
  have HND : Hid (doN m.now (⟨S.data.toList, Z.data.toList, fi⟩ : TM) = doD m.now S.data.toList Z.data.toList fi) := Lib.hid (doD_do HNE.out (⟨S.data.toList, Z.data.toList, fi⟩ : TM)).symm
  obtain ⟨W27, hW27, T27, R27z, G27⟩ := put_row (new := [.slice fa nf fc, .slice A25 n25 c25, .slice sa ns sc, .slice A23 (nt + 1) c23, .int .i64 (mo : Int), .int .i64 0, .bool false]) R26z.out rfl
  have HW27 := Lib.hid hW27
  clear hW27
  have R27g : Hid (W27.heap[g]? = some (.cells #[.slice fa nf fc, .slice A25 n25 c25, .slice sa ns sc, .slice A23 (nt + 1) c23, .int .i64 (mo : Int), .int .i64 0, .bool false] 50 (0, 0))) := Lib.hid (row_other R26g.out G27.out (by omega) (Array.getElem?_eq_some_iff.1 R26g.out).1)
  have R27o : Hid (W27.heap[g2]? = some (.cells #[.int .i64 4, .string S, .string Z, .slice Ab nb cb] 58 (0, 0))) := Lib.hid (row_other R26o.out G27.out (by omega) (Array.getElem?_eq_some_iff.1 R26o.out).1)
  have R27t : Hid (W27.heap[gt]? = some (.cells #[.string S, .string Z, .int .i64 (fi : Int)] 90 (0, 0))) := Lib.hid (row_other R26t.out G27.out (by omega) (Array.getElem?_eq_some_iff.1 R26t.out).1)
  have B27 : Hid (Below w.heap.size w W27) := Lib.hid (bel_grown B26.out B26.out.size G27.out (by have := HGW.out; omega))
  have X27_23 : Hid (Frm (sF F g g3 gt gf) w23 W27) := Lib.hid (X26_23.out.trans (grown_frm (F := sF F g g3 gt gf) G27.out (.inr (.inr (.inl rfl)))) (fun i hi => .inl hi))
  have X27_25 : Hid (Frm (sF F g g3 gt gf) w25 W27) := Lib.hid (X26_25.out.trans (grown_frm (F := sF F g g3 gt gf) G27.out (.inr (.inr (.inl rfl)))) (fun i hi => .inl hi))
  obtain ⟨R9, hR9⟩ : ∃ x : RA, x = { R with ta := A23, tc := c23, na := A25, nc := c25 } := ⟨_, rfl⟩
  have HRI : Hid (RIn F W27 R9 mm) := Lib.hid (by
    rw [hR9, ← HMM.out]
    have hA9 : RdF (sF F g g3 gt gf) W27 A23 (turnsR (m.turns ++ [(⟨S.data.toList, Z.data.toList, fi⟩ : TM)])) := (fresh_rdf HO23.out.rd HO23.out.addr HS12.out).frm X27_23.out (fun b hb => hb)
    have hB9 : RdF (sF F g g3 gt gf) W27 A25 (namesR (doN m.now (⟨S.data.toList, Z.data.toList, fi⟩ : TM))) := by
      rw [HND.out]
      exact (fresh_rdf HO25.out.rd HO25.out.addr HS24.out).frm X27_25.out (fun b hb => hb)
    have h9 := (((H.out.wide (G := sF F g g3 gt gf) (by rintro b (h | h | h | h | h); exact .inl h; all_goals (right; have h1 := HGW.out; omega))).below B27.out)).turned (c := c23) (c' := c25) hA9 hB9
    exact (h9.narrow (fun b hb => .inl hb)).same rfl rfl rfl rfl)
  have HV : Hid (R9.val mm = .agg #[.slice fa nf fc, .slice A25 n25 c25, .slice sa ns sc, .slice A23 (nt + 1) c23, .int .i64 (mo : Int), .int .i64 0, .bool false]) := Lib.hid (by
    obtain ⟨e1, e2, e3, e4, e5, e6, e7, e8, e9, e10, e11, e12, e13⟩ := HEQ.out
    rw [hR9, ← HMM.out]
    have e14 : (doN m.now (⟨S.data.toList, Z.data.toList, fi⟩ : TM)).length = n25 := by rw [HND.out]; exact HO25.out.len.symm
    simp only [RA.val, RA.row, setF, List.length_set, List.length_append, List.length_cons, List.length_nil, e1, e2, e3, e4, e5, e6, e7, e8, e9, e10, e11, e12, e13, HDN.out, e14]
    try rfl)
  go_wp2_with (first
    | (refine wpList_load_row rfl _ _ rfl _ rfl _ _ _ _ R26g.out Try.underlying50 rfl info_dk7 ?_)
    | ((with_reducible (refine wpList_store_mid rfl _ _ _ rfl ?_ ?_ ?_ ?_ ?_ ?_ ?_ ?_ ?_)); (exact g3); (exact 0); (exact ([.slice fa nf fc, .slice A25 n25 c25, .slice sa ns sc, .slice A23 (nt + 1) c23, .int .i64 (mo : Int), .int .i64 0, .bool false]).toArray); (exact rfl); (exact rfl); (exact T27.out); (exact info_dk7); (exact cells7); rw [HW27.out]))
  refine bodyPost_ret (results_row_tmp rfl _ _ _ _ _ _ _ rfl R27z.out Try.underlying50 rfl info_dk7) rfl ⟨R9, by rw [HV.out]; rfl, HRI.out, B27.out⟩
set_option maxRecDepth 100000 in
set_option maxHeartbeats 16000000 in
theorem rdo4f (he : wrongM m 4 S.data.toList Z.data.toList nb = 0) (hdn : m.down = false) (x : Nat) (hfu : m.fuse = x + 2) (fi : Nat) (hfi : findN m.now S.data.toList = some fi) (hne : ∀ p ∈ m.now, p.1 ≠ []) :
    Calls Try.prog 25 #[R.val m, .agg #[.int .i64 4, .string S, .string Z, .slice Ab nb cb]] w fun e w' => ∃ R' : RA, e = .returned (.tuple #[R'.val ({ m with fuse := (x + 1), now := doN m.now ⟨S.data.toList, Z.data.toList, fi⟩, turns := m.turns ++ [(⟨S.data.toList, Z.data.toList, fi⟩ : TM)] }), .int .i64 0]) ∧ RIn F w' R' ({ m with fuse := (x + 1), now := doN m.now ⟨S.data.toList, Z.data.toList, fi⟩, turns := m.turns ++ [(⟨S.data.toList, Z.data.toList, fi⟩ : TM)] }) ∧ Below w.heap.size w w' := by
  obtain ⟨mm, hmm⟩ : ∃ y, { m with fuse := (x + 1), now := doN m.now ⟨S.data.toList, Z.data.toList, fi⟩, turns := m.turns ++ [(⟨S.data.toList, Z.data.toList, fi⟩ : TM)] } = y := ⟨_, rfl⟩
  rw [hmm]
  have HMM := Lib.hid hmm
  clear hmm
  have HFI := Lib.hid hfi
  clear hfi
  have HNE := Lib.hid hne
  clear hne
  have hxb : x ≤ 9223372036854775805 := by have := hf.fuse; omega
  have H := Lib.hid h
  have HF := Lib.hid hf
  have HFW := Lib.hid hF
  have HBS := Lib.hid hbs
  have HNB := Lib.hid hnb
  have hnb' := hnb.2
  have hflk := hf.files
  have hnwk := hf.now
  have hstk := hf.st
  have hfuk := hf.fuse
  have hlk : ∀ i, (fileM m i).b.length ≤ L ∧ (fileM m i).safe ≤ (fileM m i).b.length := fun i => hf.fileM i
  have HLK := Lib.hid hlk
  clear hlk
  obtain ⟨nf, hnf⟩ : ∃ n, m.files.length = n := ⟨_, rfl⟩
  obtain ⟨n, hn⟩ : ∃ n, m.now.length = n := ⟨_, rfl⟩
  have hnk : n ≤ 998 := by omega
  have hnfk : nf ≤ 998 := by omega
  obtain ⟨na, hna⟩ : ∃ n, R.na = n := ⟨_, rfl⟩
  obtain ⟨fa, hfa⟩ : ∃ n, R.fa = n := ⟨_, rfl⟩
  obtain ⟨fc, hfc⟩ : ∃ n, R.fc = n := ⟨_, rfl⟩
  obtain ⟨nc, hnc⟩ : ∃ n, R.nc = n := ⟨_, rfl⟩
  obtain ⟨sa, hsa⟩ : ∃ n, R.sa = n := ⟨_, rfl⟩
  obtain ⟨sc, hsc⟩ : ∃ n, R.sc = n := ⟨_, rfl⟩
  obtain ⟨ta, hta⟩ : ∃ n, R.ta = n := ⟨_, rfl⟩
  obtain ⟨tc, htc⟩ : ∃ n, R.tc = n := ⟨_, rfl⟩
  obtain ⟨ns, hns⟩ : ∃ n, m.sure.length = n := ⟨_, rfl⟩
  obtain ⟨nt, hnt⟩ : ∃ n, m.turns.length = n := ⟨_, rfl⟩
  have hntk : nt ≤ 998 := by omega
  obtain ⟨mo, hmo⟩ : ∃ n, m.most = n := ⟨_, rfl⟩

  have HEQ : Hid (m.files.length = nf ∧ m.now.length = n ∧ R.na = na ∧ R.fa = fa ∧ R.fc = fc ∧ R.nc = nc ∧ R.sa = sa ∧ R.sc = sc ∧ R.ta = ta ∧ R.tc = tc ∧ m.sure.length = ns ∧ m.turns.length = nt ∧ m.most = mo) := Lib.hid ⟨hnf, hn, hna, hfa, hfc, hnc, hsa, hsc, hta, htc, hns, hnt, hmo⟩
  have HVAL : Hid (R.val m = .agg #[.slice fa nf fc, .slice na n nc, .slice sa ns sc, .slice ta nt tc, .int .i64 (mo : Int), .int .i64 ((x : Int) + 2), .bool false]) := Lib.hid (by
    unfold RA.val RA.row
    rw [hn, hnf, hfa, hna, hsa, hta, hfc, hnc, hsc, htc, hns, hnt, hmo, hfu, hdn]
    try first | rfl | simp)
  have HN := Lib.hid hn
  have HNF := Lib.hid hnf
  have HFU := Lib.hid hfu
  have HDN := Lib.hid hdn
  rw [HVAL.out]
  obtain ⟨g, hg⟩ : ∃ g, w.heap.size = g := ⟨_, rfl⟩
  have HGW := Lib.hid hg
  obtain ⟨W1, hW1⟩ : ∃ W, w.alloc (.cells #[.slice fa nf fc, .slice na n nc, .slice sa ns sc, .slice ta nt tc, .int .i64 (mo : Int), .int .i64 ((x : Int) + 2), .bool false] 50) = W := ⟨_, rfl⟩
  obtain ⟨r1, b1, s1⟩ := new_row hW1
  obtain ⟨W2, hW2⟩ : ∃ W, W1.alloc (.cells #[.int .i64 4, .string S, .string Z, .slice Ab nb cb] 58) = W := ⟨_, rfl⟩
  obtain ⟨r2, b2, s2⟩ := new_row hW2
  obtain ⟨W3, hW3⟩ : ∃ W, W2.alloc (.cells #[.slice none 0 0, .slice none 0 0, .slice none 0 0, .slice none 0 0, .int .i64 0, .int .i64 0, .bool false] 50) = W := ⟨_, rfl⟩
  obtain ⟨r3, b3, s3⟩ := new_row hW3
  obtain ⟨g2, hg2⟩ : ∃ g, W1.heap.size = g := ⟨_, rfl⟩
  obtain ⟨g3, hg3⟩ : ∃ g, W2.heap.size = g := ⟨_, rfl⟩
  have hl1 : g < g2 := by omega
  have hl2 : g2 < g3 := by omega
  replace r1 := (b3.block _ (by omega)).trans ((b2.block _ (by omega)).trans r1)
  replace r2 := (b3.block _ (by omega)).trans r2
  rw [hg] at r1
  rw [hg2] at r2
  rw [hg3] at r3
  have R3g := Lib.hid r1
  have R3o := Lib.hid r2
  have R3z := Lib.hid r3
  have B3 : Hid (Below w.heap.size w W3) := Lib.hid (b1.trans ((b2.mono b1.size).trans (b3.mono (Nat.le_trans b1.size b2.size))))
  have HWR : Hid (Calls Try.prog 40 #[R.val m, .agg #[.int .i64 4, .string S, .string Z, .slice Ab nb cb]] W3 fun e w' => e = .returned (.int .i64 0) ∧ Below W3.heap.size W3 w') := Lib.hid (rwrong_any R m S Z Ab nb cb W3 (h.below B3.out) hf (by omega) (by omega) hnb' 4 ⟨by omega, by omega⟩ 0 he)
  rw [HVAL.out] at HWR
  clear h hf hF hbs hnb he hn hnf hna hfa hfc hnc hsa hsc hta htc hns hnt hmo hfu hdn b1 s1 b2 s2 b3 s3 hflk hnwk hstk hfuk 
  go_enter Try.func25, Try.ntmps25
  go_wp2_with (first
    | (refine wpList_load_row rfl _ _ rfl _ rfl _ _ _ _ r1 Try.underlying50 rfl info_dk7 ?_)
    | (refine wpList_load_row rfl _ _ rfl _ rfl _ _ _ _ r2 Try.underlying58 rfl info_op4 ?_))
  try rw [hg, hg2, hg3]
  clear hg hg2 hg3 hW1 hW2 hW3 r1 r2 r3
  refine HWR.out.mono ?_
  rintro e w4 ⟨rfl, hb4⟩
  have R4g : Hid (w4.heap[g]? = some (.cells #[.slice fa nf fc, .slice na n nc, .slice sa ns sc, .slice ta nt tc, .int .i64 (mo : Int), .int .i64 ((x : Int) + 2), .bool false] 50 (0, 0))) := Lib.hid ((hb4.block _ (Array.getElem?_eq_some_iff.1 R3g.out).1).trans R3g.out)
  have R4o : Hid (w4.heap[g2]? = some (.cells #[.int .i64 4, .string S, .string Z, .slice Ab nb cb] 58 (0, 0))) := Lib.hid ((hb4.block _ (Array.getElem?_eq_some_iff.1 R3o.out).1).trans R3o.out)
  have R4z : Hid (w4.heap[g3]? = some (.cells #[.slice none 0 0, .slice none 0 0, .slice none 0 0, .slice none 0 0, .int .i64 0, .int .i64 0, .bool false] 50 (0, 0))) := Lib.hid ((hb4.block _ (Array.getElem?_eq_some_iff.1 R3z.out).1).trans R3z.out)
  have B4 : Hid (Below w.heap.size w w4) := Lib.hid (B3.out.trans (hb4.mono B3.out.size))
  have c4g5 : w4.cell? ⟨g, 5, none⟩ = some (.int .i64 ((x : Int) + 2)) := row_cell R4g.out 5
  have f4g5 : w4.frozen? ⟨g, 5, none⟩ = false := row_free R4g.out 5
  obtain ⟨W5, hW5⟩ : ∃ W, w4.setCell ⟨g, 5, none⟩ (.int .i64 ((x : Int) + 1)) = W := ⟨_, rfl⟩
  have G5 : Hid (w4.grownBy W5 (some g)) := Lib.hid (by rw [← hW5]; exact grown_set g 5 _)
  have R5g : Hid (W5.heap[g]? = some (.cells #[.slice fa nf fc, .slice na n nc, .slice sa ns sc, .slice ta nt tc, .int .i64 (mo : Int), .int .i64 ((x : Int) + 1), .bool false] 50 (0, 0))) := Lib.hid (by have h9 := row_set R4g.out 5 (.int .i64 ((x : Int) + 1)); rw [hW5] at h9; simpa using h9)
  have R5o : Hid (W5.heap[g2]? = some (.cells #[.int .i64 4, .string S, .string Z, .slice Ab nb cb] 58 (0, 0))) := Lib.hid (row_other R4o.out G5.out (by omega) (Array.getElem?_eq_some_iff.1 R4o.out).1)
  have R5z : Hid (W5.heap[g3]? = some (.cells #[.slice none 0 0, .slice none 0 0, .slice none 0 0, .slice none 0 0, .int .i64 0, .int .i64 0, .bool false] 50 (0, 0))) := Lib.hid (row_other R4z.out G5.out (by omega) (Array.getElem?_eq_some_iff.1 R4z.out).1)
  have B5 : Hid (Below w.heap.size w W5) := Lib.hid (bel_grown B4.out B4.out.size G5.out (by have := HGW.out; omega))
  have c5g0 : W5.cell? ⟨g, 0, none⟩ = some (.slice fa nf fc) := row_cell R5g.out 0
  have c5g1 : W5.cell? ⟨g, 1, none⟩ = some (.slice na n nc) := row_cell R5g.out 1
  have c5g3 : W5.cell? ⟨g, 3, none⟩ = some (.slice ta nt tc) := row_cell R5g.out 3
  have c5g5 : W5.cell? ⟨g, 5, none⟩ = some (.int .i64 ((x : Int) + 1)) := row_cell R5g.out 5
  have c5o0 : W5.cell? ⟨g2, 0, none⟩ = some (.int .i64 4) := row_cell R5o.out 0
  have c5o1 : W5.cell? ⟨g2, 1, none⟩ = some (.string S) := row_cell R5o.out 1
  have c5o2 : W5.cell? ⟨g2, 2, none⟩ = some (.string Z) := row_cell R5o.out 2
  have c5o3 : W5.cell? ⟨g2, 3, none⟩ = some (.slice Ab nb cb) := row_cell R5o.out 3
  have j9 : (0 : Int) < (x : Int) + 2 := by omega
  have j8 : (x : Int) + 2 - 1 = (x : Int) + 1 := by omega
  have j7 : ((x : Int) + 1 == 0) = false := by rw [beq_eq_false_iff_ne]; omega
  have j6 : IntKind.i64.wrap ((x : Int) + 1) = (x : Int) + 1 := by rw [IntKind.wrap_i64]; omega
  have HFND := Lib.hid (rfind_any na m.now n nc HN.out (by omega) S W5 (by have := (H.out.below B5.out).rn.1; rw [HEQ.out.2.2.1] at this; exact this))
  obtain ⟨q, hq⟩ : ∃ q, findI m.now S.data.toList = q := ⟨_, rfl⟩
  rw [hq] at HFND
  obtain rfl : q = (fi : Int) := by rw [← hq]; exact findI_some HFI.out
  clear hq
  go_wp2_with fail
  refine HFND.out.mono ?_
  rintro e w9 ⟨rfl, rfl⟩
  have R9g := R5g
  have R9o := R5o
  have R9z := R5z
  have B9 := B5
  obtain ⟨gt, hq10⟩ : ∃ x, w9.heap.size = x := ⟨_, rfl⟩
  obtain ⟨W10, hW10⟩ : ∃ W, w9.alloc (.cells #[.string ⟨#[]⟩, .string ⟨#[]⟩, .int .i64 0] 90) = W := ⟨_, rfl⟩
  obtain ⟨r10, b10, s10⟩ := new_row hW10
  have R10g : Hid (W10.heap[g]? = some (.cells #[.slice fa nf fc, .slice na n nc, .slice sa ns sc, .slice ta nt tc, .int .i64 (mo : Int), .int .i64 ((x : Int) + 1), .bool false] 50 (0, 0))) := Lib.hid ((b10.block _ (Array.getElem?_eq_some_iff.1 R9g.out).1).trans R9g.out)
  have R10o : Hid (W10.heap[g2]? = some (.cells #[.int .i64 4, .string S, .string Z, .slice Ab nb cb] 58 (0, 0))) := Lib.hid ((b10.block _ (Array.getElem?_eq_some_iff.1 R9o.out).1).trans R9o.out)
  have R10z : Hid (W10.heap[g3]? = some (.cells #[.slice none 0 0, .slice none 0 0, .slice none 0 0, .slice none 0 0, .int .i64 0, .int .i64 0, .bool false] 50 (0, 0))) := Lib.hid ((b10.block _ (Array.getElem?_eq_some_iff.1 R9z.out).1).trans R9z.out)
  have B10 : Hid (Below w.heap.size w W10) := Lib.hid (B9.out.trans (b10.mono B9.out.size))
  rw [hq10] at r10
  have R10t := Lib.hid r10
  have HQ10 := Lib.hid hq10
  clear b10 s10
  have hl3 : g3 < gt := by have := (Array.getElem?_eq_some_iff.1 R9z.out).1; have := HQ10.out; omega
  obtain ⟨gf, hgf⟩ : ∃ x, x = gt := ⟨_, rfl⟩
  obtain ⟨W11, hW11, T11, R11t, G11⟩ := put_row (new := [.string ⟨#[]⟩, .string ⟨#[]⟩, .int .i64 0]) R10t.out rfl
  have HW11 := Lib.hid hW11
  clear hW11
  have R11g : Hid (W11.heap[g]? = some (.cells #[.slice fa nf fc, .slice na n nc, .slice sa ns sc, .slice ta nt tc, .int .i64 (mo : Int), .int .i64 ((x : Int) + 1), .bool false] 50 (0, 0))) := Lib.hid (row_other R10g.out G11.out (by omega) (Array.getElem?_eq_some_iff.1 R10g.out).1)
  have R11o : Hid (W11.heap[g2]? = some (.cells #[.int .i64 4, .string S, .string Z, .slice Ab nb cb] 58 (0, 0))) := Lib.hid (row_other R10o.out G11.out (by omega) (Array.getElem?_eq_some_iff.1 R10o.out).1)
  have R11z : Hid (W11.heap[g3]? = some (.cells #[.slice none 0 0, .slice none 0 0, .slice none 0 0, .slice none 0 0, .int .i64 0, .int .i64 0, .bool false] 50 (0, 0))) := Lib.hid (row_other R10z.out G11.out (by omega) (Array.getElem?_eq_some_iff.1 R10z.out).1)
  have B11 : Hid (Below w.heap.size w W11) := Lib.hid (bel_grown B10.out B10.out.size G11.out (by have := HGW.out; omega))
  have c11o0 : W11.cell? ⟨g2, 0, none⟩ = some (.int .i64 4) := row_cell R11o.out 0
  have c11o1 : W11.cell? ⟨g2, 1, none⟩ = some (.string S) := row_cell R11o.out 1
  have c11o2 : W11.cell? ⟨g2, 2, none⟩ = some (.string Z) := row_cell R11o.out 2
  have c11o3 : W11.cell? ⟨g2, 3, none⟩ = some (.slice Ab nb cb) := row_cell R11o.out 3
  have c11g0 : W11.cell? ⟨g, 0, none⟩ = some (.slice fa nf fc) := row_cell R11g.out 0
  have c11g1 : W11.cell? ⟨g, 1, none⟩ = some (.slice na n nc) := row_cell R11g.out 1
  have c11g3 : W11.cell? ⟨g, 3, none⟩ = some (.slice ta nt tc) := row_cell R11g.out 3
  obtain ⟨W12, hW12, T12, R12t, G12⟩ := put_row (new := [.string S, .string Z, .int .i64 (fi : Int)]) R11t.out rfl
  have HW12 := Lib.hid hW12
  clear hW12
  have R12g : Hid (W12.heap[g]? = some (.cells #[.slice fa nf fc, .slice na n nc, .slice sa ns sc, .slice ta nt tc, .int .i64 (mo : Int), .int .i64 ((x : Int) + 1), .bool false] 50 (0, 0))) := Lib.hid (row_other R11g.out G12.out (by omega) (Array.getElem?_eq_some_iff.1 R11g.out).1)
  have R12o : Hid (W12.heap[g2]? = some (.cells #[.int .i64 4, .string S, .string Z, .slice Ab nb cb] 58 (0, 0))) := Lib.hid (row_other R11o.out G12.out (by omega) (Array.getElem?_eq_some_iff.1 R11o.out).1)
  have R12z : Hid (W12.heap[g3]? = some (.cells #[.slice none 0 0, .slice none 0 0, .slice none 0 0, .slice none 0 0, .int .i64 0, .int .i64 0, .bool false] 50 (0, 0))) := Lib.hid (row_other R11z.out G12.out (by omega) (Array.getElem?_eq_some_iff.1 R11z.out).1)
  have B12 : Hid (Below w.heap.size w W12) := Lib.hid (bel_grown B11.out B11.out.size G12.out (by have := HGW.out; omega))
  have c12g0 : W12.cell? ⟨g, 0, none⟩ = some (.slice fa nf fc) := row_cell R12g.out 0
  have c12g1 : W12.cell? ⟨g, 1, none⟩ = some (.slice na n nc) := row_cell R12g.out 1
  have c12g3 : W12.cell? ⟨g, 3, none⟩ = some (.slice ta nt tc) := row_cell R12g.out 3
  have HTR : Hid (turnR (⟨S.data.toList, Z.data.toList, fi⟩ : TM) = [.string S, .string Z, .int .i64 (fi : Int)]) := Lib.hid (by
    unfold turnR strV
    rw [show (⟨(S.data.toList).toArray⟩ : ByteArray) = S from ba_ext (by simp), show (⟨(Z.data.toList).toArray⟩ : ByteArray) = Z from ba_ext (by simp)])
  obtain ⟨x20, hx20⟩ : ∃ x, W12.heap.size = x := ⟨_, rfl⟩
  obtain ⟨W13, hW13⟩ : ∃ W, W12.alloc (.cells #[] 90) = W := ⟨_, rfl⟩
  have HLT : Hid (LOut 90 3 turnR W12 W13 (some ⟨x20, 0, none⟩) 0 0 []) := Lib.hid (by rw [← hW13, ← hx20]; exact LOut.start _ _ _ (Below.refl _ _))
  have HRT := Lib.hid (((Below.refl _ _).alloc (Nat.le_refl _) (.cells #[] 90) : Below W12.heap.size W12 _).block _ (Array.getElem?_eq_some_iff.1 R12g.out).1 |>.trans R12g.out)
  rw [hW13] at HRT
  go_upto_block 3 with (first
    | ((with_reducible (refine wpList_store_mid rfl _ _ _ rfl ?_ ?_ ?_ ?_ ?_ ?_ ?_ ?_ ?_)); (exact gt); (exact 0); (exact ([.string ⟨#[]⟩, .string ⟨#[]⟩, .int .i64 0]).toArray); (exact rfl); (exact rfl); (exact T11.out); (exact info_tn3a); (exact cells3); rw [HW11.out])
    | ((with_reducible (refine wpList_store_mid rfl _ _ _ rfl ?_ ?_ ?_ ?_ ?_ ?_ ?_ ?_ ?_)); (exact gt); (exact 0); (exact ([.string S, .string Z, .int .i64 (fi : Int)]).toArray); (exact rfl); (exact rfl); (exact T12.out); (exact info_tn3a); (exact cells3); rw [HW12.out]))
  refine cp_turns g x20 nt tc ta _ m.turns W13 W12 HRT.out (Array.getElem?_eq_some_iff.1 R12g.out).1 rfl HEQ.out.2.2.2.2.2.2.2.2.2.2.2.1 (by omega) (fun W hb => by have := (H.out.below (B12.out.trans (hb.mono B12.out.size))).rt.1; rw [HEQ.out.2.2.2.2.2.2.2.2.1] at this; exact this) HLT.out _ ?_
  intros
  rename_i A21 c21 w14 ho21
  have HO21 := Lib.hid ho21
  clear ho21 hW13
  have R14g : Hid (w14.heap[g]? = some (.cells #[.slice fa nf fc, .slice na n nc, .slice sa ns sc, .slice ta nt tc, .int .i64 (mo : Int), .int .i64 ((x : Int) + 1), .bool false] 50 (0, 0))) := Lib.hid ((HO21.out.bel.block _ (Array.getElem?_eq_some_iff.1 R12g.out).1).trans R12g.out)
  have R14o : Hid (w14.heap[g2]? = some (.cells #[.int .i64 4, .string S, .string Z, .slice Ab nb cb] 58 (0, 0))) := Lib.hid ((HO21.out.bel.block _ (Array.getElem?_eq_some_iff.1 R12o.out).1).trans R12o.out)
  have R14z : Hid (w14.heap[g3]? = some (.cells #[.slice none 0 0, .slice none 0 0, .slice none 0 0, .slice none 0 0, .int .i64 0, .int .i64 0, .bool false] 50 (0, 0))) := Lib.hid ((HO21.out.bel.block _ (Array.getElem?_eq_some_iff.1 R12z.out).1).trans R12z.out)
  have R14t : Hid (w14.heap[gt]? = some (.cells #[.string S, .string Z, .int .i64 (fi : Int)] 90 (0, 0))) := Lib.hid ((HO21.out.bel.block _ (Array.getElem?_eq_some_iff.1 R12t.out).1).trans R12t.out)
  have B14 : Hid (Below w.heap.size w w14) := Lib.hid (B12.out.trans (HO21.out.bel.mono B12.out.size))
  obtain ⟨W15, hW15⟩ : ∃ W, w14.alloc (.cells #[.string S, .string Z, .int .i64 (fi : Int)] 90) = W := ⟨_, rfl⟩
  obtain ⟨r15, b15, s15⟩ := new_row hW15
  have HO22 := Lib.hid (HO21.out.below b15)
  have HR22 : Hid (Rd W15 (some ⟨w14.heap.size, 0, none⟩) [.string S, .string Z, .int .i64 (fi : Int)]) := Lib.hid (range_rd (range_of_row (cs := [.string S, .string Z, .int .i64 (fi : Int)]) r15))
  clear r15 b15 s15
  go_wp2_with (first
    | (refine wpList_load_row rfl _ _ rfl _ rfl _ _ _ _ R14t.out Try.underlying90 rfl info_tn3a ?_)
    | (at_builtin; refine wpList_append_rd _ rfl _ _ 48 rfl W12.heap.size 90 _ 3 40 Try.underlying48 info_tnz rfl (by decide) (.slice A21 nt c21) nt _ rfl HO22.out.own _ 1 _ ([.string S, .string Z, .int .i64 (fi : Int)]) rfl (rfl) HR22.out (tn_one3) (by unfold maxLen; omega) (by omega) HO22.out.bel.size ?_; intro v23 w23 ho23 hg23 hvb23; obtain ⟨A23, c23, e23, _⟩ := own_slice ho23; subst e23; have HO23 := Lib.hid (HO22.out.grow (x := (⟨S.data.toList, Z.data.toList, fi⟩ : TM)) (by rw [HTR.out]; exact ho23) hg23); refine Stop.out ?_; clear ho23 hg23 hvb23))
  refine Stop.mk ?_
  clear hW15
  have HS12 : Hid (∀ b, sF F g g3 gt gf b → b < W12.heap.size) := Lib.hid (fun b hb => by
    have h1 := B12.out.size
    have h2g := (Array.getElem?_eq_some_iff.1 R12g.out).1
    have h3z := (Array.getElem?_eq_some_iff.1 R12z.out).1
    have h4t := (Array.getElem?_eq_some_iff.1 R12t.out).1
    rcases hb with h | h | h | h | h
    · have := HFW.out b h; omega
    all_goals omega)
  have R23g : Hid (w23.heap[g]? = some (.cells #[.slice fa nf fc, .slice na n nc, .slice sa ns sc, .slice ta nt tc, .int .i64 (mo : Int), .int .i64 ((x : Int) + 1), .bool false] 50 (0, 0))) := Lib.hid ((HO23.out.bel.block _ (Array.getElem?_eq_some_iff.1 R12g.out).1).trans R12g.out)
  have R23o : Hid (w23.heap[g2]? = some (.cells #[.int .i64 4, .string S, .string Z, .slice Ab nb cb] 58 (0, 0))) := Lib.hid ((HO23.out.bel.block _ (Array.getElem?_eq_some_iff.1 R12o.out).1).trans R12o.out)
  have R23z : Hid (w23.heap[g3]? = some (.cells #[.slice none 0 0, .slice none 0 0, .slice none 0 0, .slice none 0 0, .int .i64 0, .int .i64 0, .bool false] 50 (0, 0))) := Lib.hid ((HO23.out.bel.block _ (Array.getElem?_eq_some_iff.1 R12z.out).1).trans R12z.out)
  have R23t : Hid (w23.heap[gt]? = some (.cells #[.string S, .string Z, .int .i64 (fi : Int)] 90 (0, 0))) := Lib.hid ((HO23.out.bel.block _ (Array.getElem?_eq_some_iff.1 R12t.out).1).trans R12t.out)
  have B23 : Hid (Below w.heap.size w w23) := Lib.hid (B12.out.trans (HO23.out.bel.mono B12.out.size))
  have X23_23 : Hid (Frm (sF F g g3 gt gf) w23 w23) := Lib.hid (Frm.refl _ _)
  have c23g3 : w23.cell? ⟨g, 3, none⟩ = some (.slice ta nt tc) := row_cell R23g.out 3
  have f23g3 : w23.frozen? ⟨g, 3, none⟩ = false := row_free R23g.out 3
  obtain ⟨W24, hW24⟩ : ∃ W, w23.setCell ⟨g, 3, none⟩ (.slice A23 (nt + 1) c23) = W := ⟨_, rfl⟩
  have G24 : Hid (w23.grownBy W24 (some g)) := Lib.hid (by rw [← hW24]; exact grown_set g 3 _)
  have R24g : Hid (W24.heap[g]? = some (.cells #[.slice fa nf fc, .slice na n nc, .slice sa ns sc, .slice A23 (nt + 1) c23, .int .i64 (mo : Int), .int .i64 ((x : Int) + 1), .bool false] 50 (0, 0))) := Lib.hid (by have h9 := row_set R23g.out 3 (.slice A23 (nt + 1) c23); rw [hW24] at h9; simpa using h9)
  have R24o : Hid (W24.heap[g2]? = some (.cells #[.int .i64 4, .string S, .string Z, .slice Ab nb cb] 58 (0, 0))) := Lib.hid (row_other R23o.out G24.out (by omega) (Array.getElem?_eq_some_iff.1 R23o.out).1)
  have R24z : Hid (W24.heap[g3]? = some (.cells #[.slice none 0 0, .slice none 0 0, .slice none 0 0, .slice none 0 0, .int .i64 0, .int .i64 0, .bool false] 50 (0, 0))) := Lib.hid (row_other R23z.out G24.out (by omega) (Array.getElem?_eq_some_iff.1 R23z.out).1)
  have R24t : Hid (W24.heap[gt]? = some (.cells #[.string S, .string Z, .int .i64 (fi : Int)] 90 (0, 0))) := Lib.hid (row_other R23t.out G24.out (by omega) (Array.getElem?_eq_some_iff.1 R23t.out).1)
  have B24 : Hid (Below w.heap.size w W24) := Lib.hid (bel_grown B23.out B23.out.size G24.out (by have := HGW.out; omega))
  have X24_23 : Hid (Frm (sF F g g3 gt gf) w23 W24) := Lib.hid (X23_23.out.trans (grown_frm (F := sF F g g3 gt gf) G24.out (.inr (.inl rfl))) (fun i hi => .inl hi))
  have c24g1 : W24.cell? ⟨g, 1, none⟩ = some (.slice na n nc) := row_cell R24g.out 1
  have HDO := Lib.hid (rdo_any na m.now n nc HN.out (by omega) S Z fi W24 (by have := (H.out.below B24.out).rn.1; rw [HEQ.out.2.2.1] at this; exact this))
  go_wp2_with (refine wpList_load_row rfl _ _ rfl _ rfl _ _ _ _ R24t.out Try.underlying90 rfl info_tn3a ?_)
  refine HDO.out.mono ?_
  rintro e w25 ⟨A25, n25, c25, rfl, ho25⟩
  have HO25 := Lib.hid ho25
  clear ho25
  have HS24 : Hid (∀ b, sF F g g3 gt gf b → b < W24.heap.size) := Lib.hid (fun b hb => by
    have h1 := B24.out.size
    have h2g := (Array.getElem?_eq_some_iff.1 R24g.out).1
    have h3z := (Array.getElem?_eq_some_iff.1 R24z.out).1
    have h4t := (Array.getElem?_eq_some_iff.1 R24t.out).1
    rcases hb with h | h | h | h | h
    · have := HFW.out b h; omega
    all_goals omega)
  have R25g : Hid (w25.heap[g]? = some (.cells #[.slice fa nf fc, .slice na n nc, .slice sa ns sc, .slice A23 (nt + 1) c23, .int .i64 (mo : Int), .int .i64 ((x : Int) + 1), .bool false] 50 (0, 0))) := Lib.hid ((HO25.out.bel.block _ (Array.getElem?_eq_some_iff.1 R24g.out).1).trans R24g.out)
  have R25o : Hid (w25.heap[g2]? = some (.cells #[.int .i64 4, .string S, .string Z, .slice Ab nb cb] 58 (0, 0))) := Lib.hid ((HO25.out.bel.block _ (Array.getElem?_eq_some_iff.1 R24o.out).1).trans R24o.out)
  have R25z : Hid (w25.heap[g3]? = some (.cells #[.slice none 0 0, .slice none 0 0, .slice none 0 0, .slice none 0 0, .int .i64 0, .int .i64 0, .bool false] 50 (0, 0))) := Lib.hid ((HO25.out.bel.block _ (Array.getElem?_eq_some_iff.1 R24z.out).1).trans R24z.out)
  have R25t : Hid (w25.heap[gt]? = some (.cells #[.string S, .string Z, .int .i64 (fi : Int)] 90 (0, 0))) := Lib.hid ((HO25.out.bel.block _ (Array.getElem?_eq_some_iff.1 R24t.out).1).trans R24t.out)
  have B25 : Hid (Below w.heap.size w w25) := Lib.hid (B24.out.trans (HO25.out.bel.mono B24.out.size))
  have X25_23 : Hid (Frm (sF F g g3 gt gf) w23 w25) := Lib.hid (X24_23.out.trans (Frm.of_below (F := sF F g g3 gt gf) HO25.out.bel) (fun i hi => .inl hi))
  have X25_25 : Hid (Frm (sF F g g3 gt gf) w25 w25) := Lib.hid (Frm.refl _ _)
  have c25g1 : w25.cell? ⟨g, 1, none⟩ = some (.slice na n nc) := row_cell R25g.out 1
  have f25g1 : w25.frozen? ⟨g, 1, none⟩ = false := row_free R25g.out 1
  obtain ⟨W26, hW26⟩ : ∃ W, w25.setCell ⟨g, 1, none⟩ (.slice A25 n25 c25) = W := ⟨_, rfl⟩
  have G26 : Hid (w25.grownBy W26 (some g)) := Lib.hid (by rw [← hW26]; exact grown_set g 1 _)
  have R26g : Hid (W26.heap[g]? = some (.cells #[.slice fa nf fc, .slice A25 n25 c25, .slice sa ns sc, .slice A23 (nt + 1) c23, .int .i64 (mo : Int), .int .i64 ((x : Int) + 1), .bool false] 50 (0, 0))) := Lib.hid (by have h9 := row_set R25g.out 1 (.slice A25 n25 c25); rw [hW26] at h9; simpa using h9)
  have R26o : Hid (W26.heap[g2]? = some (.cells #[.int .i64 4, .string S, .string Z, .slice Ab nb cb] 58 (0, 0))) := Lib.hid (row_other R25o.out G26.out (by omega) (Array.getElem?_eq_some_iff.1 R25o.out).1)
  have R26z : Hid (W26.heap[g3]? = some (.cells #[.slice none 0 0, .slice none 0 0, .slice none 0 0, .slice none 0 0, .int .i64 0, .int .i64 0, .bool false] 50 (0, 0))) := Lib.hid (row_other R25z.out G26.out (by omega) (Array.getElem?_eq_some_iff.1 R25z.out).1)
  have R26t : Hid (W26.heap[gt]? = some (.cells #[.string S, .string Z, .int .i64 (fi : Int)] 90 (0, 0))) := Lib.hid (row_other R25t.out G26.out (by omega) (Array.getElem?_eq_some_iff.1 R25t.out).1)
  have B26 : Hid (Below w.heap.size w W26) := Lib.hid (bel_grown B25.out B25.out.size G26.out (by have := HGW.out; omega))
  have X26_23 : Hid (Frm (sF F g g3 gt gf) w23 W26) := Lib.hid (X25_23.out.trans (grown_frm (F := sF F g g3 gt gf) G26.out (.inr (.inl rfl))) (fun i hi => .inl hi))
  have X26_25 : Hid (Frm (sF F g g3 gt gf) w25 W26) := Lib.hid (X25_25.out.trans (grown_frm (F := sF F g g3 gt gf) G26.out (.inr (.inl rfl))) (fun i hi => .inl hi))
  have HND : Hid (doN m.now (⟨S.data.toList, Z.data.toList, fi⟩ : TM) = doD m.now S.data.toList Z.data.toList fi) := Lib.hid (doD_do HNE.out (⟨S.data.toList, Z.data.toList, fi⟩ : TM)).symm
  obtain ⟨W27, hW27, T27, R27z, G27⟩ := put_row (new := [.slice fa nf fc, .slice A25 n25 c25, .slice sa ns sc, .slice A23 (nt + 1) c23, .int .i64 (mo : Int), .int .i64 ((x : Int) + 1), .bool false]) R26z.out rfl
  have HW27 := Lib.hid hW27
  clear hW27
  have R27g : Hid (W27.heap[g]? = some (.cells #[.slice fa nf fc, .slice A25 n25 c25, .slice sa ns sc, .slice A23 (nt + 1) c23, .int .i64 (mo : Int), .int .i64 ((x : Int) + 1), .bool false] 50 (0, 0))) := Lib.hid (row_other R26g.out G27.out (by omega) (Array.getElem?_eq_some_iff.1 R26g.out).1)
  have R27o : Hid (W27.heap[g2]? = some (.cells #[.int .i64 4, .string S, .string Z, .slice Ab nb cb] 58 (0, 0))) := Lib.hid (row_other R26o.out G27.out (by omega) (Array.getElem?_eq_some_iff.1 R26o.out).1)
  have R27t : Hid (W27.heap[gt]? = some (.cells #[.string S, .string Z, .int .i64 (fi : Int)] 90 (0, 0))) := Lib.hid (row_other R26t.out G27.out (by omega) (Array.getElem?_eq_some_iff.1 R26t.out).1)
  have B27 : Hid (Below w.heap.size w W27) := Lib.hid (bel_grown B26.out B26.out.size G27.out (by have := HGW.out; omega))
  have X27_23 : Hid (Frm (sF F g g3 gt gf) w23 W27) := Lib.hid (X26_23.out.trans (grown_frm (F := sF F g g3 gt gf) G27.out (.inr (.inr (.inl rfl)))) (fun i hi => .inl hi))
  have X27_25 : Hid (Frm (sF F g g3 gt gf) w25 W27) := Lib.hid (X26_25.out.trans (grown_frm (F := sF F g g3 gt gf) G27.out (.inr (.inr (.inl rfl)))) (fun i hi => .inl hi))
  obtain ⟨R9, hR9⟩ : ∃ x : RA, x = { R with ta := A23, tc := c23, na := A25, nc := c25 } := ⟨_, rfl⟩
  have HRI : Hid (RIn F W27 R9 mm) := Lib.hid (by
    rw [hR9, ← HMM.out]
    have hA9 : RdF (sF F g g3 gt gf) W27 A23 (turnsR (m.turns ++ [(⟨S.data.toList, Z.data.toList, fi⟩ : TM)])) := (fresh_rdf HO23.out.rd HO23.out.addr HS12.out).frm X27_23.out (fun b hb => hb)
    have hB9 : RdF (sF F g g3 gt gf) W27 A25 (namesR (doN m.now (⟨S.data.toList, Z.data.toList, fi⟩ : TM))) := by
      rw [HND.out]
      exact (fresh_rdf HO25.out.rd HO25.out.addr HS24.out).frm X27_25.out (fun b hb => hb)
    have h9 := (((H.out.wide (G := sF F g g3 gt gf) (by rintro b (h | h | h | h | h); exact .inl h; all_goals (right; have h1 := HGW.out; omega))).below B27.out)).turned (c := c23) (c' := c25) hA9 hB9
    exact (h9.narrow (fun b hb => .inl hb)).same rfl rfl rfl rfl)
  have HV : Hid (R9.val mm = .agg #[.slice fa nf fc, .slice A25 n25 c25, .slice sa ns sc, .slice A23 (nt + 1) c23, .int .i64 (mo : Int), .int .i64 ((x : Int) + 1), .bool false]) := Lib.hid (by
    obtain ⟨e1, e2, e3, e4, e5, e6, e7, e8, e9, e10, e11, e12, e13⟩ := HEQ.out
    rw [hR9, ← HMM.out]
    have e14 : (doN m.now (⟨S.data.toList, Z.data.toList, fi⟩ : TM)).length = n25 := by rw [HND.out]; exact HO25.out.len.symm
    simp only [RA.val, RA.row, setF, List.length_set, List.length_append, List.length_cons, List.length_nil, e1, e2, e3, e4, e5, e6, e7, e8, e9, e10, e11, e12, e13, HDN.out, e14]
    try rfl)
  go_wp2_with (first
    | (refine wpList_load_row rfl _ _ rfl _ rfl _ _ _ _ R26g.out Try.underlying50 rfl info_dk7 ?_)
    | ((with_reducible (refine wpList_store_mid rfl _ _ _ rfl ?_ ?_ ?_ ?_ ?_ ?_ ?_ ?_ ?_)); (exact g3); (exact 0); (exact ([.slice fa nf fc, .slice A25 n25 c25, .slice sa ns sc, .slice A23 (nt + 1) c23, .int .i64 (mo : Int), .int .i64 ((x : Int) + 1), .bool false]).toArray); (exact rfl); (exact rfl); (exact T27.out); (exact info_dk7); (exact cells7); rw [HW27.out]))
  refine bodyPost_ret (results_row_tmp rfl _ _ _ _ _ _ _ rfl R27z.out Try.underlying50 rfl info_dk7) rfl ⟨R9, by rw [HV.out]; rfl, HRI.out, B27.out⟩
end

end Go.Proofs.Ytpmifpblamjclaa
