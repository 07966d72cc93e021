/- The document's disk: Do: its loops, and where the step is wrong or the power goes. (Printed by wip/genDp7.py.) (With the texts that it stands on.) -/
import Derived.Test.YtelbofikcpchiaaGreatQI
import Derived.Deep.CutBlock
namespace Go.Proofs.YtelbofikcpchiaaGreat
open Go.RowKit
def wrongM (m : DM) (k : Int) (a z : List UInt8) (bl : Nat) : Int :=
 if m.down = true then 50
 else if (k = 1 ∧ namedB a = false) ∨ (k = 4 ∧ namedB z = false) then 1
 else if k = 1 ∧ findN m.now a ≠ none then 5
 else if k = 1 ∧ 4096 ≤ m.now.length then 3
 else if 1 < k ∧ k < 6 ∧ findN m.now a = none then 4
 else if k = 2 ∧ roomM m < bl then 51
 else 0
set_option linter.unusedSectionVars false
section
variable {K L : Nat} {F : Nat → Prop} (R : RA) (m : DM) (S Z : ByteArray) (Ab : Option Addr) (nb cb : Nat) (w : World) (h : RIn F w R m) (hf : Fit K L m) (hK : K ≤ 1000) (hL : L ≤ 1000000) (hnb : nb ≤ 1000000)
include h hf hK hL hnb
set_option maxRecDepth 100000 in
set_option maxHeartbeats 4000000 in
theorem rw1D (hd : m.down = true) : Calls Tryz.prog 42 #[R.val m, .agg #[.int .i64 1, .string S, .string Z, .slice Ab nb cb]] w fun e w' => e = .returned (.int .i64 50) ∧ Below w.heap.size w w' := by
 have HD := h_ hd
 clear hd
 have H := h_ h
 have HF := h_ hf
 obtain ⟨nf, hnf⟩ := eX m.files.length
 obtain ⟨n, hn⟩ := eX m.now.length
 have hnk : n ≤ 1000 := by have := hf.now; omega
 have HN := h_ hn
 obtain ⟨na, hna⟩ := eX R.na
 have HNA := h_ hna
 obtain ⟨fa, hfa⟩ := eX R.fa
 obtain ⟨fc, hfc⟩ := eX R.fc
 obtain ⟨nc, hnc⟩ := eX R.nc
 obtain ⟨sa, hsa⟩ := eX R.sa
 obtain ⟨sc, hsc⟩ := eX R.sc
 obtain ⟨ta, hta⟩ := eX R.ta
 obtain ⟨tc, htc⟩ := eX R.tc
 obtain ⟨ns, hns⟩ := eX m.sure.length
 obtain ⟨nt, hnt⟩ := eX m.turns.length
 obtain ⟨mo, hmo⟩ := eX m.most
 obtain ⟨fu, hfu⟩ := eX m.fuse
 have hdn := HD.out
 have hval : R.val m = .agg #[.slice fa nf fc, .slice na n nc, .slice sa ns sc, .slice ta nt tc, .int .i64 (mo : Int), .int .i64 (fu : Int), .bool true] := by
  unfold RA.val RA.row
  rw [hn, hnf, hfa, hna, hsa, hta, hfc, hnc, hsc, htc, hns, hnt, hmo, hfu, hdn]
 have HVAL := h_ hval
 rw [hval]
 obtain ⟨W1, hW1⟩ := eX (w.alloc (.cells #[.slice fa nf fc, .slice na n nc, .slice sa ns sc, .slice ta nt tc, .int .i64 (mo : Int), .int .i64 (fu : Int), .bool true] 53))
 obtain ⟨r1, b1, s1⟩ := new_row hW1
 obtain ⟨W2, hW2⟩ := eX (W1.alloc (.cells #[.int .i64 1, .string S, .string Z, .slice Ab nb cb] 56))
 obtain ⟨r2, b2, s2⟩ := new_row hW2
 obtain ⟨g, hg⟩ := eX w.heap.size
 obtain ⟨g2, hg2⟩ := eX W1.heap.size
 replace r1 := (b2.block _ (by omega)).trans r1
 rw [hg] at r1
 rw [hg2] at r2
 obtain ⟨-, c1, -, -, -, -, c6⟩ := rw7 (h_ r1)
 obtain ⟨d0, d1, d2, d3⟩ := rw4 (h_ r2)
 have HR1 := h_ r1
 have HB2 : Hid (Below w.heap.size w W2) := h_ (b1.trans (b2.mono b1.size))
 have H2 : Hid (RIn F W2 R m) := h_ (H.out.below HB2.out)
 have HB3 : Hid (Below W2.heap.size W2 W2) := h_ (Below.refl _ _)
 have HFND := h_ (rfind_any na m.now n nc HN.out (by omega) S W2 (by have := H2.out.rn.1; rw [hna] at this; exact this))
 obtain ⟨q, hq⟩ := eX (findI m.now S.data.toList)
 rw [hq] at HFND
 have HQ := h_ hq
 have HNS := h_ (rnamed_any S W2)
 have HNZ := h_ (rnamed_any Z W2)
 clear h hf hn hnf hna hfa hfc hnc hsa hsc hta htc hns hnt hmo hfu hdn hval b1 s1 b2 s2 r1 r2 hq
 go_enter Tryz.func42, Tryz.ntmps42
 go_wp2_with fail
 try rw [hg, hg2]
 clear hg hg2 hW1 hW2
 refine HFND.out.mono ?_
 rintro e w2 ⟨rfl, rfl⟩
 go_wp2_with fail
 go_ret
 exact ⟨rfl, HB2.out⟩
set_option maxRecDepth 100000 in
set_option maxHeartbeats 4000000 in
theorem rw1N (hd : m.down = false) (hn1 : namedB S.data.toList = false) : Calls Tryz.prog 42 #[R.val m, .agg #[.int .i64 1, .string S, .string Z, .slice Ab nb cb]] w fun e w' => e = .returned (.int .i64 1) ∧ Below w.heap.size w w' := by
 have HN1 := h_ hn1
 clear hn1
 have HD := h_ hd
 clear hd
 have H := h_ h
 have HF := h_ hf
 obtain ⟨nf, hnf⟩ := eX m.files.length
 obtain ⟨n, hn⟩ := eX m.now.length
 have hnk : n ≤ 1000 := by have := hf.now; omega
 have HN := h_ hn
 obtain ⟨na, hna⟩ := eX R.na
 have HNA := h_ hna
 obtain ⟨fa, hfa⟩ := eX R.fa
 obtain ⟨fc, hfc⟩ := eX R.fc
 obtain ⟨nc, hnc⟩ := eX R.nc
 obtain ⟨sa, hsa⟩ := eX R.sa
 obtain ⟨sc, hsc⟩ := eX R.sc
 obtain ⟨ta, hta⟩ := eX R.ta
 obtain ⟨tc, htc⟩ := eX R.tc
 obtain ⟨ns, hns⟩ := eX m.sure.length
 obtain ⟨nt, hnt⟩ := eX m.turns.length
 obtain ⟨mo, hmo⟩ := eX m.most
 obtain ⟨fu, hfu⟩ := eX m.fuse
 have hdn := HD.out
 have hval : R.val m = .agg #[.slice fa nf fc, .slice na n nc, .slice sa ns sc, .slice ta nt tc, .int .i64 (mo : Int), .int .i64 (fu : Int), .bool false] := by
  unfold RA.val RA.row
  rw [hn, hnf, hfa, hna, hsa, hta, hfc, hnc, hsc, htc, hns, hnt, hmo, hfu, hdn]
 have HVAL := h_ hval
 rw [hval]
 obtain ⟨W1, hW1⟩ := eX (w.alloc (.cells #[.slice fa nf fc, .slice na n nc, .slice sa ns sc, .slice ta nt tc, .int .i64 (mo : Int), .int .i64 (fu : Int), .bool false] 53))
 obtain ⟨r1, b1, s1⟩ := new_row hW1
 obtain ⟨W2, hW2⟩ := eX (W1.alloc (.cells #[.int .i64 1, .string S, .string Z, .slice Ab nb cb] 56))
 obtain ⟨r2, b2, s2⟩ := new_row hW2
 obtain ⟨g, hg⟩ := eX w.heap.size
 obtain ⟨g2, hg2⟩ := eX W1.heap.size
 replace r1 := (b2.block _ (by omega)).trans r1
 rw [hg] at r1
 rw [hg2] at r2
 obtain ⟨-, c1, -, -, -, -, c6⟩ := rw7 (h_ r1)
 obtain ⟨d0, d1, d2, d3⟩ := rw4 (h_ r2)
 have HR1 := h_ r1
 have HB2 : Hid (Below w.heap.size w W2) := h_ (b1.trans (b2.mono b1.size))
 have H2 : Hid (RIn F W2 R m) := h_ (H.out.below HB2.out)
 have HB3 : Hid (Below W2.heap.size W2 W2) := h_ (Below.refl _ _)
 have HFND := h_ (rfind_any na m.now n nc HN.out (by omega) S W2 (by have := H2.out.rn.1; rw [hna] at this; exact this))
 obtain ⟨q, hq⟩ := eX (findI m.now S.data.toList)
 rw [hq] at HFND
 have HQ := h_ hq
 have HNS := h_ (rnamed_any S W2)
 have HNZ := h_ (rnamed_any Z W2)
 clear h hf hn hnf hna hfa hfc hnc hsa hsc hta htc hns hnt hmo hfu hdn hval b1 s1 b2 s2 r1 r2 hq
 rw [HN1.out] at HNS
 go_enter Tryz.func42, Tryz.ntmps42
 go_wp2_with fail
 try rw [hg, hg2]
 clear hg hg2 hW1 hW2
 refine HFND.out.mono ?_
 rintro e w2 ⟨rfl, rfl⟩
 go_wp2_with fail
 refine HNS.out.mono ?_
 rintro e w3 ⟨rfl, rfl⟩
 go_wp2_with fail
 go_ret
 exact ⟨rfl, HB2.out⟩
set_option maxRecDepth 100000 in
set_option maxHeartbeats 4000000 in
theorem rw1T (hd : m.down = false) (hn1 : namedB S.data.toList = true) (fi : Nat) (hfi : findN m.now S.data.toList = some fi) : Calls Tryz.prog 42 #[R.val m, .agg #[.int .i64 1, .string S, .string Z, .slice Ab nb cb]] w fun e w' => e = .returned (.int .i64 5) ∧ Below w.heap.size w w' := by
 have HN1 := h_ hn1
 clear hn1
 have HFI := h_ hfi
 clear hfi
 have HD := h_ hd
 clear hd
 have H := h_ h
 have HF := h_ hf
 obtain ⟨nf, hnf⟩ := eX m.files.length
 obtain ⟨n, hn⟩ := eX m.now.length
 have hnk : n ≤ 1000 := by have := hf.now; omega
 have HN := h_ hn
 obtain ⟨na, hna⟩ := eX R.na
 have HNA := h_ hna
 obtain ⟨fa, hfa⟩ := eX R.fa
 obtain ⟨fc, hfc⟩ := eX R.fc
 obtain ⟨nc, hnc⟩ := eX R.nc
 obtain ⟨sa, hsa⟩ := eX R.sa
 obtain ⟨sc, hsc⟩ := eX R.sc
 obtain ⟨ta, hta⟩ := eX R.ta
 obtain ⟨tc, htc⟩ := eX R.tc
 obtain ⟨ns, hns⟩ := eX m.sure.length
 obtain ⟨nt, hnt⟩ := eX m.turns.length
 obtain ⟨mo, hmo⟩ := eX m.most
 obtain ⟨fu, hfu⟩ := eX m.fuse
 have hdn := HD.out
 have hval : R.val m = .agg #[.slice fa nf fc, .slice na n nc, .slice sa ns sc, .slice ta nt tc, .int .i64 (mo : Int), .int .i64 (fu : Int), .bool false] := by
  unfold RA.val RA.row
  rw [hn, hnf, hfa, hna, hsa, hta, hfc, hnc, hsc, htc, hns, hnt, hmo, hfu, hdn]
 have HVAL := h_ hval
 rw [hval]
 obtain ⟨W1, hW1⟩ := eX (w.alloc (.cells #[.slice fa nf fc, .slice na n nc, .slice sa ns sc, .slice ta nt tc, .int .i64 (mo : Int), .int .i64 (fu : Int), .bool false] 53))
 obtain ⟨r1, b1, s1⟩ := new_row hW1
 obtain ⟨W2, hW2⟩ := eX (W1.alloc (.cells #[.int .i64 1, .string S, .string Z, .slice Ab nb cb] 56))
 obtain ⟨r2, b2, s2⟩ := new_row hW2
 obtain ⟨g, hg⟩ := eX w.heap.size
 obtain ⟨g2, hg2⟩ := eX W1.heap.size
 replace r1 := (b2.block _ (by omega)).trans r1
 rw [hg] at r1
 rw [hg2] at r2
 obtain ⟨-, c1, -, -, -, -, c6⟩ := rw7 (h_ r1)
 obtain ⟨d0, d1, d2, d3⟩ := rw4 (h_ r2)
 have HR1 := h_ r1
 have HB2 : Hid (Below w.heap.size w W2) := h_ (b1.trans (b2.mono b1.size))
 have H2 : Hid (RIn F W2 R m) := h_ (H.out.below HB2.out)
 have HB3 : Hid (Below W2.heap.size W2 W2) := h_ (Below.refl _ _)
 have HFND := h_ (rfind_any na m.now n nc HN.out (by omega) S W2 (by have := H2.out.rn.1; rw [hna] at this; exact this))
 obtain ⟨q, hq⟩ := eX (findI m.now S.data.toList)
 rw [hq] at HFND
 have HQ := h_ hq
 have HNS := h_ (rnamed_any S W2)
 have HNZ := h_ (rnamed_any Z W2)
 clear h hf hn hnf hna hfa hfc hnc hsa hsc hta htc hns hnt hmo hfu hdn hval b1 s1 b2 s2 r1 r2 hq
 rw [HN1.out] at HNS
 obtain rfl : q = (fi : Int) := by rw [← HQ.out]; exact findI_some HFI.out
 have j0 : (0 : Int) ≤ (fi : Int) := by omega
 have j00 : ¬ ((fi : Int) < 0) := by omega
 go_enter Tryz.func42, Tryz.ntmps42
 go_wp2_with fail
 try rw [hg, hg2]
 clear hg hg2 hW1 hW2
 refine HFND.out.mono ?_
 rintro e w2 ⟨rfl, rfl⟩
 go_wp2_with fail
 refine HNS.out.mono ?_
 rintro e w3 ⟨rfl, rfl⟩
 go_wp2_with fail
 go_ret
 exact ⟨rfl, HB2.out⟩
set_option maxRecDepth 100000 in
set_option maxHeartbeats 4000000 in
theorem rw1O (hd : m.down = false) (hn1 : namedB S.data.toList = true) (hfi : findN m.now S.data.toList = none) (hma : ¬ 4096 ≤ m.now.length) : Calls Tryz.prog 42 #[R.val m, .agg #[.int .i64 1, .string S, .string Z, .slice Ab nb cb]] w fun e w' => e = .returned (.int .i64 0) ∧ Below w.heap.size w w' := by
 have HN1 := h_ hn1
 clear hn1
 have HFI := h_ hfi
 clear hfi
 have HMA := h_ hma
 clear hma
 have HD := h_ hd
 clear hd
 have H := h_ h
 have HF := h_ hf
 obtain ⟨nf, hnf⟩ := eX m.files.length
 obtain ⟨n, hn⟩ := eX m.now.length
 have hnk : n ≤ 1000 := by have := hf.now; omega
 have HN := h_ hn
 obtain ⟨na, hna⟩ := eX R.na
 have HNA := h_ hna
 obtain ⟨fa, hfa⟩ := eX R.fa
 obtain ⟨fc, hfc⟩ := eX R.fc
 obtain ⟨nc, hnc⟩ := eX R.nc
 obtain ⟨sa, hsa⟩ := eX R.sa
 obtain ⟨sc, hsc⟩ := eX R.sc
 obtain ⟨ta, hta⟩ := eX R.ta
 obtain ⟨tc, htc⟩ := eX R.tc
 obtain ⟨ns, hns⟩ := eX m.sure.length
 obtain ⟨nt, hnt⟩ := eX m.turns.length
 obtain ⟨mo, hmo⟩ := eX m.most
 obtain ⟨fu, hfu⟩ := eX m.fuse
 have hdn := HD.out
 have hval : R.val m = .agg #[.slice fa nf fc, .slice na n nc, .slice sa ns sc, .slice ta nt tc, .int .i64 (mo : Int), .int .i64 (fu : Int), .bool false] := by
  unfold RA.val RA.row
  rw [hn, hnf, hfa, hna, hsa, hta, hfc, hnc, hsc, htc, hns, hnt, hmo, hfu, hdn]
 have HVAL := h_ hval
 rw [hval]
 obtain ⟨W1, hW1⟩ := eX (w.alloc (.cells #[.slice fa nf fc, .slice na n nc, .slice sa ns sc, .slice ta nt tc, .int .i64 (mo : Int), .int .i64 (fu : Int), .bool false] 53))
 obtain ⟨r1, b1, s1⟩ := new_row hW1
 obtain ⟨W2, hW2⟩ := eX (W1.alloc (.cells #[.int .i64 1, .string S, .string Z, .slice Ab nb cb] 56))
 obtain ⟨r2, b2, s2⟩ := new_row hW2
 obtain ⟨g, hg⟩ := eX w.heap.size
 obtain ⟨g2, hg2⟩ := eX W1.heap.size
 replace r1 := (b2.block _ (by omega)).trans r1
 rw [hg] at r1
 rw [hg2] at r2
 obtain ⟨-, c1, -, -, -, -, c6⟩ := rw7 (h_ r1)
 obtain ⟨d0, d1, d2, d3⟩ := rw4 (h_ r2)
 have HR1 := h_ r1
 have HB2 : Hid (Below w.heap.size w W2) := h_ (b1.trans (b2.mono b1.size))
 have H2 : Hid (RIn F W2 R m) := h_ (H.out.below HB2.out)
 have HB3 : Hid (Below W2.heap.size W2 W2) := h_ (Below.refl _ _)
 have HFND := h_ (rfind_any na m.now n nc HN.out (by omega) S W2 (by have := H2.out.rn.1; rw [hna] at this; exact this))
 obtain ⟨q, hq⟩ := eX (findI m.now S.data.toList)
 rw [hq] at HFND
 have HQ := h_ hq
 have HNS := h_ (rnamed_any S W2)
 have HNZ := h_ (rnamed_any Z W2)
 clear h hf hn hnf hna hfa hfc hnc hsa hsc hta htc hns hnt hmo hfu hdn hval b1 s1 b2 s2 r1 r2 hq
 rw [HN1.out] at HNS
 obtain rfl : q = -1 := by rw [← HQ.out]; exact findI_none HFI.out
 have j1 : ¬ ((4096 : Int) ≤ (n : Int)) := by have h1 := HMA.out; have h2 := HN.out; omega
 go_enter Tryz.func42, Tryz.ntmps42
 go_wp2_with fail
 try rw [hg, hg2]
 clear hg hg2 hW1 hW2
 refine HFND.out.mono ?_
 rintro e w2 ⟨rfl, rfl⟩
 go_wp2_with fail
 refine HNS.out.mono ?_
 rintro e w3 ⟨rfl, rfl⟩
 go_wp2_with fail
 go_quiet (fail)
 go_wp2_with fail
 go_ret
 exact ⟨rfl, below_drewN HB2.out _⟩
set_option maxRecDepth 100000 in
set_option maxHeartbeats 4000000 in
theorem rw2D (hd : m.down = true) : Calls Tryz.prog 42 #[R.val m, .agg #[.int .i64 2, .string S, .string Z, .slice Ab nb cb]] w fun e w' => e = .returned (.int .i64 50) ∧ Below w.heap.size w w' := by
 have HD := h_ hd
 clear hd
 have H := h_ h
 have HF := h_ hf
 obtain ⟨nf, hnf⟩ := eX m.files.length
 obtain ⟨n, hn⟩ := eX m.now.length
 have hnk : n ≤ 1000 := by have := hf.now; omega
 have HN := h_ hn
 obtain ⟨na, hna⟩ := eX R.na
 have HNA := h_ hna
 obtain ⟨fa, hfa⟩ := eX R.fa
 obtain ⟨fc, hfc⟩ := eX R.fc
 obtain ⟨nc, hnc⟩ := eX R.nc
 obtain ⟨sa, hsa⟩ := eX R.sa
 obtain ⟨sc, hsc⟩ := eX R.sc
 obtain ⟨ta, hta⟩ := eX R.ta
 obtain ⟨tc, htc⟩ := eX R.tc
 obtain ⟨ns, hns⟩ := eX m.sure.length
 obtain ⟨nt, hnt⟩ := eX m.turns.length
 obtain ⟨mo, hmo⟩ := eX m.most
 obtain ⟨fu, hfu⟩ := eX m.fuse
 have hdn := HD.out
 have hval : R.val m = .agg #[.slice fa nf fc, .slice na n nc, .slice sa ns sc, .slice ta nt tc, .int .i64 (mo : Int), .int .i64 (fu : Int), .bool true] := by
  unfold RA.val RA.row
  rw [hn, hnf, hfa, hna, hsa, hta, hfc, hnc, hsc, htc, hns, hnt, hmo, hfu, hdn]
 have HVAL := h_ hval
 rw [hval]
 obtain ⟨W1, hW1⟩ := eX (w.alloc (.cells #[.slice fa nf fc, .slice na n nc, .slice sa ns sc, .slice ta nt tc, .int .i64 (mo : Int), .int .i64 (fu : Int), .bool true] 53))
 obtain ⟨r1, b1, s1⟩ := new_row hW1
 obtain ⟨W2, hW2⟩ := eX (W1.alloc (.cells #[.int .i64 2, .string S, .string Z, .slice Ab nb cb] 56))
 obtain ⟨r2, b2, s2⟩ := new_row hW2
 obtain ⟨g, hg⟩ := eX w.heap.size
 obtain ⟨g2, hg2⟩ := eX W1.heap.size
 replace r1 := (b2.block _ (by omega)).trans r1
 rw [hg] at r1
 rw [hg2] at r2
 obtain ⟨-, c1, -, -, -, -, c6⟩ := rw7 (h_ r1)
 obtain ⟨d0, d1, d2, d3⟩ := rw4 (h_ r2)
 have HR1 := h_ r1
 have HB2 : Hid (Below w.heap.size w W2) := h_ (b1.trans (b2.mono b1.size))
 have H2 : Hid (RIn F W2 R m) := h_ (H.out.below HB2.out)
 have HB3 : Hid (Below W2.heap.size W2 W2) := h_ (Below.refl _ _)
 have HFND := h_ (rfind_any na m.now n nc HN.out (by omega) S W2 (by have := H2.out.rn.1; rw [hna] at this; exact this))
 obtain ⟨q, hq⟩ := eX (findI m.now S.data.toList)
 rw [hq] at HFND
 have HQ := h_ hq
 have HNS := h_ (rnamed_any S W2)
 have HNZ := h_ (rnamed_any Z W2)
 clear h hf hn hnf hna hfa hfc hnc hsa hsc hta htc hns hnt hmo hfu hdn hval b1 s1 b2 s2 r1 r2 hq
 go_enter Tryz.func42, Tryz.ntmps42
 go_wp2_with fail
 try rw [hg, hg2]
 clear hg hg2 hW1 hW2
 refine HFND.out.mono ?_
 rintro e w2 ⟨rfl, rfl⟩
 go_wp2_with fail
 go_ret
 exact ⟨rfl, HB2.out⟩
set_option maxRecDepth 100000 in
set_option maxHeartbeats 4000000 in
theorem rw2X (hd : m.down = false) (hfi : findN m.now S.data.toList = none) : Calls Tryz.prog 42 #[R.val m, .agg #[.int .i64 2, .string S, .string Z, .slice Ab nb cb]] w fun e w' => e = .returned (.int .i64 4) ∧ Below w.heap.size w w' := by
 have HFI := h_ hfi
 clear hfi
 have HD := h_ hd
 clear hd
 have H := h_ h
 have HF := h_ hf
 obtain ⟨nf, hnf⟩ := eX m.files.length
 obtain ⟨n, hn⟩ := eX m.now.length
 have hnk : n ≤ 1000 := by have := hf.now; omega
 have HN := h_ hn
 obtain ⟨na, hna⟩ := eX R.na
 have HNA := h_ hna
 obtain ⟨fa, hfa⟩ := eX R.fa
 obtain ⟨fc, hfc⟩ := eX R.fc
 obtain ⟨nc, hnc⟩ := eX R.nc
 obtain ⟨sa, hsa⟩ := eX R.sa
 obtain ⟨sc, hsc⟩ := eX R.sc
 obtain ⟨ta, hta⟩ := eX R.ta
 obtain ⟨tc, htc⟩ := eX R.tc
 obtain ⟨ns, hns⟩ := eX m.sure.length
 obtain ⟨nt, hnt⟩ := eX m.turns.length
 obtain ⟨mo, hmo⟩ := eX m.most
 obtain ⟨fu, hfu⟩ := eX m.fuse
 have hdn := HD.out
 have hval : R.val m = .agg #[.slice fa nf fc, .slice na n nc, .slice sa ns sc, .slice ta nt tc, .int .i64 (mo : Int), .int .i64 (fu : Int), .bool false] := by
  unfold RA.val RA.row
  rw [hn, hnf, hfa, hna, hsa, hta, hfc, hnc, hsc, htc, hns, hnt, hmo, hfu, hdn]
 have HVAL := h_ hval
 rw [hval]
 obtain ⟨W1, hW1⟩ := eX (w.alloc (.cells #[.slice fa nf fc, .slice na n nc, .slice sa ns sc, .slice ta nt tc, .int .i64 (mo : Int), .int .i64 (fu : Int), .bool false] 53))
 obtain ⟨r1, b1, s1⟩ := new_row hW1
 obtain ⟨W2, hW2⟩ := eX (W1.alloc (.cells #[.int .i64 2, .string S, .string Z, .slice Ab nb cb] 56))
 obtain ⟨r2, b2, s2⟩ := new_row hW2
 obtain ⟨g, hg⟩ := eX w.heap.size
 obtain ⟨g2, hg2⟩ := eX W1.heap.size
 replace r1 := (b2.block _ (by omega)).trans r1
 rw [hg] at r1
 rw [hg2] at r2
 obtain ⟨-, c1, -, -, -, -, c6⟩ := rw7 (h_ r1)
 obtain ⟨d0, d1, d2, d3⟩ := rw4 (h_ r2)
 have HR1 := h_ r1
 have HB2 : Hid (Below w.heap.size w W2) := h_ (b1.trans (b2.mono b1.size))
 have H2 : Hid (RIn F W2 R m) := h_ (H.out.below HB2.out)
 have HB3 : Hid (Below W2.heap.size W2 W2) := h_ (Below.refl _ _)
 have HFND := h_ (rfind_any na m.now n nc HN.out (by omega) S W2 (by have := H2.out.rn.1; rw [hna] at this; exact this))
 obtain ⟨q, hq⟩ := eX (findI m.now S.data.toList)
 rw [hq] at HFND
 have HQ := h_ hq
 have HNS := h_ (rnamed_any S W2)
 have HNZ := h_ (rnamed_any Z W2)
 clear h hf hn hnf hna hfa hfc hnc hsa hsc hta htc hns hnt hmo hfu hdn hval b1 s1 b2 s2 r1 r2 hq
 obtain rfl : q = -1 := by rw [← HQ.out]; exact findI_none HFI.out
 go_enter Tryz.func42, Tryz.ntmps42
 go_wp2_with fail
 try rw [hg, hg2]
 clear hg hg2 hW1 hW2
 refine HFND.out.mono ?_
 rintro e w2 ⟨rfl, rfl⟩
 go_wp2_with fail
 go_ret
 exact ⟨rfl, HB2.out⟩
set_option maxRecDepth 100000 in
set_option maxHeartbeats 4000000 in
theorem rw2R (hd : m.down = false) (fi : Nat) (hfi : findN m.now S.data.toList = some fi) (hro : roomM m < nb) : Calls Tryz.prog 42 #[R.val m, .agg #[.int .i64 2, .string S, .string Z, .slice Ab nb cb]] w fun e w' => e = .returned (.int .i64 51) ∧ Below w.heap.size w w' := by
 have HFI := h_ hfi
 clear hfi
 have HRO := h_ hro
 clear hro
 have HD := h_ hd
 clear hd
 have H := h_ h
 have HF := h_ hf
 obtain ⟨nf, hnf⟩ := eX m.files.length
 obtain ⟨n, hn⟩ := eX m.now.length
 have hnk : n ≤ 1000 := by have := hf.now; omega
 have HN := h_ hn
 obtain ⟨na, hna⟩ := eX R.na
 have HNA := h_ hna
 obtain ⟨fa, hfa⟩ := eX R.fa
 obtain ⟨fc, hfc⟩ := eX R.fc
 obtain ⟨nc, hnc⟩ := eX R.nc
 obtain ⟨sa, hsa⟩ := eX R.sa
 obtain ⟨sc, hsc⟩ := eX R.sc
 obtain ⟨ta, hta⟩ := eX R.ta
 obtain ⟨tc, htc⟩ := eX R.tc
 obtain ⟨ns, hns⟩ := eX m.sure.length
 obtain ⟨nt, hnt⟩ := eX m.turns.length
 obtain ⟨mo, hmo⟩ := eX m.most
 obtain ⟨fu, hfu⟩ := eX m.fuse
 have hdn := HD.out
 have hval : R.val m = .agg #[.slice fa nf fc, .slice na n nc, .slice sa ns sc, .slice ta nt tc, .int .i64 (mo : Int), .int .i64 (fu : Int), .bool false] := by
  unfold RA.val RA.row
  rw [hn, hnf, hfa, hna, hsa, hta, hfc, hnc, hsc, htc, hns, hnt, hmo, hfu, hdn]
 have HVAL := h_ hval
 rw [hval]
 obtain ⟨W1, hW1⟩ := eX (w.alloc (.cells #[.slice fa nf fc, .slice na n nc, .slice sa ns sc, .slice ta nt tc, .int .i64 (mo : Int), .int .i64 (fu : Int), .bool false] 53))
 obtain ⟨r1, b1, s1⟩ := new_row hW1
 obtain ⟨W2, hW2⟩ := eX (W1.alloc (.cells #[.int .i64 2, .string S, .string Z, .slice Ab nb cb] 56))
 obtain ⟨r2, b2, s2⟩ := new_row hW2
 obtain ⟨g, hg⟩ := eX w.heap.size
 obtain ⟨g2, hg2⟩ := eX W1.heap.size
 replace r1 := (b2.block _ (by omega)).trans r1
 rw [hg] at r1
 rw [hg2] at r2
 obtain ⟨-, c1, -, -, -, -, c6⟩ := rw7 (h_ r1)
 obtain ⟨d0, d1, d2, d3⟩ := rw4 (h_ r2)
 have HR1 := h_ r1
 have HB2 : Hid (Below w.heap.size w W2) := h_ (b1.trans (b2.mono b1.size))
 have H2 : Hid (RIn F W2 R m) := h_ (H.out.below HB2.out)
 have HB3 : Hid (Below W2.heap.size W2 W2) := h_ (Below.refl _ _)
 have HFND := h_ (rfind_any na m.now n nc HN.out (by omega) S W2 (by have := H2.out.rn.1; rw [hna] at this; exact this))
 obtain ⟨q, hq⟩ := eX (findI m.now S.data.toList)
 rw [hq] at HFND
 have HQ := h_ hq
 have HNS := h_ (rnamed_any S W2)
 have HNZ := h_ (rnamed_any Z W2)
 clear h hf hn hnf hna hfa hfc hnc hsa hsc hta htc hns hnt hmo hfu hdn hval b1 s1 b2 s2 r1 r2 hq
 obtain rfl : q = (fi : Int) := by rw [← HQ.out]; exact findI_some HFI.out
 have j0 : (0 : Int) ≤ (fi : Int) := by omega
 have j00 : ¬ ((fi : Int) < 0) := by omega
 go_enter Tryz.func42, Tryz.ntmps42
 go_wp2_with fail
 try rw [hg, hg2]
 clear hg hg2 hW1 hW2
 refine HFND.out.mono ?_
 rintro e w2 ⟨rfl, rfl⟩
 go_wp2_with fail
 obtain ⟨ro, hro⟩ := eX (roomM m)
 have hroi : (ro : Int) < (nb : Int) := by have := HRO.out; omega
 have HRM := h_ (rroom_any R m w2.drew (H2.out.below (Below.refl _ _).drew) HF.out hK hL)
 rw [HVAL.out, hro] at HRM
 refine wp_region_sched (fun w' => w'.cell? ⟨g2, 0, none⟩ = some (.int .i64 2) ∧ w'.cell? ⟨g2, 3, none⟩ = some (.slice Ab nb cb) ∧ w'.rangeAt g 0 [.slice fa nf fc, .slice na n nc, .slice sa ns sc, .slice ta nt tc, .int .i64 (mo : Int), .int .i64 (fu : Int), .bool false]) [(true, 0), (true, 1), (true, 2), (true, 3), (true, 4), (true, 5), (true, 6), (true, 7), (false, 8), (true, 9), (true, 10)] (by kernel_rfl) (by kernel_rfl) rfl (by kernel_rfl) ⟨d0, d3, range_of_row (cs := [.slice fa nf fc, .slice na n nc, .slice sa ns sc, .slice ta nt tc, .int .i64 (mo : Int), .int .i64 (fu : Int), .bool false]) HR1.out⟩ ?_
 iterate 7 ((first | refine wpS_pass _ rfl (by rfl) ?_ | (refine wpS_take _ ?_ rfl (by rfl) ?_ ?_; rotate_left; (focus (intro w' hS'; (try dsimp only at hS'); (repeat (have hS1 := hS'.1; replace hS' := hS'.2)); go_simp; (try with_reducible rfl); done)))); simp only [LY])
 refine wpS_load _ rfl (by rfl) 53 _ rfl g 0 rfl [.slice fa nf fc, .slice na n nc, .slice sa ns sc, .slice ta nt tc, .int .i64 (mo : Int), .int .i64 (fu : Int), .bool false] _ (fun w' hS => hS.2.2) Tryz.underlying53 rfl info_dk7 ?_
 simp only [LY]
 refine wpS_do _ rfl (by rfl) (fun K hK => ?_)
 go_simp
 refine HRM.out.mono ?_
 rintro e w4 ⟨rfl, hb4⟩
 dsimp only
 have HB4 : Hid (Below w2.heap.size w2 w4) := h_ ⟨hb4.os, hb4.tape, hb4.output, hb4.size, hb4.block⟩
 refine hK.out _ _ ⟨cell_below d0 (World.block_lt_of_cell? w2 _ d0) HB4.out, cell_below d3 (World.block_lt_of_cell? w2 _ d3) HB4.out, range_of_row (cs := [.slice fa nf fc, .slice na n nc, .slice sa ns sc, .slice ta nt tc, .int .i64 (mo : Int), .int .i64 (fu : Int), .bool false]) ((HB4.out.block _ (b_ HR1)).trans HR1.out)⟩ (fun hS' => ?_)
 clear hS' hK hb4
 (repeat ((first | refine wpS_pass _ rfl (by rfl) ?_ | (refine wpS_take _ ?_ rfl (by rfl) ?_ ?_; rotate_left; (focus (intro w' hS'; (try dsimp only at hS'); (repeat (have hS1 := hS'.1; replace hS' := hS'.2)); go_simp; (try with_reducible rfl); done)))); simp only [LY]))
 refine wpS_done ?_
 go_wp2_with fail
 go_ret
 exact ⟨rfl, HB2.out.trans (HB4.out.mono HB2.out.size)⟩
set_option maxRecDepth 100000 in
set_option maxHeartbeats 4000000 in
theorem rw2O (hd : m.down = false) (fi : Nat) (hfi : findN m.now S.data.toList = some fi) (hro : ¬ roomM m < nb) : Calls Tryz.prog 42 #[R.val m, .agg #[.int .i64 2, .string S, .string Z, .slice Ab nb cb]] w fun e w' => e = .returned (.int .i64 0) ∧ Below w.heap.size w w' := by
 have HFI := h_ hfi
 clear hfi
 have HRO := h_ hro
 clear hro
 have HD := h_ hd
 clear hd
 have H := h_ h
 have HF := h_ hf
 obtain ⟨nf, hnf⟩ := eX m.files.length
 obtain ⟨n, hn⟩ := eX m.now.length
 have hnk : n ≤ 1000 := by have := hf.now; omega
 have HN := h_ hn
 obtain ⟨na, hna⟩ := eX R.na
 have HNA := h_ hna
 obtain ⟨fa, hfa⟩ := eX R.fa
 obtain ⟨fc, hfc⟩ := eX R.fc
 obtain ⟨nc, hnc⟩ := eX R.nc
 obtain ⟨sa, hsa⟩ := eX R.sa
 obtain ⟨sc, hsc⟩ := eX R.sc
 obtain ⟨ta, hta⟩ := eX R.ta
 obtain ⟨tc, htc⟩ := eX R.tc
 obtain ⟨ns, hns⟩ := eX m.sure.length
 obtain ⟨nt, hnt⟩ := eX m.turns.length
 obtain ⟨mo, hmo⟩ := eX m.most
 obtain ⟨fu, hfu⟩ := eX m.fuse
 have hdn := HD.out
 have hval : R.val m = .agg #[.slice fa nf fc, .slice na n nc, .slice sa ns sc, .slice ta nt tc, .int .i64 (mo : Int), .int .i64 (fu : Int), .bool false] := by
  unfold RA.val RA.row
  rw [hn, hnf, hfa, hna, hsa, hta, hfc, hnc, hsc, htc, hns, hnt, hmo, hfu, hdn]
 have HVAL := h_ hval
 rw [hval]
 obtain ⟨W1, hW1⟩ := eX (w.alloc (.cells #[.slice fa nf fc, .slice na n nc, .slice sa ns sc, .slice ta nt tc, .int .i64 (mo : Int), .int .i64 (fu : Int), .bool false] 53))
 obtain ⟨r1, b1, s1⟩ := new_row hW1
 obtain ⟨W2, hW2⟩ := eX (W1.alloc (.cells #[.int .i64 2, .string S, .string Z, .slice Ab nb cb] 56))
 obtain ⟨r2, b2, s2⟩ := new_row hW2
 obtain ⟨g, hg⟩ := eX w.heap.size
 obtain ⟨g2, hg2⟩ := eX W1.heap.size
 replace r1 := (b2.block _ (by omega)).trans r1
 rw [hg] at r1
 rw [hg2] at r2
 obtain ⟨-, c1, -, -, -, -, c6⟩ := rw7 (h_ r1)
 obtain ⟨d0, d1, d2, d3⟩ := rw4 (h_ r2)
 have HR1 := h_ r1
 have HB2 : Hid (Below w.heap.size w W2) := h_ (b1.trans (b2.mono b1.size))
 have H2 : Hid (RIn F W2 R m) := h_ (H.out.below HB2.out)
 have HB3 : Hid (Below W2.heap.size W2 W2) := h_ (Below.refl _ _)
 have HFND := h_ (rfind_any na m.now n nc HN.out (by omega) S W2 (by have := H2.out.rn.1; rw [hna] at this; exact this))
 obtain ⟨q, hq⟩ := eX (findI m.now S.data.toList)
 rw [hq] at HFND
 have HQ := h_ hq
 have HNS := h_ (rnamed_any S W2)
 have HNZ := h_ (rnamed_any Z W2)
 clear h hf hn hnf hna hfa hfc hnc hsa hsc hta htc hns hnt hmo hfu hdn hval b1 s1 b2 s2 r1 r2 hq
 obtain rfl : q = (fi : Int) := by rw [← HQ.out]; exact findI_some HFI.out
 have j0 : (0 : Int) ≤ (fi : Int) := by omega
 have j00 : ¬ ((fi : Int) < 0) := by omega
 go_enter Tryz.func42, Tryz.ntmps42
 go_wp2_with fail
 try rw [hg, hg2]
 clear hg hg2 hW1 hW2
 refine HFND.out.mono ?_
 rintro e w2 ⟨rfl, rfl⟩
 go_wp2_with fail
 obtain ⟨ro, hro⟩ := eX (roomM m)
 have hroi : ¬ ((ro : Int) < (nb : Int)) := by have := HRO.out; omega
 have HRM := h_ (rroom_any R m w2.drew (H2.out.below (Below.refl _ _).drew) HF.out hK hL)
 rw [HVAL.out, hro] at HRM
 refine wp_region_sched (fun w' => w'.cell? ⟨g2, 0, none⟩ = some (.int .i64 2) ∧ w'.cell? ⟨g2, 3, none⟩ = some (.slice Ab nb cb) ∧ w'.rangeAt g 0 [.slice fa nf fc, .slice na n nc, .slice sa ns sc, .slice ta nt tc, .int .i64 (mo : Int), .int .i64 (fu : Int), .bool false]) [(true, 0), (true, 1), (true, 2), (true, 3), (true, 4), (true, 5), (true, 6), (true, 7), (false, 8), (true, 9), (true, 10)] (by kernel_rfl) (by kernel_rfl) rfl (by kernel_rfl) ⟨d0, d3, range_of_row (cs := [.slice fa nf fc, .slice na n nc, .slice sa ns sc, .slice ta nt tc, .int .i64 (mo : Int), .int .i64 (fu : Int), .bool false]) HR1.out⟩ ?_
 iterate 7 ((first | refine wpS_pass _ rfl (by rfl) ?_ | (refine wpS_take _ ?_ rfl (by rfl) ?_ ?_; rotate_left; (focus (intro w' hS'; (try dsimp only at hS'); (repeat (have hS1 := hS'.1; replace hS' := hS'.2)); go_simp; (try with_reducible rfl); done)))); simp only [LY])
 refine wpS_load _ rfl (by rfl) 53 _ rfl g 0 rfl [.slice fa nf fc, .slice na n nc, .slice sa ns sc, .slice ta nt tc, .int .i64 (mo : Int), .int .i64 (fu : Int), .bool false] _ (fun w' hS => hS.2.2) Tryz.underlying53 rfl info_dk7 ?_
 simp only [LY]
 refine wpS_do _ rfl (by rfl) (fun K hK => ?_)
 go_simp
 refine HRM.out.mono ?_
 rintro e w4 ⟨rfl, hb4⟩
 dsimp only
 have HB4 : Hid (Below w2.heap.size w2 w4) := h_ ⟨hb4.os, hb4.tape, hb4.output, hb4.size, hb4.block⟩
 refine hK.out _ _ ⟨cell_below d0 (World.block_lt_of_cell? w2 _ d0) HB4.out, cell_below d3 (World.block_lt_of_cell? w2 _ d3) HB4.out, range_of_row (cs := [.slice fa nf fc, .slice na n nc, .slice sa ns sc, .slice ta nt tc, .int .i64 (mo : Int), .int .i64 (fu : Int), .bool false]) ((HB4.out.block _ (b_ HR1)).trans HR1.out)⟩ (fun hS' => ?_)
 clear hS' hK hb4
 (repeat ((first | refine wpS_pass _ rfl (by rfl) ?_ | (refine wpS_take _ ?_ rfl (by rfl) ?_ ?_; rotate_left; (focus (intro w' hS'; (try dsimp only at hS'); (repeat (have hS1 := hS'.1; replace hS' := hS'.2)); go_simp; (try with_reducible rfl); done)))); simp only [LY]))
 refine wpS_done ?_
 go_wp2_with fail
 go_ret
 exact ⟨rfl, HB2.out.trans (HB4.out.mono HB2.out.size)⟩
set_option maxRecDepth 100000 in
set_option maxHeartbeats 4000000 in
theorem rw3D (hd : m.down = true) : Calls Tryz.prog 42 #[R.val m, .agg #[.int .i64 3, .string S, .string Z, .slice Ab nb cb]] w fun e w' => e = .returned (.int .i64 50) ∧ Below w.heap.size w w' := by
 have HD := h_ hd
 clear hd
 have H := h_ h
 have HF := h_ hf
 obtain ⟨nf, hnf⟩ := eX m.files.length
 obtain ⟨n, hn⟩ := eX m.now.length
 have hnk : n ≤ 1000 := by have := hf.now; omega
 have HN := h_ hn
 obtain ⟨na, hna⟩ := eX R.na
 have HNA := h_ hna
 obtain ⟨fa, hfa⟩ := eX R.fa
 obtain ⟨fc, hfc⟩ := eX R.fc
 obtain ⟨nc, hnc⟩ := eX R.nc
 obtain ⟨sa, hsa⟩ := eX R.sa
 obtain ⟨sc, hsc⟩ := eX R.sc
 obtain ⟨ta, hta⟩ := eX R.ta
 obtain ⟨tc, htc⟩ := eX R.tc
 obtain ⟨ns, hns⟩ := eX m.sure.length
 obtain ⟨nt, hnt⟩ := eX m.turns.length
 obtain ⟨mo, hmo⟩ := eX m.most
 obtain ⟨fu, hfu⟩ := eX m.fuse
 have hdn := HD.out
 have hval : R.val m = .agg #[.slice fa nf fc, .slice na n nc, .slice sa ns sc, .slice ta nt tc, .int .i64 (mo : Int), .int .i64 (fu : Int), .bool true] := by
  unfold RA.val RA.row
  rw [hn, hnf, hfa, hna, hsa, hta, hfc, hnc, hsc, htc, hns, hnt, hmo, hfu, hdn]
 have HVAL := h_ hval
 rw [hval]
 obtain ⟨W1, hW1⟩ := eX (w.alloc (.cells #[.slice fa nf fc, .slice na n nc, .slice sa ns sc, .slice ta nt tc, .int .i64 (mo : Int), .int .i64 (fu : Int), .bool true] 53))
 obtain ⟨r1, b1, s1⟩ := new_row hW1
 obtain ⟨W2, hW2⟩ := eX (W1.alloc (.cells #[.int .i64 3, .string S, .string Z, .slice Ab nb cb] 56))
 obtain ⟨r2, b2, s2⟩ := new_row hW2
 obtain ⟨g, hg⟩ := eX w.heap.size
 obtain ⟨g2, hg2⟩ := eX W1.heap.size
 replace r1 := (b2.block _ (by omega)).trans r1
 rw [hg] at r1
 rw [hg2] at r2
 obtain ⟨-, c1, -, -, -, -, c6⟩ := rw7 (h_ r1)
 obtain ⟨d0, d1, d2, d3⟩ := rw4 (h_ r2)
 have HR1 := h_ r1
 have HB2 : Hid (Below w.heap.size w W2) := h_ (b1.trans (b2.mono b1.size))
 have H2 : Hid (RIn F W2 R m) := h_ (H.out.below HB2.out)
 have HB3 : Hid (Below W2.heap.size W2 W2) := h_ (Below.refl _ _)
 have HFND := h_ (rfind_any na m.now n nc HN.out (by omega) S W2 (by have := H2.out.rn.1; rw [hna] at this; exact this))
 obtain ⟨q, hq⟩ := eX (findI m.now S.data.toList)
 rw [hq] at HFND
 have HQ := h_ hq
 have HNS := h_ (rnamed_any S W2)
 have HNZ := h_ (rnamed_any Z W2)
 clear h hf hn hnf hna hfa hfc hnc hsa hsc hta htc hns hnt hmo hfu hdn hval b1 s1 b2 s2 r1 r2 hq
 go_enter Tryz.func42, Tryz.ntmps42
 go_wp2_with fail
 try rw [hg, hg2]
 clear hg hg2 hW1 hW2
 refine HFND.out.mono ?_
 rintro e w2 ⟨rfl, rfl⟩
 go_wp2_with fail
 go_ret
 exact ⟨rfl, HB2.out⟩
set_option maxRecDepth 100000 in
set_option maxHeartbeats 4000000 in
theorem rw3X (hd : m.down = false) (hfi : findN m.now S.data.toList = none) : Calls Tryz.prog 42 #[R.val m, .agg #[.int .i64 3, .string S, .string Z, .slice Ab nb cb]] w fun e w' => e = .returned (.int .i64 4) ∧ Below w.heap.size w w' := by
 have HFI := h_ hfi
 clear hfi
 have HD := h_ hd
 clear hd
 have H := h_ h
 have HF := h_ hf
 obtain ⟨nf, hnf⟩ := eX m.files.length
 obtain ⟨n, hn⟩ := eX m.now.length
 have hnk : n ≤ 1000 := by have := hf.now; omega
 have HN := h_ hn
 obtain ⟨na, hna⟩ := eX R.na
 have HNA := h_ hna
 obtain ⟨fa, hfa⟩ := eX R.fa
 obtain ⟨fc, hfc⟩ := eX R.fc
 obtain ⟨nc, hnc⟩ := eX R.nc
 obtain ⟨sa, hsa⟩ := eX R.sa
 obtain ⟨sc, hsc⟩ := eX R.sc
 obtain ⟨ta, hta⟩ := eX R.ta
 obtain ⟨tc, htc⟩ := eX R.tc
 obtain ⟨ns, hns⟩ := eX m.sure.length
 obtain ⟨nt, hnt⟩ := eX m.turns.length
 obtain ⟨mo, hmo⟩ := eX m.most
 obtain ⟨fu, hfu⟩ := eX m.fuse
 have hdn := HD.out
 have hval : R.val m = .agg #[.slice fa nf fc, .slice na n nc, .slice sa ns sc, .slice ta nt tc, .int .i64 (mo : Int), .int .i64 (fu : Int), .bool false] := by
  unfold RA.val RA.row
  rw [hn, hnf, hfa, hna, hsa, hta, hfc, hnc, hsc, htc, hns, hnt, hmo, hfu, hdn]
 have HVAL := h_ hval
 rw [hval]
 obtain ⟨W1, hW1⟩ := eX (w.alloc (.cells #[.slice fa nf fc, .slice na n nc, .slice sa ns sc, .slice ta nt tc, .int .i64 (mo : Int), .int .i64 (fu : Int), .bool false] 53))
 obtain ⟨r1, b1, s1⟩ := new_row hW1
 obtain ⟨W2, hW2⟩ := eX (W1.alloc (.cells #[.int .i64 3, .string S, .string Z, .slice Ab nb cb] 56))
 obtain ⟨r2, b2, s2⟩ := new_row hW2
 obtain ⟨g, hg⟩ := eX w.heap.size
 obtain ⟨g2, hg2⟩ := eX W1.heap.size
 replace r1 := (b2.block _ (by omega)).trans r1
 rw [hg] at r1
 rw [hg2] at r2
 obtain ⟨-, c1, -, -, -, -, c6⟩ := rw7 (h_ r1)
 obtain ⟨d0, d1, d2, d3⟩ := rw4 (h_ r2)
 have HR1 := h_ r1
 have HB2 : Hid (Below w.heap.size w W2) := h_ (b1.trans (b2.mono b1.size))
 have H2 : Hid (RIn F W2 R m) := h_ (H.out.below HB2.out)
 have HB3 : Hid (Below W2.heap.size W2 W2) := h_ (Below.refl _ _)
 have HFND := h_ (rfind_any na m.now n nc HN.out (by omega) S W2 (by have := H2.out.rn.1; rw [hna] at this; exact this))
 obtain ⟨q, hq⟩ := eX (findI m.now S.data.toList)
 rw [hq] at HFND
 have HQ := h_ hq
 have HNS := h_ (rnamed_any S W2)
 have HNZ := h_ (rnamed_any Z W2)
 clear h hf hn hnf hna hfa hfc hnc hsa hsc hta htc hns hnt hmo hfu hdn hval b1 s1 b2 s2 r1 r2 hq
 obtain rfl : q = -1 := by rw [← HQ.out]; exact findI_none HFI.out
 go_enter Tryz.func42, Tryz.ntmps42
 go_wp2_with fail
 try rw [hg, hg2]
 clear hg hg2 hW1 hW2
 refine HFND.out.mono ?_
 rintro e w2 ⟨rfl, rfl⟩
 go_wp2_with fail
 go_ret
 exact ⟨rfl, HB2.out⟩
set_option maxRecDepth 100000 in
set_option maxHeartbeats 4000000 in
theorem rw3O (hd : m.down = false) (fi : Nat) (hfi : findN m.now S.data.toList = some fi) : Calls Tryz.prog 42 #[R.val m, .agg #[.int .i64 3, .string S, .string Z, .slice Ab nb cb]] w fun e w' => e = .returned (.int .i64 0) ∧ Below w.heap.size w w' := by
 have HFI := h_ hfi
 clear hfi
 have HD := h_ hd
 clear hd
 have H := h_ h
 have HF := h_ hf
 obtain ⟨nf, hnf⟩ := eX m.files.length
 obtain ⟨n, hn⟩ := eX m.now.length
 have hnk : n ≤ 1000 := by have := hf.now; omega
 have HN := h_ hn
 obtain ⟨na, hna⟩ := eX R.na
 have HNA := h_ hna
 obtain ⟨fa, hfa⟩ := eX R.fa
 obtain ⟨fc, hfc⟩ := eX R.fc
 obtain ⟨nc, hnc⟩ := eX R.nc
 obtain ⟨sa, hsa⟩ := eX R.sa
 obtain ⟨sc, hsc⟩ := eX R.sc
 obtain ⟨ta, hta⟩ := eX R.ta
 obtain ⟨tc, htc⟩ := eX R.tc
 obtain ⟨ns, hns⟩ := eX m.sure.length
 obtain ⟨nt, hnt⟩ := eX m.turns.length
 obtain ⟨mo, hmo⟩ := eX m.most
 obtain ⟨fu, hfu⟩ := eX m.fuse
 have hdn := HD.out
 have hval : R.val m = .agg #[.slice fa nf fc, .slice na n nc, .slice sa ns sc, .slice ta nt tc, .int .i64 (mo : Int), .int .i64 (fu : Int), .bool false] := by
  unfold RA.val RA.row
  rw [hn, hnf, hfa, hna, hsa, hta, hfc, hnc, hsc, htc, hns, hnt, hmo, hfu, hdn]
 have HVAL := h_ hval
 rw [hval]
 obtain ⟨W1, hW1⟩ := eX (w.alloc (.cells #[.slice fa nf fc, .slice na n nc, .slice sa ns sc, .slice ta nt tc, .int .i64 (mo : Int), .int .i64 (fu : Int), .bool false] 53))
 obtain ⟨r1, b1, s1⟩ := new_row hW1
 obtain ⟨W2, hW2⟩ := eX (W1.alloc (.cells #[.int .i64 3, .string S, .string Z, .slice Ab nb cb] 56))
 obtain ⟨r2, b2, s2⟩ := new_row hW2
 obtain ⟨g, hg⟩ := eX w.heap.size
 obtain ⟨g2, hg2⟩ := eX W1.heap.size
 replace r1 := (b2.block _ (by omega)).trans r1
 rw [hg] at r1
 rw [hg2] at r2
 obtain ⟨-, c1, -, -, -, -, c6⟩ := rw7 (h_ r1)
 obtain ⟨d0, d1, d2, d3⟩ := rw4 (h_ r2)
 have HR1 := h_ r1
 have HB2 : Hid (Below w.heap.size w W2) := h_ (b1.trans (b2.mono b1.size))
 have H2 : Hid (RIn F W2 R m) := h_ (H.out.below HB2.out)
 have HB3 : Hid (Below W2.heap.size W2 W2) := h_ (Below.refl _ _)
 have HFND := h_ (rfind_any na m.now n nc HN.out (by omega) S W2 (by have := H2.out.rn.1; rw [hna] at this; exact this))
 obtain ⟨q, hq⟩ := eX (findI m.now S.data.toList)
 rw [hq] at HFND
 have HQ := h_ hq
 have HNS := h_ (rnamed_any S W2)
 have HNZ := h_ (rnamed_any Z W2)
 clear h hf hn hnf hna hfa hfc hnc hsa hsc hta htc hns hnt hmo hfu hdn hval b1 s1 b2 s2 r1 r2 hq
 obtain rfl : q = (fi : Int) := by rw [← HQ.out]; exact findI_some HFI.out
 have j0 : (0 : Int) ≤ (fi : Int) := by omega
 have j00 : ¬ ((fi : Int) < 0) := by omega
 go_enter Tryz.func42, Tryz.ntmps42
 go_wp2_with fail
 try rw [hg, hg2]
 clear hg hg2 hW1 hW2
 refine HFND.out.mono ?_
 rintro e w2 ⟨rfl, rfl⟩
 go_wp2_with fail
 go_quiet (fail)
 go_wp2_with fail
 go_ret
 exact ⟨rfl, below_drewN HB2.out _⟩
set_option maxRecDepth 100000 in
set_option maxHeartbeats 4000000 in
theorem rw4D (hd : m.down = true) : Calls Tryz.prog 42 #[R.val m, .agg #[.int .i64 4, .string S, .string Z, .slice Ab nb cb]] w fun e w' => e = .returned (.int .i64 50) ∧ Below w.heap.size w w' := by
 have HD := h_ hd
 clear hd
 have H := h_ h
 have HF := h_ hf
 obtain ⟨nf, hnf⟩ := eX m.files.length
 obtain ⟨n, hn⟩ := eX m.now.length
 have hnk : n ≤ 1000 := by have := hf.now; omega
 have HN := h_ hn
 obtain ⟨na, hna⟩ := eX R.na
 have HNA := h_ hna
 obtain ⟨fa, hfa⟩ := eX R.fa
 obtain ⟨fc, hfc⟩ := eX R.fc
 obtain ⟨nc, hnc⟩ := eX R.nc
 obtain ⟨sa, hsa⟩ := eX R.sa
 obtain ⟨sc, hsc⟩ := eX R.sc
 obtain ⟨ta, hta⟩ := eX R.ta
 obtain ⟨tc, htc⟩ := eX R.tc
 obtain ⟨ns, hns⟩ := eX m.sure.length
 obtain ⟨nt, hnt⟩ := eX m.turns.length
 obtain ⟨mo, hmo⟩ := eX m.most
 obtain ⟨fu, hfu⟩ := eX m.fuse
 have hdn := HD.out
 have hval : R.val m = .agg #[.slice fa nf fc, .slice na n nc, .slice sa ns sc, .slice ta nt tc, .int .i64 (mo : Int), .int .i64 (fu : Int), .bool true] := by
  unfold RA.val RA.row
  rw [hn, hnf, hfa, hna, hsa, hta, hfc, hnc, hsc, htc, hns, hnt, hmo, hfu, hdn]
 have HVAL := h_ hval
 rw [hval]
 obtain ⟨W1, hW1⟩ := eX (w.alloc (.cells #[.slice fa nf fc, .slice na n nc, .slice sa ns sc, .slice ta nt tc, .int .i64 (mo : Int), .int .i64 (fu : Int), .bool true] 53))
 obtain ⟨r1, b1, s1⟩ := new_row hW1
 obtain ⟨W2, hW2⟩ := eX (W1.alloc (.cells #[.int .i64 4, .string S, .string Z, .slice Ab nb cb] 56))
 obtain ⟨r2, b2, s2⟩ := new_row hW2
 obtain ⟨g, hg⟩ := eX w.heap.size
 obtain ⟨g2, hg2⟩ := eX W1.heap.size
 replace r1 := (b2.block _ (by omega)).trans r1
 rw [hg] at r1
 rw [hg2] at r2
 obtain ⟨-, c1, -, -, -, -, c6⟩ := rw7 (h_ r1)
 obtain ⟨d0, d1, d2, d3⟩ := rw4 (h_ r2)
 have HR1 := h_ r1
 have HB2 : Hid (Below w.heap.size w W2) := h_ (b1.trans (b2.mono b1.size))
 have H2 : Hid (RIn F W2 R m) := h_ (H.out.below HB2.out)
 have HB3 : Hid (Below W2.heap.size W2 W2) := h_ (Below.refl _ _)
 have HFND := h_ (rfind_any na m.now n nc HN.out (by omega) S W2 (by have := H2.out.rn.1; rw [hna] at this; exact this))
 obtain ⟨q, hq⟩ := eX (findI m.now S.data.toList)
 rw [hq] at HFND
 have HQ := h_ hq
 have HNS := h_ (rnamed_any S W2)
 have HNZ := h_ (rnamed_any Z W2)
 clear h hf hn hnf hna hfa hfc hnc hsa hsc hta htc hns hnt hmo hfu hdn hval b1 s1 b2 s2 r1 r2 hq
 go_enter Tryz.func42, Tryz.ntmps42
 go_wp2_with fail
 try rw [hg, hg2]
 clear hg hg2 hW1 hW2
 refine HFND.out.mono ?_
 rintro e w2 ⟨rfl, rfl⟩
 go_wp2_with fail
 go_ret
 exact ⟨rfl, HB2.out⟩
set_option maxRecDepth 100000 in
set_option maxHeartbeats 4000000 in
theorem rw4N (hd : m.down = false) (hn1 : namedB Z.data.toList = false) : Calls Tryz.prog 42 #[R.val m, .agg #[.int .i64 4, .string S, .string Z, .slice Ab nb cb]] w fun e w' => e = .returned (.int .i64 1) ∧ Below w.heap.size w w' := by
 have HN1 := h_ hn1
 clear hn1
 have HD := h_ hd
 clear hd
 have H := h_ h
 have HF := h_ hf
 obtain ⟨nf, hnf⟩ := eX m.files.length
 obtain ⟨n, hn⟩ := eX m.now.length
 have hnk : n ≤ 1000 := by have := hf.now; omega
 have HN := h_ hn
 obtain ⟨na, hna⟩ := eX R.na
 have HNA := h_ hna
 obtain ⟨fa, hfa⟩ := eX R.fa
 obtain ⟨fc, hfc⟩ := eX R.fc
 obtain ⟨nc, hnc⟩ := eX R.nc
 obtain ⟨sa, hsa⟩ := eX R.sa
 obtain ⟨sc, hsc⟩ := eX R.sc
 obtain ⟨ta, hta⟩ := eX R.ta
 obtain ⟨tc, htc⟩ := eX R.tc
 obtain ⟨ns, hns⟩ := eX m.sure.length
 obtain ⟨nt, hnt⟩ := eX m.turns.length
 obtain ⟨mo, hmo⟩ := eX m.most
 obtain ⟨fu, hfu⟩ := eX m.fuse
 have hdn := HD.out
 have hval : R.val m = .agg #[.slice fa nf fc, .slice na n nc, .slice sa ns sc, .slice ta nt tc, .int .i64 (mo : Int), .int .i64 (fu : Int), .bool false] := by
  unfold RA.val RA.row
  rw [hn, hnf, hfa, hna, hsa, hta, hfc, hnc, hsc, htc, hns, hnt, hmo, hfu, hdn]
 have HVAL := h_ hval
 rw [hval]
 obtain ⟨W1, hW1⟩ := eX (w.alloc (.cells #[.slice fa nf fc, .slice na n nc, .slice sa ns sc, .slice ta nt tc, .int .i64 (mo : Int), .int .i64 (fu : Int), .bool false] 53))
 obtain ⟨r1, b1, s1⟩ := new_row hW1
 obtain ⟨W2, hW2⟩ := eX (W1.alloc (.cells #[.int .i64 4, .string S, .string Z, .slice Ab nb cb] 56))
 obtain ⟨r2, b2, s2⟩ := new_row hW2
 obtain ⟨g, hg⟩ := eX w.heap.size
 obtain ⟨g2, hg2⟩ := eX W1.heap.size
 replace r1 := (b2.block _ (by omega)).trans r1
 rw [hg] at r1
 rw [hg2] at r2
 obtain ⟨-, c1, -, -, -, -, c6⟩ := rw7 (h_ r1)
 obtain ⟨d0, d1, d2, d3⟩ := rw4 (h_ r2)
 have HR1 := h_ r1
 have HB2 : Hid (Below w.heap.size w W2) := h_ (b1.trans (b2.mono b1.size))
 have H2 : Hid (RIn F W2 R m) := h_ (H.out.below HB2.out)
 have HB3 : Hid (Below W2.heap.size W2 W2) := h_ (Below.refl _ _)
 have HFND := h_ (rfind_any na m.now n nc HN.out (by omega) S W2 (by have := H2.out.rn.1; rw [hna] at this; exact this))
 obtain ⟨q, hq⟩ := eX (findI m.now S.data.toList)
 rw [hq] at HFND
 have HQ := h_ hq
 have HNS := h_ (rnamed_any S W2)
 have HNZ := h_ (rnamed_any Z W2)
 clear h hf hn hnf hna hfa hfc hnc hsa hsc hta htc hns hnt hmo hfu hdn hval b1 s1 b2 s2 r1 r2 hq
 rw [HN1.out] at HNZ
 go_enter Tryz.func42, Tryz.ntmps42
 go_wp2_with fail
 try rw [hg, hg2]
 clear hg hg2 hW1 hW2
 refine HFND.out.mono ?_
 rintro e w2 ⟨rfl, rfl⟩
 go_wp2_with fail
 refine HNZ.out.mono ?_
 rintro e w3 ⟨rfl, rfl⟩
 go_wp2_with fail
 go_ret
 exact ⟨rfl, HB2.out⟩
set_option maxRecDepth 100000 in
set_option maxHeartbeats 4000000 in
theorem rw4X (hd : m.down = false) (hn1 : namedB Z.data.toList = true) (hfi : findN m.now S.data.toList = none) : Calls Tryz.prog 42 #[R.val m, .agg #[.int .i64 4, .string S, .string Z, .slice Ab nb cb]] w fun e w' => e = .returned (.int .i64 4) ∧ Below w.heap.size w w' := by
 have HN1 := h_ hn1
 clear hn1
 have HFI := h_ hfi
 clear hfi
 have HD := h_ hd
 clear hd
 have H := h_ h
 have HF := h_ hf
 obtain ⟨nf, hnf⟩ := eX m.files.length
 obtain ⟨n, hn⟩ := eX m.now.length
 have hnk : n ≤ 1000 := by have := hf.now; omega
 have HN := h_ hn
 obtain ⟨na, hna⟩ := eX R.na
 have HNA := h_ hna
 obtain ⟨fa, hfa⟩ := eX R.fa
 obtain ⟨fc, hfc⟩ := eX R.fc
 obtain ⟨nc, hnc⟩ := eX R.nc
 obtain ⟨sa, hsa⟩ := eX R.sa
 obtain ⟨sc, hsc⟩ := eX R.sc
 obtain ⟨ta, hta⟩ := eX R.ta
 obtain ⟨tc, htc⟩ := eX R.tc
 obtain ⟨ns, hns⟩ := eX m.sure.length
 obtain ⟨nt, hnt⟩ := eX m.turns.length
 obtain ⟨mo, hmo⟩ := eX m.most
 obtain ⟨fu, hfu⟩ := eX m.fuse
 have hdn := HD.out
 have hval : R.val m = .agg #[.slice fa nf fc, .slice na n nc, .slice sa ns sc, .slice ta nt tc, .int .i64 (mo : Int), .int .i64 (fu : Int), .bool false] := by
  unfold RA.val RA.row
  rw [hn, hnf, hfa, hna, hsa, hta, hfc, hnc, hsc, htc, hns, hnt, hmo, hfu, hdn]
 have HVAL := h_ hval
 rw [hval]
 obtain ⟨W1, hW1⟩ := eX (w.alloc (.cells #[.slice fa nf fc, .slice na n nc, .slice sa ns sc, .slice ta nt tc, .int .i64 (mo : Int), .int .i64 (fu : Int), .bool false] 53))
 obtain ⟨r1, b1, s1⟩ := new_row hW1
 obtain ⟨W2, hW2⟩ := eX (W1.alloc (.cells #[.int .i64 4, .string S, .string Z, .slice Ab nb cb] 56))
 obtain ⟨r2, b2, s2⟩ := new_row hW2
 obtain ⟨g, hg⟩ := eX w.heap.size
 obtain ⟨g2, hg2⟩ := eX W1.heap.size
 replace r1 := (b2.block _ (by omega)).trans r1
 rw [hg] at r1
 rw [hg2] at r2
 obtain ⟨-, c1, -, -, -, -, c6⟩ := rw7 (h_ r1)
 obtain ⟨d0, d1, d2, d3⟩ := rw4 (h_ r2)
 have HR1 := h_ r1
 have HB2 : Hid (Below w.heap.size w W2) := h_ (b1.trans (b2.mono b1.size))
 have H2 : Hid (RIn F W2 R m) := h_ (H.out.below HB2.out)
 have HB3 : Hid (Below W2.heap.size W2 W2) := h_ (Below.refl _ _)
 have HFND := h_ (rfind_any na m.now n nc HN.out (by omega) S W2 (by have := H2.out.rn.1; rw [hna] at this; exact this))
 obtain ⟨q, hq⟩ := eX (findI m.now S.data.toList)
 rw [hq] at HFND
 have HQ := h_ hq
 have HNS := h_ (rnamed_any S W2)
 have HNZ := h_ (rnamed_any Z W2)
 clear h hf hn hnf hna hfa hfc hnc hsa hsc hta htc hns hnt hmo hfu hdn hval b1 s1 b2 s2 r1 r2 hq
 rw [HN1.out] at HNZ
 obtain rfl : q = -1 := by rw [← HQ.out]; exact findI_none HFI.out
 go_enter Tryz.func42, Tryz.ntmps42
 go_wp2_with fail
 try rw [hg, hg2]
 clear hg hg2 hW1 hW2
 refine HFND.out.mono ?_
 rintro e w2 ⟨rfl, rfl⟩
 go_wp2_with fail
 refine HNZ.out.mono ?_
 rintro e w3 ⟨rfl, rfl⟩
 go_wp2_with fail
 go_ret
 exact ⟨rfl, HB2.out⟩
set_option maxRecDepth 100000 in
set_option maxHeartbeats 4000000 in
theorem rw4O (hd : m.down = false) (hn1 : namedB Z.data.toList = true) (fi : Nat) (hfi : findN m.now S.data.toList = some fi) : Calls Tryz.prog 42 #[R.val m, .agg #[.int .i64 4, .string S, .string Z, .slice Ab nb cb]] w fun e w' => e = .returned (.int .i64 0) ∧ Below w.heap.size w w' := by
 have HN1 := h_ hn1
 clear hn1
 have HFI := h_ hfi
 clear hfi
 have HD := h_ hd
 clear hd
 have H := h_ h
 have HF := h_ hf
 obtain ⟨nf, hnf⟩ := eX m.files.length
 obtain ⟨n, hn⟩ := eX m.now.length
 have hnk : n ≤ 1000 := by have := hf.now; omega
 have HN := h_ hn
 obtain ⟨na, hna⟩ := eX R.na
 have HNA := h_ hna
 obtain ⟨fa, hfa⟩ := eX R.fa
 obtain ⟨fc, hfc⟩ := eX R.fc
 obtain ⟨nc, hnc⟩ := eX R.nc
 obtain ⟨sa, hsa⟩ := eX R.sa
 obtain ⟨sc, hsc⟩ := eX R.sc
 obtain ⟨ta, hta⟩ := eX R.ta
 obtain ⟨tc, htc⟩ := eX R.tc
 obtain ⟨ns, hns⟩ := eX m.sure.length
 obtain ⟨nt, hnt⟩ := eX m.turns.length
 obtain ⟨mo, hmo⟩ := eX m.most
 obtain ⟨fu, hfu⟩ := eX m.fuse
 have hdn := HD.out
 have hval : R.val m = .agg #[.slice fa nf fc, .slice na n nc, .slice sa ns sc, .slice ta nt tc, .int .i64 (mo : Int), .int .i64 (fu : Int), .bool false] := by
  unfold RA.val RA.row
  rw [hn, hnf, hfa, hna, hsa, hta, hfc, hnc, hsc, htc, hns, hnt, hmo, hfu, hdn]
 have HVAL := h_ hval
 rw [hval]
 obtain ⟨W1, hW1⟩ := eX (w.alloc (.cells #[.slice fa nf fc, .slice na n nc, .slice sa ns sc, .slice ta nt tc, .int .i64 (mo : Int), .int .i64 (fu : Int), .bool false] 53))
 obtain ⟨r1, b1, s1⟩ := new_row hW1
 obtain ⟨W2, hW2⟩ := eX (W1.alloc (.cells #[.int .i64 4, .string S, .string Z, .slice Ab nb cb] 56))
 obtain ⟨r2, b2, s2⟩ := new_row hW2
 obtain ⟨g, hg⟩ := eX w.heap.size
 obtain ⟨g2, hg2⟩ := eX W1.heap.size
 replace r1 := (b2.block _ (by omega)).trans r1
 rw [hg] at r1
 rw [hg2] at r2
 obtain ⟨-, c1, -, -, -, -, c6⟩ := rw7 (h_ r1)
 obtain ⟨d0, d1, d2, d3⟩ := rw4 (h_ r2)
 have HR1 := h_ r1
 have HB2 : Hid (Below w.heap.size w W2) := h_ (b1.trans (b2.mono b1.size))
 have H2 : Hid (RIn F W2 R m) := h_ (H.out.below HB2.out)
 have HB3 : Hid (Below W2.heap.size W2 W2) := h_ (Below.refl _ _)
 have HFND := h_ (rfind_any na m.now n nc HN.out (by omega) S W2 (by have := H2.out.rn.1; rw [hna] at this; exact this))
 obtain ⟨q, hq⟩ := eX (findI m.now S.data.toList)
 rw [hq] at HFND
 have HQ := h_ hq
 have HNS := h_ (rnamed_any S W2)
 have HNZ := h_ (rnamed_any Z W2)
 clear h hf hn hnf hna hfa hfc hnc hsa hsc hta htc hns hnt hmo hfu hdn hval b1 s1 b2 s2 r1 r2 hq
 rw [HN1.out] at HNZ
 obtain rfl : q = (fi : Int) := by rw [← HQ.out]; exact findI_some HFI.out
 have j0 : (0 : Int) ≤ (fi : Int) := by omega
 have j00 : ¬ ((fi : Int) < 0) := by omega
 go_enter Tryz.func42, Tryz.ntmps42
 go_wp2_with fail
 try rw [hg, hg2]
 clear hg hg2 hW1 hW2
 refine HFND.out.mono ?_
 rintro e w2 ⟨rfl, rfl⟩
 go_wp2_with fail
 refine HNZ.out.mono ?_
 rintro e w3 ⟨rfl, rfl⟩
 go_wp2_with fail
 go_quiet (fail)
 go_wp2_with fail
 go_ret
 exact ⟨rfl, below_drewN HB2.out _⟩
set_option maxRecDepth 100000 in
set_option maxHeartbeats 4000000 in
theorem rw5D (hd : m.down = true) : Calls Tryz.prog 42 #[R.val m, .agg #[.int .i64 5, .string S, .string Z, .slice Ab nb cb]] w fun e w' => e = .returned (.int .i64 50) ∧ Below w.heap.size w w' := by
 have HD := h_ hd
 clear hd
 have H := h_ h
 have HF := h_ hf
 obtain ⟨nf, hnf⟩ := eX m.files.length
 obtain ⟨n, hn⟩ := eX m.now.length
 have hnk : n ≤ 1000 := by have := hf.now; omega
 have HN := h_ hn
 obtain ⟨na, hna⟩ := eX R.na
 have HNA := h_ hna
 obtain ⟨fa, hfa⟩ := eX R.fa
 obtain ⟨fc, hfc⟩ := eX R.fc
 obtain ⟨nc, hnc⟩ := eX R.nc
 obtain ⟨sa, hsa⟩ := eX R.sa
 obtain ⟨sc, hsc⟩ := eX R.sc
 obtain ⟨ta, hta⟩ := eX R.ta
 obtain ⟨tc, htc⟩ := eX R.tc
 obtain ⟨ns, hns⟩ := eX m.sure.length
 obtain ⟨nt, hnt⟩ := eX m.turns.length
 obtain ⟨mo, hmo⟩ := eX m.most
 obtain ⟨fu, hfu⟩ := eX m.fuse
 have hdn := HD.out
 have hval : R.val m = .agg #[.slice fa nf fc, .slice na n nc, .slice sa ns sc, .slice ta nt tc, .int .i64 (mo : Int), .int .i64 (fu : Int), .bool true] := by
  unfold RA.val RA.row
  rw [hn, hnf, hfa, hna, hsa, hta, hfc, hnc, hsc, htc, hns, hnt, hmo, hfu, hdn]
 have HVAL := h_ hval
 rw [hval]
 obtain ⟨W1, hW1⟩ := eX (w.alloc (.cells #[.slice fa nf fc, .slice na n nc, .slice sa ns sc, .slice ta nt tc, .int .i64 (mo : Int), .int .i64 (fu : Int), .bool true] 53))
 obtain ⟨r1, b1, s1⟩ := new_row hW1
 obtain ⟨W2, hW2⟩ := eX (W1.alloc (.cells #[.int .i64 5, .string S, .string Z, .slice Ab nb cb] 56))
 obtain ⟨r2, b2, s2⟩ := new_row hW2
 obtain ⟨g, hg⟩ := eX w.heap.size
 obtain ⟨g2, hg2⟩ := eX W1.heap.size
 replace r1 := (b2.block _ (by omega)).trans r1
 rw [hg] at r1
 rw [hg2] at r2
 obtain ⟨-, c1, -, -, -, -, c6⟩ := rw7 (h_ r1)
 obtain ⟨d0, d1, d2, d3⟩ := rw4 (h_ r2)
 have HR1 := h_ r1
 have HB2 : Hid (Below w.heap.size w W2) := h_ (b1.trans (b2.mono b1.size))
 have H2 : Hid (RIn F W2 R m) := h_ (H.out.below HB2.out)
 have HB3 : Hid (Below W2.heap.size W2 W2) := h_ (Below.refl _ _)
 have HFND := h_ (rfind_any na m.now n nc HN.out (by omega) S W2 (by have := H2.out.rn.1; rw [hna] at this; exact this))
 obtain ⟨q, hq⟩ := eX (findI m.now S.data.toList)
 rw [hq] at HFND
 have HQ := h_ hq
 have HNS := h_ (rnamed_any S W2)
 have HNZ := h_ (rnamed_any Z W2)
 clear h hf hn hnf hna hfa hfc hnc hsa hsc hta htc hns hnt hmo hfu hdn hval b1 s1 b2 s2 r1 r2 hq
 go_enter Tryz.func42, Tryz.ntmps42
 go_wp2_with fail
 try rw [hg, hg2]
 clear hg hg2 hW1 hW2
 refine HFND.out.mono ?_
 rintro e w2 ⟨rfl, rfl⟩
 go_wp2_with fail
 go_ret
 exact ⟨rfl, HB2.out⟩
set_option maxRecDepth 100000 in
set_option maxHeartbeats 4000000 in
theorem rw5X (hd : m.down = false) (hfi : findN m.now S.data.toList = none) : Calls Tryz.prog 42 #[R.val m, .agg #[.int .i64 5, .string S, .string Z, .slice Ab nb cb]] w fun e w' => e = .returned (.int .i64 4) ∧ Below w.heap.size w w' := by
 have HFI := h_ hfi
 clear hfi
 have HD := h_ hd
 clear hd
 have H := h_ h
 have HF := h_ hf
 obtain ⟨nf, hnf⟩ := eX m.files.length
 obtain ⟨n, hn⟩ := eX m.now.length
 have hnk : n ≤ 1000 := by have := hf.now; omega
 have HN := h_ hn
 obtain ⟨na, hna⟩ := eX R.na
 have HNA := h_ hna
 obtain ⟨fa, hfa⟩ := eX R.fa
 obtain ⟨fc, hfc⟩ := eX R.fc
 obtain ⟨nc, hnc⟩ := eX R.nc
 obtain ⟨sa, hsa⟩ := eX R.sa
 obtain ⟨sc, hsc⟩ := eX R.sc
 obtain ⟨ta, hta⟩ := eX R.ta
 obtain ⟨tc, htc⟩ := eX R.tc
 obtain ⟨ns, hns⟩ := eX m.sure.length
 obtain ⟨nt, hnt⟩ := eX m.turns.length
 obtain ⟨mo, hmo⟩ := eX m.most
 obtain ⟨fu, hfu⟩ := eX m.fuse
 have hdn := HD.out
 have hval : R.val m = .agg #[.slice fa nf fc, .slice na n nc, .slice sa ns sc, .slice ta nt tc, .int .i64 (mo : Int), .int .i64 (fu : Int), .bool false] := by
  unfold RA.val RA.row
  rw [hn, hnf, hfa, hna, hsa, hta, hfc, hnc, hsc, htc, hns, hnt, hmo, hfu, hdn]
 have HVAL := h_ hval
 rw [hval]
 obtain ⟨W1, hW1⟩ := eX (w.alloc (.cells #[.slice fa nf fc, .slice na n nc, .slice sa ns sc, .slice ta nt tc, .int .i64 (mo : Int), .int .i64 (fu : Int), .bool false] 53))
 obtain ⟨r1, b1, s1⟩ := new_row hW1
 obtain ⟨W2, hW2⟩ := eX (W1.alloc (.cells #[.int .i64 5, .string S, .string Z, .slice Ab nb cb] 56))
 obtain ⟨r2, b2, s2⟩ := new_row hW2
 obtain ⟨g, hg⟩ := eX w.heap.size
 obtain ⟨g2, hg2⟩ := eX W1.heap.size
 replace r1 := (b2.block _ (by omega)).trans r1
 rw [hg] at r1
 rw [hg2] at r2
 obtain ⟨-, c1, -, -, -, -, c6⟩ := rw7 (h_ r1)
 obtain ⟨d0, d1, d2, d3⟩ := rw4 (h_ r2)
 have HR1 := h_ r1
 have HB2 : Hid (Below w.heap.size w W2) := h_ (b1.trans (b2.mono b1.size))
 have H2 : Hid (RIn F W2 R m) := h_ (H.out.below HB2.out)
 have HB3 : Hid (Below W2.heap.size W2 W2) := h_ (Below.refl _ _)
 have HFND := h_ (rfind_any na m.now n nc HN.out (by omega) S W2 (by have := H2.out.rn.1; rw [hna] at this; exact this))
 obtain ⟨q, hq⟩ := eX (findI m.now S.data.toList)
 rw [hq] at HFND
 have HQ := h_ hq
 have HNS := h_ (rnamed_any S W2)
 have HNZ := h_ (rnamed_any Z W2)
 clear h hf hn hnf hna hfa hfc hnc hsa hsc hta htc hns hnt hmo hfu hdn hval b1 s1 b2 s2 r1 r2 hq
 obtain rfl : q = -1 := by rw [← HQ.out]; exact findI_none HFI.out
 go_enter Tryz.func42, Tryz.ntmps42
 go_wp2_with fail
 try rw [hg, hg2]
 clear hg hg2 hW1 hW2
 refine HFND.out.mono ?_
 rintro e w2 ⟨rfl, rfl⟩
 go_wp2_with fail
 go_ret
 exact ⟨rfl, HB2.out⟩
set_option maxRecDepth 100000 in
set_option maxHeartbeats 4000000 in
theorem rw5O (hd : m.down = false) (fi : Nat) (hfi : findN m.now S.data.toList = some fi) : Calls Tryz.prog 42 #[R.val m, .agg #[.int .i64 5, .string S, .string Z, .slice Ab nb cb]] w fun e w' => e = .returned (.int .i64 0) ∧ Below w.heap.size w w' := by
 have HFI := h_ hfi
 clear hfi
 have HD := h_ hd
 clear hd
 have H := h_ h
 have HF := h_ hf
 obtain ⟨nf, hnf⟩ := eX m.files.length
 obtain ⟨n, hn⟩ := eX m.now.length
 have hnk : n ≤ 1000 := by have := hf.now; omega
 have HN := h_ hn
 obtain ⟨na, hna⟩ := eX R.na
 have HNA := h_ hna
 obtain ⟨fa, hfa⟩ := eX R.fa
 obtain ⟨fc, hfc⟩ := eX R.fc
 obtain ⟨nc, hnc⟩ := eX R.nc
 obtain ⟨sa, hsa⟩ := eX R.sa
 obtain ⟨sc, hsc⟩ := eX R.sc
 obtain ⟨ta, hta⟩ := eX R.ta
 obtain ⟨tc, htc⟩ := eX R.tc
 obtain ⟨ns, hns⟩ := eX m.sure.length
 obtain ⟨nt, hnt⟩ := eX m.turns.length
 obtain ⟨mo, hmo⟩ := eX m.most
 obtain ⟨fu, hfu⟩ := eX m.fuse
 have hdn := HD.out
 have hval : R.val m = .agg #[.slice fa nf fc, .slice na n nc, .slice sa ns sc, .slice ta nt tc, .int .i64 (mo : Int), .int .i64 (fu : Int), .bool false] := by
  unfold RA.val RA.row
  rw [hn, hnf, hfa, hna, hsa, hta, hfc, hnc, hsc, htc, hns, hnt, hmo, hfu, hdn]
 have HVAL := h_ hval
 rw [hval]
 obtain ⟨W1, hW1⟩ := eX (w.alloc (.cells #[.slice fa nf fc, .slice na n nc, .slice sa ns sc, .slice ta nt tc, .int .i64 (mo : Int), .int .i64 (fu : Int), .bool false] 53))
 obtain ⟨r1, b1, s1⟩ := new_row hW1
 obtain ⟨W2, hW2⟩ := eX (W1.alloc (.cells #[.int .i64 5, .string S, .string Z, .slice Ab nb cb] 56))
 obtain ⟨r2, b2, s2⟩ := new_row hW2
 obtain ⟨g, hg⟩ := eX w.heap.size
 obtain ⟨g2, hg2⟩ := eX W1.heap.size
 replace r1 := (b2.block _ (by omega)).trans r1
 rw [hg] at r1
 rw [hg2] at r2
 obtain ⟨-, c1, -, -, -, -, c6⟩ := rw7 (h_ r1)
 obtain ⟨d0, d1, d2, d3⟩ := rw4 (h_ r2)
 have HR1 := h_ r1
 have HB2 : Hid (Below w.heap.size w W2) := h_ (b1.trans (b2.mono b1.size))
 have H2 : Hid (RIn F W2 R m) := h_ (H.out.below HB2.out)
 have HB3 : Hid (Below W2.heap.size W2 W2) := h_ (Below.refl _ _)
 have HFND := h_ (rfind_any na m.now n nc HN.out (by omega) S W2 (by have := H2.out.rn.1; rw [hna] at this; exact this))
 obtain ⟨q, hq⟩ := eX (findI m.now S.data.toList)
 rw [hq] at HFND
 have HQ := h_ hq
 have HNS := h_ (rnamed_any S W2)
 have HNZ := h_ (rnamed_any Z W2)
 clear h hf hn hnf hna hfa hfc hnc hsa hsc hta htc hns hnt hmo hfu hdn hval b1 s1 b2 s2 r1 r2 hq
 obtain rfl : q = (fi : Int) := by rw [← HQ.out]; exact findI_some HFI.out
 have j0 : (0 : Int) ≤ (fi : Int) := by omega
 have j00 : ¬ ((fi : Int) < 0) := by omega
 go_enter Tryz.func42, Tryz.ntmps42
 go_wp2_with fail
 try rw [hg, hg2]
 clear hg hg2 hW1 hW2
 refine HFND.out.mono ?_
 rintro e w2 ⟨rfl, rfl⟩
 go_wp2_with fail
 go_quiet (fail)
 go_wp2_with fail
 go_ret
 exact ⟨rfl, below_drewN HB2.out _⟩
set_option maxRecDepth 100000 in
set_option maxHeartbeats 4000000 in
theorem rw6D (hd : m.down = true) : Calls Tryz.prog 42 #[R.val m, .agg #[.int .i64 6, .string S, .string Z, .slice Ab nb cb]] w fun e w' => e = .returned (.int .i64 50) ∧ Below w.heap.size w w' := by
 have HD := h_ hd
 clear hd
 have H := h_ h
 have HF := h_ hf
 obtain ⟨nf, hnf⟩ := eX m.files.length
 obtain ⟨n, hn⟩ := eX m.now.length
 have hnk : n ≤ 1000 := by have := hf.now; omega
 have HN := h_ hn
 obtain ⟨na, hna⟩ := eX R.na
 have HNA := h_ hna
 obtain ⟨fa, hfa⟩ := eX R.fa
 obtain ⟨fc, hfc⟩ := eX R.fc
 obtain ⟨nc, hnc⟩ := eX R.nc
 obtain ⟨sa, hsa⟩ := eX R.sa
 obtain ⟨sc, hsc⟩ := eX R.sc
 obtain ⟨ta, hta⟩ := eX R.ta
 obtain ⟨tc, htc⟩ := eX R.tc
 obtain ⟨ns, hns⟩ := eX m.sure.length
 obtain ⟨nt, hnt⟩ := eX m.turns.length
 obtain ⟨mo, hmo⟩ := eX m.most
 obtain ⟨fu, hfu⟩ := eX m.fuse
 have hdn := HD.out
 have hval : R.val m = .agg #[.slice fa nf fc, .slice na n nc, .slice sa ns sc, .slice ta nt tc, .int .i64 (mo : Int), .int .i64 (fu : Int), .bool true] := by
  unfold RA.val RA.row
  rw [hn, hnf, hfa, hna, hsa, hta, hfc, hnc, hsc, htc, hns, hnt, hmo, hfu, hdn]
 have HVAL := h_ hval
 rw [hval]
 obtain ⟨W1, hW1⟩ := eX (w.alloc (.cells #[.slice fa nf fc, .slice na n nc, .slice sa ns sc, .slice ta nt tc, .int .i64 (mo : Int), .int .i64 (fu : Int), .bool true] 53))
 obtain ⟨r1, b1, s1⟩ := new_row hW1
 obtain ⟨W2, hW2⟩ := eX (W1.alloc (.cells #[.int .i64 6, .string S, .string Z, .slice Ab nb cb] 56))
 obtain ⟨r2, b2, s2⟩ := new_row hW2
 obtain ⟨g, hg⟩ := eX w.heap.size
 obtain ⟨g2, hg2⟩ := eX W1.heap.size
 replace r1 := (b2.block _ (by omega)).trans r1
 rw [hg] at r1
 rw [hg2] at r2
 obtain ⟨-, c1, -, -, -, -, c6⟩ := rw7 (h_ r1)
 obtain ⟨d0, d1, d2, d3⟩ := rw4 (h_ r2)
 have HR1 := h_ r1
 have HB2 : Hid (Below w.heap.size w W2) := h_ (b1.trans (b2.mono b1.size))
 have H2 : Hid (RIn F W2 R m) := h_ (H.out.below HB2.out)
 have HB3 : Hid (Below W2.heap.size W2 W2) := h_ (Below.refl _ _)
 have HFND := h_ (rfind_any na m.now n nc HN.out (by omega) S W2 (by have := H2.out.rn.1; rw [hna] at this; exact this))
 obtain ⟨q, hq⟩ := eX (findI m.now S.data.toList)
 rw [hq] at HFND
 have HQ := h_ hq
 have HNS := h_ (rnamed_any S W2)
 have HNZ := h_ (rnamed_any Z W2)
 clear h hf hn hnf hna hfa hfc hnc hsa hsc hta htc hns hnt hmo hfu hdn hval b1 s1 b2 s2 r1 r2 hq
 go_enter Tryz.func42, Tryz.ntmps42
 go_wp2_with fail
 try rw [hg, hg2]
 clear hg hg2 hW1 hW2
 refine HFND.out.mono ?_
 rintro e w2 ⟨rfl, rfl⟩
 go_wp2_with fail
 go_ret
 exact ⟨rfl, HB2.out⟩
set_option maxRecDepth 100000 in
set_option maxHeartbeats 4000000 in
theorem rw6O (hd : m.down = false) : Calls Tryz.prog 42 #[R.val m, .agg #[.int .i64 6, .string S, .string Z, .slice Ab nb cb]] w fun e w' => e = .returned (.int .i64 0) ∧ Below w.heap.size w w' := by
 have HD := h_ hd
 clear hd
 have H := h_ h
 have HF := h_ hf
 obtain ⟨nf, hnf⟩ := eX m.files.length
 obtain ⟨n, hn⟩ := eX m.now.length
 have hnk : n ≤ 1000 := by have := hf.now; omega
 have HN := h_ hn
 obtain ⟨na, hna⟩ := eX R.na
 have HNA := h_ hna
 obtain ⟨fa, hfa⟩ := eX R.fa
 obtain ⟨fc, hfc⟩ := eX R.fc
 obtain ⟨nc, hnc⟩ := eX R.nc
 obtain ⟨sa, hsa⟩ := eX R.sa
 obtain ⟨sc, hsc⟩ := eX R.sc
 obtain ⟨ta, hta⟩ := eX R.ta
 obtain ⟨tc, htc⟩ := eX R.tc
 obtain ⟨ns, hns⟩ := eX m.sure.length
 obtain ⟨nt, hnt⟩ := eX m.turns.length
 obtain ⟨mo, hmo⟩ := eX m.most
 obtain ⟨fu, hfu⟩ := eX m.fuse
 have hdn := HD.out
 have hval : R.val m = .agg #[.slice fa nf fc, .slice na n nc, .slice sa ns sc, .slice ta nt tc, .int .i64 (mo : Int), .int .i64 (fu : Int), .bool false] := by
  unfold RA.val RA.row
  rw [hn, hnf, hfa, hna, hsa, hta, hfc, hnc, hsc, htc, hns, hnt, hmo, hfu, hdn]
 have HVAL := h_ hval
 rw [hval]
 obtain ⟨W1, hW1⟩ := eX (w.alloc (.cells #[.slice fa nf fc, .slice na n nc, .slice sa ns sc, .slice ta nt tc, .int .i64 (mo : Int), .int .i64 (fu : Int), .bool false] 53))
 obtain ⟨r1, b1, s1⟩ := new_row hW1
 obtain ⟨W2, hW2⟩ := eX (W1.alloc (.cells #[.int .i64 6, .string S, .string Z, .slice Ab nb cb] 56))
 obtain ⟨r2, b2, s2⟩ := new_row hW2
 obtain ⟨g, hg⟩ := eX w.heap.size
 obtain ⟨g2, hg2⟩ := eX W1.heap.size
 replace r1 := (b2.block _ (by omega)).trans r1
 rw [hg] at r1
 rw [hg2] at r2
 obtain ⟨-, c1, -, -, -, -, c6⟩ := rw7 (h_ r1)
 obtain ⟨d0, d1, d2, d3⟩ := rw4 (h_ r2)
 have HR1 := h_ r1
 have HB2 : Hid (Below w.heap.size w W2) := h_ (b1.trans (b2.mono b1.size))
 have H2 : Hid (RIn F W2 R m) := h_ (H.out.below HB2.out)
 have HB3 : Hid (Below W2.heap.size W2 W2) := h_ (Below.refl _ _)
 have HFND := h_ (rfind_any na m.now n nc HN.out (by omega) S W2 (by have := H2.out.rn.1; rw [hna] at this; exact this))
 obtain ⟨q, hq⟩ := eX (findI m.now S.data.toList)
 rw [hq] at HFND
 have HQ := h_ hq
 have HNS := h_ (rnamed_any S W2)
 have HNZ := h_ (rnamed_any Z W2)
 clear h hf hn hnf hna hfa hfc hnc hsa hsc hta htc hns hnt hmo hfu hdn hval b1 s1 b2 s2 r1 r2 hq
 go_enter Tryz.func42, Tryz.ntmps42
 go_wp2_with fail
 try rw [hg, hg2]
 clear hg hg2 hW1 hW2
 refine HFND.out.mono ?_
 rintro e w2 ⟨rfl, rfl⟩
 go_wp2_with fail
 go_quiet (fail)
 go_wp2_with fail
 go_ret
 exact ⟨rfl, below_drewN HB2.out _⟩
end
theorem rwrong_any {K L : Nat} {F : Nat → Prop} (R : RA) (m : DM) (S Z : ByteArray) (Ab : Option Addr) (nb cb : Nat) (w : World) (h : RIn F w R m) (hf : Fit K L m) (hK : K ≤ 1000) (hL : L ≤ 1000000) (hnb : nb ≤ 1000000)
  (k : Nat) (hk : 1 ≤ k ∧ k ≤ 6) (e' : Int) (he : wrongM m (k : Int) S.data.toList Z.data.toList nb = e') :
  Calls Tryz.prog 42 #[R.val m, .agg #[.int .i64 (k : Int), .string S, .string Z, .slice Ab nb cb]] w fun e w' => e = .returned (.int .i64 e') ∧ Below w.heap.size w w' := by
 have hma : ¬ 4096 ≤ m.now.length := by have := hf.now; omega
 subst he
 unfold wrongM
 by_cases hd : m.down = true
 ·rw [if_pos hd]
  obtain rfl | rfl | rfl | rfl | rfl | rfl : k = 1 ∨ k = 2 ∨ k = 3 ∨ k = 4 ∨ k = 5 ∨ k = 6 := by omega
  ·exact rw1D R m S Z Ab nb cb w h hf hK hL hnb hd
  ·exact rw2D R m S Z Ab nb cb w h hf hK hL hnb hd
  ·exact rw3D R m S Z Ab nb cb w h hf hK hL hnb hd
  ·exact rw4D R m S Z Ab nb cb w h hf hK hL hnb hd
  ·exact rw5D R m S Z Ab nb cb w h hf hK hL hnb hd
  ·exact rw6D R m S Z Ab nb cb w h hf hK hL hnb hd
 rw [if_neg hd]
 have hd' : m.down = false := by simpa using hd
 rw [if_neg (by omega : ¬ ((k : Int) = 1 ∧ 4096 ≤ m.now.length))]
 obtain rfl | rfl | rfl | rfl | rfl | rfl : k = 1 ∨ k = 2 ∨ k = 3 ∨ k = 4 ∨ k = 5 ∨ k = 6 := by omega
 ·cases hn : namedB S.data.toList with
  | false =>
    rw [if_pos (.inl ⟨rfl, rfl⟩)]
    exact rw1N R m S Z Ab nb cb w h hf hK hL hnb hd' hn
  | true =>
    rw [if_neg (by simp)]
    cases hfi : findN m.now S.data.toList with
    | some f =>
      rw [if_pos ⟨rfl, by simp⟩]
      exact rw1T R m S Z Ab nb cb w h hf hK hL hnb hd' hn f hfi
    | none =>
      rw [if_neg (by simp), if_neg (by simp), if_neg (by simp)]
      exact rw1O R m S Z Ab nb cb w h hf hK hL hnb hd' hn hfi hma
 ·rw [if_neg (by simp), if_neg (by simp)]
  cases hfi : findN m.now S.data.toList with
  | none =>
    rw [if_pos (by simp)]
    exact rw2X R m S Z Ab nb cb w h hf hK hL hnb hd' hfi
  | some f =>
    rw [if_neg (by simp)]
    by_cases hro : roomM m < nb
    ·rw [if_pos ⟨rfl, hro⟩]
     exact rw2R R m S Z Ab nb cb w h hf hK hL hnb hd' f hfi hro
    ·rw [if_neg (by simp [hro])]
     exact rw2O R m S Z Ab nb cb w h hf hK hL hnb hd' f hfi hro
 ·rw [if_neg (by simp), if_neg (by simp)]
  cases hfi : findN m.now S.data.toList with
  | none =>
    rw [if_pos (by simp)]
    exact rw3X R m S Z Ab nb cb w h hf hK hL hnb hd' hfi
  | some f =>
    rw [if_neg (by simp), if_neg (by simp)]
    exact rw3O R m S Z Ab nb cb w h hf hK hL hnb hd' f hfi
 ·cases hn : namedB Z.data.toList with
  | false =>
    rw [if_pos (.inr ⟨rfl, rfl⟩)]
    exact rw4N R m S Z Ab nb cb w h hf hK hL hnb hd' hn
  | true =>
    rw [if_neg (by simp), if_neg (by simp)]
    cases hfi : findN m.now S.data.toList with
    | none =>
      rw [if_pos (by simp)]
      exact rw4X R m S Z Ab nb cb w h hf hK hL hnb hd' hn hfi
    | some f =>
      rw [if_neg (by simp), if_neg (by simp)]
      exact rw4O R m S Z Ab nb cb w h hf hK hL hnb hd' hn f hfi
 ·rw [if_neg (by simp), if_neg (by simp)]
  cases hfi : findN m.now S.data.toList with
  | none =>
    rw [if_pos (by simp)]
    exact rw5X R m S Z Ab nb cb w h hf hK hL hnb hd' hfi
  | some f =>
    rw [if_neg (by simp), if_neg (by simp)]
    exact rw5O R m S Z Ab nb cb w h hf hK hL hnb hd' f hfi
 ·rw [if_neg (by simp), if_neg (by simp), if_neg (by simp), if_neg (by simp)]
  exact rw6O R m S Z Ab nb cb w h hf hK hL hnb hd'
theorem put_row {w : World} {g : Nat} {old new : List Value} {t : TypeId} (h : w.heap[g]? = some (.cells old.toArray t (0, 0))) (hl : old.length = new.length) :
  ∃ W, w.setCells g 0 new.toArray.toList = W ∧ Hid (w.there g 0 new.toArray.size) ∧ Hid (W.heap[g]? = some (.cells new.toArray t (0, 0))) ∧ Hid (w.grownBy W (some g)) := by
 have hs : new.toArray.size = old.toArray.size := by simp [hl]
 exact ⟨_, rfl, h_ (by rw [hs]; exact there_of_row h), h_ (row_setAll h hl), h_ (setCells_grown _ _ _ _)⟩
def StopD (p : Prop) : Prop := p
theorem StopD.out {p : Prop} (h : StopD p) : p := h
theorem StopD.mk {p : Prop} (h : p) : StopD p := h
theorem row_other {w w' : World} {g k : Nat} {o : Option Obj} (h : w.heap[g]? = o) (hg : w.grownBy w' (some k)) (hne : g ≠ k) (hl : g < w.heap.size) : w'.heap[g]? = o := (hg.block g hl (by simpa using hne)).trans h
theorem ro_ {w w' : World} {g k : Nat} {c : Obj} (R : Hid (w.heap[g]? = some c)) (hg : Hid (w.grownBy w' (some k))) (hne : g ≠ k) : Hid (w'.heap[g]? = some c) := h_ (row_other R.out hg.out hne (b_ R))
noncomputable def doBlk (n : Nat) : Code := ((Tryz.f18.body.bind (findBlk n)).getD .skip)
set_option maxRecDepth 1000000 in
set_option maxHeartbeats 8000000 in
theorem cp_files {u0 u1 u3 u4 u5 u6 u7 u8 u11 u12 u13 u14 u15 u16 u17 u18 u19 u20 u21 u22 u23 u24 u25 u26 u27 u28 u29 u30 u31 u32 u33 u34 u35 u36 u37 u38 u39 u40 u41 u42 u43 u44 u45 u46 u47 u48 u49 u50 u51 u52 u53 u54 u55 u56 u57 u58 u59 u60 u61 u62 u63 u64 u65 u66 u67 u68 u69 u70 u71 u72 u73 u74 u75 u76 u77 u78 u79 u80 u81 u82 u83 u84 u85 u86 u87 u88 u89 u90 u91 u92 u93 u94 u95 u96 u97 u98 u99 u100 u101 u102 u103 u104 u105 u106 u107 u108 u109 u110 u111 u112 u113 u114 u115 u116 u117 u118 u119 u120 u121 u122 u123 u124 u125 u126 u127 u128 u129 u130 u131 u132 u133 u134 u135 u136 u137 u138 u139 u140 u141 u142 u143 u144 u145 u146 u147 u148 u149 u150 u151 u152 u153 u154 u155 u156 : Value} (g b0 n c : Nat) (A : Option Addr) (cs : Array Value) (xs : List (PV × Nat)) (wr w0 : World)
  (hg : wr.heap[g]? = some (.cells cs 53 (0, 0))) (hlt : g < w0.heap.size) (hc : cs[0]? = some (.slice A n c)) (hn : xs.length = n) (hnl : n ≤ 1000)
  (hr : ∀ W, Below w0.heap.size w0 W → Rd W A (xs.flatMap fileC)) (ho : LOut 105 2 fileC w0 wr (some ⟨b0, 0, none⟩) 0 0 []) (Q : Exit → Act → World → Prop)
  (hexit : ∀ (x10 x51 x52 x53 x54 x55 x56 x57 x58 x59 x60 x61 x62 x63 x64 x65 : Value) (A1 : Option Addr) (c1 : Nat) (wx : World), LOut 105 2 fileC w0 wx A1 n c1 xs → Q .normal ⟨#[u0, u1, .pointer (some ⟨g, 0, none⟩), u3, u4, u5, u6, u7, u8, (.slice A1 n c1), x10, u11, u12, u13, u14, u15, u16, u17, u18, u19, u20, u21, u22, u23, u24, u25, u26, u27, u28, u29, u30, u31, u32, u33, u34, u35, u36, u37, u38, u39, u40, u41, u42, u43, u44, u45, u46, u47, u48, u49, u50, x51, x52, x53, x54, x55, x56, x57, x58, x59, x60, x61, x62, x63, x64, x65, u66, u67, u68, u69, u70, u71, u72, u73, u74, u75, u76, u77, u78, u79, u80, u81, u82, u83, u84, u85, u86, u87, u88, u89, u90, u91, u92, u93, u94, u95, u96, u97, u98, u99, u100, u101, u102, u103, u104, u105, u106, u107, u108, u109, u110, u111, u112, u113, u114, u115, u116, u117, u118, u119, u120, u121, u122, u123, u124, u125, u126, u127, u128, u129, u130, u131, u132, u133, u134, u135, u136, u137, u138, u139, u140, u141, u142, u143, u144, u145, u146, u147, u148, u149, u150, u151, u152, u153, u154, u155, u156], []⟩ wx) :
  Code.wp Tryz.prog (doBlk 1) Q ⟨#[u0, u1, .pointer (some ⟨g, 0, none⟩), u3, u4, u5, u6, u7, u8, .slice (some ⟨b0, 0, none⟩) 0 0, .int .i64 0, u11, u12, u13, u14, u15, u16, u17, u18, u19, u20, u21, u22, u23, u24, u25, u26, u27, u28, u29, u30, u31, u32, u33, u34, u35, u36, u37, u38, u39, u40, u41, u42, u43, u44, u45, u46, u47, u48, u49, u50, u51, u52, u53, u54, u55, u56, u57, u58, u59, u60, u61, u62, u63, u64, u65, u66, u67, u68, u69, u70, u71, u72, u73, u74, u75, u76, u77, u78, u79, u80, u81, u82, u83, u84, u85, u86, u87, u88, u89, u90, u91, u92, u93, u94, u95, u96, u97, u98, u99, u100, u101, u102, u103, u104, u105, u106, u107, u108, u109, u110, u111, u112, u113, u114, u115, u116, u117, u118, u119, u120, u121, u122, u123, u124, u125, u126, u127, u128, u129, u130, u131, u132, u133, u134, u135, u136, u137, u138, u139, u140, u141, u142, u143, u144, u145, u146, u147, u148, u149, u150, u151, u152, u153, u154, u155, u156], []⟩ wr := by
 have HEX := h_ hexit
 clear hexit
 conv => arg 2; whnf
 have HG : Hid (∀ W, Below w0.heap.size w0 W → W.heap[g]? = some (.cells cs 53 (0, 0))) := h_ (fun W hb => (hb.block g hlt).trans ((ho.bel.block g hlt).symm.trans hg))
 have HR : Hid (∀ W, Below w0.heap.size w0 W → Rd W A (xs.flatMap fileC)) := h_ hr
 have HN := h_ hn
 have HC := h_ hc
 have HO0 := h_ ho
 clear hg hr hn hc ho hlt
 go_wp2_with fail
 go_loopg [9, 10] (n * 1) (fun gk_ ov iv wr => ∃ (k : Nat) (A1 : Option Addr) (c1 : Nat), k ≤ n ∧ gk_ = n - k ∧ ov = .slice A1 k c1 ∧ iv = .int .i64 (k : Int) ∧ Hid (LOut 105 2 fileC w0 wr A1 k c1 (xs.take k)))
 case atStart => exact ⟨0, _, 0, by omega, by omega, rfl, rfl, HO0⟩
 case round =>
 clear HO0
 obtain ⟨k, A1, c1, hk, rfl, rfl, rfl, HO⟩ := hrel
 have c0 : wr.cell? ⟨g, 0, none⟩ = some (.slice A n c) := (row_cell (HG.out _ HO.out.bel) 0).trans HC.out
 by_cases hlt : k < n
 ·have i1 : (k : Int) < (n : Int) := by omega
  have hkl : k < xs.length := by rw [HN.out]; exact hlt
  obtain ⟨x, hx⟩ := eX (xs[k])
  have HS : Hid (xs.take (k + 1) = xs.take k ++ [x]) := h_ (by rw [List.take_add_one, List.getElem?_eq_getElem hkl, hx]; rfl)
  have hrr := HR.out _ HO.out.bel
  obtain ⟨b, o, hA, _⟩ := hrr.all (by rw [show (xs.flatMap fileC).length = _ from filesC_len xs]; omega)
  rw [hA] at hrr
  have hrow := rd_flat (f := fileC) (m := 2) hrr (fun _ _ => rfl) k hkl
  rw [hx] at hrow
  have HA := h_ hA
  rw [hA] at c0
  obtain ⟨v, y, hv⟩ : ∃ v y, fileC x = [v, .int .i64 y] := ⟨_, _, rfl⟩
  have HV := h_ hv
  have HV1 : Hid (∀ t ∈ ([v, .int .i64 y] : List Value), t.oneCell' = true) := h_ (by rw [← hv]; exact fl_one x)
  rw [hv] at hrow
  have HRW := h_ hrow
  obtain ⟨W6, hW6⟩ := eX (wr.alloc (.cells #[v, .int .i64 y] 105))
  obtain ⟨r6, b6, s6⟩ := new_row hW6
  have HO6 := h_ (HO.out.below b6)
  have HR6 : Hid (Rd W6 (some ⟨wr.heap.size, 0, none⟩) [v, .int .i64 y]) := h_ (range_rd (range_of_row (cs := [v, .int .i64 y]) r6))
  clear r6 b6 s6 HO hkl hx hv hrow hA hrr
  go_wp2_with (first
   | ((with_reducible (refine wpList_load_cells 105 _ b (o + k * 2) ([v, .int .i64 y]) HRW.out Tryz.underlying105 rfl info_fl2 ?_ rfl ?_ ?_)); exact rfl; (exact rfl))
   | (at_builtin; refine wpList_append_rd _ rfl _ _ 49 rfl w0.heap.size 105 _ 2 32 Tryz.underlying49 info_flz rfl (by decide) (.slice A1 k c1) k _ rfl HO6.out.own _ 1 _ ([v, .int .i64 y]) rfl (rfl) HR6.out (HV1.out) (by unfold maxLen; omega) (by omega) HO6.out.bel.size ?_; intro v7 w7 ho7 hg7 hvb7; obtain ⟨A7, c7, e7, _⟩ := own_slice ho7; subst e7; have HO7 := h_ (HO6.out.grow (x := x) (by rw [HV.out]; exact ho7) hg7); clear ho7 hg7 hvb7))
  try rw [← HA.out]
  clear hW6
  go_roundg (n - (k + 1))
  case measure => omega
  case rel => exact ⟨k + 1, A7, c7, by omega, rfl, rfl, by first | rfl | exact congrArg (Value.int .i64) (by omega) | go_num, h_ (by rw [HS.out]; exact HO7.out)⟩
 ·obtain rfl : k = n := by omega
  have HF : Hid (xs.take k = xs) := h_ (List.take_of_length_le (by rw [HN.out]; exact Nat.le_refl _))
  rw [HF.out] at HO
  go_wp2_with fail
  exact HEX.out _ _ _ _ _ _ _ _ _ _ _ _ _ _ _ _ _ _ _ HO.out
set_option maxRecDepth 1000000 in
set_option maxHeartbeats 8000000 in
theorem cp_turns {u0 u1 u3 u4 u5 u6 u7 u8 u9 u10 u11 u12 u15 u16 u17 u18 u19 u20 u21 u22 u23 u24 u25 u26 u27 u28 u29 u30 u31 u32 u33 u34 u35 u36 u37 u38 u39 u40 u41 u42 u43 u44 u45 u46 u47 u48 u49 u50 u51 u52 u53 u54 u55 u56 u57 u58 u59 u60 u61 u62 u63 u64 u65 u66 u67 u68 u69 u70 u71 u72 u73 u74 u75 u76 u77 u78 u79 u80 u81 u82 u83 u84 u85 u86 u87 u88 u89 u90 u91 u92 u93 u94 u95 u96 u97 u98 u99 u100 u101 u102 u103 u104 u105 u106 u107 u108 u109 u110 u111 u112 u113 u114 u115 u116 u117 u118 u119 u120 u121 u122 u123 u124 u125 u126 u127 u128 u129 u130 u131 u132 u133 u134 u135 u136 u137 u138 u139 u140 u141 u142 u143 u144 u145 u146 u147 u148 u149 u150 u151 u152 u153 u154 u155 u156 : Value} (g b0 n c : Nat) (A : Option Addr) (cs : Array Value) (xs : List TM) (wr w0 : World)
  (hg : wr.heap[g]? = some (.cells cs 53 (0, 0))) (hlt : g < w0.heap.size) (hc : cs[3]? = some (.slice A n c)) (hn : xs.length = n) (hnl : n ≤ 1000)
  (hr : ∀ W, Below w0.heap.size w0 W → Rd W A (xs.flatMap turnR)) (ho : LOut 103 3 turnR w0 wr (some ⟨b0, 0, none⟩) 0 0 []) (Q : Exit → Act → World → Prop)
  (hexit : ∀ (x14 x131 x132 x133 x134 x135 x136 x137 x138 x139 x140 x141 x142 x143 x144 x145 : Value) (A1 : Option Addr) (c1 : Nat) (wx : World), LOut 103 3 turnR w0 wx A1 n c1 xs → Q .normal ⟨#[u0, u1, .pointer (some ⟨g, 0, none⟩), u3, u4, u5, u6, u7, u8, u9, u10, u11, u12, (.slice A1 n c1), x14, u15, u16, u17, u18, u19, u20, u21, u22, u23, u24, u25, u26, u27, u28, u29, u30, u31, u32, u33, u34, u35, u36, u37, u38, u39, u40, u41, u42, u43, u44, u45, u46, u47, u48, u49, u50, u51, u52, u53, u54, u55, u56, u57, u58, u59, u60, u61, u62, u63, u64, u65, u66, u67, u68, u69, u70, u71, u72, u73, u74, u75, u76, u77, u78, u79, u80, u81, u82, u83, u84, u85, u86, u87, u88, u89, u90, u91, u92, u93, u94, u95, u96, u97, u98, u99, u100, u101, u102, u103, u104, u105, u106, u107, u108, u109, u110, u111, u112, u113, u114, u115, u116, u117, u118, u119, u120, u121, u122, u123, u124, u125, u126, u127, u128, u129, u130, x131, x132, x133, x134, x135, x136, x137, x138, x139, x140, x141, x142, x143, x144, x145, u146, u147, u148, u149, u150, u151, u152, u153, u154, u155, u156], []⟩ wx) :
  Code.wp Tryz.prog (doBlk 3) Q ⟨#[u0, u1, .pointer (some ⟨g, 0, none⟩), u3, u4, u5, u6, u7, u8, u9, u10, u11, u12, .slice (some ⟨b0, 0, none⟩) 0 0, .int .i64 0, u15, u16, u17, u18, u19, u20, u21, u22, u23, u24, u25, u26, u27, u28, u29, u30, u31, u32, u33, u34, u35, u36, u37, u38, u39, u40, u41, u42, u43, u44, u45, u46, u47, u48, u49, u50, u51, u52, u53, u54, u55, u56, u57, u58, u59, u60, u61, u62, u63, u64, u65, u66, u67, u68, u69, u70, u71, u72, u73, u74, u75, u76, u77, u78, u79, u80, u81, u82, u83, u84, u85, u86, u87, u88, u89, u90, u91, u92, u93, u94, u95, u96, u97, u98, u99, u100, u101, u102, u103, u104, u105, u106, u107, u108, u109, u110, u111, u112, u113, u114, u115, u116, u117, u118, u119, u120, u121, u122, u123, u124, u125, u126, u127, u128, u129, u130, u131, u132, u133, u134, u135, u136, u137, u138, u139, u140, u141, u142, u143, u144, u145, u146, u147, u148, u149, u150, u151, u152, u153, u154, u155, u156], []⟩ wr := by
 have HEX := h_ hexit
 clear hexit
 conv => arg 2; whnf
 have HG : Hid (∀ W, Below w0.heap.size w0 W → W.heap[g]? = some (.cells cs 53 (0, 0))) := h_ (fun W hb => (hb.block g hlt).trans ((ho.bel.block g hlt).symm.trans hg))
 have HR : Hid (∀ W, Below w0.heap.size w0 W → Rd W A (xs.flatMap turnR)) := h_ hr
 have HN := h_ hn
 have HC := h_ hc
 have HO0 := h_ ho
 clear hg hr hn hc ho hlt
 go_wp2_with fail
 go_loopg [13, 14] (n * 1) (fun gk_ ov iv wr => ∃ (k : Nat) (A1 : Option Addr) (c1 : Nat), k ≤ n ∧ gk_ = n - k ∧ ov = .slice A1 k c1 ∧ iv = .int .i64 (k : Int) ∧ Hid (LOut 103 3 turnR w0 wr A1 k c1 (xs.take k)))
 case atStart => exact ⟨0, _, 0, by omega, by omega, rfl, rfl, HO0⟩
 case round =>
 clear HO0
 obtain ⟨k, A1, c1, hk, rfl, rfl, rfl, HO⟩ := hrel
 have c0 : wr.cell? ⟨g, 3, none⟩ = some (.slice A n c) := (row_cell (HG.out _ HO.out.bel) 3).trans HC.out
 by_cases hlt : k < n
 ·have i1 : (k : Int) < (n : Int) := by omega
  have hkl : k < xs.length := by rw [HN.out]; exact hlt
  obtain ⟨x, hx⟩ := eX (xs[k])
  have HS : Hid (xs.take (k + 1) = xs.take k ++ [x]) := h_ (by rw [List.take_add_one, List.getElem?_eq_getElem hkl, hx]; rfl)
  have hrr := HR.out _ HO.out.bel
  obtain ⟨b, o, hA, _⟩ := hrr.all (by rw [show (xs.flatMap turnR).length = _ from turnsR_len xs]; omega)
  rw [hA] at hrr
  have hrow := rd_flat (f := turnR) (m := 3) hrr (fun _ _ => rfl) k hkl
  rw [hx] at hrow
  have HA := h_ hA
  rw [hA] at c0
  obtain ⟨v, u, y, hv⟩ : ∃ v u y, turnR x = [v, u, .int .i64 y] := ⟨_, _, _, rfl⟩
  have HV := h_ hv
  have HV1 : Hid (∀ t ∈ ([v, u, .int .i64 y] : List Value), t.oneCell' = true) := h_ (by rw [← hv]; exact tn_one x)
  rw [hv] at hrow
  have HRW := h_ hrow
  obtain ⟨W6, hW6⟩ := eX (wr.alloc (.cells #[v, u, .int .i64 y] 103))
  obtain ⟨r6, b6, s6⟩ := new_row hW6
  have HO6 := h_ (HO.out.below b6)
  have HR6 : Hid (Rd W6 (some ⟨wr.heap.size, 0, none⟩) [v, u, .int .i64 y]) := h_ (range_rd (range_of_row (cs := [v, u, .int .i64 y]) r6))
  clear r6 b6 s6 HO hkl hx hv hrow hA hrr
  go_wp2_with (first
   | ((with_reducible (refine wpList_load_cells 103 _ b (o + k * 3) ([v, u, .int .i64 y]) HRW.out Tryz.underlying103 rfl info_tn3 ?_ rfl ?_ ?_)); exact rfl; (exact rfl))
   | (at_builtin; refine wpList_append_rd _ rfl _ _ 51 rfl w0.heap.size 103 _ 3 40 Tryz.underlying51 info_tnz rfl (by decide) (.slice A1 k c1) k _ rfl HO6.out.own _ 1 _ ([v, u, .int .i64 y]) rfl (rfl) HR6.out (HV1.out) (by unfold maxLen; omega) (by omega) HO6.out.bel.size ?_; intro v7 w7 ho7 hg7 hvb7; obtain ⟨A7, c7, e7, _⟩ := own_slice ho7; subst e7; have HO7 := h_ (HO6.out.grow (x := x) (by rw [HV.out]; exact ho7) hg7); clear ho7 hg7 hvb7))
  try rw [← HA.out]
  clear hW6
  go_roundg (n - (k + 1))
  case measure => omega
  case rel => exact ⟨k + 1, A7, c7, by omega, rfl, rfl, by first | rfl | exact congrArg (Value.int .i64) (by omega) | go_num, h_ (by rw [HS.out]; exact HO7.out)⟩
 ·obtain rfl : k = n := by omega
  have HF : Hid (xs.take k = xs) := h_ (List.take_of_length_le (by rw [HN.out]; exact Nat.le_refl _))
  rw [HF.out] at HO
  go_wp2_with fail
  exact HEX.out _ _ _ _ _ _ _ _ _ _ _ _ _ _ _ _ _ _ _ HO.out
end Go.Proofs.YtelbofikcpchiaaGreat
