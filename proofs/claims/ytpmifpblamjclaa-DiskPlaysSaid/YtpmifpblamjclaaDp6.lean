
/- The document's disk: what is wrong with a step. -/

import Derived.Test.YtpmifpblamjclaaDp5

namespace Go.Proofs.Ytpmifpblamjclaa

set_option linter.unusedVariables false

set_option linter.unusedSimpArgs false

set_option linter.unusedSectionVars false

open Go.RowKit

/-- the error's number of a step -/
def wrongM (m : DM) (k : Int) (a z : List UInt8) (bl : Nat) : Int :=
  if m.down = true then 50
  else if (k = 1 ∧ namedB a = false) ∨ (k = 4 ∧ namedB z = false) then 1
  else if k = 1 ∧ findN m.now a ≠ none then 5
  else if k = 1 ∧ 4096 ≤ m.now.length then 3
  else if 1 < k ∧ k < 6 ∧ findN m.now a = none then 4
  else if k = 2 ∧ roomM m < bl then 51
  else 0
section

variable {K L : Nat} {F : Nat → Prop} (R : RA) (m : DM) (S Z : ByteArray) (Ab : Option Addr) (nb cb : Nat) (w : World) (h : RIn F w R m) (hf : Fit K L m) (hK : K ≤ 1000) (hL : L ≤ 1000000) (hnb : nb ≤ 1000000)
include h hf hK hL hnb
set_option maxRecDepth 100000 in
set_option maxHeartbeats 4000000 in
theorem rw1D (hd : m.down = true) : Calls Try.prog 40 #[R.val m, .agg #[.int .i64 1, .string S, .string Z, .slice Ab nb cb]] w fun e w' => e = .returned (.int .i64 50) ∧ Below w.heap.size w w' := by
  have HD := Lib.hid hd
  clear hd
  have H := Lib.hid h
  have HF := Lib.hid hf
  obtain ⟨nf, hnf⟩ : ∃ n, m.files.length = n := ⟨_, rfl⟩
  obtain ⟨n, hn⟩ : ∃ n, m.now.length = n := ⟨_, rfl⟩
  have hnk : n ≤ 1000 := by have := hf.now; omega
  have HN := Lib.hid hn
  obtain ⟨na, hna⟩ : ∃ n, R.na = n := ⟨_, rfl⟩
  have HNA := Lib.hid hna
  obtain ⟨fa, hfa⟩ : ∃ n, R.fa = n := ⟨_, rfl⟩
  obtain ⟨fc, hfc⟩ : ∃ n, R.fc = n := ⟨_, rfl⟩
  obtain ⟨nc, hnc⟩ : ∃ n, R.nc = n := ⟨_, rfl⟩
  obtain ⟨sa, hsa⟩ : ∃ n, R.sa = n := ⟨_, rfl⟩
  obtain ⟨sc, hsc⟩ : ∃ n, R.sc = n := ⟨_, rfl⟩
  obtain ⟨ta, hta⟩ : ∃ n, R.ta = n := ⟨_, rfl⟩
  obtain ⟨tc, htc⟩ : ∃ n, R.tc = n := ⟨_, rfl⟩
  obtain ⟨ns, hns⟩ : ∃ n, m.sure.length = n := ⟨_, rfl⟩
  obtain ⟨nt, hnt⟩ : ∃ n, m.turns.length = n := ⟨_, rfl⟩
  obtain ⟨mo, hmo⟩ : ∃ n, m.most = n := ⟨_, rfl⟩
  obtain ⟨fu, hfu⟩ : ∃ n, m.fuse = n := ⟨_, rfl⟩
  have hdn := HD.out
  have hval : R.val m = .agg #[.slice fa nf fc, .slice na n nc, .slice sa ns sc, .slice ta nt tc, .int .i64 (mo : Int), .int .i64 (fu : Int), .bool true] := by
    unfold RA.val RA.row
    rw [hn, hnf, hfa, hna, hsa, hta, hfc, hnc, hsc, htc, hns, hnt, hmo, hfu, hdn]
  have HVAL := Lib.hid hval
  rw [hval]
  obtain ⟨W1, hW1⟩ : ∃ W, w.alloc (.cells #[.slice fa nf fc, .slice na n nc, .slice sa ns sc, .slice ta nt tc, .int .i64 (mo : Int), .int .i64 (fu : Int), .bool true] 50) = W := ⟨_, rfl⟩
  obtain ⟨r1, b1, s1⟩ := new_row hW1
  obtain ⟨W2, hW2⟩ : ∃ W, W1.alloc (.cells #[.int .i64 1, .string S, .string Z, .slice Ab nb cb] 58) = W := ⟨_, rfl⟩
  obtain ⟨r2, b2, s2⟩ := new_row hW2
  obtain ⟨g, hg⟩ : ∃ g, w.heap.size = g := ⟨_, rfl⟩
  obtain ⟨g2, hg2⟩ : ∃ g, W1.heap.size = g := ⟨_, rfl⟩
  replace r1 := (b2.block _ (by omega)).trans r1
  rw [hg] at r1
  rw [hg2] at r2
  have c1 : W2.cell? ⟨g, 1, none⟩ = some (.slice na n nc) := row_cell r1 1
  have c6 : W2.cell? ⟨g, 6, none⟩ = some (.bool true) := row_cell r1 6
  have d0 : W2.cell? ⟨g2, 0, none⟩ = some (.int .i64 1) := row_cell r2 0
  have d1 : W2.cell? ⟨g2, 1, none⟩ = some (.string S) := row_cell r2 1
  have d2 : W2.cell? ⟨g2, 2, none⟩ = some (.string Z) := row_cell r2 2
  have d3 : W2.cell? ⟨g2, 3, none⟩ = some (.slice Ab nb cb) := row_cell r2 3
  have HR1 := Lib.hid r1
  have HB2 : Hid (Below w.heap.size w W2) := Lib.hid (b1.trans (b2.mono b1.size))
  have H2 : Hid (RIn F W2 R m) := Lib.hid (H.out.below HB2.out)
  have HB3 : Hid (Below W2.heap.size W2 W2) := Lib.hid (Below.refl _ _)
  have HFND := Lib.hid (rfind_any na m.now n nc HN.out (by omega) S W2 (by have := H2.out.rn.1; rw [hna] at this; exact this))
  obtain ⟨q, hq⟩ : ∃ q, findI m.now S.data.toList = q := ⟨_, rfl⟩
  rw [hq] at HFND
  have HQ := Lib.hid hq
  have HNS := Lib.hid (rnamed_any S W2)
  have HNZ := Lib.hid (rnamed_any Z W2)
  clear h hf hn hnf hna hfa hfc hnc hsa hsc hta htc hns hnt hmo hfu hdn hval b1 s1 b2 s2 r1 r2 hq
  go_enter Try.func40, Try.ntmps40
  go_wp2_with fail
  try rw [hg, hg2]
  clear hg hg2 hW1 hW2
  refine HFND.out.mono ?_
  rintro e w2 ⟨rfl, rfl⟩
  go_wp2_with fail
  go_ret
  exact ⟨rfl, HB2.out⟩
set_option maxRecDepth 100000 in
set_option maxHeartbeats 4000000 in
theorem rw1N (hd : m.down = false) (hn1 : namedB S.data.toList = false) : Calls Try.prog 40 #[R.val m, .agg #[.int .i64 1, .string S, .string Z, .slice Ab nb cb]] w fun e w' => e = .returned (.int .i64 1) ∧ Below w.heap.size w w' := by
  have HN1 := Lib.hid hn1
  clear hn1
  have HD := Lib.hid hd
  clear hd
  have H := Lib.hid h
  have HF := Lib.hid hf
  obtain ⟨nf, hnf⟩ : ∃ n, m.files.length = n := ⟨_, rfl⟩
  obtain ⟨n, hn⟩ : ∃ n, m.now.length = n := ⟨_, rfl⟩
  have hnk : n ≤ 1000 := by have := hf.now; omega
  have HN := Lib.hid hn
  obtain ⟨na, hna⟩ : ∃ n, R.na = n := ⟨_, rfl⟩
  have HNA := Lib.hid hna
  obtain ⟨fa, hfa⟩ : ∃ n, R.fa = n := ⟨_, rfl⟩
  obtain ⟨fc, hfc⟩ : ∃ n, R.fc = n := ⟨_, rfl⟩
  obtain ⟨nc, hnc⟩ : ∃ n, R.nc = n := ⟨_, rfl⟩
  obtain ⟨sa, hsa⟩ : ∃ n, R.sa = n := ⟨_, rfl⟩
  obtain ⟨sc, hsc⟩ : ∃ n, R.sc = n := ⟨_, rfl⟩
  obtain ⟨ta, hta⟩ : ∃ n, R.ta = n := ⟨_, rfl⟩
  obtain ⟨tc, htc⟩ : ∃ n, R.tc = n := ⟨_, rfl⟩
  obtain ⟨ns, hns⟩ : ∃ n, m.sure.length = n := ⟨_, rfl⟩
  obtain ⟨nt, hnt⟩ : ∃ n, m.turns.length = n := ⟨_, rfl⟩
  obtain ⟨mo, hmo⟩ : ∃ n, m.most = n := ⟨_, rfl⟩
  obtain ⟨fu, hfu⟩ : ∃ n, m.fuse = n := ⟨_, rfl⟩
  have hdn := HD.out
  have hval : R.val m = .agg #[.slice fa nf fc, .slice na n nc, .slice sa ns sc, .slice ta nt tc, .int .i64 (mo : Int), .int .i64 (fu : Int), .bool false] := by
    unfold RA.val RA.row
    rw [hn, hnf, hfa, hna, hsa, hta, hfc, hnc, hsc, htc, hns, hnt, hmo, hfu, hdn]
  have HVAL := Lib.hid hval
  rw [hval]
  obtain ⟨W1, hW1⟩ : ∃ W, w.alloc (.cells #[.slice fa nf fc, .slice na n nc, .slice sa ns sc, .slice ta nt tc, .int .i64 (mo : Int), .int .i64 (fu : Int), .bool false] 50) = W := ⟨_, rfl⟩
  obtain ⟨r1, b1, s1⟩ := new_row hW1
  obtain ⟨W2, hW2⟩ : ∃ W, W1.alloc (.cells #[.int .i64 1, .string S, .string Z, .slice Ab nb cb] 58) = W := ⟨_, rfl⟩
  obtain ⟨r2, b2, s2⟩ := new_row hW2
  obtain ⟨g, hg⟩ : ∃ g, w.heap.size = g := ⟨_, rfl⟩
  obtain ⟨g2, hg2⟩ : ∃ g, W1.heap.size = g := ⟨_, rfl⟩
  replace r1 := (b2.block _ (by omega)).trans r1
  rw [hg] at r1
  rw [hg2] at r2
  have c1 : W2.cell? ⟨g, 1, none⟩ = some (.slice na n nc) := row_cell r1 1
  have c6 : W2.cell? ⟨g, 6, none⟩ = some (.bool false) := row_cell r1 6
  have d0 : W2.cell? ⟨g2, 0, none⟩ = some (.int .i64 1) := row_cell r2 0
  have d1 : W2.cell? ⟨g2, 1, none⟩ = some (.string S) := row_cell r2 1
  have d2 : W2.cell? ⟨g2, 2, none⟩ = some (.string Z) := row_cell r2 2
  have d3 : W2.cell? ⟨g2, 3, none⟩ = some (.slice Ab nb cb) := row_cell r2 3
  have HR1 := Lib.hid r1
  have HB2 : Hid (Below w.heap.size w W2) := Lib.hid (b1.trans (b2.mono b1.size))
  have H2 : Hid (RIn F W2 R m) := Lib.hid (H.out.below HB2.out)
  have HB3 : Hid (Below W2.heap.size W2 W2) := Lib.hid (Below.refl _ _)
  have HFND := Lib.hid (rfind_any na m.now n nc HN.out (by omega) S W2 (by have := H2.out.rn.1; rw [hna] at this; exact this))
  obtain ⟨q, hq⟩ : ∃ q, findI m.now S.data.toList = q := ⟨_, rfl⟩
  rw [hq] at HFND
  have HQ := Lib.hid hq
  have HNS := Lib.hid (rnamed_any S W2)
  have HNZ := Lib.hid (rnamed_any Z W2)
  clear h hf hn hnf hna hfa hfc hnc hsa hsc hta htc hns hnt hmo hfu hdn hval b1 s1 b2 s2 r1 r2 hq
  rw [HN1.out] at HNS
  go_enter Try.func40, Try.ntmps40
  go_wp2_with fail
  try rw [hg, hg2]
  clear hg hg2 hW1 hW2
  refine HFND.out.mono ?_
  rintro e w2 ⟨rfl, rfl⟩
  go_wp2_with fail
  refine HNS.out.mono ?_
  rintro e w3 ⟨rfl, rfl⟩
  go_wp2_with fail
  go_ret
  exact ⟨rfl, HB2.out⟩
set_option maxRecDepth 100000 in
set_option maxHeartbeats 4000000 in
theorem rw1T (hd : m.down = false) (hn1 : namedB S.data.toList = true) (fi : Nat) (hfi : findN m.now S.data.toList = some fi) : Calls Try.prog 40 #[R.val m, .agg #[.int .i64 1, .string S, .string Z, .slice Ab nb cb]] w fun e w' => e = .returned (.int .i64 5) ∧ Below w.heap.size w w' := by
  have HN1 := Lib.hid hn1
  clear hn1
  have HFI := Lib.hid hfi
  clear hfi
  have HD := Lib.hid hd
  clear hd
  have H := Lib.hid h
  have HF := Lib.hid hf
  obtain ⟨nf, hnf⟩ : ∃ n, m.files.length = n := ⟨_, rfl⟩
  obtain ⟨n, hn⟩ : ∃ n, m.now.length = n := ⟨_, rfl⟩
  have hnk : n ≤ 1000 := by have := hf.now; omega
  have HN := Lib.hid hn
  obtain ⟨na, hna⟩ : ∃ n, R.na = n := ⟨_, rfl⟩
  have HNA := Lib.hid hna
  obtain ⟨fa, hfa⟩ : ∃ n, R.fa = n := ⟨_, rfl⟩
  obtain ⟨fc, hfc⟩ : ∃ n, R.fc = n := ⟨_, rfl⟩
  obtain ⟨nc, hnc⟩ : ∃ n, R.nc = n := ⟨_, rfl⟩
  obtain ⟨sa, hsa⟩ : ∃ n, R.sa = n := ⟨_, rfl⟩
  obtain ⟨sc, hsc⟩ : ∃ n, R.sc = n := ⟨_, rfl⟩
  obtain ⟨ta, hta⟩ : ∃ n, R.ta = n := ⟨_, rfl⟩
  obtain ⟨tc, htc⟩ : ∃ n, R.tc = n := ⟨_, rfl⟩
  obtain ⟨ns, hns⟩ : ∃ n, m.sure.length = n := ⟨_, rfl⟩
  obtain ⟨nt, hnt⟩ : ∃ n, m.turns.length = n := ⟨_, rfl⟩
  obtain ⟨mo, hmo⟩ : ∃ n, m.most = n := ⟨_, rfl⟩
  obtain ⟨fu, hfu⟩ : ∃ n, m.fuse = n := ⟨_, rfl⟩
  have hdn := HD.out
  have hval : R.val m = .agg #[.slice fa nf fc, .slice na n nc, .slice sa ns sc, .slice ta nt tc, .int .i64 (mo : Int), .int .i64 (fu : Int), .bool false] := by
    unfold RA.val RA.row
    rw [hn, hnf, hfa, hna, hsa, hta, hfc, hnc, hsc, htc, hns, hnt, hmo, hfu, hdn]
  have HVAL := Lib.hid hval
  rw [hval]
  obtain ⟨W1, hW1⟩ : ∃ W, w.alloc (.cells #[.slice fa nf fc, .slice na n nc, .slice sa ns sc, .slice ta nt tc, .int .i64 (mo : Int), .int .i64 (fu : Int), .bool false] 50) = W := ⟨_, rfl⟩
  obtain ⟨r1, b1, s1⟩ := new_row hW1
  obtain ⟨W2, hW2⟩ : ∃ W, W1.alloc (.cells #[.int .i64 1, .string S, .string Z, .slice Ab nb cb] 58) = W := ⟨_, rfl⟩
  obtain ⟨r2, b2, s2⟩ := new_row hW2
  obtain ⟨g, hg⟩ : ∃ g, w.heap.size = g := ⟨_, rfl⟩
  obtain ⟨g2, hg2⟩ : ∃ g, W1.heap.size = g := ⟨_, rfl⟩
  replace r1 := (b2.block _ (by omega)).trans r1
  rw [hg] at r1
  rw [hg2] at r2
  have c1 : W2.cell? ⟨g, 1, none⟩ = some (.slice na n nc) := row_cell r1 1
  have c6 : W2.cell? ⟨g, 6, none⟩ = some (.bool false) := row_cell r1 6
  have d0 : W2.cell? ⟨g2, 0, none⟩ = some (.int .i64 1) := row_cell r2 0
  have d1 : W2.cell? ⟨g2, 1, none⟩ = some (.string S) := row_cell r2 1
  have d2 : W2.cell? ⟨g2, 2, none⟩ = some (.string Z) := row_cell r2 2
  have d3 : W2.cell? ⟨g2, 3, none⟩ = some (.slice Ab nb cb) := row_cell r2 3
  have HR1 := Lib.hid r1
  have HB2 : Hid (Below w.heap.size w W2) := Lib.hid (b1.trans (b2.mono b1.size))
  have H2 : Hid (RIn F W2 R m) := Lib.hid (H.out.below HB2.out)
  have HB3 : Hid (Below W2.heap.size W2 W2) := Lib.hid (Below.refl _ _)
  have HFND := Lib.hid (rfind_any na m.now n nc HN.out (by omega) S W2 (by have := H2.out.rn.1; rw [hna] at this; exact this))
  obtain ⟨q, hq⟩ : ∃ q, findI m.now S.data.toList = q := ⟨_, rfl⟩
  rw [hq] at HFND
  have HQ := Lib.hid hq
  have HNS := Lib.hid (rnamed_any S W2)
  have HNZ := Lib.hid (rnamed_any Z W2)
  clear h hf hn hnf hna hfa hfc hnc hsa hsc hta htc hns hnt hmo hfu hdn hval b1 s1 b2 s2 r1 r2 hq
  rw [HN1.out] at HNS
  obtain rfl : q = (fi : Int) := by rw [← HQ.out]; exact findI_some HFI.out
  have j0 : (0 : Int) ≤ (fi : Int) := by omega
  have j00 : ¬ ((fi : Int) < 0) := by omega
  go_enter Try.func40, Try.ntmps40
  go_wp2_with fail
  try rw [hg, hg2]
  clear hg hg2 hW1 hW2
  refine HFND.out.mono ?_
  rintro e w2 ⟨rfl, rfl⟩
  go_wp2_with fail
  refine HNS.out.mono ?_
  rintro e w3 ⟨rfl, rfl⟩
  go_wp2_with fail
  go_ret
  exact ⟨rfl, HB2.out⟩
set_option maxRecDepth 100000 in
set_option maxHeartbeats 4000000 in
theorem rw1O (hd : m.down = false) (hn1 : namedB S.data.toList = true) (hfi : findN m.now S.data.toList = none) (hma : ¬ 4096 ≤ m.now.length) : Calls Try.prog 40 #[R.val m, .agg #[.int .i64 1, .string S, .string Z, .slice Ab nb cb]] w fun e w' => e = .returned (.int .i64 0) ∧ Below w.heap.size w w' := by
  have HN1 := Lib.hid hn1
  clear hn1
  have HFI := Lib.hid hfi
  clear hfi
  have HMA := Lib.hid hma
  clear hma
  have HD := Lib.hid hd
  clear hd
  have H := Lib.hid h
  have HF := Lib.hid hf
  obtain ⟨nf, hnf⟩ : ∃ n, m.files.length = n := ⟨_, rfl⟩
  obtain ⟨n, hn⟩ : ∃ n, m.now.length = n := ⟨_, rfl⟩
  have hnk : n ≤ 1000 := by have := hf.now; omega
  have HN := Lib.hid hn
  obtain ⟨na, hna⟩ : ∃ n, R.na = n := ⟨_, rfl⟩
  have HNA := Lib.hid hna
  obtain ⟨fa, hfa⟩ : ∃ n, R.fa = n := ⟨_, rfl⟩
  obtain ⟨fc, hfc⟩ : ∃ n, R.fc = n := ⟨_, rfl⟩
  obtain ⟨nc, hnc⟩ : ∃ n, R.nc = n := ⟨_, rfl⟩
  obtain ⟨sa, hsa⟩ : ∃ n, R.sa = n := ⟨_, rfl⟩
  obtain ⟨sc, hsc⟩ : ∃ n, R.sc = n := ⟨_, rfl⟩
  obtain ⟨ta, hta⟩ : ∃ n, R.ta = n := ⟨_, rfl⟩
  obtain ⟨tc, htc⟩ : ∃ n, R.tc = n := ⟨_, rfl⟩
  obtain ⟨ns, hns⟩ : ∃ n, m.sure.length = n := ⟨_, rfl⟩
  obtain ⟨nt, hnt⟩ : ∃ n, m.turns.length = n := ⟨_, rfl⟩
  obtain ⟨mo, hmo⟩ : ∃ n, m.most = n := ⟨_, rfl⟩
  obtain ⟨fu, hfu⟩ : ∃ n, m.fuse = n := ⟨_, rfl⟩
  have hdn := HD.out
  have hval : R.val m = .agg #[.slice fa nf fc, .slice na n nc, .slice sa ns sc, .slice ta nt tc, .int .i64 (mo : Int), .int .i64 (fu : Int), .bool false] := by
    unfold RA.val RA.row
    rw [hn, hnf, hfa, hna, hsa, hta, hfc, hnc, hsc, htc, hns, hnt, hmo, hfu, hdn]
  have HVAL := Lib.hid hval
  rw [hval]
  obtain ⟨W1, hW1⟩ : ∃ W, w.alloc (.cells #[.slice fa nf fc, .slice na n nc, .slice sa ns sc, .slice ta nt tc, .int .i64 (mo : Int), .int .i64 (fu : Int), .bool false] 50) = W := ⟨_, rfl⟩
  obtain ⟨r1, b1, s1⟩ := new_row hW1
  obtain ⟨W2, hW2⟩ : ∃ W, W1.alloc (.cells #[.int .i64 1, .string S, .string Z, .slice Ab nb cb] 58) = W := ⟨_, rfl⟩
  obtain ⟨r2, b2, s2⟩ := new_row hW2
  obtain ⟨g, hg⟩ : ∃ g, w.heap.size = g := ⟨_, rfl⟩
  obtain ⟨g2, hg2⟩ : ∃ g, W1.heap.size = g := ⟨_, rfl⟩
  replace r1 := (b2.block _ (by omega)).trans r1
  rw [hg] at r1
  rw [hg2] at r2
  have c1 : W2.cell? ⟨g, 1, none⟩ = some (.slice na n nc) := row_cell r1 1
  have c6 : W2.cell? ⟨g, 6, none⟩ = some (.bool false) := row_cell r1 6
  have d0 : W2.cell? ⟨g2, 0, none⟩ = some (.int .i64 1) := row_cell r2 0
  have d1 : W2.cell? ⟨g2, 1, none⟩ = some (.string S) := row_cell r2 1
  have d2 : W2.cell? ⟨g2, 2, none⟩ = some (.string Z) := row_cell r2 2
  have d3 : W2.cell? ⟨g2, 3, none⟩ = some (.slice Ab nb cb) := row_cell r2 3
  have HR1 := Lib.hid r1
  have HB2 : Hid (Below w.heap.size w W2) := Lib.hid (b1.trans (b2.mono b1.size))
  have H2 : Hid (RIn F W2 R m) := Lib.hid (H.out.below HB2.out)
  have HB3 : Hid (Below W2.heap.size W2 W2) := Lib.hid (Below.refl _ _)
  have HFND := Lib.hid (rfind_any na m.now n nc HN.out (by omega) S W2 (by have := H2.out.rn.1; rw [hna] at this; exact this))
  obtain ⟨q, hq⟩ : ∃ q, findI m.now S.data.toList = q := ⟨_, rfl⟩
  rw [hq] at HFND
  have HQ := Lib.hid hq
  have HNS := Lib.hid (rnamed_any S W2)
  have HNZ := Lib.hid (rnamed_any Z W2)
  clear h hf hn hnf hna hfa hfc hnc hsa hsc hta htc hns hnt hmo hfu hdn hval b1 s1 b2 s2 r1 r2 hq
  rw [HN1.out] at HNS
  obtain rfl : q = -1 := by rw [← HQ.out]; exact findI_none HFI.out
  have j1 : ¬ ((4096 : Int) ≤ (n : Int)) := by have h1 := HMA.out; have h2 := HN.out; omega
  go_enter Try.func40, Try.ntmps40
  go_wp2_with fail
  try rw [hg, hg2]
  clear hg hg2 hW1 hW2
  refine HFND.out.mono ?_
  rintro e w2 ⟨rfl, rfl⟩
  go_wp2_with fail
  refine HNS.out.mono ?_
  rintro e w3 ⟨rfl, rfl⟩
  go_wp2_with fail
  go_quiet (fail)
  go_wp2_with fail
  go_ret
  exact ⟨rfl, below_drewN HB2.out _⟩
set_option maxRecDepth 100000 in
set_option maxHeartbeats 4000000 in
theorem rw2D (hd : m.down = true) : Calls Try.prog 40 #[R.val m, .agg #[.int .i64 2, .string S, .string Z, .slice Ab nb cb]] w fun e w' => e = .returned (.int .i64 50) ∧ Below w.heap.size w w' := by
  have HD := Lib.hid hd
  clear hd
  have H := Lib.hid h
  have HF := Lib.hid hf
  obtain ⟨nf, hnf⟩ : ∃ n, m.files.length = n := ⟨_, rfl⟩
  obtain ⟨n, hn⟩ : ∃ n, m.now.length = n := ⟨_, rfl⟩
  have hnk : n ≤ 1000 := by have := hf.now; omega
  have HN := Lib.hid hn
  obtain ⟨na, hna⟩ : ∃ n, R.na = n := ⟨_, rfl⟩
  have HNA := Lib.hid hna
  obtain ⟨fa, hfa⟩ : ∃ n, R.fa = n := ⟨_, rfl⟩
  obtain ⟨fc, hfc⟩ : ∃ n, R.fc = n := ⟨_, rfl⟩
  obtain ⟨nc, hnc⟩ : ∃ n, R.nc = n := ⟨_, rfl⟩
  obtain ⟨sa, hsa⟩ : ∃ n, R.sa = n := ⟨_, rfl⟩
  obtain ⟨sc, hsc⟩ : ∃ n, R.sc = n := ⟨_, rfl⟩
  obtain ⟨ta, hta⟩ : ∃ n, R.ta = n := ⟨_, rfl⟩
  obtain ⟨tc, htc⟩ : ∃ n, R.tc = n := ⟨_, rfl⟩
  obtain ⟨ns, hns⟩ : ∃ n, m.sure.length = n := ⟨_, rfl⟩
  obtain ⟨nt, hnt⟩ : ∃ n, m.turns.length = n := ⟨_, rfl⟩
  obtain ⟨mo, hmo⟩ : ∃ n, m.most = n := ⟨_, rfl⟩
  obtain ⟨fu, hfu⟩ : ∃ n, m.fuse = n := ⟨_, rfl⟩
  have hdn := HD.out
  have hval : R.val m = .agg #[.slice fa nf fc, .slice na n nc, .slice sa ns sc, .slice ta nt tc, .int .i64 (mo : Int), .int .i64 (fu : Int), .bool true] := by
    unfold RA.val RA.row
    rw [hn, hnf, hfa, hna, hsa, hta, hfc, hnc, hsc, htc, hns, hnt, hmo, hfu, hdn]
  have HVAL := Lib.hid hval
  rw [hval]
  obtain ⟨W1, hW1⟩ : ∃ W, w.alloc (.cells #[.slice fa nf fc, .slice na n nc, .slice sa ns sc, .slice ta nt tc, .int .i64 (mo : Int), .int .i64 (fu : Int), .bool true] 50) = W := ⟨_, rfl⟩
  obtain ⟨r1, b1, s1⟩ := new_row hW1
  obtain ⟨W2, hW2⟩ : ∃ W, W1.alloc (.cells #[.int .i64 2, .string S, .string Z, .slice Ab nb cb] 58) = W := ⟨_, rfl⟩
  obtain ⟨r2, b2, s2⟩ := new_row hW2
  obtain ⟨g, hg⟩ : ∃ g, w.heap.size = g := ⟨_, rfl⟩
  obtain ⟨g2, hg2⟩ : ∃ g, W1.heap.size = g := ⟨_, rfl⟩
  replace r1 := (b2.block _ (by omega)).trans r1
  rw [hg] at r1
  rw [hg2] at r2
  have c1 : W2.cell? ⟨g, 1, none⟩ = some (.slice na n nc) := row_cell r1 1
  have c6 : W2.cell? ⟨g, 6, none⟩ = some (.bool true) := row_cell r1 6
  have d0 : W2.cell? ⟨g2, 0, none⟩ = some (.int .i64 2) := row_cell r2 0
  have d1 : W2.cell? ⟨g2, 1, none⟩ = some (.string S) := row_cell r2 1
  have d2 : W2.cell? ⟨g2, 2, none⟩ = some (.string Z) := row_cell r2 2
  have d3 : W2.cell? ⟨g2, 3, none⟩ = some (.slice Ab nb cb) := row_cell r2 3
  have HR1 := Lib.hid r1
  have HB2 : Hid (Below w.heap.size w W2) := Lib.hid (b1.trans (b2.mono b1.size))
  have H2 : Hid (RIn F W2 R m) := Lib.hid (H.out.below HB2.out)
  have HB3 : Hid (Below W2.heap.size W2 W2) := Lib.hid (Below.refl _ _)
  have HFND := Lib.hid (rfind_any na m.now n nc HN.out (by omega) S W2 (by have := H2.out.rn.1; rw [hna] at this; exact this))
  obtain ⟨q, hq⟩ : ∃ q, findI m.now S.data.toList = q := ⟨_, rfl⟩
  rw [hq] at HFND
  have HQ := Lib.hid hq
  have HNS := Lib.hid (rnamed_any S W2)
  have HNZ := Lib.hid (rnamed_any Z W2)
  clear h hf hn hnf hna hfa hfc hnc hsa hsc hta htc hns hnt hmo hfu hdn hval b1 s1 b2 s2 r1 r2 hq
  go_enter Try.func40, Try.ntmps40
  go_wp2_with fail
  try rw [hg, hg2]
  clear hg hg2 hW1 hW2
  refine HFND.out.mono ?_
  rintro e w2 ⟨rfl, rfl⟩
  go_wp2_with fail
  go_ret
  exact ⟨rfl, HB2.out⟩
set_option maxRecDepth 100000 in
set_option maxHeartbeats 4000000 in
theorem rw2X (hd : m.down = false) (hfi : findN m.now S.data.toList = none) : Calls Try.prog 40 #[R.val m, .agg #[.int .i64 2, .string S, .string Z, .slice Ab nb cb]] w fun e w' => e = .returned (.int .i64 4) ∧ Below w.heap.size w w' := by
  have HFI := Lib.hid hfi
  clear hfi
  have HD := Lib.hid hd
  clear hd
  have H := Lib.hid h
  have HF := Lib.hid hf
  obtain ⟨nf, hnf⟩ : ∃ n, m.files.length = n := ⟨_, rfl⟩
  obtain ⟨n, hn⟩ : ∃ n, m.now.length = n := ⟨_, rfl⟩
  have hnk : n ≤ 1000 := by have := hf.now; omega
  have HN := Lib.hid hn
  obtain ⟨na, hna⟩ : ∃ n, R.na = n := ⟨_, rfl⟩
  have HNA := Lib.hid hna
  obtain ⟨fa, hfa⟩ : ∃ n, R.fa = n := ⟨_, rfl⟩
  obtain ⟨fc, hfc⟩ : ∃ n, R.fc = n := ⟨_, rfl⟩
  obtain ⟨nc, hnc⟩ : ∃ n, R.nc = n := ⟨_, rfl⟩
  obtain ⟨sa, hsa⟩ : ∃ n, R.sa = n := ⟨_, rfl⟩
  obtain ⟨sc, hsc⟩ : ∃ n, R.sc = n := ⟨_, rfl⟩
  obtain ⟨ta, hta⟩ : ∃ n, R.ta = n := ⟨_, rfl⟩
  obtain ⟨tc, htc⟩ : ∃ n, R.tc = n := ⟨_, rfl⟩
  obtain ⟨ns, hns⟩ : ∃ n, m.sure.length = n := ⟨_, rfl⟩
  obtain ⟨nt, hnt⟩ : ∃ n, m.turns.length = n := ⟨_, rfl⟩
  obtain ⟨mo, hmo⟩ : ∃ n, m.most = n := ⟨_, rfl⟩
  obtain ⟨fu, hfu⟩ : ∃ n, m.fuse = n := ⟨_, rfl⟩
  have hdn := HD.out
  have hval : R.val m = .agg #[.slice fa nf fc, .slice na n nc, .slice sa ns sc, .slice ta nt tc, .int .i64 (mo : Int), .int .i64 (fu : Int), .bool false] := by
    unfold RA.val RA.row
    rw [hn, hnf, hfa, hna, hsa, hta, hfc, hnc, hsc, htc, hns, hnt, hmo, hfu, hdn]
  have HVAL := Lib.hid hval
  rw [hval]
  obtain ⟨W1, hW1⟩ : ∃ W, w.alloc (.cells #[.slice fa nf fc, .slice na n nc, .slice sa ns sc, .slice ta nt tc, .int .i64 (mo : Int), .int .i64 (fu : Int), .bool false] 50) = W := ⟨_, rfl⟩
  obtain ⟨r1, b1, s1⟩ := new_row hW1
  obtain ⟨W2, hW2⟩ : ∃ W, W1.alloc (.cells #[.int .i64 2, .string S, .string Z, .slice Ab nb cb] 58) = W := ⟨_, rfl⟩
  obtain ⟨r2, b2, s2⟩ := new_row hW2
  obtain ⟨g, hg⟩ : ∃ g, w.heap.size = g := ⟨_, rfl⟩
  obtain ⟨g2, hg2⟩ : ∃ g, W1.heap.size = g := ⟨_, rfl⟩
  replace r1 := (b2.block _ (by omega)).trans r1
  rw [hg] at r1
  rw [hg2] at r2
  have c1 : W2.cell? ⟨g, 1, none⟩ = some (.slice na n nc) := row_cell r1 1
  have c6 : W2.cell? ⟨g, 6, none⟩ = some (.bool false) := row_cell r1 6
  have d0 : W2.cell? ⟨g2, 0, none⟩ = some (.int .i64 2) := row_cell r2 0
  have d1 : W2.cell? ⟨g2, 1, none⟩ = some (.string S) := row_cell r2 1
  have d2 : W2.cell? ⟨g2, 2, none⟩ = some (.string Z) := row_cell r2 2
  have d3 : W2.cell? ⟨g2, 3, none⟩ = some (.slice Ab nb cb) := row_cell r2 3
  have HR1 := Lib.hid r1
  have HB2 : Hid (Below w.heap.size w W2) := Lib.hid (b1.trans (b2.mono b1.size))
  have H2 : Hid (RIn F W2 R m) := Lib.hid (H.out.below HB2.out)
  have HB3 : Hid (Below W2.heap.size W2 W2) := Lib.hid (Below.refl _ _)
  have HFND := Lib.hid (rfind_any na m.now n nc HN.out (by omega) S W2 (by have := H2.out.rn.1; rw [hna] at this; exact this))
  obtain ⟨q, hq⟩ : ∃ q, findI m.now S.data.toList = q := ⟨_, rfl⟩
  rw [hq] at HFND
  have HQ := Lib.hid hq
  have HNS := Lib.hid (rnamed_any S W2)
  have HNZ := Lib.hid (rnamed_any Z W2)
  clear h hf hn hnf hna hfa hfc hnc hsa hsc hta htc hns hnt hmo hfu hdn hval b1 s1 b2 s2 r1 r2 hq
  obtain rfl : q = -1 := by rw [← HQ.out]; exact findI_none HFI.out
  go_enter Try.func40, Try.ntmps40
  go_wp2_with fail
  try rw [hg, hg2]
  clear hg hg2 hW1 hW2
  refine HFND.out.mono ?_
  rintro e w2 ⟨rfl, rfl⟩
  go_wp2_with fail
  go_ret
  exact ⟨rfl, HB2.out⟩
set_option maxRecDepth 100000 in
set_option maxHeartbeats 4000000 in
theorem rw2R (hd : m.down = false) (fi : Nat) (hfi : findN m.now S.data.toList = some fi) (hro : roomM m < nb) : Calls Try.prog 40 #[R.val m, .agg #[.int .i64 2, .string S, .string Z, .slice Ab nb cb]] w fun e w' => e = .returned (.int .i64 51) ∧ Below w.heap.size w w' := by
  have HFI := Lib.hid hfi
  clear hfi
  have HRO := Lib.hid hro
  clear hro
  have HD := Lib.hid hd
  clear hd
  have H := Lib.hid h
  have HF := Lib.hid hf
  obtain ⟨nf, hnf⟩ : ∃ n, m.files.length = n := ⟨_, rfl⟩
  obtain ⟨n, hn⟩ : ∃ n, m.now.length = n := ⟨_, rfl⟩
  have hnk : n ≤ 1000 := by have := hf.now; omega
  have HN := Lib.hid hn
  obtain ⟨na, hna⟩ : ∃ n, R.na = n := ⟨_, rfl⟩
  have HNA := Lib.hid hna
  obtain ⟨fa, hfa⟩ : ∃ n, R.fa = n := ⟨_, rfl⟩
  obtain ⟨fc, hfc⟩ : ∃ n, R.fc = n := ⟨_, rfl⟩
  obtain ⟨nc, hnc⟩ : ∃ n, R.nc = n := ⟨_, rfl⟩
  obtain ⟨sa, hsa⟩ : ∃ n, R.sa = n := ⟨_, rfl⟩
  obtain ⟨sc, hsc⟩ : ∃ n, R.sc = n := ⟨_, rfl⟩
  obtain ⟨ta, hta⟩ : ∃ n, R.ta = n := ⟨_, rfl⟩
  obtain ⟨tc, htc⟩ : ∃ n, R.tc = n := ⟨_, rfl⟩
  obtain ⟨ns, hns⟩ : ∃ n, m.sure.length = n := ⟨_, rfl⟩
  obtain ⟨nt, hnt⟩ : ∃ n, m.turns.length = n := ⟨_, rfl⟩
  obtain ⟨mo, hmo⟩ : ∃ n, m.most = n := ⟨_, rfl⟩
  obtain ⟨fu, hfu⟩ : ∃ n, m.fuse = n := ⟨_, rfl⟩
  have hdn := HD.out
  have hval : R.val m = .agg #[.slice fa nf fc, .slice na n nc, .slice sa ns sc, .slice ta nt tc, .int .i64 (mo : Int), .int .i64 (fu : Int), .bool false] := by
    unfold RA.val RA.row
    rw [hn, hnf, hfa, hna, hsa, hta, hfc, hnc, hsc, htc, hns, hnt, hmo, hfu, hdn]
  have HVAL := Lib.hid hval
  rw [hval]
  obtain ⟨W1, hW1⟩ : ∃ W, w.alloc (.cells #[.slice fa nf fc, .slice na n nc, .slice sa ns sc, .slice ta nt tc, .int .i64 (mo : Int), .int .i64 (fu : Int), .bool false] 50) = W := ⟨_, rfl⟩
  obtain ⟨r1, b1, s1⟩ := new_row hW1
  obtain ⟨W2, hW2⟩ : ∃ W, W1.alloc (.cells #[.int .i64 2, .string S, .string Z, .slice Ab nb cb] 58) = W := ⟨_, rfl⟩
  obtain ⟨r2, b2, s2⟩ := new_row hW2
  obtain ⟨g, hg⟩ : ∃ g, w.heap.size = g := ⟨_, rfl⟩
  obtain ⟨g2, hg2⟩ : ∃ g, W1.heap.size = g := ⟨_, rfl⟩
  replace r1 := (b2.block _ (by omega)).trans r1
  rw [hg] at r1
  rw [hg2] at r2
  have c1 : W2.cell? ⟨g, 1, none⟩ = some (.slice na n nc) := row_cell r1 1
  have c6 : W2.cell? ⟨g, 6, none⟩ = some (.bool false) := row_cell r1 6
  have d0 : W2.cell? ⟨g2, 0, none⟩ = some (.int .i64 2) := row_cell r2 0
  have d1 : W2.cell? ⟨g2, 1, none⟩ = some (.string S) := row_cell r2 1
  have d2 : W2.cell? ⟨g2, 2, none⟩ = some (.string Z) := row_cell r2 2
  have d3 : W2.cell? ⟨g2, 3, none⟩ = some (.slice Ab nb cb) := row_cell r2 3
  have HR1 := Lib.hid r1
  have HB2 : Hid (Below w.heap.size w W2) := Lib.hid (b1.trans (b2.mono b1.size))
  have H2 : Hid (RIn F W2 R m) := Lib.hid (H.out.below HB2.out)
  have HB3 : Hid (Below W2.heap.size W2 W2) := Lib.hid (Below.refl _ _)
  have HFND := Lib.hid (rfind_any na m.now n nc HN.out (by omega) S W2 (by have := H2.out.rn.1; rw [hna] at this; exact this))
  obtain ⟨q, hq⟩ : ∃ q, findI m.now S.data.toList = q := ⟨_, rfl⟩
  rw [hq] at HFND
  have HQ := Lib.hid hq
  have HNS := Lib.hid (rnamed_any S W2)
  have HNZ := Lib.hid (rnamed_any Z W2)
  clear h hf hn hnf hna hfa hfc hnc hsa hsc hta htc hns hnt hmo hfu hdn hval b1 s1 b2 s2 r1 r2 hq
  obtain rfl : q = (fi : Int) := by rw [← HQ.out]; exact findI_some HFI.out
  have j0 : (0 : Int) ≤ (fi : Int) := by omega
  have j00 : ¬ ((fi : Int) < 0) := by omega
  go_enter Try.func40, Try.ntmps40
  go_wp2_with fail
  try rw [hg, hg2]
  clear hg hg2 hW1 hW2
  refine HFND.out.mono ?_
  rintro e w2 ⟨rfl, rfl⟩
  go_wp2_with fail
  obtain ⟨ro, hro⟩ : ∃ r, roomM m = r := ⟨_, rfl⟩
  have hroi : (ro : Int) < (nb : Int) := by have := HRO.out; omega
  have HRM := Lib.hid (rroom_any R m w2.drew (H2.out.below (Below.refl _ _).drew) HF.out hK hL)
  rw [HVAL.out, hro] at HRM
  refine wp_region_sched (fun w' => w'.cell? ⟨g2, 0, none⟩ = some (.int .i64 2) ∧ w'.cell? ⟨g2, 3, none⟩ = some (.slice Ab nb cb) ∧ w'.rangeAt g 0 [.slice fa nf fc, .slice na n nc, .slice sa ns sc, .slice ta nt tc, .int .i64 (mo : Int), .int .i64 (fu : Int), .bool false]) [(true, 0), (true, 1), (true, 2), (true, 3), (true, 4), (true, 5), (true, 6), (true, 7), (false, 8), (true, 9), (true, 10)] (by kernel_rfl) (by kernel_rfl) rfl (by kernel_rfl) ⟨d0, d3, range_of_row (cs := [.slice fa nf fc, .slice na n nc, .slice sa ns sc, .slice ta nt tc, .int .i64 (mo : Int), .int .i64 (fu : Int), .bool false]) HR1.out⟩ ?_
  (first | (refine wpS_pass _ rfl (by rfl) ?_; simp only [Act.put, List.getElem_toArray, List.getElem_cons_zero, List.getElem_cons_succ, List.setIfInBounds_toArray, List.set_cons_zero, List.set_cons_succ]) | (refine wpS_take _ ?_ rfl (by rfl) ?_ ?_; rotate_left; (focus (intro w' hS'; (try dsimp only at hS'); (repeat (have hS1 := hS'.1; replace hS' := hS'.2)); go_simp; (try with_reducible rfl); done)); simp only [Act.put, List.getElem_toArray, List.getElem_cons_zero, List.getElem_cons_succ, List.setIfInBounds_toArray, List.set_cons_zero, List.set_cons_succ]))
  (first | (refine wpS_pass _ rfl (by rfl) ?_; simp only [Act.put, List.getElem_toArray, List.getElem_cons_zero, List.getElem_cons_succ, List.setIfInBounds_toArray, List.set_cons_zero, List.set_cons_succ]) | (refine wpS_take _ ?_ rfl (by rfl) ?_ ?_; rotate_left; (focus (intro w' hS'; (try dsimp only at hS'); (repeat (have hS1 := hS'.1; replace hS' := hS'.2)); go_simp; (try with_reducible rfl); done)); simp only [Act.put, List.getElem_toArray, List.getElem_cons_zero, List.getElem_cons_succ, List.setIfInBounds_toArray, List.set_cons_zero, List.set_cons_succ]))
  (first | (refine wpS_pass _ rfl (by rfl) ?_; simp only [Act.put, List.getElem_toArray, List.getElem_cons_zero, List.getElem_cons_succ, List.setIfInBounds_toArray, List.set_cons_zero, List.set_cons_succ]) | (refine wpS_take _ ?_ rfl (by rfl) ?_ ?_; rotate_left; (focus (intro w' hS'; (try dsimp only at hS'); (repeat (have hS1 := hS'.1; replace hS' := hS'.2)); go_simp; (try with_reducible rfl); done)); simp only [Act.put, List.getElem_toArray, List.getElem_cons_zero, List.getElem_cons_succ, List.setIfInBounds_toArray, List.set_cons_zero, List.set_cons_succ]))
  (first | (refine wpS_pass _ rfl (by rfl) ?_; simp only [Act.put, List.getElem_toArray, List.getElem_cons_zero, List.getElem_cons_succ, List.setIfInBounds_toArray, List.set_cons_zero, List.set_cons_succ]) | (refine wpS_take _ ?_ rfl (by rfl) ?_ ?_; rotate_left; (focus (intro w' hS'; (try dsimp only at hS'); (repeat (have hS1 := hS'.1; replace hS' := hS'.2)); go_simp; (try with_reducible rfl); done)); simp only [Act.put, List.getElem_toArray, List.getElem_cons_zero, List.getElem_cons_succ, List.setIfInBounds_toArray, List.set_cons_zero, List.set_cons_succ]))
  (first | (refine wpS_pass _ rfl (by rfl) ?_; simp only [Act.put, List.getElem_toArray, List.getElem_cons_zero, List.getElem_cons_succ, List.setIfInBounds_toArray, List.set_cons_zero, List.set_cons_succ]) | (refine wpS_take _ ?_ rfl (by rfl) ?_ ?_; rotate_left; (focus (intro w' hS'; (try dsimp only at hS'); (repeat (have hS1 := hS'.1; replace hS' := hS'.2)); go_simp; (try with_reducible rfl); done)); simp only [Act.put, List.getElem_toArray, List.getElem_cons_zero, List.getElem_cons_succ, List.setIfInBounds_toArray, List.set_cons_zero, List.set_cons_succ]))
  (first | (refine wpS_pass _ rfl (by rfl) ?_; simp only [Act.put, List.getElem_toArray, List.getElem_cons_zero, List.getElem_cons_succ, List.setIfInBounds_toArray, List.set_cons_zero, List.set_cons_succ]) | (refine wpS_take _ ?_ rfl (by rfl) ?_ ?_; rotate_left; (focus (intro w' hS'; (try dsimp only at hS'); (repeat (have hS1 := hS'.1; replace hS' := hS'.2)); go_simp; (try with_reducible rfl); done)); simp only [Act.put, List.getElem_toArray, List.getElem_cons_zero, List.getElem_cons_succ, List.setIfInBounds_toArray, List.set_cons_zero, List.set_cons_succ]))
  (first | (refine wpS_pass _ rfl (by rfl) ?_; simp only [Act.put, List.getElem_toArray, List.getElem_cons_zero, List.getElem_cons_succ, List.setIfInBounds_toArray, List.set_cons_zero, List.set_cons_succ]) | (refine wpS_take _ ?_ rfl (by rfl) ?_ ?_; rotate_left; (focus (intro w' hS'; (try dsimp only at hS'); (repeat (have hS1 := hS'.1; replace hS' := hS'.2)); go_simp; (try with_reducible rfl); done)); simp only [Act.put, List.getElem_toArray, List.getElem_cons_zero, List.getElem_cons_succ, List.setIfInBounds_toArray, List.set_cons_zero, List.set_cons_succ]))
  refine wpS_load _ rfl (by rfl) 50 _ rfl g 0 rfl [.slice fa nf fc, .slice na n nc, .slice sa ns sc, .slice ta nt tc, .int .i64 (mo : Int), .int .i64 (fu : Int), .bool false] _ (fun w' hS => hS.2.2) Try.underlying50 rfl info_dk7 ?_
  simp only [Act.put, List.getElem_toArray, List.getElem_cons_zero, List.getElem_cons_succ, List.setIfInBounds_toArray, List.set_cons_zero, List.set_cons_succ]
  refine wpS_do _ rfl (by rfl) (fun K hK => ?_)
  go_simp
  refine HRM.out.mono ?_
  rintro e w4 ⟨rfl, hb4⟩
  dsimp only
  have HB4 : Hid (Below w2.heap.size w2 w4) := Lib.hid ⟨hb4.os, hb4.tape, hb4.output, hb4.size, hb4.block⟩
  refine hK.out _ _ ⟨cell_below d0 (World.block_lt_of_cell? w2 _ d0) HB4.out, cell_below d3 (World.block_lt_of_cell? w2 _ d3) HB4.out, range_of_row (cs := [.slice fa nf fc, .slice na n nc, .slice sa ns sc, .slice ta nt tc, .int .i64 (mo : Int), .int .i64 (fu : Int), .bool false]) ((HB4.out.block _ (Array.getElem?_eq_some_iff.1 HR1.out).1).trans HR1.out)⟩ (fun hS' => ?_)
  clear hS' hK hb4
  (repeat (first | (refine wpS_pass _ rfl (by rfl) ?_; simp only [Act.put, List.getElem_toArray, List.getElem_cons_zero, List.getElem_cons_succ, List.setIfInBounds_toArray, List.set_cons_zero, List.set_cons_succ]) | (refine wpS_take _ ?_ rfl (by rfl) ?_ ?_; rotate_left; (focus (intro w' hS'; (try dsimp only at hS'); (repeat (have hS1 := hS'.1; replace hS' := hS'.2)); go_simp; (try with_reducible rfl); done)); simp only [Act.put, List.getElem_toArray, List.getElem_cons_zero, List.getElem_cons_succ, List.setIfInBounds_toArray, List.set_cons_zero, List.set_cons_succ])))
  refine wpS_done ?_
  go_wp2_with fail
  go_ret
  exact ⟨rfl, HB2.out.trans (HB4.out.mono HB2.out.size)⟩
set_option maxRecDepth 100000 in
set_option maxHeartbeats 4000000 in
theorem rw2O (hd : m.down = false) (fi : Nat) (hfi : findN m.now S.data.toList = some fi) (hro : ¬ roomM m < nb) : Calls Try.prog 40 #[R.val m, .agg #[.int .i64 2, .string S, .string Z, .slice Ab nb cb]] w fun e w' => e = .returned (.int .i64 0) ∧ Below w.heap.size w w' := by
  have HFI := Lib.hid hfi
  clear hfi
  have HRO := Lib.hid hro
  clear hro
  have HD := Lib.hid hd
  clear hd
  have H := Lib.hid h
  have HF := Lib.hid hf
  obtain ⟨nf, hnf⟩ : ∃ n, m.files.length = n := ⟨_, rfl⟩
  obtain ⟨n, hn⟩ : ∃ n, m.now.length = n := ⟨_, rfl⟩
  have hnk : n ≤ 1000 := by have := hf.now; omega
  have HN := Lib.hid hn
  obtain ⟨na, hna⟩ : ∃ n, R.na = n := ⟨_, rfl⟩
  have HNA := Lib.hid hna
  obtain ⟨fa, hfa⟩ : ∃ n, R.fa = n := ⟨_, rfl⟩
  obtain ⟨fc, hfc⟩ : ∃ n, R.fc = n := ⟨_, rfl⟩
  obtain ⟨nc, hnc⟩ : ∃ n, R.nc = n := ⟨_, rfl⟩
  obtain ⟨sa, hsa⟩ : ∃ n, R.sa = n := ⟨_, rfl⟩
  obtain ⟨sc, hsc⟩ : ∃ n, R.sc = n := ⟨_, rfl⟩
  obtain ⟨ta, hta⟩ : ∃ n, R.ta = n := ⟨_, rfl⟩
  obtain ⟨tc, htc⟩ : ∃ n, R.tc = n := ⟨_, rfl⟩
  obtain ⟨ns, hns⟩ : ∃ n, m.sure.length = n := ⟨_, rfl⟩
  obtain ⟨nt, hnt⟩ : ∃ n, m.turns.length = n := ⟨_, rfl⟩
  obtain ⟨mo, hmo⟩ : ∃ n, m.most = n := ⟨_, rfl⟩
  obtain ⟨fu, hfu⟩ : ∃ n, m.fuse = n := ⟨_, rfl⟩
  have hdn := HD.out
  have hval : R.val m = .agg #[.slice fa nf fc, .slice na n nc, .slice sa ns sc, .slice ta nt tc, .int .i64 (mo : Int), .int .i64 (fu : Int), .bool false] := by
    unfold RA.val RA.row
    rw [hn, hnf, hfa, hna, hsa, hta, hfc, hnc, hsc, htc, hns, hnt, hmo, hfu, hdn]
  have HVAL := Lib.hid hval
  rw [hval]
  obtain ⟨W1, hW1⟩ : ∃ W, w.alloc (.cells #[.slice fa nf fc, .slice na n nc, .slice sa ns sc, .slice ta nt tc, .int .i64 (mo : Int), .int .i64 (fu : Int), .bool false] 50) = W := ⟨_, rfl⟩
  obtain ⟨r1, b1, s1⟩ := new_row hW1
  obtain ⟨W2, hW2⟩ : ∃ W, W1.alloc (.cells #[.int .i64 2, .string S, .string Z, .slice Ab nb cb] 58) = W := ⟨_, rfl⟩
  obtain ⟨r2, b2, s2⟩ := new_row hW2
  obtain ⟨g, hg⟩ : ∃ g, w.heap.size = g := ⟨_, rfl⟩
  obtain ⟨g2, hg2⟩ : ∃ g, W1.heap.size = g := ⟨_, rfl⟩
  replace r1 := (b2.block _ (by omega)).trans r1
  rw [hg] at r1
  rw [hg2] at r2
  have c1 : W2.cell? ⟨g, 1, none⟩ = some (.slice na n nc) := row_cell r1 1
  have c6 : W2.cell? ⟨g, 6, none⟩ = some (.bool false) := row_cell r1 6
  have d0 : W2.cell? ⟨g2, 0, none⟩ = some (.int .i64 2) := row_cell r2 0
  have d1 : W2.cell? ⟨g2, 1, none⟩ = some (.string S) := row_cell r2 1
  have d2 : W2.cell? ⟨g2, 2, none⟩ = some (.string Z) := row_cell r2 2
  have d3 : W2.cell? ⟨g2, 3, none⟩ = some (.slice Ab nb cb) := row_cell r2 3
  have HR1 := Lib.hid r1
  have HB2 : Hid (Below w.heap.size w W2) := Lib.hid (b1.trans (b2.mono b1.size))
  have H2 : Hid (RIn F W2 R m) := Lib.hid (H.out.below HB2.out)
  have HB3 : Hid (Below W2.heap.size W2 W2) := Lib.hid (Below.refl _ _)
  have HFND := Lib.hid (rfind_any na m.now n nc HN.out (by omega) S W2 (by have := H2.out.rn.1; rw [hna] at this; exact this))
  obtain ⟨q, hq⟩ : ∃ q, findI m.now S.data.toList = q := ⟨_, rfl⟩
  rw [hq] at HFND
  have HQ := Lib.hid hq
  have HNS := Lib.hid (rnamed_any S W2)
  have HNZ := Lib.hid (rnamed_any Z W2)
  clear h hf hn hnf hna hfa hfc hnc hsa hsc hta htc hns hnt hmo hfu hdn hval b1 s1 b2 s2 r1 r2 hq
  obtain rfl : q = (fi : Int) := by rw [← HQ.out]; exact findI_some HFI.out
  have j0 : (0 : Int) ≤ (fi : Int) := by omega
  have j00 : ¬ ((fi : Int) < 0) := by omega
  go_enter Try.func40, Try.ntmps40
  go_wp2_with fail
  try rw [hg, hg2]
  clear hg hg2 hW1 hW2
  refine HFND.out.mono ?_
  rintro e w2 ⟨rfl, rfl⟩
  go_wp2_with fail
  obtain ⟨ro, hro⟩ : ∃ r, roomM m = r := ⟨_, rfl⟩
  have hroi : ¬ ((ro : Int) < (nb : Int)) := by have := HRO.out; omega
  have HRM := Lib.hid (rroom_any R m w2.drew (H2.out.below (Below.refl _ _).drew) HF.out hK hL)
  rw [HVAL.out, hro] at HRM
  refine wp_region_sched (fun w' => w'.cell? ⟨g2, 0, none⟩ = some (.int .i64 2) ∧ w'.cell? ⟨g2, 3, none⟩ = some (.slice Ab nb cb) ∧ w'.rangeAt g 0 [.slice fa nf fc, .slice na n nc, .slice sa ns sc, .slice ta nt tc, .int .i64 (mo : Int), .int .i64 (fu : Int), .bool false]) [(true, 0), (true, 1), (true, 2), (true, 3), (true, 4), (true, 5), (true, 6), (true, 7), (false, 8), (true, 9), (true, 10)] (by kernel_rfl) (by kernel_rfl) rfl (by kernel_rfl) ⟨d0, d3, range_of_row (cs := [.slice fa nf fc, .slice na n nc, .slice sa ns sc, .slice ta nt tc, .int .i64 (mo : Int), .int .i64 (fu : Int), .bool false]) HR1.out⟩ ?_
  (first | (refine wpS_pass _ rfl (by rfl) ?_; simp only [Act.put, List.getElem_toArray, List.getElem_cons_zero, List.getElem_cons_succ, List.setIfInBounds_toArray, List.set_cons_zero, List.set_cons_succ]) | (refine wpS_take _ ?_ rfl (by rfl) ?_ ?_; rotate_left; (focus (intro w' hS'; (try dsimp only at hS'); (repeat (have hS1 := hS'.1; replace hS' := hS'.2)); go_simp; (try with_reducible rfl); done)); simp only [Act.put, List.getElem_toArray, List.getElem_cons_zero, List.getElem_cons_succ, List.setIfInBounds_toArray, List.set_cons_zero, List.set_cons_succ]))
  (first | (refine wpS_pass _ rfl (by rfl) ?_; simp only [Act.put, List.getElem_toArray, List.getElem_cons_zero, List.getElem_cons_succ, List.setIfInBounds_toArray, List.set_cons_zero, List.set_cons_succ]) | (refine wpS_take _ ?_ rfl (by rfl) ?_ ?_; rotate_left; (focus (intro w' hS'; (try dsimp only at hS'); (repeat (have hS1 := hS'.1; replace hS' := hS'.2)); go_simp; (try with_reducible rfl); done)); simp only [Act.put, List.getElem_toArray, List.getElem_cons_zero, List.getElem_cons_succ, List.setIfInBounds_toArray, List.set_cons_zero, List.set_cons_succ]))
  (first | (refine wpS_pass _ rfl (by rfl) ?_; simp only [Act.put, List.getElem_toArray, List.getElem_cons_zero, List.getElem_cons_succ, List.setIfInBounds_toArray, List.set_cons_zero, List.set_cons_succ]) | (refine wpS_take _ ?_ rfl (by rfl) ?_ ?_; rotate_left; (focus (intro w' hS'; (try dsimp only at hS'); (repeat (have hS1 := hS'.1; replace hS' := hS'.2)); go_simp; (try with_reducible rfl); done)); simp only [Act.put, List.getElem_toArray, List.getElem_cons_zero, List.getElem_cons_succ, List.setIfInBounds_toArray, List.set_cons_zero, List.set_cons_succ]))
  (first | (refine wpS_pass _ rfl (by rfl) ?_; simp only [Act.put, List.getElem_toArray, List.getElem_cons_zero, List.getElem_cons_succ, List.setIfInBounds_toArray, List.set_cons_zero, List.set_cons_succ]) | (refine wpS_take _ ?_ rfl (by rfl) ?_ ?_; rotate_left; (focus (intro w' hS'; (try dsimp only at hS'); (repeat (have hS1 := hS'.1; replace hS' := hS'.2)); go_simp; (try with_reducible rfl); done)); simp only [Act.put, List.getElem_toArray, List.getElem_cons_zero, List.getElem_cons_succ, List.setIfInBounds_toArray, List.set_cons_zero, List.set_cons_succ]))
  (first | (refine wpS_pass _ rfl (by rfl) ?_; simp only [Act.put, List.getElem_toArray, List.getElem_cons_zero, List.getElem_cons_succ, List.setIfInBounds_toArray, List.set_cons_zero, List.set_cons_succ]) | (refine wpS_take _ ?_ rfl (by rfl) ?_ ?_; rotate_left; (focus (intro w' hS'; (try dsimp only at hS'); (repeat (have hS1 := hS'.1; replace hS' := hS'.2)); go_simp; (try with_reducible rfl); done)); simp only [Act.put, List.getElem_toArray, List.getElem_cons_zero, List.getElem_cons_succ, List.setIfInBounds_toArray, List.set_cons_zero, List.set_cons_succ]))
  (first | (refine wpS_pass _ rfl (by rfl) ?_; simp only [Act.put, List.getElem_toArray, List.getElem_cons_zero, List.getElem_cons_succ, List.setIfInBounds_toArray, List.set_cons_zero, List.set_cons_succ]) | (refine wpS_take _ ?_ rfl (by rfl) ?_ ?_; rotate_left; (focus (intro w' hS'; (try dsimp only at hS'); (repeat (have hS1 := hS'.1; replace hS' := hS'.2)); go_simp; (try with_reducible rfl); done)); simp only [Act.put, List.getElem_toArray, List.getElem_cons_zero, List.getElem_cons_succ, List.setIfInBounds_toArray, List.set_cons_zero, List.set_cons_succ]))
  (first | (refine wpS_pass _ rfl (by rfl) ?_; simp only [Act.put, List.getElem_toArray, List.getElem_cons_zero, List.getElem_cons_succ, List.setIfInBounds_toArray, List.set_cons_zero, List.set_cons_succ]) | (refine wpS_take _ ?_ rfl (by rfl) ?_ ?_; rotate_left; (focus (intro w' hS'; (try dsimp only at hS'); (repeat (have hS1 := hS'.1; replace hS' := hS'.2)); go_simp; (try with_reducible rfl); done)); simp only [Act.put, List.getElem_toArray, List.getElem_cons_zero, List.getElem_cons_succ, List.setIfInBounds_toArray, List.set_cons_zero, List.set_cons_succ]))
  refine wpS_load _ rfl (by rfl) 50 _ rfl g 0 rfl [.slice fa nf fc, .slice na n nc, .slice sa ns sc, .slice ta nt tc, .int .i64 (mo : Int), .int .i64 (fu : Int), .bool false] _ (fun w' hS => hS.2.2) Try.underlying50 rfl info_dk7 ?_
  simp only [Act.put, List.getElem_toArray, List.getElem_cons_zero, List.getElem_cons_succ, List.setIfInBounds_toArray, List.set_cons_zero, List.set_cons_succ]
  refine wpS_do _ rfl (by rfl) (fun K hK => ?_)
  go_simp
  refine HRM.out.mono ?_
  rintro e w4 ⟨rfl, hb4⟩
  dsimp only
  have HB4 : Hid (Below w2.heap.size w2 w4) := Lib.hid ⟨hb4.os, hb4.tape, hb4.output, hb4.size, hb4.block⟩
  refine hK.out _ _ ⟨cell_below d0 (World.block_lt_of_cell? w2 _ d0) HB4.out, cell_below d3 (World.block_lt_of_cell? w2 _ d3) HB4.out, range_of_row (cs := [.slice fa nf fc, .slice na n nc, .slice sa ns sc, .slice ta nt tc, .int .i64 (mo : Int), .int .i64 (fu : Int), .bool false]) ((HB4.out.block _ (Array.getElem?_eq_some_iff.1 HR1.out).1).trans HR1.out)⟩ (fun hS' => ?_)
  clear hS' hK hb4
  (repeat (first | (refine wpS_pass _ rfl (by rfl) ?_; simp only [Act.put, List.getElem_toArray, List.getElem_cons_zero, List.getElem_cons_succ, List.setIfInBounds_toArray, List.set_cons_zero, List.set_cons_succ]) | (refine wpS_take _ ?_ rfl (by rfl) ?_ ?_; rotate_left; (focus (intro w' hS'; (try dsimp only at hS'); (repeat (have hS1 := hS'.1; replace hS' := hS'.2)); go_simp; (try with_reducible rfl); done)); simp only [Act.put, List.getElem_toArray, List.getElem_cons_zero, List.getElem_cons_succ, List.setIfInBounds_toArray, List.set_cons_zero, List.set_cons_succ])))
  refine wpS_done ?_
  go_wp2_with fail
  go_ret
  exact ⟨rfl, HB2.out.trans (HB4.out.mono HB2.out.size)⟩
set_option maxRecDepth 100000 in
set_option maxHeartbeats 4000000 in
theorem rw3D (hd : m.down = true) : Calls Try.prog 40 #[R.val m, .agg #[.int .i64 3, .string S, .string Z, .slice Ab nb cb]] w fun e w' => e = .returned (.int .i64 50) ∧ Below w.heap.size w w' := by
  have HD := Lib.hid hd
  clear hd
  have H := Lib.hid h
  have HF := Lib.hid hf
  obtain ⟨nf, hnf⟩ : ∃ n, m.files.length = n := ⟨_, rfl⟩
  obtain ⟨n, hn⟩ : ∃ n, m.now.length = n := ⟨_, rfl⟩
  have hnk : n ≤ 1000 := by have := hf.now; omega
  have HN := Lib.hid hn
  obtain ⟨na, hna⟩ : ∃ n, R.na = n := ⟨_, rfl⟩
  have HNA := Lib.hid hna
  obtain ⟨fa, hfa⟩ : ∃ n, R.fa = n := ⟨_, rfl⟩
  obtain ⟨fc, hfc⟩ : ∃ n, R.fc = n := ⟨_, rfl⟩
  obtain ⟨nc, hnc⟩ : ∃ n, R.nc = n := ⟨_, rfl⟩
  obtain ⟨sa, hsa⟩ : ∃ n, R.sa = n := ⟨_, rfl⟩
  obtain ⟨sc, hsc⟩ : ∃ n, R.sc = n := ⟨_, rfl⟩
  obtain ⟨ta, hta⟩ : ∃ n, R.ta = n := ⟨_, rfl⟩
  obtain ⟨tc, htc⟩ : ∃ n, R.tc = n := ⟨_, rfl⟩
  obtain ⟨ns, hns⟩ : ∃ n, m.sure.length = n := ⟨_, rfl⟩
  obtain ⟨nt, hnt⟩ : ∃ n, m.turns.length = n := ⟨_, rfl⟩
  obtain ⟨mo, hmo⟩ : ∃ n, m.most = n := ⟨_, rfl⟩
  obtain ⟨fu, hfu⟩ : ∃ n, m.fuse = n := ⟨_, rfl⟩
  have hdn := HD.out
  have hval : R.val m = .agg #[.slice fa nf fc, .slice na n nc, .slice sa ns sc, .slice ta nt tc, .int .i64 (mo : Int), .int .i64 (fu : Int), .bool true] := by
    unfold RA.val RA.row
    rw [hn, hnf, hfa, hna, hsa, hta, hfc, hnc, hsc, htc, hns, hnt, hmo, hfu, hdn]
  have HVAL := Lib.hid hval
  rw [hval]
  obtain ⟨W1, hW1⟩ : ∃ W, w.alloc (.cells #[.slice fa nf fc, .slice na n nc, .slice sa ns sc, .slice ta nt tc, .int .i64 (mo : Int), .int .i64 (fu : Int), .bool true] 50) = W := ⟨_, rfl⟩
  obtain ⟨r1, b1, s1⟩ := new_row hW1
  obtain ⟨W2, hW2⟩ : ∃ W, W1.alloc (.cells #[.int .i64 3, .string S, .string Z, .slice Ab nb cb] 58) = W := ⟨_, rfl⟩
  obtain ⟨r2, b2, s2⟩ := new_row hW2
  obtain ⟨g, hg⟩ : ∃ g, w.heap.size = g := ⟨_, rfl⟩
  obtain ⟨g2, hg2⟩ : ∃ g, W1.heap.size = g := ⟨_, rfl⟩
  replace r1 := (b2.block _ (by omega)).trans r1
  rw [hg] at r1
  rw [hg2] at r2
  have c1 : W2.cell? ⟨g, 1, none⟩ = some (.slice na n nc) := row_cell r1 1
  have c6 : W2.cell? ⟨g, 6, none⟩ = some (.bool true) := row_cell r1 6
  have d0 : W2.cell? ⟨g2, 0, none⟩ = some (.int .i64 3) := row_cell r2 0
  have d1 : W2.cell? ⟨g2, 1, none⟩ = some (.string S) := row_cell r2 1
  have d2 : W2.cell? ⟨g2, 2, none⟩ = some (.string Z) := row_cell r2 2
  have d3 : W2.cell? ⟨g2, 3, none⟩ = some (.slice Ab nb cb) := row_cell r2 3
  have HR1 := Lib.hid r1
  have HB2 : Hid (Below w.heap.size w W2) := Lib.hid (b1.trans (b2.mono b1.size))
  have H2 : Hid (RIn F W2 R m) := Lib.hid (H.out.below HB2.out)
  have HB3 : Hid (Below W2.heap.size W2 W2) := Lib.hid (Below.refl _ _)
  have HFND := Lib.hid (rfind_any na m.now n nc HN.out (by omega) S W2 (by have := H2.out.rn.1; rw [hna] at this; exact this))
  obtain ⟨q, hq⟩ : ∃ q, findI m.now S.data.toList = q := ⟨_, rfl⟩
  rw [hq] at HFND
  have HQ := Lib.hid hq
  have HNS := Lib.hid (rnamed_any S W2)
  have HNZ := Lib.hid (rnamed_any Z W2)
  clear h hf hn hnf hna hfa hfc hnc hsa hsc hta htc hns hnt hmo hfu hdn hval b1 s1 b2 s2 r1 r2 hq
  go_enter Try.func40, Try.ntmps40
  go_wp2_with fail
  try rw [hg, hg2]
  clear hg hg2 hW1 hW2
  refine HFND.out.mono ?_
  rintro e w2 ⟨rfl, rfl⟩
  go_wp2_with fail
  go_ret
  exact ⟨rfl, HB2.out⟩
set_option maxRecDepth 100000 in
set_option maxHeartbeats 4000000 in
theorem rw3X (hd : m.down = false) (hfi : findN m.now S.data.toList = none) : Calls Try.prog 40 #[R.val m, .agg #[.int .i64 3, .string S, .string Z, .slice Ab nb cb]] w fun e w' => e = .returned (.int .i64 4) ∧ Below w.heap.size w w' := by
  have HFI := Lib.hid hfi
  clear hfi
  have HD := Lib.hid hd
  clear hd
  have H := Lib.hid h
  have HF := Lib.hid hf
  obtain ⟨nf, hnf⟩ : ∃ n, m.files.length = n := ⟨_, rfl⟩
  obtain ⟨n, hn⟩ : ∃ n, m.now.length = n := ⟨_, rfl⟩
  have hnk : n ≤ 1000 := by have := hf.now; omega
  have HN := Lib.hid hn
  obtain ⟨na, hna⟩ : ∃ n, R.na = n := ⟨_, rfl⟩
  have HNA := Lib.hid hna
  obtain ⟨fa, hfa⟩ : ∃ n, R.fa = n := ⟨_, rfl⟩
  obtain ⟨fc, hfc⟩ : ∃ n, R.fc = n := ⟨_, rfl⟩
  obtain ⟨nc, hnc⟩ : ∃ n, R.nc = n := ⟨_, rfl⟩
  obtain ⟨sa, hsa⟩ : ∃ n, R.sa = n := ⟨_, rfl⟩
  obtain ⟨sc, hsc⟩ : ∃ n, R.sc = n := ⟨_, rfl⟩
  obtain ⟨ta, hta⟩ : ∃ n, R.ta = n := ⟨_, rfl⟩
  obtain ⟨tc, htc⟩ : ∃ n, R.tc = n := ⟨_, rfl⟩
  obtain ⟨ns, hns⟩ : ∃ n, m.sure.length = n := ⟨_, rfl⟩
  obtain ⟨nt, hnt⟩ : ∃ n, m.turns.length = n := ⟨_, rfl⟩
  obtain ⟨mo, hmo⟩ : ∃ n, m.most = n := ⟨_, rfl⟩
  obtain ⟨fu, hfu⟩ : ∃ n, m.fuse = n := ⟨_, rfl⟩
  have hdn := HD.out
  have hval : R.val m = .agg #[.slice fa nf fc, .slice na n nc, .slice sa ns sc, .slice ta nt tc, .int .i64 (mo : Int), .int .i64 (fu : Int), .bool false] := by
    unfold RA.val RA.row
    rw [hn, hnf, hfa, hna, hsa, hta, hfc, hnc, hsc, htc, hns, hnt, hmo, hfu, hdn]
  have HVAL := Lib.hid hval
  rw [hval]
  obtain ⟨W1, hW1⟩ : ∃ W, w.alloc (.cells #[.slice fa nf fc, .slice na n nc, .slice sa ns sc, .slice ta nt tc, .int .i64 (mo : Int), .int .i64 (fu : Int), .bool false] 50) = W := ⟨_, rfl⟩
  obtain ⟨r1, b1, s1⟩ := new_row hW1
  obtain ⟨W2, hW2⟩ : ∃ W, W1.alloc (.cells #[.int .i64 3, .string S, .string Z, .slice Ab nb cb] 58) = W := ⟨_, rfl⟩
  obtain ⟨r2, b2, s2⟩ := new_row hW2
  obtain ⟨g, hg⟩ : ∃ g, w.heap.size = g := ⟨_, rfl⟩
  obtain ⟨g2, hg2⟩ : ∃ g, W1.heap.size = g := ⟨_, rfl⟩
  replace r1 := (b2.block _ (by omega)).trans r1
  rw [hg] at r1
  rw [hg2] at r2
  have c1 : W2.cell? ⟨g, 1, none⟩ = some (.slice na n nc) := row_cell r1 1
  have c6 : W2.cell? ⟨g, 6, none⟩ = some (.bool false) := row_cell r1 6
  have d0 : W2.cell? ⟨g2, 0, none⟩ = some (.int .i64 3) := row_cell r2 0
  have d1 : W2.cell? ⟨g2, 1, none⟩ = some (.string S) := row_cell r2 1
  have d2 : W2.cell? ⟨g2, 2, none⟩ = some (.string Z) := row_cell r2 2
  have d3 : W2.cell? ⟨g2, 3, none⟩ = some (.slice Ab nb cb) := row_cell r2 3
  have HR1 := Lib.hid r1
  have HB2 : Hid (Below w.heap.size w W2) := Lib.hid (b1.trans (b2.mono b1.size))
  have H2 : Hid (RIn F W2 R m) := Lib.hid (H.out.below HB2.out)
  have HB3 : Hid (Below W2.heap.size W2 W2) := Lib.hid (Below.refl _ _)
  have HFND := Lib.hid (rfind_any na m.now n nc HN.out (by omega) S W2 (by have := H2.out.rn.1; rw [hna] at this; exact this))
  obtain ⟨q, hq⟩ : ∃ q, findI m.now S.data.toList = q := ⟨_, rfl⟩
  rw [hq] at HFND
  have HQ := Lib.hid hq
  have HNS := Lib.hid (rnamed_any S W2)
  have HNZ := Lib.hid (rnamed_any Z W2)
  clear h hf hn hnf hna hfa hfc hnc hsa hsc hta htc hns hnt hmo hfu hdn hval b1 s1 b2 s2 r1 r2 hq
  obtain rfl : q = -1 := by rw [← HQ.out]; exact findI_none HFI.out
  go_enter Try.func40, Try.ntmps40
  go_wp2_with fail
  try rw [hg, hg2]
  clear hg hg2 hW1 hW2
  refine HFND.out.mono ?_
  rintro e w2 ⟨rfl, rfl⟩
  go_wp2_with fail
  go_ret
  exact ⟨rfl, HB2.out⟩
set_option maxRecDepth 100000 in
set_option maxHeartbeats 4000000 in
theorem rw3O (hd : m.down = false) (fi : Nat) (hfi : findN m.now S.data.toList = some fi) : Calls Try.prog 40 #[R.val m, .agg #[.int .i64 3, .string S, .string Z, .slice Ab nb cb]] w fun e w' => e = .returned (.int .i64 0) ∧ Below w.heap.size w w' := by
  have HFI := Lib.hid hfi
  clear hfi
  have HD := Lib.hid hd
  clear hd
  have H := Lib.hid h
  have HF := Lib.hid hf
  obtain ⟨nf, hnf⟩ : ∃ n, m.files.length = n := ⟨_, rfl⟩
  obtain ⟨n, hn⟩ : ∃ n, m.now.length = n := ⟨_, rfl⟩
  have hnk : n ≤ 1000 := by have := hf.now; omega
  have HN := Lib.hid hn
  obtain ⟨na, hna⟩ : ∃ n, R.na = n := ⟨_, rfl⟩
  have HNA := Lib.hid hna
  obtain ⟨fa, hfa⟩ : ∃ n, R.fa = n := ⟨_, rfl⟩
  obtain ⟨fc, hfc⟩ : ∃ n, R.fc = n := ⟨_, rfl⟩
  obtain ⟨nc, hnc⟩ : ∃ n, R.nc = n := ⟨_, rfl⟩
  obtain ⟨sa, hsa⟩ : ∃ n, R.sa = n := ⟨_, rfl⟩
  obtain ⟨sc, hsc⟩ : ∃ n, R.sc = n := ⟨_, rfl⟩
  obtain ⟨ta, hta⟩ : ∃ n, R.ta = n := ⟨_, rfl⟩
  obtain ⟨tc, htc⟩ : ∃ n, R.tc = n := ⟨_, rfl⟩
  obtain ⟨ns, hns⟩ : ∃ n, m.sure.length = n := ⟨_, rfl⟩
  obtain ⟨nt, hnt⟩ : ∃ n, m.turns.length = n := ⟨_, rfl⟩
  obtain ⟨mo, hmo⟩ : ∃ n, m.most = n := ⟨_, rfl⟩
  obtain ⟨fu, hfu⟩ : ∃ n, m.fuse = n := ⟨_, rfl⟩
  have hdn := HD.out
  have hval : R.val m = .agg #[.slice fa nf fc, .slice na n nc, .slice sa ns sc, .slice ta nt tc, .int .i64 (mo : Int), .int .i64 (fu : Int), .bool false] := by
    unfold RA.val RA.row
    rw [hn, hnf, hfa, hna, hsa, hta, hfc, hnc, hsc, htc, hns, hnt, hmo, hfu, hdn]
  have HVAL := Lib.hid hval
  rw [hval]
  obtain ⟨W1, hW1⟩ : ∃ W, w.alloc (.cells #[.slice fa nf fc, .slice na n nc, .slice sa ns sc, .slice ta nt tc, .int .i64 (mo : Int), .int .i64 (fu : Int), .bool false] 50) = W := ⟨_, rfl⟩
  obtain ⟨r1, b1, s1⟩ := new_row hW1
  obtain ⟨W2, hW2⟩ : ∃ W, W1.alloc (.cells #[.int .i64 3, .string S, .string Z, .slice Ab nb cb] 58) = W := ⟨_, rfl⟩
  obtain ⟨r2, b2, s2⟩ := new_row hW2
  obtain ⟨g, hg⟩ : ∃ g, w.heap.size = g := ⟨_, rfl⟩
  obtain ⟨g2, hg2⟩ : ∃ g, W1.heap.size = g := ⟨_, rfl⟩
  replace r1 := (b2.block _ (by omega)).trans r1
  rw [hg] at r1
  rw [hg2] at r2
  have c1 : W2.cell? ⟨g, 1, none⟩ = some (.slice na n nc) := row_cell r1 1
  have c6 : W2.cell? ⟨g, 6, none⟩ = some (.bool false) := row_cell r1 6
  have d0 : W2.cell? ⟨g2, 0, none⟩ = some (.int .i64 3) := row_cell r2 0
  have d1 : W2.cell? ⟨g2, 1, none⟩ = some (.string S) := row_cell r2 1
  have d2 : W2.cell? ⟨g2, 2, none⟩ = some (.string Z) := row_cell r2 2
  have d3 : W2.cell? ⟨g2, 3, none⟩ = some (.slice Ab nb cb) := row_cell r2 3
  have HR1 := Lib.hid r1
  have HB2 : Hid (Below w.heap.size w W2) := Lib.hid (b1.trans (b2.mono b1.size))
  have H2 : Hid (RIn F W2 R m) := Lib.hid (H.out.below HB2.out)
  have HB3 : Hid (Below W2.heap.size W2 W2) := Lib.hid (Below.refl _ _)
  have HFND := Lib.hid (rfind_any na m.now n nc HN.out (by omega) S W2 (by have := H2.out.rn.1; rw [hna] at this; exact this))
  obtain ⟨q, hq⟩ : ∃ q, findI m.now S.data.toList = q := ⟨_, rfl⟩
  rw [hq] at HFND
  have HQ := Lib.hid hq
  have HNS := Lib.hid (rnamed_any S W2)
  have HNZ := Lib.hid (rnamed_any Z W2)
  clear h hf hn hnf hna hfa hfc hnc hsa hsc hta htc hns hnt hmo hfu hdn hval b1 s1 b2 s2 r1 r2 hq
  obtain rfl : q = (fi : Int) := by rw [← HQ.out]; exact findI_some HFI.out
  have j0 : (0 : Int) ≤ (fi : Int) := by omega
  have j00 : ¬ ((fi : Int) < 0) := by omega
  go_enter Try.func40, Try.ntmps40
  go_wp2_with fail
  try rw [hg, hg2]
  clear hg hg2 hW1 hW2
  refine HFND.out.mono ?_
  rintro e w2 ⟨rfl, rfl⟩
  go_wp2_with fail
  go_quiet (fail)
  go_wp2_with fail
  go_ret
  exact ⟨rfl, below_drewN HB2.out _⟩
set_option maxRecDepth 100000 in
set_option maxHeartbeats 4000000 in
theorem rw4D (hd : m.down = true) : Calls Try.prog 40 #[R.val m, .agg #[.int .i64 4, .string S, .string Z, .slice Ab nb cb]] w fun e w' => e = .returned (.int .i64 50) ∧ Below w.heap.size w w' := by
  have HD := Lib.hid hd
  clear hd
  have H := Lib.hid h
  have HF := Lib.hid hf
  obtain ⟨nf, hnf⟩ : ∃ n, m.files.length = n := ⟨_, rfl⟩
  obtain ⟨n, hn⟩ : ∃ n, m.now.length = n := ⟨_, rfl⟩
  have hnk : n ≤ 1000 := by have := hf.now; omega
  have HN := Lib.hid hn
  obtain ⟨na, hna⟩ : ∃ n, R.na = n := ⟨_, rfl⟩
  have HNA := Lib.hid hna
  obtain ⟨fa, hfa⟩ : ∃ n, R.fa = n := ⟨_, rfl⟩
  obtain ⟨fc, hfc⟩ : ∃ n, R.fc = n := ⟨_, rfl⟩
  obtain ⟨nc, hnc⟩ : ∃ n, R.nc = n := ⟨_, rfl⟩
  obtain ⟨sa, hsa⟩ : ∃ n, R.sa = n := ⟨_, rfl⟩
  obtain ⟨sc, hsc⟩ : ∃ n, R.sc = n := ⟨_, rfl⟩
  obtain ⟨ta, hta⟩ : ∃ n, R.ta = n := ⟨_, rfl⟩
  obtain ⟨tc, htc⟩ : ∃ n, R.tc = n := ⟨_, rfl⟩
  obtain ⟨ns, hns⟩ : ∃ n, m.sure.length = n := ⟨_, rfl⟩
  obtain ⟨nt, hnt⟩ : ∃ n, m.turns.length = n := ⟨_, rfl⟩
  obtain ⟨mo, hmo⟩ : ∃ n, m.most = n := ⟨_, rfl⟩
  obtain ⟨fu, hfu⟩ : ∃ n, m.fuse = n := ⟨_, rfl⟩
  have hdn := HD.out
  have hval : R.val m = .agg #[.slice fa nf fc, .slice na n nc, .slice sa ns sc, .slice ta nt tc, .int .i64 (mo : Int), .int .i64 (fu : Int), .bool true] := by
    unfold RA.val RA.row
    rw [hn, hnf, hfa, hna, hsa, hta, hfc, hnc, hsc, htc, hns, hnt, hmo, hfu, hdn]
  have HVAL := Lib.hid hval
  rw [hval]
  obtain ⟨W1, hW1⟩ : ∃ W, w.alloc (.cells #[.slice fa nf fc, .slice na n nc, .slice sa ns sc, .slice ta nt tc, .int .i64 (mo : Int), .int .i64 (fu : Int), .bool true] 50) = W := ⟨_, rfl⟩
  obtain ⟨r1, b1, s1⟩ := new_row hW1
  obtain ⟨W2, hW2⟩ : ∃ W, W1.alloc (.cells #[.int .i64 4, .string S, .string Z, .slice Ab nb cb] 58) = W := ⟨_, rfl⟩
  obtain ⟨r2, b2, s2⟩ := new_row hW2
  obtain ⟨g, hg⟩ : ∃ g, w.heap.size = g := ⟨_, rfl⟩
  obtain ⟨g2, hg2⟩ : ∃ g, W1.heap.size = g := ⟨_, rfl⟩
  replace r1 := (b2.block _ (by omega)).trans r1
  rw [hg] at r1
  rw [hg2] at r2
  have c1 : W2.cell? ⟨g, 1, none⟩ = some (.slice na n nc) := row_cell r1 1
  have c6 : W2.cell? ⟨g, 6, none⟩ = some (.bool true) := row_cell r1 6
  have d0 : W2.cell? ⟨g2, 0, none⟩ = some (.int .i64 4) := row_cell r2 0
  have d1 : W2.cell? ⟨g2, 1, none⟩ = some (.string S) := row_cell r2 1
  have d2 : W2.cell? ⟨g2, 2, none⟩ = some (.string Z) := row_cell r2 2
  have d3 : W2.cell? ⟨g2, 3, none⟩ = some (.slice Ab nb cb) := row_cell r2 3
  have HR1 := Lib.hid r1
  have HB2 : Hid (Below w.heap.size w W2) := Lib.hid (b1.trans (b2.mono b1.size))
  have H2 : Hid (RIn F W2 R m) := Lib.hid (H.out.below HB2.out)
  have HB3 : Hid (Below W2.heap.size W2 W2) := Lib.hid (Below.refl _ _)
  have HFND := Lib.hid (rfind_any na m.now n nc HN.out (by omega) S W2 (by have := H2.out.rn.1; rw [hna] at this; exact this))
  obtain ⟨q, hq⟩ : ∃ q, findI m.now S.data.toList = q := ⟨_, rfl⟩
  rw [hq] at HFND
  have HQ := Lib.hid hq
  have HNS := Lib.hid (rnamed_any S W2)
  have HNZ := Lib.hid (rnamed_any Z W2)
  clear h hf hn hnf hna hfa hfc hnc hsa hsc hta htc hns hnt hmo hfu hdn hval b1 s1 b2 s2 r1 r2 hq
  go_enter Try.func40, Try.ntmps40
  go_wp2_with fail
  try rw [hg, hg2]
  clear hg hg2 hW1 hW2
  refine HFND.out.mono ?_
  rintro e w2 ⟨rfl, rfl⟩
  go_wp2_with fail
  go_ret
  exact ⟨rfl, HB2.out⟩
set_option maxRecDepth 100000 in
set_option maxHeartbeats 4000000 in
theorem rw4N (hd : m.down = false) (hn1 : namedB Z.data.toList = false) : Calls Try.prog 40 #[R.val m, .agg #[.int .i64 4, .string S, .string Z, .slice Ab nb cb]] w fun e w' => e = .returned (.int .i64 1) ∧ Below w.heap.size w w' := by
  have HN1 := Lib.hid hn1
  clear hn1
  have HD := Lib.hid hd
  clear hd
  have H := Lib.hid h
  have HF := Lib.hid hf
  obtain ⟨nf, hnf⟩ : ∃ n, m.files.length = n := ⟨_, rfl⟩
  obtain ⟨n, hn⟩ : ∃ n, m.now.length = n := ⟨_, rfl⟩
  have hnk : n ≤ 1000 := by have := hf.now; omega
  have HN := Lib.hid hn
  obtain ⟨na, hna⟩ : ∃ n, R.na = n := ⟨_, rfl⟩
  have HNA := Lib.hid hna
  obtain ⟨fa, hfa⟩ : ∃ n, R.fa = n := ⟨_, rfl⟩
  obtain ⟨fc, hfc⟩ : ∃ n, R.fc = n := ⟨_, rfl⟩
  obtain ⟨nc, hnc⟩ : ∃ n, R.nc = n := ⟨_, rfl⟩
  obtain ⟨sa, hsa⟩ : ∃ n, R.sa = n := ⟨_, rfl⟩
  obtain ⟨sc, hsc⟩ : ∃ n, R.sc = n := ⟨_, rfl⟩
  obtain ⟨ta, hta⟩ : ∃ n, R.ta = n := ⟨_, rfl⟩
  obtain ⟨tc, htc⟩ : ∃ n, R.tc = n := ⟨_, rfl⟩
  obtain ⟨ns, hns⟩ : ∃ n, m.sure.length = n := ⟨_, rfl⟩
  obtain ⟨nt, hnt⟩ : ∃ n, m.turns.length = n := ⟨_, rfl⟩
  obtain ⟨mo, hmo⟩ : ∃ n, m.most = n := ⟨_, rfl⟩
  obtain ⟨fu, hfu⟩ : ∃ n, m.fuse = n := ⟨_, rfl⟩
  have hdn := HD.out
  have hval : R.val m = .agg #[.slice fa nf fc, .slice na n nc, .slice sa ns sc, .slice ta nt tc, .int .i64 (mo : Int), .int .i64 (fu : Int), .bool false] := by
    unfold RA.val RA.row
    rw [hn, hnf, hfa, hna, hsa, hta, hfc, hnc, hsc, htc, hns, hnt, hmo, hfu, hdn]
  have HVAL := Lib.hid hval
  rw [hval]
  obtain ⟨W1, hW1⟩ : ∃ W, w.alloc (.cells #[.slice fa nf fc, .slice na n nc, .slice sa ns sc, .slice ta nt tc, .int .i64 (mo : Int), .int .i64 (fu : Int), .bool false] 50) = W := ⟨_, rfl⟩
  obtain ⟨r1, b1, s1⟩ := new_row hW1
  obtain ⟨W2, hW2⟩ : ∃ W, W1.alloc (.cells #[.int .i64 4, .string S, .string Z, .slice Ab nb cb] 58) = W := ⟨_, rfl⟩
  obtain ⟨r2, b2, s2⟩ := new_row hW2
  obtain ⟨g, hg⟩ : ∃ g, w.heap.size = g := ⟨_, rfl⟩
  obtain ⟨g2, hg2⟩ : ∃ g, W1.heap.size = g := ⟨_, rfl⟩
  replace r1 := (b2.block _ (by omega)).trans r1
  rw [hg] at r1
  rw [hg2] at r2
  have c1 : W2.cell? ⟨g, 1, none⟩ = some (.slice na n nc) := row_cell r1 1
  have c6 : W2.cell? ⟨g, 6, none⟩ = some (.bool false) := row_cell r1 6
  have d0 : W2.cell? ⟨g2, 0, none⟩ = some (.int .i64 4) := row_cell r2 0
  have d1 : W2.cell? ⟨g2, 1, none⟩ = some (.string S) := row_cell r2 1
  have d2 : W2.cell? ⟨g2, 2, none⟩ = some (.string Z) := row_cell r2 2
  have d3 : W2.cell? ⟨g2, 3, none⟩ = some (.slice Ab nb cb) := row_cell r2 3
  have HR1 := Lib.hid r1
  have HB2 : Hid (Below w.heap.size w W2) := Lib.hid (b1.trans (b2.mono b1.size))
  have H2 : Hid (RIn F W2 R m) := Lib.hid (H.out.below HB2.out)
  have HB3 : Hid (Below W2.heap.size W2 W2) := Lib.hid (Below.refl _ _)
  have HFND := Lib.hid (rfind_any na m.now n nc HN.out (by omega) S W2 (by have := H2.out.rn.1; rw [hna] at this; exact this))
  obtain ⟨q, hq⟩ : ∃ q, findI m.now S.data.toList = q := ⟨_, rfl⟩
  rw [hq] at HFND
  have HQ := Lib.hid hq
  have HNS := Lib.hid (rnamed_any S W2)
  have HNZ := Lib.hid (rnamed_any Z W2)
  clear h hf hn hnf hna hfa hfc hnc hsa hsc hta htc hns hnt hmo hfu hdn hval b1 s1 b2 s2 r1 r2 hq
  rw [HN1.out] at HNZ
  go_enter Try.func40, Try.ntmps40
  go_wp2_with fail
  try rw [hg, hg2]
  clear hg hg2 hW1 hW2
  refine HFND.out.mono ?_
  rintro e w2 ⟨rfl, rfl⟩
  go_wp2_with fail
  refine HNZ.out.mono ?_
  rintro e w3 ⟨rfl, rfl⟩
  go_wp2_with fail
  go_ret
  exact ⟨rfl, HB2.out⟩
set_option maxRecDepth 100000 in
set_option maxHeartbeats 4000000 in
theorem rw4X (hd : m.down = false) (hn1 : namedB Z.data.toList = true) (hfi : findN m.now S.data.toList = none) : Calls Try.prog 40 #[R.val m, .agg #[.int .i64 4, .string S, .string Z, .slice Ab nb cb]] w fun e w' => e = .returned (.int .i64 4) ∧ Below w.heap.size w w' := by
  have HN1 := Lib.hid hn1
  clear hn1
  have HFI := Lib.hid hfi
  clear hfi
  have HD := Lib.hid hd
  clear hd
  have H := Lib.hid h
  have HF := Lib.hid hf
  obtain ⟨nf, hnf⟩ : ∃ n, m.files.length = n := ⟨_, rfl⟩
  obtain ⟨n, hn⟩ : ∃ n, m.now.length = n := ⟨_, rfl⟩
  have hnk : n ≤ 1000 := by have := hf.now; omega
  have HN := Lib.hid hn
  obtain ⟨na, hna⟩ : ∃ n, R.na = n := ⟨_, rfl⟩
  have HNA := Lib.hid hna
  obtain ⟨fa, hfa⟩ : ∃ n, R.fa = n := ⟨_, rfl⟩
  obtain ⟨fc, hfc⟩ : ∃ n, R.fc = n := ⟨_, rfl⟩
  obtain ⟨nc, hnc⟩ : ∃ n, R.nc = n := ⟨_, rfl⟩
  obtain ⟨sa, hsa⟩ : ∃ n, R.sa = n := ⟨_, rfl⟩
  obtain ⟨sc, hsc⟩ : ∃ n, R.sc = n := ⟨_, rfl⟩
  obtain ⟨ta, hta⟩ : ∃ n, R.ta = n := ⟨_, rfl⟩
  obtain ⟨tc, htc⟩ : ∃ n, R.tc = n := ⟨_, rfl⟩
  obtain ⟨ns, hns⟩ : ∃ n, m.sure.length = n := ⟨_, rfl⟩
  obtain ⟨nt, hnt⟩ : ∃ n, m.turns.length = n := ⟨_, rfl⟩
  obtain ⟨mo, hmo⟩ : ∃ n, m.most = n := ⟨_, rfl⟩
  obtain ⟨fu, hfu⟩ : ∃ n, m.fuse = n := ⟨_, rfl⟩
  have hdn := HD.out
  have hval : R.val m = .agg #[.slice fa nf fc, .slice na n nc, .slice sa ns sc, .slice ta nt tc, .int .i64 (mo : Int), .int .i64 (fu : Int), .bool false] := by
    unfold RA.val RA.row
    rw [hn, hnf, hfa, hna, hsa, hta, hfc, hnc, hsc, htc, hns, hnt, hmo, hfu, hdn]
  have HVAL := Lib.hid hval
  rw [hval]
  obtain ⟨W1, hW1⟩ : ∃ W, w.alloc (.cells #[.slice fa nf fc, .slice na n nc, .slice sa ns sc, .slice ta nt tc, .int .i64 (mo : Int), .int .i64 (fu : Int), .bool false] 50) = W := ⟨_, rfl⟩
  obtain ⟨r1, b1, s1⟩ := new_row hW1
  obtain ⟨W2, hW2⟩ : ∃ W, W1.alloc (.cells #[.int .i64 4, .string S, .string Z, .slice Ab nb cb] 58) = W := ⟨_, rfl⟩
  obtain ⟨r2, b2, s2⟩ := new_row hW2
  obtain ⟨g, hg⟩ : ∃ g, w.heap.size = g := ⟨_, rfl⟩
  obtain ⟨g2, hg2⟩ : ∃ g, W1.heap.size = g := ⟨_, rfl⟩
  replace r1 := (b2.block _ (by omega)).trans r1
  rw [hg] at r1
  rw [hg2] at r2
  have c1 : W2.cell? ⟨g, 1, none⟩ = some (.slice na n nc) := row_cell r1 1
  have c6 : W2.cell? ⟨g, 6, none⟩ = some (.bool false) := row_cell r1 6
  have d0 : W2.cell? ⟨g2, 0, none⟩ = some (.int .i64 4) := row_cell r2 0
  have d1 : W2.cell? ⟨g2, 1, none⟩ = some (.string S) := row_cell r2 1
  have d2 : W2.cell? ⟨g2, 2, none⟩ = some (.string Z) := row_cell r2 2
  have d3 : W2.cell? ⟨g2, 3, none⟩ = some (.slice Ab nb cb) := row_cell r2 3
  have HR1 := Lib.hid r1
  have HB2 : Hid (Below w.heap.size w W2) := Lib.hid (b1.trans (b2.mono b1.size))
  have H2 : Hid (RIn F W2 R m) := Lib.hid (H.out.below HB2.out)
  have HB3 : Hid (Below W2.heap.size W2 W2) := Lib.hid (Below.refl _ _)
  have HFND := Lib.hid (rfind_any na m.now n nc HN.out (by omega) S W2 (by have := H2.out.rn.1; rw [hna] at this; exact this))
  obtain ⟨q, hq⟩ : ∃ q, findI m.now S.data.toList = q := ⟨_, rfl⟩
  rw [hq] at HFND
  have HQ := Lib.hid hq
  have HNS := Lib.hid (rnamed_any S W2)
  have HNZ := Lib.hid (rnamed_any Z W2)
  clear h hf hn hnf hna hfa hfc hnc hsa hsc hta htc hns hnt hmo hfu hdn hval b1 s1 b2 s2 r1 r2 hq
  rw [HN1.out] at HNZ
  obtain rfl : q = -1 := by rw [← HQ.out]; exact findI_none HFI.out
  go_enter Try.func40, Try.ntmps40
  go_wp2_with fail
  try rw [hg, hg2]
  clear hg hg2 hW1 hW2
  refine HFND.out.mono ?_
  rintro e w2 ⟨rfl, rfl⟩
  go_wp2_with fail
  refine HNZ.out.mono ?_
  rintro e w3 ⟨rfl, rfl⟩
  go_wp2_with fail
  go_ret
  exact ⟨rfl, HB2.out⟩
set_option maxRecDepth 100000 in
set_option maxHeartbeats 4000000 in
theorem rw4O (hd : m.down = false) (hn1 : namedB Z.data.toList = true) (fi : Nat) (hfi : findN m.now S.data.toList = some fi) : Calls Try.prog 40 #[R.val m, .agg #[.int .i64 4, .string S, .string Z, .slice Ab nb cb]] w fun e w' => e = .returned (.int .i64 0) ∧ Below w.heap.size w w' := by
  have HN1 := Lib.hid hn1
  clear hn1
  have HFI := Lib.hid hfi
  clear hfi
  have HD := Lib.hid hd
  clear hd
  have H := Lib.hid h
  have HF := Lib.hid hf
  obtain ⟨nf, hnf⟩ : ∃ n, m.files.length = n := ⟨_, rfl⟩
  obtain ⟨n, hn⟩ : ∃ n, m.now.length = n := ⟨_, rfl⟩
  have hnk : n ≤ 1000 := by have := hf.now; omega
  have HN := Lib.hid hn
  obtain ⟨na, hna⟩ : ∃ n, R.na = n := ⟨_, rfl⟩
  have HNA := Lib.hid hna
  obtain ⟨fa, hfa⟩ : ∃ n, R.fa = n := ⟨_, rfl⟩
  obtain ⟨fc, hfc⟩ : ∃ n, R.fc = n := ⟨_, rfl⟩
  obtain ⟨nc, hnc⟩ : ∃ n, R.nc = n := ⟨_, rfl⟩
  obtain ⟨sa, hsa⟩ : ∃ n, R.sa = n := ⟨_, rfl⟩
  obtain ⟨sc, hsc⟩ : ∃ n, R.sc = n := ⟨_, rfl⟩
  obtain ⟨ta, hta⟩ : ∃ n, R.ta = n := ⟨_, rfl⟩
  obtain ⟨tc, htc⟩ : ∃ n, R.tc = n := ⟨_, rfl⟩
  obtain ⟨ns, hns⟩ : ∃ n, m.sure.length = n := ⟨_, rfl⟩
  obtain ⟨nt, hnt⟩ : ∃ n, m.turns.length = n := ⟨_, rfl⟩
  obtain ⟨mo, hmo⟩ : ∃ n, m.most = n := ⟨_, rfl⟩
  obtain ⟨fu, hfu⟩ : ∃ n, m.fuse = n := ⟨_, rfl⟩
  have hdn := HD.out
  have hval : R.val m = .agg #[.slice fa nf fc, .slice na n nc, .slice sa ns sc, .slice ta nt tc, .int .i64 (mo : Int), .int .i64 (fu : Int), .bool false] := by
    unfold RA.val RA.row
    rw [hn, hnf, hfa, hna, hsa, hta, hfc, hnc, hsc, htc, hns, hnt, hmo, hfu, hdn]
  have HVAL := Lib.hid hval
  rw [hval]
  obtain ⟨W1, hW1⟩ : ∃ W, w.alloc (.cells #[.slice fa nf fc, .slice na n nc, .slice sa ns sc, .slice ta nt tc, .int .i64 (mo : Int), .int .i64 (fu : Int), .bool false] 50) = W := ⟨_, rfl⟩
  obtain ⟨r1, b1, s1⟩ := new_row hW1
  obtain ⟨W2, hW2⟩ : ∃ W, W1.alloc (.cells #[.int .i64 4, .string S, .string Z, .slice Ab nb cb] 58) = W := ⟨_, rfl⟩
  obtain ⟨r2, b2, s2⟩ := new_row hW2
  obtain ⟨g, hg⟩ : ∃ g, w.heap.size = g := ⟨_, rfl⟩
  obtain ⟨g2, hg2⟩ : ∃ g, W1.heap.size = g := ⟨_, rfl⟩
  replace r1 := (b2.block _ (by omega)).trans r1
  rw [hg] at r1
  rw [hg2] at r2
  have c1 : W2.cell? ⟨g, 1, none⟩ = some (.slice na n nc) := row_cell r1 1
  have c6 : W2.cell? ⟨g, 6, none⟩ = some (.bool false) := row_cell r1 6
  have d0 : W2.cell? ⟨g2, 0, none⟩ = some (.int .i64 4) := row_cell r2 0
  have d1 : W2.cell? ⟨g2, 1, none⟩ = some (.string S) := row_cell r2 1
  have d2 : W2.cell? ⟨g2, 2, none⟩ = some (.string Z) := row_cell r2 2
  have d3 : W2.cell? ⟨g2, 3, none⟩ = some (.slice Ab nb cb) := row_cell r2 3
  have HR1 := Lib.hid r1
  have HB2 : Hid (Below w.heap.size w W2) := Lib.hid (b1.trans (b2.mono b1.size))
  have H2 : Hid (RIn F W2 R m) := Lib.hid (H.out.below HB2.out)
  have HB3 : Hid (Below W2.heap.size W2 W2) := Lib.hid (Below.refl _ _)
  have HFND := Lib.hid (rfind_any na m.now n nc HN.out (by omega) S W2 (by have := H2.out.rn.1; rw [hna] at this; exact this))
  obtain ⟨q, hq⟩ : ∃ q, findI m.now S.data.toList = q := ⟨_, rfl⟩
  rw [hq] at HFND
  have HQ := Lib.hid hq
  have HNS := Lib.hid (rnamed_any S W2)
  have HNZ := Lib.hid (rnamed_any Z W2)
  clear h hf hn hnf hna hfa hfc hnc hsa hsc hta htc hns hnt hmo hfu hdn hval b1 s1 b2 s2 r1 r2 hq
  rw [HN1.out] at HNZ
  obtain rfl : q = (fi : Int) := by rw [← HQ.out]; exact findI_some HFI.out
  have j0 : (0 : Int) ≤ (fi : Int) := by omega
  have j00 : ¬ ((fi : Int) < 0) := by omega
  go_enter Try.func40, Try.ntmps40
  go_wp2_with fail
  try rw [hg, hg2]
  clear hg hg2 hW1 hW2
  refine HFND.out.mono ?_
  rintro e w2 ⟨rfl, rfl⟩
  go_wp2_with fail
  refine HNZ.out.mono ?_
  rintro e w3 ⟨rfl, rfl⟩
  go_wp2_with fail
  go_quiet (fail)
  go_wp2_with fail
  go_ret
  exact ⟨rfl, below_drewN HB2.out _⟩
set_option maxRecDepth 100000 in
set_option maxHeartbeats 4000000 in
theorem rw5D (hd : m.down = true) : Calls Try.prog 40 #[R.val m, .agg #[.int .i64 5, .string S, .string Z, .slice Ab nb cb]] w fun e w' => e = .returned (.int .i64 50) ∧ Below w.heap.size w w' := by
  have HD := Lib.hid hd
  clear hd
  have H := Lib.hid h
  have HF := Lib.hid hf
  obtain ⟨nf, hnf⟩ : ∃ n, m.files.length = n := ⟨_, rfl⟩
  obtain ⟨n, hn⟩ : ∃ n, m.now.length = n := ⟨_, rfl⟩
  have hnk : n ≤ 1000 := by have := hf.now; omega
  have HN := Lib.hid hn
  obtain ⟨na, hna⟩ : ∃ n, R.na = n := ⟨_, rfl⟩
  have HNA := Lib.hid hna
  obtain ⟨fa, hfa⟩ : ∃ n, R.fa = n := ⟨_, rfl⟩
  obtain ⟨fc, hfc⟩ : ∃ n, R.fc = n := ⟨_, rfl⟩
  obtain ⟨nc, hnc⟩ : ∃ n, R.nc = n := ⟨_, rfl⟩
  obtain ⟨sa, hsa⟩ : ∃ n, R.sa = n := ⟨_, rfl⟩
  obtain ⟨sc, hsc⟩ : ∃ n, R.sc = n := ⟨_, rfl⟩
  obtain ⟨ta, hta⟩ : ∃ n, R.ta = n := ⟨_, rfl⟩
  obtain ⟨tc, htc⟩ : ∃ n, R.tc = n := ⟨_, rfl⟩
  obtain ⟨ns, hns⟩ : ∃ n, m.sure.length = n := ⟨_, rfl⟩
  obtain ⟨nt, hnt⟩ : ∃ n, m.turns.length = n := ⟨_, rfl⟩
  obtain ⟨mo, hmo⟩ : ∃ n, m.most = n := ⟨_, rfl⟩
  obtain ⟨fu, hfu⟩ : ∃ n, m.fuse = n := ⟨_, rfl⟩
  have hdn := HD.out
  have hval : R.val m = .agg #[.slice fa nf fc, .slice na n nc, .slice sa ns sc, .slice ta nt tc, .int .i64 (mo : Int), .int .i64 (fu : Int), .bool true] := by
    unfold RA.val RA.row
    rw [hn, hnf, hfa, hna, hsa, hta, hfc, hnc, hsc, htc, hns, hnt, hmo, hfu, hdn]
  have HVAL := Lib.hid hval
  rw [hval]
  obtain ⟨W1, hW1⟩ : ∃ W, w.alloc (.cells #[.slice fa nf fc, .slice na n nc, .slice sa ns sc, .slice ta nt tc, .int .i64 (mo : Int), .int .i64 (fu : Int), .bool true] 50) = W := ⟨_, rfl⟩
  obtain ⟨r1, b1, s1⟩ := new_row hW1
  obtain ⟨W2, hW2⟩ : ∃ W, W1.alloc (.cells #[.int .i64 5, .string S, .string Z, .slice Ab nb cb] 58) = W := ⟨_, rfl⟩
  obtain ⟨r2, b2, s2⟩ := new_row hW2
  obtain ⟨g, hg⟩ : ∃ g, w.heap.size = g := ⟨_, rfl⟩
  obtain ⟨g2, hg2⟩ : ∃ g, W1.heap.size = g := ⟨_, rfl⟩
  replace r1 := (b2.block _ (by omega)).trans r1
  rw [hg] at r1
  rw [hg2] at r2
  have c1 : W2.cell? ⟨g, 1, none⟩ = some (.slice na n nc) := row_cell r1 1
  have c6 : W2.cell? ⟨g, 6, none⟩ = some (.bool true) := row_cell r1 6
  have d0 : W2.cell? ⟨g2, 0, none⟩ = some (.int .i64 5) := row_cell r2 0
  have d1 : W2.cell? ⟨g2, 1, none⟩ = some (.string S) := row_cell r2 1
  have d2 : W2.cell? ⟨g2, 2, none⟩ = some (.string Z) := row_cell r2 2
  have d3 : W2.cell? ⟨g2, 3, none⟩ = some (.slice Ab nb cb) := row_cell r2 3
  have HR1 := Lib.hid r1
  have HB2 : Hid (Below w.heap.size w W2) := Lib.hid (b1.trans (b2.mono b1.size))
  have H2 : Hid (RIn F W2 R m) := Lib.hid (H.out.below HB2.out)
  have HB3 : Hid (Below W2.heap.size W2 W2) := Lib.hid (Below.refl _ _)
  have HFND := Lib.hid (rfind_any na m.now n nc HN.out (by omega) S W2 (by have := H2.out.rn.1; rw [hna] at this; exact this))
  obtain ⟨q, hq⟩ : ∃ q, findI m.now S.data.toList = q := ⟨_, rfl⟩
  rw [hq] at HFND
  have HQ := Lib.hid hq
  have HNS := Lib.hid (rnamed_any S W2)
  have HNZ := Lib.hid (rnamed_any Z W2)
  clear h hf hn hnf hna hfa hfc hnc hsa hsc hta htc hns hnt hmo hfu hdn hval b1 s1 b2 s2 r1 r2 hq
  go_enter Try.func40, Try.ntmps40
  go_wp2_with fail
  try rw [hg, hg2]
  clear hg hg2 hW1 hW2
  refine HFND.out.mono ?_
  rintro e w2 ⟨rfl, rfl⟩
  go_wp2_with fail
  go_ret
  exact ⟨rfl, HB2.out⟩
set_option maxRecDepth 100000 in
set_option maxHeartbeats 4000000 in
theorem rw5X (hd : m.down = false) (hfi : findN m.now S.data.toList = none) : Calls Try.prog 40 #[R.val m, .agg #[.int .i64 5, .string S, .string Z, .slice Ab nb cb]] w fun e w' => e = .returned (.int .i64 4) ∧ Below w.heap.size w w' := by
  have HFI := Lib.hid hfi
  clear hfi
  have HD := Lib.hid hd
  clear hd
  have H := Lib.hid h
  have HF := Lib.hid hf
  obtain ⟨nf, hnf⟩ : ∃ n, m.files.length = n := ⟨_, rfl⟩
  obtain ⟨n, hn⟩ : ∃ n, m.now.length = n := ⟨_, rfl⟩
  have hnk : n ≤ 1000 := by have := hf.now; omega
  have HN := Lib.hid hn
  obtain ⟨na, hna⟩ : ∃ n, R.na = n := ⟨_, rfl⟩
  have HNA := Lib.hid hna
  obtain ⟨fa, hfa⟩ : ∃ n, R.fa = n := ⟨_, rfl⟩
  obtain ⟨fc, hfc⟩ : ∃ n, R.fc = n := ⟨_, rfl⟩
  obtain ⟨nc, hnc⟩ : ∃ n, R.nc = n := ⟨_, rfl⟩
  obtain ⟨sa, hsa⟩ : ∃ n, R.sa = n := ⟨_, rfl⟩
  obtain ⟨sc, hsc⟩ : ∃ n, R.sc = n := ⟨_, rfl⟩
  obtain ⟨ta, hta⟩ : ∃ n, R.ta = n := ⟨_, rfl⟩
  obtain ⟨tc, htc⟩ : ∃ n, R.tc = n := ⟨_, rfl⟩
  obtain ⟨ns, hns⟩ : ∃ n, m.sure.length = n := ⟨_, rfl⟩
  obtain ⟨nt, hnt⟩ : ∃ n, m.turns.length = n := ⟨_, rfl⟩
  obtain ⟨mo, hmo⟩ : ∃ n, m.most = n := ⟨_, rfl⟩
  obtain ⟨fu, hfu⟩ : ∃ n, m.fuse = n := ⟨_, rfl⟩
  have hdn := HD.out
  have hval : R.val m = .agg #[.slice fa nf fc, .slice na n nc, .slice sa ns sc, .slice ta nt tc, .int .i64 (mo : Int), .int .i64 (fu : Int), .bool false] := by
    unfold RA.val RA.row
    rw [hn, hnf, hfa, hna, hsa, hta, hfc, hnc, hsc, htc, hns, hnt, hmo, hfu, hdn]
  have HVAL := Lib.hid hval
  rw [hval]
  obtain ⟨W1, hW1⟩ : ∃ W, w.alloc (.cells #[.slice fa nf fc, .slice na n nc, .slice sa ns sc, .slice ta nt tc, .int .i64 (mo : Int), .int .i64 (fu : Int), .bool false] 50) = W := ⟨_, rfl⟩
  obtain ⟨r1, b1, s1⟩ := new_row hW1
  obtain ⟨W2, hW2⟩ : ∃ W, W1.alloc (.cells #[.int .i64 5, .string S, .string Z, .slice Ab nb cb] 58) = W := ⟨_, rfl⟩
  obtain ⟨r2, b2, s2⟩ := new_row hW2
  obtain ⟨g, hg⟩ : ∃ g, w.heap.size = g := ⟨_, rfl⟩
  obtain ⟨g2, hg2⟩ : ∃ g, W1.heap.size = g := ⟨_, rfl⟩
  replace r1 := (b2.block _ (by omega)).trans r1
  rw [hg] at r1
  rw [hg2] at r2
  have c1 : W2.cell? ⟨g, 1, none⟩ = some (.slice na n nc) := row_cell r1 1
  have c6 : W2.cell? ⟨g, 6, none⟩ = some (.bool false) := row_cell r1 6
  have d0 : W2.cell? ⟨g2, 0, none⟩ = some (.int .i64 5) := row_cell r2 0
  have d1 : W2.cell? ⟨g2, 1, none⟩ = some (.string S) := row_cell r2 1
  have d2 : W2.cell? ⟨g2, 2, none⟩ = some (.string Z) := row_cell r2 2
  have d3 : W2.cell? ⟨g2, 3, none⟩ = some (.slice Ab nb cb) := row_cell r2 3
  have HR1 := Lib.hid r1
  have HB2 : Hid (Below w.heap.size w W2) := Lib.hid (b1.trans (b2.mono b1.size))
  have H2 : Hid (RIn F W2 R m) := Lib.hid (H.out.below HB2.out)
  have HB3 : Hid (Below W2.heap.size W2 W2) := Lib.hid (Below.refl _ _)
  have HFND := Lib.hid (rfind_any na m.now n nc HN.out (by omega) S W2 (by have := H2.out.rn.1; rw [hna] at this; exact this))
  obtain ⟨q, hq⟩ : ∃ q, findI m.now S.data.toList = q := ⟨_, rfl⟩
  rw [hq] at HFND
  have HQ := Lib.hid hq
  have HNS := Lib.hid (rnamed_any S W2)
  have HNZ := Lib.hid (rnamed_any Z W2)
  clear h hf hn hnf hna hfa hfc hnc hsa hsc hta htc hns hnt hmo hfu hdn hval b1 s1 b2 s2 r1 r2 hq
  obtain rfl : q = -1 := by rw [← HQ.out]; exact findI_none HFI.out
  go_enter Try.func40, Try.ntmps40
  go_wp2_with fail
  try rw [hg, hg2]
  clear hg hg2 hW1 hW2
  refine HFND.out.mono ?_
  rintro e w2 ⟨rfl, rfl⟩
  go_wp2_with fail
  go_ret
  exact ⟨rfl, HB2.out⟩
set_option maxRecDepth 100000 in
set_option maxHeartbeats 4000000 in
theorem rw5O (hd : m.down = false) (fi : Nat) (hfi : findN m.now S.data.toList = some fi) : Calls Try.prog 40 #[R.val m, .agg #[.int .i64 5, .string S, .string Z, .slice Ab nb cb]] w fun e w' => e = .returned (.int .i64 0) ∧ Below w.heap.size w w' := by
  have HFI := Lib.hid hfi
  clear hfi
  have HD := Lib.hid hd
  clear hd
  have H := Lib.hid h
  have HF := Lib.hid hf
  obtain ⟨nf, hnf⟩ : ∃ n, m.files.length = n := ⟨_, rfl⟩
  obtain ⟨n, hn⟩ : ∃ n, m.now.length = n := ⟨_, rfl⟩
  have hnk : n ≤ 1000 := by have := hf.now; omega
  have HN := Lib.hid hn
  obtain ⟨na, hna⟩ : ∃ n, R.na = n := ⟨_, rfl⟩
  have HNA := Lib.hid hna
  obtain ⟨fa, hfa⟩ : ∃ n, R.fa = n := ⟨_, rfl⟩
  obtain ⟨fc, hfc⟩ : ∃ n, R.fc = n := ⟨_, rfl⟩
  obtain ⟨nc, hnc⟩ : ∃ n, R.nc = n := ⟨_, rfl⟩
  obtain ⟨sa, hsa⟩ : ∃ n, R.sa = n := ⟨_, rfl⟩
  obtain ⟨sc, hsc⟩ : ∃ n, R.sc = n := ⟨_, rfl⟩
  obtain ⟨ta, hta⟩ : ∃ n, R.ta = n := ⟨_, rfl⟩
  obtain ⟨tc, htc⟩ : ∃ n, R.tc = n := ⟨_, rfl⟩
  obtain ⟨ns, hns⟩ : ∃ n, m.sure.length = n := ⟨_, rfl⟩
  obtain ⟨nt, hnt⟩ : ∃ n, m.turns.length = n := ⟨_, rfl⟩
  obtain ⟨mo, hmo⟩ : ∃ n, m.most = n := ⟨_, rfl⟩
  obtain ⟨fu, hfu⟩ : ∃ n, m.fuse = n := ⟨_, rfl⟩
  have hdn := HD.out
  have hval : R.val m = .agg #[.slice fa nf fc, .slice na n nc, .slice sa ns sc, .slice ta nt tc, .int .i64 (mo : Int), .int .i64 (fu : Int), .bool false] := by
    unfold RA.val RA.row
    rw [hn, hnf, hfa, hna, hsa, hta, hfc, hnc, hsc, htc, hns, hnt, hmo, hfu, hdn]
  have HVAL := Lib.hid hval
  rw [hval]
  obtain ⟨W1, hW1⟩ : ∃ W, w.alloc (.cells #[.slice fa nf fc, .slice na n nc, .slice sa ns sc, .slice ta nt tc, .int .i64 (mo : Int), .int .i64 (fu : Int), .bool false] 50) = W := ⟨_, rfl⟩
  obtain ⟨r1, b1, s1⟩ := new_row hW1
  obtain ⟨W2, hW2⟩ : ∃ W, W1.alloc (.cells #[.int .i64 5, .string S, .string Z, .slice Ab nb cb] 58) = W := ⟨_, rfl⟩
  obtain ⟨r2, b2, s2⟩ := new_row hW2
  obtain ⟨g, hg⟩ : ∃ g, w.heap.size = g := ⟨_, rfl⟩
  obtain ⟨g2, hg2⟩ : ∃ g, W1.heap.size = g := ⟨_, rfl⟩
  replace r1 := (b2.block _ (by omega)).trans r1
  rw [hg] at r1
  rw [hg2] at r2
  have c1 : W2.cell? ⟨g, 1, none⟩ = some (.slice na n nc) := row_cell r1 1
  have c6 : W2.cell? ⟨g, 6, none⟩ = some (.bool false) := row_cell r1 6
  have d0 : W2.cell? ⟨g2, 0, none⟩ = some (.int .i64 5) := row_cell r2 0
  have d1 : W2.cell? ⟨g2, 1, none⟩ = some (.string S) := row_cell r2 1
  have d2 : W2.cell? ⟨g2, 2, none⟩ = some (.string Z) := row_cell r2 2
  have d3 : W2.cell? ⟨g2, 3, none⟩ = some (.slice Ab nb cb) := row_cell r2 3
  have HR1 := Lib.hid r1
  have HB2 : Hid (Below w.heap.size w W2) := Lib.hid (b1.trans (b2.mono b1.size))
  have H2 : Hid (RIn F W2 R m) := Lib.hid (H.out.below HB2.out)
  have HB3 : Hid (Below W2.heap.size W2 W2) := Lib.hid (Below.refl _ _)
  have HFND := Lib.hid (rfind_any na m.now n nc HN.out (by omega) S W2 (by have := H2.out.rn.1; rw [hna] at this; exact this))
  obtain ⟨q, hq⟩ : ∃ q, findI m.now S.data.toList = q := ⟨_, rfl⟩
  rw [hq] at HFND
  have HQ := Lib.hid hq
  have HNS := Lib.hid (rnamed_any S W2)
  have HNZ := Lib.hid (rnamed_any Z W2)
  clear h hf hn hnf hna hfa hfc hnc hsa hsc hta htc hns hnt hmo hfu hdn hval b1 s1 b2 s2 r1 r2 hq
  obtain rfl : q = (fi : Int) := by rw [← HQ.out]; exact findI_some HFI.out
  have j0 : (0 : Int) ≤ (fi : Int) := by omega
  have j00 : ¬ ((fi : Int) < 0) := by omega
  go_enter Try.func40, Try.ntmps40
  go_wp2_with fail
  try rw [hg, hg2]
  clear hg hg2 hW1 hW2
  refine HFND.out.mono ?_
  rintro e w2 ⟨rfl, rfl⟩
  go_wp2_with fail
  go_quiet (fail)
  go_wp2_with fail
  go_ret
  exact ⟨rfl, below_drewN HB2.out _⟩
set_option maxRecDepth 100000 in
set_option maxHeartbeats 4000000 in
theorem rw6D (hd : m.down = true) : Calls Try.prog 40 #[R.val m, .agg #[.int .i64 6, .string S, .string Z, .slice Ab nb cb]] w fun e w' => e = .returned (.int .i64 50) ∧ Below w.heap.size w w' := by
  have HD := Lib.hid hd
  clear hd
  have H := Lib.hid h
  have HF := Lib.hid hf
  obtain ⟨nf, hnf⟩ : ∃ n, m.files.length = n := ⟨_, rfl⟩
  obtain ⟨n, hn⟩ : ∃ n, m.now.length = n := ⟨_, rfl⟩
  have hnk : n ≤ 1000 := by have := hf.now; omega
  have HN := Lib.hid hn
  obtain ⟨na, hna⟩ : ∃ n, R.na = n := ⟨_, rfl⟩
  have HNA := Lib.hid hna
  obtain ⟨fa, hfa⟩ : ∃ n, R.fa = n := ⟨_, rfl⟩
  obtain ⟨fc, hfc⟩ : ∃ n, R.fc = n := ⟨_, rfl⟩
  obtain ⟨nc, hnc⟩ : ∃ n, R.nc = n := ⟨_, rfl⟩
  obtain ⟨sa, hsa⟩ : ∃ n, R.sa = n := ⟨_, rfl⟩
  obtain ⟨sc, hsc⟩ : ∃ n, R.sc = n := ⟨_, rfl⟩
  obtain ⟨ta, hta⟩ : ∃ n, R.ta = n := ⟨_, rfl⟩
  obtain ⟨tc, htc⟩ : ∃ n, R.tc = n := ⟨_, rfl⟩
  obtain ⟨ns, hns⟩ : ∃ n, m.sure.length = n := ⟨_, rfl⟩
  obtain ⟨nt, hnt⟩ : ∃ n, m.turns.length = n := ⟨_, rfl⟩
  obtain ⟨mo, hmo⟩ : ∃ n, m.most = n := ⟨_, rfl⟩
  obtain ⟨fu, hfu⟩ : ∃ n, m.fuse = n := ⟨_, rfl⟩
  have hdn := HD.out
  have hval : R.val m = .agg #[.slice fa nf fc, .slice na n nc, .slice sa ns sc, .slice ta nt tc, .int .i64 (mo : Int), .int .i64 (fu : Int), .bool true] := by
    unfold RA.val RA.row
    rw [hn, hnf, hfa, hna, hsa, hta, hfc, hnc, hsc, htc, hns, hnt, hmo, hfu, hdn]
  have HVAL := Lib.hid hval
  rw [hval]
  obtain ⟨W1, hW1⟩ : ∃ W, w.alloc (.cells #[.slice fa nf fc, .slice na n nc, .slice sa ns sc, .slice ta nt tc, .int .i64 (mo : Int), .int .i64 (fu : Int), .bool true] 50) = W := ⟨_, rfl⟩
  obtain ⟨r1, b1, s1⟩ := new_row hW1
  obtain ⟨W2, hW2⟩ : ∃ W, W1.alloc (.cells #[.int .i64 6, .string S, .string Z, .slice Ab nb cb] 58) = W := ⟨_, rfl⟩
  obtain ⟨r2, b2, s2⟩ := new_row hW2
  obtain ⟨g, hg⟩ : ∃ g, w.heap.size = g := ⟨_, rfl⟩
  obtain ⟨g2, hg2⟩ : ∃ g, W1.heap.size = g := ⟨_, rfl⟩
  replace r1 := (b2.block _ (by omega)).trans r1
  rw [hg] at r1
  rw [hg2] at r2
  have c1 : W2.cell? ⟨g, 1, none⟩ = some (.slice na n nc) := row_cell r1 1
  have c6 : W2.cell? ⟨g, 6, none⟩ = some (.bool true) := row_cell r1 6
  have d0 : W2.cell? ⟨g2, 0, none⟩ = some (.int .i64 6) := row_cell r2 0
  have d1 : W2.cell? ⟨g2, 1, none⟩ = some (.string S) := row_cell r2 1
  have d2 : W2.cell? ⟨g2, 2, none⟩ = some (.string Z) := row_cell r2 2
  have d3 : W2.cell? ⟨g2, 3, none⟩ = some (.slice Ab nb cb) := row_cell r2 3
  have HR1 := Lib.hid r1
  have HB2 : Hid (Below w.heap.size w W2) := Lib.hid (b1.trans (b2.mono b1.size))
  have H2 : Hid (RIn F W2 R m) := Lib.hid (H.out.below HB2.out)
  have HB3 : Hid (Below W2.heap.size W2 W2) := Lib.hid (Below.refl _ _)
  have HFND := Lib.hid (rfind_any na m.now n nc HN.out (by omega) S W2 (by have := H2.out.rn.1; rw [hna] at this; exact this))
  obtain ⟨q, hq⟩ : ∃ q, findI m.now S.data.toList = q := ⟨_, rfl⟩
  rw [hq] at HFND
  have HQ := Lib.hid hq
  have HNS := Lib.hid (rnamed_any S W2)
  have HNZ := Lib.hid (rnamed_any Z W2)
  clear h hf hn hnf hna hfa hfc hnc hsa hsc hta htc hns hnt hmo hfu hdn hval b1 s1 b2 s2 r1 r2 hq
  go_enter Try.func40, Try.ntmps40
  go_wp2_with fail
  try rw [hg, hg2]
  clear hg hg2 hW1 hW2
  refine HFND.out.mono ?_
  rintro e w2 ⟨rfl, rfl⟩
  go_wp2_with fail
  go_ret
  exact ⟨rfl, HB2.out⟩
set_option maxRecDepth 100000 in
set_option maxHeartbeats 4000000 in
theorem rw6O (hd : m.down = false) : Calls Try.prog 40 #[R.val m, .agg #[.int .i64 6, .string S, .string Z, .slice Ab nb cb]] w fun e w' => e = .returned (.int .i64 0) ∧ Below w.heap.size w w' := by
  have HD := Lib.hid hd
  clear hd
  have H := Lib.hid h
  have HF := Lib.hid hf
  obtain ⟨nf, hnf⟩ : ∃ n, m.files.length = n := ⟨_, rfl⟩
  obtain ⟨n, hn⟩ : ∃ n, m.now.length = n := ⟨_, rfl⟩
  have hnk : n ≤ 1000 := by have := hf.now; omega
  have HN := Lib.hid hn
  obtain ⟨na, hna⟩ : ∃ n, R.na = n := ⟨_, rfl⟩
  have HNA := Lib.hid hna
  obtain ⟨fa, hfa⟩ : ∃ n, R.fa = n := ⟨_, rfl⟩
  obtain ⟨fc, hfc⟩ : ∃ n, R.fc = n := ⟨_, rfl⟩
  obtain ⟨nc, hnc⟩ : ∃ n, R.nc = n := ⟨_, rfl⟩
  obtain ⟨sa, hsa⟩ : ∃ n, R.sa = n := ⟨_, rfl⟩
  obtain ⟨sc, hsc⟩ : ∃ n, R.sc = n := ⟨_, rfl⟩
  obtain ⟨ta, hta⟩ : ∃ n, R.ta = n := ⟨_, rfl⟩
  obtain ⟨tc, htc⟩ : ∃ n, R.tc = n := ⟨_, rfl⟩
  obtain ⟨ns, hns⟩ : ∃ n, m.sure.length = n := ⟨_, rfl⟩
  obtain ⟨nt, hnt⟩ : ∃ n, m.turns.length = n := ⟨_, rfl⟩
  obtain ⟨mo, hmo⟩ : ∃ n, m.most = n := ⟨_, rfl⟩
  obtain ⟨fu, hfu⟩ : ∃ n, m.fuse = n := ⟨_, rfl⟩
  have hdn := HD.out
  have hval : R.val m = .agg #[.slice fa nf fc, .slice na n nc, .slice sa ns sc, .slice ta nt tc, .int .i64 (mo : Int), .int .i64 (fu : Int), .bool false] := by
    unfold RA.val RA.row
    rw [hn, hnf, hfa, hna, hsa, hta, hfc, hnc, hsc, htc, hns, hnt, hmo, hfu, hdn]
  have HVAL := Lib.hid hval
  rw [hval]
  obtain ⟨W1, hW1⟩ : ∃ W, w.alloc (.cells #[.slice fa nf fc, .slice na n nc, .slice sa ns sc, .slice ta nt tc, .int .i64 (mo : Int), .int .i64 (fu : Int), .bool false] 50) = W := ⟨_, rfl⟩
  obtain ⟨r1, b1, s1⟩ := new_row hW1
  obtain ⟨W2, hW2⟩ : ∃ W, W1.alloc (.cells #[.int .i64 6, .string S, .string Z, .slice Ab nb cb] 58) = W := ⟨_, rfl⟩
  obtain ⟨r2, b2, s2⟩ := new_row hW2
  obtain ⟨g, hg⟩ : ∃ g, w.heap.size = g := ⟨_, rfl⟩
  obtain ⟨g2, hg2⟩ : ∃ g, W1.heap.size = g := ⟨_, rfl⟩
  replace r1 := (b2.block _ (by omega)).trans r1
  rw [hg] at r1
  rw [hg2] at r2
  have c1 : W2.cell? ⟨g, 1, none⟩ = some (.slice na n nc) := row_cell r1 1
  have c6 : W2.cell? ⟨g, 6, none⟩ = some (.bool false) := row_cell r1 6
  have d0 : W2.cell? ⟨g2, 0, none⟩ = some (.int .i64 6) := row_cell r2 0
  have d1 : W2.cell? ⟨g2, 1, none⟩ = some (.string S) := row_cell r2 1
  have d2 : W2.cell? ⟨g2, 2, none⟩ = some (.string Z) := row_cell r2 2
  have d3 : W2.cell? ⟨g2, 3, none⟩ = some (.slice Ab nb cb) := row_cell r2 3
  have HR1 := Lib.hid r1
  have HB2 : Hid (Below w.heap.size w W2) := Lib.hid (b1.trans (b2.mono b1.size))
  have H2 : Hid (RIn F W2 R m) := Lib.hid (H.out.below HB2.out)
  have HB3 : Hid (Below W2.heap.size W2 W2) := Lib.hid (Below.refl _ _)
  have HFND := Lib.hid (rfind_any na m.now n nc HN.out (by omega) S W2 (by have := H2.out.rn.1; rw [hna] at this; exact this))
  obtain ⟨q, hq⟩ : ∃ q, findI m.now S.data.toList = q := ⟨_, rfl⟩
  rw [hq] at HFND
  have HQ := Lib.hid hq
  have HNS := Lib.hid (rnamed_any S W2)
  have HNZ := Lib.hid (rnamed_any Z W2)
  clear h hf hn hnf hna hfa hfc hnc hsa hsc hta htc hns hnt hmo hfu hdn hval b1 s1 b2 s2 r1 r2 hq
  go_enter Try.func40, Try.ntmps40
  go_wp2_with fail
  try rw [hg, hg2]
  clear hg hg2 hW1 hW2
  refine HFND.out.mono ?_
  rintro e w2 ⟨rfl, rfl⟩
  go_wp2_with fail
  go_quiet (fail)
  go_wp2_with fail
  go_ret
  exact ⟨rfl, below_drewN HB2.out _⟩
end

end Go.Proofs.Ytpmifpblamjclaa
