
/- The document's disk: Do: an error; the power goes; Flush. (Printed by wip/genDp8.py.) -/

import Derived.Test.YtpmifpblamjclaaDp7

namespace Go.Proofs.Ytpmifpblamjclaa

set_option linter.unusedVariables false

set_option linter.unusedSimpArgs false

set_option linter.unusedSectionVars false

open Go.RowKit

theorem info_op4 {a b c d : Value} : (Try.prog.info? 58).map (·.size) = some (#[a, b, c, d] : Array Value).size := by kernel_rfl
theorem info_tn3a {a b c : Value} : (Try.prog.info? 90).map (·.size) = some (#[a, b, c] : Array Value).size := by kernel_rfl
theorem info_fl2a {a b : Value} : (Try.prog.info? 92).map (·.size) = some (#[a, b] : Array Value).size := by kernel_rfl
theorem cells3 {a b : ByteArray} {c : Int} : (#[.string a, .string b, .int .i64 c] : Array Value).all (·.oneCell') = true := by simp [Value.oneCell']
theorem cells2 {A : Option Addr} {a b : Nat} {c : Int} : (#[.slice A a b, .int .i64 c] : Array Value).all (·.oneCell') = true := by simp [Value.oneCell']
/-- the blocks that Do writes -/
def sF (F : Nat → Prop) (g g3 gt gf : Nat) : Nat → Prop := fun b => F b ∨ b = g ∨ b = g3 ∨ b = gt ∨ b = gf
section

variable {F : Nat → Prop} {w : World} {R : RA} {m m' : DM}

theorem RIn.same (h : RIn F w R m) (h1 : m'.files = m.files) (h2 : m'.now = m.now) (h3 : m'.sure = m.sure) (h4 : m'.turns = m.turns) : RIn F w R m' :=
  ⟨h1.trans h.fm, h.rf, h.rb, by rw [h2]; exact h.rn, by rw [h3]; exact h.rs, by rw [h4]; exact h.rt⟩
theorem RIn.setf (h : RIn F w R m) {A : Option Addr} {c fi : Nat} {p : PV × Nat} (hA : RdF F w A (filesC (R.fs.set fi p))) (hp : RdF F w p.1.A (b8s p.1.bs) ∧ p.1.bs.length ≤ p.1.c ∧ p.1.c ≤ 9223372036854775807) :
    RIn F w { R with fs := R.fs.set fi p, fa := A, fc := c } (setF m fi (filM p)) := by
  refine ⟨?_, hA, fun q hq => ?_, h.rn, h.rs, h.rt⟩
  · show m.files.set fi (filM p) = (R.fs.set fi p).map filM
    rw [h.fm, List.map_set]
  · rcases List.mem_or_eq_of_mem_set hq with hq | rfl
    · exact h.rb q hq
    · exact hp
theorem RIn.newf (h : RIn F w R m) {A : Option Addr} {c : Nat} (hA : RdF F w A (filesC (R.fs ++ [((⟨none, 0, []⟩ : PV), 0)]))) :
    RIn F w { R with fs := R.fs ++ [((⟨none, 0, []⟩ : PV), 0)], fa := A, fc := c } { m with files := m.files ++ [⟨[], 0⟩] } := by
  refine ⟨?_, hA, fun q hq => ?_, h.rn, h.rs, h.rt⟩
  · show m.files ++ [⟨[], 0⟩] = (R.fs ++ [((⟨none, 0, []⟩ : PV), 0)]).map filM
    rw [h.fm, List.map_append]
    rfl
  · rcases List.mem_append.1 hq with hq | hq
    · exact h.rb q hq
    · rw [List.mem_singleton.1 hq]
      exact ⟨RdF.nil, Nat.le_refl _, by decide⟩
theorem RIn.turned (h : RIn F w R m) {A B : Option Addr} {c c' : Nat} {t : TM} {ns : NM} (hA : RdF F w A (turnsR (m.turns ++ [t]))) (hB : RdF F w B (namesR ns)) :
    RIn F w { R with ta := A, tc := c, na := B, nc := c' } { m with now := ns, turns := m.turns ++ [t] } := ⟨h.fm, h.rf, h.rb, hB, h.rs, hA⟩
theorem RIn.flushed (h : RIn F w R m) {A : Option Addr} {c : Nat} :
    RIn F w { R with sa := R.na, sc := R.nc, ta := A, tc := c } { m with sure := m.now, turns := [] } := ⟨h.fm, h.rf, h.rb, h.rn, h.rn, RdF.nil⟩
end

theorem tn_one3 {a b : ByteArray} {c : Int} : ∀ u ∈ ([.string a, .string b, .int .i64 c] : List Value), u.oneCell' = true := by
  intro u hu
  simp only [List.mem_cons, List.not_mem_nil, or_false] at hu
  rcases hu with rfl | rfl | rfl <;> rfl
section

variable {K L : Nat} {F : Nat → Prop} (R : RA) (m : DM) (S Z : ByteArray) (Ab : Option Addr) (nb cb : Nat) (bs : List UInt8) (w : World) (h : RIn F w R m) (hF : ∀ b, F b → b < w.heap.size) (hf : Fit K L m) (hK : K ≤ 998) (hL : L ≤ 999999) (hnb : nb = bs.length ∧ nb ≤ 1000000) (hbs : Rd w Ab (b8s bs))
include h hF hf hK hL hnb hbs
set_option maxRecDepth 100000 in
set_option maxHeartbeats 16000000 in
theorem rdo_err (k : Nat) (hk : 1 ≤ k ∧ k ≤ 6) (e' : Int) (he : wrongM m (k : Int) S.data.toList Z.data.toList nb = e') (hne : e' ≠ 0) :
    Calls Try.prog 25 #[R.val m, .agg #[.int .i64 (k : Int), .string S, .string Z, .slice Ab nb cb]] w fun e w' => e = .returned (.tuple #[R.val m, .int .i64 e']) ∧ Below w.heap.size w w' := by
  have z1 : (e' != 0) = true := by rw [bne_iff_ne]; exact hne
  have H := Lib.hid h
  have HF := Lib.hid hf
  have HFW := Lib.hid hF
  have HBS := Lib.hid hbs
  have HNB := Lib.hid hnb
  have hnb' := hnb.2
  have hflk := hf.files
  have hnwk := hf.now
  have hstk := hf.st
  have hfuk := hf.fuse
  have hlk : ∀ i, (fileM m i).b.length ≤ L ∧ (fileM m i).safe ≤ (fileM m i).b.length := fun i => hf.fileM i
  have HLK := Lib.hid hlk
  clear hlk
  obtain ⟨nf, hnf⟩ : ∃ n, m.files.length = n := ⟨_, rfl⟩
  obtain ⟨n, hn⟩ : ∃ n, m.now.length = n := ⟨_, rfl⟩
  have hnk : n ≤ 998 := by omega
  have hnfk : nf ≤ 998 := by omega
  obtain ⟨na, hna⟩ : ∃ n, R.na = n := ⟨_, rfl⟩
  obtain ⟨fa, hfa⟩ : ∃ n, R.fa = n := ⟨_, rfl⟩
  obtain ⟨fc, hfc⟩ : ∃ n, R.fc = n := ⟨_, rfl⟩
  obtain ⟨nc, hnc⟩ : ∃ n, R.nc = n := ⟨_, rfl⟩
  obtain ⟨sa, hsa⟩ : ∃ n, R.sa = n := ⟨_, rfl⟩
  obtain ⟨sc, hsc⟩ : ∃ n, R.sc = n := ⟨_, rfl⟩
  obtain ⟨ta, hta⟩ : ∃ n, R.ta = n := ⟨_, rfl⟩
  obtain ⟨tc, htc⟩ : ∃ n, R.tc = n := ⟨_, rfl⟩
  obtain ⟨ns, hns⟩ : ∃ n, m.sure.length = n := ⟨_, rfl⟩
  obtain ⟨nt, hnt⟩ : ∃ n, m.turns.length = n := ⟨_, rfl⟩
  have hntk : nt ≤ 998 := by omega
  obtain ⟨mo, hmo⟩ : ∃ n, m.most = n := ⟨_, rfl⟩
  obtain ⟨fu, hfu⟩ : ∃ n, m.fuse = n := ⟨_, rfl⟩
  obtain ⟨dn, hdn⟩ : ∃ n, m.down = n := ⟨_, rfl⟩
  have HEQ : Hid (m.files.length = nf ∧ m.now.length = n ∧ R.na = na ∧ R.fa = fa ∧ R.fc = fc ∧ R.nc = nc ∧ R.sa = sa ∧ R.sc = sc ∧ R.ta = ta ∧ R.tc = tc ∧ m.sure.length = ns ∧ m.turns.length = nt ∧ m.most = mo) := Lib.hid ⟨hnf, hn, hna, hfa, hfc, hnc, hsa, hsc, hta, htc, hns, hnt, hmo⟩
  have HVAL : Hid (R.val m = .agg #[.slice fa nf fc, .slice na n nc, .slice sa ns sc, .slice ta nt tc, .int .i64 (mo : Int), .int .i64 (fu : Int), .bool dn]) := Lib.hid (by
    unfold RA.val RA.row
    rw [hn, hnf, hfa, hna, hsa, hta, hfc, hnc, hsc, htc, hns, hnt, hmo, hfu, hdn]
    try first | rfl | simp)
  have HN := Lib.hid hn
  have HNF := Lib.hid hnf
  have HFU := Lib.hid hfu
  have HDN := Lib.hid hdn
  rw [HVAL.out]
  obtain ⟨g, hg⟩ : ∃ g, w.heap.size = g := ⟨_, rfl⟩
  have HGW := Lib.hid hg
  obtain ⟨W1, hW1⟩ : ∃ W, w.alloc (.cells #[.slice fa nf fc, .slice na n nc, .slice sa ns sc, .slice ta nt tc, .int .i64 (mo : Int), .int .i64 (fu : Int), .bool dn] 50) = W := ⟨_, rfl⟩
  obtain ⟨r1, b1, s1⟩ := new_row hW1
  obtain ⟨W2, hW2⟩ : ∃ W, W1.alloc (.cells #[.int .i64 (k : Int), .string S, .string Z, .slice Ab nb cb] 58) = W := ⟨_, rfl⟩
  obtain ⟨r2, b2, s2⟩ := new_row hW2
  obtain ⟨W3, hW3⟩ : ∃ W, W2.alloc (.cells #[.slice none 0 0, .slice none 0 0, .slice none 0 0, .slice none 0 0, .int .i64 0, .int .i64 0, .bool false] 50) = W := ⟨_, rfl⟩
  obtain ⟨r3, b3, s3⟩ := new_row hW3
  obtain ⟨g2, hg2⟩ : ∃ g, W1.heap.size = g := ⟨_, rfl⟩
  obtain ⟨g3, hg3⟩ : ∃ g, W2.heap.size = g := ⟨_, rfl⟩
  have hl1 : g < g2 := by omega
  have hl2 : g2 < g3 := by omega
  replace r1 := (b3.block _ (by omega)).trans ((b2.block _ (by omega)).trans r1)
  replace r2 := (b3.block _ (by omega)).trans r2
  rw [hg] at r1
  rw [hg2] at r2
  rw [hg3] at r3
  have R3g := Lib.hid r1
  have R3o := Lib.hid r2
  have R3z := Lib.hid r3
  have B3 : Hid (Below w.heap.size w W3) := Lib.hid (b1.trans ((b2.mono b1.size).trans (b3.mono (Nat.le_trans b1.size b2.size))))
  have HWR : Hid (Calls Try.prog 40 #[R.val m, .agg #[.int .i64 (k : Int), .string S, .string Z, .slice Ab nb cb]] W3 fun e w' => e = .returned (.int .i64 e') ∧ Below W3.heap.size W3 w') := Lib.hid (rwrong_any R m S Z Ab nb cb W3 (h.below B3.out) hf (by omega) (by omega) hnb' k hk e' he)
  rw [HVAL.out] at HWR
  clear h hf hF hbs hnb he hn hnf hna hfa hfc hnc hsa hsc hta htc hns hnt hmo hfu hdn b1 s1 b2 s2 b3 s3 hflk hnwk hstk hfuk hne
  go_enter Try.func25, Try.ntmps25
  go_wp2_with (first
    | (refine wpList_load_row rfl _ _ rfl _ rfl _ _ _ _ r1 Try.underlying50 rfl info_dk7 ?_)
    | (refine wpList_load_row rfl _ _ rfl _ rfl _ _ _ _ r2 Try.underlying58 rfl info_op4 ?_))
  try rw [hg, hg2, hg3]
  clear hg hg2 hg3 hW1 hW2 hW3 r1 r2 r3
  refine HWR.out.mono ?_
  rintro e w4 ⟨rfl, hb4⟩
  have R4g : Hid (w4.heap[g]? = some (.cells #[.slice fa nf fc, .slice na n nc, .slice sa ns sc, .slice ta nt tc, .int .i64 (mo : Int), .int .i64 (fu : Int), .bool dn] 50 (0, 0))) := Lib.hid ((hb4.block _ (Array.getElem?_eq_some_iff.1 R3g.out).1).trans R3g.out)
  have R4o : Hid (w4.heap[g2]? = some (.cells #[.int .i64 (k : Int), .string S, .string Z, .slice Ab nb cb] 58 (0, 0))) := Lib.hid ((hb4.block _ (Array.getElem?_eq_some_iff.1 R3o.out).1).trans R3o.out)
  have R4z : Hid (w4.heap[g3]? = some (.cells #[.slice none 0 0, .slice none 0 0, .slice none 0 0, .slice none 0 0, .int .i64 0, .int .i64 0, .bool false] 50 (0, 0))) := Lib.hid ((hb4.block _ (Array.getElem?_eq_some_iff.1 R3z.out).1).trans R3z.out)
  have B4 : Hid (Below w.heap.size w w4) := Lib.hid (B3.out.trans (hb4.mono B3.out.size))
  obtain ⟨W5, hW5, T5, R5z, G5⟩ := put_row (new := [.slice fa nf fc, .slice na n nc, .slice sa ns sc, .slice ta nt tc, .int .i64 (mo : Int), .int .i64 (fu : Int), .bool dn]) R4z.out rfl
  have HW5 := Lib.hid hW5
  clear hW5
  have R5g : Hid (W5.heap[g]? = some (.cells #[.slice fa nf fc, .slice na n nc, .slice sa ns sc, .slice ta nt tc, .int .i64 (mo : Int), .int .i64 (fu : Int), .bool dn] 50 (0, 0))) := Lib.hid (row_other R4g.out G5.out (by omega) (Array.getElem?_eq_some_iff.1 R4g.out).1)
  have R5o : Hid (W5.heap[g2]? = some (.cells #[.int .i64 (k : Int), .string S, .string Z, .slice Ab nb cb] 58 (0, 0))) := Lib.hid (row_other R4o.out G5.out (by omega) (Array.getElem?_eq_some_iff.1 R4o.out).1)
  have B5 : Hid (Below w.heap.size w W5) := Lib.hid (bel_grown B4.out B4.out.size G5.out (by have := HGW.out; omega))
  go_wp2_with (first
    | (refine wpList_load_row rfl _ _ rfl _ rfl _ _ _ _ R4g.out Try.underlying50 rfl info_dk7 ?_)
    | ((with_reducible (refine wpList_store_mid rfl _ _ _ rfl ?_ ?_ ?_ ?_ ?_ ?_ ?_ ?_ ?_)); (exact g3); (exact 0); (exact ([.slice fa nf fc, .slice na n nc, .slice sa ns sc, .slice ta nt tc, .int .i64 (mo : Int), .int .i64 (fu : Int), .bool dn]).toArray); (exact rfl); (exact rfl); (exact T5.out); (exact info_dk7); (exact cells7); rw [HW5.out]))
  exact bodyPost_ret (results_row_tmp rfl _ _ _ _ _ _ _ rfl R5z.out Try.underlying50 rfl info_dk7) rfl ⟨by rfl, B5.out⟩
set_option maxRecDepth 100000 in
set_option maxHeartbeats 16000000 in
theorem rdo_fuse (k : Nat) (hk : 1 ≤ k ∧ k ≤ 6) (he : wrongM m (k : Int) S.data.toList Z.data.toList nb = 0) (hdn : m.down = false) (hfu : m.fuse = 1) :
    Calls Try.prog 25 #[R.val m, .agg #[.int .i64 (k : Int), .string S, .string Z, .slice Ab nb cb]] w fun e w' => e = .returned (.tuple #[R.val { m with fuse := 0, down := true }, .int .i64 50]) ∧ Below w.heap.size w w' := by
  have HV2 : Hid (∀ q, R.val { m with fuse := 0, down := true } = q ↔ q = .agg #[.slice R.fa m.files.length R.fc, .slice R.na m.now.length R.nc, .slice R.sa m.sure.length R.sc, .slice R.ta m.turns.length R.tc, .int .i64 (m.most : Int), .int .i64 0, .bool true]) := Lib.hid (fun q => ⟨fun h => h ▸ rfl, fun h => h ▸ rfl⟩)
  rw [(HV2.out _).2 rfl]
  have H := Lib.hid h
  have HF := Lib.hid hf
  have HFW := Lib.hid hF
  have HBS := Lib.hid hbs
  have HNB := Lib.hid hnb
  have hnb' := hnb.2
  have hflk := hf.files
  have hnwk := hf.now
  have hstk := hf.st
  have hfuk := hf.fuse
  have hlk : ∀ i, (fileM m i).b.length ≤ L ∧ (fileM m i).safe ≤ (fileM m i).b.length := fun i => hf.fileM i
  have HLK := Lib.hid hlk
  clear hlk
  obtain ⟨nf, hnf⟩ : ∃ n, m.files.length = n := ⟨_, rfl⟩
  obtain ⟨n, hn⟩ : ∃ n, m.now.length = n := ⟨_, rfl⟩
  have hnk : n ≤ 998 := by omega
  have hnfk : nf ≤ 998 := by omega
  obtain ⟨na, hna⟩ : ∃ n, R.na = n := ⟨_, rfl⟩
  obtain ⟨fa, hfa⟩ : ∃ n, R.fa = n := ⟨_, rfl⟩
  obtain ⟨fc, hfc⟩ : ∃ n, R.fc = n := ⟨_, rfl⟩
  obtain ⟨nc, hnc⟩ : ∃ n, R.nc = n := ⟨_, rfl⟩
  obtain ⟨sa, hsa⟩ : ∃ n, R.sa = n := ⟨_, rfl⟩
  obtain ⟨sc, hsc⟩ : ∃ n, R.sc = n := ⟨_, rfl⟩
  obtain ⟨ta, hta⟩ : ∃ n, R.ta = n := ⟨_, rfl⟩
  obtain ⟨tc, htc⟩ : ∃ n, R.tc = n := ⟨_, rfl⟩
  obtain ⟨ns, hns⟩ : ∃ n, m.sure.length = n := ⟨_, rfl⟩
  obtain ⟨nt, hnt⟩ : ∃ n, m.turns.length = n := ⟨_, rfl⟩
  have hntk : nt ≤ 998 := by omega
  obtain ⟨mo, hmo⟩ : ∃ n, m.most = n := ⟨_, rfl⟩
  rw [hna, hfa, hfc, hnc, hsa, hsc, hta, htc, hns, hnt, hmo, hn, hnf]
  have HEQ : Hid (m.files.length = nf ∧ m.now.length = n ∧ R.na = na ∧ R.fa = fa ∧ R.fc = fc ∧ R.nc = nc ∧ R.sa = sa ∧ R.sc = sc ∧ R.ta = ta ∧ R.tc = tc ∧ m.sure.length = ns ∧ m.turns.length = nt ∧ m.most = mo) := Lib.hid ⟨hnf, hn, hna, hfa, hfc, hnc, hsa, hsc, hta, htc, hns, hnt, hmo⟩
  have HVAL : Hid (R.val m = .agg #[.slice fa nf fc, .slice na n nc, .slice sa ns sc, .slice ta nt tc, .int .i64 (mo : Int), .int .i64 1, .bool false]) := Lib.hid (by
    unfold RA.val RA.row
    rw [hn, hnf, hfa, hna, hsa, hta, hfc, hnc, hsc, htc, hns, hnt, hmo, hfu, hdn]
    try first | rfl | simp)
  have HN := Lib.hid hn
  have HNF := Lib.hid hnf
  have HFU := Lib.hid hfu
  have HDN := Lib.hid hdn
  rw [HVAL.out]
  obtain ⟨g, hg⟩ : ∃ g, w.heap.size = g := ⟨_, rfl⟩
  have HGW := Lib.hid hg
  obtain ⟨W1, hW1⟩ : ∃ W, w.alloc (.cells #[.slice fa nf fc, .slice na n nc, .slice sa ns sc, .slice ta nt tc, .int .i64 (mo : Int), .int .i64 1, .bool false] 50) = W := ⟨_, rfl⟩
  obtain ⟨r1, b1, s1⟩ := new_row hW1
  obtain ⟨W2, hW2⟩ : ∃ W, W1.alloc (.cells #[.int .i64 (k : Int), .string S, .string Z, .slice Ab nb cb] 58) = W := ⟨_, rfl⟩
  obtain ⟨r2, b2, s2⟩ := new_row hW2
  obtain ⟨W3, hW3⟩ : ∃ W, W2.alloc (.cells #[.slice none 0 0, .slice none 0 0, .slice none 0 0, .slice none 0 0, .int .i64 0, .int .i64 0, .bool false] 50) = W := ⟨_, rfl⟩
  obtain ⟨r3, b3, s3⟩ := new_row hW3
  obtain ⟨g2, hg2⟩ : ∃ g, W1.heap.size = g := ⟨_, rfl⟩
  obtain ⟨g3, hg3⟩ : ∃ g, W2.heap.size = g := ⟨_, rfl⟩
  have hl1 : g < g2 := by omega
  have hl2 : g2 < g3 := by omega
  replace r1 := (b3.block _ (by omega)).trans ((b2.block _ (by omega)).trans r1)
  replace r2 := (b3.block _ (by omega)).trans r2
  rw [hg] at r1
  rw [hg2] at r2
  rw [hg3] at r3
  have R3g := Lib.hid r1
  have R3o := Lib.hid r2
  have R3z := Lib.hid r3
  have B3 : Hid (Below w.heap.size w W3) := Lib.hid (b1.trans ((b2.mono b1.size).trans (b3.mono (Nat.le_trans b1.size b2.size))))
  have HWR : Hid (Calls Try.prog 40 #[R.val m, .agg #[.int .i64 (k : Int), .string S, .string Z, .slice Ab nb cb]] W3 fun e w' => e = .returned (.int .i64 0) ∧ Below W3.heap.size W3 w') := Lib.hid (rwrong_any R m S Z Ab nb cb W3 (h.below B3.out) hf (by omega) (by omega) hnb' k hk 0 he)
  rw [HVAL.out] at HWR
  clear h hf hF hbs hnb he hn hnf hna hfa hfc hnc hsa hsc hta htc hns hnt hmo hfu hdn b1 s1 b2 s2 b3 s3 hflk hnwk hstk hfuk 
  go_enter Try.func25, Try.ntmps25
  go_wp2_with (first
    | (refine wpList_load_row rfl _ _ rfl _ rfl _ _ _ _ r1 Try.underlying50 rfl info_dk7 ?_)
    | (refine wpList_load_row rfl _ _ rfl _ rfl _ _ _ _ r2 Try.underlying58 rfl info_op4 ?_))
  try rw [hg, hg2, hg3]
  clear hg hg2 hg3 hW1 hW2 hW3 r1 r2 r3
  refine HWR.out.mono ?_
  rintro e w4 ⟨rfl, hb4⟩
  have R4g : Hid (w4.heap[g]? = some (.cells #[.slice fa nf fc, .slice na n nc, .slice sa ns sc, .slice ta nt tc, .int .i64 (mo : Int), .int .i64 1, .bool false] 50 (0, 0))) := Lib.hid ((hb4.block _ (Array.getElem?_eq_some_iff.1 R3g.out).1).trans R3g.out)
  have R4o : Hid (w4.heap[g2]? = some (.cells #[.int .i64 (k : Int), .string S, .string Z, .slice Ab nb cb] 58 (0, 0))) := Lib.hid ((hb4.block _ (Array.getElem?_eq_some_iff.1 R3o.out).1).trans R3o.out)
  have R4z : Hid (w4.heap[g3]? = some (.cells #[.slice none 0 0, .slice none 0 0, .slice none 0 0, .slice none 0 0, .int .i64 0, .int .i64 0, .bool false] 50 (0, 0))) := Lib.hid ((hb4.block _ (Array.getElem?_eq_some_iff.1 R3z.out).1).trans R3z.out)
  have B4 : Hid (Below w.heap.size w w4) := Lib.hid (B3.out.trans (hb4.mono B3.out.size))
  have c4g5 : w4.cell? ⟨g, 5, none⟩ = some (.int .i64 1) := row_cell R4g.out 5
  have f4g5 : w4.frozen? ⟨g, 5, none⟩ = false := row_free R4g.out 5
  obtain ⟨W5, hW5⟩ : ∃ W, w4.setCell ⟨g, 5, none⟩ (.int .i64 0) = W := ⟨_, rfl⟩
  have G5 : Hid (w4.grownBy W5 (some g)) := Lib.hid (by rw [← hW5]; exact grown_set g 5 _)
  have R5g : Hid (W5.heap[g]? = some (.cells #[.slice fa nf fc, .slice na n nc, .slice sa ns sc, .slice ta nt tc, .int .i64 (mo : Int), .int .i64 0, .bool false] 50 (0, 0))) := Lib.hid (by have h9 := row_set R4g.out 5 (.int .i64 0); rw [hW5] at h9; simpa using h9)
  have R5o : Hid (W5.heap[g2]? = some (.cells #[.int .i64 (k : Int), .string S, .string Z, .slice Ab nb cb] 58 (0, 0))) := Lib.hid (row_other R4o.out G5.out (by omega) (Array.getElem?_eq_some_iff.1 R4o.out).1)
  have R5z : Hid (W5.heap[g3]? = some (.cells #[.slice none 0 0, .slice none 0 0, .slice none 0 0, .slice none 0 0, .int .i64 0, .int .i64 0, .bool false] 50 (0, 0))) := Lib.hid (row_other R4z.out G5.out (by omega) (Array.getElem?_eq_some_iff.1 R4z.out).1)
  have B5 : Hid (Below w.heap.size w W5) := Lib.hid (bel_grown B4.out B4.out.size G5.out (by have := HGW.out; omega))
  have c5g5 : W5.cell? ⟨g, 5, none⟩ = some (.int .i64 0) := row_cell R5g.out 5
  have c5g6 : W5.cell? ⟨g, 6, none⟩ = some (.bool false) := row_cell R5g.out 6
  have f5g6 : W5.frozen? ⟨g, 6, none⟩ = false := row_free R5g.out 6
  obtain ⟨W6, hW6⟩ : ∃ W, W5.setCell ⟨g, 6, none⟩ (.bool true) = W := ⟨_, rfl⟩
  have G6 : Hid (W5.grownBy W6 (some g)) := Lib.hid (by rw [← hW6]; exact grown_set g 6 _)
  have R6g : Hid (W6.heap[g]? = some (.cells #[.slice fa nf fc, .slice na n nc, .slice sa ns sc, .slice ta nt tc, .int .i64 (mo : Int), .int .i64 0, .bool true] 50 (0, 0))) := Lib.hid (by have h9 := row_set R5g.out 6 (.bool true); rw [hW6] at h9; simpa using h9)
  have R6o : Hid (W6.heap[g2]? = some (.cells #[.int .i64 (k : Int), .string S, .string Z, .slice Ab nb cb] 58 (0, 0))) := Lib.hid (row_other R5o.out G6.out (by omega) (Array.getElem?_eq_some_iff.1 R5o.out).1)
  have R6z : Hid (W6.heap[g3]? = some (.cells #[.slice none 0 0, .slice none 0 0, .slice none 0 0, .slice none 0 0, .int .i64 0, .int .i64 0, .bool false] 50 (0, 0))) := Lib.hid (row_other R5z.out G6.out (by omega) (Array.getElem?_eq_some_iff.1 R5z.out).1)
  have B6 : Hid (Below w.heap.size w W6) := Lib.hid (bel_grown B5.out B5.out.size G6.out (by have := HGW.out; omega))
  obtain ⟨W7, hW7, T7, R7z, G7⟩ := put_row (new := [.slice fa nf fc, .slice na n nc, .slice sa ns sc, .slice ta nt tc, .int .i64 (mo : Int), .int .i64 0, .bool true]) R6z.out rfl
  have HW7 := Lib.hid hW7
  clear hW7
  have R7g : Hid (W7.heap[g]? = some (.cells #[.slice fa nf fc, .slice na n nc, .slice sa ns sc, .slice ta nt tc, .int .i64 (mo : Int), .int .i64 0, .bool true] 50 (0, 0))) := Lib.hid (row_other R6g.out G7.out (by omega) (Array.getElem?_eq_some_iff.1 R6g.out).1)
  have R7o : Hid (W7.heap[g2]? = some (.cells #[.int .i64 (k : Int), .string S, .string Z, .slice Ab nb cb] 58 (0, 0))) := Lib.hid (row_other R6o.out G7.out (by omega) (Array.getElem?_eq_some_iff.1 R6o.out).1)
  have B7 : Hid (Below w.heap.size w W7) := Lib.hid (bel_grown B6.out B6.out.size G7.out (by have := HGW.out; omega))
  go_wp2_with (first
    | (refine wpList_load_row rfl _ _ rfl _ rfl _ _ _ _ R6g.out Try.underlying50 rfl info_dk7 ?_)
    | ((with_reducible (refine wpList_store_mid rfl _ _ _ rfl ?_ ?_ ?_ ?_ ?_ ?_ ?_ ?_ ?_)); (exact g3); (exact 0); (exact ([.slice fa nf fc, .slice na n nc, .slice sa ns sc, .slice ta nt tc, .int .i64 (mo : Int), .int .i64 0, .bool true]).toArray); (exact rfl); (exact rfl); (exact T7.out); (exact info_dk7); (exact cells7); rw [HW7.out]))
  exact bodyPost_ret (results_row_tmp rfl _ _ _ _ _ _ _ rfl R7z.out Try.underlying50 rfl info_dk7) rfl ⟨by rfl, B7.out⟩
set_option maxRecDepth 100000 in
set_option maxHeartbeats 16000000 in
theorem rdo6n (he : wrongM m 6 S.data.toList Z.data.toList nb = 0) (hdn : m.down = false) (hfu : m.fuse = 0) :
    Calls Try.prog 25 #[R.val m, .agg #[.int .i64 6, .string S, .string Z, .slice Ab nb cb]] w fun e w' => ∃ R' : RA, e = .returned (.tuple #[R'.val ({ m with fuse := 0, sure := m.now, turns := [] }), .int .i64 0]) ∧ RIn F w' R' ({ m with fuse := 0, sure := m.now, turns := [] }) ∧ Below w.heap.size w w' := by
  obtain ⟨mm, hmm⟩ : ∃ y, { m with fuse := 0, sure := m.now, turns := [] } = y := ⟨_, rfl⟩
  rw [hmm]
  have HMM := Lib.hid hmm
  clear hmm
  have H := Lib.hid h
  have HF := Lib.hid hf
  have HFW := Lib.hid hF
  have HBS := Lib.hid hbs
  have HNB := Lib.hid hnb
  have hnb' := hnb.2
  have hflk := hf.files
  have hnwk := hf.now
  have hstk := hf.st
  have hfuk := hf.fuse
  have hlk : ∀ i, (fileM m i).b.length ≤ L ∧ (fileM m i).safe ≤ (fileM m i).b.length := fun i => hf.fileM i
  have HLK := Lib.hid hlk
  clear hlk
  obtain ⟨nf, hnf⟩ : ∃ n, m.files.length = n := ⟨_, rfl⟩
  obtain ⟨n, hn⟩ : ∃ n, m.now.length = n := ⟨_, rfl⟩
  have hnk : n ≤ 998 := by omega
  have hnfk : nf ≤ 998 := by omega
  obtain ⟨na, hna⟩ : ∃ n, R.na = n := ⟨_, rfl⟩
  obtain ⟨fa, hfa⟩ : ∃ n, R.fa = n := ⟨_, rfl⟩
  obtain ⟨fc, hfc⟩ : ∃ n, R.fc = n := ⟨_, rfl⟩
  obtain ⟨nc, hnc⟩ : ∃ n, R.nc = n := ⟨_, rfl⟩
  obtain ⟨sa, hsa⟩ : ∃ n, R.sa = n := ⟨_, rfl⟩
  obtain ⟨sc, hsc⟩ : ∃ n, R.sc = n := ⟨_, rfl⟩
  obtain ⟨ta, hta⟩ : ∃ n, R.ta = n := ⟨_, rfl⟩
  obtain ⟨tc, htc⟩ : ∃ n, R.tc = n := ⟨_, rfl⟩
  obtain ⟨ns, hns⟩ : ∃ n, m.sure.length = n := ⟨_, rfl⟩
  obtain ⟨nt, hnt⟩ : ∃ n, m.turns.length = n := ⟨_, rfl⟩
  have hntk : nt ≤ 998 := by omega
  obtain ⟨mo, hmo⟩ : ∃ n, m.most = n := ⟨_, rfl⟩

  have HEQ : Hid (m.files.length = nf ∧ m.now.length = n ∧ R.na = na ∧ R.fa = fa ∧ R.fc = fc ∧ R.nc = nc ∧ R.sa = sa ∧ R.sc = sc ∧ R.ta = ta ∧ R.tc = tc ∧ m.sure.length = ns ∧ m.turns.length = nt ∧ m.most = mo) := Lib.hid ⟨hnf, hn, hna, hfa, hfc, hnc, hsa, hsc, hta, htc, hns, hnt, hmo⟩
  have HVAL : Hid (R.val m = .agg #[.slice fa nf fc, .slice na n nc, .slice sa ns sc, .slice ta nt tc, .int .i64 (mo : Int), .int .i64 0, .bool false]) := Lib.hid (by
    unfold RA.val RA.row
    rw [hn, hnf, hfa, hna, hsa, hta, hfc, hnc, hsc, htc, hns, hnt, hmo, hfu, hdn]
    try first | rfl | simp)
  have HN := Lib.hid hn
  have HNF := Lib.hid hnf
  have HFU := Lib.hid hfu
  have HDN := Lib.hid hdn
  rw [HVAL.out]
  obtain ⟨g, hg⟩ : ∃ g, w.heap.size = g := ⟨_, rfl⟩
  have HGW := Lib.hid hg
  obtain ⟨W1, hW1⟩ : ∃ W, w.alloc (.cells #[.slice fa nf fc, .slice na n nc, .slice sa ns sc, .slice ta nt tc, .int .i64 (mo : Int), .int .i64 0, .bool false] 50) = W := ⟨_, rfl⟩
  obtain ⟨r1, b1, s1⟩ := new_row hW1
  obtain ⟨W2, hW2⟩ : ∃ W, W1.alloc (.cells #[.int .i64 6, .string S, .string Z, .slice Ab nb cb] 58) = W := ⟨_, rfl⟩
  obtain ⟨r2, b2, s2⟩ := new_row hW2
  obtain ⟨W3, hW3⟩ : ∃ W, W2.alloc (.cells #[.slice none 0 0, .slice none 0 0, .slice none 0 0, .slice none 0 0, .int .i64 0, .int .i64 0, .bool false] 50) = W := ⟨_, rfl⟩
  obtain ⟨r3, b3, s3⟩ := new_row hW3
  obtain ⟨g2, hg2⟩ : ∃ g, W1.heap.size = g := ⟨_, rfl⟩
  obtain ⟨g3, hg3⟩ : ∃ g, W2.heap.size = g := ⟨_, rfl⟩
  have hl1 : g < g2 := by omega
  have hl2 : g2 < g3 := by omega
  replace r1 := (b3.block _ (by omega)).trans ((b2.block _ (by omega)).trans r1)
  replace r2 := (b3.block _ (by omega)).trans r2
  rw [hg] at r1
  rw [hg2] at r2
  rw [hg3] at r3
  have R3g := Lib.hid r1
  have R3o := Lib.hid r2
  have R3z := Lib.hid r3
  have B3 : Hid (Below w.heap.size w W3) := Lib.hid (b1.trans ((b2.mono b1.size).trans (b3.mono (Nat.le_trans b1.size b2.size))))
  have HWR : Hid (Calls Try.prog 40 #[R.val m, .agg #[.int .i64 6, .string S, .string Z, .slice Ab nb cb]] W3 fun e w' => e = .returned (.int .i64 0) ∧ Below W3.heap.size W3 w') := Lib.hid (rwrong_any R m S Z Ab nb cb W3 (h.below B3.out) hf (by omega) (by omega) hnb' 6 ⟨by omega, by omega⟩ 0 he)
  rw [HVAL.out] at HWR
  clear h hf hF hbs hnb he hn hnf hna hfa hfc hnc hsa hsc hta htc hns hnt hmo hfu hdn b1 s1 b2 s2 b3 s3 hflk hnwk hstk hfuk 
  go_enter Try.func25, Try.ntmps25
  go_wp2_with (first
    | (refine wpList_load_row rfl _ _ rfl _ rfl _ _ _ _ r1 Try.underlying50 rfl info_dk7 ?_)
    | (refine wpList_load_row rfl _ _ rfl _ rfl _ _ _ _ r2 Try.underlying58 rfl info_op4 ?_))
  try rw [hg, hg2, hg3]
  clear hg hg2 hg3 hW1 hW2 hW3 r1 r2 r3
  refine HWR.out.mono ?_
  rintro e w4 ⟨rfl, hb4⟩
  have R4g : Hid (w4.heap[g]? = some (.cells #[.slice fa nf fc, .slice na n nc, .slice sa ns sc, .slice ta nt tc, .int .i64 (mo : Int), .int .i64 0, .bool false] 50 (0, 0))) := Lib.hid ((hb4.block _ (Array.getElem?_eq_some_iff.1 R3g.out).1).trans R3g.out)
  have R4o : Hid (w4.heap[g2]? = some (.cells #[.int .i64 6, .string S, .string Z, .slice Ab nb cb] 58 (0, 0))) := Lib.hid ((hb4.block _ (Array.getElem?_eq_some_iff.1 R3o.out).1).trans R3o.out)
  have R4z : Hid (w4.heap[g3]? = some (.cells #[.slice none 0 0, .slice none 0 0, .slice none 0 0, .slice none 0 0, .int .i64 0, .int .i64 0, .bool false] 50 (0, 0))) := Lib.hid ((hb4.block _ (Array.getElem?_eq_some_iff.1 R3z.out).1).trans R3z.out)
  have B4 : Hid (Below w.heap.size w w4) := Lib.hid (B3.out.trans (hb4.mono B3.out.size))
  have c4g0 : w4.cell? ⟨g, 0, none⟩ = some (.slice fa nf fc) := row_cell R4g.out 0
  have c4g1 : w4.cell? ⟨g, 1, none⟩ = some (.slice na n nc) := row_cell R4g.out 1
  have c4g3 : w4.cell? ⟨g, 3, none⟩ = some (.slice ta nt tc) := row_cell R4g.out 3
  have c4g5 : w4.cell? ⟨g, 5, none⟩ = some (.int .i64 0) := row_cell R4g.out 5
  have c4o0 : w4.cell? ⟨g2, 0, none⟩ = some (.int .i64 6) := row_cell R4o.out 0
  have c4o1 : w4.cell? ⟨g2, 1, none⟩ = some (.string S) := row_cell R4o.out 1
  have c4o2 : w4.cell? ⟨g2, 2, none⟩ = some (.string Z) := row_cell R4o.out 2
  have c4o3 : w4.cell? ⟨g2, 3, none⟩ = some (.slice Ab nb cb) := row_cell R4o.out 3
  have HFND := Lib.hid (rfind_any na m.now n nc HN.out (by omega) S w4 (by have := (H.out.below B4.out).rn.1; rw [HEQ.out.2.2.1] at this; exact this))
  obtain ⟨q, hq⟩ : ∃ q, findI m.now S.data.toList = q := ⟨_, rfl⟩
  rw [hq] at HFND
  clear hq
  go_wp2_with fail
  refine HFND.out.mono ?_
  rintro e w9 ⟨rfl, rfl⟩
  have R9g := R4g
  have R9o := R4o
  have R9z := R4z
  have B9 := B4
  obtain ⟨gt, hq10⟩ : ∃ x, w9.heap.size = x := ⟨_, rfl⟩
  obtain ⟨W10, hW10⟩ : ∃ W, w9.alloc (.cells #[.string ⟨#[]⟩, .string ⟨#[]⟩, .int .i64 0] 90) = W := ⟨_, rfl⟩
  obtain ⟨r10, b10, s10⟩ := new_row hW10
  have R10g : Hid (W10.heap[g]? = some (.cells #[.slice fa nf fc, .slice na n nc, .slice sa ns sc, .slice ta nt tc, .int .i64 (mo : Int), .int .i64 0, .bool false] 50 (0, 0))) := Lib.hid ((b10.block _ (Array.getElem?_eq_some_iff.1 R9g.out).1).trans R9g.out)
  have R10o : Hid (W10.heap[g2]? = some (.cells #[.int .i64 6, .string S, .string Z, .slice Ab nb cb] 58 (0, 0))) := Lib.hid ((b10.block _ (Array.getElem?_eq_some_iff.1 R9o.out).1).trans R9o.out)
  have R10z : Hid (W10.heap[g3]? = some (.cells #[.slice none 0 0, .slice none 0 0, .slice none 0 0, .slice none 0 0, .int .i64 0, .int .i64 0, .bool false] 50 (0, 0))) := Lib.hid ((b10.block _ (Array.getElem?_eq_some_iff.1 R9z.out).1).trans R9z.out)
  have B10 : Hid (Below w.heap.size w W10) := Lib.hid (B9.out.trans (b10.mono B9.out.size))
  rw [hq10] at r10
  have R10t := Lib.hid r10
  have HQ10 := Lib.hid hq10
  clear b10 s10
  have hl3 : g3 < gt := by have := (Array.getElem?_eq_some_iff.1 R9z.out).1; have := HQ10.out; omega
  obtain ⟨gf, hgf⟩ : ∃ x, x = gt := ⟨_, rfl⟩
  obtain ⟨W11, hW11, T11, R11t, G11⟩ := put_row (new := [.string ⟨#[]⟩, .string ⟨#[]⟩, .int .i64 0]) R10t.out rfl
  have HW11 := Lib.hid hW11
  clear hW11
  have R11g : Hid (W11.heap[g]? = some (.cells #[.slice fa nf fc, .slice na n nc, .slice sa ns sc, .slice ta nt tc, .int .i64 (mo : Int), .int .i64 0, .bool false] 50 (0, 0))) := Lib.hid (row_other R10g.out G11.out (by omega) (Array.getElem?_eq_some_iff.1 R10g.out).1)
  have R11o : Hid (W11.heap[g2]? = some (.cells #[.int .i64 6, .string S, .string Z, .slice Ab nb cb] 58 (0, 0))) := Lib.hid (row_other R10o.out G11.out (by omega) (Array.getElem?_eq_some_iff.1 R10o.out).1)
  have R11z : Hid (W11.heap[g3]? = some (.cells #[.slice none 0 0, .slice none 0 0, .slice none 0 0, .slice none 0 0, .int .i64 0, .int .i64 0, .bool false] 50 (0, 0))) := Lib.hid (row_other R10z.out G11.out (by omega) (Array.getElem?_eq_some_iff.1 R10z.out).1)
  have B11 : Hid (Below w.heap.size w W11) := Lib.hid (bel_grown B10.out B10.out.size G11.out (by have := HGW.out; omega))
  have c11o0 : W11.cell? ⟨g2, 0, none⟩ = some (.int .i64 6) := row_cell R11o.out 0
  have c11o1 : W11.cell? ⟨g2, 1, none⟩ = some (.string S) := row_cell R11o.out 1
  have c11o2 : W11.cell? ⟨g2, 2, none⟩ = some (.string Z) := row_cell R11o.out 2
  have c11o3 : W11.cell? ⟨g2, 3, none⟩ = some (.slice Ab nb cb) := row_cell R11o.out 3
  have c11g0 : W11.cell? ⟨g, 0, none⟩ = some (.slice fa nf fc) := row_cell R11g.out 0
  have c11g1 : W11.cell? ⟨g, 1, none⟩ = some (.slice na n nc) := row_cell R11g.out 1
  have c11g3 : W11.cell? ⟨g, 3, none⟩ = some (.slice ta nt tc) := row_cell R11g.out 3
  have c11g1 : W11.cell? ⟨g, 1, none⟩ = some (.slice na n nc) := row_cell R11g.out 1
  have c11g2 : W11.cell? ⟨g, 2, none⟩ = some (.slice sa ns sc) := row_cell R11g.out 2
  have f11g2 : W11.frozen? ⟨g, 2, none⟩ = false := row_free R11g.out 2
  obtain ⟨W12, hW12⟩ : ∃ W, W11.setCell ⟨g, 2, none⟩ (.slice na n nc) = W := ⟨_, rfl⟩
  have G12 : Hid (W11.grownBy W12 (some g)) := Lib.hid (by rw [← hW12]; exact grown_set g 2 _)
  have R12g : Hid (W12.heap[g]? = some (.cells #[.slice fa nf fc, .slice na n nc, .slice na n nc, .slice ta nt tc, .int .i64 (mo : Int), .int .i64 0, .bool false] 50 (0, 0))) := Lib.hid (by have h9 := row_set R11g.out 2 (.slice na n nc); rw [hW12] at h9; simpa using h9)
  have R12o : Hid (W12.heap[g2]? = some (.cells #[.int .i64 6, .string S, .string Z, .slice Ab nb cb] 58 (0, 0))) := Lib.hid (row_other R11o.out G12.out (by omega) (Array.getElem?_eq_some_iff.1 R11o.out).1)
  have R12z : Hid (W12.heap[g3]? = some (.cells #[.slice none 0 0, .slice none 0 0, .slice none 0 0, .slice none 0 0, .int .i64 0, .int .i64 0, .bool false] 50 (0, 0))) := Lib.hid (row_other R11z.out G12.out (by omega) (Array.getElem?_eq_some_iff.1 R11z.out).1)
  have R12t : Hid (W12.heap[gt]? = some (.cells #[.string ⟨#[]⟩, .string ⟨#[]⟩, .int .i64 0] 90 (0, 0))) := Lib.hid (row_other R11t.out G12.out (by omega) (Array.getElem?_eq_some_iff.1 R11t.out).1)
  have B12 : Hid (Below w.heap.size w W12) := Lib.hid (bel_grown B11.out B11.out.size G12.out (by have := HGW.out; omega))
  obtain ⟨x13, hx13⟩ : ∃ x, W12.heap.size = x := ⟨_, rfl⟩
  obtain ⟨W13, hW13⟩ : ∃ W, W12.alloc (.cells #[] 90) = W := ⟨_, rfl⟩
  obtain ⟨r13, b13, s13⟩ := new_row hW13
  have R13g : Hid (W13.heap[g]? = some (.cells #[.slice fa nf fc, .slice na n nc, .slice na n nc, .slice ta nt tc, .int .i64 (mo : Int), .int .i64 0, .bool false] 50 (0, 0))) := Lib.hid ((b13.block _ (Array.getElem?_eq_some_iff.1 R12g.out).1).trans R12g.out)
  have R13o : Hid (W13.heap[g2]? = some (.cells #[.int .i64 6, .string S, .string Z, .slice Ab nb cb] 58 (0, 0))) := Lib.hid ((b13.block _ (Array.getElem?_eq_some_iff.1 R12o.out).1).trans R12o.out)
  have R13z : Hid (W13.heap[g3]? = some (.cells #[.slice none 0 0, .slice none 0 0, .slice none 0 0, .slice none 0 0, .int .i64 0, .int .i64 0, .bool false] 50 (0, 0))) := Lib.hid ((b13.block _ (Array.getElem?_eq_some_iff.1 R12z.out).1).trans R12z.out)
  have R13t : Hid (W13.heap[gt]? = some (.cells #[.string ⟨#[]⟩, .string ⟨#[]⟩, .int .i64 0] 90 (0, 0))) := Lib.hid ((b13.block _ (Array.getElem?_eq_some_iff.1 R12t.out).1).trans R12t.out)
  have B13 : Hid (Below w.heap.size w W13) := Lib.hid (B12.out.trans (b13.mono B12.out.size))
  have c13g3 : W13.cell? ⟨g, 3, none⟩ = some (.slice ta nt tc) := row_cell R13g.out 3
  have f13g3 : W13.frozen? ⟨g, 3, none⟩ = false := row_free R13g.out 3
  obtain ⟨W14, hW14⟩ : ∃ W, W13.setCell ⟨g, 3, none⟩ (.slice (some ⟨x13, 0, none⟩) 0 0) = W := ⟨_, rfl⟩
  have G14 : Hid (W13.grownBy W14 (some g)) := Lib.hid (by rw [← hW14]; exact grown_set g 3 _)
  have R14g : Hid (W14.heap[g]? = some (.cells #[.slice fa nf fc, .slice na n nc, .slice na n nc, .slice (some ⟨x13, 0, none⟩) 0 0, .int .i64 (mo : Int), .int .i64 0, .bool false] 50 (0, 0))) := Lib.hid (by have h9 := row_set R13g.out 3 (.slice (some ⟨x13, 0, none⟩) 0 0); rw [hW14] at h9; simpa using h9)
  have R14o : Hid (W14.heap[g2]? = some (.cells #[.int .i64 6, .string S, .string Z, .slice Ab nb cb] 58 (0, 0))) := Lib.hid (row_other R13o.out G14.out (by omega) (Array.getElem?_eq_some_iff.1 R13o.out).1)
  have R14z : Hid (W14.heap[g3]? = some (.cells #[.slice none 0 0, .slice none 0 0, .slice none 0 0, .slice none 0 0, .int .i64 0, .int .i64 0, .bool false] 50 (0, 0))) := Lib.hid (row_other R13z.out G14.out (by omega) (Array.getElem?_eq_some_iff.1 R13z.out).1)
  have R14t : Hid (W14.heap[gt]? = some (.cells #[.string ⟨#[]⟩, .string ⟨#[]⟩, .int .i64 0] 90 (0, 0))) := Lib.hid (row_other R13t.out G14.out (by omega) (Array.getElem?_eq_some_iff.1 R13t.out).1)
  have B14 : Hid (Below w.heap.size w W14) := Lib.hid (bel_grown B13.out B13.out.size G14.out (by have := HGW.out; omega))
  obtain ⟨W15, hW15, T15, R15z, G15⟩ := put_row (new := [.slice fa nf fc, .slice na n nc, .slice na n nc, .slice (some ⟨x13, 0, none⟩) 0 0, .int .i64 (mo : Int), .int .i64 0, .bool false]) R14z.out rfl
  have HW15 := Lib.hid hW15
  clear hW15
  have R15g : Hid (W15.heap[g]? = some (.cells #[.slice fa nf fc, .slice na n nc, .slice na n nc, .slice (some ⟨x13, 0, none⟩) 0 0, .int .i64 (mo : Int), .int .i64 0, .bool false] 50 (0, 0))) := Lib.hid (row_other R14g.out G15.out (by omega) (Array.getElem?_eq_some_iff.1 R14g.out).1)
  have R15o : Hid (W15.heap[g2]? = some (.cells #[.int .i64 6, .string S, .string Z, .slice Ab nb cb] 58 (0, 0))) := Lib.hid (row_other R14o.out G15.out (by omega) (Array.getElem?_eq_some_iff.1 R14o.out).1)
  have R15t : Hid (W15.heap[gt]? = some (.cells #[.string ⟨#[]⟩, .string ⟨#[]⟩, .int .i64 0] 90 (0, 0))) := Lib.hid (row_other R14t.out G15.out (by omega) (Array.getElem?_eq_some_iff.1 R14t.out).1)
  have B15 : Hid (Below w.heap.size w W15) := Lib.hid (bel_grown B14.out B14.out.size G15.out (by have := HGW.out; omega))
  obtain ⟨R9, hR9⟩ : ∃ x : RA, x = { R with sa := R.na, sc := R.nc, ta := some ⟨x13, 0, none⟩, tc := 0 } := ⟨_, rfl⟩
  have HRI : Hid (RIn F W15 R9 mm) := Lib.hid (by
    rw [hR9, ← HMM.out]
    exact (((H.out.below B15.out).flushed).same rfl rfl rfl rfl))
  have HV : Hid (R9.val mm = .agg #[.slice fa nf fc, .slice na n nc, .slice na n nc, .slice (some ⟨x13, 0, none⟩) 0 0, .int .i64 (mo : Int), .int .i64 0, .bool false]) := Lib.hid (by
    obtain ⟨e1, e2, e3, e4, e5, e6, e7, e8, e9, e10, e11, e12, e13⟩ := HEQ.out
    rw [hR9, ← HMM.out]
    simp only [RA.val, RA.row, setF, List.length_set, List.length_append, List.length_cons, List.length_nil, e1, e2, e3, e4, e5, e6, e7, e8, e9, e10, e11, e12, e13, HDN.out]
    try rfl)
  go_wp2_with (first
    | ((with_reducible (refine wpList_store_mid rfl _ _ _ rfl ?_ ?_ ?_ ?_ ?_ ?_ ?_ ?_ ?_)); (exact gt); (exact 0); (exact ([.string ⟨#[]⟩, .string ⟨#[]⟩, .int .i64 0]).toArray); (exact rfl); (exact rfl); (exact T11.out); (exact info_tn3a); (exact cells3); rw [HW11.out])
    | (refine wpList_load_row rfl _ _ rfl _ rfl _ _ _ _ R14g.out Try.underlying50 rfl info_dk7 ?_)
    | ((with_reducible (refine wpList_store_mid rfl _ _ _ rfl ?_ ?_ ?_ ?_ ?_ ?_ ?_ ?_ ?_)); (exact g3); (exact 0); (exact ([.slice fa nf fc, .slice na n nc, .slice na n nc, .slice (some ⟨x13, 0, none⟩) 0 0, .int .i64 (mo : Int), .int .i64 0, .bool false]).toArray); (exact rfl); (exact rfl); (exact T15.out); (exact info_dk7); (exact cells7); rw [HW15.out]))
  refine bodyPost_ret (results_row_tmp rfl _ _ _ _ _ _ _ rfl R15z.out Try.underlying50 rfl info_dk7) rfl ⟨R9, by rw [HV.out]; rfl, HRI.out, B15.out⟩
set_option maxRecDepth 100000 in
set_option maxHeartbeats 16000000 in
theorem rdo6f (he : wrongM m 6 S.data.toList Z.data.toList nb = 0) (hdn : m.down = false) (x : Nat) (hfu : m.fuse = x + 2) :
    Calls Try.prog 25 #[R.val m, .agg #[.int .i64 6, .string S, .string Z, .slice Ab nb cb]] w fun e w' => ∃ R' : RA, e = .returned (.tuple #[R'.val ({ m with fuse := (x + 1), sure := m.now, turns := [] }), .int .i64 0]) ∧ RIn F w' R' ({ m with fuse := (x + 1), sure := m.now, turns := [] }) ∧ Below w.heap.size w w' := by
  obtain ⟨mm, hmm⟩ : ∃ y, { m with fuse := (x + 1), sure := m.now, turns := [] } = y := ⟨_, rfl⟩
  rw [hmm]
  have HMM := Lib.hid hmm
  clear hmm
  have hxb : x ≤ 9223372036854775805 := by have := hf.fuse; omega
  have H := Lib.hid h
  have HF := Lib.hid hf
  have HFW := Lib.hid hF
  have HBS := Lib.hid hbs
  have HNB := Lib.hid hnb
  have hnb' := hnb.2
  have hflk := hf.files
  have hnwk := hf.now
  have hstk := hf.st
  have hfuk := hf.fuse
  have hlk : ∀ i, (fileM m i).b.length ≤ L ∧ (fileM m i).safe ≤ (fileM m i).b.length := fun i => hf.fileM i
  have HLK := Lib.hid hlk
  clear hlk
  obtain ⟨nf, hnf⟩ : ∃ n, m.files.length = n := ⟨_, rfl⟩
  obtain ⟨n, hn⟩ : ∃ n, m.now.length = n := ⟨_, rfl⟩
  have hnk : n ≤ 998 := by omega
  have hnfk : nf ≤ 998 := by omega
  obtain ⟨na, hna⟩ : ∃ n, R.na = n := ⟨_, rfl⟩
  obtain ⟨fa, hfa⟩ : ∃ n, R.fa = n := ⟨_, rfl⟩
  obtain ⟨fc, hfc⟩ : ∃ n, R.fc = n := ⟨_, rfl⟩
  obtain ⟨nc, hnc⟩ : ∃ n, R.nc = n := ⟨_, rfl⟩
  obtain ⟨sa, hsa⟩ : ∃ n, R.sa = n := ⟨_, rfl⟩
  obtain ⟨sc, hsc⟩ : ∃ n, R.sc = n := ⟨_, rfl⟩
  obtain ⟨ta, hta⟩ : ∃ n, R.ta = n := ⟨_, rfl⟩
  obtain ⟨tc, htc⟩ : ∃ n, R.tc = n := ⟨_, rfl⟩
  obtain ⟨ns, hns⟩ : ∃ n, m.sure.length = n := ⟨_, rfl⟩
  obtain ⟨nt, hnt⟩ : ∃ n, m.turns.length = n := ⟨_, rfl⟩
  have hntk : nt ≤ 998 := by omega
  obtain ⟨mo, hmo⟩ : ∃ n, m.most = n := ⟨_, rfl⟩

  have HEQ : Hid (m.files.length = nf ∧ m.now.length = n ∧ R.na = na ∧ R.fa = fa ∧ R.fc = fc ∧ R.nc = nc ∧ R.sa = sa ∧ R.sc = sc ∧ R.ta = ta ∧ R.tc = tc ∧ m.sure.length = ns ∧ m.turns.length = nt ∧ m.most = mo) := Lib.hid ⟨hnf, hn, hna, hfa, hfc, hnc, hsa, hsc, hta, htc, hns, hnt, hmo⟩
  have HVAL : Hid (R.val m = .agg #[.slice fa nf fc, .slice na n nc, .slice sa ns sc, .slice ta nt tc, .int .i64 (mo : Int), .int .i64 ((x : Int) + 2), .bool false]) := Lib.hid (by
    unfold RA.val RA.row
    rw [hn, hnf, hfa, hna, hsa, hta, hfc, hnc, hsc, htc, hns, hnt, hmo, hfu, hdn]
    try first | rfl | simp)
  have HN := Lib.hid hn
  have HNF := Lib.hid hnf
  have HFU := Lib.hid hfu
  have HDN := Lib.hid hdn
  rw [HVAL.out]
  obtain ⟨g, hg⟩ : ∃ g, w.heap.size = g := ⟨_, rfl⟩
  have HGW := Lib.hid hg
  obtain ⟨W1, hW1⟩ : ∃ W, w.alloc (.cells #[.slice fa nf fc, .slice na n nc, .slice sa ns sc, .slice ta nt tc, .int .i64 (mo : Int), .int .i64 ((x : Int) + 2), .bool false] 50) = W := ⟨_, rfl⟩
  obtain ⟨r1, b1, s1⟩ := new_row hW1
  obtain ⟨W2, hW2⟩ : ∃ W, W1.alloc (.cells #[.int .i64 6, .string S, .string Z, .slice Ab nb cb] 58) = W := ⟨_, rfl⟩
  obtain ⟨r2, b2, s2⟩ := new_row hW2
  obtain ⟨W3, hW3⟩ : ∃ W, W2.alloc (.cells #[.slice none 0 0, .slice none 0 0, .slice none 0 0, .slice none 0 0, .int .i64 0, .int .i64 0, .bool false] 50) = W := ⟨_, rfl⟩
  obtain ⟨r3, b3, s3⟩ := new_row hW3
  obtain ⟨g2, hg2⟩ : ∃ g, W1.heap.size = g := ⟨_, rfl⟩
  obtain ⟨g3, hg3⟩ : ∃ g, W2.heap.size = g := ⟨_, rfl⟩
  have hl1 : g < g2 := by omega
  have hl2 : g2 < g3 := by omega
  replace r1 := (b3.block _ (by omega)).trans ((b2.block _ (by omega)).trans r1)
  replace r2 := (b3.block _ (by omega)).trans r2
  rw [hg] at r1
  rw [hg2] at r2
  rw [hg3] at r3
  have R3g := Lib.hid r1
  have R3o := Lib.hid r2
  have R3z := Lib.hid r3
  have B3 : Hid (Below w.heap.size w W3) := Lib.hid (b1.trans ((b2.mono b1.size).trans (b3.mono (Nat.le_trans b1.size b2.size))))
  have HWR : Hid (Calls Try.prog 40 #[R.val m, .agg #[.int .i64 6, .string S, .string Z, .slice Ab nb cb]] W3 fun e w' => e = .returned (.int .i64 0) ∧ Below W3.heap.size W3 w') := Lib.hid (rwrong_any R m S Z Ab nb cb W3 (h.below B3.out) hf (by omega) (by omega) hnb' 6 ⟨by omega, by omega⟩ 0 he)
  rw [HVAL.out] at HWR
  clear h hf hF hbs hnb he hn hnf hna hfa hfc hnc hsa hsc hta htc hns hnt hmo hfu hdn b1 s1 b2 s2 b3 s3 hflk hnwk hstk hfuk 
  go_enter Try.func25, Try.ntmps25
  go_wp2_with (first
    | (refine wpList_load_row rfl _ _ rfl _ rfl _ _ _ _ r1 Try.underlying50 rfl info_dk7 ?_)
    | (refine wpList_load_row rfl _ _ rfl _ rfl _ _ _ _ r2 Try.underlying58 rfl info_op4 ?_))
  try rw [hg, hg2, hg3]
  clear hg hg2 hg3 hW1 hW2 hW3 r1 r2 r3
  refine HWR.out.mono ?_
  rintro e w4 ⟨rfl, hb4⟩
  have R4g : Hid (w4.heap[g]? = some (.cells #[.slice fa nf fc, .slice na n nc, .slice sa ns sc, .slice ta nt tc, .int .i64 (mo : Int), .int .i64 ((x : Int) + 2), .bool false] 50 (0, 0))) := Lib.hid ((hb4.block _ (Array.getElem?_eq_some_iff.1 R3g.out).1).trans R3g.out)
  have R4o : Hid (w4.heap[g2]? = some (.cells #[.int .i64 6, .string S, .string Z, .slice Ab nb cb] 58 (0, 0))) := Lib.hid ((hb4.block _ (Array.getElem?_eq_some_iff.1 R3o.out).1).trans R3o.out)
  have R4z : Hid (w4.heap[g3]? = some (.cells #[.slice none 0 0, .slice none 0 0, .slice none 0 0, .slice none 0 0, .int .i64 0, .int .i64 0, .bool false] 50 (0, 0))) := Lib.hid ((hb4.block _ (Array.getElem?_eq_some_iff.1 R3z.out).1).trans R3z.out)
  have B4 : Hid (Below w.heap.size w w4) := Lib.hid (B3.out.trans (hb4.mono B3.out.size))
  have c4g5 : w4.cell? ⟨g, 5, none⟩ = some (.int .i64 ((x : Int) + 2)) := row_cell R4g.out 5
  have f4g5 : w4.frozen? ⟨g, 5, none⟩ = false := row_free R4g.out 5
  obtain ⟨W5, hW5⟩ : ∃ W, w4.setCell ⟨g, 5, none⟩ (.int .i64 ((x : Int) + 1)) = W := ⟨_, rfl⟩
  have G5 : Hid (w4.grownBy W5 (some g)) := Lib.hid (by rw [← hW5]; exact grown_set g 5 _)
  have R5g : Hid (W5.heap[g]? = some (.cells #[.slice fa nf fc, .slice na n nc, .slice sa ns sc, .slice ta nt tc, .int .i64 (mo : Int), .int .i64 ((x : Int) + 1), .bool false] 50 (0, 0))) := Lib.hid (by have h9 := row_set R4g.out 5 (.int .i64 ((x : Int) + 1)); rw [hW5] at h9; simpa using h9)
  have R5o : Hid (W5.heap[g2]? = some (.cells #[.int .i64 6, .string S, .string Z, .slice Ab nb cb] 58 (0, 0))) := Lib.hid (row_other R4o.out G5.out (by omega) (Array.getElem?_eq_some_iff.1 R4o.out).1)
  have R5z : Hid (W5.heap[g3]? = some (.cells #[.slice none 0 0, .slice none 0 0, .slice none 0 0, .slice none 0 0, .int .i64 0, .int .i64 0, .bool false] 50 (0, 0))) := Lib.hid (row_other R4z.out G5.out (by omega) (Array.getElem?_eq_some_iff.1 R4z.out).1)
  have B5 : Hid (Below w.heap.size w W5) := Lib.hid (bel_grown B4.out B4.out.size G5.out (by have := HGW.out; omega))
  have c5g0 : W5.cell? ⟨g, 0, none⟩ = some (.slice fa nf fc) := row_cell R5g.out 0
  have c5g1 : W5.cell? ⟨g, 1, none⟩ = some (.slice na n nc) := row_cell R5g.out 1
  have c5g3 : W5.cell? ⟨g, 3, none⟩ = some (.slice ta nt tc) := row_cell R5g.out 3
  have c5g5 : W5.cell? ⟨g, 5, none⟩ = some (.int .i64 ((x : Int) + 1)) := row_cell R5g.out 5
  have c5o0 : W5.cell? ⟨g2, 0, none⟩ = some (.int .i64 6) := row_cell R5o.out 0
  have c5o1 : W5.cell? ⟨g2, 1, none⟩ = some (.string S) := row_cell R5o.out 1
  have c5o2 : W5.cell? ⟨g2, 2, none⟩ = some (.string Z) := row_cell R5o.out 2
  have c5o3 : W5.cell? ⟨g2, 3, none⟩ = some (.slice Ab nb cb) := row_cell R5o.out 3
  have j9 : (0 : Int) < (x : Int) + 2 := by omega
  have j8 : (x : Int) + 2 - 1 = (x : Int) + 1 := by omega
  have j7 : ((x : Int) + 1 == 0) = false := by rw [beq_eq_false_iff_ne]; omega
  have j6 : IntKind.i64.wrap ((x : Int) + 1) = (x : Int) + 1 := by rw [IntKind.wrap_i64]; omega
  have HFND := Lib.hid (rfind_any na m.now n nc HN.out (by omega) S W5 (by have := (H.out.below B5.out).rn.1; rw [HEQ.out.2.2.1] at this; exact this))
  obtain ⟨q, hq⟩ : ∃ q, findI m.now S.data.toList = q := ⟨_, rfl⟩
  rw [hq] at HFND
  clear hq
  go_wp2_with fail
  refine HFND.out.mono ?_
  rintro e w9 ⟨rfl, rfl⟩
  have R9g := R5g
  have R9o := R5o
  have R9z := R5z
  have B9 := B5
  obtain ⟨gt, hq10⟩ : ∃ x, w9.heap.size = x := ⟨_, rfl⟩
  obtain ⟨W10, hW10⟩ : ∃ W, w9.alloc (.cells #[.string ⟨#[]⟩, .string ⟨#[]⟩, .int .i64 0] 90) = W := ⟨_, rfl⟩
  obtain ⟨r10, b10, s10⟩ := new_row hW10
  have R10g : Hid (W10.heap[g]? = some (.cells #[.slice fa nf fc, .slice na n nc, .slice sa ns sc, .slice ta nt tc, .int .i64 (mo : Int), .int .i64 ((x : Int) + 1), .bool false] 50 (0, 0))) := Lib.hid ((b10.block _ (Array.getElem?_eq_some_iff.1 R9g.out).1).trans R9g.out)
  have R10o : Hid (W10.heap[g2]? = some (.cells #[.int .i64 6, .string S, .string Z, .slice Ab nb cb] 58 (0, 0))) := Lib.hid ((b10.block _ (Array.getElem?_eq_some_iff.1 R9o.out).1).trans R9o.out)
  have R10z : Hid (W10.heap[g3]? = some (.cells #[.slice none 0 0, .slice none 0 0, .slice none 0 0, .slice none 0 0, .int .i64 0, .int .i64 0, .bool false] 50 (0, 0))) := Lib.hid ((b10.block _ (Array.getElem?_eq_some_iff.1 R9z.out).1).trans R9z.out)
  have B10 : Hid (Below w.heap.size w W10) := Lib.hid (B9.out.trans (b10.mono B9.out.size))
  rw [hq10] at r10
  have R10t := Lib.hid r10
  have HQ10 := Lib.hid hq10
  clear b10 s10
  have hl3 : g3 < gt := by have := (Array.getElem?_eq_some_iff.1 R9z.out).1; have := HQ10.out; omega
  obtain ⟨gf, hgf⟩ : ∃ x, x = gt := ⟨_, rfl⟩
  obtain ⟨W11, hW11, T11, R11t, G11⟩ := put_row (new := [.string ⟨#[]⟩, .string ⟨#[]⟩, .int .i64 0]) R10t.out rfl
  have HW11 := Lib.hid hW11
  clear hW11
  have R11g : Hid (W11.heap[g]? = some (.cells #[.slice fa nf fc, .slice na n nc, .slice sa ns sc, .slice ta nt tc, .int .i64 (mo : Int), .int .i64 ((x : Int) + 1), .bool false] 50 (0, 0))) := Lib.hid (row_other R10g.out G11.out (by omega) (Array.getElem?_eq_some_iff.1 R10g.out).1)
  have R11o : Hid (W11.heap[g2]? = some (.cells #[.int .i64 6, .string S, .string Z, .slice Ab nb cb] 58 (0, 0))) := Lib.hid (row_other R10o.out G11.out (by omega) (Array.getElem?_eq_some_iff.1 R10o.out).1)
  have R11z : Hid (W11.heap[g3]? = some (.cells #[.slice none 0 0, .slice none 0 0, .slice none 0 0, .slice none 0 0, .int .i64 0, .int .i64 0, .bool false] 50 (0, 0))) := Lib.hid (row_other R10z.out G11.out (by omega) (Array.getElem?_eq_some_iff.1 R10z.out).1)
  have B11 : Hid (Below w.heap.size w W11) := Lib.hid (bel_grown B10.out B10.out.size G11.out (by have := HGW.out; omega))
  have c11o0 : W11.cell? ⟨g2, 0, none⟩ = some (.int .i64 6) := row_cell R11o.out 0
  have c11o1 : W11.cell? ⟨g2, 1, none⟩ = some (.string S) := row_cell R11o.out 1
  have c11o2 : W11.cell? ⟨g2, 2, none⟩ = some (.string Z) := row_cell R11o.out 2
  have c11o3 : W11.cell? ⟨g2, 3, none⟩ = some (.slice Ab nb cb) := row_cell R11o.out 3
  have c11g0 : W11.cell? ⟨g, 0, none⟩ = some (.slice fa nf fc) := row_cell R11g.out 0
  have c11g1 : W11.cell? ⟨g, 1, none⟩ = some (.slice na n nc) := row_cell R11g.out 1
  have c11g3 : W11.cell? ⟨g, 3, none⟩ = some (.slice ta nt tc) := row_cell R11g.out 3
  have c11g1 : W11.cell? ⟨g, 1, none⟩ = some (.slice na n nc) := row_cell R11g.out 1
  have c11g2 : W11.cell? ⟨g, 2, none⟩ = some (.slice sa ns sc) := row_cell R11g.out 2
  have f11g2 : W11.frozen? ⟨g, 2, none⟩ = false := row_free R11g.out 2
  obtain ⟨W12, hW12⟩ : ∃ W, W11.setCell ⟨g, 2, none⟩ (.slice na n nc) = W := ⟨_, rfl⟩
  have G12 : Hid (W11.grownBy W12 (some g)) := Lib.hid (by rw [← hW12]; exact grown_set g 2 _)
  have R12g : Hid (W12.heap[g]? = some (.cells #[.slice fa nf fc, .slice na n nc, .slice na n nc, .slice ta nt tc, .int .i64 (mo : Int), .int .i64 ((x : Int) + 1), .bool false] 50 (0, 0))) := Lib.hid (by have h9 := row_set R11g.out 2 (.slice na n nc); rw [hW12] at h9; simpa using h9)
  have R12o : Hid (W12.heap[g2]? = some (.cells #[.int .i64 6, .string S, .string Z, .slice Ab nb cb] 58 (0, 0))) := Lib.hid (row_other R11o.out G12.out (by omega) (Array.getElem?_eq_some_iff.1 R11o.out).1)
  have R12z : Hid (W12.heap[g3]? = some (.cells #[.slice none 0 0, .slice none 0 0, .slice none 0 0, .slice none 0 0, .int .i64 0, .int .i64 0, .bool false] 50 (0, 0))) := Lib.hid (row_other R11z.out G12.out (by omega) (Array.getElem?_eq_some_iff.1 R11z.out).1)
  have R12t : Hid (W12.heap[gt]? = some (.cells #[.string ⟨#[]⟩, .string ⟨#[]⟩, .int .i64 0] 90 (0, 0))) := Lib.hid (row_other R11t.out G12.out (by omega) (Array.getElem?_eq_some_iff.1 R11t.out).1)
  have B12 : Hid (Below w.heap.size w W12) := Lib.hid (bel_grown B11.out B11.out.size G12.out (by have := HGW.out; omega))
  obtain ⟨x13, hx13⟩ : ∃ x, W12.heap.size = x := ⟨_, rfl⟩
  obtain ⟨W13, hW13⟩ : ∃ W, W12.alloc (.cells #[] 90) = W := ⟨_, rfl⟩
  obtain ⟨r13, b13, s13⟩ := new_row hW13
  have R13g : Hid (W13.heap[g]? = some (.cells #[.slice fa nf fc, .slice na n nc, .slice na n nc, .slice ta nt tc, .int .i64 (mo : Int), .int .i64 ((x : Int) + 1), .bool false] 50 (0, 0))) := Lib.hid ((b13.block _ (Array.getElem?_eq_some_iff.1 R12g.out).1).trans R12g.out)
  have R13o : Hid (W13.heap[g2]? = some (.cells #[.int .i64 6, .string S, .string Z, .slice Ab nb cb] 58 (0, 0))) := Lib.hid ((b13.block _ (Array.getElem?_eq_some_iff.1 R12o.out).1).trans R12o.out)
  have R13z : Hid (W13.heap[g3]? = some (.cells #[.slice none 0 0, .slice none 0 0, .slice none 0 0, .slice none 0 0, .int .i64 0, .int .i64 0, .bool false] 50 (0, 0))) := Lib.hid ((b13.block _ (Array.getElem?_eq_some_iff.1 R12z.out).1).trans R12z.out)
  have R13t : Hid (W13.heap[gt]? = some (.cells #[.string ⟨#[]⟩, .string ⟨#[]⟩, .int .i64 0] 90 (0, 0))) := Lib.hid ((b13.block _ (Array.getElem?_eq_some_iff.1 R12t.out).1).trans R12t.out)
  have B13 : Hid (Below w.heap.size w W13) := Lib.hid (B12.out.trans (b13.mono B12.out.size))
  have c13g3 : W13.cell? ⟨g, 3, none⟩ = some (.slice ta nt tc) := row_cell R13g.out 3
  have f13g3 : W13.frozen? ⟨g, 3, none⟩ = false := row_free R13g.out 3
  obtain ⟨W14, hW14⟩ : ∃ W, W13.setCell ⟨g, 3, none⟩ (.slice (some ⟨x13, 0, none⟩) 0 0) = W := ⟨_, rfl⟩
  have G14 : Hid (W13.grownBy W14 (some g)) := Lib.hid (by rw [← hW14]; exact grown_set g 3 _)
  have R14g : Hid (W14.heap[g]? = some (.cells #[.slice fa nf fc, .slice na n nc, .slice na n nc, .slice (some ⟨x13, 0, none⟩) 0 0, .int .i64 (mo : Int), .int .i64 ((x : Int) + 1), .bool false] 50 (0, 0))) := Lib.hid (by have h9 := row_set R13g.out 3 (.slice (some ⟨x13, 0, none⟩) 0 0); rw [hW14] at h9; simpa using h9)
  have R14o : Hid (W14.heap[g2]? = some (.cells #[.int .i64 6, .string S, .string Z, .slice Ab nb cb] 58 (0, 0))) := Lib.hid (row_other R13o.out G14.out (by omega) (Array.getElem?_eq_some_iff.1 R13o.out).1)
  have R14z : Hid (W14.heap[g3]? = some (.cells #[.slice none 0 0, .slice none 0 0, .slice none 0 0, .slice none 0 0, .int .i64 0, .int .i64 0, .bool false] 50 (0, 0))) := Lib.hid (row_other R13z.out G14.out (by omega) (Array.getElem?_eq_some_iff.1 R13z.out).1)
  have R14t : Hid (W14.heap[gt]? = some (.cells #[.string ⟨#[]⟩, .string ⟨#[]⟩, .int .i64 0] 90 (0, 0))) := Lib.hid (row_other R13t.out G14.out (by omega) (Array.getElem?_eq_some_iff.1 R13t.out).1)
  have B14 : Hid (Below w.heap.size w W14) := Lib.hid (bel_grown B13.out B13.out.size G14.out (by have := HGW.out; omega))
  obtain ⟨W15, hW15, T15, R15z, G15⟩ := put_row (new := [.slice fa nf fc, .slice na n nc, .slice na n nc, .slice (some ⟨x13, 0, none⟩) 0 0, .int .i64 (mo : Int), .int .i64 ((x : Int) + 1), .bool false]) R14z.out rfl
  have HW15 := Lib.hid hW15
  clear hW15
  have R15g : Hid (W15.heap[g]? = some (.cells #[.slice fa nf fc, .slice na n nc, .slice na n nc, .slice (some ⟨x13, 0, none⟩) 0 0, .int .i64 (mo : Int), .int .i64 ((x : Int) + 1), .bool false] 50 (0, 0))) := Lib.hid (row_other R14g.out G15.out (by omega) (Array.getElem?_eq_some_iff.1 R14g.out).1)
  have R15o : Hid (W15.heap[g2]? = some (.cells #[.int .i64 6, .string S, .string Z, .slice Ab nb cb] 58 (0, 0))) := Lib.hid (row_other R14o.out G15.out (by omega) (Array.getElem?_eq_some_iff.1 R14o.out).1)
  have R15t : Hid (W15.heap[gt]? = some (.cells #[.string ⟨#[]⟩, .string ⟨#[]⟩, .int .i64 0] 90 (0, 0))) := Lib.hid (row_other R14t.out G15.out (by omega) (Array.getElem?_eq_some_iff.1 R14t.out).1)
  have B15 : Hid (Below w.heap.size w W15) := Lib.hid (bel_grown B14.out B14.out.size G15.out (by have := HGW.out; omega))
  obtain ⟨R9, hR9⟩ : ∃ x : RA, x = { R with sa := R.na, sc := R.nc, ta := some ⟨x13, 0, none⟩, tc := 0 } := ⟨_, rfl⟩
  have HRI : Hid (RIn F W15 R9 mm) := Lib.hid (by
    rw [hR9, ← HMM.out]
    exact (((H.out.below B15.out).flushed).same rfl rfl rfl rfl))
  have HV : Hid (R9.val mm = .agg #[.slice fa nf fc, .slice na n nc, .slice na n nc, .slice (some ⟨x13, 0, none⟩) 0 0, .int .i64 (mo : Int), .int .i64 ((x : Int) + 1), .bool false]) := Lib.hid (by
    obtain ⟨e1, e2, e3, e4, e5, e6, e7, e8, e9, e10, e11, e12, e13⟩ := HEQ.out
    rw [hR9, ← HMM.out]
    simp only [RA.val, RA.row, setF, List.length_set, List.length_append, List.length_cons, List.length_nil, e1, e2, e3, e4, e5, e6, e7, e8, e9, e10, e11, e12, e13, HDN.out]
    try rfl)
  go_wp2_with (first
    | ((with_reducible (refine wpList_store_mid rfl _ _ _ rfl ?_ ?_ ?_ ?_ ?_ ?_ ?_ ?_ ?_)); (exact gt); (exact 0); (exact ([.string ⟨#[]⟩, .string ⟨#[]⟩, .int .i64 0]).toArray); (exact rfl); (exact rfl); (exact T11.out); (exact info_tn3a); (exact cells3); rw [HW11.out])
    | (refine wpList_load_row rfl _ _ rfl _ rfl _ _ _ _ R14g.out Try.underlying50 rfl info_dk7 ?_)
    | ((with_reducible (refine wpList_store_mid rfl _ _ _ rfl ?_ ?_ ?_ ?_ ?_ ?_ ?_ ?_ ?_)); (exact g3); (exact 0); (exact ([.slice fa nf fc, .slice na n nc, .slice na n nc, .slice (some ⟨x13, 0, none⟩) 0 0, .int .i64 (mo : Int), .int .i64 ((x : Int) + 1), .bool false]).toArray); (exact rfl); (exact rfl); (exact T15.out); (exact info_dk7); (exact cells7); rw [HW15.out]))
  refine bodyPost_ret (results_row_tmp rfl _ _ _ _ _ _ _ rfl R15z.out Try.underlying50 rfl info_dk7) rfl ⟨R9, by rw [HV.out]; rfl, HRI.out, B15.out⟩
end

end Go.Proofs.Ytpmifpblamjclaa
