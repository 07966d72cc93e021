/- The document's disk: Do: an error; the power goes; Flush. (Printed by wip/genDp8.py.) -/
import Derived.Test.YtelbofikcpchiaaGreatQJ
namespace Go.Proofs.YtelbofikcpchiaaGreat
open Go.RowKit
theorem info_op4 {a b c d : Value} : (Tryz.prog.info? 56).map (·.size) = some (#[a, b, c, d] : Array Value).size := by kernel_rfl
theorem info_tn3a {a b c : Value} : (Tryz.prog.info? 103).map (·.size) = some (#[a, b, c] : Array Value).size := by kernel_rfl
theorem info_fl2a {a b : Value} : (Tryz.prog.info? 105).map (·.size) = some (#[a, b] : Array Value).size := by kernel_rfl
theorem cells3 {a b : ByteArray} {c : Int} : (#[.string a, .string b, .int .i64 c] : Array Value).all (·.oneCell') = true := by simp [Value.oneCell']
theorem cells2 {A : Option Addr} {a b : Nat} {c : Int} : (#[.slice A a b, .int .i64 c] : Array Value).all (·.oneCell') = true := by simp [Value.oneCell']
def sF (F : Nat → Prop) (g g3 gt gf : Nat) : Nat → Prop := fun b => F b ∨ b = g ∨ b = g3 ∨ b = gt ∨ b = gf
set_option linter.unusedSectionVars false
section
variable {F : Nat → Prop} {w : World} {R : RA} {m m' : DM}
theorem RIn.same (h : RIn F w R m) (h1 : m'.files = m.files) (h2 : m'.now = m.now) (h3 : m'.sure = m.sure) (h4 : m'.turns = m.turns) : RIn F w R m' :=
 ⟨h1.trans h.fm, h.rf, h.rb, by rw [h2]; exact h.rn, by rw [h3]; exact h.rs, by rw [h4]; exact h.rt⟩
theorem RIn.setf (h : RIn F w R m) {A : Option Addr} {c fi : Nat} {p : PV × Nat} (hA : RdF F w A (filesC (R.fs.set fi p))) (hp : RdF F w p.1.A (b8s p.1.bs) ∧ p.1.bs.length ≤ p.1.c ∧ p.1.c ≤ 9223372036854775807) :
  RIn F w { R with fs := R.fs.set fi p, fa := A, fc := c } (setF m fi (filM p)) := by
 refine ⟨?_, hA, fun q hq => ?_, h.rn, h.rs, h.rt⟩
 ·show m.files.set fi (filM p) = (R.fs.set fi p).map filM
  rw [h.fm, List.map_set]
 ·rcases List.mem_or_eq_of_mem_set hq with hq | rfl
  ·exact h.rb q hq
  ·exact hp
theorem RIn.newf (h : RIn F w R m) {A : Option Addr} {c : Nat} (hA : RdF F w A (filesC (R.fs ++ [((⟨none, 0, []⟩ : PV), 0)]))) :
  RIn F w { R with fs := R.fs ++ [((⟨none, 0, []⟩ : PV), 0)], fa := A, fc := c } { m with files := m.files ++ [⟨[], 0⟩] } := by
 refine ⟨?_, hA, fun q hq => ?_, h.rn, h.rs, h.rt⟩
 ·show m.files ++ [⟨[], 0⟩] = (R.fs ++ [((⟨none, 0, []⟩ : PV), 0)]).map filM
  rw [h.fm, List.map_append]
  rfl
 ·rcases List.mem_append.1 hq with hq | hq
  ·exact h.rb q hq
  ·rw [List.mem_singleton.1 hq]
   exact ⟨RdF.nil, Nat.le_refl _, by decide⟩
theorem RIn.turned (h : RIn F w R m) {A B : Option Addr} {c c' : Nat} {t : TM} {ns : NM} (hA : RdF F w A (turnsR (m.turns ++ [t]))) (hB : RdF F w B (namesR ns)) :
  RIn F w { R with ta := A, tc := c, na := B, nc := c' } { m with now := ns, turns := m.turns ++ [t] } := ⟨h.fm, h.rf, h.rb, hB, h.rs, hA⟩
theorem RIn.flushed (h : RIn F w R m) {A : Option Addr} {c : Nat} :
  RIn F w { R with sa := R.na, sc := R.nc, ta := A, tc := c } { m with sure := m.now, turns := [] } := ⟨h.fm, h.rf, h.rb, h.rn, h.rn, RdF.nil⟩
end
theorem tn_one3 {a b : ByteArray} {c : Int} : ∀ u ∈ ([.string a, .string b, .int .i64 c] : List Value), u.oneCell' = true := by
 intro u hu
 simp only [List.mem_cons, List.not_mem_nil, or_false] at hu
 rcases hu with rfl | rfl | rfl <;> rfl
section
variable {K L : Nat} {F : Nat → Prop} (R : RA) (m : DM) (S Z : ByteArray) (Ab : Option Addr) (nb cb : Nat) (bs : List UInt8) (w : World) (h : RIn F w R m) (hF : ∀ b, F b → b < w.heap.size) (hf : Fit K L m) (hK : K ≤ 998) (hL : L ≤ 999999) (hnb : nb = bs.length ∧ nb ≤ 1000000) (hbs : Rd w Ab (b8s bs))
include h hF hf hK hL hnb hbs
set_option maxRecDepth 100000 in
set_option maxHeartbeats 16000000 in
theorem rdo_err (k : Nat) (hk : 1 ≤ k ∧ k ≤ 6) (e' : Int) (he : wrongM m (k : Int) S.data.toList Z.data.toList nb = e') (hne : e' ≠ 0) :
  Calls Tryz.prog 18 #[R.val m, .agg #[.int .i64 (k : Int), .string S, .string Z, .slice Ab nb cb]] w fun e w' => e = .returned (.tuple #[R.val m, .int .i64 e']) ∧ Below w.heap.size w w' := by
 have z1 : (e' != 0) = true := by rw [bne_iff_ne]; exact hne
 have H := h_ h
 have HF := h_ hf
 have HFW := h_ hF
 have HBS := h_ hbs
 have HNB := h_ hnb
 have hnb' := hnb.2
 have hflk := hf.files
 have hnwk := hf.now
 have hstk := hf.st
 have hfuk := hf.fuse
 have hlk : ∀ i, (fileM m i).b.length ≤ L ∧ (fileM m i).safe ≤ (fileM m i).b.length := fun i => hf.fileM i
 have HLK := h_ hlk
 clear hlk
 obtain ⟨nf, hnf⟩ := eX m.files.length
 obtain ⟨n, hn⟩ := eX m.now.length
 have hnk : n ≤ 998 := by omega
 have hnfk : nf ≤ 998 := by omega
 obtain ⟨na, hna⟩ := eX R.na
 obtain ⟨fa, hfa⟩ := eX R.fa
 obtain ⟨fc, hfc⟩ := eX R.fc
 obtain ⟨nc, hnc⟩ := eX R.nc
 obtain ⟨sa, hsa⟩ := eX R.sa
 obtain ⟨sc, hsc⟩ := eX R.sc
 obtain ⟨ta, hta⟩ := eX R.ta
 obtain ⟨tc, htc⟩ := eX R.tc
 obtain ⟨ns, hns⟩ := eX m.sure.length
 obtain ⟨nt, hnt⟩ := eX m.turns.length
 have hntk : nt ≤ 998 := by omega
 obtain ⟨mo, hmo⟩ := eX m.most
 obtain ⟨fu, hfu⟩ := eX m.fuse
 obtain ⟨dn, hdn⟩ := eX m.down
 have HEQ : Hid (m.files.length = nf ∧ m.now.length = n ∧ R.na = na ∧ R.fa = fa ∧ R.fc = fc ∧ R.nc = nc ∧ R.sa = sa ∧ R.sc = sc ∧ R.ta = ta ∧ R.tc = tc ∧ m.sure.length = ns ∧ m.turns.length = nt ∧ m.most = mo) := h_ ⟨hnf, hn, hna, hfa, hfc, hnc, hsa, hsc, hta, htc, hns, hnt, hmo⟩
 have HVAL : Hid (R.val m = .agg #[.slice fa nf fc, .slice na n nc, .slice sa ns sc, .slice ta nt tc, .int .i64 (mo : Int), .int .i64 (fu : Int), .bool dn]) := h_ (by
  unfold RA.val RA.row
  rw [hn, hnf, hfa, hna, hsa, hta, hfc, hnc, hsc, htc, hns, hnt, hmo, hfu, hdn]
  try first | rfl | simp)
 have HN := h_ hn
 have HNF := h_ hnf
 have HFU := h_ hfu
 have HDN := h_ hdn
 rw [HVAL.out]
 obtain ⟨g, hg⟩ := eX w.heap.size
 have HGW := h_ hg
 obtain ⟨W1, hW1⟩ := eX (w.alloc (.cells #[.slice fa nf fc, .slice na n nc, .slice sa ns sc, .slice ta nt tc, .int .i64 (mo : Int), .int .i64 (fu : Int), .bool dn] 53))
 obtain ⟨r1, b1, s1⟩ := new_row hW1
 obtain ⟨W2, hW2⟩ := eX (W1.alloc (.cells #[.int .i64 (k : Int), .string S, .string Z, .slice Ab nb cb] 56))
 obtain ⟨r2, b2, s2⟩ := new_row hW2
 obtain ⟨W3, hW3⟩ := eX (W2.alloc (.cells #[.slice none 0 0, .slice none 0 0, .slice none 0 0, .slice none 0 0, .int .i64 0, .int .i64 0, .bool false] 53))
 obtain ⟨r3, b3, s3⟩ := new_row hW3
 obtain ⟨g2, hg2⟩ := eX W1.heap.size
 obtain ⟨g3, hg3⟩ := eX W2.heap.size
 have hl1 : g < g2 := by omega
 have hl2 : g2 < g3 := by omega
 replace r1 := (b3.block _ (by omega)).trans ((b2.block _ (by omega)).trans r1)
 replace r2 := (b3.block _ (by omega)).trans r2
 rw [hg] at r1
 rw [hg2] at r2
 rw [hg3] at r3
 have R3g := h_ r1
 have R3o := h_ r2
 have R3z := h_ r3
 have B3 : Hid (Below w.heap.size w W3) := h_ (b1.trans ((b2.mono b1.size).trans (b3.mono (Nat.le_trans b1.size b2.size))))
 have HWR : Hid (Calls Tryz.prog 42 #[R.val m, .agg #[.int .i64 (k : Int), .string S, .string Z, .slice Ab nb cb]] W3 fun e w' => e = .returned (.int .i64 e') ∧ Below W3.heap.size W3 w') := h_ (rwrong_any R m S Z Ab nb cb W3 (h.below B3.out) hf (by omega) (by omega) hnb' k hk e' he)
 rw [HVAL.out] at HWR
 clear h hf hF hbs hnb he hn hnf hna hfa hfc hnc hsa hsc hta htc hns hnt hmo hfu hdn b1 s1 b2 s2 b3 s3 hflk hnwk hstk hfuk hne
 go_enter Tryz.func18, Tryz.ntmps18
 go_wp2_with (first
  | (refine wpList_load_row rfl _ _ rfl _ rfl _ _ _ _ r1 Tryz.underlying53 rfl info_dk7 ?_)
  | (refine wpList_load_row rfl _ _ rfl _ rfl _ _ _ _ r2 Tryz.underlying56 rfl info_op4 ?_))
 try rw [hg, hg2, hg3]
 clear hg hg2 hg3 hW1 hW2 hW3 r1 r2 r3
 refine HWR.out.mono ?_
 rintro e w4 ⟨rfl, hb4⟩
 have R4g := bl_ hb4 R3g
 have R4o := bl_ hb4 R3o
 have R4z := bl_ hb4 R3z
 have B4 := bt_ B3 hb4
 obtain ⟨W5, hW5, T5, R5z, G5⟩ := put_row (new := [.slice fa nf fc, .slice na n nc, .slice sa ns sc, .slice ta nt tc, .int .i64 (mo : Int), .int .i64 (fu : Int), .bool dn]) R4z.out rfl
 have HW5 := h_ hW5
 clear hW5
 have R5g := ro_ R4g G5 (by omega)
 have R5o := ro_ R4o G5 (by omega)
 have B5 := bg_ B4 G5 (by have := HGW.out; omega)
 go_wp2_with (first
  | (refine wpList_load_row rfl _ _ rfl _ rfl _ _ _ _ R4g.out Tryz.underlying53 rfl info_dk7 ?_)
  | ((with_reducible (refine wpList_store_mid rfl _ _ _ rfl ?_ ?_ ?_ ?_ ?_ ?_ ?_ ?_ ?_)); exact g3; exact 0; (exact ([.slice fa nf fc, .slice na n nc, .slice sa ns sc, .slice ta nt tc, .int .i64 (mo : Int), .int .i64 (fu : Int), .bool dn]).toArray); exact rfl; exact rfl; exact T5.out; exact info_dk7; exact cells7; rw [HW5.out]))
 exact bodyPost_ret (results_row_tmp rfl _ _ _ _ _ _ _ rfl R5z.out Tryz.underlying53 rfl info_dk7) rfl ⟨by rfl, B5.out⟩
set_option maxRecDepth 100000 in
set_option maxHeartbeats 16000000 in
theorem rdo_fuse (k : Nat) (hk : 1 ≤ k ∧ k ≤ 6) (he : wrongM m (k : Int) S.data.toList Z.data.toList nb = 0) (hdn : m.down = false) (hfu : m.fuse = 1) :
  Calls Tryz.prog 18 #[R.val m, .agg #[.int .i64 (k : Int), .string S, .string Z, .slice Ab nb cb]] w fun e w' => e = .returned (.tuple #[R.val { m with fuse := 0, down := true }, .int .i64 50]) ∧ Below w.heap.size w w' := by
 have HV2 : Hid (∀ q, R.val { m with fuse := 0, down := true } = q ↔ q = .agg #[.slice R.fa m.files.length R.fc, .slice R.na m.now.length R.nc, .slice R.sa m.sure.length R.sc, .slice R.ta m.turns.length R.tc, .int .i64 (m.most : Int), .int .i64 0, .bool true]) := h_ (fun q => ⟨fun h => h ▸ rfl, fun h => h ▸ rfl⟩)
 rw [(HV2.out _).2 rfl]
 have H := h_ h
 have HF := h_ hf
 have HFW := h_ hF
 have HBS := h_ hbs
 have HNB := h_ hnb
 have hnb' := hnb.2
 have hflk := hf.files
 have hnwk := hf.now
 have hstk := hf.st
 have hfuk := hf.fuse
 have hlk : ∀ i, (fileM m i).b.length ≤ L ∧ (fileM m i).safe ≤ (fileM m i).b.length := fun i => hf.fileM i
 have HLK := h_ hlk
 clear hlk
 obtain ⟨nf, hnf⟩ := eX m.files.length
 obtain ⟨n, hn⟩ := eX m.now.length
 have hnk : n ≤ 998 := by omega
 have hnfk : nf ≤ 998 := by omega
 obtain ⟨na, hna⟩ := eX R.na
 obtain ⟨fa, hfa⟩ := eX R.fa
 obtain ⟨fc, hfc⟩ := eX R.fc
 obtain ⟨nc, hnc⟩ := eX R.nc
 obtain ⟨sa, hsa⟩ := eX R.sa
 obtain ⟨sc, hsc⟩ := eX R.sc
 obtain ⟨ta, hta⟩ := eX R.ta
 obtain ⟨tc, htc⟩ := eX R.tc
 obtain ⟨ns, hns⟩ := eX m.sure.length
 obtain ⟨nt, hnt⟩ := eX m.turns.length
 have hntk : nt ≤ 998 := by omega
 obtain ⟨mo, hmo⟩ := eX m.most
 rw [hna, hfa, hfc, hnc, hsa, hsc, hta, htc, hns, hnt, hmo, hn, hnf]
 have HEQ : Hid (m.files.length = nf ∧ m.now.length = n ∧ R.na = na ∧ R.fa = fa ∧ R.fc = fc ∧ R.nc = nc ∧ R.sa = sa ∧ R.sc = sc ∧ R.ta = ta ∧ R.tc = tc ∧ m.sure.length = ns ∧ m.turns.length = nt ∧ m.most = mo) := h_ ⟨hnf, hn, hna, hfa, hfc, hnc, hsa, hsc, hta, htc, hns, hnt, hmo⟩
 have HVAL : Hid (R.val m = .agg #[.slice fa nf fc, .slice na n nc, .slice sa ns sc, .slice ta nt tc, .int .i64 (mo : Int), .int .i64 1, .bool false]) := h_ (by
  unfold RA.val RA.row
  rw [hn, hnf, hfa, hna, hsa, hta, hfc, hnc, hsc, htc, hns, hnt, hmo, hfu, hdn]
  try first | rfl | simp)
 have HN := h_ hn
 have HNF := h_ hnf
 have HFU := h_ hfu
 have HDN := h_ hdn
 rw [HVAL.out]
 obtain ⟨g, hg⟩ := eX w.heap.size
 have HGW := h_ hg
 obtain ⟨W1, hW1⟩ := eX (w.alloc (.cells #[.slice fa nf fc, .slice na n nc, .slice sa ns sc, .slice ta nt tc, .int .i64 (mo : Int), .int .i64 1, .bool false] 53))
 obtain ⟨r1, b1, s1⟩ := new_row hW1
 obtain ⟨W2, hW2⟩ := eX (W1.alloc (.cells #[.int .i64 (k : Int), .string S, .string Z, .slice Ab nb cb] 56))
 obtain ⟨r2, b2, s2⟩ := new_row hW2
 obtain ⟨W3, hW3⟩ := eX (W2.alloc (.cells #[.slice none 0 0, .slice none 0 0, .slice none 0 0, .slice none 0 0, .int .i64 0, .int .i64 0, .bool false] 53))
 obtain ⟨r3, b3, s3⟩ := new_row hW3
 obtain ⟨g2, hg2⟩ := eX W1.heap.size
 obtain ⟨g3, hg3⟩ := eX W2.heap.size
 have hl1 : g < g2 := by omega
 have hl2 : g2 < g3 := by omega
 replace r1 := (b3.block _ (by omega)).trans ((b2.block _ (by omega)).trans r1)
 replace r2 := (b3.block _ (by omega)).trans r2
 rw [hg] at r1
 rw [hg2] at r2
 rw [hg3] at r3
 have R3g := h_ r1
 have R3o := h_ r2
 have R3z := h_ r3
 have B3 : Hid (Below w.heap.size w W3) := h_ (b1.trans ((b2.mono b1.size).trans (b3.mono (Nat.le_trans b1.size b2.size))))
 have HWR : Hid (Calls Tryz.prog 42 #[R.val m, .agg #[.int .i64 (k : Int), .string S, .string Z, .slice Ab nb cb]] W3 fun e w' => e = .returned (.int .i64 0) ∧ Below W3.heap.size W3 w') := h_ (rwrong_any R m S Z Ab nb cb W3 (h.below B3.out) hf (by omega) (by omega) hnb' k hk 0 he)
 rw [HVAL.out] at HWR
 clear h hf hF hbs hnb he hn hnf hna hfa hfc hnc hsa hsc hta htc hns hnt hmo hfu hdn b1 s1 b2 s2 b3 s3 hflk hnwk hstk hfuk
 go_enter Tryz.func18, Tryz.ntmps18
 go_wp2_with (first
  | (refine wpList_load_row rfl _ _ rfl _ rfl _ _ _ _ r1 Tryz.underlying53 rfl info_dk7 ?_)
  | (refine wpList_load_row rfl _ _ rfl _ rfl _ _ _ _ r2 Tryz.underlying56 rfl info_op4 ?_))
 try rw [hg, hg2, hg3]
 clear hg hg2 hg3 hW1 hW2 hW3 r1 r2 r3
 refine HWR.out.mono ?_
 rintro e w4 ⟨rfl, hb4⟩
 have R4g := bl_ hb4 R3g
 have R4o := bl_ hb4 R3o
 have R4z := bl_ hb4 R3z
 have B4 := bt_ B3 hb4
 have c4g5 := (rw7 R4g).2.2.2.2.2.1
 have f4g5 : w4.frozen? ⟨g, 5, none⟩ = false := row_free R4g.out 5
 obtain ⟨W5, hW5⟩ := eX (w4.setCell ⟨g, 5, none⟩ (.int .i64 0))
 have G5 : Hid (w4.grownBy W5 (some g)) := h_ (by rw [← hW5]; exact grown_set g 5 _)
 have R5g : Hid (W5.heap[g]? = some (.cells #[.slice fa nf fc, .slice na n nc, .slice sa ns sc, .slice ta nt tc, .int .i64 (mo : Int), .int .i64 0, .bool false] 53 (0, 0))) := h_ (by have h9 := row_set R4g.out 5 (.int .i64 0); rw [hW5] at h9; simpa using h9)
 have R5o := ro_ R4o G5 (by omega)
 have R5z := ro_ R4z G5 (by omega)
 have B5 := bg_ B4 G5 (by have := HGW.out; omega)
 obtain ⟨-, -, -, -, -, c5g5, c5g6⟩ := rw7 R5g
 have f5g6 : W5.frozen? ⟨g, 6, none⟩ = false := row_free R5g.out 6
 obtain ⟨W6, hW6⟩ := eX (W5.setCell ⟨g, 6, none⟩ (.bool true))
 have G6 : Hid (W5.grownBy W6 (some g)) := h_ (by rw [← hW6]; exact grown_set g 6 _)
 have R6g : Hid (W6.heap[g]? = some (.cells #[.slice fa nf fc, .slice na n nc, .slice sa ns sc, .slice ta nt tc, .int .i64 (mo : Int), .int .i64 0, .bool true] 53 (0, 0))) := h_ (by have h9 := row_set R5g.out 6 (.bool true); rw [hW6] at h9; simpa using h9)
 have R6o := ro_ R5o G6 (by omega)
 have R6z := ro_ R5z G6 (by omega)
 have B6 := bg_ B5 G6 (by have := HGW.out; omega)
 obtain ⟨W7, hW7, T7, R7z, G7⟩ := put_row (new := [.slice fa nf fc, .slice na n nc, .slice sa ns sc, .slice ta nt tc, .int .i64 (mo : Int), .int .i64 0, .bool true]) R6z.out rfl
 have HW7 := h_ hW7
 clear hW7
 have R7g := ro_ R6g G7 (by omega)
 have R7o := ro_ R6o G7 (by omega)
 have B7 := bg_ B6 G7 (by have := HGW.out; omega)
 go_wp2_with (first
  | (refine wpList_load_row rfl _ _ rfl _ rfl _ _ _ _ R6g.out Tryz.underlying53 rfl info_dk7 ?_)
  | ((with_reducible (refine wpList_store_mid rfl _ _ _ rfl ?_ ?_ ?_ ?_ ?_ ?_ ?_ ?_ ?_)); exact g3; exact 0; (exact ([.slice fa nf fc, .slice na n nc, .slice sa ns sc, .slice ta nt tc, .int .i64 (mo : Int), .int .i64 0, .bool true]).toArray); exact rfl; exact rfl; exact T7.out; exact info_dk7; exact cells7; rw [HW7.out]))
 exact bodyPost_ret (results_row_tmp rfl _ _ _ _ _ _ _ rfl R7z.out Tryz.underlying53 rfl info_dk7) rfl ⟨by rfl, B7.out⟩
set_option maxRecDepth 100000 in
set_option maxHeartbeats 16000000 in
theorem rdo6n (he : wrongM m 6 S.data.toList Z.data.toList nb = 0) (hdn : m.down = false) (hfu : m.fuse = 0) :
  Calls Tryz.prog 18 #[R.val m, .agg #[.int .i64 6, .string S, .string Z, .slice Ab nb cb]] w fun e w' => ∃ R' : RA, e = .returned (.tuple #[R'.val ({ m with fuse := 0, sure := m.now, turns := [] }), .int .i64 0]) ∧ RIn F w' R' ({ m with fuse := 0, sure := m.now, turns := [] }) ∧ Below w.heap.size w w' := by
 obtain ⟨mm, hmm⟩ : ∃ y, { m with fuse := 0, sure := m.now, turns := [] } = y := ⟨_, rfl⟩
 rw [hmm]
 have HMM := h_ hmm
 clear hmm
 have H := h_ h
 have HF := h_ hf
 have HFW := h_ hF
 have HBS := h_ hbs
 have HNB := h_ hnb
 have hnb' := hnb.2
 have hflk := hf.files
 have hnwk := hf.now
 have hstk := hf.st
 have hfuk := hf.fuse
 have hlk : ∀ i, (fileM m i).b.length ≤ L ∧ (fileM m i).safe ≤ (fileM m i).b.length := fun i => hf.fileM i
 have HLK := h_ hlk
 clear hlk
 obtain ⟨nf, hnf⟩ := eX m.files.length
 obtain ⟨n, hn⟩ := eX m.now.length
 have hnk : n ≤ 998 := by omega
 have hnfk : nf ≤ 998 := by omega
 obtain ⟨na, hna⟩ := eX R.na
 obtain ⟨fa, hfa⟩ := eX R.fa
 obtain ⟨fc, hfc⟩ := eX R.fc
 obtain ⟨nc, hnc⟩ := eX R.nc
 obtain ⟨sa, hsa⟩ := eX R.sa
 obtain ⟨sc, hsc⟩ := eX R.sc
 obtain ⟨ta, hta⟩ := eX R.ta
 obtain ⟨tc, htc⟩ := eX R.tc
 obtain ⟨ns, hns⟩ := eX m.sure.length
 obtain ⟨nt, hnt⟩ := eX m.turns.length
 have hntk : nt ≤ 998 := by omega
 obtain ⟨mo, hmo⟩ := eX m.most
 have HEQ : Hid (m.files.length = nf ∧ m.now.length = n ∧ R.na = na ∧ R.fa = fa ∧ R.fc = fc ∧ R.nc = nc ∧ R.sa = sa ∧ R.sc = sc ∧ R.ta = ta ∧ R.tc = tc ∧ m.sure.length = ns ∧ m.turns.length = nt ∧ m.most = mo) := h_ ⟨hnf, hn, hna, hfa, hfc, hnc, hsa, hsc, hta, htc, hns, hnt, hmo⟩
 have HVAL : Hid (R.val m = .agg #[.slice fa nf fc, .slice na n nc, .slice sa ns sc, .slice ta nt tc, .int .i64 (mo : Int), .int .i64 0, .bool false]) := h_ (by
  unfold RA.val RA.row
  rw [hn, hnf, hfa, hna, hsa, hta, hfc, hnc, hsc, htc, hns, hnt, hmo, hfu, hdn]
  try first | rfl | simp)
 have HN := h_ hn
 have HNF := h_ hnf
 have HFU := h_ hfu
 have HDN := h_ hdn
 rw [HVAL.out]
 obtain ⟨g, hg⟩ := eX w.heap.size
 have HGW := h_ hg
 obtain ⟨W1, hW1⟩ := eX (w.alloc (.cells #[.slice fa nf fc, .slice na n nc, .slice sa ns sc, .slice ta nt tc, .int .i64 (mo : Int), .int .i64 0, .bool false] 53))
 obtain ⟨r1, b1, s1⟩ := new_row hW1
 obtain ⟨W2, hW2⟩ := eX (W1.alloc (.cells #[.int .i64 6, .string S, .string Z, .slice Ab nb cb] 56))
 obtain ⟨r2, b2, s2⟩ := new_row hW2
 obtain ⟨W3, hW3⟩ := eX (W2.alloc (.cells #[.slice none 0 0, .slice none 0 0, .slice none 0 0, .slice none 0 0, .int .i64 0, .int .i64 0, .bool false] 53))
 obtain ⟨r3, b3, s3⟩ := new_row hW3
 obtain ⟨g2, hg2⟩ := eX W1.heap.size
 obtain ⟨g3, hg3⟩ := eX W2.heap.size
 have hl1 : g < g2 := by omega
 have hl2 : g2 < g3 := by omega
 replace r1 := (b3.block _ (by omega)).trans ((b2.block _ (by omega)).trans r1)
 replace r2 := (b3.block _ (by omega)).trans r2
 rw [hg] at r1
 rw [hg2] at r2
 rw [hg3] at r3
 have R3g := h_ r1
 have R3o := h_ r2
 have R3z := h_ r3
 have B3 : Hid (Below w.heap.size w W3) := h_ (b1.trans ((b2.mono b1.size).trans (b3.mono (Nat.le_trans b1.size b2.size))))
 have HWR : Hid (Calls Tryz.prog 42 #[R.val m, .agg #[.int .i64 6, .string S, .string Z, .slice Ab nb cb]] W3 fun e w' => e = .returned (.int .i64 0) ∧ Below W3.heap.size W3 w') := h_ (rwrong_any R m S Z Ab nb cb W3 (h.below B3.out) hf (by omega) (by omega) hnb' 6 ⟨by omega, by omega⟩ 0 he)
 rw [HVAL.out] at HWR
 clear h hf hF hbs hnb he hn hnf hna hfa hfc hnc hsa hsc hta htc hns hnt hmo hfu hdn b1 s1 b2 s2 b3 s3 hflk hnwk hstk hfuk
 go_enter Tryz.func18, Tryz.ntmps18
 go_wp2_with (first
  | (refine wpList_load_row rfl _ _ rfl _ rfl _ _ _ _ r1 Tryz.underlying53 rfl info_dk7 ?_)
  | (refine wpList_load_row rfl _ _ rfl _ rfl _ _ _ _ r2 Tryz.underlying56 rfl info_op4 ?_))
 try rw [hg, hg2, hg3]
 clear hg hg2 hg3 hW1 hW2 hW3 r1 r2 r3
 refine HWR.out.mono ?_
 rintro e w4 ⟨rfl, hb4⟩
 have R4g := bl_ hb4 R3g
 have R4o := bl_ hb4 R3o
 have R4z := bl_ hb4 R3z
 have B4 := bt_ B3 hb4
 obtain ⟨c4g0, c4g1, -, c4g3, -, c4g5, -⟩ := rw7 R4g
 obtain ⟨c4o0, c4o1, c4o2, c4o3⟩ := rw4 R4o
 have HFND := h_ (rfind_any na m.now n nc HN.out (by omega) S w4 (by have := (H.out.below B4.out).rn.1; rw [HEQ.out.2.2.1] at this; exact this))
 obtain ⟨q, hq⟩ := eX (findI m.now S.data.toList)
 rw [hq] at HFND
 clear hq
 go_wp2_with fail
 refine HFND.out.mono ?_
 rintro e w9 ⟨rfl, rfl⟩
 have R9g := R4g
 have R9o := R4o
 have R9z := R4z
 have B9 := B4
 obtain ⟨gt, hq10⟩ := eX w9.heap.size
 obtain ⟨W10, hW10⟩ := eX (w9.alloc (.cells #[.string ⟨#[]⟩, .string ⟨#[]⟩, .int .i64 0] 103))
 obtain ⟨r10, b10, s10⟩ := new_row hW10
 have R10g := bl_ b10 R9g
 have R10o := bl_ b10 R9o
 have R10z := bl_ b10 R9z
 have B10 := bt_ B9 b10
 rw [hq10] at r10
 have R10t := h_ r10
 have HQ10 := h_ hq10
 clear b10 s10
 have hl3 : g3 < gt := by have := (b_ R9z); have := HQ10.out; omega
 obtain ⟨gf, hgf⟩ : ∃ x, x = gt := ⟨_, rfl⟩
 obtain ⟨W11, hW11, T11, R11t, G11⟩ := put_row (new := [.string ⟨#[]⟩, .string ⟨#[]⟩, .int .i64 0]) R10t.out rfl
 have HW11 := h_ hW11
 clear hW11
 have R11g := ro_ R10g G11 (by omega)
 have R11o := ro_ R10o G11 (by omega)
 have R11z := ro_ R10z G11 (by omega)
 have B11 := bg_ B10 G11 (by have := HGW.out; omega)
 obtain ⟨c11o0, c11o1, c11o2, c11o3⟩ := rw4 R11o
 obtain ⟨c11g0, c11g1, -, c11g3, -⟩ := rw7 R11g
 obtain ⟨-, c11g1, c11g2, -⟩ := rw7 R11g
 have f11g2 : W11.frozen? ⟨g, 2, none⟩ = false := row_free R11g.out 2
 obtain ⟨W12, hW12⟩ := eX (W11.setCell ⟨g, 2, none⟩ (.slice na n nc))
 have G12 : Hid (W11.grownBy W12 (some g)) := h_ (by rw [← hW12]; exact grown_set g 2 _)
 have R12g : Hid (W12.heap[g]? = some (.cells #[.slice fa nf fc, .slice na n nc, .slice na n nc, .slice ta nt tc, .int .i64 (mo : Int), .int .i64 0, .bool false] 53 (0, 0))) := h_ (by have h9 := row_set R11g.out 2 (.slice na n nc); rw [hW12] at h9; simpa using h9)
 have R12o := ro_ R11o G12 (by omega)
 have R12z := ro_ R11z G12 (by omega)
 have R12t := ro_ R11t G12 (by omega)
 have B12 := bg_ B11 G12 (by have := HGW.out; omega)
 obtain ⟨x13, hx13⟩ := eX W12.heap.size
 obtain ⟨W13, hW13⟩ := eX (W12.alloc (.cells #[] 103))
 obtain ⟨r13, b13, s13⟩ := new_row hW13
 have R13g := bl_ b13 R12g
 have R13o := bl_ b13 R12o
 have R13z := bl_ b13 R12z
 have R13t := bl_ b13 R12t
 have B13 := bt_ B12 b13
 have c13g3 := (rw7 R13g).2.2.2.1
 have f13g3 : W13.frozen? ⟨g, 3, none⟩ = false := row_free R13g.out 3
 obtain ⟨W14, hW14⟩ := eX (W13.setCell ⟨g, 3, none⟩ (.slice (some ⟨x13, 0, none⟩) 0 0))
 have G14 : Hid (W13.grownBy W14 (some g)) := h_ (by rw [← hW14]; exact grown_set g 3 _)
 have R14g : Hid (W14.heap[g]? = some (.cells #[.slice fa nf fc, .slice na n nc, .slice na n nc, .slice (some ⟨x13, 0, none⟩) 0 0, .int .i64 (mo : Int), .int .i64 0, .bool false] 53 (0, 0))) := h_ (by have h9 := row_set R13g.out 3 (.slice (some ⟨x13, 0, none⟩) 0 0); rw [hW14] at h9; simpa using h9)
 have R14o := ro_ R13o G14 (by omega)
 have R14z := ro_ R13z G14 (by omega)
 have R14t := ro_ R13t G14 (by omega)
 have B14 := bg_ B13 G14 (by have := HGW.out; omega)
 obtain ⟨W15, hW15, T15, R15z, G15⟩ := put_row (new := [.slice fa nf fc, .slice na n nc, .slice na n nc, .slice (some ⟨x13, 0, none⟩) 0 0, .int .i64 (mo : Int), .int .i64 0, .bool false]) R14z.out rfl
 have HW15 := h_ hW15
 clear hW15
 have R15g := ro_ R14g G15 (by omega)
 have R15o := ro_ R14o G15 (by omega)
 have R15t := ro_ R14t G15 (by omega)
 have B15 := bg_ B14 G15 (by have := HGW.out; omega)
 obtain ⟨R9, hR9⟩ : ∃ x : RA, x = { R with sa := R.na, sc := R.nc, ta := some ⟨x13, 0, none⟩, tc := 0 } := ⟨_, rfl⟩
 have HRI : Hid (RIn F W15 R9 mm) := h_ (by
  rw [hR9, ← HMM.out]
  exact (((H.out.below B15.out).flushed).same rfl rfl rfl rfl))
 have HV : Hid (R9.val mm = .agg #[.slice fa nf fc, .slice na n nc, .slice na n nc, .slice (some ⟨x13, 0, none⟩) 0 0, .int .i64 (mo : Int), .int .i64 0, .bool false]) := h_ (by
  obtain ⟨e1, e2, e3, e4, e5, e6, e7, e8, e9, e10, e11, e12, e13⟩ := HEQ.out
  rw [hR9, ← HMM.out]
  simp only [RA.val, RA.row, setF, List.length_set, List.length_append, List.length_cons, List.length_nil, e1, e2, e3, e4, e5, e6, e7, e8, e9, e10, e11, e12, e13, HDN.out]
  try rfl)
 go_wp2_with (first
  | ((with_reducible (refine wpList_store_mid rfl _ _ _ rfl ?_ ?_ ?_ ?_ ?_ ?_ ?_ ?_ ?_)); exact gt; exact 0; (exact ([.string ⟨#[]⟩, .string ⟨#[]⟩, .int .i64 0]).toArray); exact rfl; exact rfl; exact T11.out; exact info_tn3a; exact cells3; rw [HW11.out])
  | (refine wpList_load_row rfl _ _ rfl _ rfl _ _ _ _ R14g.out Tryz.underlying53 rfl info_dk7 ?_)
  | ((with_reducible (refine wpList_store_mid rfl _ _ _ rfl ?_ ?_ ?_ ?_ ?_ ?_ ?_ ?_ ?_)); exact g3; exact 0; (exact ([.slice fa nf fc, .slice na n nc, .slice na n nc, .slice (some ⟨x13, 0, none⟩) 0 0, .int .i64 (mo : Int), .int .i64 0, .bool false]).toArray); exact rfl; exact rfl; exact T15.out; exact info_dk7; exact cells7; rw [HW15.out]))
 refine bodyPost_ret (results_row_tmp rfl _ _ _ _ _ _ _ rfl R15z.out Tryz.underlying53 rfl info_dk7) rfl ⟨R9, by rw [HV.out]; rfl, HRI.out, B15.out⟩
set_option maxRecDepth 100000 in
set_option maxHeartbeats 16000000 in
theorem rdo6f (he : wrongM m 6 S.data.toList Z.data.toList nb = 0) (hdn : m.down = false) (x : Nat) (hfu : m.fuse = x + 2) :
  Calls Tryz.prog 18 #[R.val m, .agg #[.int .i64 6, .string S, .string Z, .slice Ab nb cb]] w fun e w' => ∃ R' : RA, e = .returned (.tuple #[R'.val ({ m with fuse := (x + 1), sure := m.now, turns := [] }), .int .i64 0]) ∧ RIn F w' R' ({ m with fuse := (x + 1), sure := m.now, turns := [] }) ∧ Below w.heap.size w w' := by
 obtain ⟨mm, hmm⟩ : ∃ y, { m with fuse := (x + 1), sure := m.now, turns := [] } = y := ⟨_, rfl⟩
 rw [hmm]
 have HMM := h_ hmm
 clear hmm
 have hxb : x ≤ 9223372036854775805 := by have := hf.fuse; omega
 have H := h_ h
 have HF := h_ hf
 have HFW := h_ hF
 have HBS := h_ hbs
 have HNB := h_ hnb
 have hnb' := hnb.2
 have hflk := hf.files
 have hnwk := hf.now
 have hstk := hf.st
 have hfuk := hf.fuse
 have hlk : ∀ i, (fileM m i).b.length ≤ L ∧ (fileM m i).safe ≤ (fileM m i).b.length := fun i => hf.fileM i
 have HLK := h_ hlk
 clear hlk
 obtain ⟨nf, hnf⟩ := eX m.files.length
 obtain ⟨n, hn⟩ := eX m.now.length
 have hnk : n ≤ 998 := by omega
 have hnfk : nf ≤ 998 := by omega
 obtain ⟨na, hna⟩ := eX R.na
 obtain ⟨fa, hfa⟩ := eX R.fa
 obtain ⟨fc, hfc⟩ := eX R.fc
 obtain ⟨nc, hnc⟩ := eX R.nc
 obtain ⟨sa, hsa⟩ := eX R.sa
 obtain ⟨sc, hsc⟩ := eX R.sc
 obtain ⟨ta, hta⟩ := eX R.ta
 obtain ⟨tc, htc⟩ := eX R.tc
 obtain ⟨ns, hns⟩ := eX m.sure.length
 obtain ⟨nt, hnt⟩ := eX m.turns.length
 have hntk : nt ≤ 998 := by omega
 obtain ⟨mo, hmo⟩ := eX m.most
 have HEQ : Hid (m.files.length = nf ∧ m.now.length = n ∧ R.na = na ∧ R.fa = fa ∧ R.fc = fc ∧ R.nc = nc ∧ R.sa = sa ∧ R.sc = sc ∧ R.ta = ta ∧ R.tc = tc ∧ m.sure.length = ns ∧ m.turns.length = nt ∧ m.most = mo) := h_ ⟨hnf, hn, hna, hfa, hfc, hnc, hsa, hsc, hta, htc, hns, hnt, hmo⟩
 have HVAL : Hid (R.val m = .agg #[.slice fa nf fc, .slice na n nc, .slice sa ns sc, .slice ta nt tc, .int .i64 (mo : Int), .int .i64 ((x : Int) + 2), .bool false]) := h_ (by
  unfold RA.val RA.row
  rw [hn, hnf, hfa, hna, hsa, hta, hfc, hnc, hsc, htc, hns, hnt, hmo, hfu, hdn]
  try first | rfl | simp)
 have HN := h_ hn
 have HNF := h_ hnf
 have HFU := h_ hfu
 have HDN := h_ hdn
 rw [HVAL.out]
 obtain ⟨g, hg⟩ := eX w.heap.size
 have HGW := h_ hg
 obtain ⟨W1, hW1⟩ := eX (w.alloc (.cells #[.slice fa nf fc, .slice na n nc, .slice sa ns sc, .slice ta nt tc, .int .i64 (mo : Int), .int .i64 ((x : Int) + 2), .bool false] 53))
 obtain ⟨r1, b1, s1⟩ := new_row hW1
 obtain ⟨W2, hW2⟩ := eX (W1.alloc (.cells #[.int .i64 6, .string S, .string Z, .slice Ab nb cb] 56))
 obtain ⟨r2, b2, s2⟩ := new_row hW2
 obtain ⟨W3, hW3⟩ := eX (W2.alloc (.cells #[.slice none 0 0, .slice none 0 0, .slice none 0 0, .slice none 0 0, .int .i64 0, .int .i64 0, .bool false] 53))
 obtain ⟨r3, b3, s3⟩ := new_row hW3
 obtain ⟨g2, hg2⟩ := eX W1.heap.size
 obtain ⟨g3, hg3⟩ := eX W2.heap.size
 have hl1 : g < g2 := by omega
 have hl2 : g2 < g3 := by omega
 replace r1 := (b3.block _ (by omega)).trans ((b2.block _ (by omega)).trans r1)
 replace r2 := (b3.block _ (by omega)).trans r2
 rw [hg] at r1
 rw [hg2] at r2
 rw [hg3] at r3
 have R3g := h_ r1
 have R3o := h_ r2
 have R3z := h_ r3
 have B3 : Hid (Below w.heap.size w W3) := h_ (b1.trans ((b2.mono b1.size).trans (b3.mono (Nat.le_trans b1.size b2.size))))
 have HWR : Hid (Calls Tryz.prog 42 #[R.val m, .agg #[.int .i64 6, .string S, .string Z, .slice Ab nb cb]] W3 fun e w' => e = .returned (.int .i64 0) ∧ Below W3.heap.size W3 w') := h_ (rwrong_any R m S Z Ab nb cb W3 (h.below B3.out) hf (by omega) (by omega) hnb' 6 ⟨by omega, by omega⟩ 0 he)
 rw [HVAL.out] at HWR
 clear h hf hF hbs hnb he hn hnf hna hfa hfc hnc hsa hsc hta htc hns hnt hmo hfu hdn b1 s1 b2 s2 b3 s3 hflk hnwk hstk hfuk
 go_enter Tryz.func18, Tryz.ntmps18
 go_wp2_with (first
  | (refine wpList_load_row rfl _ _ rfl _ rfl _ _ _ _ r1 Tryz.underlying53 rfl info_dk7 ?_)
  | (refine wpList_load_row rfl _ _ rfl _ rfl _ _ _ _ r2 Tryz.underlying56 rfl info_op4 ?_))
 try rw [hg, hg2, hg3]
 clear hg hg2 hg3 hW1 hW2 hW3 r1 r2 r3
 refine HWR.out.mono ?_
 rintro e w4 ⟨rfl, hb4⟩
 have R4g := bl_ hb4 R3g
 have R4o := bl_ hb4 R3o
 have R4z := bl_ hb4 R3z
 have B4 := bt_ B3 hb4
 have c4g5 := (rw7 R4g).2.2.2.2.2.1
 have f4g5 : w4.frozen? ⟨g, 5, none⟩ = false := row_free R4g.out 5
 obtain ⟨W5, hW5⟩ := eX (w4.setCell ⟨g, 5, none⟩ (.int .i64 ((x : Int) + 1)))
 have G5 : Hid (w4.grownBy W5 (some g)) := h_ (by rw [← hW5]; exact grown_set g 5 _)
 have R5g : Hid (W5.heap[g]? = some (.cells #[.slice fa nf fc, .slice na n nc, .slice sa ns sc, .slice ta nt tc, .int .i64 (mo : Int), .int .i64 ((x : Int) + 1), .bool false] 53 (0, 0))) := h_ (by have h9 := row_set R4g.out 5 (.int .i64 ((x : Int) + 1)); rw [hW5] at h9; simpa using h9)
 have R5o := ro_ R4o G5 (by omega)
 have R5z := ro_ R4z G5 (by omega)
 have B5 := bg_ B4 G5 (by have := HGW.out; omega)
 obtain ⟨c5g0, c5g1, -, c5g3, -, c5g5, -⟩ := rw7 R5g
 obtain ⟨c5o0, c5o1, c5o2, c5o3⟩ := rw4 R5o
 have j9 : (0 : Int) < (x : Int) + 2 := by omega
 have j8 : (x : Int) + 2 - 1 = (x : Int) + 1 := by omega
 have j7 : ((x : Int) + 1 == 0) = false := by rw [beq_eq_false_iff_ne]; omega
 have j6 : IntKind.i64.wrap ((x : Int) + 1) = (x : Int) + 1 := by rw [IntKind.wrap_i64]; omega
 have HFND := h_ (rfind_any na m.now n nc HN.out (by omega) S W5 (by have := (H.out.below B5.out).rn.1; rw [HEQ.out.2.2.1] at this; exact this))
 obtain ⟨q, hq⟩ := eX (findI m.now S.data.toList)
 rw [hq] at HFND
 clear hq
 go_wp2_with fail
 refine HFND.out.mono ?_
 rintro e w9 ⟨rfl, rfl⟩
 have R9g := R5g
 have R9o := R5o
 have R9z := R5z
 have B9 := B5
 obtain ⟨gt, hq10⟩ := eX w9.heap.size
 obtain ⟨W10, hW10⟩ := eX (w9.alloc (.cells #[.string ⟨#[]⟩, .string ⟨#[]⟩, .int .i64 0] 103))
 obtain ⟨r10, b10, s10⟩ := new_row hW10
 have R10g := bl_ b10 R9g
 have R10o := bl_ b10 R9o
 have R10z := bl_ b10 R9z
 have B10 := bt_ B9 b10
 rw [hq10] at r10
 have R10t := h_ r10
 have HQ10 := h_ hq10
 clear b10 s10
 have hl3 : g3 < gt := by have := (b_ R9z); have := HQ10.out; omega
 obtain ⟨gf, hgf⟩ : ∃ x, x = gt := ⟨_, rfl⟩
 obtain ⟨W11, hW11, T11, R11t, G11⟩ := put_row (new := [.string ⟨#[]⟩, .string ⟨#[]⟩, .int .i64 0]) R10t.out rfl
 have HW11 := h_ hW11
 clear hW11
 have R11g := ro_ R10g G11 (by omega)
 have R11o := ro_ R10o G11 (by omega)
 have R11z := ro_ R10z G11 (by omega)
 have B11 := bg_ B10 G11 (by have := HGW.out; omega)
 obtain ⟨c11o0, c11o1, c11o2, c11o3⟩ := rw4 R11o
 obtain ⟨c11g0, c11g1, -, c11g3, -⟩ := rw7 R11g
 obtain ⟨-, c11g1, c11g2, -⟩ := rw7 R11g
 have f11g2 : W11.frozen? ⟨g, 2, none⟩ = false := row_free R11g.out 2
 obtain ⟨W12, hW12⟩ := eX (W11.setCell ⟨g, 2, none⟩ (.slice na n nc))
 have G12 : Hid (W11.grownBy W12 (some g)) := h_ (by rw [← hW12]; exact grown_set g 2 _)
 have R12g : Hid (W12.heap[g]? = some (.cells #[.slice fa nf fc, .slice na n nc, .slice na n nc, .slice ta nt tc, .int .i64 (mo : Int), .int .i64 ((x : Int) + 1), .bool false] 53 (0, 0))) := h_ (by have h9 := row_set R11g.out 2 (.slice na n nc); rw [hW12] at h9; simpa using h9)
 have R12o := ro_ R11o G12 (by omega)
 have R12z := ro_ R11z G12 (by omega)
 have R12t := ro_ R11t G12 (by omega)
 have B12 := bg_ B11 G12 (by have := HGW.out; omega)
 obtain ⟨x13, hx13⟩ := eX W12.heap.size
 obtain ⟨W13, hW13⟩ := eX (W12.alloc (.cells #[] 103))
 obtain ⟨r13, b13, s13⟩ := new_row hW13
 have R13g := bl_ b13 R12g
 have R13o := bl_ b13 R12o
 have R13z := bl_ b13 R12z
 have R13t := bl_ b13 R12t
 have B13 := bt_ B12 b13
 have c13g3 := (rw7 R13g).2.2.2.1
 have f13g3 : W13.frozen? ⟨g, 3, none⟩ = false := row_free R13g.out 3
 obtain ⟨W14, hW14⟩ := eX (W13.setCell ⟨g, 3, none⟩ (.slice (some ⟨x13, 0, none⟩) 0 0))
 have G14 : Hid (W13.grownBy W14 (some g)) := h_ (by rw [← hW14]; exact grown_set g 3 _)
 have R14g : Hid (W14.heap[g]? = some (.cells #[.slice fa nf fc, .slice na n nc, .slice na n nc, .slice (some ⟨x13, 0, none⟩) 0 0, .int .i64 (mo : Int), .int .i64 ((x : Int) + 1), .bool false] 53 (0, 0))) := h_ (by have h9 := row_set R13g.out 3 (.slice (some ⟨x13, 0, none⟩) 0 0); rw [hW14] at h9; simpa using h9)
 have R14o := ro_ R13o G14 (by omega)
 have R14z := ro_ R13z G14 (by omega)
 have R14t := ro_ R13t G14 (by omega)
 have B14 := bg_ B13 G14 (by have := HGW.out; omega)
 obtain ⟨W15, hW15, T15, R15z, G15⟩ := put_row (new := [.slice fa nf fc, .slice na n nc, .slice na n nc, .slice (some ⟨x13, 0, none⟩) 0 0, .int .i64 (mo : Int), .int .i64 ((x : Int) + 1), .bool false]) R14z.out rfl
 have HW15 := h_ hW15
 clear hW15
 have R15g := ro_ R14g G15 (by omega)
 have R15o := ro_ R14o G15 (by omega)
 have R15t := ro_ R14t G15 (by omega)
 have B15 := bg_ B14 G15 (by have := HGW.out; omega)
 obtain ⟨R9, hR9⟩ : ∃ x : RA, x = { R with sa := R.na, sc := R.nc, ta := some ⟨x13, 0, none⟩, tc := 0 } := ⟨_, rfl⟩
 have HRI : Hid (RIn F W15 R9 mm) := h_ (by
  rw [hR9, ← HMM.out]
  exact (((H.out.below B15.out).flushed).same rfl rfl rfl rfl))
 have HV : Hid (R9.val mm = .agg #[.slice fa nf fc, .slice na n nc, .slice na n nc, .slice (some ⟨x13, 0, none⟩) 0 0, .int .i64 (mo : Int), .int .i64 ((x : Int) + 1), .bool false]) := h_ (by
  obtain ⟨e1, e2, e3, e4, e5, e6, e7, e8, e9, e10, e11, e12, e13⟩ := HEQ.out
  rw [hR9, ← HMM.out]
  simp only [RA.val, RA.row, setF, List.length_set, List.length_append, List.length_cons, List.length_nil, e1, e2, e3, e4, e5, e6, e7, e8, e9, e10, e11, e12, e13, HDN.out]
  try rfl)
 go_wp2_with (first
  | ((with_reducible (refine wpList_store_mid rfl _ _ _ rfl ?_ ?_ ?_ ?_ ?_ ?_ ?_ ?_ ?_)); exact gt; exact 0; (exact ([.string ⟨#[]⟩, .string ⟨#[]⟩, .int .i64 0]).toArray); exact rfl; exact rfl; exact T11.out; exact info_tn3a; exact cells3; rw [HW11.out])
  | (refine wpList_load_row rfl _ _ rfl _ rfl _ _ _ _ R14g.out Tryz.underlying53 rfl info_dk7 ?_)
  | ((with_reducible (refine wpList_store_mid rfl _ _ _ rfl ?_ ?_ ?_ ?_ ?_ ?_ ?_ ?_ ?_)); exact g3; exact 0; (exact ([.slice fa nf fc, .slice na n nc, .slice na n nc, .slice (some ⟨x13, 0, none⟩) 0 0, .int .i64 (mo : Int), .int .i64 ((x : Int) + 1), .bool false]).toArray); exact rfl; exact rfl; exact T15.out; exact info_dk7; exact cells7; rw [HW15.out]))
 refine bodyPost_ret (results_row_tmp rfl _ _ _ _ _ _ _ rfl R15z.out Tryz.underlying53 rfl info_dk7) rfl ⟨R9, by rw [HV.out]; rfl, HRI.out, B15.out⟩
end
end Go.Proofs.YtelbofikcpchiaaGreat
