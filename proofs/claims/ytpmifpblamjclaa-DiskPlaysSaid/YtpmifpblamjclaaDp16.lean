
/- The document's disk: Crash: what stays of the files. (Printed by wip/genDp15.py.) -/

import Derived.Test.YtpmifpblamjclaaDp15

namespace Go.Proofs.Ytpmifpblamjclaa

set_option linter.unusedVariables false

set_option linter.unusedSimpArgs false

set_option linter.unusedSectionVars false

open Go.RowKit

theorem info_fl2b {a b : Value} : (Try.prog.info? 92).map (·.size) = some (#[a, b] : Array Value).size := by kernel_rfl
theorem cells2b {A : Option Addr} {a b : Nat} {c : Int} : (#[.slice A a b, .int .i64 c] : Array Value).all (·.oneCell') = true := by simp [Value.oneCell']
/-- where the walk over the names stands -/
structure CutSt (FP : Nat → Prop) (K L g : Nat) (R : RA) (m : DM) (keep : List Int) (v2 v3 v4 v5 v6 : Value) (nf n nc : Nat) (na : Option Addr) (w w0 wr : World) (i a : Nat) (fs : List (PV × Nat)) (fa : Option Addr) (fc : Nat) (fl : List FM) : Prop where
  row : wr.heap[g]? = some (.cells #[.slice fa nf fc, .slice na n nc, v2, v3, v4, v5, v6] 50 (0, 0))
  bel : Below w.heap.size w wr
  frm : Frm (fun b => b = g) w0 wr
  rin : RIn FP wr { R with fs := fs, fa := fa, fc := fc } { m with files := fl }
  fit : Fit K L { m with files := fl }
  cut : CutAt m { m with files := fl } keep (keep.drop a) i

set_option maxRecDepth 1000000 in
set_option maxHeartbeats 16000000 in
theorem rc_cut {u0 u1 u4 u5 u6 u7 u8 u11 u12 u13 u14 u15 u16 u17 u18 u19 u20 u21 u22 u23 u24 u25 u26 u27 u28 u29 u30 u31 u32 u33 u34 u35 u36 u37 u38 u39 u40 u41 u42 u43 u44 u45 u46 u47 u48 u49 u50 u51 u52 u53 u54 u55 u56 u57 u58 u59 u60 u61 u62 u63 u64 u65 u66 u67 u68 u69 u70 u71 u72 u73 u74 u75 u76 u77 u78 u79 u80 u81 u82 u83 u84 u85 u86 u87 u88 u89 u90 u91 u92 u93 u94 u95 u96 u97 u98 u99 u100 : Value} (K L g nf n nc kl kc : Nat) (na Ak : Option Addr) (v2 v3 v4 v5 v6 : Value) (R : RA) (m : DM) (keep : List Int) (w wr : World) (FP : Nat → Prop)
    (hs : CutSt FP K L g R m keep v2 v3 v4 v5 v6 nf n nc na w wr wr 0 0 R.fs R.fa R.fc m.files) (hgw : w.heap.size ≤ g) (hFP : FP g ∧ ∀ b, FP b → b < wr.heap.size) (hna : R.na = na) (hn : m.now.length = n ∧ n ≤ 998) (hnf : m.files.length = nf ∧ nf ≤ 998) (hL : L ≤ 999999)
    (hkl : keep.length = kl) (hklm : kl ≤ 9223372036854775807) (hk : ∀ W, Below w.heap.size w W → Rd W Ak (keep.map (Value.int .i64))) (Q : Exit → Act → World → Prop)
    (hexit : ∀ (x9 x10 x11 x12 x13 x40 x41 x42 x43 x44 x45 x46 x47 x48 x49 x50 x51 x52 x53 x54 x55 x56 x57 x58 x59 x60 x61 x62 x63 x64 x65 x66 x67 x68 x69 x70 x71 x72 x73 x74 x75 x76 x77 x78 x79 x80 x81 x82 x83 x84 x85 x86 x87 x88 x89 x90 x91 x92 x93 x94 x95 x96 x97 x98 x99 : Value) (fs : List (PV × Nat)) (fa : Option Addr) (fc a : Nat) (fl : List FM) (wx : World), CutSt FP K L g R m keep v2 v3 v4 v5 v6 nf n nc na w wr wx n a fs fa fc fl → Q .normal ⟨#[u0, u1, .slice Ak kl kc, .pointer (some ⟨g, 0, none⟩), u4, u5, u6, u7, u8, x9, x10, x11, x12, x13, u14, u15, u16, u17, u18, u19, u20, u21, u22, u23, u24, u25, u26, u27, u28, u29, u30, u31, u32, u33, u34, u35, u36, u37, u38, u39, x40, x41, x42, x43, x44, x45, x46, x47, x48, x49, x50, x51, x52, x53, x54, x55, x56, x57, x58, x59, x60, x61, x62, x63, x64, x65, x66, x67, x68, x69, x70, x71, x72, x73, x74, x75, x76, x77, x78, x79, x80, x81, x82, x83, x84, x85, x86, x87, x88, x89, x90, x91, x92, x93, x94, x95, x96, x97, x98, x99, u100], []⟩ wx) :
    Code.wp Try.prog (rcBlk 2) Q ⟨#[u0, u1, .slice Ak kl kc, .pointer (some ⟨g, 0, none⟩), u4, u5, u6, u7, u8, .int .i64 0, .int .i64 0, u11, u12, u13, u14, u15, u16, u17, u18, u19, u20, u21, u22, u23, u24, u25, u26, u27, u28, u29, u30, u31, u32, u33, u34, u35, u36, u37, u38, u39, u40, u41, u42, u43, u44, u45, u46, u47, u48, u49, u50, u51, u52, u53, u54, u55, u56, u57, u58, u59, u60, u61, u62, u63, u64, u65, u66, u67, u68, u69, u70, u71, u72, u73, u74, u75, u76, u77, u78, u79, u80, u81, u82, u83, u84, u85, u86, u87, u88, u89, u90, u91, u92, u93, u94, u95, u96, u97, u98, u99, u100], []⟩ wr := by
  have HEX := Lib.hid hexit
  clear hexit
  conv => arg 2; whnf
  have HK := Lib.hid hk
  have HKL := Lib.hid hkl
  have HFP := Lib.hid hFP
  have HNL := Lib.hid hn.1
  have HNFL := Lib.hid hnf.1
  have HNAR := Lib.hid hna
  have hn98 := hn.2
  have hnf98 := hnf.2
  obtain ⟨w0, hw0⟩ : ∃ x, x = wr := ⟨_, rfl⟩
  subst hw0
  have H0 := Lib.hid hs
  clear hs hFP hna hn hnf hkl hk
  go_wp2_with fail
  go_loopg [9, 10] (n * 1) (fun gk_ av iv wr => ∃ (i a : Nat) (fs : List (PV × Nat)) (fa : Option Addr) (fc : Nat) (fl : List FM), i ≤ n ∧ a ≤ i ∧ gk_ = n - i ∧ av = .int .i64 (a : Int) ∧ iv = .int .i64 (i : Int) ∧ Hid (CutSt FP K L g R m keep v2 v3 v4 v5 v6 nf n nc na w w0 wr i a fs fa fc fl))
  case atStart => exact ⟨0, 0, _, _, _, _, by omega, by omega, by omega, rfl, rfl, H0⟩
  case round =>
  clear H0
  obtain ⟨i, a, fs, fa, fc, fl, hi, hai, rfl, rfl, rfl, HI⟩ := hrel
  by_cases hlt : i < n
  · have i1 : (i : Int) < (n : Int) := by omega
    have hil : i < m.now.length := by rw [HNL.out]; exact hlt
    have HIL := Lib.hid hil
    obtain ⟨⟨s, f⟩, hpe⟩ : ∃ p, m.now[i] = p := ⟨_, rfl⟩
    have HPE := Lib.hid hpe
    have hfl : f < fl.length := HI.out.fit.ids.now (s, f) (by rw [← hpe]; exact List.getElem_mem hil)
    obtain ⟨⟨⟨pA, pc, pbs⟩, sf⟩, hfp, hmem, hfm, hxf⟩ := HI.out.rin.file hfl
    have HMEM := Lib.hid hmem
    have HXF : Hid (fl[f]? = some ⟨pbs, sf⟩) := Lib.hid hxf
    obtain ⟨bf, of_, hAf, hrowf⟩ := HI.out.rin.fcell hfp
    obtain ⟨bn, on_, hAn, hrown⟩ := nm_cell (ns := m.now) HI.out.rin.rn.1 (i := i) (p := (s, f)) ((List.getElem?_eq_getElem hil).trans (congrArg some hpe))
    replace hAn : R.na = some ⟨bn, on_, none⟩ := hAn
    obtain ⟨pn, hpn⟩ : ∃ x, pbs.length = x := ⟨_, rfl⟩
    have HPN := Lib.hid hpn
    have HFA : Hid (fa = some ⟨bf, of_, none⟩) := Lib.hid hAf
    have HNA : Hid (na = some ⟨bn, on_, none⟩) := Lib.hid (by rw [← HNAR.out]; exact hAn)
    have HFLN : Hid (fl.length = nf) := Lib.hid (by have := HI.out.cut.fl; exact this.trans HNFL.out)
    have hfit := HI.out.fit.len _ (List.mem_of_getElem? hxf)
    have hle : pn ≤ L ∧ sf ≤ pn := by have h1 := hfit.1; have h2 := hfit.2; dsimp only [filM] at h1 h2; omega
    have hpc := (HI.out.rin.rb _ hmem).2.1
    dsimp only at hpc
    rw [hpn] at hpc
    have hpcm := (HI.out.rin.rb _ hmem).2.2
    dsimp only at hpcm
    have HPL : Hid (pn ≤ L) := Lib.hid hle.1
    have hfi : (f : Int) < (nf : Int) := by have := HFLN.out; omega
    have HGL := Lib.hid (Array.getElem?_eq_some_iff.1 HI.out.row).1
    have HBNG : Hid (bn ≠ g) := Lib.hid (by
      intro e
      have h1 := HI.out.rin.rn.2 (by intro e0; have := namesR_len m.now; rw [e0] at this; simp at this; omega) _ hAn
      dsimp only at h1
      rw [e] at h1
      exact h1 HFP.out.1)
    have HSX : Hid (∀ W, Below wr.heap.size wr W → W.cell? ⟨g, 0, none⟩ = some (.slice (some ⟨bf, of_, none⟩) nf fc) ∧ W.cell? ⟨g, 1, none⟩ = some (.slice (some ⟨bn, on_, none⟩) n nc) ∧ W.cell? ⟨bn, on_ + i * 2 + 1, none⟩ = some (.int .i64 (f : Int)) ∧ W.rangeAt bf (of_ + f * 2) [.slice pA pn pc, .int .i64 (sf : Int)]) := Lib.hid (fun W hb => by
      have hr := (hb.block _ HGL.out).trans HI.out.row
      rw [HFA.out, HNA.out] at hr
      exact ⟨row_cell hr 0, row_cell hr 1, cell_below (hrown 1 _ rfl) (World.block_lt_of_cell? wr _ (hrown 1 _ rfl)) hb, range_below (by rw [← hpn]; exact hrowf) (World.block_lt_of_cell? wr _ (hrowf 0 _ rfl)) hb⟩)
    have c1 : wr.cell? ⟨g, 1, none⟩ = some (.slice (some ⟨bn, on_, none⟩) n nc) := (HSX.out _ (Below.refl _ _)).2.1
    obtain ⟨lo, hlo⟩ : ∃ lo, pn = sf + lo := ⟨pn - sf, by omega⟩
    clear hpe hfl hfp hmem hfm hxf hAf hrowf hAn hrown hpn hfit
    by_cases hl0 : lo = 0
    · subst hl0
      have hz : IntKind.i64.wrap ((pn : Int) - (sf : Int)) = 0 := by rw [IntKind.wrap_i64]; omega
      have hz2 : (pn : Int) - (sf : Int) = 0 := by omega
      have HPS : Hid (pn = sf) := Lib.hid (by omega)
      clear hlo
      obtain ⟨gf, hgf⟩ : ∃ x, wr.heap.size = x := ⟨_, rfl⟩
      obtain ⟨WA, hWA⟩ : ∃ W, wr.drew.alloc (.cells #[.slice none 0 0, .int .i64 0] 92) = W := ⟨_, rfl⟩
      obtain ⟨rA, bA, sA⟩ := new_row hWA
      replace rA : WA.heap[gf]? = some (.cells #[.slice none 0 0, .int .i64 0] 92 (0, 0)) := by rw [← hgf]; exact rA
      have HBA : Hid (Below wr.heap.size wr WA) := Lib.hid ⟨bA.os, bA.tape, bA.output, bA.size, bA.block⟩
      obtain ⟨WB, hWB, TB, RB, GB⟩ := put_row (new := [.slice pA pn pc, .int .i64 (sf : Int)]) rA rfl
      have HWB := Lib.hid hWB
      have BB : Hid (Below wr.heap.size wr WB) := Lib.hid (bel_grown HBA.out HBA.out.size GB.out (by omega))
      have cf0 : WB.cell? ⟨gf, 0, none⟩ = some (.slice pA pn pc) := row_cell RB.out 0
      have cf1 : WB.cell? ⟨gf, 1, none⟩ = some (.int .i64 (sf : Int)) := row_cell RB.out 1
      have HGF := Lib.hid hgf
      clear rA bA sA hWB
      try rw [hgf]
      have HN : Hid (CutSt FP K L g R m keep v2 v3 v4 v5 v6 nf n nc na w w0 WB (i + 1) a fs fa fc fl) := Lib.hid (by
        have hi := HI.out
        exact ⟨(BB.out.block _ HGL.out).trans hi.row, hi.bel.trans (BB.out.mono hi.bel.size), hi.frm.trans (Frm.of_below (F := fun b => b = g) BB.out) (fun i hi => .inl hi), hi.rin.below BB.out, hi.fit, hi.cut.zero HIL.out HPE.out HXF.out (by show pbs.length = sf; have := HPN.out; have := HPS.out; omega)⟩)
      go_wp2_with fail
      refine wp_region_sched (fun w' => w'.cell? ⟨g, 0, none⟩ = some (.slice (some ⟨bf, of_, none⟩) nf fc) ∧ w'.cell? ⟨g, 1, none⟩ = some (.slice (some ⟨bn, on_, none⟩) n nc) ∧ w'.cell? ⟨bn, on_ + i * 2 + 1, none⟩ = some (.int .i64 (f : Int)) ∧ w'.rangeAt bf (of_ + f * 2) [.slice pA pn pc, .int .i64 (sf : Int)]) [(true, 0), (true, 1), (true, 2), (true, 3), (true, 4), (true, 5), (true, 6), (true, 7), (true, 8), (true, 9), (false, 10), (false, 11)] (by kernel_rfl) (by kernel_rfl) rfl (by kernel_rfl) (HSX.out _ (Below.refl _ _).drew) ?_
      (first | (refine wpS_pass _ rfl (by rfl) ?_; simp only [Act.put, List.getElem_toArray, List.getElem_cons_zero, List.getElem_cons_succ, List.setIfInBounds_toArray, List.set_cons_zero, List.set_cons_succ]) | (refine wpS_take _ ?_ rfl (by rfl) ?_ ?_; rotate_left; (focus (intro w' hS'; (try dsimp only at hS'); (repeat (have hS1 := hS'.1; replace hS' := hS'.2)); go_simp; (try with_reducible rfl); done)); simp only [Act.put, List.getElem_toArray, List.getElem_cons_zero, List.getElem_cons_succ, List.setIfInBounds_toArray, List.set_cons_zero, List.set_cons_succ]))
      (first | (refine wpS_pass _ rfl (by rfl) ?_; simp only [Act.put, List.getElem_toArray, List.getElem_cons_zero, List.getElem_cons_succ, List.setIfInBounds_toArray, List.set_cons_zero, List.set_cons_succ]) | (refine wpS_take _ ?_ rfl (by rfl) ?_ ?_; rotate_left; (focus (intro w' hS'; (try dsimp only at hS'); (repeat (have hS1 := hS'.1; replace hS' := hS'.2)); go_simp; (try with_reducible rfl); done)); simp only [Act.put, List.getElem_toArray, List.getElem_cons_zero, List.getElem_cons_succ, List.setIfInBounds_toArray, List.set_cons_zero, List.set_cons_succ]))
      (first | (refine wpS_pass _ rfl (by rfl) ?_; simp only [Act.put, List.getElem_toArray, List.getElem_cons_zero, List.getElem_cons_succ, List.setIfInBounds_toArray, List.set_cons_zero, List.set_cons_succ]) | (refine wpS_take _ ?_ rfl (by rfl) ?_ ?_; rotate_left; (focus (intro w' hS'; (try dsimp only at hS'); (repeat (have hS1 := hS'.1; replace hS' := hS'.2)); go_simp; (try with_reducible rfl); done)); simp only [Act.put, List.getElem_toArray, List.getElem_cons_zero, List.getElem_cons_succ, List.setIfInBounds_toArray, List.set_cons_zero, List.set_cons_succ]))
      (first | (refine wpS_pass _ rfl (by rfl) ?_; simp only [Act.put, List.getElem_toArray, List.getElem_cons_zero, List.getElem_cons_succ, List.setIfInBounds_toArray, List.set_cons_zero, List.set_cons_succ]) | (refine wpS_take _ ?_ rfl (by rfl) ?_ ?_; rotate_left; (focus (intro w' hS'; (try dsimp only at hS'); (repeat (have hS1 := hS'.1; replace hS' := hS'.2)); go_simp; (try with_reducible rfl); done)); simp only [Act.put, List.getElem_toArray, List.getElem_cons_zero, List.getElem_cons_succ, List.setIfInBounds_toArray, List.set_cons_zero, List.set_cons_succ]))
      (first | (refine wpS_pass _ rfl (by rfl) ?_; simp only [Act.put, List.getElem_toArray, List.getElem_cons_zero, List.getElem_cons_succ, List.setIfInBounds_toArray, List.set_cons_zero, List.set_cons_succ]) | (refine wpS_take _ ?_ rfl (by rfl) ?_ ?_; rotate_left; (focus (intro w' hS'; (try dsimp only at hS'); (repeat (have hS1 := hS'.1; replace hS' := hS'.2)); go_simp; (try with_reducible rfl); done)); simp only [Act.put, List.getElem_toArray, List.getElem_cons_zero, List.getElem_cons_succ, List.setIfInBounds_toArray, List.set_cons_zero, List.set_cons_succ]))
      (first | (refine wpS_pass _ rfl (by rfl) ?_; simp only [Act.put, List.getElem_toArray, List.getElem_cons_zero, List.getElem_cons_succ, List.setIfInBounds_toArray, List.set_cons_zero, List.set_cons_succ]) | (refine wpS_take _ ?_ rfl (by rfl) ?_ ?_; rotate_left; (focus (intro w' hS'; (try dsimp only at hS'); (repeat (have hS1 := hS'.1; replace hS' := hS'.2)); go_simp; (try with_reducible rfl); done)); simp only [Act.put, List.getElem_toArray, List.getElem_cons_zero, List.getElem_cons_succ, List.setIfInBounds_toArray, List.set_cons_zero, List.set_cons_succ]))
      (first | (refine wpS_pass _ rfl (by rfl) ?_; simp only [Act.put, List.getElem_toArray, List.getElem_cons_zero, List.getElem_cons_succ, List.setIfInBounds_toArray, List.set_cons_zero, List.set_cons_succ]) | (refine wpS_take _ ?_ rfl (by rfl) ?_ ?_; rotate_left; (focus (intro w' hS'; (try dsimp only at hS'); (repeat (have hS1 := hS'.1; replace hS' := hS'.2)); go_simp; (try with_reducible rfl); done)); simp only [Act.put, List.getElem_toArray, List.getElem_cons_zero, List.getElem_cons_succ, List.setIfInBounds_toArray, List.set_cons_zero, List.set_cons_succ]))
      (first | (refine wpS_pass _ rfl (by rfl) ?_; simp only [Act.put, List.getElem_toArray, List.getElem_cons_zero, List.getElem_cons_succ, List.setIfInBounds_toArray, List.set_cons_zero, List.set_cons_succ]) | (refine wpS_take _ ?_ rfl (by rfl) ?_ ?_; rotate_left; (focus (intro w' hS'; (try dsimp only at hS'); (repeat (have hS1 := hS'.1; replace hS' := hS'.2)); go_simp; (try with_reducible rfl); done)); simp only [Act.put, List.getElem_toArray, List.getElem_cons_zero, List.getElem_cons_succ, List.setIfInBounds_toArray, List.set_cons_zero, List.set_cons_succ]))
      (first | (refine wpS_pass _ rfl (by rfl) ?_; simp only [Act.put, List.getElem_toArray, List.getElem_cons_zero, List.getElem_cons_succ, List.setIfInBounds_toArray, List.set_cons_zero, List.set_cons_succ]) | (refine wpS_take _ ?_ rfl (by rfl) ?_ ?_; rotate_left; (focus (intro w' hS'; (try dsimp only at hS'); (repeat (have hS1 := hS'.1; replace hS' := hS'.2)); go_simp; (try with_reducible rfl); done)); simp only [Act.put, List.getElem_toArray, List.getElem_cons_zero, List.getElem_cons_succ, List.setIfInBounds_toArray, List.set_cons_zero, List.set_cons_succ]))
      refine wpS_load _ rfl (by rfl) 92 _ rfl bf (of_ + f * 2) rfl [.slice pA pn pc, .int .i64 (sf : Int)] _ (fun w' hS => hS.2.2.2) Try.underlying92 rfl info_fl2 ?_
      simp only [Act.put, List.getElem_toArray, List.getElem_cons_zero, List.getElem_cons_succ, List.setIfInBounds_toArray, List.set_cons_zero, List.set_cons_succ]
      refine wpS_do _ rfl (by rfl) (fun KK hK => ?_)
      go_simp
      refine hK.out _ _ (HSX.out _ HBA.out) (fun hS' => ?_)
      clear hS' hK
      refine wpS_store_mid _ rfl (by rfl) 92 _ _ rfl gf 0 #[.slice pA pn pc, .int .i64 (sf : Int)] rfl rfl TB.out info_fl2b cells2b ?_ ?_
      · rw [HWB.out]
        exact HSX.out _ BB.out
      rw [HWB.out]
      refine wpS_done ?_
      clear hWA
      try rw [hgf]
      clear hgf
      go_wp2_with fail
      rw [← HNA.out]
      go_roundg (n - (i + 1))
      case measure => omega
      case rel => exact ⟨i + 1, a, fs, fa, fc, fl, by omega, by omega, rfl, rfl, by first | rfl | exact congrArg (Value.int .i64) (by omega) | go_num, HN⟩
    by_cases hak : a < kl
    · have i4 : (a : Int) < (kl : Int) := by omega
      have hakl : a < keep.length := by rw [HKL.out]; exact hak
      obtain ⟨z, hz⟩ : ∃ z, keep[a] = z := ⟨_, rfl⟩
      obtain ⟨bk, ok_, hAk, _⟩ := (HK.out w (Below.refl _ _)).all (by rw [List.length_map]; omega)
      have HAK := Lib.hid hAk
      have HCK : Hid (∀ W, Below w.heap.size w W → W.cell? ⟨bk, ok_ + a, none⟩ = some (.int .i64 z)) := Lib.hid (fun W hb => by
        obtain ⟨b', o', e1, e2⟩ := (HK.out W hb) a (.int .i64 z) (by rw [List.getElem?_map, List.getElem?_eq_getElem hakl, hz]; rfl)
        rw [HAK.out] at e1
        cases e1
        exact e2)
      obtain ⟨k, hk⟩ : ∃ k : Nat, min (max z 0) (lo : Int) = (k : Int) := ⟨(min (max z 0) (lo : Int)).toNat, by omega⟩
      have hklo : k ≤ lo := by omega
      have HKZ := Lib.hid hk
      obtain ⟨q, hq⟩ : ∃ q, sf + k = q := ⟨_, rfl⟩
      have HCN : Hid (CutAt m { m with files := fl.set f ⟨pbs.take q, q⟩ } keep (keep.drop (a + 1)) (i + 1)) := Lib.hid (by
        have h1 := HI.out.cut
        rw [List.drop_eq_getElem_cons hakl, hz] at h1
        have h2 := h1.some_ HIL.out HPE.out HXF.out (lo := lo) (by show pbs.length = sf + lo; rw [HPN.out]; exact hlo) (by omega)
        rw [hk] at h2
        dsimp only at h2
        rw [Int.toNat_natCast, hq] at h2
        exact h2)
      rw [hAk]
      clear hz hAk hakl hk
      have hz : IntKind.i64.wrap ((pn : Int) - (sf : Int)) = (lo : Int) := by rw [IntKind.wrap_i64]; omega
      have hz2 : (pn : Int) - (sf : Int) = (lo : Int) := by omega
      have hz3 : ((lo : Int) == 0) = false := by rw [beq_eq_false_iff_ne]; omega
      have hq1 : IntKind.i64.wrap ((sf : Int) + (k : Int)) = (q : Int) := by rw [IntKind.wrap_i64]; omega
      have hq2 : (sf : Int) + (k : Int) = (q : Int) := by omega
      have ha1 : IntKind.i64.wrap ((a : Int) + 1) = (a : Int) + 1 := by rw [IntKind.wrap_i64]; omega
      have hqc : (q : Int) ≤ (pc : Int) := by omega
      have HQP : Hid (q ≤ pn ∧ sf ≤ q) := Lib.hid (by omega)
      clear hlo hq
      obtain ⟨gf, hgf⟩ : ∃ x, wr.heap.size = x := ⟨_, rfl⟩
      obtain ⟨WA, hWA⟩ : ∃ W, wr.drew.alloc (.cells #[.slice none 0 0, .int .i64 0] 92) = W := ⟨_, rfl⟩
      obtain ⟨rA, bA, sA⟩ := new_row hWA
      replace rA : WA.heap[gf]? = some (.cells #[.slice none 0 0, .int .i64 0] 92 (0, 0)) := by rw [← hgf]; exact rA
      have HBA : Hid (Below wr.heap.size wr WA) := Lib.hid ⟨bA.os, bA.tape, bA.output, bA.size, bA.block⟩
      obtain ⟨WB, hWB, TB, RB, GB⟩ := put_row (new := [.slice pA pn pc, .int .i64 (sf : Int)]) rA rfl
      have HWB := Lib.hid hWB
      have BB : Hid (Below wr.heap.size wr WB) := Lib.hid (bel_grown HBA.out HBA.out.size GB.out (by omega))
      have cf0 : WB.cell? ⟨gf, 0, none⟩ = some (.slice pA pn pc) := row_cell RB.out 0
      have cf1 : WB.cell? ⟨gf, 1, none⟩ = some (.int .i64 (sf : Int)) := row_cell RB.out 1
      have HGF := Lib.hid hgf
      clear rA bA sA hWB
      try rw [hgf]
      have ck : WB.cell? ⟨bk, ok_ + a, none⟩ = some (.int .i64 z) := HCK.out _ (HI.out.bel.trans (BB.out.mono HI.out.bel.size))
      have hbt := between_any z 0 (lo : Int) WB (by omega)
      rw [HKZ.out] at hbt
      have HBT := Lib.hid hbt
      clear hbt
      obtain ⟨WC, hWC⟩ : ∃ W, WB.setCell ⟨gf, 0, none⟩ (.slice pA q pc) = W := ⟨_, rfl⟩
      have RC : Hid (WC.heap[gf]? = some (.cells #[.slice pA q pc, .int .i64 (sf : Int)] 92 (0, 0))) := Lib.hid (by have h9 := row_set RB.out 0 (.slice pA q pc); rw [hWC] at h9; simpa using h9)
      have ff0 : WB.frozen? ⟨gf, 0, none⟩ = false := row_free RB.out 0
      have GC : Hid (WB.grownBy WC (some gf)) := Lib.hid (by rw [← hWC]; exact grown_set gf 0 _)
      have BC : Hid (Below wr.heap.size wr WC) := Lib.hid (bel_grown BB.out BB.out.size GC.out (by have := HGF.out; omega))
      have cg0 : WC.cell? ⟨gf, 0, none⟩ = some (.slice pA q pc) := row_cell RC.out 0
      have cg1 : WC.cell? ⟨gf, 1, none⟩ = some (.int .i64 (sf : Int)) := row_cell RC.out 1
      have fg1 : WC.frozen? ⟨gf, 1, none⟩ = false := row_free RC.out 1
      obtain ⟨WD, hWD⟩ : ∃ W, WC.setCell ⟨gf, 1, none⟩ (.int .i64 (q : Int)) = W := ⟨_, rfl⟩
      have RD : Hid (WD.heap[gf]? = some (.cells #[.slice pA q pc, .int .i64 (q : Int)] 92 (0, 0))) := Lib.hid (by have h9 := row_set RC.out 1 (.int .i64 (q : Int)); rw [hWD] at h9; simpa using h9)
      have GD : Hid (WC.grownBy WD (some gf)) := Lib.hid (by rw [← hWD]; exact grown_set gf 1 _)
      have BD : Hid (Below wr.heap.size wr WD) := Lib.hid (bel_grown BC.out BC.out.size GD.out (by have := HGF.out; omega))
      have HGD : Hid (WD.heap[g]? = some (.cells #[.slice (some ⟨bf, of_, none⟩) nf fc, .slice (some ⟨bn, on_, none⟩) n nc, v2, v3, v4, v5, v6] 50 (0, 0))) := Lib.hid (by have := HI.out.row; rw [HFA.out, HNA.out] at this; exact (BD.out.block _ HGL.out).trans this)
      have HTK : Hid ((pbs.take q).length = q) := Lib.hid (by rw [List.length_take, HPN.out]; have := HQP.out; omega)
      have HWT : Hid (Calls Try.prog 43 #[.slice (some ⟨bf, of_, none⟩) nf fc, .int .i64 (f : Int), .agg #[.slice pA q pc, .int .i64 (q : Int)]] WD.drew fun e w' => ∃ A' c', e = .returned (.slice A' nf c') ∧ LOut 92 2 fileC WD.drew w' A' nf c' (fs.set f (⟨pA, pc, pbs.take q⟩, q))) := Lib.hid (by
        have h1 := rwith_any fa fs nf fc (by have := HI.out.rin.fl; exact this.trans HFLN.out) (by omega) f (⟨pA, pc, pbs.take q⟩, q) WD.drew (HI.out.rin.below (BD.out)).rf.1.drew
        have e1 : fileC (⟨pA, pc, pbs.take q⟩, q) = [.slice pA q pc, .int .i64 (q : Int)] := by
          show [Value.slice pA (pbs.take q).length pc, _] = _
          rw [HTK.out]
        rw [e1, HFA.out] at h1
        exact h1)
      go_wp2_with fail
      refine wp_region_sched (fun w' => w'.cell? ⟨g, 0, none⟩ = some (.slice (some ⟨bf, of_, none⟩) nf fc) ∧ w'.cell? ⟨g, 1, none⟩ = some (.slice (some ⟨bn, on_, none⟩) n nc) ∧ w'.cell? ⟨bn, on_ + i * 2 + 1, none⟩ = some (.int .i64 (f : Int)) ∧ w'.rangeAt bf (of_ + f * 2) [.slice pA pn pc, .int .i64 (sf : Int)]) [(true, 0), (true, 1), (true, 2), (true, 3), (true, 4), (true, 5), (true, 6), (true, 7), (true, 8), (true, 9), (false, 10), (false, 11)] (by kernel_rfl) (by kernel_rfl) rfl (by kernel_rfl) (HSX.out _ (Below.refl _ _).drew) ?_
      (first | (refine wpS_pass _ rfl (by rfl) ?_; simp only [Act.put, List.getElem_toArray, List.getElem_cons_zero, List.getElem_cons_succ, List.setIfInBounds_toArray, List.set_cons_zero, List.set_cons_succ]) | (refine wpS_take _ ?_ rfl (by rfl) ?_ ?_; rotate_left; (focus (intro w' hS'; (try dsimp only at hS'); (repeat (have hS1 := hS'.1; replace hS' := hS'.2)); go_simp; (try with_reducible rfl); done)); simp only [Act.put, List.getElem_toArray, List.getElem_cons_zero, List.getElem_cons_succ, List.setIfInBounds_toArray, List.set_cons_zero, List.set_cons_succ]))
      (first | (refine wpS_pass _ rfl (by rfl) ?_; simp only [Act.put, List.getElem_toArray, List.getElem_cons_zero, List.getElem_cons_succ, List.setIfInBounds_toArray, List.set_cons_zero, List.set_cons_succ]) | (refine wpS_take _ ?_ rfl (by rfl) ?_ ?_; rotate_left; (focus (intro w' hS'; (try dsimp only at hS'); (repeat (have hS1 := hS'.1; replace hS' := hS'.2)); go_simp; (try with_reducible rfl); done)); simp only [Act.put, List.getElem_toArray, List.getElem_cons_zero, List.getElem_cons_succ, List.setIfInBounds_toArray, List.set_cons_zero, List.set_cons_succ]))
      (first | (refine wpS_pass _ rfl (by rfl) ?_; simp only [Act.put, List.getElem_toArray, List.getElem_cons_zero, List.getElem_cons_succ, List.setIfInBounds_toArray, List.set_cons_zero, List.set_cons_succ]) | (refine wpS_take _ ?_ rfl (by rfl) ?_ ?_; rotate_left; (focus (intro w' hS'; (try dsimp only at hS'); (repeat (have hS1 := hS'.1; replace hS' := hS'.2)); go_simp; (try with_reducible rfl); done)); simp only [Act.put, List.getElem_toArray, List.getElem_cons_zero, List.getElem_cons_succ, List.setIfInBounds_toArray, List.set_cons_zero, List.set_cons_succ]))
      (first | (refine wpS_pass _ rfl (by rfl) ?_; simp only [Act.put, List.getElem_toArray, List.getElem_cons_zero, List.getElem_cons_succ, List.setIfInBounds_toArray, List.set_cons_zero, List.set_cons_succ]) | (refine wpS_take _ ?_ rfl (by rfl) ?_ ?_; rotate_left; (focus (intro w' hS'; (try dsimp only at hS'); (repeat (have hS1 := hS'.1; replace hS' := hS'.2)); go_simp; (try with_reducible rfl); done)); simp only [Act.put, List.getElem_toArray, List.getElem_cons_zero, List.getElem_cons_succ, List.setIfInBounds_toArray, List.set_cons_zero, List.set_cons_succ]))
      (first | (refine wpS_pass _ rfl (by rfl) ?_; simp only [Act.put, List.getElem_toArray, List.getElem_cons_zero, List.getElem_cons_succ, List.setIfInBounds_toArray, List.set_cons_zero, List.set_cons_succ]) | (refine wpS_take _ ?_ rfl (by rfl) ?_ ?_; rotate_left; (focus (intro w' hS'; (try dsimp only at hS'); (repeat (have hS1 := hS'.1; replace hS' := hS'.2)); go_simp; (try with_reducible rfl); done)); simp only [Act.put, List.getElem_toArray, List.getElem_cons_zero, List.getElem_cons_succ, List.setIfInBounds_toArray, List.set_cons_zero, List.set_cons_succ]))
      (first | (refine wpS_pass _ rfl (by rfl) ?_; simp only [Act.put, List.getElem_toArray, List.getElem_cons_zero, List.getElem_cons_succ, List.setIfInBounds_toArray, List.set_cons_zero, List.set_cons_succ]) | (refine wpS_take _ ?_ rfl (by rfl) ?_ ?_; rotate_left; (focus (intro w' hS'; (try dsimp only at hS'); (repeat (have hS1 := hS'.1; replace hS' := hS'.2)); go_simp; (try with_reducible rfl); done)); simp only [Act.put, List.getElem_toArray, List.getElem_cons_zero, List.getElem_cons_succ, List.setIfInBounds_toArray, List.set_cons_zero, List.set_cons_succ]))
      (first | (refine wpS_pass _ rfl (by rfl) ?_; simp only [Act.put, List.getElem_toArray, List.getElem_cons_zero, List.getElem_cons_succ, List.setIfInBounds_toArray, List.set_cons_zero, List.set_cons_succ]) | (refine wpS_take _ ?_ rfl (by rfl) ?_ ?_; rotate_left; (focus (intro w' hS'; (try dsimp only at hS'); (repeat (have hS1 := hS'.1; replace hS' := hS'.2)); go_simp; (try with_reducible rfl); done)); simp only [Act.put, List.getElem_toArray, List.getElem_cons_zero, List.getElem_cons_succ, List.setIfInBounds_toArray, List.set_cons_zero, List.set_cons_succ]))
      (first | (refine wpS_pass _ rfl (by rfl) ?_; simp only [Act.put, List.getElem_toArray, List.getElem_cons_zero, List.getElem_cons_succ, List.setIfInBounds_toArray, List.set_cons_zero, List.set_cons_succ]) | (refine wpS_take _ ?_ rfl (by rfl) ?_ ?_; rotate_left; (focus (intro w' hS'; (try dsimp only at hS'); (repeat (have hS1 := hS'.1; replace hS' := hS'.2)); go_simp; (try with_reducible rfl); done)); simp only [Act.put, List.getElem_toArray, List.getElem_cons_zero, List.getElem_cons_succ, List.setIfInBounds_toArray, List.set_cons_zero, List.set_cons_succ]))
      (first | (refine wpS_pass _ rfl (by rfl) ?_; simp only [Act.put, List.getElem_toArray, List.getElem_cons_zero, List.getElem_cons_succ, List.setIfInBounds_toArray, List.set_cons_zero, List.set_cons_succ]) | (refine wpS_take _ ?_ rfl (by rfl) ?_ ?_; rotate_left; (focus (intro w' hS'; (try dsimp only at hS'); (repeat (have hS1 := hS'.1; replace hS' := hS'.2)); go_simp; (try with_reducible rfl); done)); simp only [Act.put, List.getElem_toArray, List.getElem_cons_zero, List.getElem_cons_succ, List.setIfInBounds_toArray, List.set_cons_zero, List.set_cons_succ]))
      refine wpS_load _ rfl (by rfl) 92 _ rfl bf (of_ + f * 2) rfl [.slice pA pn pc, .int .i64 (sf : Int)] _ (fun w' hS => hS.2.2.2) Try.underlying92 rfl info_fl2 ?_
      simp only [Act.put, List.getElem_toArray, List.getElem_cons_zero, List.getElem_cons_succ, List.setIfInBounds_toArray, List.set_cons_zero, List.set_cons_succ]
      refine wpS_do _ rfl (by rfl) (fun KK hK => ?_)
      go_simp
      refine hK.out _ _ (HSX.out _ HBA.out) (fun hS' => ?_)
      clear hS' hK
      refine wpS_store_mid _ rfl (by rfl) 92 _ _ rfl gf 0 #[.slice pA pn pc, .int .i64 (sf : Int)] rfl rfl TB.out info_fl2b cells2b ?_ ?_
      · rw [HWB.out]
        exact HSX.out _ BB.out
      rw [HWB.out]
      refine wpS_done ?_
      clear hWA
      try rw [hgf]
      clear hgf
      go_wp2_with fail
      refine HBT.out.mono ?_
      rintro e wb ⟨rfl, rfl⟩
      go_wp2_with fail
      have hsn := HSX.out _ BD.out
      have cD0 : WD.cell? ⟨g, 0, none⟩ = some (.slice (some ⟨bf, of_, none⟩) nf fc) := row_cell HGD.out 0
      refine wp_region_sched (fun w' => w'.cell? ⟨g, 1, none⟩ = some (.slice (some ⟨bn, on_, none⟩) n nc) ∧ w'.cell? ⟨bn, on_ + i * 2 + 1, none⟩ = some (.int .i64 (f : Int)) ∧ w'.rangeAt gf 0 [.slice pA q pc, .int .i64 (q : Int)]) [(true, 0), (true, 2), (true, 3), (true, 4), (true, 5), (true, 6), (true, 7), (true, 8), (false, 1), (false, 9), (true, 10), (false, 11)] (by kernel_rfl) (by kernel_rfl) rfl (by kernel_rfl) ⟨hsn.2.1, hsn.2.2.1, range_of_row (cs := [.slice pA q pc, .int .i64 (q : Int)]) RD.out⟩ ?_
      (first | (refine wpS_pass _ rfl (by rfl) ?_; simp only [Act.put, List.getElem_toArray, List.getElem_cons_zero, List.getElem_cons_succ, List.setIfInBounds_toArray, List.set_cons_zero, List.set_cons_succ]) | (refine wpS_take _ ?_ rfl (by rfl) ?_ ?_; rotate_left; (focus (intro w' hS'; (try dsimp only at hS'); (repeat (have hS1 := hS'.1; replace hS' := hS'.2)); go_simp; (try with_reducible rfl); done)); simp only [Act.put, List.getElem_toArray, List.getElem_cons_zero, List.getElem_cons_succ, List.setIfInBounds_toArray, List.set_cons_zero, List.set_cons_succ]))
      (first | (refine wpS_pass _ rfl (by rfl) ?_; simp only [Act.put, List.getElem_toArray, List.getElem_cons_zero, List.getElem_cons_succ, List.setIfInBounds_toArray, List.set_cons_zero, List.set_cons_succ]) | (refine wpS_take _ ?_ rfl (by rfl) ?_ ?_; rotate_left; (focus (intro w' hS'; (try dsimp only at hS'); (repeat (have hS1 := hS'.1; replace hS' := hS'.2)); go_simp; (try with_reducible rfl); done)); simp only [Act.put, List.getElem_toArray, List.getElem_cons_zero, List.getElem_cons_succ, List.setIfInBounds_toArray, List.set_cons_zero, List.set_cons_succ]))
      (first | (refine wpS_pass _ rfl (by rfl) ?_; simp only [Act.put, List.getElem_toArray, List.getElem_cons_zero, List.getElem_cons_succ, List.setIfInBounds_toArray, List.set_cons_zero, List.set_cons_succ]) | (refine wpS_take _ ?_ rfl (by rfl) ?_ ?_; rotate_left; (focus (intro w' hS'; (try dsimp only at hS'); (repeat (have hS1 := hS'.1; replace hS' := hS'.2)); go_simp; (try with_reducible rfl); done)); simp only [Act.put, List.getElem_toArray, List.getElem_cons_zero, List.getElem_cons_succ, List.setIfInBounds_toArray, List.set_cons_zero, List.set_cons_succ]))
      (first | (refine wpS_pass _ rfl (by rfl) ?_; simp only [Act.put, List.getElem_toArray, List.getElem_cons_zero, List.getElem_cons_succ, List.setIfInBounds_toArray, List.set_cons_zero, List.set_cons_succ]) | (refine wpS_take _ ?_ rfl (by rfl) ?_ ?_; rotate_left; (focus (intro w' hS'; (try dsimp only at hS'); (repeat (have hS1 := hS'.1; replace hS' := hS'.2)); go_simp; (try with_reducible rfl); done)); simp only [Act.put, List.getElem_toArray, List.getElem_cons_zero, List.getElem_cons_succ, List.setIfInBounds_toArray, List.set_cons_zero, List.set_cons_succ]))
      (first | (refine wpS_pass _ rfl (by rfl) ?_; simp only [Act.put, List.getElem_toArray, List.getElem_cons_zero, List.getElem_cons_succ, List.setIfInBounds_toArray, List.set_cons_zero, List.set_cons_succ]) | (refine wpS_take _ ?_ rfl (by rfl) ?_ ?_; rotate_left; (focus (intro w' hS'; (try dsimp only at hS'); (repeat (have hS1 := hS'.1; replace hS' := hS'.2)); go_simp; (try with_reducible rfl); done)); simp only [Act.put, List.getElem_toArray, List.getElem_cons_zero, List.getElem_cons_succ, List.setIfInBounds_toArray, List.set_cons_zero, List.set_cons_succ]))
      (first | (refine wpS_pass _ rfl (by rfl) ?_; simp only [Act.put, List.getElem_toArray, List.getElem_cons_zero, List.getElem_cons_succ, List.setIfInBounds_toArray, List.set_cons_zero, List.set_cons_succ]) | (refine wpS_take _ ?_ rfl (by rfl) ?_ ?_; rotate_left; (focus (intro w' hS'; (try dsimp only at hS'); (repeat (have hS1 := hS'.1; replace hS' := hS'.2)); go_simp; (try with_reducible rfl); done)); simp only [Act.put, List.getElem_toArray, List.getElem_cons_zero, List.getElem_cons_succ, List.setIfInBounds_toArray, List.set_cons_zero, List.set_cons_succ]))
      (first | (refine wpS_pass _ rfl (by rfl) ?_; simp only [Act.put, List.getElem_toArray, List.getElem_cons_zero, List.getElem_cons_succ, List.setIfInBounds_toArray, List.set_cons_zero, List.set_cons_succ]) | (refine wpS_take _ ?_ rfl (by rfl) ?_ ?_; rotate_left; (focus (intro w' hS'; (try dsimp only at hS'); (repeat (have hS1 := hS'.1; replace hS' := hS'.2)); go_simp; (try with_reducible rfl); done)); simp only [Act.put, List.getElem_toArray, List.getElem_cons_zero, List.getElem_cons_succ, List.setIfInBounds_toArray, List.set_cons_zero, List.set_cons_succ]))
      refine wpS_load _ rfl (by rfl) 92 _ rfl gf 0 rfl [.slice pA q pc, .int .i64 (q : Int)] _ (fun w' hS => hS.2.2) Try.underlying92 rfl info_fl2 ?_
      simp only [Act.put, List.getElem_toArray, List.getElem_cons_zero, List.getElem_cons_succ, List.setIfInBounds_toArray, List.set_cons_zero, List.set_cons_succ]
      refine wpS_do _ rfl (by rfl) (fun KK hK => ?_)
      go_simp
      refine hK.out _ _ ⟨hsn.2.1, hsn.2.2.1, range_of_row (cs := [.slice pA q pc, .int .i64 (q : Int)]) RD.out⟩ (fun hS' => ?_)
      clear hS' hK
      refine wpS_do _ rfl (by rfl) (fun KK hK => ?_)
      go_simp
      refine HWT.out.mono ?_
      rintro e w7 ⟨A7, c7, rfl, ho7⟩
      dsimp only
      have HO7 := Lib.hid ho7
      have HB7 : Hid (Below WD.heap.size WD w7) := Lib.hid ⟨ho7.bel.os, ho7.bel.tape, ho7.bel.output, ho7.bel.size, ho7.bel.block⟩
      have HBR7 : Hid (Below wr.heap.size wr w7) := Lib.hid (BD.out.trans (HB7.out.mono BD.out.size))
      have hs7 := HSX.out _ HBR7.out
      have HG7 : Hid (w7.heap[g]? = some (.cells #[.slice (some ⟨bf, of_, none⟩) nf fc, .slice (some ⟨bn, on_, none⟩) n nc, v2, v3, v4, v5, v6] 50 (0, 0))) := Lib.hid ((HB7.out.block _ (Array.getElem?_eq_some_iff.1 HGD.out).1).trans HGD.out)
      have HR7 : Hid (w7.heap[gf]? = some (.cells #[.slice pA q pc, .int .i64 (q : Int)] 92 (0, 0))) := Lib.hid ((HB7.out.block _ (Array.getElem?_eq_some_iff.1 RD.out).1).trans RD.out)
      refine hK.out _ _ ⟨hs7.2.1, hs7.2.2.1, range_of_row (cs := [.slice pA q pc, .int .i64 (q : Int)]) HR7.out⟩ (fun hS' => ?_)
      clear hS' hK ho7
      (first | (refine wpS_pass _ rfl (by rfl) ?_; simp only [Act.put, List.getElem_toArray, List.getElem_cons_zero, List.getElem_cons_succ, List.setIfInBounds_toArray, List.set_cons_zero, List.set_cons_succ]) | (refine wpS_take _ ?_ rfl (by rfl) ?_ ?_; rotate_left; (focus (intro w' hS'; (try dsimp only at hS'); (repeat (have hS1 := hS'.1; replace hS' := hS'.2)); go_simp; (try with_reducible rfl); done)); simp only [Act.put, List.getElem_toArray, List.getElem_cons_zero, List.getElem_cons_succ, List.setIfInBounds_toArray, List.set_cons_zero, List.set_cons_succ]))
      have hr8 : (w7.setCell ⟨g, 0, none⟩ (.slice A7 nf c7)).heap[g]? = some (.cells #[.slice A7 nf c7, .slice (some ⟨bn, on_, none⟩) n nc, v2, v3, v4, v5, v6] 50 (0, 0)) := by
        have h9 := row_set HG7.out 0 (.slice A7 nf c7)
        simpa using h9
      refine wpS_store_cell _ rfl (by rfl) 46 _ _ rfl g 0 rfl (.slice A7 nf c7) rfl rfl (.slice (some ⟨bf, of_, none⟩) nf fc) (row_cell HG7.out 0) (row_free HG7.out 0) (by kernel_rfl) ?_ ?_
      · refine ⟨row_cell hr8 1, ?_, fun x u hu => ?_⟩
        · rw [World.cell?_setCell_far _ _ _ _ (by dsimp only; exact fun e => HBNG.out e.symm)]
          exact hs7.2.2.1
        · rw [World.cell?_setCell_far _ _ _ _ (by dsimp only; have := HGL.out; have := HGF.out; omega)]
          exact range_of_row (cs := [.slice pA q pc, .int .i64 (q : Int)]) HR7.out x u hu
      simp only [Act.put, List.getElem_toArray, List.getElem_cons_zero, List.getElem_cons_succ, List.setIfInBounds_toArray, List.set_cons_zero, List.set_cons_succ]
      refine wpS_done ?_
      have HN : Hid (CutSt FP K L g R m keep v2 v3 v4 v5 v6 nf n nc na w w0 (w7.setCell ⟨g, 0, none⟩ (.slice A7 nf c7)) (i + 1) (a + 1) (fs.set f (⟨pA, pc, pbs.take q⟩, q)) A7 c7 (fl.set f ⟨pbs.take q, q⟩)) := Lib.hid (by
        have hi := HI.out
        have hf2 : Frm (fun b => b = g) w7 (w7.setCell ⟨g, 0, none⟩ (.slice A7 nf c7)) := Frm.of_cell rfl
        have hfg : ∀ b, b = g → FP b := fun b hb => by rw [hb]; exact HFP.out.1
        have hsz := hi.frm.size
        have hszD := BD.out.size
        refine ⟨by rw [HNA.out]; exact hr8, bel_grown (hi.bel.trans (HBR7.out.mono hi.bel.size)) (Nat.le_trans hi.bel.size HBR7.out.size) (grown_set g 0 _) hgw, (hi.frm.trans (Frm.of_below (F := fun b => b = g) HBR7.out) (fun i hi => .inl hi)).trans hf2 (fun i hi => .inl hi), ?_, ?_, HCN.out⟩
        · have h1 : RdF FP w7 A7 (filesC (fs.set f (⟨pA, pc, pbs.take q⟩, q))) := fresh_rdf (w := WD.drew) HO7.out.rd HO7.out.addr (fun b hb => by have := HFP.out.2 b hb; show b < WD.heap.size; omega)
          have h2 := (hi.rin.below HBR7.out).frm hf2 hfg
          have h3 := h2.rb _ HMEM.out
          have h4 := h2.setf (c := c7) (fi := f) (p := (⟨pA, pc, pbs.take q⟩, q)) (h1.frm hf2 hfg) ⟨by have h5 := h3.1.take q; rw [← b8s_take] at h5; exact h5, by have h5 := h3.2.1; have := HTK.out; have := HPN.out; dsimp only at h5 ⊢; omega, h3.2.2⟩
          exact h4
        · exact hi.fit.setF f ⟨pbs.take q, q⟩ ⟨by have := HTK.out; have := HPL.out; have := HQP.out; dsimp only; omega, by have := HTK.out; dsimp only; omega⟩)
      clear hr8 HO7 HB7 HBR7 hs7 HG7 HR7 cD0 hsn HWT HGD
      generalize w7.setCell ⟨g, 0, none⟩ (.slice A7 nf c7) = W8 at *
      go_wp2_with fail
      rw [← HNA.out]
      rw [← HAK.out]
      go_roundg (n - (i + 1))
      case measure => omega
      case rel => exact ⟨i + 1, a + 1, _, A7, c7, _, by omega, by omega, rfl, by first | rfl | exact congrArg (Value.int .i64) (by omega) | go_num, by first | rfl | exact congrArg (Value.int .i64) (by omega) | go_num, HN⟩
    · have i4 : ¬ ((a : Int) < (kl : Int)) := by omega
      have HCN : Hid (CutAt m { m with files := fl.set f ⟨pbs.take sf, sf⟩ } keep (keep.drop (a + 1)) (i + 1)) := Lib.hid (by
        have h1 := HI.out.cut
        rw [List.drop_eq_nil_of_le (by rw [HKL.out]; omega)] at h1
        have h2 := h1.none_ HIL.out HPE.out HXF.out (lo := lo) (by show pbs.length = sf + lo; rw [HPN.out]; exact hlo) (by omega)
        dsimp only at h2
        rw [Nat.add_zero] at h2
        rw [List.drop_eq_nil_of_le (by rw [HKL.out]; omega)]
        exact h2)
      have hz : IntKind.i64.wrap ((pn : Int) - (sf : Int)) = (lo : Int) := by rw [IntKind.wrap_i64]; omega
      have hz2 : (pn : Int) - (sf : Int) = (lo : Int) := by omega
      have hz3 : ((lo : Int) == 0) = false := by rw [beq_eq_false_iff_ne]; omega
      have hq1 : IntKind.i64.wrap ((sf : Int) + 0) = (sf : Int) := by rw [IntKind.wrap_i64]; omega
      have hq2 : (sf : Int) + 0 = (sf : Int) := by omega
      have ha1 : IntKind.i64.wrap ((a : Int) + 1) = (a : Int) + 1 := by rw [IntKind.wrap_i64]; omega
      have hqc : (sf : Int) ≤ (pc : Int) := by omega
      have HQP : Hid (sf ≤ pn ∧ sf ≤ sf) := Lib.hid (by omega)
      clear hlo
      obtain ⟨gf, hgf⟩ : ∃ x, wr.heap.size = x := ⟨_, rfl⟩
      obtain ⟨WA, hWA⟩ : ∃ W, wr.drew.alloc (.cells #[.slice none 0 0, .int .i64 0] 92) = W := ⟨_, rfl⟩
      obtain ⟨rA, bA, sA⟩ := new_row hWA
      replace rA : WA.heap[gf]? = some (.cells #[.slice none 0 0, .int .i64 0] 92 (0, 0)) := by rw [← hgf]; exact rA
      have HBA : Hid (Below wr.heap.size wr WA) := Lib.hid ⟨bA.os, bA.tape, bA.output, bA.size, bA.block⟩
      obtain ⟨WB, hWB, TB, RB, GB⟩ := put_row (new := [.slice pA pn pc, .int .i64 (sf : Int)]) rA rfl
      have HWB := Lib.hid hWB
      have BB : Hid (Below wr.heap.size wr WB) := Lib.hid (bel_grown HBA.out HBA.out.size GB.out (by omega))
      have cf0 : WB.cell? ⟨gf, 0, none⟩ = some (.slice pA pn pc) := row_cell RB.out 0
      have cf1 : WB.cell? ⟨gf, 1, none⟩ = some (.int .i64 (sf : Int)) := row_cell RB.out 1
      have HGF := Lib.hid hgf
      clear rA bA sA hWB
      try rw [hgf]
      obtain ⟨WC, hWC⟩ : ∃ W, WB.setCell ⟨gf, 0, none⟩ (.slice pA sf pc) = W := ⟨_, rfl⟩
      have RC : Hid (WC.heap[gf]? = some (.cells #[.slice pA sf pc, .int .i64 (sf : Int)] 92 (0, 0))) := Lib.hid (by have h9 := row_set RB.out 0 (.slice pA sf pc); rw [hWC] at h9; simpa using h9)
      have ff0 : WB.frozen? ⟨gf, 0, none⟩ = false := row_free RB.out 0
      have GC : Hid (WB.grownBy WC (some gf)) := Lib.hid (by rw [← hWC]; exact grown_set gf 0 _)
      have BC : Hid (Below wr.heap.size wr WC) := Lib.hid (bel_grown BB.out BB.out.size GC.out (by have := HGF.out; omega))
      have cg0 : WC.cell? ⟨gf, 0, none⟩ = some (.slice pA sf pc) := row_cell RC.out 0
      have cg1 : WC.cell? ⟨gf, 1, none⟩ = some (.int .i64 (sf : Int)) := row_cell RC.out 1
      have fg1 : WC.frozen? ⟨gf, 1, none⟩ = false := row_free RC.out 1
      obtain ⟨WD, hWD⟩ : ∃ W, WC.setCell ⟨gf, 1, none⟩ (.int .i64 (sf : Int)) = W := ⟨_, rfl⟩
      have RD : Hid (WD.heap[gf]? = some (.cells #[.slice pA sf pc, .int .i64 (sf : Int)] 92 (0, 0))) := Lib.hid (by have h9 := row_set RC.out 1 (.int .i64 (sf : Int)); rw [hWD] at h9; simpa using h9)
      have GD : Hid (WC.grownBy WD (some gf)) := Lib.hid (by rw [← hWD]; exact grown_set gf 1 _)
      have BD : Hid (Below wr.heap.size wr WD) := Lib.hid (bel_grown BC.out BC.out.size GD.out (by have := HGF.out; omega))
      have HGD : Hid (WD.heap[g]? = some (.cells #[.slice (some ⟨bf, of_, none⟩) nf fc, .slice (some ⟨bn, on_, none⟩) n nc, v2, v3, v4, v5, v6] 50 (0, 0))) := Lib.hid (by have := HI.out.row; rw [HFA.out, HNA.out] at this; exact (BD.out.block _ HGL.out).trans this)
      have HTK : Hid ((pbs.take sf).length = sf) := Lib.hid (by rw [List.length_take, HPN.out]; have := HQP.out; omega)
      have HWT : Hid (Calls Try.prog 43 #[.slice (some ⟨bf, of_, none⟩) nf fc, .int .i64 (f : Int), .agg #[.slice pA sf pc, .int .i64 (sf : Int)]] WD.drew fun e w' => ∃ A' c', e = .returned (.slice A' nf c') ∧ LOut 92 2 fileC WD.drew w' A' nf c' (fs.set f (⟨pA, pc, pbs.take sf⟩, sf))) := Lib.hid (by
        have h1 := rwith_any fa fs nf fc (by have := HI.out.rin.fl; exact this.trans HFLN.out) (by omega) f (⟨pA, pc, pbs.take sf⟩, sf) WD.drew (HI.out.rin.below (BD.out)).rf.1.drew
        have e1 : fileC (⟨pA, pc, pbs.take sf⟩, sf) = [.slice pA sf pc, .int .i64 (sf : Int)] := by
          show [Value.slice pA (pbs.take sf).length pc, _] = _
          rw [HTK.out]
        rw [e1, HFA.out] at h1
        exact h1)
      go_wp2_with fail
      refine wp_region_sched (fun w' => w'.cell? ⟨g, 0, none⟩ = some (.slice (some ⟨bf, of_, none⟩) nf fc) ∧ w'.cell? ⟨g, 1, none⟩ = some (.slice (some ⟨bn, on_, none⟩) n nc) ∧ w'.cell? ⟨bn, on_ + i * 2 + 1, none⟩ = some (.int .i64 (f : Int)) ∧ w'.rangeAt bf (of_ + f * 2) [.slice pA pn pc, .int .i64 (sf : Int)]) [(true, 0), (true, 1), (true, 2), (true, 3), (true, 4), (true, 5), (true, 6), (true, 7), (true, 8), (true, 9), (false, 10), (false, 11)] (by kernel_rfl) (by kernel_rfl) rfl (by kernel_rfl) (HSX.out _ (Below.refl _ _).drew) ?_
      (first | (refine wpS_pass _ rfl (by rfl) ?_; simp only [Act.put, List.getElem_toArray, List.getElem_cons_zero, List.getElem_cons_succ, List.setIfInBounds_toArray, List.set_cons_zero, List.set_cons_succ]) | (refine wpS_take _ ?_ rfl (by rfl) ?_ ?_; rotate_left; (focus (intro w' hS'; (try dsimp only at hS'); (repeat (have hS1 := hS'.1; replace hS' := hS'.2)); go_simp; (try with_reducible rfl); done)); simp only [Act.put, List.getElem_toArray, List.getElem_cons_zero, List.getElem_cons_succ, List.setIfInBounds_toArray, List.set_cons_zero, List.set_cons_succ]))
      (first | (refine wpS_pass _ rfl (by rfl) ?_; simp only [Act.put, List.getElem_toArray, List.getElem_cons_zero, List.getElem_cons_succ, List.setIfInBounds_toArray, List.set_cons_zero, List.set_cons_succ]) | (refine wpS_take _ ?_ rfl (by rfl) ?_ ?_; rotate_left; (focus (intro w' hS'; (try dsimp only at hS'); (repeat (have hS1 := hS'.1; replace hS' := hS'.2)); go_simp; (try with_reducible rfl); done)); simp only [Act.put, List.getElem_toArray, List.getElem_cons_zero, List.getElem_cons_succ, List.setIfInBounds_toArray, List.set_cons_zero, List.set_cons_succ]))
      (first | (refine wpS_pass _ rfl (by rfl) ?_; simp only [Act.put, List.getElem_toArray, List.getElem_cons_zero, List.getElem_cons_succ, List.setIfInBounds_toArray, List.set_cons_zero, List.set_cons_succ]) | (refine wpS_take _ ?_ rfl (by rfl) ?_ ?_; rotate_left; (focus (intro w' hS'; (try dsimp only at hS'); (repeat (have hS1 := hS'.1; replace hS' := hS'.2)); go_simp; (try with_reducible rfl); done)); simp only [Act.put, List.getElem_toArray, List.getElem_cons_zero, List.getElem_cons_succ, List.setIfInBounds_toArray, List.set_cons_zero, List.set_cons_succ]))
      (first | (refine wpS_pass _ rfl (by rfl) ?_; simp only [Act.put, List.getElem_toArray, List.getElem_cons_zero, List.getElem_cons_succ, List.setIfInBounds_toArray, List.set_cons_zero, List.set_cons_succ]) | (refine wpS_take _ ?_ rfl (by rfl) ?_ ?_; rotate_left; (focus (intro w' hS'; (try dsimp only at hS'); (repeat (have hS1 := hS'.1; replace hS' := hS'.2)); go_simp; (try with_reducible rfl); done)); simp only [Act.put, List.getElem_toArray, List.getElem_cons_zero, List.getElem_cons_succ, List.setIfInBounds_toArray, List.set_cons_zero, List.set_cons_succ]))
      (first | (refine wpS_pass _ rfl (by rfl) ?_; simp only [Act.put, List.getElem_toArray, List.getElem_cons_zero, List.getElem_cons_succ, List.setIfInBounds_toArray, List.set_cons_zero, List.set_cons_succ]) | (refine wpS_take _ ?_ rfl (by rfl) ?_ ?_; rotate_left; (focus (intro w' hS'; (try dsimp only at hS'); (repeat (have hS1 := hS'.1; replace hS' := hS'.2)); go_simp; (try with_reducible rfl); done)); simp only [Act.put, List.getElem_toArray, List.getElem_cons_zero, List.getElem_cons_succ, List.setIfInBounds_toArray, List.set_cons_zero, List.set_cons_succ]))
      (first | (refine wpS_pass _ rfl (by rfl) ?_; simp only [Act.put, List.getElem_toArray, List.getElem_cons_zero, List.getElem_cons_succ, List.setIfInBounds_toArray, List.set_cons_zero, List.set_cons_succ]) | (refine wpS_take _ ?_ rfl (by rfl) ?_ ?_; rotate_left; (focus (intro w' hS'; (try dsimp only at hS'); (repeat (have hS1 := hS'.1; replace hS' := hS'.2)); go_simp; (try with_reducible rfl); done)); simp only [Act.put, List.getElem_toArray, List.getElem_cons_zero, List.getElem_cons_succ, List.setIfInBounds_toArray, List.set_cons_zero, List.set_cons_succ]))
      (first | (refine wpS_pass _ rfl (by rfl) ?_; simp only [Act.put, List.getElem_toArray, List.getElem_cons_zero, List.getElem_cons_succ, List.setIfInBounds_toArray, List.set_cons_zero, List.set_cons_succ]) | (refine wpS_take _ ?_ rfl (by rfl) ?_ ?_; rotate_left; (focus (intro w' hS'; (try dsimp only at hS'); (repeat (have hS1 := hS'.1; replace hS' := hS'.2)); go_simp; (try with_reducible rfl); done)); simp only [Act.put, List.getElem_toArray, List.getElem_cons_zero, List.getElem_cons_succ, List.setIfInBounds_toArray, List.set_cons_zero, List.set_cons_succ]))
      (first | (refine wpS_pass _ rfl (by rfl) ?_; simp only [Act.put, List.getElem_toArray, List.getElem_cons_zero, List.getElem_cons_succ, List.setIfInBounds_toArray, List.set_cons_zero, List.set_cons_succ]) | (refine wpS_take _ ?_ rfl (by rfl) ?_ ?_; rotate_left; (focus (intro w' hS'; (try dsimp only at hS'); (repeat (have hS1 := hS'.1; replace hS' := hS'.2)); go_simp; (try with_reducible rfl); done)); simp only [Act.put, List.getElem_toArray, List.getElem_cons_zero, List.getElem_cons_succ, List.setIfInBounds_toArray, List.set_cons_zero, List.set_cons_succ]))
      (first | (refine wpS_pass _ rfl (by rfl) ?_; simp only [Act.put, List.getElem_toArray, List.getElem_cons_zero, List.getElem_cons_succ, List.setIfInBounds_toArray, List.set_cons_zero, List.set_cons_succ]) | (refine wpS_take _ ?_ rfl (by rfl) ?_ ?_; rotate_left; (focus (intro w' hS'; (try dsimp only at hS'); (repeat (have hS1 := hS'.1; replace hS' := hS'.2)); go_simp; (try with_reducible rfl); done)); simp only [Act.put, List.getElem_toArray, List.getElem_cons_zero, List.getElem_cons_succ, List.setIfInBounds_toArray, List.set_cons_zero, List.set_cons_succ]))
      refine wpS_load _ rfl (by rfl) 92 _ rfl bf (of_ + f * 2) rfl [.slice pA pn pc, .int .i64 (sf : Int)] _ (fun w' hS => hS.2.2.2) Try.underlying92 rfl info_fl2 ?_
      simp only [Act.put, List.getElem_toArray, List.getElem_cons_zero, List.getElem_cons_succ, List.setIfInBounds_toArray, List.set_cons_zero, List.set_cons_succ]
      refine wpS_do _ rfl (by rfl) (fun KK hK => ?_)
      go_simp
      refine hK.out _ _ (HSX.out _ HBA.out) (fun hS' => ?_)
      clear hS' hK
      refine wpS_store_mid _ rfl (by rfl) 92 _ _ rfl gf 0 #[.slice pA pn pc, .int .i64 (sf : Int)] rfl rfl TB.out info_fl2b cells2b ?_ ?_
      · rw [HWB.out]
        exact HSX.out _ BB.out
      rw [HWB.out]
      refine wpS_done ?_
      clear hWA
      try rw [hgf]
      clear hgf
      go_wp2_with fail
      have hsn := HSX.out _ BD.out
      have cD0 : WD.cell? ⟨g, 0, none⟩ = some (.slice (some ⟨bf, of_, none⟩) nf fc) := row_cell HGD.out 0
      refine wp_region_sched (fun w' => w'.cell? ⟨g, 1, none⟩ = some (.slice (some ⟨bn, on_, none⟩) n nc) ∧ w'.cell? ⟨bn, on_ + i * 2 + 1, none⟩ = some (.int .i64 (f : Int)) ∧ w'.rangeAt gf 0 [.slice pA sf pc, .int .i64 (sf : Int)]) [(true, 0), (true, 2), (true, 3), (true, 4), (true, 5), (true, 6), (true, 7), (true, 8), (false, 1), (false, 9), (true, 10), (false, 11)] (by kernel_rfl) (by kernel_rfl) rfl (by kernel_rfl) ⟨hsn.2.1, hsn.2.2.1, range_of_row (cs := [.slice pA sf pc, .int .i64 (sf : Int)]) RD.out⟩ ?_
      (first | (refine wpS_pass _ rfl (by rfl) ?_; simp only [Act.put, List.getElem_toArray, List.getElem_cons_zero, List.getElem_cons_succ, List.setIfInBounds_toArray, List.set_cons_zero, List.set_cons_succ]) | (refine wpS_take _ ?_ rfl (by rfl) ?_ ?_; rotate_left; (focus (intro w' hS'; (try dsimp only at hS'); (repeat (have hS1 := hS'.1; replace hS' := hS'.2)); go_simp; (try with_reducible rfl); done)); simp only [Act.put, List.getElem_toArray, List.getElem_cons_zero, List.getElem_cons_succ, List.setIfInBounds_toArray, List.set_cons_zero, List.set_cons_succ]))
      (first | (refine wpS_pass _ rfl (by rfl) ?_; simp only [Act.put, List.getElem_toArray, List.getElem_cons_zero, List.getElem_cons_succ, List.setIfInBounds_toArray, List.set_cons_zero, List.set_cons_succ]) | (refine wpS_take _ ?_ rfl (by rfl) ?_ ?_; rotate_left; (focus (intro w' hS'; (try dsimp only at hS'); (repeat (have hS1 := hS'.1; replace hS' := hS'.2)); go_simp; (try with_reducible rfl); done)); simp only [Act.put, List.getElem_toArray, List.getElem_cons_zero, List.getElem_cons_succ, List.setIfInBounds_toArray, List.set_cons_zero, List.set_cons_succ]))
      (first | (refine wpS_pass _ rfl (by rfl) ?_; simp only [Act.put, List.getElem_toArray, List.getElem_cons_zero, List.getElem_cons_succ, List.setIfInBounds_toArray, List.set_cons_zero, List.set_cons_succ]) | (refine wpS_take _ ?_ rfl (by rfl) ?_ ?_; rotate_left; (focus (intro w' hS'; (try dsimp only at hS'); (repeat (have hS1 := hS'.1; replace hS' := hS'.2)); go_simp; (try with_reducible rfl); done)); simp only [Act.put, List.getElem_toArray, List.getElem_cons_zero, List.getElem_cons_succ, List.setIfInBounds_toArray, List.set_cons_zero, List.set_cons_succ]))
      (first | (refine wpS_pass _ rfl (by rfl) ?_; simp only [Act.put, List.getElem_toArray, List.getElem_cons_zero, List.getElem_cons_succ, List.setIfInBounds_toArray, List.set_cons_zero, List.set_cons_succ]) | (refine wpS_take _ ?_ rfl (by rfl) ?_ ?_; rotate_left; (focus (intro w' hS'; (try dsimp only at hS'); (repeat (have hS1 := hS'.1; replace hS' := hS'.2)); go_simp; (try with_reducible rfl); done)); simp only [Act.put, List.getElem_toArray, List.getElem_cons_zero, List.getElem_cons_succ, List.setIfInBounds_toArray, List.set_cons_zero, List.set_cons_succ]))
      (first | (refine wpS_pass _ rfl (by rfl) ?_; simp only [Act.put, List.getElem_toArray, List.getElem_cons_zero, List.getElem_cons_succ, List.setIfInBounds_toArray, List.set_cons_zero, List.set_cons_succ]) | (refine wpS_take _ ?_ rfl (by rfl) ?_ ?_; rotate_left; (focus (intro w' hS'; (try dsimp only at hS'); (repeat (have hS1 := hS'.1; replace hS' := hS'.2)); go_simp; (try with_reducible rfl); done)); simp only [Act.put, List.getElem_toArray, List.getElem_cons_zero, List.getElem_cons_succ, List.setIfInBounds_toArray, List.set_cons_zero, List.set_cons_succ]))
      (first | (refine wpS_pass _ rfl (by rfl) ?_; simp only [Act.put, List.getElem_toArray, List.getElem_cons_zero, List.getElem_cons_succ, List.setIfInBounds_toArray, List.set_cons_zero, List.set_cons_succ]) | (refine wpS_take _ ?_ rfl (by rfl) ?_ ?_; rotate_left; (focus (intro w' hS'; (try dsimp only at hS'); (repeat (have hS1 := hS'.1; replace hS' := hS'.2)); go_simp; (try with_reducible rfl); done)); simp only [Act.put, List.getElem_toArray, List.getElem_cons_zero, List.getElem_cons_succ, List.setIfInBounds_toArray, List.set_cons_zero, List.set_cons_succ]))
      (first | (refine wpS_pass _ rfl (by rfl) ?_; simp only [Act.put, List.getElem_toArray, List.getElem_cons_zero, List.getElem_cons_succ, List.setIfInBounds_toArray, List.set_cons_zero, List.set_cons_succ]) | (refine wpS_take _ ?_ rfl (by rfl) ?_ ?_; rotate_left; (focus (intro w' hS'; (try dsimp only at hS'); (repeat (have hS1 := hS'.1; replace hS' := hS'.2)); go_simp; (try with_reducible rfl); done)); simp only [Act.put, List.getElem_toArray, List.getElem_cons_zero, List.getElem_cons_succ, List.setIfInBounds_toArray, List.set_cons_zero, List.set_cons_succ]))
      refine wpS_load _ rfl (by rfl) 92 _ rfl gf 0 rfl [.slice pA sf pc, .int .i64 (sf : Int)] _ (fun w' hS => hS.2.2) Try.underlying92 rfl info_fl2 ?_
      simp only [Act.put, List.getElem_toArray, List.getElem_cons_zero, List.getElem_cons_succ, List.setIfInBounds_toArray, List.set_cons_zero, List.set_cons_succ]
      refine wpS_do _ rfl (by rfl) (fun KK hK => ?_)
      go_simp
      refine hK.out _ _ ⟨hsn.2.1, hsn.2.2.1, range_of_row (cs := [.slice pA sf pc, .int .i64 (sf : Int)]) RD.out⟩ (fun hS' => ?_)
      clear hS' hK
      refine wpS_do _ rfl (by rfl) (fun KK hK => ?_)
      go_simp
      refine HWT.out.mono ?_
      rintro e w7 ⟨A7, c7, rfl, ho7⟩
      dsimp only
      have HO7 := Lib.hid ho7
      have HB7 : Hid (Below WD.heap.size WD w7) := Lib.hid ⟨ho7.bel.os, ho7.bel.tape, ho7.bel.output, ho7.bel.size, ho7.bel.block⟩
      have HBR7 : Hid (Below wr.heap.size wr w7) := Lib.hid (BD.out.trans (HB7.out.mono BD.out.size))
      have hs7 := HSX.out _ HBR7.out
      have HG7 : Hid (w7.heap[g]? = some (.cells #[.slice (some ⟨bf, of_, none⟩) nf fc, .slice (some ⟨bn, on_, none⟩) n nc, v2, v3, v4, v5, v6] 50 (0, 0))) := Lib.hid ((HB7.out.block _ (Array.getElem?_eq_some_iff.1 HGD.out).1).trans HGD.out)
      have HR7 : Hid (w7.heap[gf]? = some (.cells #[.slice pA sf pc, .int .i64 (sf : Int)] 92 (0, 0))) := Lib.hid ((HB7.out.block _ (Array.getElem?_eq_some_iff.1 RD.out).1).trans RD.out)
      refine hK.out _ _ ⟨hs7.2.1, hs7.2.2.1, range_of_row (cs := [.slice pA sf pc, .int .i64 (sf : Int)]) HR7.out⟩ (fun hS' => ?_)
      clear hS' hK ho7
      (first | (refine wpS_pass _ rfl (by rfl) ?_; simp only [Act.put, List.getElem_toArray, List.getElem_cons_zero, List.getElem_cons_succ, List.setIfInBounds_toArray, List.set_cons_zero, List.set_cons_succ]) | (refine wpS_take _ ?_ rfl (by rfl) ?_ ?_; rotate_left; (focus (intro w' hS'; (try dsimp only at hS'); (repeat (have hS1 := hS'.1; replace hS' := hS'.2)); go_simp; (try with_reducible rfl); done)); simp only [Act.put, List.getElem_toArray, List.getElem_cons_zero, List.getElem_cons_succ, List.setIfInBounds_toArray, List.set_cons_zero, List.set_cons_succ]))
      have hr8 : (w7.setCell ⟨g, 0, none⟩ (.slice A7 nf c7)).heap[g]? = some (.cells #[.slice A7 nf c7, .slice (some ⟨bn, on_, none⟩) n nc, v2, v3, v4, v5, v6] 50 (0, 0)) := by
        have h9 := row_set HG7.out 0 (.slice A7 nf c7)
        simpa using h9
      refine wpS_store_cell _ rfl (by rfl) 46 _ _ rfl g 0 rfl (.slice A7 nf c7) rfl rfl (.slice (some ⟨bf, of_, none⟩) nf fc) (row_cell HG7.out 0) (row_free HG7.out 0) (by kernel_rfl) ?_ ?_
      · refine ⟨row_cell hr8 1, ?_, fun x u hu => ?_⟩
        · rw [World.cell?_setCell_far _ _ _ _ (by dsimp only; exact fun e => HBNG.out e.symm)]
          exact hs7.2.2.1
        · rw [World.cell?_setCell_far _ _ _ _ (by dsimp only; have := HGL.out; have := HGF.out; omega)]
          exact range_of_row (cs := [.slice pA sf pc, .int .i64 (sf : Int)]) HR7.out x u hu
      simp only [Act.put, List.getElem_toArray, List.getElem_cons_zero, List.getElem_cons_succ, List.setIfInBounds_toArray, List.set_cons_zero, List.set_cons_succ]
      refine wpS_done ?_
      have HN : Hid (CutSt FP K L g R m keep v2 v3 v4 v5 v6 nf n nc na w w0 (w7.setCell ⟨g, 0, none⟩ (.slice A7 nf c7)) (i + 1) (a + 1) (fs.set f (⟨pA, pc, pbs.take sf⟩, sf)) A7 c7 (fl.set f ⟨pbs.take sf, sf⟩)) := Lib.hid (by
        have hi := HI.out
        have hf2 : Frm (fun b => b = g) w7 (w7.setCell ⟨g, 0, none⟩ (.slice A7 nf c7)) := Frm.of_cell rfl
        have hfg : ∀ b, b = g → FP b := fun b hb => by rw [hb]; exact HFP.out.1
        have hsz := hi.frm.size
        have hszD := BD.out.size
        refine ⟨by rw [HNA.out]; exact hr8, bel_grown (hi.bel.trans (HBR7.out.mono hi.bel.size)) (Nat.le_trans hi.bel.size HBR7.out.size) (grown_set g 0 _) hgw, (hi.frm.trans (Frm.of_below (F := fun b => b = g) HBR7.out) (fun i hi => .inl hi)).trans hf2 (fun i hi => .inl hi), ?_, ?_, HCN.out⟩
        · have h1 : RdF FP w7 A7 (filesC (fs.set f (⟨pA, pc, pbs.take sf⟩, sf))) := fresh_rdf (w := WD.drew) HO7.out.rd HO7.out.addr (fun b hb => by have := HFP.out.2 b hb; show b < WD.heap.size; omega)
          have h2 := (hi.rin.below HBR7.out).frm hf2 hfg
          have h3 := h2.rb _ HMEM.out
          have h4 := h2.setf (c := c7) (fi := f) (p := (⟨pA, pc, pbs.take sf⟩, sf)) (h1.frm hf2 hfg) ⟨by have h5 := h3.1.take sf; rw [← b8s_take] at h5; exact h5, by have h5 := h3.2.1; have := HTK.out; have := HPN.out; dsimp only at h5 ⊢; omega, h3.2.2⟩
          exact h4
        · exact hi.fit.setF f ⟨pbs.take sf, sf⟩ ⟨by have := HTK.out; have := HPL.out; have := HQP.out; dsimp only; omega, by have := HTK.out; dsimp only; omega⟩)
      clear hr8 HO7 HB7 HBR7 hs7 HG7 HR7 cD0 hsn HWT HGD
      generalize w7.setCell ⟨g, 0, none⟩ (.slice A7 nf c7) = W8 at *
      go_wp2_with fail
      rw [← HNA.out]
      go_roundg (n - (i + 1))
      case measure => omega
      case rel => exact ⟨i + 1, a + 1, _, A7, c7, _, by omega, by omega, rfl, by first | rfl | exact congrArg (Value.int .i64) (by omega) | go_num, by first | rfl | exact congrArg (Value.int .i64) (by omega) | go_num, HN⟩
  · obtain rfl : i = n := by omega
    have cz1 : wr.cell? ⟨g, 1, none⟩ = some (.slice na i nc) := row_cell HI.out.row 1
    go_wp2_with fail
    exact HEX.out _ _ _ _ _ _ _ _ _ _ _ _ _ _ _ _ _ _ _ _ _ _ _ _ _ _ _ _ _ _ _ _ _ _ _ _ _ _ _ _ _ _ _ _ _ _ _ _ _ _ _ _ _ _ _ _ _ _ _ _ _ _ _ _ _ _ _ _ _ _ _ HI.out
end Go.Proofs.Ytpmifpblamjclaa
