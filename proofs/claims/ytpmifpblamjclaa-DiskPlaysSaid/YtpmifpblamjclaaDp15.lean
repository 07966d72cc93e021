
/- The document's disk: Crash: the turns that were made. (Printed by wip/genDp15.py.) -/

import Derived.Test.YtpmifpblamjclaaDp14

namespace Go.Proofs.Ytpmifpblamjclaa

set_option linter.unusedVariables false

set_option linter.unusedSimpArgs false

set_option linter.unusedSectionVars false

open Go.RowKit

theorem foldN_ne : ∀ (ts : List TM) {ns : NM}, (∀ p ∈ ns, p.1 ≠ []) → ∀ p ∈ ts.foldl doN ns, p.1 ≠ []
  | [], _, h => h
  | t :: ts, _, h => foldN_ne ts (doN_ne h t)
theorem turnR_form (t : TM) : turnR t = [.string ⟨t.fr.toArray⟩, .string ⟨t.to_.toArray⟩, .int .i64 (t.f : Int)] := rfl
noncomputable def rcBlk (n : Nat) : Code := ((Try.f26.body.bind (findBlk n)).getD .skip)

set_option maxRecDepth 1000000 in
set_option maxHeartbeats 8000000 in
theorem rc_turns {u0 u1 u2 u4 u5 u6 u9 u10 u11 u12 u13 u14 u15 u16 u17 u18 u19 u20 u21 u22 u23 u24 u25 u26 u27 u28 u29 u30 u31 u32 u33 u34 u35 u36 u37 u38 u39 u40 u41 u42 u43 u44 u45 u46 u47 u48 u49 u50 u51 u52 u53 u54 u55 u56 u57 u58 u59 u60 u61 u62 u63 u64 u65 u66 u67 u68 u69 u70 u71 u72 u73 u74 u75 u76 u77 u78 u79 u80 u81 u82 u83 u84 u85 u86 u87 u88 u89 u90 u91 u92 u93 u94 u95 u96 u97 u98 u99 u100 : Value} (g k nt tc : Nat) (ta : Option Addr) (v0 v1 v4 v5 v6 : Value) (ts : List TM) (ns0 : NM) (Sa : Option Addr) (sn sc : Nat) (w wr : World) (FP : Nat → Prop)
    (hg : wr.heap[g]? = some (.cells #[v0, v1, .slice Sa sn sc, .slice ta nt tc, v4, v5, v6] 50 (0, 0))) (hgw : w.heap.size ≤ g) (hb : Below w.heap.size w wr)
    (hsn : ns0.length = sn ∧ sn + nt ≤ 998) (hts : ts.length = nt) (hk : k ≤ nt) (hne : ∀ p ∈ ns0, p.1 ≠ []) (hr : ∀ W, Below w.heap.size w W → Rd W ta (turnsR ts)) (hFP : FP g ∧ ∀ b, FP b → b < wr.heap.size) (hA : RdF FP wr Sa (namesR ns0)) (Q : Exit → Act → World → Prop)
    (hexit : ∀ (x8 x21 x22 x23 x24 x25 x26 x27 x28 x29 x30 x31 x32 x33 x34 : Value) (A : Option Addr) (n c : Nat) (wx : World), (wx.heap[g]? = some (.cells #[v0, v1, .slice A n c, .slice ta nt tc, v4, v5, v6] 50 (0, 0)) ∧ Below w.heap.size w wx ∧ Frm (fun b => b = g) wr wx ∧ RdF FP wx A (namesR ((ts.take k).foldl doN ns0)) ∧ n = ((ts.take k).foldl doN ns0).length) → Q .normal ⟨#[u0, u1, u2, .pointer (some ⟨g, 0, none⟩), u4, u5, u6, .int .i64 (k : Int), x8, u9, u10, u11, u12, u13, u14, u15, u16, u17, u18, u19, u20, x21, x22, x23, x24, x25, x26, x27, x28, x29, x30, x31, x32, x33, x34, u35, u36, u37, u38, u39, u40, u41, u42, u43, u44, u45, u46, u47, u48, u49, u50, u51, u52, u53, u54, u55, u56, u57, u58, u59, u60, u61, u62, u63, u64, u65, u66, u67, u68, u69, u70, u71, u72, u73, u74, u75, u76, u77, u78, u79, u80, u81, u82, u83, u84, u85, u86, u87, u88, u89, u90, u91, u92, u93, u94, u95, u96, u97, u98, u99, u100], []⟩ wx) :
    Code.wp Try.prog (rcBlk 0) Q ⟨#[u0, u1, u2, .pointer (some ⟨g, 0, none⟩), u4, u5, u6, .int .i64 (k : Int), .int .i64 0, u9, u10, u11, u12, u13, u14, u15, u16, u17, u18, u19, u20, u21, u22, u23, u24, u25, u26, u27, u28, u29, u30, u31, u32, u33, u34, u35, u36, u37, u38, u39, u40, u41, u42, u43, u44, u45, u46, u47, u48, u49, u50, u51, u52, u53, u54, u55, u56, u57, u58, u59, u60, u61, u62, u63, u64, u65, u66, u67, u68, u69, u70, u71, u72, u73, u74, u75, u76, u77, u78, u79, u80, u81, u82, u83, u84, u85, u86, u87, u88, u89, u90, u91, u92, u93, u94, u95, u96, u97, u98, u99, u100], []⟩ wr := by
  have HEX := Lib.hid hexit
  clear hexit
  conv => arg 2; whnf
  have HR := Lib.hid hr
  have HNE := Lib.hid hne
  have HTS := Lib.hid hts
  have HFP := Lib.hid hFP
  have HSN := Lib.hid hsn
  obtain ⟨w0, hw0⟩ : ∃ x, x = wr := ⟨_, rfl⟩
  subst hw0
  have H0 : Hid (w0.heap[g]? = some (.cells #[v0, v1, .slice Sa sn sc, .slice ta nt tc, v4, v5, v6] 50 (0, 0)) ∧ Below w.heap.size w w0 ∧ Frm (fun b => b = g) w0 w0 ∧ RdF FP w0 Sa (namesR ((ts.take 0).foldl doN ns0)) ∧ sn = ((ts.take 0).foldl doN ns0).length) := Lib.hid ⟨hg, hb, Frm.refl _ _, hA, hsn.1.symm⟩
  have hs98 := hsn.2
  clear hg hb hsn hts hne hr hFP hA
  go_wp2_with fail
  go_loopg [8] (k * 1) (fun gk_ iv wr => ∃ (j : Nat) (A : Option Addr) (n c : Nat), j ≤ k ∧ gk_ = k - j ∧ iv = .int .i64 (j : Int) ∧ n ≤ sn + j ∧ Hid (wr.heap[g]? = some (.cells #[v0, v1, .slice A n c, .slice ta nt tc, v4, v5, v6] 50 (0, 0)) ∧ Below w.heap.size w wr ∧ Frm (fun b => b = g) w0 wr ∧ RdF FP wr A (namesR ((ts.take j).foldl doN ns0)) ∧ n = ((ts.take j).foldl doN ns0).length))
  case atStart => exact ⟨0, Sa, sn, sc, by omega, by omega, rfl, by omega, H0⟩
  case round =>
  clear H0
  obtain ⟨j, A, n, c, hj, rfl, rfl, hnj, HI⟩ := hrel
  by_cases hlt : j < k
  · have i1 : (j : Int) < (k : Int) := by omega
    have i2 : (j : Int) < (nt : Int) := by omega
    have hlt' : j < ts.length := by rw [HTS.out]; omega
    obtain ⟨t, ht⟩ : ∃ t, ts[j] = t := ⟨_, rfl⟩
    obtain ⟨sm, hsm⟩ : ∃ sm, (ts.take j).foldl doN ns0 = sm := ⟨_, rfl⟩
    have HNX : Hid ((ts.take (j + 1)).foldl doN ns0 = doN sm t) := Lib.hid (by rw [List.take_succ_eq_append_getElem hlt', List.foldl_append, hsm, ht]; rfl)
    have HSE : Hid (∀ p ∈ sm, p.1 ≠ []) := Lib.hid (by rw [← hsm]; exact foldN_ne _ HNE.out)
    rw [hsm] at HI
    obtain ⟨b, o, hA, _⟩ := (HR.out _ HI.out.2.1).all (by rw [turnsR_len]; omega)
    have hrow := rd_flat (f := turnR) (m := 3) (by have := HR.out _ HI.out.2.1; rw [hA] at this; exact this) (fun _ _ => rfl) j hlt'
    rw [ht, turnR_form] at hrow
    have HA := Lib.hid hA
    rw [hA] at HI
    obtain ⟨X, hX⟩ : ∃ X : ByteArray, (⟨t.fr.toArray⟩ : ByteArray) = X := ⟨_, rfl⟩
    obtain ⟨Y, hY⟩ : ∃ X : ByteArray, (⟨t.to_.toArray⟩ : ByteArray) = X := ⟨_, rfl⟩
    obtain ⟨f, hf⟩ : ∃ f, t.f = f := ⟨_, rfl⟩
    rw [hX, hY, hf] at hrow
    have HT : Hid (doD sm X.data.toList Y.data.toList f = doN sm t) := Lib.hid (by
      rw [← doD_do HSE.out t, ← hX, ← hY, hf])
    have HRW := Lib.hid hrow
    have HDO := Lib.hid (rdo_any A sm n c HI.out.2.2.2.2.symm (by omega) X Y f wr.drew HI.out.2.2.2.1.1.drew)
    have c2 : wr.cell? ⟨g, 2, none⟩ = some (.slice A n c) := row_cell HI.out.1 2
    have c3 : wr.cell? ⟨g, 3, none⟩ = some (.slice (some ⟨b, o, none⟩) nt tc) := row_cell HI.out.1 3
    have HGL := Lib.hid (Array.getElem?_eq_some_iff.1 HI.out.1).1
    have HLN : Hid ((doN sm t).length ≤ sm.length + 1) := Lib.hid (doN_len _ _)
    clear hlt' ht hsm hA hrow hX hY hf
    go_wp2_with fail
    refine wp_region_sched (fun w' => w'.cell? ⟨g, 3, none⟩ = some (.slice (some ⟨b, o, none⟩) nt tc) ∧ w'.rangeAt b (o + j * 3) [.string X, .string Y, .int .i64 (f : Int)]) [(true, 0), (true, 2), (true, 3), (true, 4), (true, 5), (true, 6), (false, 1), (false, 7), (true, 8), (false, 9)] (by kernel_rfl) (by kernel_rfl) rfl (by kernel_rfl) ⟨c3, HRW.out⟩ ?_
    (first | (refine wpS_pass _ rfl (by rfl) ?_; simp only [Act.put, List.getElem_toArray, List.getElem_cons_zero, List.getElem_cons_succ, List.setIfInBounds_toArray, List.set_cons_zero, List.set_cons_succ]) | (refine wpS_take _ ?_ rfl (by rfl) ?_ ?_; rotate_left; (focus (intro w' hS'; (try dsimp only at hS'); (repeat (have hS1 := hS'.1; replace hS' := hS'.2)); go_simp; (try with_reducible rfl); done)); simp only [Act.put, List.getElem_toArray, List.getElem_cons_zero, List.getElem_cons_succ, List.setIfInBounds_toArray, List.set_cons_zero, List.set_cons_succ]))
    (first | (refine wpS_pass _ rfl (by rfl) ?_; simp only [Act.put, List.getElem_toArray, List.getElem_cons_zero, List.getElem_cons_succ, List.setIfInBounds_toArray, List.set_cons_zero, List.set_cons_succ]) | (refine wpS_take _ ?_ rfl (by rfl) ?_ ?_; rotate_left; (focus (intro w' hS'; (try dsimp only at hS'); (repeat (have hS1 := hS'.1; replace hS' := hS'.2)); go_simp; (try with_reducible rfl); done)); simp only [Act.put, List.getElem_toArray, List.getElem_cons_zero, List.getElem_cons_succ, List.setIfInBounds_toArray, List.set_cons_zero, List.set_cons_succ]))
    (first | (refine wpS_pass _ rfl (by rfl) ?_; simp only [Act.put, List.getElem_toArray, List.getElem_cons_zero, List.getElem_cons_succ, List.setIfInBounds_toArray, List.set_cons_zero, List.set_cons_succ]) | (refine wpS_take _ ?_ rfl (by rfl) ?_ ?_; rotate_left; (focus (intro w' hS'; (try dsimp only at hS'); (repeat (have hS1 := hS'.1; replace hS' := hS'.2)); go_simp; (try with_reducible rfl); done)); simp only [Act.put, List.getElem_toArray, List.getElem_cons_zero, List.getElem_cons_succ, List.setIfInBounds_toArray, List.set_cons_zero, List.set_cons_succ]))
    (first | (refine wpS_pass _ rfl (by rfl) ?_; simp only [Act.put, List.getElem_toArray, List.getElem_cons_zero, List.getElem_cons_succ, List.setIfInBounds_toArray, List.set_cons_zero, List.set_cons_succ]) | (refine wpS_take _ ?_ rfl (by rfl) ?_ ?_; rotate_left; (focus (intro w' hS'; (try dsimp only at hS'); (repeat (have hS1 := hS'.1; replace hS' := hS'.2)); go_simp; (try with_reducible rfl); done)); simp only [Act.put, List.getElem_toArray, List.getElem_cons_zero, List.getElem_cons_succ, List.setIfInBounds_toArray, List.set_cons_zero, List.set_cons_succ]))
    (first | (refine wpS_pass _ rfl (by rfl) ?_; simp only [Act.put, List.getElem_toArray, List.getElem_cons_zero, List.getElem_cons_succ, List.setIfInBounds_toArray, List.set_cons_zero, List.set_cons_succ]) | (refine wpS_take _ ?_ rfl (by rfl) ?_ ?_; rotate_left; (focus (intro w' hS'; (try dsimp only at hS'); (repeat (have hS1 := hS'.1; replace hS' := hS'.2)); go_simp; (try with_reducible rfl); done)); simp only [Act.put, List.getElem_toArray, List.getElem_cons_zero, List.getElem_cons_succ, List.setIfInBounds_toArray, List.set_cons_zero, List.set_cons_succ]))
    refine wpS_load _ rfl (by rfl) 90 _ rfl b (o + j * 3) rfl [.string X, .string Y, .int .i64 (f : Int)] _ (fun w' hS => hS.2) Try.underlying90 rfl info_tn3 ?_
    simp only [Act.put, List.getElem_toArray, List.getElem_cons_zero, List.getElem_cons_succ, List.setIfInBounds_toArray, List.set_cons_zero, List.set_cons_succ]
    refine wpS_do _ rfl (by rfl) (fun KK hK => ?_)
    go_simp
    refine hK.out _ _ ⟨c3, HRW.out⟩ (fun hS' => ?_)
    clear hS' hK
    refine wpS_do _ rfl (by rfl) (fun KK hK => ?_)
    go_simp
    refine HDO.out.mono ?_
    rintro e w3 ⟨A3, n3, c3', rfl, ho3⟩
    dsimp only
    have HO3 := Lib.hid ho3
    have HB3 : Hid (Below wr.heap.size wr w3) := Lib.hid ⟨ho3.bel.os, ho3.bel.tape, ho3.bel.output, ho3.bel.size, ho3.bel.block⟩
    have HG3 : Hid (w3.heap[g]? = some (.cells #[v0, v1, .slice A n c, .slice (some ⟨b, o, none⟩) nt tc, v4, v5, v6] 50 (0, 0))) := Lib.hid ((HB3.out.block _ HGL.out).trans HI.out.1)
    have HBB3 : Hid (Below w.heap.size w w3) := Lib.hid (HI.out.2.1.trans (HB3.out.mono HI.out.2.1.size))
    have e3 : w3.cell? ⟨g, 3, none⟩ = some (.slice (some ⟨b, o, none⟩) nt tc) := row_cell HG3.out 3
    have HRW3 : Hid (w3.rangeAt b (o + j * 3) [.string X, .string Y, .int .i64 (f : Int)]) := Lib.hid (range_below HRW.out (World.block_lt_of_cell? wr _ (HRW.out 0 _ rfl)) HB3.out)
    refine hK.out _ _ ⟨e3, HRW3.out⟩ (fun hS' => ?_)
    clear hS' hK ho3 c2 c3
    (first | (refine wpS_pass _ rfl (by rfl) ?_; simp only [Act.put, List.getElem_toArray, List.getElem_cons_zero, List.getElem_cons_succ, List.setIfInBounds_toArray, List.set_cons_zero, List.set_cons_succ]) | (refine wpS_take _ ?_ rfl (by rfl) ?_ ?_; rotate_left; (focus (intro w' hS'; (try dsimp only at hS'); (repeat (have hS1 := hS'.1; replace hS' := hS'.2)); go_simp; (try with_reducible rfl); done)); simp only [Act.put, List.getElem_toArray, List.getElem_cons_zero, List.getElem_cons_succ, List.setIfInBounds_toArray, List.set_cons_zero, List.set_cons_succ]))
    have hr4 : (w3.setCell ⟨g, 2, none⟩ (.slice A3 n3 c3')).heap[g]? = some (.cells #[v0, v1, .slice A3 n3 c3', .slice (some ⟨b, o, none⟩) nt tc, v4, v5, v6] 50 (0, 0)) := by
      have h9 := row_set HG3.out 2 (.slice A3 n3 c3')
      simpa using h9
    have HBG : Hid (b ≠ g) := Lib.hid (by
      rintro rfl
      obtain ⟨cs, t, fz, h1⟩ : ∃ cs t fz, w3.heap[b]? = some (.cells cs t fz) := ⟨_, _, _, HG3.out⟩
      have h2 := (HR.out w (Below.refl _ _)).all (by rw [turnsR_len, HTS.out]; omega)
      obtain ⟨b', o', hA', _⟩ := h2
      have h3 := HR.out w (Below.refl _ _)
      rw [HA.out] at h3
      have := h3.lt (by rw [turnsR_len, HTS.out]; omega)
      omega)
    refine wpS_store_cell _ rfl (by rfl) 47 _ _ rfl g 2 rfl (.slice A3 n3 c3') rfl rfl (.slice A n c) (row_cell HG3.out 2) (row_free HG3.out 2) (by kernel_rfl) ?_ ?_
    · refine ⟨row_cell hr4 3, fun i u hu => ?_⟩
      rw [World.cell?_setCell_far _ _ _ _ (by dsimp only; exact fun e => HBG.out e.symm)]
      exact HRW3.out i u hu
    simp only [Act.put, List.getElem_toArray, List.getElem_cons_zero, List.getElem_cons_succ, List.setIfInBounds_toArray, List.set_cons_zero, List.set_cons_succ]
    refine wpS_done ?_
    have HI4 : Hid ((w3.setCell ⟨g, 2, none⟩ (.slice A3 n3 c3')).heap[g]? = some (.cells #[v0, v1, .slice A3 n3 c3', .slice ta nt tc, v4, v5, v6] 50 (0, 0)) ∧ Below w.heap.size w (w3.setCell ⟨g, 2, none⟩ (.slice A3 n3 c3')) ∧ Frm (fun b => b = g) w0 (w3.setCell ⟨g, 2, none⟩ (.slice A3 n3 c3')) ∧ RdF FP (w3.setCell ⟨g, 2, none⟩ (.slice A3 n3 c3')) A3 (namesR ((ts.take (j + 1)).foldl doN ns0)) ∧ n3 = ((ts.take (j + 1)).foldl doN ns0).length) := Lib.hid (by
      have hf2 : Frm (fun b => b = g) w3 (w3.setCell ⟨g, 2, none⟩ (.slice A3 n3 c3')) := Frm.of_cell rfl
      have hsz := HI.out.2.2.1.size
      refine ⟨by rw [HA.out]; exact hr4, bel_grown HBB3.out HBB3.out.size (grown_set g 2 _) hgw, (HI.out.2.2.1.trans (Frm.of_below (F := fun b => b = g) HB3.out) (fun i hi => .inl hi)).trans hf2 (fun i hi => .inl hi), ?_, ?_⟩
      · rw [HNX.out, ← HT.out]
        have h1 : RdF FP w3 A3 (namesR (doD sm X.data.toList Y.data.toList f)) := fresh_rdf (w := wr.drew) HO3.out.rd HO3.out.addr (fun b hb => Nat.lt_of_lt_of_le (HFP.out.2 b hb) hsz)
        exact h1.frm hf2 (fun b hb => by rw [hb]; exact HFP.out.1)
      · rw [HNX.out, ← HT.out]
        exact HO3.out.len)
    have hn3 : n3 ≤ sn + (j + 1) := by
      have h1 := HO3.out.len
      have h2 := HLN.out
      have h3 := HI.out.2.2.2.2
      rw [HT.out] at h1
      omega
    clear hr4 e3 HI HO3 HB3 HG3 HBB3 HRW3 HRW
    generalize w3.setCell ⟨g, 2, none⟩ (.slice A3 n3 c3') = W4 at *
    go_wp2_with fail
    go_roundg (k - (j + 1))
    case measure => omega
    case rel => exact ⟨j + 1, A3, n3, c3', by omega, rfl, by first | rfl | exact congrArg (Value.int .i64) (by omega) | go_num, hn3, HI4⟩
  · obtain rfl : j = k := by omega
    go_wp2_with fail
    exact HEX.out _ _ _ _ _ _ _ _ _ _ _ _ _ _ _ _ _ _ _ HI.out
end Go.Proofs.Ytpmifpblamjclaa
