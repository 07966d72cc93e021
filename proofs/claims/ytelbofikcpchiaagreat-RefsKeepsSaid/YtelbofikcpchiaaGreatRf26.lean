
/- RefsHead: the turns of one round. (Printed by wip/genRf26.py.) -/

import Derived.Test.YtelbofikcpchiaaGreatRf25

import Derived.Test.YtelbofikcpchiaaGreatRf23

import Derived.Deep.CutBlock

namespace Go.Proofs.YtelbofikcpchiaaGreat

set_option linter.unusedVariables false

set_option linter.unusedSimpArgs false

set_option linter.unusedSectionVars false

open Go.RowKit

noncomputable def hdBlk (n : Nat) : Code := ((Tryz.f4.body.bind (findBlk n)).getD .skip)

theorem put_mid {w : World} {g : Nat} {p q r vs : List Value} {t : TypeId} (h : w.heap[g]? = some (.cells (p ++ q ++ r).toArray t (0, 0))) (hl : q.length = vs.length) :
    ∃ W, w.setCells g p.length vs.toArray.toList = W ∧ Hid (w.there g p.length vs.toArray.size) ∧ Hid (W.heap[g]? = some (.cells (p ++ vs ++ r).toArray t (0, 0))) ∧ Hid (w.grownBy W (some g)) := by
  refine ⟨_, rfl, Lib.hid (fun j hj => ⟨?_, row_free h _⟩), Lib.hid (row_setCells vs p q r w h hl), Lib.hid (setCells_grown _ _ _ _)⟩
  rw [row_cell h]
  have : p.length + j < (p ++ q ++ r).toArray.size := by simp at hj ⊢; omega
  rw [Array.getElem?_eq_getElem this]
  rfl
def wtU (us : List UpM) : Nat := (us.map fun u => 1 + u.name.length).sum
theorem wtU_succ {us : List UpM} {i : Nat} (h : i < us.length) : wtU (us.take (i + 1)) = wtU (us.take i) + (1 + us[i].name.length) := by
  unfold wtU
  rw [← List.take_append_getElem h, List.map_append, List.sum_append]
  simp
theorem wtU_take (us : List UpM) (i : Nat) : wtU (us.take i) ≤ wtU us := by
  have h : wtU us = wtU (us.take i) + wtU (us.drop i) := by
    unfold wtU
    rw [← List.sum_append, ← List.map_append, List.take_append_drop]
  omega

set_option maxRecDepth 1000000 in
set_option maxHeartbeats 8000000 in
theorem hd_inner {u0 u1 u2 u4 u5 u6 u7 u8 u9 u10 u11 u12 u13 u14 u15 u16 u17 u18 u19 u20 u21 u22 u23 u24 u25 u26 u27 u28 u29 u30 u31 u32 u33 u34 u35 u36 u37 u38 u39 u40 u41 u42 u43 u44 u45 u46 u47 u48 u49 u50 u51 u52 u53 u54 u55 u56 u57 u58 u59 u60 u61 u62 u63 u64 u65 u66 u67 u71 u72 u73 u74 u75 u76 u77 u78 u79 u80 u81 u82 u83 u84 u85 u86 u87 u88 u89 u90 u91 u92 u93 u94 u95 u96 u97 u98 u99 u100 u101 u102 u103 u104 u105 u106 u107 u108 u109 u110 u111 u112 u113 u114 u115 u116 u117 u118 u119 u120 u121 u122 u123 u124 u125 u126 u127 u128 u129 u130 u131 : Value} (w0 : World) (g gr : Nat) (ps : List (Nat × Obj)) (B z : Nat) (r : RfM) (A : Option Addr) (n c : Nat) (us : List UpM) (HN : Hid (us.length = n)) (hn : n ≤ 1000) (HU : Hid (∀ u ∈ us, upOk u ∧ u.name.length ≤ 1000)) (HW : Hid (wtU us ≤ 1000)) (HRD : Hid (Rd w0 A (upsC us))) (hB : B ≤ 900000) (hz : z ≤ 900000) (wr : World) (HS : Hid (HdS w0 g gr ps B z wr r)) (Q : Exit → Act → World → Prop)
    (hexit : ∀ (x12 x70 x71 x72 x73 x74 x75 x76 x77 x78 x79 x80 x81 x82 x83 x84 : Value) (r1 : RfM) (wx : World), Hid (HdS w0 g gr ps (B + 31000) (z + n) wx r1) → Hid (r1.head = r.head ∧ r1.at_ = r.at_) → Q .normal ⟨#[u0, u1, u2, .pointer (some ⟨gr, 0, none⟩), u4, u5, u6, u7, u8, u9, u10, u11, x12, u13, u14, u15, u16, u17, u18, u19, u20, u21, u22, u23, u24, u25, u26, u27, u28, u29, u30, u31, u32, u33, u34, u35, u36, u37, u38, u39, u40, u41, u42, u43, u44, u45, u46, u47, u48, u49, u50, u51, u52, u53, u54, u55, u56, u57, u58, u59, u60, u61, u62, u63, u64, u65, u66, u67, .slice A n c, .int .i64 (n : Int), x70, x71, x72, x73, x74, x75, x76, x77, x78, x79, x80, x81, x82, x83, x84, u85, u86, u87, u88, u89, u90, u91, u92, u93, u94, u95, u96, u97, u98, u99, u100, u101, u102, u103, u104, u105, u106, u107, u108, u109, u110, u111, u112, u113, u114, u115, u116, u117, u118, u119, u120, u121, u122, u123, u124, u125, u126, u127, u128, u129, u130, u131], []⟩ wx) :
    Code.wp Tryz.prog (hdBlk 2) Q ⟨#[u0, u1, u2, .pointer (some ⟨gr, 0, none⟩), u4, u5, u6, u7, u8, u9, u10, u11, u12, u13, u14, u15, u16, u17, u18, u19, u20, u21, u22, u23, u24, u25, u26, u27, u28, u29, u30, u31, u32, u33, u34, u35, u36, u37, u38, u39, u40, u41, u42, u43, u44, u45, u46, u47, u48, u49, u50, u51, u52, u53, u54, u55, u56, u57, u58, u59, u60, u61, u62, u63, u64, u65, u66, u67, .slice A n c, .int .i64 (n : Int), .int .i64 0, u71, u72, u73, u74, u75, u76, u77, u78, u79, u80, u81, u82, u83, u84, u85, u86, u87, u88, u89, u90, u91, u92, u93, u94, u95, u96, u97, u98, u99, u100, u101, u102, u103, u104, u105, u106, u107, u108, u109, u110, u111, u112, u113, u114, u115, u116, u117, u118, u119, u120, u121, u122, u123, u124, u125, u126, u127, u128, u129, u130, u131], []⟩ wr := by
  have HEX := Lib.hid hexit
  clear hexit
  conv => arg 2; whnf
  go_wp2_with fail
  go_loopg [70] (n * 1) (fun gk_ iv wr => ∃ (i : Nat) (r1 : RfM), i ≤ n ∧ gk_ = n - i ∧ iv = .int .i64 (i : Int) ∧ Hid (HdS w0 g gr ps (B + 31 * wtU (us.take i)) (z + i) wr r1) ∧ Hid (r1.head = r.head ∧ r1.at_ = r.at_))
  case atStart => exact ⟨0, r, by omega, by omega, rfl, Lib.hid (HS.out.mono (by omega) (by omega)), Lib.hid ⟨rfl, rfl⟩⟩
  case round =>
  clear HS
  obtain ⟨i, r1, hi, rfl, rfl, HS, HEQ⟩ := hrel
  by_cases hlt : i < n
  · have j1 : (i : Int) < (n : Int) := by omega
    have hil : i < us.length := by rw [HN.out]; exact hlt
    have hcl : ∀ x ∈ us, (upC x).length = 65 := fun x hx => upC_len (HU.out x hx).1
    obtain ⟨u, hu⟩ : ∃ u, us[i] = u := ⟨_, rfl⟩
    have HOK : Hid (upOk u ∧ u.name.length ≤ 1000) := Lib.hid (HU.out u (by rw [← hu]; exact List.getElem_mem hil))
    have HWT : Hid (wtU (us.take (i + 1)) = wtU (us.take i) + (1 + u.name.length)) := Lib.hid (by rw [wtU_succ hil, hu])
    have HWL : Hid (wtU (us.take (i + 1)) ≤ 1000) := Lib.hid (Nat.le_trans (wtU_take us (i + 1)) HW.out)
    have hrd := HRD.out.below HS.out.bel
    obtain ⟨b, o, hA, _⟩ := hrd.all (by unfold upsC; rw [flat_length us hcl, HN.out]; omega)
    rw [hA] at hrd
    have hrow := rd_flat (f := upC) (m := 65) hrd hcl i hil
    rw [hu] at hrow
    have HRW := Lib.hid hrow
    subst hA
    obtain ⟨gu, hgu⟩ : ∃ x, wr.heap.size = x := ⟨_, rfl⟩
    obtain ⟨WA, hWA⟩ : ∃ W, wr.alloc (.cells Tryz.zeroCells31 31) = W := ⟨_, rfl⟩
    obtain ⟨rA, bA, sA⟩ := new_row hWA
    rw [hgu, upZ_eq] at rA
    obtain ⟨WB, hWB, TB, RB, GB⟩ := put_rowR (new := upC u) rA (by rw [upC_len HOK.out.1]; rfl)
    have HWB := Lib.hid hWB
    have BB : Hid (Below wr.heap.size wr WB) := Lib.hid (bel_grown bA bA.size GB.out (by omega))
    have HSB := Lib.hid (HS.out.below BB.out)
    have HIL := Lib.hid (info_upl HOK.out.1)
    have HIA := Lib.hid (info_upa HOK.out.1)
    have HOC : Hid ((upC u).toArray.all (·.oneCell') = true) := Lib.hid (all_oneCell_toArray (upC_one u))
    obtain ⟨Y, hY, hYs⟩ : ∃ Y : ByteArray, strV u.name = .string Y ∧ Y.data.toList = u.name := ⟨_, rfl, rfl⟩
    have hYm : Y.size ≤ 140737488355328 := by
      have h1 := size_toList Y
      rw [hYs] at h1
      have := HOK.out.1.2.2
      omega
    have cu0 : WB.cell? ⟨gu, 0, none⟩ = some (.string Y) := by
      have h1 := (up_cells RB.out HOK.out.1).1
      rw [hY] at h1
      exact h1
    obtain ⟨id, hid⟩ : ∃ id, getA r1.all Y.data.toList = id := ⟨_, rfl⟩
    have HIDL : Hid (id.length = 32) := Lib.hid (by rw [← hid]; exact getA_len HS.out.ok.ids _)
    have HGT := Lib.hid (by
      obtain ⟨_, _, _, _, h1, _⟩ := HSB.out.ex
      exact get_any h1.dr.refs h1.ok Y (by unfold maxLen; omega))
    rw [hid] at HGT
    have HRB : Hid (WB.heap[gu]? = some (.cells ([strV u.name] ++ b8s u.old ++ b8s u.new).toArray 31 (0, 0))) := Lib.hid (by have h1 := RB.out; simpa [upC] using h1)
    obtain ⟨la, hla⟩ : ∃ l, upC u = l := ⟨_, rfl⟩
    rw [hla] at HRW HIL HIA HOC HWB TB
    have HGU := Lib.hid hgu
    clear hil hu hrd hrow rA bA sA hWB hY hYs hla hid hcl RB GB
    go_wp2_with (first
      | ((with_reducible (refine wpList_load_cells 31 _ b (o + i * 65) (la) HRW.out Tryz.underlying31 rfl HIL.out ?_ rfl ?_ ?_)); (exact rfl); (exact rfl))
      | ((with_reducible (refine wpList_store_mid rfl _ _ _ rfl ?_ ?_ ?_ ?_ ?_ ?_ ?_ ?_ ?_)); (exact gu); (exact 0); (exact (la).toArray); (exact rfl); (exact rfl); (exact TB.out); (exact HIA.out); (exact HOC.out); rw [HWB.out]))
    refine HGT.out.mono ?_
    rintro e w3 ⟨rfl, hb3⟩
    clear hWA cu0
    have HRC : Hid (w3.heap[gu]? = some (.cells ([strV u.name] ++ b8s u.old ++ b8s u.new).toArray 31 (0, 0))) := Lib.hid ((hb3.block _ (Array.getElem?_eq_some_iff.1 HRB.out).1).trans HRB.out)
    obtain ⟨W4, hW4, T4, R4, G4⟩ := put_mid (vs := b8s id) HRC.out (by rw [b8s_length, b8s_length, HOK.out.1.1, HIDL.out])
    obtain ⟨u', hu'⟩ : ∃ u' : UpM, u' = ⟨u.name, id, u.new⟩ := ⟨_, rfl⟩
    have HOK' : Hid (upOk u' ∧ u'.name.length = u.name.length) := Lib.hid (by rw [hu']; exact ⟨⟨HIDL.out, HOK.out.1.2.1, HOK.out.1.2.2⟩, rfl⟩)
    have HR4 : Hid (W4.heap[gu]? = some (.cells (upC u').toArray 31 (0, 0))) := Lib.hid (by rw [hu']; have h1 := R4.out; simpa [upC] using h1)
    have B4 : Hid (Below wr.heap.size wr W4) := Lib.hid (bel_grown (BB.out.trans (hb3.mono BB.out.size)) (BB.out.trans (hb3.mono BB.out.size)).size G4.out (by rw [HGU.out]; exact Nat.le_refl _))
    obtain ⟨p5, hp5⟩ : ∃ x, W4.heap.size = x := ⟨_, rfl⟩
    obtain ⟨W5, hW5⟩ : ∃ W, W4.alloc (.cells (upC u').toArray 31) = W := ⟨_, rfl⟩
    obtain ⟨r5, b5, s5⟩ := new_row hW5
    rw [hp5] at r5
    have B5 : Hid (Below wr.heap.size wr W5) := Lib.hid (B4.out.trans (b5.mono B4.out.size))
    have HRD5 : Hid (Rd W5 (some ⟨p5, 0, none⟩) (upsC [u'])) := Lib.hid (by
      have e : upsC [u'] = upC u' := by simp [upsC]
      rw [e]
      exact range_rd (range_of_row r5))
    have HP5 : Hid (wr.heap.size ≤ p5) := Lib.hid (by rw [← hp5]; exact B4.out.size)
    have HDO := Lib.hid (HS.out.do1 B5.out HP5.out HOK'.out.1 (by rw [HOK'.out.2]; exact HOK.out.2) HRD5.out (by have := HWT.out; have := HWL.out; omega) (by omega))
    have HTB : Hid (Tryz.prog.built 28 [(0, .slice (some ⟨p5, 0, none⟩) 1 1)] = some (txC (some ⟨p5, 0, none⟩) 1 1 (tx1 u')).toArray) := Lib.hid (tx_built _ _ _)
    have HIB : Hid ((Tryz.prog.info? 31).map (fun i => (i.size, i.zero.isSome)) = some ((upC u').length, true)) := Lib.hid (by rw [upC_len HOK'.out.1]; kernel_rfl)
    have HUL := Lib.hid (upC_len HOK'.out.1)
    have HIL4 := Lib.hid (info_upl HOK'.out.1)
    have HR4R := Lib.hid (range_of_row HR4.out)
    have HII := Lib.hid (info_ida id HIDL.out)
    have HOI : Hid ((b8s id).toArray.all (·.oneCell') = true) := Lib.hid (all_oneCell_toArray (b8s_one' _))
    have HW4 : Hid (w3.setCells gu 1 (b8s id).toArray.toList = W4) := Lib.hid hW4
    have HT4 : Hid (w3.there gu 1 (b8s id).toArray.size) := Lib.hid T4.out
    have HL2 : Hid ((txC (some ⟨p5, 0, none⟩) 1 1 (tx1 u')).toArray = #[Value.slice (some ⟨p5, 0, none⟩) 1 1, Value.string ⟨#[]⟩, Value.int .u8 0, Value.int .u8 0, Value.int .u8 0, Value.int .u8 0, Value.int .u8 0, Value.int .u8 0, Value.int .u8 0, Value.int .u8 0, Value.int .u8 0, Value.int .u8 0, Value.int .u8 0, Value.int .u8 0, Value.int .u8 0, Value.int .u8 0, Value.int .u8 0, Value.int .u8 0, Value.int .u8 0, Value.int .u8 0, Value.int .u8 0, Value.int .u8 0, Value.int .u8 0, Value.int .u8 0, Value.int .u8 0, Value.int .u8 0, Value.int .u8 0, Value.int .u8 0, Value.int .u8 0, Value.int .u8 0, Value.int .u8 0, Value.int .u8 0, Value.int .u8 0, Value.int .u8 0]) := Lib.hid rfl
    obtain ⟨lb, hlb⟩ : ∃ l, upC u' = l := ⟨_, rfl⟩
    obtain ⟨ls, hls⟩ : ∃ l, b8s id = l := ⟨_, rfl⟩
    obtain ⟨lt, hlt'⟩ : ∃ l, txC (some ⟨p5, 0, none⟩) 1 1 (tx1 u') = l := ⟨_, rfl⟩
    rw [hlb] at hW5 HIB HUL HIL4 HR4R
    rw [hls] at HII HOI HW4 HT4 ⊢
    rw [hlt'] at HTB HDO HL2
    clear hb3 hW4 hu' r5 b5 s5 hlb hls hlt' T4 R4
    go_wp2_with (first
      | ((with_reducible (refine wpList_store_mid rfl _ _ _ rfl ?_ ?_ ?_ ?_ ?_ ?_ ?_ ?_ ?_)); (exact gu); (exact 1); (exact (ls).toArray); (exact rfl); (exact rfl); (exact HT4.out); (exact HII.out); (exact HOI.out); rw [HW4.out])
      | ((with_reducible (refine wpList_load_cells 31 _ gu 0 (lb) HR4R.out Tryz.underlying31 rfl HIL4.out ?_ rfl ?_ ?_)); (exact rfl); (exact rfl))
      | (refine wpList_build1 rfl 26 31 _ rfl lb rfl Tryz.underlying26 HIB.out (by rw [HUL.out]; omega) (by rw [HUL.out]; omega) ?_)
      | ((with_reducible (refine wpList_built ?_ _ #[(0, .tmp 81)] ?_ _ ?_ _ HTB.out ?_)); (exact rfl); (exact rfl); (exact rfl)))
    rw [← HL2.out]
    refine HDO.out.mono ?_
    rintro e w6 ⟨v, r2, rfl, hs6, hh6, ha6⟩
    have HS6 := Lib.hid hs6
    have HEQ6 : Hid (r2.head = r.head ∧ r2.at_ = r.at_) := Lib.hid ⟨hh6.trans HEQ.out.1, ha6.trans HEQ.out.2⟩
    clear hs6 hh6 ha6 hW5 hp5
    go_wp2_with fail
    go_roundg (n - (i + 1))
    case measure => omega
    case rel => exact ⟨i + 1, r2, by omega, rfl, by first | rfl | exact congrArg (Value.int .i64) (by omega) | go_num, Lib.hid (HS6.out.mono (by rw [HWT.out, HOK'.out.2]; omega) (by omega)), HEQ6⟩
  · obtain rfl : i = n := by omega
    have HFI : Hid (HdS w0 g gr ps (B + 31000) (z + i) wr r1) := Lib.hid (HS.out.mono (by have := wtU_take us i; have := HW.out; omega) (Nat.le_refl _))
    go_wp2_with fail
    exact HEX.out _ _ _ _ _ _ _ _ _ _ _ _ _ _ _ _ r1 _ HFI HEQ
end Go.Proofs.YtelbofikcpchiaaGreat
