
/- Two letters, the same or not. -/

import Derived.Test.YtfjfidhhmidflaaLet6

namespace Go.Proofs.Ytfjfidhhmidflaa

set_option linter.unusedVariables false

set_option linter.unusedSimpArgs false

open Go.RowKit

def sameL (a b : Lt) : Bool := (a.kind == b.kind) && (a.from_ == b.from_) && (a.to_ == b.to_) && (a.session == b.session) && decide (a.refs = b.refs) && decide (a.wants = b.wants) && decide (a.haves = b.haves) && (a.off == b.off) && (a.total == b.total) && decide (a.pack = b.pack) && decide (a.data = b.data)
theorem sameL_iff (a b : Lt) : sameL a b = true ↔ a = b := by
  obtain ⟨a0, a1, a2, a3, a4, a5, a6, a7, a8, a9, a10⟩ := a
  obtain ⟨b0, b1, b2, b3, b4, b5, b6, b7, b8, b9, b10⟩ := b
  simp [sameL, and_assoc]

theorem two_lets {w : World} (t : TypeId) (a b : Lt) (p q : LtP) (ha : a.pack.length = 32) (hb : b.pack.length = 32) : ∃ (W1 W2 : World) (g g' : Nat), w.heap.size = g ∧ W1.heap.size = g' ∧ w.alloc (.cells (a.cells p).toArray t) = W1 ∧ W1.alloc (.cells (b.cells q).toArray t) = W2 ∧
    Hid (g < W2.heap.size ∧ g' < W2.heap.size ∧ g ≠ g' ∧ g ≤ W2.heap.size) ∧ Hid (W2.heap[g]? = some (.cells (a.cells p).toArray t (0, 0))) ∧ Hid (W2.heap[g']? = some (.cells (b.cells q).toArray t (0, 0))) ∧ Hid (Below g w W2) := by
  refine ⟨_, _, _, _, rfl, rfl, rfl, rfl, Lib.hid ?_, Lib.hid ?_, Lib.hid (heap_alloc_new _ _), Lib.hid ?_⟩
  · simp; omega
  · exact (Below.heap_alloc _ _ _ (by simp)).trans (heap_alloc_new w _)
  · exact ((Below.refl _ _).alloc (Nat.le_refl _) _).alloc (by simp) _

set_option maxRecDepth 100000 in
set_option maxHeartbeats 4000000 in
theorem lsame_any (a b : Lt) (p q : LtP) (w : World) (ha : LtIn w a p) (hb : LtIn w b q) : Calls Try.prog 13 #[a.val p, b.val q] w fun e w' => e = .returned (.bool (sameL a b)) ∧ Below w.heap.size w w' := by
  obtain ⟨W1, W2, g, g', hg, hg', hW1, hW2, HGS, HRA, HRB, HB2⟩ := two_lets (w := w) 28 a b p q ha.len hb.len
  have HIA := Lib.hid (ha.below (hg ▸ HB2.out))
  have HIB := Lib.hid (hb.below (hg ▸ HB2.out))
  have HLA := Lib.hid ha.len
  have HLB := Lib.hid hb.len
  have HFA : Hid (∀ W, Below W2.heap.size W2 W → W.heap[g]? = some (.cells (a.cells p).toArray 28 (0, 0))) := Lib.hid (fun W h => (h.block g HGS.out.1).trans HRA.out)
  have HFB : Hid (∀ W, Below W2.heap.size W2 W → W.heap[g']? = some (.cells (b.cells q).toArray 28 (0, 0))) := Lib.hid (fun W h => (h.block g' HGS.out.2.1).trans HRB.out)
  have hbw : ∀ W, Below W2.heap.size W2 W → Below g w W := fun W h => HB2.out.trans (h.mono HGS.out.2.2.2)
  have HBW := Lib.hid hbw
  obtain ⟨V, hV⟩ : ∃ V, sameL a b = V := ⟨_, rfl⟩
  have HV := Lib.hid hV
  obtain ⟨x0, x1, x2, x3, x4, x5, x6, x7, x8, x9, xp⟩ := ltRow_of HRA.out ha.len
  obtain ⟨y0, y1, y2, y3, y4, y5, y6, y7, y8, y9, yp⟩ := ltRow_of HRB.out hb.len
  rw [hV]
  unfold Lt.val
  rw [hg]
  clear ha hb hV hbw x5 x6 x7 x8 x9 xp y5 y6 y7 y8 y9 yp
  cases d0 : (a.kind == b.kind)
  · go_enter Try.func13, Try.ntmps13
    go_wp2_with fail
    go_ret
    exact ⟨ret_bool (by rw [← HV.out]; unfold sameL; rw [d0]; simp), HB2.out⟩
  cases d1 : (a.from_ == b.from_)
  · go_enter Try.func13, Try.ntmps13
    go_wp2_with fail
    go_ret
    exact ⟨ret_bool (by rw [← HV.out]; unfold sameL; rw [d1]; simp), HB2.out⟩
  cases d2 : (a.to_ == b.to_)
  · go_enter Try.func13, Try.ntmps13
    go_wp2_with fail
    go_ret
    exact ⟨ret_bool (by rw [← HV.out]; unfold sameL; rw [d2]; simp), HB2.out⟩
  cases d3 : (a.session == b.session)
  · go_enter Try.func13, Try.ntmps13
    go_wp2_with fail
    go_ret
    exact ⟨ret_bool (by rw [← HV.out]; unfold sameL; rw [d3]; simp), HB2.out⟩
  have D0 := Lib.hid d0
  have D1 := Lib.hid d1
  have D2 := Lib.hid d2
  have D3 := Lib.hid d3
  have hr0 := eqrefs_any p.rA q.rA a.refs b.refs p.rc q.rc W2 HIA.out.rr.1 HIB.out.rr.1 HIA.out.rok HIB.out.rok HIA.out.rr.2.1 HIB.out.rr.2.1 HIA.out.rr.2.2 HIB.out.rr.2.2
  have HE0 := Lib.hid hr0
  clear hr0
  go_enter Try.func13, Try.ntmps13
  go_wp2_with fail
  refine HE0.out.mono ?_
  rintro e w3 ⟨rfl, hb3⟩
  clear HE0 x0 x1 x2 x3 x4 y0 y1 y2 y3 y4 d0 d1 d2 d3 hW1 hW2
  cases c4 : decide (a.refs = b.refs)
  · have C4 := Lib.hid c4
    clear c4
    go_wp2_with fail
    go_ret
    exact ⟨ret_bool (by rw [← HV.out]; unfold sameL; rw [C4.out]; simp), HBW.out _ hb3⟩
  have C4 := Lib.hid c4
  clear c4
  have HB3 := Lib.hid hb3
  clear hb3
  obtain ⟨_, _, _, _, _, x5, _, _, _, _, _⟩ := ltRow_of (HFA.out _ HB3.out) HLA.out
  obtain ⟨_, _, _, _, _, y5, _, _, _, _, _⟩ := ltRow_of (HFB.out _ HB3.out) HLB.out
  have HA3 := Lib.hid (HIA.out.below HB3.out)
  have HB3' := Lib.hid (HIB.out.below HB3.out)
  go_wp2_with fail
  refine (eqids_any p.wA q.wA a.wants b.wants p.wc q.wc w3 HA3.out.wr.1 HB3'.out.wr.1 HA3.out.wok HB3'.out.wok HA3.out.wr.2.1 HB3'.out.wr.2.1 HA3.out.wr.2.2 HB3'.out.wr.2.2).mono ?_
  rintro e w4 ⟨rfl, hb4⟩
  clear x5 y5
  have HB4 := Lib.hid (ext_trans HB3.out hb4)
  clear hb4
  cases c5 : decide (a.wants = b.wants)
  · have C5 := Lib.hid c5
    clear c5
    go_wp2_with fail
    go_ret
    exact ⟨ret_bool (by rw [← HV.out]; unfold sameL; rw [C5.out]; simp), HBW.out _ HB4.out⟩
  have C5 := Lib.hid c5
  clear c5
  obtain ⟨_, _, _, _, _, _, x6, _, _, _, _⟩ := ltRow_of (HFA.out _ HB4.out) HLA.out
  obtain ⟨_, _, _, _, _, _, y6, _, _, _, _⟩ := ltRow_of (HFB.out _ HB4.out) HLB.out
  have HA4 := Lib.hid (HIA.out.below HB4.out)
  have HB4' := Lib.hid (HIB.out.below HB4.out)
  go_wp2_with fail
  refine (eqids_any p.hA q.hA a.haves b.haves p.hc q.hc w4 HA4.out.hr.1 HB4'.out.hr.1 HA4.out.hok HB4'.out.hok HA4.out.hr.2.1 HB4'.out.hr.2.1 HA4.out.hr.2.2 HB4'.out.hr.2.2).mono ?_
  rintro e w5 ⟨rfl, hb5⟩
  clear x6 y6
  have HB5 := Lib.hid (ext_trans HB4.out hb5)
  clear hb5
  cases c6 : decide (a.haves = b.haves)
  · have C6 := Lib.hid c6
    clear c6
    go_wp2_with fail
    go_ret
    exact ⟨ret_bool (by rw [← HV.out]; unfold sameL; rw [C6.out]; simp), HBW.out _ HB5.out⟩
  have C6 := Lib.hid c6
  clear c6
  obtain ⟨_, _, _, _, _, _, _, x7, x8, x9, xp⟩ := ltRow_of (HFA.out _ HB5.out) HLA.out
  obtain ⟨_, _, _, _, _, _, _, y7, y8, y9, yp⟩ := ltRow_of (HFB.out _ HB5.out) HLB.out
  have HIX := Lib.hid (info_id32 a.pack HLA.out)
  have HIY := Lib.hid (info_id32 b.pack HLB.out)
  obtain ⟨z, hz⟩ : ∃ z, decide (a.pack = b.pack) = z := ⟨_, rfl⟩
  have HZ := Lib.hid hz
  have heq : ∀ w, (Op.equalIn 10000 25 (.agg (b8s a.pack).toArray) (.agg (b8s b.pack).toArray)).run Try.prog w = .ok z w := fun w => by
    have := eqin_id 25 Try.underlying25 9998 a.pack b.pack HLA.out HLB.out w
    rw [this, HZ.out]
  have hgd : ∀ o x y w, (eqGuard o 25 x y (.agg (b8s a.pack).toArray) (.agg (b8s b.pack).toArray)).run Try.prog w = .ok () w := fun o x y w => guard_arr o 25 x y _ _ w (by kernel_rfl)
  have hbe := beq_any p.dA q.dA a.data b.data p.dc q.dc w5 (HIA.out.below HB5.out).dr.1 (HIB.out.below HB5.out).dr.1
  have HBE := Lib.hid hbe
  clear hz hbe
  cases d7 : (a.off == b.off)
  · go_wp2_with fail
    go_ret
    exact ⟨ret_bool (by rw [← HV.out]; unfold sameL; rw [d7]; simp), HBW.out _ HB5.out⟩
  cases d8 : (a.total == b.total)
  · go_wp2_with fail
    go_ret
    exact ⟨ret_bool (by rw [← HV.out]; unfold sameL; rw [d8]; simp), HBW.out _ HB5.out⟩
  cases z
  · go_wp2_with (first
      | ((with_reducible (refine wpList_load_cells 25 _ g 9 (b8s a.pack) xp Try.underlying25 rfl HIX.out ?_ rfl ?_ ?_)); (exact rfl); (exact rfl))
      | ((with_reducible (refine wpList_load_cells 25 _ g' 9 (b8s b.pack) yp Try.underlying25 rfl HIY.out ?_ rfl ?_ ?_)); (exact rfl); (exact rfl)))
    go_ret
    exact ⟨ret_bool (by rw [← HV.out]; unfold sameL; rw [HZ.out]; simp), HBW.out _ HB5.out⟩
  have D7 := Lib.hid d7
  have D8 := Lib.hid d8
  go_wp2_with (first
    | ((with_reducible (refine wpList_load_cells 25 _ g 9 (b8s a.pack) xp Try.underlying25 rfl HIX.out ?_ rfl ?_ ?_)); (exact rfl); (exact rfl))
    | ((with_reducible (refine wpList_load_cells 25 _ g' 9 (b8s b.pack) yp Try.underlying25 rfl HIY.out ?_ rfl ?_ ?_)); (exact rfl); (exact rfl)))
  refine HBE.out.mono ?_
  rintro e w6 ⟨rfl, hb6⟩
  go_wp2_with fail
  go_ret
  exact ⟨ret_bool (by rw [← HV.out]; unfold sameL; rw [D0.out, D1.out, D2.out, D3.out, C4.out, C5.out, C6.out, D7.out, D8.out, HZ.out]; simp), HBW.out _ (ext_trans HB5.out hb6)⟩
end Go.Proofs.Ytfjfidhhmidflaa
