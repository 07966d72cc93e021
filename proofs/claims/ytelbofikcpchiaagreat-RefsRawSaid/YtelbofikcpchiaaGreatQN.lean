/- Refs: Head. (With the texts that it stands on.) -/
import Derived.Test.YtelbofikcpchiaaGreatQM
namespace Go.Proofs.YtelbofikcpchiaaGreat
open Go.RowKit
theorem ownA_exact {w : World} {b n : Nat} {ns : AL (List UInt8)} (h : w.ownsMap Tryz.prog 9 idR b n (mapA idD ns)) : w.ownsMap Tryz.prog 9 idR b ns.length (mapA idD ns) := by
 obtain ⟨es, clock, h1, h2, h3, h4⟩ := h
 refine ⟨es, clock, h1, h2, ?_, h4⟩
 have h5 := mapA_size idD ns
 rw [h4] at h5
 rw [← h5]
 show es.size ≤ (List.foldr DataW.insert [] _).length
 rw [length_sorted]
 simp
theorem info_up1 {u : UpM} (h : upOk u) : (Tryz.prog.info? 31).map (fun i => (i.size, i.zero.isSome)) = some ((upC u).length, true) := by
 rw [upC_len h]
 kernel_rfl
theorem setCells_drew (gr : Nat) : ∀ (vs : List Value) (o : Nat) (W : World), (W.drew).setCells gr o vs = (W.setCells gr o vs).drew
 | [], _, _ => rfl
 | v :: vs, o, W => setCells_drew gr vs (o + 1) (W.setCell ⟨gr, o, none⟩ v)
theorem row_head {w : World} {gr g : Nat} {q : QA} {r : RfM} (h : w.heap[gr]? = some (.cells (rowR g q r).toArray 83 (0, 0))) (hd : List UInt8) :
  (w.setCell ⟨gr, 2, none⟩ (strV hd)).heap[gr]? = some (.cells (rowR g q { r with head := hd }).toArray 83 (0, 0)) := by
 have h1 := row_set h 2 (strV hd)
 rw [List.setIfInBounds_toArray] at h1
 exact h1
theorem row_at {w : World} {gr g : Nat} {q : QA} {r : RfM} (h : w.heap[gr]? = some (.cells (rowR g q r).toArray 83 (0, 0))) (ha : r.at_.length = 32) (at_ : List UInt8) (hat : at_.length = 32) :
  w.there gr 3 32 ∧ (w.setCells gr 3 (b8s at_)).heap[gr]? = some (.cells (rowR g q { r with at_ := at_ }).toArray 83 (0, 0)) := by
 have hl : (b8s r.at_).length = 32 := by rw [b8s_length, ha]
 constructor
 ·intro j hj
  refine ⟨?_, row_free h _⟩
  rw [row_cell h]
  have hs : (rowR g q r).length = 37 := by simp [rowR, hl]
  rw [List.getElem?_toArray, List.getElem?_eq_getElem (by rw [hs]; omega)]
  rfl
 ·have h1 := row_setCells (g := gr) (t := 83) (b8s at_) [.pointer (some ⟨g, 0, none⟩), .map (some q.mb), strV r.head] (b8s r.at_) [q.lv, .bool r.stuck] w (by rw [h]; simp [rowR]) (by rw [b8s_length, b8s_length, ha, hat])
  simpa [rowR] using h1
theorem RfIn.rowSet {N gr g : Nat} {w w' : World} {r r' : RfM} {q : QA} (h : RfIn N w gr g r q) (hg : w.grownBy w' (some gr)) (hr : w'.heap[gr]? = some (.cells (rowR g q r').toArray 83 (0, 0))) (ha : r'.all = r.all) (hl : r'.log = r.log) : RfIn N w' gr g r' q := by
 refine ⟨hr, ?_, ?_, h.base⟩
 ·rw [ha]
  obtain ⟨es, clock, h1, h2⟩ := h.map
  exact ⟨es, clock, (hg.block _ (h.foot_lt (.inr (.inl rfl))) (by simpa using Ne.symm h.gr_ne)).trans h1, h2⟩
 ·rw [hl]
  exact own_keep h.log (fun b hb hlt => hg.block b hlt (by rw [← hb]; exact h.log_ne.2))
structure MkSt (N gr g : Nat) (r : RfM) (q : QA) (t : TxM) (W1 wr : World) (i : Nat) (lv : Value) : Prop where
 rin : RfIn N wr gr g { r with all := (t.us.take i).foldl updA r.all, log := r.log ++ t.us.take i } ⟨q.mb, lv⟩
 frm : Frm (footR gr q) W1 wr
 far : ∀ b, lv.ownBlock = some b → footR gr q b ∨ W1.heap.size ≤ b
theorem MkSt.below {N gr g : Nat} {r : RfM} {q : QA} {t : TxM} {W1 wr w' : World} {i : Nat} {lv : Value} (h : MkSt N gr g r q t W1 wr i lv) (hb : Below wr.heap.size wr w') : MkSt N gr g r q t W1 w' i lv :=
 ⟨h.rin.below hb, h.frm.trans (Frm.of_below (F := footR gr q) hb) (fun i hi => .inl hi), h.far⟩
set_option maxRecDepth 100000 in
set_option maxHeartbeats 16000000 in
theorem make_any {N gr g : Nat} {w : World} {r : RfM} {q : QA} (h : RfIn N w gr g r q) (hk : RfOk r) (A : Option Addr) (n c : Nat) (t : TxM) (hn : t.us.length = n) (ht : TxOk t) (hr : Rd w A (upsC t.us)) (hrf : upsC t.us ≠ [] → ∀ a, A = some a → ¬ footR gr q a.block)
  (hl : r.all.length ≤ 1000000 ∧ r.log.length ≤ 1000000) (hNw : N ≤ w.heap.size) :
  Calls Tryz.prog 31 #[.pointer (some ⟨gr, 0, none⟩), .agg (txC A n c t).toArray] w fun e w' => e = .returned (.tuple #[]) ∧ ∃ lv', RfIn N w' gr g (makeR r t) ⟨q.mb, lv'⟩ ∧ Frm (footR gr q) w w' ∧ ∀ b, lv'.ownBlock = some b → footR gr q b ∨ w.heap.size ≤ b := by
 have HKR := h_ hk
 have HN := h_ hn
 have HT := h_ ht
 have hnl : n ≤ 1000000 := by have := ht.ul; omega
 obtain ⟨g1, hg⟩ := eX w.heap.size
 have HG1 := h_ hg
 obtain ⟨W1, hW1⟩ := eX (w.alloc (.cells (txC A n c t).toArray 28))
 obtain ⟨r1, b1, s1⟩ := new_row hW1
 rw [hg] at r1
 have R1 := h_ r1
 have HB1 := h_ b1
 have HFG : Hid (¬ footR gr q g1) := h_ (fun hf => by have := h.foot_lt hf; omega)
 have HRF : Hid (∀ W, Frm (footR gr q) W1 W → Rd W A (upsC t.us) ∧ W.heap[g1]? = some (.cells (txC A n c t).toArray 28 (0, 0))) := h_ (fun W hf => by
  refine ⟨?_, (hf.block _ (Array.getElem?_eq_some_iff.1 r1).1 (fun hf => by have := h.foot_lt hf; omega)).trans r1⟩
  by_cases he : upsC t.us = []
  ·rw [he]; exact Rd.nil
  ·exact (hr.below b1).keep (fun ad e hlt => hf.block _ hlt (hrf he ad e)))
 have S1 : Hid (MkSt N gr g r q t W1 W1 0 q.lv) := h_ ⟨by
  have h1 := h.below b1
  simpa using h1, Frm.refl _ _, fun b hb => .inl (.inr (.inr hb.symm))⟩
 obtain ⟨X, hX, hXs⟩ : ∃ X : ByteArray, strV t.head = .string X ∧ X.data.toList = t.head := ⟨_, rfl, rfl⟩
 have HX := h_ hX
 have HXS := h_ hXs
 obtain ⟨lt, hlt⟩ := eX (txC A n c t)
 rw [hlt] at hW1 ⊢
 have c0 : W1.cell? ⟨g1, 0, none⟩ = some (.slice A n c) := (tx_cells r1).1
 have HNW : Hid (N ≤ W1.heap.size) := h_ (by have := b1.size; omega)
 have HNF : Hid (∀ b, footR gr q b → b < W1.heap.size) := h_ (fun b hb => by have := h.foot_lt hb; omega)
 clear h hk hn ht hr hrf b1 s1 r1 hX hXs hlt
 go_enter Tryz.func31, Tryz.ntmps31
 go_wp2_with fail
 try rw [hg]
 clear hW1 c0
 go_loopg [9] (n * 1) (fun gk_ iv wr => ∃ (i : Nat) (lv : Value), i ≤ n ∧ gk_ = n - i ∧ iv = .int .i64 (i : Int) ∧ Hid (MkSt N gr g r q t W1 wr i lv))
 case atStart => exact ⟨0, q.lv, by omega, by omega, rfl, S1⟩
 case round =>
 clear S1
 obtain ⟨i, lv, hi, rfl, rfl, HS⟩ := hrel
 by_cases hlt : i < n
 ·have j1 : (i : Int) < (n : Int) := by omega
  have hil : i < t.us.length := by rw [HN.out]; exact hlt
  obtain ⟨u, hu⟩ := eX (t.us[i])
  have HOK : Hid (upOk u) := h_ (HT.out.us u (by rw [← hu]; exact List.getElem_mem hil))
  have HTK : Hid (t.us.take (i + 1) = t.us.take i ++ [u]) := h_ (by rw [List.take_add_one, List.getElem?_eq_getElem hil, hu]; rfl)
  have hrd := (HRF.out _ HS.out.frm).1
  obtain ⟨b, o, hA, _⟩ := hrd.all (by rw [upsC_len HT.out.us, HN.out]; omega)
  rw [hA] at hrd
  have hrow := rd_flat (f := upC) (m := 65) hrd (fun x hx => upC_len (HT.out.us x hx)) i hil
  rw [hu] at hrow
  have HRW := h_ hrow
  have HA := h_ hA
  rw [hA]
  have HIL := h_ (info_upl HOK.out)
  have HIA := h_ (info_upa HOK.out)
  have HI1 := h_ (info_up1 HOK.out)
  have HLL := h_ (upC_len HOK.out)
  have HOC : Hid ((upC u).toArray.all (·.oneCell') = true) := h_ (all_oneCell_toArray (upC_one u))
  have HO1 := h_ (upC_one u)
  obtain ⟨gu, hgu⟩ := eX wr.heap.size
  obtain ⟨WA, hWA⟩ := eX (wr.alloc (.cells Tryz.zeroCells31 31))
  obtain ⟨rA, bA, sA⟩ := new_row hWA
  rw [hgu, upZ_eq] at rA
  obtain ⟨WB, hWB, TB, RB, GB⟩ := put_rowR (new := upC u) rA (by rw [upC_len HOK.out]; rfl)
  have HWB := h_ hWB
  have BB : Hid (Below wr.heap.size wr WB) := h_ (bel_grown bA bA.size GB.out (by omega))
  have SB := h_ (HS.out.below BB.out)
  obtain ⟨all, hall⟩ := eX ((t.us.take i).foldl updA r.all)
  have HALL := h_ hall
  have HAL : Hid (all.length ≤ 2000000) := h_ (by
   have h1 := foldU_len (t.us.take i) r.all
   rw [hall, List.length_take] at h1
   omega)
  have RIB : Hid (RfIn N WB gr g { r with all := all, log := r.log ++ t.us.take i } ⟨q.mb, lv⟩) := h_ (by have := SB.out.rin; rw [hall] at this; exact this)
  obtain ⟨Y, hY, hYs⟩ : ∃ Y : ByteArray, strV u.name = .string Y ∧ Y.data.toList = u.name := ⟨_, rfl, rfl⟩
  have hYm : Y.size ≤ 140737488355328 := by
   have h1 := size_toList Y
   rw [hYs] at h1
   have := HOK.out.2.2
   omega
  have HYS := h_ hYs
  have HUC : Hid (∀ W : World, W.heap[gu]? = some (.cells (upC u).toArray 31 (0, 0)) → W.cell? ⟨gu, 0, none⟩ = some (.string Y) ∧ W.rangeAt gu 1 (b8s u.old) ∧ W.rangeAt gu 33 (b8s u.new)) := h_ (fun W hw => by
   have h1 := up_cells hw HOK.out
   rw [hY] at h1
   exact h1)
  have cu0 : WB.cell? ⟨gu, 0, none⟩ = some (.string Y) := (HUC.out _ RB.out).1
  have cr1 : WB.cell? ⟨gr, 1, none⟩ = some (.map (some q.mb)) := RIB.out.cells.2.1
  have HUN : Hid (WB.rangeAt gu 33 (b8s u.new)) := h_ (HUC.out _ RB.out).2.2
  have HKY := h_ (WideMaps.keyOf_string_mk (P := Tryz.prog) Tryz.underlying9 (s := Y) (by unfold maxLen; omega))
  have HGU : Hid (¬ footR gr q gu ∧ gu < WB.heap.size ∧ W1.heap.size ≤ gu) := h_ (by
   have h1 := HS.out.frm.size
   have h2 := (b_ RB)
   exact ⟨fun hf => by have := HNF.out gu hf; omega, h2, by omega⟩)
  have HGL : Hid (∀ b, lv.ownBlock = some b → b ≠ gu) := h_ (fun b hb e => by
   have h1 := (HS.out.rin.log.lt b hb).2
   omega)
  obtain ⟨nw, hnw⟩ := eX (b8s u.new)
  have HNEW := h_ hnw
  have HINW : Hid ((Tryz.prog.info? 24).map (·.size) = some nw.length) := h_ (by rw [← hnw]; exact info_idl u.new HOK.out.2.1)
  have hz := id_eql u.new Z32 HOK.out.2.1 rfl
  rw [z32_lit] at hz
  obtain ⟨qz, hqz⟩ := eX (decide (u.new = Z32))
  have HQZ := h_ hqz
  rw [hqz, hnw] at hz
  have hgd := id_guard
  obtain ⟨la, hla⟩ := eX (upC u)
  have HLA := h_ hla
  rw [hla] at HRW HIL HIA HOC HWB TB HI1 HLL HO1 RB
  rw [hnw] at HUN
  clear hil hu hrd hA hrow rA bA sA hWB hY hYs hla hnw hqz hall
  go_wp2_with (first
   | ((with_reducible (refine wpList_load_cells 31 _ b (o + i * 65) (la) HRW.out Tryz.underlying31 rfl HIL.out ?_ rfl ?_ ?_)); exact rfl; (exact rfl))
   | ((with_reducible (refine wpList_store_mid rfl _ _ _ rfl ?_ ?_ ?_ ?_ ?_ ?_ ?_ ?_ ?_)); exact gu; exact 0; (exact (la).toArray); exact rfl; exact rfl; exact TB.out; exact HIA.out; exact HOC.out; rw [HWB.out]))
  refine wp_region_sched (fun w' => w'.cell? ⟨gr, 1, none⟩ = some (.map (some q.mb)) ∧ w'.cell? ⟨gu, 0, none⟩ = some (.string Y) ∧ w'.rangeAt gu 33 nw) [(true, 0), (true, 1), (true, 2), (true, 3), (true, 4), (true, 5), (true, 6), (true, 7), (false, 8)] (by kernel_rfl) (by kernel_rfl) rfl (by kernel_rfl) ⟨cr1, cu0, HUN.out⟩ ?_
  iterate 7 ((first | refine wpS_pass _ rfl (by rfl) ?_ | (refine wpS_take _ ?_ rfl (by rfl) ?_ ?_; rotate_left; (focus (intro w' hS'; (try dsimp only at hS'); (repeat (have hS1 := hS'.1; replace hS' := hS'.2)); go_simp; (try with_reducible rfl); done)))); simp only [LY])
  refine wpS_load _ rfl (by rfl) 24 _ rfl gu 33 rfl nw _ (fun w' hS => hS.2.2) Tryz.underlying24 rfl HINW.out ?_
  simp only [LY]
  refine wpS_do _ rfl (by rfl) (fun KK hK => ?_)
  have HMB : Hid (WB.drew.ownsMap Tryz.prog 9 idR q.mb all.length (mapA idD all)) := h_ RIB.out.map
  refine wp_mapUpdate_in _ _ _ 81 rfl 9 24 keyed_str Tryz.underlying81 idR q.mb all.length _ rfl HMB.out (by have := HAL.out; unfold maxLen; omega) (.string Y) (.agg nw.toArray) _ rfl rfl HKY.out (idD u.new) [] (by rw [← HNEW.out]; exact idR_id u.new) ?_
  intro w5 ho5 hm5
  have HM5 : Hid (WB.grownBy w5 (some q.mb)) := h_ ⟨hm5.grown.os, hm5.grown.tape, hm5.grown.output, hm5.grown.size, hm5.grown.block⟩
  have RI5 : Hid (RfIn N w5 gr g { r with all := putA all u.name u.new, log := r.log ++ t.us.take i } ⟨q.mb, lv⟩) := h_ (RIB.out.mapSet _ HM5.out (by
   have h1 := ho5
   rw [HYS.out, mapA_put] at h1
   exact ownA_exact h1))
  have HGM : Hid (gu ≠ q.mb) := h_ (by
   obtain ⟨es, clock, h1, _⟩ := RIB.out.map
   exact cells_ne_map RB.out h1)
  have R5 : Hid (w5.heap[gu]? = some (.cells la.toArray 31 (0, 0))) := h_ ((HM5.out.block _ HGU.out.2.1 (by simpa using HGM.out)).trans RB.out)
  have cu5 : w5.cell? ⟨gu, 0, none⟩ = some (.string Y) := (HUC.out _ (by rw [HLA.out]; exact R5.out)).1
  have cr5 : w5.cell? ⟨gr, 1, none⟩ = some (.map (some q.mb)) := RI5.out.cells.2.1
  have HU5 : Hid (w5.rangeAt gu 33 nw) := h_ (by have h1 := (HUC.out w5 (by rw [HLA.out]; exact R5.out)).2.2; rw [HNEW.out] at h1; exact h1)
  have F5 : Hid (Frm (footR gr q) W1 w5) := h_ (SB.out.frm.trans (Frm.of_grown HM5.out (fun k hk => .inl (by cases hk; exact .inr (.inl rfl)))) (fun i hi => .inl hi))
  refine hK.out _ _ ⟨cr5, cu5, HU5.out⟩ (fun hS' => ?_)
  clear hS' hK ho5 hm5 cu0 cr1
  refine wpS_done ?_
  cases qz with
  | true =>
    go_wp2_with ((with_reducible (refine wpList_load_cells 24 _ gu 33 (nw) HU5.out Tryz.underlying24 rfl HINW.out ?_ rfl ?_ ?_)); exact rfl; (exact rfl))
    refine wp_region_sched (fun w' => w'.cell? ⟨gr, 1, none⟩ = some (.map (some q.mb)) ∧ w'.cell? ⟨gu, 0, none⟩ = some (.string Y)) [(true, 0), (true, 1), (true, 2), (true, 3), (true, 4), (true, 5), (false, 6)] (by kernel_rfl) (by kernel_rfl) rfl (by kernel_rfl) ⟨cr5, cu5⟩ ?_
    iterate 6 ((first | refine wpS_pass _ rfl (by rfl) ?_ | (refine wpS_take _ ?_ rfl (by rfl) ?_ ?_; rotate_left; (focus (intro w' hS'; (try dsimp only at hS'); (repeat (have hS1 := hS'.1; replace hS' := hS'.2)); go_simp; (try with_reducible rfl); done)))); simp only [LY])
    refine wpS_do _ rfl (by rfl) (fun KK hK => ?_)
    refine wp_delete_own _ _ 81 9 rfl 24 keyed_str Tryz.underlying81 idR q.mb _ _ rfl (w := w5.drew) RI5.out.map (.string Y) _ rfl HKY.out ?_
    intro wd hod hmd
    have HMD : Hid (w5.grownBy wd (some q.mb)) := h_ ⟨hmd.grown.os, hmd.grown.tape, hmd.grown.output, hmd.grown.size, hmd.grown.block⟩
    have HUA : Hid (updA all u = delA (putA all u.name u.new) u.name) := h_ (by unfold updA; rw [if_pos (of_decide_eq_true HQZ.out)])
    have RID : Hid (RfIn N wd gr g { r with all := updA all u, log := r.log ++ t.us.take i } ⟨q.mb, lv⟩) := h_ (by
     rw [HUA.out]
     exact RI5.out.mapSet _ HMD.out (by
      have h1 := hod
      rw [HYS.out, mapA_del] at h1
      exact ownA_exact h1))
    have RDu : Hid (wd.heap[gu]? = some (.cells la.toArray 31 (0, 0))) := h_ ((HMD.out.block _ (b_ R5) (by simpa using HGM.out)).trans R5.out)
    have FD : Hid (Frm (footR gr q) W1 wd) := h_ (F5.out.trans (Frm.of_grown HMD.out (fun k hk => .inl (by cases hk; exact .inr (.inl rfl)))) (fun i hi => .inl hi))
    refine hK.out _ _ ⟨RID.out.cells.2.1, (HUC.out _ (by rw [HLA.out]; exact RDu.out)).1⟩ (fun hS' => ?_)
    clear hS' hK hod hmd cr5 cu5
    refine wpS_done ?_
    obtain ⟨w6, hw6⟩ : ∃ x, x = wd := ⟨_, rfl⟩
    have RI6 : Hid (RfIn N w6 gr g { r with all := updA all u, log := r.log ++ t.us.take i } ⟨q.mb, lv⟩) := h_ (by rw [hw6]; exact RID.out)
    have R6u : Hid (w6.heap[gu]? = some (.cells la.toArray 31 (0, 0))) := h_ (by rw [hw6]; exact RDu.out)
    have F6 : Hid (Frm (footR gr q) W1 w6) := h_ (by rw [hw6]; exact FD.out)
    rw [← hw6]
    clear hw6
    obtain ⟨nl, hnl⟩ := eX ((r.log ++ t.us.take i).length)
    have HNL := h_ hnl
    have hnl2 : nl ≤ 2000000 := by
     rw [List.length_append, List.length_take] at hnl
     omega
    obtain ⟨Al, cl, hlv, _⟩ := own_slice RI6.out.log
    dsimp only at hlv
    rw [hnl] at hlv
    have HLV := h_ hlv
    have c35 : w6.cell? ⟨gr, 35, none⟩ = some (.slice Al nl cl) := by rw [← hlv]; exact (RI6.out.tail HKR.out.al).1
    clear hnl hlv
    go_wp2_with fail
    refine wp_region_sched2 (fun w' => w'.rangeAt gu 0 la) [(true, 0), (true, 1), (true, 2), (true, 3), (true, 5)] 4 6 [(false, 7), (true, 8), (true, 9), (false, 10)] (by kernel_rfl) (by kernel_rfl) rfl (by kernel_rfl) (range_of_row (cs := la) R6u.out) ?_
    (repeat ((refine wpS2_take _ ?_ rfl (by rfl) ?_ ?_; rotate_left; (focus (intro w' hS'; (try dsimp only at hS'); (repeat (have hS1 := hS'.1; replace hS' := hS'.2)); go_simp; (try with_reducible rfl); done)); simp only [LY])))
    refine wpS2_load _ rfl (by rfl) 31 _ rfl gu 0 rfl la _ (fun w' hS => hS) Tryz.underlying31 rfl HIL.out ?_
    simp only [LY]
    obtain ⟨w7, hw7⟩ : ∃ x, x = w6.drew.alloc (.cells la.toArray 31) := ⟨_, rfl⟩
    have B7 : Hid (Below w6.heap.size w6 w7) := h_ (by rw [hw7]; exact (Below.refl _ _).drew.alloc (Nat.le_refl _) _)
    have R7n : Hid (w7.heap[w6.heap.size]? = some (.cells la.toArray 31 (0, 0))) := h_ (by rw [hw7]; exact heap_alloc_new w6.drew _)
    have R7u := bl_ B7.out R6u
    have RI7 : Hid (RfIn N w7 gr g { r with all := updA all u, log := r.log ++ t.us.take i } ⟨q.mb, lv⟩) := h_ (RI6.out.below B7.out)
    have HO7 : Hid (w7.ownsRow N 31 65 (.slice Al nl cl) nl (upsC (r.log ++ t.us.take i))) := h_ (by have h1 := RI7.out.log; dsimp only at h1; rw [HLV.out, HNL.out] at h1; exact h1)
    have HN7 : Hid (N ≤ w7.heap.size) := h_ (by have h1 := F6.out.size; have h2 := B7.out.size; have h3 := HNW.out; omega)
    have F7 : Hid (Frm (footR gr q) W1 w7) := h_ (F6.out.trans (Frm.of_below (F := footR gr q) B7.out) (fun i hi => .inl hi))
    refine wpS2_both ?_ ?_
    ·refine doStep_do _ rfl (by rfl) (fun KK hK => ?_)
     go_simp
     refine hK.out _ _ (range_of_row (cs := la) R6u.out) (fun hS' => ?_)
     clear hS' hK
     refine doStep_do _ rfl (by rfl) (fun KK hK => ?_)
     refine wp_build1 26 31 _ rfl la rfl Tryz.underlying26 HI1.out (by rw [HLL.out]; decide) (by rw [HLL.out]; decide) ?_
     rw [← hw7]
     clear hw7
     refine hK.out _ _ (range_of_row (cs := la) R7u.out) (fun hS' => ?_)
     clear hS' hK c35
     simp only [LY]
     have HR7 : Hid (Rd w7 (some ⟨w6.heap.size, 0, none⟩) la) := h_ (range_rd (range_of_row (cs := la) R7n.out))
     refine wpS_do _ rfl (by rfl) (fun KK hK => ?_)
     refine wp_append_rd _ _ _ 26 rfl N 31 _ 65 80 Tryz.underlying26 info_up65 (by simp [Value.cells, b8s]) (by decide) (.slice Al nl cl) nl _ rfl HO7.out _ 1 1 la rfl (by rw [HLL.out]) HR7.out HO1.out (by unfold maxLen; omega) (by omega) HN7.out ?_
     intro v8 w8 ho8 hg8 hvb8
     obtain ⟨A8, c8, e8, _⟩ := own_slice ho8
     subst e8
     have HG8 := h_ hg8
     have HV8 := h_ hvb8
     have HO8 := h_ ho8
     have R8u : Hid (w8.heap[gu]? = some (.cells la.toArray 31 (0, 0))) := h_ ((HG8.out.block _ (b_ R7u) (fun e => HGL.out gu (by rw [HLV.out]; exact e.symm) rfl)).trans R7u.out)
     refine hK.out _ _ (range_of_row (cs := la) R8u.out) (fun hS' => ?_)
     clear hS' hK ho8 hg8 hvb8
     simp only [LY]
     iterate 2 ((first | refine wpS_pass _ rfl (by rfl) ?_ | (refine wpS_take _ ?_ rfl (by rfl) ?_ ?_; rotate_left; (focus (intro w' hS'; (try dsimp only at hS'); (repeat (have hS1 := hS'.1; replace hS' := hS'.2)); go_simp; (try with_reducible rfl); done)))); simp only [LY])
     have hgr8 : w8.heap[gr]? = some (.cells (rowR g ⟨q.mb, lv⟩ { r with all := updA all u, log := r.log ++ t.us.take i }).toArray 83 (0, 0)) := (HG8.out.block _ (RI7.out.foot_lt (.inl rfl)) (fun e => RI7.out.log_ne.2 (by dsimp only; rw [HLV.out]; exact e.symm))).trans RI7.out.row
     refine wpS_store_cell _ rfl (by rfl) 26 _ _ rfl gr 35 rfl (.slice A8 (nl + 1) c8) rfl rfl lv ?_ (row_free hgr8 35) (by kernel_rfl) ?_ ?_
     ·rw [row_cell hgr8]
      exact (rowR_tail g ⟨q.mb, lv⟩ { r with all := updA all u, log := r.log ++ t.us.take i } HKR.out.al).1
     ·intro x v hv
      rw [World.cell?_setCell_far _ _ _ _ (by dsimp only; exact fun e => HGU.out.1 (.inl e.symm))]
      exact range_of_row (cs := la) R8u.out x v hv
     simp only [LY]
     refine wpS_done ?_
     have HN9 : Hid (MkSt N gr g r q t W1 (w8.setCell ⟨gr, 35, none⟩ (.slice A8 (nl + 1) c8)) (i + 1) (.slice A8 (nl + 1) c8)) := h_ (by
      have hf8 : Frm (footR gr q) W1 w8 := F7.out.trans (Frm.of_grown (F := fun b => lv.ownBlock = some b ∨ W1.heap.size ≤ b) HG8.out (fun k hk => .inl (.inl (by rw [HLV.out]; exact hk)))) (fun i hi => by
       rcases hi with hi | hi
       ·exact HS.out.far i hi
       ·exact .inr hi)
      have hgl : gr < w8.heap.size := (Array.getElem?_eq_some_iff.1 hgr8).1
      refine ⟨?_, hf8.trans (Frm.of_cell (F := footR gr q) (.inl rfl)) (fun i hi => .inl hi), fun b hb => ?_⟩
      ·have h9 := row_set hgr8 35 (.slice A8 (nl + 1) c8)
       have h1 := RI7.out.logSet (w' := w8.setCell ⟨gr, 35, none⟩ (.slice A8 (nl + 1) c8)) HKR.out.al (r.log ++ t.us.take (i + 1)) (.slice A8 (nl + 1) c8) h9 ?_ ?_
       ·rw [HTK.out, List.foldl_append, HALL.out]
        rw [HTK.out] at h1
        exact h1
       ·rw [Below.heap_setCell _ _ _ _ (by dsimp only; exact Ne.symm RI7.out.gr_ne)]
        exact HG8.out.block _ (RI7.out.foot_lt (.inr (.inl rfl))) (fun e => RI7.out.log_ne.1 (by dsimp only; rw [HLV.out]; exact e.symm))
       ·have h2 : (r.log ++ t.us.take (i + 1)).length = nl + 1 := by rw [HTK.out, ← List.append_assoc, List.length_append, HNL.out]; rfl
        rw [h2, HTK.out, ← List.append_assoc, upsC_app, show upsC [u] = la by rw [← HLA.out]; simp [upsC]]
        refine own_keep HO8.out (fun b hb hl => Below.heap_setCell _ _ _ _ ?_)
        dsimp only
        rcases HV8.out with e | e
        ·rw [e] at hb
         exact fun e2 => RI7.out.log_ne.2 (by dsimp only; rw [HLV.out, hb, e2])
        ·rw [e] at hb
         have h3 := Option.some.inj hb
         have h4 := RI7.out.foot_lt (b := gr) (.inl rfl)
         omega
      ·rcases HV8.out with e | e
       ·rw [e] at hb
        exact HS.out.far b (by rw [HLV.out]; exact hb)
       ·rw [e] at hb
        cases hb
        exact .inr F7.out.size)
     clear hgr8 HG8 HV8 HO8 R8u HR7 RI7 R7n R7u HO7 HN7 F7
     generalize w8.setCell ⟨gr, 35, none⟩ (.slice A8 (nl + 1) c8) = w9 at *
     go_wp2_with fail
     rw [← HA.out]
     go_roundg (n - (i + 1))
     case measure => omega
     case rel => exact ⟨i + 1, _, by omega, rfl, by first | rfl | exact congrArg (Value.int .i64) (by omega) | go_num, HN9⟩
    ·refine doStep_do _ rfl (by rfl) (fun KK hK => ?_)
     refine wp_build1 26 31 _ rfl la rfl Tryz.underlying26 HI1.out (by rw [HLL.out]; decide) (by rw [HLL.out]; decide) ?_
     rw [← hw7]
     clear hw7
     refine hK.out _ _ (range_of_row (cs := la) R7u.out) (fun hS' => ?_)
     clear hS' hK
     simp only [LY]
     have c357 : w7.cell? ⟨gr, 35, none⟩ = some (.slice Al nl cl) := cell_below c35 (World.block_lt_of_cell? w6 _ c35) B7.out
     refine doStep_do _ rfl (by rfl) (fun KK hK => ?_)
     go_simp
     refine hK.out _ _ (range_of_row (cs := la) R7u.out) (fun hS' => ?_)
     clear hS' hK c35 c357
     have HR7 : Hid (Rd w7 (some ⟨w6.heap.size, 0, none⟩) la) := h_ (range_rd (range_of_row (cs := la) R7n.out))
     refine wpS_do _ rfl (by rfl) (fun KK hK => ?_)
     refine wp_append_rd _ _ _ 26 rfl N 31 _ 65 80 Tryz.underlying26 info_up65 (by simp [Value.cells, b8s]) (by decide) (.slice Al nl cl) nl _ rfl HO7.out _ 1 1 la rfl (by rw [HLL.out]) HR7.out HO1.out (by unfold maxLen; omega) (by omega) HN7.out ?_
     intro v8 w8 ho8 hg8 hvb8
     obtain ⟨A8, c8, e8, _⟩ := own_slice ho8
     subst e8
     have HG8 := h_ hg8
     have HV8 := h_ hvb8
     have HO8 := h_ ho8
     have R8u : Hid (w8.heap[gu]? = some (.cells la.toArray 31 (0, 0))) := h_ ((HG8.out.block _ (b_ R7u) (fun e => HGL.out gu (by rw [HLV.out]; exact e.symm) rfl)).trans R7u.out)
     refine hK.out _ _ (range_of_row (cs := la) R8u.out) (fun hS' => ?_)
     clear hS' hK ho8 hg8 hvb8
     simp only [LY]
     iterate 2 ((first | refine wpS_pass _ rfl (by rfl) ?_ | (refine wpS_take _ ?_ rfl (by rfl) ?_ ?_; rotate_left; (focus (intro w' hS'; (try dsimp only at hS'); (repeat (have hS1 := hS'.1; replace hS' := hS'.2)); go_simp; (try with_reducible rfl); done)))); simp only [LY])
     have hgr8 : w8.heap[gr]? = some (.cells (rowR g ⟨q.mb, lv⟩ { r with all := updA all u, log := r.log ++ t.us.take i }).toArray 83 (0, 0)) := (HG8.out.block _ (RI7.out.foot_lt (.inl rfl)) (fun e => RI7.out.log_ne.2 (by dsimp only; rw [HLV.out]; exact e.symm))).trans RI7.out.row
     refine wpS_store_cell _ rfl (by rfl) 26 _ _ rfl gr 35 rfl (.slice A8 (nl + 1) c8) rfl rfl lv ?_ (row_free hgr8 35) (by kernel_rfl) ?_ ?_
     ·rw [row_cell hgr8]
      exact (rowR_tail g ⟨q.mb, lv⟩ { r with all := updA all u, log := r.log ++ t.us.take i } HKR.out.al).1
     ·intro x v hv
      rw [World.cell?_setCell_far _ _ _ _ (by dsimp only; exact fun e => HGU.out.1 (.inl e.symm))]
      exact range_of_row (cs := la) R8u.out x v hv
     simp only [LY]
     refine wpS_done ?_
     have HN9 : Hid (MkSt N gr g r q t W1 (w8.setCell ⟨gr, 35, none⟩ (.slice A8 (nl + 1) c8)) (i + 1) (.slice A8 (nl + 1) c8)) := h_ (by
      have hf8 : Frm (footR gr q) W1 w8 := F7.out.trans (Frm.of_grown (F := fun b => lv.ownBlock = some b ∨ W1.heap.size ≤ b) HG8.out (fun k hk => .inl (.inl (by rw [HLV.out]; exact hk)))) (fun i hi => by
       rcases hi with hi | hi
       ·exact HS.out.far i hi
       ·exact .inr hi)
      have hgl : gr < w8.heap.size := (Array.getElem?_eq_some_iff.1 hgr8).1
      refine ⟨?_, hf8.trans (Frm.of_cell (F := footR gr q) (.inl rfl)) (fun i hi => .inl hi), fun b hb => ?_⟩
      ·have h9 := row_set hgr8 35 (.slice A8 (nl + 1) c8)
       have h1 := RI7.out.logSet (w' := w8.setCell ⟨gr, 35, none⟩ (.slice A8 (nl + 1) c8)) HKR.out.al (r.log ++ t.us.take (i + 1)) (.slice A8 (nl + 1) c8) h9 ?_ ?_
       ·rw [HTK.out, List.foldl_append, HALL.out]
        rw [HTK.out] at h1
        exact h1
       ·rw [Below.heap_setCell _ _ _ _ (by dsimp only; exact Ne.symm RI7.out.gr_ne)]
        exact HG8.out.block _ (RI7.out.foot_lt (.inr (.inl rfl))) (fun e => RI7.out.log_ne.1 (by dsimp only; rw [HLV.out]; exact e.symm))
       ·have h2 : (r.log ++ t.us.take (i + 1)).length = nl + 1 := by rw [HTK.out, ← List.append_assoc, List.length_append, HNL.out]; rfl
        rw [h2, HTK.out, ← List.append_assoc, upsC_app, show upsC [u] = la by rw [← HLA.out]; simp [upsC]]
        refine own_keep HO8.out (fun b hb hl => Below.heap_setCell _ _ _ _ ?_)
        dsimp only
        rcases HV8.out with e | e
        ·rw [e] at hb
         exact fun e2 => RI7.out.log_ne.2 (by dsimp only; rw [HLV.out, hb, e2])
        ·rw [e] at hb
         have h3 := Option.some.inj hb
         have h4 := RI7.out.foot_lt (b := gr) (.inl rfl)
         omega
      ·rcases HV8.out with e | e
       ·rw [e] at hb
        exact HS.out.far b (by rw [HLV.out]; exact hb)
       ·rw [e] at hb
        cases hb
        exact .inr F7.out.size)
     clear hgr8 HG8 HV8 HO8 R8u HR7 RI7 R7n R7u HO7 HN7 F7
     generalize w8.setCell ⟨gr, 35, none⟩ (.slice A8 (nl + 1) c8) = w9 at *
     go_wp2_with fail
     rw [← HA.out]
     go_roundg (n - (i + 1))
     case measure => omega
     case rel => exact ⟨i + 1, _, by omega, rfl, by first | rfl | exact congrArg (Value.int .i64) (by omega) | go_num, HN9⟩
  | false =>
    have HUA : Hid (updA all u = putA all u.name u.new) := h_ (by unfold updA; rw [if_neg (of_decide_eq_false HQZ.out)])
    obtain ⟨w6, hw6⟩ : ∃ x, x = w5 := ⟨_, rfl⟩
    have RI6 : Hid (RfIn N w6 gr g { r with all := updA all u, log := r.log ++ t.us.take i } ⟨q.mb, lv⟩) := h_ (by rw [hw6]; exact (by rw [HUA.out]; exact RI5.out))
    have R6u : Hid (w6.heap[gu]? = some (.cells la.toArray 31 (0, 0))) := h_ (by rw [hw6]; exact R5.out)
    have F6 : Hid (Frm (footR gr q) W1 w6) := h_ (by rw [hw6]; exact F5.out)
    rw [← hw6]
    clear hw6
    obtain ⟨nl, hnl⟩ := eX ((r.log ++ t.us.take i).length)
    have HNL := h_ hnl
    have hnl2 : nl ≤ 2000000 := by
     rw [List.length_append, List.length_take] at hnl
     omega
    obtain ⟨Al, cl, hlv, _⟩ := own_slice RI6.out.log
    dsimp only at hlv
    rw [hnl] at hlv
    have HLV := h_ hlv
    have c35 : w6.cell? ⟨gr, 35, none⟩ = some (.slice Al nl cl) := by rw [← hlv]; exact (RI6.out.tail HKR.out.al).1
    clear hnl hlv
    have HU6 : Hid (w6.rangeAt gu 33 nw) := h_ (by have h1 := (HUC.out w6 (by rw [HLA.out]; exact R6u.out)).2.2; rw [HNEW.out] at h1; exact h1)
    go_wp2_with ((with_reducible (refine wpList_load_cells 24 _ gu 33 (nw) HU6.out Tryz.underlying24 rfl HINW.out ?_ rfl ?_ ?_)); exact rfl; (exact rfl))
    refine wp_region_sched2 (fun w' => w'.rangeAt gu 0 la) [(true, 0), (true, 1), (true, 2), (true, 3), (true, 5)] 4 6 [(false, 7), (true, 8), (true, 9), (false, 10)] (by kernel_rfl) (by kernel_rfl) rfl (by kernel_rfl) (range_of_row (cs := la) R6u.out) ?_
    (repeat ((refine wpS2_take _ ?_ rfl (by rfl) ?_ ?_; rotate_left; (focus (intro w' hS'; (try dsimp only at hS'); (repeat (have hS1 := hS'.1; replace hS' := hS'.2)); go_simp; (try with_reducible rfl); done)); simp only [LY])))
    refine wpS2_load _ rfl (by rfl) 31 _ rfl gu 0 rfl la _ (fun w' hS => hS) Tryz.underlying31 rfl HIL.out ?_
    simp only [LY]
    obtain ⟨w7, hw7⟩ : ∃ x, x = w6.drew.alloc (.cells la.toArray 31) := ⟨_, rfl⟩
    have B7 : Hid (Below w6.heap.size w6 w7) := h_ (by rw [hw7]; exact (Below.refl _ _).drew.alloc (Nat.le_refl _) _)
    have R7n : Hid (w7.heap[w6.heap.size]? = some (.cells la.toArray 31 (0, 0))) := h_ (by rw [hw7]; exact heap_alloc_new w6.drew _)
    have R7u := bl_ B7.out R6u
    have RI7 : Hid (RfIn N w7 gr g { r with all := updA all u, log := r.log ++ t.us.take i } ⟨q.mb, lv⟩) := h_ (RI6.out.below B7.out)
    have HO7 : Hid (w7.ownsRow N 31 65 (.slice Al nl cl) nl (upsC (r.log ++ t.us.take i))) := h_ (by have h1 := RI7.out.log; dsimp only at h1; rw [HLV.out, HNL.out] at h1; exact h1)
    have HN7 : Hid (N ≤ w7.heap.size) := h_ (by have h1 := F6.out.size; have h2 := B7.out.size; have h3 := HNW.out; omega)
    have F7 : Hid (Frm (footR gr q) W1 w7) := h_ (F6.out.trans (Frm.of_below (F := footR gr q) B7.out) (fun i hi => .inl hi))
    refine wpS2_both ?_ ?_
    ·refine doStep_do _ rfl (by rfl) (fun KK hK => ?_)
     go_simp
     refine hK.out _ _ (range_of_row (cs := la) R6u.out) (fun hS' => ?_)
     clear hS' hK
     refine doStep_do _ rfl (by rfl) (fun KK hK => ?_)
     refine wp_build1 26 31 _ rfl la rfl Tryz.underlying26 HI1.out (by rw [HLL.out]; decide) (by rw [HLL.out]; decide) ?_
     rw [← hw7]
     clear hw7
     refine hK.out _ _ (range_of_row (cs := la) R7u.out) (fun hS' => ?_)
     clear hS' hK c35
     simp only [LY]
     have HR7 : Hid (Rd w7 (some ⟨w6.heap.size, 0, none⟩) la) := h_ (range_rd (range_of_row (cs := la) R7n.out))
     refine wpS_do _ rfl (by rfl) (fun KK hK => ?_)
     refine wp_append_rd _ _ _ 26 rfl N 31 _ 65 80 Tryz.underlying26 info_up65 (by simp [Value.cells, b8s]) (by decide) (.slice Al nl cl) nl _ rfl HO7.out _ 1 1 la rfl (by rw [HLL.out]) HR7.out HO1.out (by unfold maxLen; omega) (by omega) HN7.out ?_
     intro v8 w8 ho8 hg8 hvb8
     obtain ⟨A8, c8, e8, _⟩ := own_slice ho8
     subst e8
     have HG8 := h_ hg8
     have HV8 := h_ hvb8
     have HO8 := h_ ho8
     have R8u : Hid (w8.heap[gu]? = some (.cells la.toArray 31 (0, 0))) := h_ ((HG8.out.block _ (b_ R7u) (fun e => HGL.out gu (by rw [HLV.out]; exact e.symm) rfl)).trans R7u.out)
     refine hK.out _ _ (range_of_row (cs := la) R8u.out) (fun hS' => ?_)
     clear hS' hK ho8 hg8 hvb8
     simp only [LY]
     iterate 2 ((first | refine wpS_pass _ rfl (by rfl) ?_ | (refine wpS_take _ ?_ rfl (by rfl) ?_ ?_; rotate_left; (focus (intro w' hS'; (try dsimp only at hS'); (repeat (have hS1 := hS'.1; replace hS' := hS'.2)); go_simp; (try with_reducible rfl); done)))); simp only [LY])
     have hgr8 : w8.heap[gr]? = some (.cells (rowR g ⟨q.mb, lv⟩ { r with all := updA all u, log := r.log ++ t.us.take i }).toArray 83 (0, 0)) := (HG8.out.block _ (RI7.out.foot_lt (.inl rfl)) (fun e => RI7.out.log_ne.2 (by dsimp only; rw [HLV.out]; exact e.symm))).trans RI7.out.row
     refine wpS_store_cell _ rfl (by rfl) 26 _ _ rfl gr 35 rfl (.slice A8 (nl + 1) c8) rfl rfl lv ?_ (row_free hgr8 35) (by kernel_rfl) ?_ ?_
     ·rw [row_cell hgr8]
      exact (rowR_tail g ⟨q.mb, lv⟩ { r with all := updA all u, log := r.log ++ t.us.take i } HKR.out.al).1
     ·intro x v hv
      rw [World.cell?_setCell_far _ _ _ _ (by dsimp only; exact fun e => HGU.out.1 (.inl e.symm))]
      exact range_of_row (cs := la) R8u.out x v hv
     simp only [LY]
     refine wpS_done ?_
     have HN9 : Hid (MkSt N gr g r q t W1 (w8.setCell ⟨gr, 35, none⟩ (.slice A8 (nl + 1) c8)) (i + 1) (.slice A8 (nl + 1) c8)) := h_ (by
      have hf8 : Frm (footR gr q) W1 w8 := F7.out.trans (Frm.of_grown (F := fun b => lv.ownBlock = some b ∨ W1.heap.size ≤ b) HG8.out (fun k hk => .inl (.inl (by rw [HLV.out]; exact hk)))) (fun i hi => by
       rcases hi with hi | hi
       ·exact HS.out.far i hi
       ·exact .inr hi)
      have hgl : gr < w8.heap.size := (Array.getElem?_eq_some_iff.1 hgr8).1
      refine ⟨?_, hf8.trans (Frm.of_cell (F := footR gr q) (.inl rfl)) (fun i hi => .inl hi), fun b hb => ?_⟩
      ·have h9 := row_set hgr8 35 (.slice A8 (nl + 1) c8)
       have h1 := RI7.out.logSet (w' := w8.setCell ⟨gr, 35, none⟩ (.slice A8 (nl + 1) c8)) HKR.out.al (r.log ++ t.us.take (i + 1)) (.slice A8 (nl + 1) c8) h9 ?_ ?_
       ·rw [HTK.out, List.foldl_append, HALL.out]
        rw [HTK.out] at h1
        exact h1
       ·rw [Below.heap_setCell _ _ _ _ (by dsimp only; exact Ne.symm RI7.out.gr_ne)]
        exact HG8.out.block _ (RI7.out.foot_lt (.inr (.inl rfl))) (fun e => RI7.out.log_ne.1 (by dsimp only; rw [HLV.out]; exact e.symm))
       ·have h2 : (r.log ++ t.us.take (i + 1)).length = nl + 1 := by rw [HTK.out, ← List.append_assoc, List.length_append, HNL.out]; rfl
        rw [h2, HTK.out, ← List.append_assoc, upsC_app, show upsC [u] = la by rw [← HLA.out]; simp [upsC]]
        refine own_keep HO8.out (fun b hb hl => Below.heap_setCell _ _ _ _ ?_)
        dsimp only
        rcases HV8.out with e | e
        ·rw [e] at hb
         exact fun e2 => RI7.out.log_ne.2 (by dsimp only; rw [HLV.out, hb, e2])
        ·rw [e] at hb
         have h3 := Option.some.inj hb
         have h4 := RI7.out.foot_lt (b := gr) (.inl rfl)
         omega
      ·rcases HV8.out with e | e
       ·rw [e] at hb
        exact HS.out.far b (by rw [HLV.out]; exact hb)
       ·rw [e] at hb
        cases hb
        exact .inr F7.out.size)
     clear hgr8 HG8 HV8 HO8 R8u HR7 RI7 R7n R7u HO7 HN7 F7
     generalize w8.setCell ⟨gr, 35, none⟩ (.slice A8 (nl + 1) c8) = w9 at *
     go_wp2_with fail
     rw [← HA.out]
     go_roundg (n - (i + 1))
     case measure => omega
     case rel => exact ⟨i + 1, _, by omega, rfl, by first | rfl | exact congrArg (Value.int .i64) (by omega) | go_num, HN9⟩
    ·refine doStep_do _ rfl (by rfl) (fun KK hK => ?_)
     refine wp_build1 26 31 _ rfl la rfl Tryz.underlying26 HI1.out (by rw [HLL.out]; decide) (by rw [HLL.out]; decide) ?_
     rw [← hw7]
     clear hw7
     refine hK.out _ _ (range_of_row (cs := la) R7u.out) (fun hS' => ?_)
     clear hS' hK
     simp only [LY]
     have c357 : w7.cell? ⟨gr, 35, none⟩ = some (.slice Al nl cl) := cell_below c35 (World.block_lt_of_cell? w6 _ c35) B7.out
     refine doStep_do _ rfl (by rfl) (fun KK hK => ?_)
     go_simp
     refine hK.out _ _ (range_of_row (cs := la) R7u.out) (fun hS' => ?_)
     clear hS' hK c35 c357
     have HR7 : Hid (Rd w7 (some ⟨w6.heap.size, 0, none⟩) la) := h_ (range_rd (range_of_row (cs := la) R7n.out))
     refine wpS_do _ rfl (by rfl) (fun KK hK => ?_)
     refine wp_append_rd _ _ _ 26 rfl N 31 _ 65 80 Tryz.underlying26 info_up65 (by simp [Value.cells, b8s]) (by decide) (.slice Al nl cl) nl _ rfl HO7.out _ 1 1 la rfl (by rw [HLL.out]) HR7.out HO1.out (by unfold maxLen; omega) (by omega) HN7.out ?_
     intro v8 w8 ho8 hg8 hvb8
     obtain ⟨A8, c8, e8, _⟩ := own_slice ho8
     subst e8
     have HG8 := h_ hg8
     have HV8 := h_ hvb8
     have HO8 := h_ ho8
     have R8u : Hid (w8.heap[gu]? = some (.cells la.toArray 31 (0, 0))) := h_ ((HG8.out.block _ (b_ R7u) (fun e => HGL.out gu (by rw [HLV.out]; exact e.symm) rfl)).trans R7u.out)
     refine hK.out _ _ (range_of_row (cs := la) R8u.out) (fun hS' => ?_)
     clear hS' hK ho8 hg8 hvb8
     simp only [LY]
     iterate 2 ((first | refine wpS_pass _ rfl (by rfl) ?_ | (refine wpS_take _ ?_ rfl (by rfl) ?_ ?_; rotate_left; (focus (intro w' hS'; (try dsimp only at hS'); (repeat (have hS1 := hS'.1; replace hS' := hS'.2)); go_simp; (try with_reducible rfl); done)))); simp only [LY])
     have hgr8 : w8.heap[gr]? = some (.cells (rowR g ⟨q.mb, lv⟩ { r with all := updA all u, log := r.log ++ t.us.take i }).toArray 83 (0, 0)) := (HG8.out.block _ (RI7.out.foot_lt (.inl rfl)) (fun e => RI7.out.log_ne.2 (by dsimp only; rw [HLV.out]; exact e.symm))).trans RI7.out.row
     refine wpS_store_cell _ rfl (by rfl) 26 _ _ rfl gr 35 rfl (.slice A8 (nl + 1) c8) rfl rfl lv ?_ (row_free hgr8 35) (by kernel_rfl) ?_ ?_
     ·rw [row_cell hgr8]
      exact (rowR_tail g ⟨q.mb, lv⟩ { r with all := updA all u, log := r.log ++ t.us.take i } HKR.out.al).1
     ·intro x v hv
      rw [World.cell?_setCell_far _ _ _ _ (by dsimp only; exact fun e => HGU.out.1 (.inl e.symm))]
      exact range_of_row (cs := la) R8u.out x v hv
     simp only [LY]
     refine wpS_done ?_
     have HN9 : Hid (MkSt N gr g r q t W1 (w8.setCell ⟨gr, 35, none⟩ (.slice A8 (nl + 1) c8)) (i + 1) (.slice A8 (nl + 1) c8)) := h_ (by
      have hf8 : Frm (footR gr q) W1 w8 := F7.out.trans (Frm.of_grown (F := fun b => lv.ownBlock = some b ∨ W1.heap.size ≤ b) HG8.out (fun k hk => .inl (.inl (by rw [HLV.out]; exact hk)))) (fun i hi => by
       rcases hi with hi | hi
       ·exact HS.out.far i hi
       ·exact .inr hi)
      have hgl : gr < w8.heap.size := (Array.getElem?_eq_some_iff.1 hgr8).1
      refine ⟨?_, hf8.trans (Frm.of_cell (F := footR gr q) (.inl rfl)) (fun i hi => .inl hi), fun b hb => ?_⟩
      ·have h9 := row_set hgr8 35 (.slice A8 (nl + 1) c8)
       have h1 := RI7.out.logSet (w' := w8.setCell ⟨gr, 35, none⟩ (.slice A8 (nl + 1) c8)) HKR.out.al (r.log ++ t.us.take (i + 1)) (.slice A8 (nl + 1) c8) h9 ?_ ?_
       ·rw [HTK.out, List.foldl_append, HALL.out]
        rw [HTK.out] at h1
        exact h1
       ·rw [Below.heap_setCell _ _ _ _ (by dsimp only; exact Ne.symm RI7.out.gr_ne)]
        exact HG8.out.block _ (RI7.out.foot_lt (.inr (.inl rfl))) (fun e => RI7.out.log_ne.1 (by dsimp only; rw [HLV.out]; exact e.symm))
       ·have h2 : (r.log ++ t.us.take (i + 1)).length = nl + 1 := by rw [HTK.out, ← List.append_assoc, List.length_append, HNL.out]; rfl
        rw [h2, HTK.out, ← List.append_assoc, upsC_app, show upsC [u] = la by rw [← HLA.out]; simp [upsC]]
        refine own_keep HO8.out (fun b hb hl => Below.heap_setCell _ _ _ _ ?_)
        dsimp only
        rcases HV8.out with e | e
        ·rw [e] at hb
         exact fun e2 => RI7.out.log_ne.2 (by dsimp only; rw [HLV.out, hb, e2])
        ·rw [e] at hb
         have h3 := Option.some.inj hb
         have h4 := RI7.out.foot_lt (b := gr) (.inl rfl)
         omega
      ·rcases HV8.out with e | e
       ·rw [e] at hb
        exact HS.out.far b (by rw [HLV.out]; exact hb)
       ·rw [e] at hb
        cases hb
        exact .inr F7.out.size)
     clear hgr8 HG8 HV8 HO8 R8u HR7 RI7 R7n R7u HO7 HN7 F7
     generalize w8.setCell ⟨gr, 35, none⟩ (.slice A8 (nl + 1) c8) = w9 at *
     go_wp2_with fail
     rw [← HA.out]
     go_roundg (n - (i + 1))
     case measure => omega
     case rel => exact ⟨i + 1, _, by omega, rfl, by first | rfl | exact congrArg (Value.int .i64) (by omega) | go_num, HN9⟩
 ·obtain rfl : i = n := by omega
  have HTE : Hid (t.us.take i = t.us) := h_ (List.take_of_length_le (by rw [HN.out]; exact Nat.le_refl _))
  have HRI : Hid (RfIn N wr gr g { r with all := t.us.foldl updA r.all, log := r.log ++ t.us } ⟨q.mb, lv⟩) := h_ (by have h1 := HS.out.rin; rw [HTE.out] at h1; exact h1)
  have hrow := (HRF.out _ HS.out.frm).2
  have c1 : wr.cell? ⟨g1, 1, none⟩ = some (.string X) := by rw [← HX.out]; exact (tx_cells hrow).2.1
  have HAT : Hid (wr.rangeAt g1 2 (b8s t.at_)) := h_ (tx_cells hrow).2.2
  have cr0 := HRI.out.cells.2.2
  have hgL : gr < wr.heap.size := HRI.out.foot_lt (.inl rfl)
  have HGG : Hid (g1 ≠ gr) := h_ (fun e => HFG.out (.inl e))
  have HFRM : Hid (Frm (footR gr q) w wr) := h_ ((Frm.of_below (F := footR gr q) HB1.out).trans HS.out.frm (fun i hi => .inl hi))
  have HFAR : Hid (∀ b, lv.ownBlock = some b → footR gr q b ∨ w.heap.size ≤ b) := h_ (fun b hb => by
   have h1 := HB1.out.size
   rcases HS.out.far b hb with h2 | h2
   ·exact .inl h2
   ·exact .inr (by omega))
  obtain ⟨ia, hia⟩ := eX (b8s t.at_)
  have HIAT := h_ (info_idl t.at_ HT.out.al)
  have HIAA := h_ (info_ida t.at_ HT.out.al)
  have HAL32 := h_ HT.out.al
  have hz := id_neq t.at_ Z32 HT.out.al rfl
  rw [z32_lit] at hz
  obtain ⟨qz, hqz⟩ := eX ((!decide (t.at_ = Z32)))
  have HQZ := h_ hqz
  rw [hqz, hia] at hz
  have hgd := id_guard
  have HIAE := h_ hia
  rw [hia] at HAT HIAT HIAA
  have HOIA : Hid (ia.toArray.all (·.oneCell') = true) := h_ (by rw [← hia]; exact all_oneCell_toArray (b8s_one' _))
  have fr2 : wr.frozen? ⟨gr, 2, none⟩ = false := HRI.out.froz 2
  clear hia hqz hrow
  by_cases hhd : t.head = []
  ·have hem : X.toList.isEmpty = true := by rw [tl_data, HXS.out, hhd]; rfl
   cases qz with
   | true =>
     obtain ⟨WC, hWC⟩ := eX (wr.setCell ⟨gr, 2, none⟩ (.string ⟨#[]⟩))
     have HMK : Hid (makeR r t = { r with all := t.us.foldl updA r.all, log := r.log ++ t.us, head := [], at_ := t.at_ }) := h_ (by
      have h1 : t.at_ ≠ Z32 := by
       intro e
       have h2 := HQZ.out
       rw [e] at h2
       simp at h2
      unfold makeR
      simp [hhd, h1])
     have HIR : Hid (RfIn N wr gr g { r with all := t.us.foldl updA r.all, log := r.log ++ t.us } ⟨q.mb, lv⟩) := HRI
     have hr2 := row_head HIR.out.row []
     rw [show strV [] = .string ⟨#[]⟩ from rfl, hWC] at hr2
     obtain ⟨ht3, hr3⟩ := row_at hr2 HKR.out.al t.at_ HAL32.out
     rw [HIAE.out] at hr3
     obtain ⟨WD, hWD⟩ := eX (WC.setCells gr 3 ia)
     rw [hWD] at hr3
     have hgc : wr.grownBy WC (some gr) := by rw [← hWC]; exact grown_set gr 2 _
     have hgd2 : WC.grownBy WD (some gr) := by rw [← hWD]; exact setCells_grown _ _ _ _
     have HGD := h_ (grown_trans1 hgc hgd2)
     have HRF2 : Hid (RfIn N WD gr g (makeR r t) ⟨q.mb, lv⟩) := h_ (by rw [HMK.out]; exact HIR.out.rowSet HGD.out hr3 rfl rfl)
     have HT3 : Hid (WC.there gr 3 ia.toArray.size) := h_ (by rw [← HIAE.out, arr_size t.at_ HAL32.out]; exact ht3)
     have HATC : Hid (WC.rangeAt g1 2 ia) := h_ (fun x v hv => by rw [← hWC, World.cell?_setCell_far _ _ _ _ (by dsimp only; exact Ne.symm HGG.out)]; exact HAT.out x v hv)
     have HATD : Hid (WD.rangeAt g1 2 ia) := h_ (fun x v hv => (World.cell?_of_block (a := ⟨g1, 2 + x, none⟩) (hgd2.block g1 (World.block_lt_of_cell? WC _ (HATC.out x v hv)) (by simpa using HGG.out))).trans (HATC.out x v hv))
     have HWDE := h_ hWD
     have fr2 : wr.frozen? ⟨gr, 2, none⟩ = false := HIR.out.froz 2
     have cr2 : wr.cell? ⟨gr, 2, none⟩ = some (strV r.head) := HIR.out.cells.2.2
     have HE2 : Hid ((wr.drew.setCell ⟨gr, 2, none⟩ (.string ⟨#[]⟩)).setCells gr 3 ia.toArray.toList = WD.drew) := h_ (by
      have h9 := setCells_drew gr ia 3 (wr.setCell ⟨gr, 2, none⟩ (.string ⟨#[]⟩))
      rw [hWC, HWDE.out] at h9
      rw [← hWC] at h9
      exact h9)
     clear hr2 ht3 hr3 hgc hgd2 hWD
     go_wp2_with ((with_reducible (refine wpList_load_cells 24 _ g1 2 (ia) HAT.out Tryz.underlying24 rfl HIAT.out ?_ rfl ?_ ?_)); exact rfl; (exact rfl))
     refine wp_region_sched (fun w' => w'.rangeAt g1 2 ia) [(true, 0), (true, 1), (true, 2), (true, 3), (true, 4), (true, 5), (false, 6), (true, 7), (true, 8), (false, 9)] (by kernel_rfl) (by kernel_rfl) rfl (by kernel_rfl) HAT.out ?_
     iterate 3 ((first | refine wpS_pass _ rfl (by rfl) ?_ | (refine wpS_take _ ?_ rfl (by rfl) ?_ ?_; rotate_left; (focus (intro w' hS'; (try dsimp only at hS'); (repeat (have hS1 := hS'.1; replace hS' := hS'.2)); go_simp; (try with_reducible rfl); done)))); simp only [LY])
     refine wpS_load _ rfl (by rfl) 24 _ rfl g1 2 rfl ia _ (fun w' hS => hS) Tryz.underlying24 rfl HIAT.out ?_
     simp only [LY]
     iterate 2 ((first | refine wpS_pass _ rfl (by rfl) ?_ | (refine wpS_take _ ?_ rfl (by rfl) ?_ ?_; rotate_left; (focus (intro w' hS'; (try dsimp only at hS'); (repeat (have hS1 := hS'.1; replace hS' := hS'.2)); go_simp; (try with_reducible rfl); done)))); simp only [LY])
     refine wpS_store_cell _ rfl (by rfl) 9 _ _ rfl gr 2 rfl (.string ⟨#[]⟩) rfl rfl (strV r.head) cr2 fr2 (by kernel_rfl) ?_ ?_
     ·show (wr.setCell ⟨gr, 2, none⟩ (.string ⟨#[]⟩)).rangeAt g1 2 ia
      rw [hWC]
      exact HATC.out
     simp only [LY]
     iterate 2 ((first | refine wpS_pass _ rfl (by rfl) ?_ | (refine wpS_take _ ?_ rfl (by rfl) ?_ ?_; rotate_left; (focus (intro w' hS'; (try dsimp only at hS'); (repeat (have hS1 := hS'.1; replace hS' := hS'.2)); go_simp; (try with_reducible rfl); done)))); simp only [LY])
     refine wpS_store_mid _ rfl (by rfl) 24 _ _ rfl gr 3 ia.toArray rfl rfl (by have h9 := HT3.out; rw [← hWC] at h9; exact h9) HIAA.out HOIA.out ?_ ?_
     ·rw [HE2.out]
      exact HATD.out
     refine wpS_done ?_
     have HFIN : Hid (RfIn N ((wr.drew.setCell ⟨gr, 2, none⟩ (.string ⟨#[]⟩)).setCells gr 3 ia.toArray.toList) gr g (makeR r t) ⟨q.mb, lv⟩ ∧ wr.grownBy ((wr.drew.setCell ⟨gr, 2, none⟩ (.string ⟨#[]⟩)).setCells gr 3 ia.toArray.toList) (some gr)) := h_ (by
      rw [HE2.out]
      exact ⟨HRF2.out.keep (fun _ _ => rfl), ⟨HGD.out.os, HGD.out.tape, HGD.out.output, HGD.out.size, HGD.out.block⟩⟩)
     generalize (wr.drew.setCell ⟨gr, 2, none⟩ (.string ⟨#[]⟩)).setCells gr 3 ia.toArray.toList = WZ at *
     go_wp2_with fail
     go_end0
     exact ⟨rfl, lv, HFIN.out.1, HFRM.out.trans (grown_frm (F := footR gr q) HFIN.out.2 (.inl rfl)) (fun i hi => .inl hi), by first | exact HFAR.out | (rw [← hg]; exact HFAR.out)⟩
   | false =>
     have HMK : Hid (makeR r t = { r with all := t.us.foldl updA r.all, log := r.log ++ t.us }) := h_ (by
      have h1 : ¬ (t.at_ ≠ Z32) := by
       intro e
       have h2 := HQZ.out
       simp at h2
       exact e h2
      have h2 : t.at_ = Z32 := by simpa using h1
      unfold makeR
      simp [hhd, h2])
     go_wp2_with ((with_reducible (refine wpList_load_cells 24 _ g1 2 (ia) HAT.out Tryz.underlying24 rfl HIAT.out ?_ rfl ?_ ?_)); exact rfl; (exact rfl))
     go_end0
     exact ⟨rfl, lv, by rw [HMK.out]; exact HRI.out, HFRM.out, by first | exact HFAR.out | (rw [← hg]; exact HFAR.out)⟩
  ·have hem : X.toList.isEmpty = false := by rw [tl_data, HXS.out, List.isEmpty_eq_false_iff]; exact hhd
   have HMK : Hid (makeR r t = { r with all := t.us.foldl updA r.all, log := r.log ++ t.us, head := t.head, at_ := Z32 }) := h_ (by
    unfold makeR
    simp [hhd])
   obtain ⟨WC, hWC⟩ := eX (wr.setCell ⟨gr, 2, none⟩ (.string X))
   have hr2 := row_head HRI.out.row t.head
   rw [HX.out, hWC] at hr2
   obtain ⟨ht3, hr3⟩ := row_at hr2 HKR.out.al Z32 rfl
   obtain ⟨WD, hWD⟩ := eX (WC.setCells gr 3 (b8s Z32))
   rw [hWD] at hr3
   have hgc : wr.grownBy WC (some gr) := by rw [← hWC]; exact grown_set gr 2 _
   have hgd2 : WC.grownBy WD (some gr) := by rw [← hWD]; exact setCells_grown _ _ _ _
   have HGD := h_ (grown_trans1 hgc hgd2)
   have HRF2 : Hid (RfIn N WD gr g (makeR r t) ⟨q.mb, lv⟩) := h_ (by rw [HMK.out]; exact HRI.out.rowSet HGD.out hr3 rfl rfl)
   have HT3 : Hid (WC.there gr 3 (b8s Z32).toArray.size) := h_ (by rw [arr_size Z32 rfl]; exact ht3)
   have HWDE : Hid (WC.setCells gr 3 (b8s Z32).toArray.toList = WD) := h_ hWD
   have HZ1 := h_ (info_ida Z32 rfl)
   have HZ2 : Hid ((b8s Z32).toArray.all (·.oneCell') = true) := h_ (all_oneCell_toArray (b8s_one' _))
   have cr2 : wr.cell? ⟨gr, 2, none⟩ = some (strV r.head) := HRI.out.cells.2.2
   clear hr2 ht3 hr3 hgc hgd2 hWD cr0
   go_wp2_with ((with_reducible (refine wpList_store_mid rfl _ _ _ rfl ?_ ?_ ?_ ?_ ?_ ?_ ?_ ?_ ?_)); exact gr; exact 3; (exact (b8s Z32).toArray); exact rfl; exact rfl; exact HT3.out; exact HZ1.out; exact HZ2.out; rw [HWDE.out])
   go_end0
   exact ⟨rfl, lv, HRF2.out, HFRM.out.trans (grown_frm (F := footR gr q) HGD.out (.inl rfl)) (fun i hi => .inl hi), by first | exact HFAR.out | (rw [← hg]; exact HFAR.out)⟩
def headR (r : RfM) : List UInt8 := if r.head = [] then r.at_ else getA r.all r.head
set_option maxRecDepth 100000 in
set_option maxHeartbeats 4000000 in
theorem head_any {N gr g : Nat} {w : World} {r : RfM} {q : QA} (h : RfIn N w gr g r q) (hk : RfOk r) :
  Calls Tryz.prog 13 #[.pointer (some ⟨gr, 0, none⟩)] w fun e w' => e = .returned (.tuple #[strV r.head, .agg (b8s (headR r)).toArray]) ∧ Below w.heap.size w w' := by
 obtain ⟨id, hid⟩ := eX (headR r)
 have hl : id.length = 32 := by
  rw [← hid]
  unfold headR
  split
  ·exact hk.al
  ·exact getA_len hk.ids _
 obtain ⟨Hz, Wa, W5, hH, hWa, hW5, HTH, HR5, HB5, _⟩ := arr_place (w := w) 24 id hl
 have HWZ : Hid (∃ cs, Wa.heap[Hz]? = some (.cells cs 24 (0, 0))) := by
  rw [← hWa, ← hH]
  exact h_ ⟨_, heap_alloc_new w _⟩
 have hba : Below w.heap.size w Wa := by rw [← hWa]; exact (Below.refl _ _).alloc (Nat.le_refl _) _
 have ha := h_ (h.below hba)
 have HB5' : Hid (Below w.heap.size w W5) := HB5
 obtain ⟨X, hX, hXs⟩ : ∃ X : ByteArray, strV r.head = .string X ∧ X.data.toList = r.head := ⟨_, rfl, rfl⟩
 have hXm : X.size ≤ 140737488355328 := by
  have h1 := size_toList X
  rw [hXs] at h1
  have := hk.hd
  omega
 have c1 : Wa.cell? ⟨gr, 1, none⟩ = some (.map (some q.mb)) := ha.out.cells.2.1
 have c2 : Wa.cell? ⟨gr, 2, none⟩ = some (.string X) := by rw [← hX]; exact ha.out.cells.2.2
 have HIA := h_ (info_ida id hl)
 have HIL := h_ (info_idl id hl)
 have HOC : Hid ((b8s id).toArray.all (·.oneCell') = true) := h_ (all_oneCell_toArray (b8s_one' _))
 have HW5 := h_ hW5
 have HGR : Hid (gr ≠ Hz) := h_ (by have := h.foot_lt (.inl rfl); omega)
 have HHL := h_ hH
 have HID := h_ hid
 have HXS := h_ hXs
 rw [hX, hid]
 clear h hk hid hba hW5 hX hXs
 by_cases hh : X.data.toList = []
 ·have hem : X.toList.isEmpty = true := by rw [tl_data, hh]; rfl
  have hX0 : X = ⟨#[]⟩ := ba_ext hh
  have HAT : Hid (Wa.rangeAt gr 3 (b8s id)) := h_ (by
   have h1 := ha.out.at_
   have h2 : headR _ = id := HID.out
   unfold headR at h2
   rw [if_pos (by rw [← HXS.out]; exact hh)] at h2
   rw [h2] at h1
   exact h1)
  have HATS : Hid (∀ u, (Wa.setCells Hz 0 (b8s id)).cell? u = W5.cell? u) := h_ (fun u => by rw [show (b8s id) = (b8s id).toArray.toList from rfl, HW5.out])
  clear hh HXS
  subst hX0
  go_enter Tryz.func13, Tryz.ntmps13
  go_wp2_with fail
  refine wp_region_sched (fun w' => w'.rangeAt gr 3 (b8s id)) [(true, 0), (true, 1), (true, 2), (true, 3), (true, 4), (false, 5)] (by kernel_rfl) (by kernel_rfl) rfl (by kernel_rfl) HAT.out ?_
  iterate 3 ((first | refine wpS_pass _ rfl (by rfl) ?_ | (refine wpS_take _ ?_ rfl (by rfl) ?_ ?_; rotate_left; (focus (intro w' hS'; (try dsimp only at hS'); (repeat (have hS1 := hS'.1; replace hS' := hS'.2)); go_simp; (try with_reducible rfl); done)))); simp only [LY])
  refine wpS_load _ rfl (by rfl) 24 _ rfl gr 3 rfl (b8s id) _ (fun w' hS => hS) Tryz.underlying24 rfl HIL.out ?_
  simp only [LY]
  ((first | refine wpS_pass _ rfl (by rfl) ?_ | (refine wpS_take _ ?_ rfl (by rfl) ?_ ?_; rotate_left; (focus (intro w' hS'; (try dsimp only at hS'); (repeat (have hS1 := hS'.1; replace hS' := hS'.2)); go_simp; (try with_reducible rfl); done)))); simp only [LY])
  refine wpS_store_mid _ rfl (by rfl) 24 _ _ rfl Hz 0 (b8s id).toArray rfl rfl HTH.out HIA.out HOC.out ?_ ?_
  ·rw [setCells_drew, HW5.out]
   intro x v hv
   rw [← HW5.out]
   exact (World.cell?_of_block (a := ⟨gr, 3 + x, none⟩) (setCells_other Hz _ 0 Wa gr HGR.out)).trans (HAT.out x v hv)
  refine wpS_done ?_
  rw [setCells_drew, HW5.out]
  have HR5d : Hid (W5.drew.heap[Hz]? = some (.cells (b8s id).toArray 24 (0, 0))) := h_ HR5.out
  have HB5d : Hid (Below w.heap.size w W5.drew) := h_ HB5'.out.drew
  generalize W5.drew = W6 at *
  go_wp2_with fail
  refine bodyPost_ret (results_tmp_row rfl _ _ _ _ _ _ _ rfl HR5d.out Tryz.underlying24 rfl HIA.out) rfl ?_
  exact ⟨rfl, by first | exact HB5d.out | (rw [← hH]; exact HB5d.out)⟩
 ·have hem : X.toList.isEmpty = false := by rw [tl_data, List.isEmpty_eq_false_iff]; exact hh
  have HMP : Hid (Hid (Wa.ownsMap Tryz.prog 9 idR q.mb r.all.length (mapA idD r.all))) := h_ (h_ ha.out.map)
  have HGT : Hid (getA r.all X.data.toList = id) := h_ (by
   have h2 := HID.out
   unfold headR at h2
   rw [if_neg (by rw [← HXS.out]; exact hh), ← HXS.out] at h2
   exact h2)
  clear hh HXS
  go_enter Tryz.func13, Tryz.ntmps13
  go_wp2_with fail
  refine wp_region_sched (fun w' => w'.cell? ⟨gr, 1, none⟩ = some (.map (some q.mb)) ∧ w'.cell? ⟨gr, 2, none⟩ = some (.string X) ∧ Hid (w'.ownsMap Tryz.prog 9 idR q.mb r.all.length (mapA idD r.all))) [(true, 0), (true, 1), (true, 2), (true, 3), (true, 4), (true, 5), (true, 6), (true, 7), (true, 8), (true, 9), (true, 10), (true, 11), (true, 12), (true, 13), (false, 14)] (by kernel_rfl) (by kernel_rfl) rfl (by kernel_rfl) ⟨c1, c2, HMP.out⟩ ?_
  iterate 12 ((first | refine wpS_pass _ rfl (by rfl) ?_ | (refine wpS_take _ ?_ rfl (by rfl) ?_ ?_; rotate_left; (focus (intro w' hS'; (try dsimp only at hS'); (repeat (have hS1 := hS'.1; replace hS' := hS'.2)); go_simp; (try with_reducible rfl); done)))); simp only [LY])
  refine wpS_take _ (.agg (b8s id).toArray) rfl (by rfl) (fun w' hS' => exec_lookup _ _ _ rfl _ _ _ rfl rfl (by have h1 := rlook_any hS'.2.2.out X (by unfold maxLen; omega); rw [HGT.out] at h1; exact h1)) ?_
  simp only [LY]
  ((first | refine wpS_pass _ rfl (by rfl) ?_ | (refine wpS_take _ ?_ rfl (by rfl) ?_ ?_; rotate_left; (focus (intro w' hS'; (try dsimp only at hS'); (repeat (have hS1 := hS'.1; replace hS' := hS'.2)); go_simp; (try with_reducible rfl); done)))); simp only [LY])
  refine wpS_store_mid _ rfl (by rfl) 24 _ _ rfl Hz 0 (b8s id).toArray rfl rfl HTH.out HIA.out HOC.out ?_ ?_
  ·rw [setCells_drew, HW5.out]
   have hk : ∀ k, k ≠ Hz → W5.heap[k]? = Wa.heap[k]? := fun k hk => by rw [← HW5.out]; exact setCells_other Hz _ 0 Wa k hk
   refine ⟨(World.cell?_of_block (a := ⟨gr, 1, none⟩) (hk gr HGR.out)).trans c1, (World.cell?_of_block (a := ⟨gr, 2, none⟩) (hk gr HGR.out)).trans c2, h_ ?_⟩
   obtain ⟨es, clock, h1, h2⟩ := HMP.out.out
   refine ⟨es, clock, (hk q.mb (fun e => ?_)).trans h1, h2⟩
   obtain ⟨cs, h4⟩ := HWZ.out
   rw [e, h4] at h1
   cases h1
  refine wpS_done ?_
  rw [setCells_drew, HW5.out]
  have HR5d : Hid (W5.drew.heap[Hz]? = some (.cells (b8s id).toArray 24 (0, 0))) := h_ HR5.out
  have HB5d : Hid (Below w.heap.size w W5.drew) := h_ HB5'.out.drew
  generalize W5.drew = W6 at *
  go_wp2_with fail
  refine bodyPost_ret (results_tmp_row rfl _ _ _ _ _ _ _ rfl HR5d.out Tryz.underlying24 rfl HIA.out) rfl ?_
  exact ⟨rfl, by first | exact HB5d.out | (rw [← hH]; exact HB5d.out)⟩
end Go.Proofs.YtelbofikcpchiaaGreat
