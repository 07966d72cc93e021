/- The law's same: refs are the document's, and so is their file. (Printed by wip/genRg13.py.) -/
import Derived.Test.YtelbofikcpchiaaGreatRg10
import Derived.Test.YtelbofikcpchiaaGreatQV
import Derived.Test.YtelbofikcpchiaaGreatQH
namespace Go.Proofs.YtelbofikcpchiaaGreat
open Go.RowKit
theorem exec_build {P : Program} {a : Act} {o : Oper} {w : World} (t : TypeId) (parts : Array (Nat × Operand)) (ho : o.op = .build t parts) (ps : List (Nat × Value)) (hps : (parts.toList.map fun (i, x) => (i, a.eval x)) = ps) (cs : Array Value) (hf : P.built t ps = some cs) : (execOp a.eval o).run P w = .ok (.value (.agg cs)) w := by
 have e : (parts.map fun (i, x) => (i, a.eval x)).toList = ps := by rw [Array.toList_map]; exact hps
 unfold execOp
 simp only [ho, Sem.run_bind, run_build w t _ cs (by rw [e]; exact hf), Result.andThen_ok]
 rfl
theorem upr_guard : Program.eqGuardType Tryz.prog Tryz.prog.depth 31 = false := by kernel_rfl
theorem keysC_sts {α : Type} (al : AL α) : keysC al = sts (al.map fun p => (⟨p.1.toArray⟩ : ByteArray)) := by
 unfold keysC sts
 rw [List.map_map]
 rfl
set_option maxRecDepth 1000000 in
set_option maxHeartbeats 16000000 in
theorem rsame_any {N g gr K L K' L' : Nat} {F : Nat → Prop} {m m2 : DM} {d : DA} {q : QA} {r : RfM} {w : World} (hdr : DR N w g m d gr r q) (hfm : Fit K L m) (hK : K < 999999) (hL : L ≤ 1000000) (hok : RfOk r) (hgl : GL r) (n : Nat) (hn : r.log.length = n) (hll : n ≤ 1000000 ∧ r.all.length ≤ 1000000)
  (R : RA) (hin : RIn F w R m2) (hf2 : Fit K' L' m2) (hK' : K' ≤ 1000) (A : Option Addr) (c : Nat) (hlr : Rd w A (upsC r.log)) (X : List UInt8) (hX : X.length ≤ 1000000) (h1 : readM m refsB = (X, 0)) (h2 : readM m2 refsB = (X, 0)) :
  Calls Tryz.prog 24 #[.pointer (some ⟨g, 0, none⟩), .pointer (some ⟨gr, 0, none⟩), rfV R m2 A c r] w fun e w' => e = .returned (.bool true) ∧ Below w.heap.size w w' := by
 have HOK := h_ hok
 have HGL := h_ hgl
 have HN := h_ hn
 have HDR := h_ hdr
 have HFM := h_ hfm
 have HF2 := h_ hf2
 have HIN := h_ hin
 have HLR := h_ hlr
 have HX1 := h_ h1
 have HX2 := h_ h2
 have HGA := h_ (fun (S : ByteArray) (W : World) (hb : Below w.heap.size w W) => rget_any R m2 A c r S W hok (by omega) (hlr.below hb))
 have HNA := h_ (fun (W : World) (hb : Below w.heap.size w W) => rnamesD_any R m2 A c r W hok hgl n hn hll.1 hll.2 (hlr.below hb))
 obtain ⟨g5, hg5⟩ := eX w.heap.size
 obtain ⟨W1, hW1⟩ := eX (w.alloc (.cells (rfR R m2 A c r).toArray 65))
 obtain ⟨r1, b1, s1⟩ := new_row hW1
 rw [hg5] at r1
 obtain ⟨X8, hX8, hXs⟩ : ∃ Y : ByteArray, strV r.head = .string Y ∧ Y.data.toList = r.head := ⟨_, rfl, rfl⟩
 have HX8 := h_ hX8
 have HXS := h_ hXs
 have HRW : Hid (∀ W, Below W1.heap.size W1 W → Below w.heap.size w W ∧ W.cell? ⟨g5, 7, none⟩ = some (.slice A n c) ∧ W.cell? ⟨g5, 8, none⟩ = some (.string X8) ∧ W.rangeAt g5 0 (rfR R m2 A c r) ∧ W.rangeAt g5 9 (b8s r.at_) ∧ W.rangeAt g5 0 (rowQ R m2)) := h_ (fun W hb => by
  have hw := b1.trans (hb.mono b1.size)
  have h1 := (hb.block _ (Array.getElem?_eq_some_iff.1 r1).1).trans r1
  refine ⟨hw, by rw [← hn]; exact (rf_cells h1).1, by rw [← hX8]; exact (rf_cells h1).2.1, range_of_row h1, (rf_cells h1).2.2, fun j v hv => ?_⟩
  have h9 := range_of_row h1 j v
  rw [rfR_split7, List.nil_append] at h9
  exact h9 (by rw [List.getElem?_append_left (List.getElem?_eq_some_iff.1 hv).1]; exact hv))
 have HIR := h_ (info_rfl (R := R) (m := m2) (A := A) (c := c) hok.al)
 have HI7 := h_ (info_dkl R m2)
 have HKS := h_ (keysC_sts r.all)
 unfold rfV at HGA HNA ⊢
 obtain ⟨lr, hlr_⟩ := eX (rfR R m2 A c r)
 rw [hlr_] at hW1 HGA HNA HRW HIR ⊢
 have HB1 := h_ b1
 have HDR1 := h_ (hdr.below b1)
 have HLG := h_ (log_any HDR1.out.refs hok (by omega))
 rw [hn] at HLG
 have HVM : Hid (Hid (X.length ≤ 1000000)) := h_ (h_ hX)
 clear hok hgl hn hdr hfm hf2 hin hlr h1 h2 r1 b1 s1 hX8 hXs hlr_ hX
 go_enter Tryz.func24, Tryz.ntmps24
 go_wp2_with fail
 clear hW1
 refine HLG.out.mono ?_
 clear HLG
 rintro e w2 ⟨AL, cL, rfl, hol, hb2⟩
 have HOL := h_ hol
 have HB2 := h_ hb2
 have HDR2 := h_ (HDR1.out.below hb2)
 have z1 : ((n : Int) == (n : Int)) = true := by simp
 have c7 : w2.cell? ⟨g5, 7, none⟩ = some (.slice A n c) := (HRW.out _ HB2.out).2.1
 clear hol hb2
 go_wp2_with fail
 refine wp_region_sched (fun W => W.cell? ⟨g5, 7, none⟩ = some (.slice A n c) ∧ W.rangeAt g5 0 lr) [(true, 0), (true, 1), (true, 2), (true, 3), (true, 4), (true, 5), (true, 6), (true, 7), (true, 9), (false, 8), (false, 10), (false, 11), (true, 12), (true, 13)] (by kernel_rfl) (by kernel_rfl) rfl (by kernel_rfl) ⟨c7, (HRW.out _ HB2.out.drew).2.2.2.1⟩ ?_
 iterate 8 ((first | refine wpS_pass _ rfl (by rfl) ?_ | (refine wpS_take _ ?_ rfl (by rfl) ?_ ?_; rotate_left; (focus (intro w' hS'; (try dsimp only at hS'); (repeat (have hS1 := hS'.1; replace hS' := hS'.2)); go_simp; (try with_reducible rfl); done)))); simp only [LY])
 refine wpS_load _ rfl (by rfl) 65 _ rfl g5 0 rfl lr _ (fun w' hS => hS.2) Tryz.underlying65 rfl HIR.out ?_
 simp only [LY]
 refine wpS_do _ rfl (by rfl) (fun KK hKK => ?_)
 go_simp
 refine (rnames_any (HDR2.out.refs.below (Below.refl _ _).drew) HOK.out hll.2).mono ?_
 rintro e w3 ⟨v3, rfl, hov, hb3⟩
 obtain ⟨A3, c3, rfl, _⟩ := own_slice hov
 have HB3 : Hid (Below W1.heap.size W1 w3) := h_ (HB2.out.trans (((Below.refl _ _).drew.trans hb3).mono HB2.out.size))
 have HOL3 := h_ (own_below HOL.out ((Below.refl _ _).drew.trans hb3))
 have HRV3 : Hid (Rd w3 A3 (keysC r.all)) := h_ (own_rd hov)
 refine hKK.out _ _ ⟨(HRW.out _ HB3.out).2.1, (HRW.out _ HB3.out).2.2.2.1⟩ (fun hS => ?_)
 clear hKK hS hov hb3 c7
 refine wpS_do _ rfl (by rfl) (fun KK hKK => ?_)
 go_simp
 refine (HNA.out w3 (HRW.out _ HB3.out).1).mono ?_
 rintro e w4 ⟨A4, c4, rfl, hr4, hb4⟩
 have HB4 := bt_ HB3 hb4
 have HOL4 := h_ (own_below HOL3.out hb4)
 have HTX := h_ (texts_any A3 A4 (r.all.map fun p => (⟨p.1.toArray⟩ : ByteArray)) (r.all.map fun p => (⟨p.1.toArray⟩ : ByteArray)) c3 c4 w4 (by rw [← HKS.out]; exact HRV3.out.below hb4) (by rw [← HKS.out]; exact hr4) (by rw [List.length_map]; omega) (by rw [List.length_map]; omega))
 rw [List.length_map, decide_eq_true rfl] at HTX
 refine hKK.out _ _ ⟨(HRW.out _ HB4.out).2.1, (HRW.out _ HB4.out).2.2.2.1⟩ (fun hS => ?_)
 clear hKK hS hr4 hb4
 refine wpS_do _ rfl (by rfl) (fun KK hKK => ?_)
 go_simp
 refine HTX.out.mono ?_
 rintro e w5 ⟨rfl, hb5⟩
 have HB5 := bt_ HB4 hb5
 have HOL5 := h_ (own_below HOL4.out hb5)
 refine hKK.out _ _ ⟨(HRW.out _ HB5.out).2.1, (HRW.out _ HB5.out).2.2.2.1⟩ (fun hS => ?_)
 clear hKK hS hb5 HTX
 iterate 2 ((first | refine wpS_pass _ rfl (by rfl) ?_ | (refine wpS_take _ ?_ rfl (by rfl) ?_ ?_; rotate_left; (focus (intro w' hS'; (try dsimp only at hS'); (repeat (have hS1 := hS'.1; replace hS' := hS'.2)); go_simp; (try with_reducible rfl); done)))); simp only [LY])
 refine wpS_done ?_
 have c7 : w5.cell? ⟨g5, 7, none⟩ = some (.slice A n c) := (HRW.out _ HB5.out).2.1
 go_wp2_with fail
 clear c7
 go_loopg [36] (n * 1) (fun gk_ iv wr => ∃ (i : Nat) (P : List Value), i ≤ n ∧ gk_ = n - i ∧ iv = .int .i64 (i : Int) ∧ Hid (P.length = i * 65) ∧ Hid (wr.ownsRow W1.heap.size 31 65 (.slice AL n cL) n (P ++ upsC (r.log.drop i))) ∧ Hid (Below W1.heap.size W1 wr))
 case atStart => exact ⟨0, [], by omega, by omega, rfl, h_ rfl, HOL5, HB5⟩
 case round =>
 clear HOL5 HB5 HOL4 HB4 HOL3 HB3
 obtain ⟨i, P, hi, rfl, rfl, HPL, HO, HB⟩ := hrel
 by_cases hlt : i < n
 ·have i1 : (i : Int) < (n : Int) := by omega
  have hil : i < r.log.length := by rw [HN.out]; exact hlt
  obtain ⟨u, hu⟩ := eX (r.log[i])
  have HUK : Hid (upOk u) := h_ (HOK.out.log u (by rw [← hu]; exact List.getElem_mem hil))
  obtain ⟨b, o, hA, hrow⟩ := log_row (HLR.out.below (HRW.out _ HB.out).1) HOK.out.log hil
  rw [hu] at hrow
  have HDRP : Hid (r.log.drop i = u :: r.log.drop (i + 1)) := h_ (by rw [List.drop_eq_getElem_cons hil, hu])
  obtain ⟨gL, cM, eL, hgL, _⟩ := own_some HO.out (by omega)
  obtain ⟨rfl, rfl⟩ : AL = some ⟨gL, 0, none⟩ ∧ cL = cM := by simpa using eL
  have hups : P ++ upsC (r.log.drop i) = (P ++ upC u) ++ upsC (r.log.drop (i + 1)) := by rw [HDRP.out]; simp [upsC]
  have HO2 := h_ HO.out
  rw [hups] at HO2
  have HLRG : Hid (∀ W, Below wr.heap.size wr W → W.rangeAt gL (i * 65) (upC u)) := h_ (fun W hb => by
   have h1 := own_rd (own_below HO2.out hb)
   intro j v hv
   have hj := (List.getElem?_eq_some_iff.1 hv).1
   obtain ⟨b', o', he, hc⟩ := h1 (i * 65 + j) v (by rw [List.getElem?_append_left (by rw [List.length_append, HPL.out]; omega), List.getElem?_append_right (by rw [HPL.out]; omega), HPL.out, Nat.add_sub_cancel_left]; exact hv)
   cases he
   rw [Nat.zero_add] at hc
   exact hc)
  obtain ⟨p9, hp9⟩ := eX wr.heap.size
  obtain ⟨WA, hWA⟩ := eX (wr.alloc (.cells Tryz.zeroCells131 131))
  obtain ⟨rA, bA, sA⟩ := new_row hWA
  rw [hp9, rupZ_eq] at rA
  obtain ⟨WB, hWB, TB, RB, GB⟩ := put_rowR (new := upC u) rA (by rw [upC_len HUK.out]; rfl)
  have hbB : Below wr.heap.size wr WB := bel_grown bA bA.size GB.out (by omega)
  have HBB := h_ hbB
  have HB1B := bt_ HB hbB
  obtain ⟨Y, hY, hYs⟩ : ∃ Y : ByteArray, strV u.name = .string Y ∧ Y.data.toList = u.name := ⟨_, rfl, rfl⟩
  have HYS := h_ hYs
  have HYM : Hid (Y.size ≤ maxLen) := h_ (by
   have h1 := size_toList Y
   rw [hYs] at h1
   have := HUK.out.2.2
   unfold maxLen
   omega)
  have HIL := h_ (rinfo_upl HUK.out)
  have HIA := h_ (rinfo_upa HUK.out)
  have HIRL := h_ (info_upl HUK.out)
  have HOC : Hid ((upC u).toArray.all (·.oneCell') = true) := h_ (all_oneCell_toArray (upC_one u))
  have HIO := h_ (rinfo_l u.old HUK.out.1)
  have HIN2 := h_ (rinfo_l u.new HUK.out.2.1)
  have HUB : Hid (Tryz.prog.built 31 [(0, .string Y), (1, .agg (b8s u.old).toArray), (2, .agg (b8s u.new).toArray)] = some (upC u).toArray) := h_ (by rw [← hY]; exact up_built HUK.out)
  have HNQ : Hid (∀ W, (binOp .neq 31 (.agg (upC u).toArray) (.agg (upC u).toArray)).run Tryz.prog W = .ok (.bool false) W) := h_ (fun W => up_neq HUK.out W)
  obtain ⟨id, hid⟩ := eX (getL r.log u.name)
  have hidl : id.length = 32 := by rw [← hid]; exact getL_len _ (fun u hu => (HOK.out.log u hu).2.1) _
  have HNI : Hid (∀ W, (binOp .neq 24 (.agg (b8s id).toArray) (.agg (b8s id).toArray)).run Tryz.prog W = .ok (.bool false) W) := h_ (fun W => by have h1 := id_neq id id hidl hidl W; rw [decide_eq_true rfl] at h1; exact h1)
  have HGP : Hid (∀ W, Below W1.heap.size W1 W → Calls Tryz.prog 15 #[.pointer (some ⟨gr, 0, none⟩), .string Y] W fun e w' => e = .returned (.agg (b8s id).toArray) ∧ Below W.heap.size W w') := h_ (fun W hb => by
   have h1 := get_any (HDR1.out.refs.below hb) HOK.out Y HYM.out
   rw [HYS.out, HGL.out.get, hid] at h1
   exact h1)
  have HGD : Hid (∀ W, Below W1.heap.size W1 W → Calls Tryz.prog 60 #[.agg lr.toArray, .string Y] W fun e w' => e = .returned (.agg (b8s id).toArray) ∧ Below W.heap.size W w') := h_ (fun W hb => by
   have h1 := HGA.out Y W (HRW.out _ hb).1
   rw [HYS.out, hid] at h1
   exact h1)
  have HS0 : Hid (∀ W, Below WB.heap.size WB W → W.rangeAt gL (i * 65) (upC u) ∧ W.cell? ⟨p9, 0, none⟩ = some (.string Y) ∧ W.rangeAt p9 1 (b8s u.old) ∧ W.rangeAt p9 33 (b8s u.new) ∧ W.rangeAt g5 0 lr) := h_ (fun W hb => by
   have h0 := (hb.block _ (b_ RB)).trans RB.out
   have h1 := up_range (range_of_row h0) HUK.out
   rw [hY] at h1
   simp only [Nat.zero_add] at h1
   exact ⟨HLRG.out W (HBB.out.trans (hb.mono HBB.out.size)), h1.1, h1.2.1, h1.2.2, (HRW.out _ (HB1B.out.trans (hb.mono HB1B.out.size))).2.2.2.1⟩)
  have HRW1 := h_ hrow
  have HA := h_ hA
  have HWB := h_ hWB
  have HTB := h_ TB.out
  have HGL5 : Hid (W1.heap.size ≤ gL) := h_ hgL
  obtain ⟨lu, hlu⟩ := eX (upC u)
  obtain ⟨lo, hlo⟩ := eX (b8s u.old)
  obtain ⟨ln, hln⟩ := eX (b8s u.new)
  obtain ⟨li, hli⟩ := eX (b8s id)
  have HLU := h_ hlu
  rw [hlu] at HIL HIA HIRL HOC HUB HNQ HS0 HRW1 HWB HTB
  rw [hlo] at HIO HUB HS0
  rw [hln] at HIN2 HUB HS0
  rw [hli] at HNI HGP HGD
  rw [hA]
  clear hil hu hA hrow eL hgL hups rA bA sA hWB TB RB GB hbB hY hYs hid hidl hlu hlo hln hli
  go_wp2_with (first
   | ((with_reducible (refine wpList_load_cells 131 _ b (o + i * 65) (lu) HRW1.out Tryz.underlying131 rfl HIL.out ?_ rfl ?_ ?_)); exact rfl; (exact rfl))
   | ((with_reducible (refine wpList_store_mid rfl _ _ _ rfl ?_ ?_ ?_ ?_ ?_ ?_ ?_ ?_ ?_)); exact p9; exact 0; (exact (lu).toArray); exact rfl; exact rfl; exact HTB.out; exact HIA.out; exact HOC.out; rw [HWB.out]))
  clear hWA hp9
  refine wp_region_sched (fun W => W.rangeAt gL (i * 65) lu ∧ W.cell? ⟨p9, 0, none⟩ = some (.string Y) ∧ W.rangeAt p9 1 lo ∧ W.rangeAt p9 33 ln ∧ W.rangeAt g5 0 lr) [(true, 0), (true, 1), (true, 2), (true, 3), (true, 4), (true, 5), (true, 6), (true, 7), (true, 8), (true, 9), (true, 10), (true, 11), (true, 12), (true, 13), (true, 14), (true, 15), (true, 17), (true, 18), (true, 19), (false, 16), (false, 20), (true, 21), (true, 22)] (by kernel_rfl) (by kernel_rfl) rfl (by kernel_rfl) (HS0.out _ (Below.refl _ _).drew) ?_
  iterate 3 ((first | refine wpS_pass _ rfl (by rfl) ?_ | (refine wpS_take _ ?_ rfl (by rfl) ?_ ?_; rotate_left; (focus (intro w' hS'; (try dsimp only at hS'); (repeat (have hS1 := hS'.1; replace hS' := hS'.2)); go_simp; (try with_reducible rfl); done)))); simp only [LY])
  refine wpS_load _ rfl (by rfl) 31 _ rfl gL (i * 65) rfl lu _ (fun w' hS => hS.1) Tryz.underlying31 rfl HIRL.out ?_
  simp only [LY]
  iterate 3 ((first | refine wpS_pass _ rfl (by rfl) ?_ | (refine wpS_take _ ?_ rfl (by rfl) ?_ ?_; rotate_left; (focus (intro w' hS'; (try dsimp only at hS'); (repeat (have hS1 := hS'.1; replace hS' := hS'.2)); go_simp; (try with_reducible rfl); done)))); simp only [LY])
  refine wpS_load _ rfl (by rfl) 23 _ rfl p9 1 rfl lo _ (fun w' hS => hS.2.2.1) Tryz.underlying23 rfl HIO.out ?_
  simp only [LY]
  ((first | refine wpS_pass _ rfl (by rfl) ?_ | (refine wpS_take _ ?_ rfl (by rfl) ?_ ?_; rotate_left; (focus (intro w' hS'; (try dsimp only at hS'); (repeat (have hS1 := hS'.1; replace hS' := hS'.2)); go_simp; (try with_reducible rfl); done)))); simp only [LY])
  refine wpS_load _ rfl (by rfl) 23 _ rfl p9 33 rfl ln _ (fun w' hS => hS.2.2.2.1) Tryz.underlying23 rfl HIN2.out ?_
  simp only [LY]
  refine wpS_take _ (.agg lu.toArray) rfl (by rfl) (fun w' hS' => exec_build _ _ rfl _ rfl _ HUB.out) ?_
  simp only [LY]
  refine wpS_take _ (.bool false) rfl (by rfl) (fun w' hS' => exec_bin _ _ _ _ _ rfl _ _ _ rfl rfl (run_eqGuard_agg w' _ _ _ _ _ _ upr_guard) (HNQ.out w')) ?_
  simp only [LY]
  iterate 4 ((first | refine wpS_pass _ rfl (by rfl) ?_ | (refine wpS_take _ ?_ rfl (by rfl) ?_ ?_; rotate_left; (focus (intro w' hS'; (try dsimp only at hS'); (repeat (have hS1 := hS'.1; replace hS' := hS'.2)); go_simp; (try with_reducible rfl); done)))); simp only [LY])
  refine wpS_load _ rfl (by rfl) 65 _ rfl g5 0 rfl lr _ (fun w' hS => hS.2.2.2.2) Tryz.underlying65 rfl HIR.out ?_
  simp only [LY]
  iterate 2 ((first | refine wpS_pass _ rfl (by rfl) ?_ | (refine wpS_take _ ?_ rfl (by rfl) ?_ ?_; rotate_left; (focus (intro w' hS'; (try dsimp only at hS'); (repeat (have hS1 := hS'.1; replace hS' := hS'.2)); go_simp; (try with_reducible rfl); done)))); simp only [LY])
  refine wpS_do _ rfl (by rfl) (fun KK hKK => ?_)
  go_simp
  refine (HGP.out WB.drew HB1B.out.drew).mono ?_
  rintro e w9 ⟨rfl, hb9⟩
  have HB9 : Hid (Below WB.heap.size WB w9) := h_ ((Below.refl _ _).drew.trans hb9)
  have HB19 : Hid (Below W1.heap.size W1 w9) := h_ (HB1B.out.trans (HB9.out.mono HB1B.out.size))
  refine hKK.out _ _ (HS0.out _ HB9.out) (fun hS => ?_)
  clear hKK hS hb9
  refine wpS_do _ rfl (by rfl) (fun KK hKK => ?_)
  go_simp
  refine (HGD.out w9 HB19.out).mono ?_
  rintro e w10 ⟨rfl, hb10⟩
  have HB10 := bt_ HB9 hb10
  have HB110 : Hid (Below W1.heap.size W1 w10) := h_ (HB1B.out.trans (HB10.out.mono HB1B.out.size))
  refine hKK.out _ _ (HS0.out _ HB10.out) (fun hS => ?_)
  clear hKK hS hb10
  refine wpS_take _ (.bool false) rfl (by rfl) (fun w' hS' => exec_bin _ _ _ _ _ rfl _ _ _ rfl rfl (run_eqGuard_agg w' _ _ _ _ _ _ id_guard) (HNI.out w')) ?_
  simp only [LY]
  ((first | refine wpS_pass _ rfl (by rfl) ?_ | (refine wpS_take _ ?_ rfl (by rfl) ?_ ?_; rotate_left; (focus (intro w' hS'; (try dsimp only at hS'); (repeat (have hS1 := hS'.1; replace hS' := hS'.2)); go_simp; (try with_reducible rfl); done)))); simp only [LY])
  refine wpS_done ?_
  have ho10 := own_below HO2.out (HBB.out.trans (HB10.out.mono HBB.out.size))
  have cL0 : w10.cell? ⟨gL, i * 65, none⟩ = some (.string Y) := by
   have h1 := (HS0.out _ HB10.out).1
   rw [← HLU.out] at h1
   have h2 := h1 0 (strV u.name) rfl
   rw [show strV u.name = .string Y from congrArg Value.string (ba_ext (by rw [HYS.out]))] at h2
   exact h2
  have hxs : (P ++ upC u) ++ upsC (r.log.drop (i + 1)) = P ++ [strV u.name] ++ ((b8s u.old ++ b8s u.new) ++ upsC (r.log.drop (i + 1))) := by simp [upC]
  obtain ⟨W11, hW11, T11, O11, G11⟩ := own_put (vs := [.string ⟨#[116, 117, 114, 110, 101, 100]⟩]) ho10 hxs rfl
  rw [HPL.out] at hW11 T11
  have hW11' : w10.setCell ⟨gL, i * 65, none⟩ (.string ⟨#[116, 117, 114, 110, 101, 100]⟩) = W11 := hW11
  have fL0 : w10.frozen? ⟨gL, i * 65, none⟩ = false := (T11.out 0 (by simp)).2
  have HO11 : Hid (W11.ownsRow W1.heap.size 31 65 (.slice (some ⟨gL, 0, none⟩) n cL) n ((P ++ [.string ⟨#[116, 117, 114, 110, 101, 100]⟩] ++ (b8s u.old ++ b8s u.new)) ++ upsC (r.log.drop (i + 1)))) := h_ (by
   have h1 := O11.out
   simpa [List.append_assoc] using h1)
  have HPL11 : Hid ((P ++ [Value.string ⟨#[116, 117, 114, 110, 101, 100]⟩] ++ (b8s u.old ++ b8s u.new)).length = (i + 1) * 65) := h_ (by
   rw [List.length_append, List.length_append, List.length_append, b8s_length, b8s_length, HPL.out, HUK.out.1, HUK.out.2.1]
   show i * 65 + 1 + (32 + 32) = _
   omega)
  have HB11 : Hid (Below W1.heap.size W1 W11) := h_ (bel_grown HB110.out HB110.out.size G11.out HGL5.out)
  clear ho10 hxs hW11 T11 O11 G11
  go_wp2_with fail
  try rw [← HA.out]
  clear hW11' cL0 fL0
  go_roundg (n - (i + 1))
  case measure => omega
  case rel => exact ⟨i + 1, _, by omega, rfl, by first | rfl | exact congrArg (Value.int .i64) (by omega) | go_num, HPL11, HO11, HB11⟩
 ·obtain rfl : i = n := by omega
  clear hlt HO HPL
  obtain ⟨id, hid⟩ := eX (headR r)
  have hidl : id.length = 32 := by
   rw [← hid]
   unfold headR
   split
   ·exact HOK.out.al
   ·exact getA_len HOK.out.ids _
  have HHD := h_ (head_any (HDR1.out.refs.below HB.out) HOK.out)
  rw [hid, HX8.out] at HHD
  have HID := h_ hid
  have HIDL := h_ hidl
  clear hid hidl
  go_wp2_with fail
  refine HHD.out.mono ?_
  clear HHD
  rintro e w6 ⟨rfl, hb6⟩
  have HB6 := bt_ HB hb6
  clear hb6
  obtain ⟨p11, Wa, W7, hH, hWa, hW7, HTH, HR11, HB7, _⟩ := arr_place (w := w6) 24 id HIDL.out
  have HW7 := h_ hW7
  have HB17 : Hid (Below W1.heap.size W1 W7) := h_ (HB6.out.trans (HB7.out.mono HB6.out.size))
  obtain ⟨p12, Wb, W8, hH2, hWb, hW8, HTH2, HR12, HB8, _⟩ := arr_place (w := W7) 23 r.at_ HOK.out.al
  have HW8 := h_ hW8
  have HB18 : Hid (Below W1.heap.size W1 W8) := h_ (HB17.out.trans (HB8.out.mono HB17.out.size))
  have HR118 : Hid (W8.heap[p11]? = some (.cells (b8s id).toArray 24 (0, 0))) := bl_ HB8.out HR11
  have HP12 : Hid (W7.heap.size = p12 ∧ p11 < W7.heap.size ∧ W1.heap.size ≤ p12) := h_ ⟨hH2, (b_ HR11), by have := HB17.out.size; omega⟩
  have HI11 := h_ (info_ida id HIDL.out)
  have HI11L := h_ (info_idl id HIDL.out)
  have HO11 : Hid ((b8s id).toArray.all (·.oneCell') = true) := h_ (all_oneCell_toArray (b8s_one' _))
  have HI12 := h_ (rinfo_a r.at_ HOK.out.al)
  have HI12L := h_ (rinfo_l r.at_ HOK.out.al)
  have HO12 : Hid ((b8s r.at_).toArray.all (·.oneCell') = true) := h_ (all_oneCell_toArray (b8s_one' _))
  have HRG9 : Hid (W7.rangeAt g5 9 (b8s r.at_)) := h_ (HRW.out _ HB17.out).2.2.2.2.1
  have c88 : W8.cell? ⟨g5, 8, none⟩ = some (.string X8) := (HRW.out _ HB18.out).2.2.1
  obtain ⟨la, hla⟩ := eX (b8s r.at_)
  have HLA := h_ hla
  obtain ⟨li, hli⟩ := eX (b8s id)
  have HLI := h_ hli
  rw [hla] at HTH2 HW8 HR12 HI12 HI12L HO12 HRG9
  rw [hli] at HTH HW7 HR11 HR118 HI11 HI11L HO11 ⊢
  clear hla hli hW7 hW8
  by_cases hh : r.head = []
  ·have hem : X8.toList.isEmpty = true := by rw [tl_data, HXS.out, hh]; rfl
   have HEQ : Hid (id = r.at_) := h_ (by rw [← HID.out]; unfold headR; rw [if_pos hh])
   have HLL : Hid (la = li) := h_ (by rw [← HLA.out, ← HLI.out, HEQ.out])
   clear hh
   go_wp2_with (first
    | ((with_reducible (refine wpList_store_mid rfl _ _ _ rfl ?_ ?_ ?_ ?_ ?_ ?_ ?_ ?_ ?_)); exact p11; exact 0; (exact (li).toArray); exact rfl; exact rfl; exact HTH.out; exact HI11.out; exact HO11.out; rw [HW7.out])
    | ((with_reducible (refine wpList_load_cells 23 _ g5 9 (la) HRG9.out Tryz.underlying23 rfl HI12L.out ?_ rfl ?_ ?_)); exact rfl; (exact rfl))
    | ((with_reducible (refine wpList_store_mid rfl _ _ _ rfl ?_ ?_ ?_ ?_ ?_ ?_ ?_ ?_ ?_)); exact p12; exact 0; (exact (la).toArray); exact rfl; exact rfl; exact HTH2.out; exact HI12.out; exact HO12.out; rw [HW8.out]))
   clear hH hWa hH2 hWb
   have HRX12 : Hid (W8.heap[p12]? = some (.cells li.toArray 23 (0, 0))) := h_ (by rw [← HLL.out]; exact HR12.out)
   have HRX11 := HR118
   have HBX := HB18
   clear c88
   have HDRX := h_ (HDR1.out.below HBX.out)
   have HRDP := h_ (read_st (S := ⟨#[114, 101, 102, 115]⟩) HDRX.out.disk HFM.out hK (by omega) (by decide) HX1.out)
   refine HRDP.out.mono ?_
   clear HRDP
   rintro e w13 ⟨v13, rfl, ho13⟩
   obtain ⟨Ap, np, cp, rfl, hnp, hnpc, hcpm, hrp, _⟩ := ho13.sliceN
   have HNP := h_ hnp
   clear hnp
   have HB13 : Hid (Below W1.heap.size W1 w13) := h_ (HBX.out.trans (ho13.bel.mono HBX.out.size))
   have HRX11b : Hid (w13.heap[p11]? = some (.cells li.toArray 24 (0, 0))) := bl_ ho13.bel HRX11
   have HRX12b := bl_ ho13.bel HRX12
   have HRP := h_ hrp
   have HRD2 := h_ (rread2_any (K := K') R m2 ⟨#[114, 101, 102, 115]⟩ w13 (HIN.out.below (HRW.out _ HB13.out).1) HF2.out hK' X 0 HX2.out)
   rw [rowQ_val] at HRD2
   have HRG7 : Hid (w13.rangeAt g5 0 (rowQ R m2)) := h_ (HRW.out _ HB13.out).2.2.2.2.2
   obtain ⟨l7, hl7⟩ := eX (rowQ R m2)
   rw [hl7] at HRD2 HRG7
   have HI7' := h_ HI7.out
   rw [hl7] at HI7'
   clear ho13 hrp hl7
   go_wp2_with ((with_reducible (refine wpList_load_cells 53 _ g5 0 (l7) HRG7.out Tryz.underlying53 rfl HI7'.out ?_ rfl ?_ ?_)); exact rfl; (exact rfl))
   refine HRD2.out.mono ?_
   clear HRD2
   rintro e w14 ⟨Aq, nq, cq, rfl, hnq, hnqc, hcqm, hrq, hb14⟩
   have HNQ9 := h_ hnq
   clear hnq
   have HB14 := bt_ HB13 hb14
   have HRX11c := bl_ hb14 HRX11b
   have HRX12c := bl_ hb14 HRX12b
   have HI11b : Hid ((Tryz.prog.info? 24).map (·.size) = some li.toArray.size) := h_ (by rw [← HLI.out]; exact info_ida id HIDL.out)
   have HI12b : Hid ((Tryz.prog.info? 23).map (·.size) = some li.toArray.size) := h_ (by rw [← HLI.out]; exact rinfo_a id HIDL.out)
   have hq9 : ∀ W, (binOp .eql 24 (.agg li.toArray) (.agg li.toArray)).run Tryz.prog W = .ok (.bool true) W := fun W => by
    have h1 := id_eql id id HIDL.out HIDL.out W
    rw [decide_eq_true rfl, HLI.out] at h1
    exact h1
   have hgd9 := id_guard
   have hq8 : (X8.toList == X8.toList) = true := by simp
   have c814 : w14.cell? ⟨g5, 8, none⟩ = some (.string X8) := (HRW.out _ HB14.out).2.2.1
   have HSB : Hid (Calls Tryz.prog 61 #[.slice Ap np cp, .slice Aq nq cq] w14 fun e w' => e = .returned (.bool true) ∧ Below w14.heap.size w14 w') := h_ (by
    have h1 := same_b true Ap Aq X X cp cq w14 (HRP.out.below hb14) hrq.1 (by have := HVM.out.out; unfold maxLen; omega) (by have := HVM.out.out; unfold maxLen; omega) (by simp)
    rw [HNP.out, HNQ9.out]
    exact h1)
   clear hrq hb14 hnpc hcpm hnqc hcqm
   go_wp2_with (first
    | ((with_reducible (refine wpList_load_row_w _ _ rfl _ rfl _ _ _ _ HRX11c.out Tryz.underlying24 rfl HI11b.out ?_ ?_)); (focus (rfl)))
    | ((with_reducible (refine wpList_load_row_w _ _ rfl _ rfl _ _ _ _ HRX12c.out Tryz.underlying23 rfl HI12b.out ?_ ?_)); (focus (rfl))))
   refine HSB.out.mono ?_
   rintro e w15 ⟨rfl, hb15⟩
   have HB15 := bt_ HB14 hb15
   clear hb15
   go_wp2_with fail
   go_ret
   exact ⟨rfl, by first | exact (HRW.out _ HB15.out).1 | (rw [← hg5]; exact (HRW.out _ HB15.out).1)⟩
  ·have hem : X8.toList.isEmpty = false := by rw [tl_data, HXS.out, List.isEmpty_eq_false_iff]; exact hh
   have HEQ : Hid (getL r.log r.head = id) := h_ (by rw [← HID.out]; unfold headR; rw [if_neg hh, HGL.out.get])
   have HGD : Hid (Calls Tryz.prog 60 #[.agg lr.toArray, .string X8] W8 fun e w' => e = .returned (.agg li.toArray) ∧ Below W8.heap.size W8 w') := h_ (by
    have h1 := HGA.out X8 W8 (HRW.out _ HB18.out).1
    rw [HXS.out, HEQ.out, HLI.out] at h1
    exact h1)
   have HRGR : Hid (W8.rangeAt g5 0 lr) := h_ (HRW.out _ HB18.out).2.2.2.1
   clear hh
   go_wp2_with (first
    | ((with_reducible (refine wpList_store_mid rfl _ _ _ rfl ?_ ?_ ?_ ?_ ?_ ?_ ?_ ?_ ?_)); exact p11; exact 0; (exact (li).toArray); exact rfl; exact rfl; exact HTH.out; exact HI11.out; exact HO11.out; rw [HW7.out])
    | ((with_reducible (refine wpList_load_cells 23 _ g5 9 (la) HRG9.out Tryz.underlying23 rfl HI12L.out ?_ rfl ?_ ?_)); exact rfl; (exact rfl))
    | ((with_reducible (refine wpList_store_mid rfl _ _ _ rfl ?_ ?_ ?_ ?_ ?_ ?_ ?_ ?_ ?_)); exact p12; exact 0; (exact (la).toArray); exact rfl; exact rfl; exact HTH2.out; exact HI12.out; exact HO12.out; rw [HW8.out])
    | ((with_reducible (refine wpList_load_cells 65 _ g5 0 (lr) HRGR.out Tryz.underlying65 rfl HIR.out ?_ rfl ?_ ?_)); exact rfl; (exact rfl)))
   clear hH hWa hH2 hWb
   refine HGD.out.mono ?_
   rintro e w9 ⟨rfl, hb9⟩
   have r129 := (hb9.block _ (b_ HR12)).trans HR12.out
   obtain ⟨W10, hW10, T10, R10, G10⟩ := put_rowR (new := li) r129 (by rw [← HLA.out, ← HLI.out, b8s_length, b8s_length, HIDL.out, HOK.out.al])
   have HW10 := h_ hW10
   have HT10 := h_ T10.out
   have HRX12 := h_ R10.out
   have HRX11 : Hid (W10.heap[p11]? = some (.cells li.toArray 24 (0, 0))) := h_ ((G10.out.block _ (by have := HB8.out.size; have := hb9.size; have := HP12.out; omega) (fun e => by have := Option.some.inj e; have := HP12.out; omega)).trans ((hb9.block _ (b_ HR118)).trans HR118.out))
   have hb19 := HB18.out.trans (hb9.mono HB18.out.size)
   have HBX : Hid (Below W1.heap.size W1 W10) := h_ (bel_grown hb19 hb19.size G10.out HP12.out.2.2)
   have HI12X : Hid ((Tryz.prog.info? 23).map (·.size) = some li.toArray.size) := h_ (by rw [← HLI.out]; exact rinfo_a id HIDL.out)
   clear r129 hW10 T10 R10 G10 hb9 hb19 c88
   go_wp2_with (first
    | ((with_reducible (refine wpList_store_mid rfl _ _ _ rfl ?_ ?_ ?_ ?_ ?_ ?_ ?_ ?_ ?_)); exact p12; exact 0; (exact (li).toArray); exact rfl; exact rfl; exact HT10.out; exact HI12X.out; exact HO11.out; rw [HW10.out]))
   have HDRX := h_ (HDR1.out.below HBX.out)
   have HRDP := h_ (read_st (S := ⟨#[114, 101, 102, 115]⟩) HDRX.out.disk HFM.out hK (by omega) (by decide) HX1.out)
   refine HRDP.out.mono ?_
   clear HRDP
   rintro e w13 ⟨v13, rfl, ho13⟩
   obtain ⟨Ap, np, cp, rfl, hnp, hnpc, hcpm, hrp, _⟩ := ho13.sliceN
   have HNP := h_ hnp
   clear hnp
   have HB13 : Hid (Below W1.heap.size W1 w13) := h_ (HBX.out.trans (ho13.bel.mono HBX.out.size))
   have HRX11b := bl_ ho13.bel HRX11
   have HRX12b := bl_ ho13.bel HRX12
   have HRP := h_ hrp
   have HRD2 := h_ (rread2_any (K := K') R m2 ⟨#[114, 101, 102, 115]⟩ w13 (HIN.out.below (HRW.out _ HB13.out).1) HF2.out hK' X 0 HX2.out)
   rw [rowQ_val] at HRD2
   have HRG7 : Hid (w13.rangeAt g5 0 (rowQ R m2)) := h_ (HRW.out _ HB13.out).2.2.2.2.2
   obtain ⟨l7, hl7⟩ := eX (rowQ R m2)
   rw [hl7] at HRD2 HRG7
   have HI7' := h_ HI7.out
   rw [hl7] at HI7'
   clear ho13 hrp hl7
   go_wp2_with ((with_reducible (refine wpList_load_cells 53 _ g5 0 (l7) HRG7.out Tryz.underlying53 rfl HI7'.out ?_ rfl ?_ ?_)); exact rfl; (exact rfl))
   refine HRD2.out.mono ?_
   clear HRD2
   rintro e w14 ⟨Aq, nq, cq, rfl, hnq, hnqc, hcqm, hrq, hb14⟩
   have HNQ9 := h_ hnq
   clear hnq
   have HB14 := bt_ HB13 hb14
   have HRX11c := bl_ hb14 HRX11b
   have HRX12c := bl_ hb14 HRX12b
   have HI11b : Hid ((Tryz.prog.info? 24).map (·.size) = some li.toArray.size) := h_ (by rw [← HLI.out]; exact info_ida id HIDL.out)
   have HI12b : Hid ((Tryz.prog.info? 23).map (·.size) = some li.toArray.size) := h_ (by rw [← HLI.out]; exact rinfo_a id HIDL.out)
   have hq9 : ∀ W, (binOp .eql 24 (.agg li.toArray) (.agg li.toArray)).run Tryz.prog W = .ok (.bool true) W := fun W => by
    have h1 := id_eql id id HIDL.out HIDL.out W
    rw [decide_eq_true rfl, HLI.out] at h1
    exact h1
   have hgd9 := id_guard
   have hq8 : (X8.toList == X8.toList) = true := by simp
   have c814 : w14.cell? ⟨g5, 8, none⟩ = some (.string X8) := (HRW.out _ HB14.out).2.2.1
   have HSB : Hid (Calls Tryz.prog 61 #[.slice Ap np cp, .slice Aq nq cq] w14 fun e w' => e = .returned (.bool true) ∧ Below w14.heap.size w14 w') := h_ (by
    have h1 := same_b true Ap Aq X X cp cq w14 (HRP.out.below hb14) hrq.1 (by have := HVM.out.out; unfold maxLen; omega) (by have := HVM.out.out; unfold maxLen; omega) (by simp)
    rw [HNP.out, HNQ9.out]
    exact h1)
   clear hrq hb14 hnpc hcpm hnqc hcqm
   go_wp2_with (first
    | ((with_reducible (refine wpList_load_row_w _ _ rfl _ rfl _ _ _ _ HRX11c.out Tryz.underlying24 rfl HI11b.out ?_ ?_)); (focus (rfl)))
    | ((with_reducible (refine wpList_load_row_w _ _ rfl _ rfl _ _ _ _ HRX12c.out Tryz.underlying23 rfl HI12b.out ?_ ?_)); (focus (rfl))))
   refine HSB.out.mono ?_
   rintro e w15 ⟨rfl, hb15⟩
   have HB15 := bt_ HB14 hb15
   clear hb15
   go_wp2_with fail
   go_ret
   exact ⟨rfl, by first | exact (HRW.out _ HB15.out).1 | (rw [← hg5]; exact (HRW.out _ HB15.out).1)⟩
end Go.Proofs.YtelbofikcpchiaaGreat
