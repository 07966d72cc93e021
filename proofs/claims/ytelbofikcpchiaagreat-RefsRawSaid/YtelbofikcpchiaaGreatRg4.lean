/- The document's Check of a turn. (Printed by wip/genRg4.py.) -/
import Derived.Test.YtelbofikcpchiaaGreatRg3
import Derived.Test.YtelbofikcpchiaaGreatQU
namespace Go.Proofs.YtelbofikcpchiaaGreat
open Go.RowKit
theorem rupZ_eq : Tryz.zeroCells131 = (upC ⟨[], Z32, Z32⟩).toArray := rfl
theorem met_mem {us : List UpM} {i : Nat} {s : List UInt8} : s ∈ (us.take i).map (·.name) ↔ ∃ k, ∃ hk : k < us.length, k < i ∧ us[k].name = s := by
 rw [List.mem_map]
 constructor
 ·rintro ⟨u, hu, rfl⟩
  obtain ⟨k, hk, rfl⟩ := List.mem_iff_getElem.1 hu
  rw [List.length_take] at hk
  exact ⟨k, by omega, by omega, by rw [List.getElem_take]⟩
 ·rintro ⟨k, hk, hki, rfl⟩
  exact ⟨us[k], List.mem_iff_getElem.2 ⟨k, by rw [List.length_take]; omega, by rw [List.getElem_take]⟩, rfl⟩
theorem tx_cells' {w : World} {g : Nat} {ty : TypeId} {A : Option Addr} {n c : Nat} {t : TxM} (h : w.heap[g]? = some (.cells (txC A n c t).toArray ty (0, 0))) : w.cell? ⟨g, 0, none⟩ = some (.slice A n c) ∧ w.cell? ⟨g, 1, none⟩ = some (strV t.head) ∧ w.rangeAt g 2 (b8s t.at_) := by
 refine ⟨by rw [row_cell h 0]; rfl, by rw [row_cell h 1]; rfl, fun j v hv => ?_⟩
 rw [row_cell h]
 simp only [txC, List.getElem?_toArray]
 rw [show 2 + j = (j + 1) + 1 by omega, List.getElem?_cons_succ, List.getElem?_cons_succ]
 exact hv
set_option maxRecDepth 1000000 in
set_option maxHeartbeats 8000000 in
theorem rcheck_any (R : RA) (m : DM) (A : Option Addr) (c : Nat) (r : RfM) (At : Option Addr) (n ct : Nat) (t : TxM) (w : World) (hk : RfOk r) (hgl : GL r) (hl : r.log.length ≤ 1000000) (hr : Rd w A (upsC r.log)) (hn : t.us.length = n) (ht : TxOk t) (hrt : Rd w At (upsC t.us)) :
  Calls Tryz.prog 56 #[rfV R m A c r, .agg (txC At n ct t).toArray] w fun e w' => e = .returned (.int .i64 (checkR r t)) ∧ Below w.heap.size w w' := by
 have HKR := h_ hk
 have HGL := h_ hgl
 have HN := h_ hn
 have HT := h_ ht
 have HRT := h_ hrt
 have HGA := h_ (fun (S : ByteArray) (W : World) (hb : Below w.heap.size w W) => rget_any R m A c r S W hk hl (hr.below hb))
 have hnl : n ≤ 1000000 := by have := ht.ul; omega
 obtain ⟨g, hg⟩ := eX w.heap.size
 obtain ⟨W1, hW1⟩ := eX (w.alloc (.cells (rfR R m A c r).toArray 65))
 obtain ⟨r1, b1, s1⟩ := new_row hW1
 rw [hg] at r1
 obtain ⟨g2, hg2⟩ := eX W1.heap.size
 obtain ⟨W2, hW2⟩ := eX (W1.alloc (.cells (txC At n ct t).toArray 123))
 obtain ⟨r2, b2, s2⟩ := new_row hW2
 rw [hg2] at r2
 have hb2 : Below w.heap.size w W2 := b1.trans (b2.mono b1.size)
 obtain ⟨X, hX, hXs⟩ : ∃ X : ByteArray, strV t.head = .string X ∧ X.data.toList = t.head := ⟨_, rfl, rfl⟩
 have HX := h_ hX
 have HXS := h_ hXs
 have HRW : Hid (∀ W, Below W2.heap.size W2 W → Below w.heap.size w W ∧ W.cell? ⟨g2, 0, none⟩ = some (.slice At n ct) ∧ W.cell? ⟨g2, 1, none⟩ = some (.string X) ∧ W.rangeAt g 0 (rfR R m A c r) ∧ Rd W At (upsC t.us)) := h_ (fun W hb => by
  have hw := hb2.trans (hb.mono hb2.size)
  have h2 := (hb.block _ (Array.getElem?_eq_some_iff.1 r2).1).trans r2
  have h1 := ((b2.trans (hb.mono b2.size)).block _ (Array.getElem?_eq_some_iff.1 r1).1).trans r1
  exact ⟨hw, (tx_cells' h2).1, by rw [← hX]; exact (tx_cells' h2).2.1, range_of_row h1, hrt.below hw⟩)
 have HZL : Hid (g < W2.heap.size) := h_ (by omega)
 have HIR := h_ (info_rfl (R := R) (m := m) (A := A) (c := c) hk.al)
 unfold rfV at HGA ⊢
 obtain ⟨lr, hlr⟩ := eX (rfR R m A c r)
 obtain ⟨lt, hlt_⟩ := eX (txC At n ct t)
 rw [hlr] at hW1 HGA HRW HIR ⊢
 rw [hlt_] at hW2 ⊢
 have c0 : W2.cell? ⟨g2, 0, none⟩ = some (.slice At n ct) := (HRW.out W2 (Below.refl _ _)).2.1
 obtain ⟨z, hz⟩ := eX (checkR r t)
 have HZ := h_ hz
 rw [hz]
 clear hk hgl hn ht hr hrt b1 s1 r1 b2 s2 r2 hb2 hX hXs hlr hlt_ hz
 by_cases h64 : 64 < n
 ·have i1 : (64 : Int) < (n : Int) := by omega
  obtain rfl : z = 3 := by rw [← HZ.out]; unfold checkR; rw [HN.out, if_pos h64]
  go_enter Tryz.func56, Tryz.ntmps56
  go_wp2_with fail
  go_ret
  exact ⟨rfl, by first | exact (HRW.out W2 (Below.refl _ _)).1 | (rw [← hg]; exact (HRW.out W2 (Below.refl _ _)).1)⟩
 have i1 : ¬ ((64 : Int) < (n : Int)) := by omega
 have HZ2 : Hid (z = if chkUs r.all [] t.us ≠ 0 then chkUs r.all [] t.us else if t.head ≠ [] ∧ branchB t.head = false then 100 else 0) := h_ (by rw [← HZ.out]; unfold checkR; rw [HN.out, if_neg h64])
 go_enter Tryz.func56, Tryz.ntmps56
 go_wp2_with fail
 clear hW1 hW2 c0
 go_loopg [5] (n * 1) (fun gk_ iv wr => ∃ (i : Nat), i ≤ n ∧ gk_ = n - i ∧ iv = .int .i64 (i : Int) ∧ Hid (Below W2.heap.size W2 wr) ∧ Hid (chkUs r.all ((t.us.take i).map (·.name)) (t.us.drop i) = chkUs r.all [] t.us))
 case atStart => exact ⟨0, by omega, by omega, rfl, h_ (Below.refl _ _), h_ rfl⟩
 case round =>
 obtain ⟨i, hi, rfl, rfl, HB, HC⟩ := hrel
 obtain ⟨c0, c1⟩ : wr.cell? ⟨g2, 0, none⟩ = some (.slice At n ct) ∧ wr.cell? ⟨g2, 1, none⟩ = some (.string X) := ⟨(HRW.out _ HB.out).2.1, (HRW.out _ HB.out).2.2.1⟩
 by_cases hlt : i < n
 ·have j1 : (i : Int) < (n : Int) := by omega
  have hil : i < t.us.length := by rw [HN.out]; exact hlt
  obtain ⟨u, hu⟩ := eX (t.us[i])
  have HOK : Hid (upOk u) := h_ (HT.out.us u (by rw [← hu]; exact List.getElem_mem hil))
  obtain ⟨b, o, hA, hrow⟩ := log_row (HRW.out _ HB.out).2.2.2.2 HT.out.us hil
  rw [hu] at hrow
  have HST : Hid (chkUs r.all ((t.us.take i).map (·.name)) (t.us.drop i) = if chkU r.all ((t.us.take i).map (·.name)) u = 0 then chkUs r.all ((t.us.take (i + 1)).map (·.name)) (t.us.drop (i + 1)) else chkU r.all ((t.us.take i).map (·.name)) u) := h_ (by
   have e : (t.us.take (i + 1)).map (·.name) = (t.us.take i).map (·.name) ++ [u.name] := by rw [← List.take_append_getElem hil, hu]; simp
   rw [chkUs_step hil, hu, e])
  have HRW1 := h_ hrow
  rw [hA] at c0
  have HA := h_ hA
  have HIL := h_ (rinfo_upl HOK.out)
  have HIA := h_ (rinfo_upa HOK.out)
  have HOC : Hid ((upC u).toArray.all (·.oneCell') = true) := h_ (all_oneCell_toArray (upC_one u))
  obtain ⟨gu, hgu⟩ := eX wr.heap.size
  obtain ⟨WA, hWA⟩ := eX (wr.alloc (.cells Tryz.zeroCells131 131))
  obtain ⟨rA, bA, sA⟩ := new_row hWA
  rw [hgu, rupZ_eq] at rA
  obtain ⟨WB, hWB, TB, RB, GB⟩ := put_rowR (new := upC u) rA (by rw [upC_len HOK.out]; rfl)
  have HWB := h_ hWB
  have BB : Hid (Below wr.heap.size wr WB) := h_ (bel_grown bA bA.size GB.out (by omega))
  have BB1 : Hid (Below W2.heap.size W2 WB) := h_ (HB.out.trans (BB.out.mono HB.out.size))
  obtain ⟨Y, hY, hYs⟩ : ∃ Y : ByteArray, strV u.name = .string Y ∧ Y.data.toList = u.name := ⟨_, rfl, rfl⟩
  have hYm : Y.size ≤ 140737488355328 := by
   have h1 := size_toList Y
   rw [hYs] at h1
   have := HOK.out.2.2
   omega
  have HYS := h_ hYs
  have HUC : Hid (∀ W : World, Below WB.heap.size WB W → W.cell? ⟨gu, 0, none⟩ = some (.string Y) ∧ W.rangeAt gu 1 (b8s u.old)) := h_ (fun W hb => by
   have h0 := (hb.block _ (b_ RB)).trans RB.out
   have h1 := up_range (range_of_row h0) HOK.out
   rw [hY, Nat.zero_add] at h1
   exact ⟨h1.1, h1.2.1⟩)
  have cu0 : WB.cell? ⟨gu, 0, none⟩ = some (.string Y) := (HUC.out _ (Below.refl _ _)).1
  have HGU : Hid (gu < WB.heap.size) := h_ (b_ RB)
  have HVD := h_ (rvalid_any Y (by omega) WB)
  rw [hYs] at HVD
  obtain ⟨la, hla⟩ := eX (upC u)
  rw [hla] at HRW1 HIL HIA HOC HWB TB
  clear hil hu hA hrow rA bA sA hWB hY hYs hla
  obtain ⟨vb, hvb⟩ := eX (validB u.name)
  have HVB := h_ hvb
  rw [hvb] at HVD
  clear hvb
  cases vb with
  | false =>
    have HF : Hid (z = 100) := h_ (by
     have h1 : chkU r.all ((t.us.take i).map (·.name)) u = 100 := by unfold chkU; rw [if_pos HVB.out]
     have h2 := HC.out
     rw [HST.out, h1, if_neg (by decide)] at h2
     rw [HZ2.out, ← h2, if_pos (by decide)])
    go_wp2_with (first
     | ((with_reducible (refine wpList_load_cells 131 _ b (o + i * 65) (la) HRW1.out Tryz.underlying131 rfl HIL.out ?_ rfl ?_ ?_)); exact rfl; (exact rfl))
     | ((with_reducible (refine wpList_store_mid rfl _ _ _ rfl ?_ ?_ ?_ ?_ ?_ ?_ ?_ ?_ ?_)); exact gu; exact 0; (exact (la).toArray); exact rfl; exact rfl; exact TB.out; exact HIA.out; exact HOC.out; rw [HWB.out]))
    refine HVD.out.mono ?_
    rintro e w3 ⟨rfl, hb3⟩
    have B3 := bt_ BB1 hb3
    clear hb3
    go_wp2_with fail
    go_ret
    exact ⟨by rw [HF.out]; rfl, by first | exact (HRW.out _ B3.out).1 | (rw [← hg]; exact (HRW.out _ B3.out).1)⟩
  | true =>
    go_wp2_with (first
     | ((with_reducible (refine wpList_load_cells 131 _ b (o + i * 65) (la) HRW1.out Tryz.underlying131 rfl HIL.out ?_ rfl ?_ ?_)); exact rfl; (exact rfl))
     | ((with_reducible (refine wpList_store_mid rfl _ _ _ rfl ?_ ?_ ?_ ?_ ?_ ?_ ?_ ?_ ?_)); exact gu; exact 0; (exact (la).toArray); exact rfl; exact rfl; exact TB.out; exact HIA.out; exact HOC.out; rw [HWB.out]))
    refine HVD.out.mono ?_
    rintro e w3 ⟨rfl, hb3⟩
    have B3 := bt_ BB1 hb3
    have HB3 := h_ hb3
    clear hb3 c0 c1 cu0
    go_wp2_with fail
    obtain ⟨wo, hwo⟩ : ∃ x, x = wr := ⟨_, rfl⟩
    subst hwo
    go_loopg [7] (i * 1) (fun gk_ kv wr => ∃ (k : Nat), k ≤ i ∧ gk_ = i - k ∧ kv = .int .i64 (k : Int) ∧ Hid (∀ j (hj : j < t.us.length), j < k → t.us[j].name ≠ u.name) ∧ Hid (Below WB.heap.size WB wr))
    case atStart => exact ⟨0, by omega, by omega, rfl, h_ (fun j _ h => by omega), HB3⟩
    case round =>
    obtain ⟨k, hk, rfl, rfl, HNO, HBK⟩ := hrel
    have BK : Hid (Below W2.heap.size W2 wr) := h_ (BB1.out.trans (HBK.out.mono BB1.out.size))
    have c0 : wr.cell? ⟨g2, 0, none⟩ = some (.slice (some ⟨b, o, none⟩) n ct) := by rw [← HA.out]; exact (HRW.out _ BK.out).2.1
    have cu0 : wr.cell? ⟨gu, 0, none⟩ = some (.string Y) := (HUC.out _ HBK.out).1
    by_cases hki : k < i
    ·have j2 : (k : Int) < (i : Int) := by omega
     have j3 : (k : Int) < (n : Int) := by omega
     have hkl : k < t.us.length := by rw [HN.out]; omega
     obtain ⟨v, hv⟩ := eX (t.us[k])
     have HOV : Hid (upOk v) := h_ (HT.out.us v (by rw [← hv]; exact List.getElem_mem hkl))
     obtain ⟨b', o', hA', hrow'⟩ := log_row (HRW.out _ BK.out).2.2.2.2 HT.out.us hkl
     rw [hv] at hrow'
     obtain ⟨rfl, rfl⟩ : b' = b ∧ o' = o := by
      have h1 := hA'.symm.trans HA.out
      cases h1
      exact ⟨rfl, rfl⟩
     obtain ⟨V, hV, hVs⟩ : ∃ Y : ByteArray, strV v.name = .string Y ∧ Y.data.toList = v.name := ⟨_, rfl, rfl⟩
     have cv0 : wr.cell? ⟨b', o' + k * 65, none⟩ = some (.string V) := by rw [← hV]; exact (up_range hrow' HOV.out).1
     have HVS := h_ hVs
     have HVU := h_ hv
     clear hv hA' hrow' hV hVs
     by_cases he : V = Y
     ·have heq : (V.toList == Y.toList) = true := by rw [names_eq, decide_eq_true he]
      have HF : Hid (z = 5) := h_ (by
       have hm : u.name ∈ (t.us.take i).map (·.name) := met_mem.2 ⟨k, by rw [HN.out]; omega, hki, by rw [HVU.out, ← HVS.out, he, HYS.out]⟩
       have h1 : chkU r.all ((t.us.take i).map (·.name)) u = 5 := by unfold chkU; rw [if_neg (by rw [HVB.out]; decide), if_pos hm]
       have h2 := HC.out
       rw [HST.out, h1, if_neg (by decide)] at h2
       rw [HZ2.out, ← h2, if_pos (by decide)])
      clear he
      go_wp2_with fail
      go_quiet (fail)
      go_wp2_with fail
      go_ret
      exact ⟨by rw [HF.out]; rfl, by first | exact (HRW.out _ (below_drewN BK.out _)).1 | (rw [← hg]; exact (HRW.out _ (below_drewN BK.out _)).1)⟩
     ·have heq : (V.toList == Y.toList) = false := by rw [names_eq, decide_eq_false he]
      have HNO2 : Hid (∀ j (hj : j < t.us.length), j < k + 1 → t.us[j].name ≠ u.name) := h_ (fun j hj h => by
       by_cases hjk : j = k
       ·subst hjk
        rw [HVU.out]
        intro e
        exact he (ba_ext (by rw [HVS.out, HYS.out, e]))
       ·exact HNO.out j hj (by omega))
      clear he
      go_wp2_with fail
      go_quiet (fail)
      have HBK2 := h_ (below_drewN HBK.out nq)
      generalize wr.drewN nq = w5 at *
      go_wp2_with fail
      go_roundg (i - (k + 1))
      case measure => omega
      case rel => exact ⟨k + 1, by omega, rfl, by first | rfl | exact congrArg (Value.int .i64) (by omega) | go_num, HNO2, HBK2⟩
    ·obtain rfl : k = i := by omega
     have HNM : Hid (¬ u.name ∈ (t.us.take k).map (·.name)) := h_ (fun h => by
      obtain ⟨j, hj, hjk, e⟩ := met_mem.1 h
      exact HNO.out j hj hjk e)
     obtain ⟨id, hid⟩ := eX (getL r.log u.name)
     have hidl : id.length = 32 := by rw [← hid]; exact getL_len _ (fun u hu => (HKR.out.log u hu).2.1) _
     have HID : Hid (getA r.all u.name = id) := h_ (by rw [HGL.out.get, hid])
     have HGETD : Hid (Calls Tryz.prog 60 #[.agg lr.toArray, .string Y] wr.drew fun e w' => e = .returned (.agg (b8s id).toArray) ∧ Below wr.heap.size wr.drew w') := h_ (by
      have h1 := HGA.out Y wr.drew (HRW.out _ BK.out.drew).1
      rw [HYS.out, hid] at h1
      exact h1)
     obtain ⟨ne, hne⟩ := eX ((!decide (id = u.old)))
     have HNE := h_ hne
     have HIDL := h_ (rinfo_l u.old HOK.out.1)
     obtain ⟨lo, hlo⟩ := eX (b8s u.old)
     obtain ⟨li, hli⟩ := eX (b8s id)
     have HNQ : Hid (∀ w : World, (binOp .neq 23 (.agg li.toArray) (.agg lo.toArray)).run Tryz.prog w = .ok (.bool ne) w) := h_ (fun w => by have h1 := rid_neq id u.old hidl HOK.out.1 w; rw [hne, hlo, hli] at h1; exact h1)
     have HS0 : Hid (∀ W, Below wr.heap.size wr W → W.rangeAt g 0 lr ∧ W.cell? ⟨gu, 0, none⟩ = some (.string Y) ∧ W.rangeAt gu 1 lo) := h_ (fun W hb => by
      have h1 := HUC.out W (HBK.out.trans (hb.mono HBK.out.size))
      rw [hlo] at h1
      exact ⟨(HRW.out W (BK.out.trans (hb.mono BK.out.size))).2.2.2.1, h1⟩)
     rw [hlo] at HIDL
     rw [hli] at HGETD
     clear hid hidl hlo hli hne c0 cu0
     cases ne with
     | true =>
       have HF : Hid (z = 101) := h_ (by
        have h0 : id ≠ u.old := by
         intro e
         have h9 := HNE.out
         rw [e] at h9
         simp at h9
        have h1 : chkU r.all ((t.us.take k).map (·.name)) u = 101 := by unfold chkU; rw [if_neg (by rw [HVB.out]; decide), if_neg HNM.out, if_pos (by rw [HID.out]; exact h0)]
        have h2 := HC.out
        rw [HST.out, h1, if_neg (by decide)] at h2
        rw [HZ2.out, ← h2, if_pos (by decide)])
       go_wp2_with fail
       refine wp_region_sched (fun w' => w'.rangeAt g 0 lr ∧ w'.cell? ⟨gu, 0, none⟩ = some (.string Y) ∧ w'.rangeAt gu 1 lo) [(true, 0), (true, 1), (true, 2), (true, 4), (true, 5), (false, 3), (true, 6)] (by kernel_rfl) (by kernel_rfl) rfl (by kernel_rfl) (HS0.out _ (Below.refl _ _).drew) ?_
       refine wpS_load _ rfl (by rfl) 65 _ rfl g 0 rfl lr _ (fun w' hS => hS.1) Tryz.underlying65 rfl HIR.out ?_
       simp only [LY]
       iterate 3 ((first | refine wpS_pass _ rfl (by rfl) ?_ | (refine wpS_take _ ?_ rfl (by rfl) ?_ ?_; rotate_left; (focus (intro w' hS'; (try dsimp only at hS'); (repeat (have hS1 := hS'.1; replace hS' := hS'.2)); go_simp; (try with_reducible rfl); done)))); simp only [LY])
       refine wpS_load _ rfl (by rfl) 23 _ rfl gu 1 rfl lo _ (fun w' hS => hS.2.2) Tryz.underlying23 rfl HIDL.out ?_
       simp only [LY]
       refine wpS_do _ rfl (by rfl) (fun KK hKK => ?_)
       go_simp
       refine (HGETD.out).mono ?_
       rintro e w9 ⟨rfl, hb9⟩
       have HB9 : Hid (Below wr.heap.size wr w9) := h_ ((Below.refl _ _).drew.trans hb9)
       refine hKK.out _ _ (HS0.out _ HB9.out) (fun hS => ?_)
       clear hKK hS hb9
       refine wpS_take _ (.bool true) rfl (by rfl) (fun w' hS' => exec_bin _ _ _ _ _ rfl _ _ _ rfl rfl (run_eqGuard_agg w' _ _ _ _ _ _ rid_guard) (HNQ.out w')) ?_
       simp only [LY]
       refine wpS_done ?_
       go_wp2_with fail
       go_ret
       exact ⟨by rw [HF.out]; rfl, by first | exact (HRW.out _ (BK.out.trans (HB9.out.mono BK.out.size))).1 | (rw [← hg]; exact (HRW.out _ (BK.out.trans (HB9.out.mono BK.out.size))).1)⟩
     | false =>
       have HS : Hid (chkUs r.all ((t.us.take (k + 1)).map (·.name)) (t.us.drop (k + 1)) = chkUs r.all [] t.us) := h_ (by
        have h0 : id = u.old := by
         have h9 := HNE.out
         simpa using h9
        have h1 : chkU r.all ((t.us.take k).map (·.name)) u = 0 := by unfold chkU; rw [if_neg (by rw [HVB.out]; decide), if_neg HNM.out, if_neg (by rw [HID.out, h0]; simp)]
        have h2 := HC.out
        rw [HST.out, if_pos h1] at h2
        exact h2)
       go_wp2_with fail
       refine wp_region_sched (fun w' => w'.rangeAt g 0 lr ∧ w'.cell? ⟨gu, 0, none⟩ = some (.string Y) ∧ w'.rangeAt gu 1 lo) [(true, 0), (true, 1), (true, 2), (true, 4), (true, 5), (false, 3), (true, 6)] (by kernel_rfl) (by kernel_rfl) rfl (by kernel_rfl) (HS0.out _ (Below.refl _ _).drew) ?_
       refine wpS_load _ rfl (by rfl) 65 _ rfl g 0 rfl lr _ (fun w' hS => hS.1) Tryz.underlying65 rfl HIR.out ?_
       simp only [LY]
       iterate 3 ((first | refine wpS_pass _ rfl (by rfl) ?_ | (refine wpS_take _ ?_ rfl (by rfl) ?_ ?_; rotate_left; (focus (intro w' hS'; (try dsimp only at hS'); (repeat (have hS1 := hS'.1; replace hS' := hS'.2)); go_simp; (try with_reducible rfl); done)))); simp only [LY])
       refine wpS_load _ rfl (by rfl) 23 _ rfl gu 1 rfl lo _ (fun w' hS => hS.2.2) Tryz.underlying23 rfl HIDL.out ?_
       simp only [LY]
       refine wpS_do _ rfl (by rfl) (fun KK hKK => ?_)
       go_simp
       refine (HGETD.out).mono ?_
       rintro e w9 ⟨rfl, hb9⟩
       have HB9 : Hid (Below wr.heap.size wr w9) := h_ ((Below.refl _ _).drew.trans hb9)
       refine hKK.out _ _ (HS0.out _ HB9.out) (fun hS => ?_)
       clear hKK hS hb9
       refine wpS_take _ (.bool false) rfl (by rfl) (fun w' hS' => exec_bin _ _ _ _ _ rfl _ _ _ rfl rfl (run_eqGuard_agg w' _ _ _ _ _ _ rid_guard) (HNQ.out w')) ?_
       simp only [LY]
       refine wpS_done ?_
       go_wp2_with fail
       go_roundg (n - (k + 1))
       case measure => omega
       case rel => exact ⟨k + 1, by omega, rfl, by first | rfl | exact congrArg (Value.int .i64) (by omega) | go_num, h_ (BK.out.trans (HB9.out.mono BK.out.size)), HS⟩
 ·obtain rfl : i = n := by omega
  have HCZ : Hid (z = if t.head ≠ [] ∧ branchB t.head = false then 100 else 0) := h_ (by
   have h1 := HC.out
   rw [List.drop_eq_nil_of_le (by rw [HN.out]; exact Nat.le_refl _)] at h1
   have h2 : chkUs r.all [] t.us = 0 := h1.symm
   rw [HZ2.out, h2, if_neg (by simp)])
  have hXm : X.size ≤ 140737488355328 := by
   have h1 := size_toList X
   rw [HXS.out] at h1
   have := HT.out.hd
   omega
  by_cases hh : t.head = []
  ·have hem : X.toList.isEmpty = true := by rw [tl_data, HXS.out, hh]; rfl
   have HF : Hid (z = 0) := h_ (by rw [HCZ.out, if_neg (by simp [hh])])
   clear hh
   go_wp2_with fail
   go_ret
   exact ⟨by rw [HF.out]; rfl, by first | exact (HRW.out _ HB.out).1 | (rw [← hg]; exact (HRW.out _ HB.out).1)⟩
  ·have hem : X.toList.isEmpty = false := by rw [tl_data, HXS.out, List.isEmpty_eq_false_iff]; exact hh
   have HBR := h_ (rbranch_any X (by omega) wr)
   rw [HXS.out] at HBR
   obtain ⟨bb, hbb⟩ := eX (branchB t.head)
   have HBB := h_ hbb
   have HHD := h_ hh
   rw [hbb] at HBR
   clear hbb hh
   cases bb with
   | true =>
     have HF : Hid (z = 0) := h_ (by rw [HCZ.out, if_neg (by rw [HBB.out]; simp)])
     go_wp2_with fail
     refine HBR.out.mono ?_
     rintro e w5 ⟨rfl, hb5⟩
     have HB5 := h_ (HB.out.trans (hb5.mono HB.out.size))
     clear hb5
     go_wp2_with fail
     go_ret
     exact ⟨by rw [HF.out]; rfl, by first | exact (HRW.out _ HB5.out).1 | (rw [← hg]; exact (HRW.out _ HB5.out).1)⟩
   | false =>
     have HF : Hid (z = 100) := h_ (by rw [HCZ.out, if_pos ⟨HHD.out, HBB.out⟩])
     go_wp2_with fail
     refine HBR.out.mono ?_
     rintro e w5 ⟨rfl, hb5⟩
     have HB5 := h_ (HB.out.trans (hb5.mono HB.out.size))
     clear hb5
     go_wp2_with fail
     go_ret
     exact ⟨by rw [HF.out]; rfl, by first | exact (HRW.out _ HB5.out).1 | (rw [← hg]; exact (HRW.out _ HB5.out).1)⟩
end Go.Proofs.YtelbofikcpchiaaGreat
