
/- RefsKeeps: the law's walk. -/

import Derived.Test.YtelbofikcpchiaaGreatRf37

import Derived.Test.YtelbofikcpchiaaGreatDk15

namespace Go.Proofs.YtelbofikcpchiaaGreat

set_option linter.unusedVariables false

set_option linter.unusedSimpArgs false

set_option linter.unusedSectionVars false

open Go.RowKit

set_option maxRecDepth 1000000 in
set_option maxHeartbeats 16000000 in
theorem refsKeeps_any (A0 : Option Addr) (ids : List (List UInt8)) (n c0 : Nat) (fail turns keep : Int) (w : World) (hn : ids.length = n) (hnm : n ≤ 9223372036854775807) (hil : ∀ i ∈ ids, i.length = 32) (hr : Rd w A0 (idsC ids)) :
    Calls Tryz.prog 6 #[.slice A0 n c0, .int .i64 fail, .int .i64 turns, .int .i64 keep] w fun e w' => e = .returned (.bool true) ∧ Below w.heap.size w w' := by
  have HN := Lib.hid hn
  have HIL := Lib.hid hil
  have HR0 := Lib.hid hr
  obtain ⟨m, hm, hma⟩ : ∃ k : Nat, k ≤ 15 ∧ bits .and .i64 fail 15 = (k : Int) := i64_and_mask fail 15 (by decide)
  obtain ⟨fu, hfu⟩ : ∃ x, 1 + m = x := ⟨_, rfl⟩
  have hadd : (1 : Int) + (m : Int) = (fu : Int) := by omega
  have hfu1 : 1 ≤ fu ∧ fu ≤ 16 := by omega
  have hw1 : IntKind.i64.wrap (fu : Int) = (fu : Int) := by rw [IntKind.wrap_i64]; omega
  have hw2 : wrap64 (fu : Int) = (fu : Int) := wrap_nat (by omega)
  obtain ⟨l0, hl0⟩ : ∃ l, b8s Z32 = l := ⟨_, rfl⟩
  have HL0 := Lib.hid hl0
  have HID0 : Hid (Tryz.prog.built 24 [] = some l0.toArray) := Lib.hid (by rw [← hl0]; exact id0_built)
  clear hn hil hr hl0 hfu
  go_enter Tryz.func6, Tryz.ntmps6
  go_wp2_with fail
  refine (ralive_any w).mono ?_
  rintro e w1 ⟨rfl, hb1⟩
  have HB1 := Lib.hid hb1
  have HRD := Lib.hid (HR0.out.below hb1)
  clear hb1 HR0
  go_wp2_with fail
  refine (new_any 1048576 (by omega) w1).mono ?_
  rintro e w2 ⟨g, d2, rfl, hd2, hb2⟩
  have HD2 := Lib.hid hd2
  have HB2 := Lib.hid hb2
  clear hd2 hb2
  go_wp2_with fail
  refine (open_at HD2.out (by omega)).mono ?_
  rintro e w3 ⟨gr, d3, q3, rfl, hr3, hb3⟩
  have HR3 : Hid (RefsAt w1.heap.size w3 g gr rf0 [] 1048576 0 d3 q3) := Lib.hid hr3
  have HB3 : Hid (Below w1.heap.size w1 w3) := Lib.hid (HB2.out.trans hb3)
  clear hr3 hb3
  go_wp2_with fail
  refine (fail_st (n := (fu : Int)) HR3.out.dr.disk HR3.out.fit (by omega)).mono ?_
  rintro e w4 ⟨rfl, d4, ha4, hf4⟩
  have HDR4 := Lib.hid (HR3.out.dr.aft ha4)
  have HB4 : Hid (Below w1.heap.size w1 w4) := Lib.hid (HB3.out.trans (ha4.bel HR3.out.dr.disk HB3.out.size))
  have HF4 := Lib.hid hf4
  have HKD : Hid (failM (stR [] 1048576) (fu : Int) = kD [] 0 fu false) := Lib.hid (by
    rw [kD_fail]
    have : (max (fu : Int) 0).toNat = fu := by omega
    rw [this])
  rw [HKD.out] at HDR4 HF4
  clear ha4 hf4 hadd hw1 hw2
  obtain ⟨gm, hgm⟩ : ∃ x, w4.heap.size = x := ⟨_, rfl⟩
  obtain ⟨W5, hW5⟩ : ∃ W, w4.alloc (.cells l0.toArray 24) = W := ⟨_, rfl⟩
  obtain ⟨r5, b5, s5⟩ := new_row hW5
  rw [hgm] at r5
  obtain ⟨p13, Wa, W6, hH, hWa, hW6, HTH, HR13, HB6, _⟩ := arr_place (w := W5) 24 Z32 rfl
  have HP13 : Hid (p13 = gm + 1) := Lib.hid (by rw [← hH, s5, hgm])
  have HWN : Hid (w1.heap.size < p13) := Lib.hid (by have := HB4.out.size; have := HP13.out; omega)
  have HIA : Hid ((Tryz.prog.info? 24).map (·.size) = some l0.toArray.size) := Lib.hid (by rw [← HL0.out]; exact info_ida Z32 rfl)
  have HOC : Hid (l0.toArray.all (·.oneCell') = true) := Lib.hid (by rw [← HL0.out]; exact all_oneCell_toArray (b8s_one' _))
  have HLL : Hid (l0.length = 32) := Lib.hid (by rw [← HL0.out, b8s_length]; rfl)
  have HIB : Hid ((Tryz.prog.info? 24).map (fun i => (i.size, i.zero.isSome)) = some (l0.length, true)) := Lib.hid (by rw [HLL.out]; kernel_rfl)
  have b6 : Below w4.heap.size w4 W6 := b5.trans (HB6.out.mono b5.size)
  have HKP : Hid (KP w1 g gr p13 Z32 [] [] 0 fu false rf0 (some ⟨gm, 0, none⟩) 1 1 W6) := Lib.hid (by
    have hd := HDR4.out.below b6
    refine ⟨⟨0, d4, q3, hd, HF4.out, by simp, fun hfo => ?_, fun a ha hfo => ?_⟩, HR13.out, ?_, rfl, by simp, HB4.out.trans (b6.mono HB4.out.size), fun a ha => ?_⟩
    · have h1 : p13 < w4.heap.size := by
        rcases hfo with hfo | hfo
        · exact HDR4.out.disk.foot_lt hfo
        · exact HDR4.out.refs.foot_lt hfo
      have := HP13.out
      omega
    · cases ha
      have h1 : gm < w4.heap.size := by
        rcases hfo with hfo | hfo
        · exact HDR4.out.disk.foot_lt hfo
        · exact HDR4.out.refs.foot_lt hfo
      omega
    · have h1 := own_new w4 (p13 - 1) 24 32 1 l0 (by have := HP13.out; omega) (by rw [HLL.out]) (by unfold maxLen; omega)
      rw [hW5, hgm] at h1
      have h2 := own_below h1 HB6.out
      have e : idsC [Z32] = l0 := by rw [← HL0.out]; simp [idsC]
      rw [e]
      exact h2
    · cases ha
      have := HP13.out
      dsimp only
      omega)
  rw [HL0.out] at hW6 HTH
  have HW6 := Lib.hid hW6
  clear r5 b5 s5 hW6 HR13 b6
  go_upto_block 0 with (first
    | ((with_reducible (refine wpList_built ?_ _ #[] ?_ _ ?_ _ HID0.out ?_)); (exact rfl); (exact rfl); (exact rfl))
    | (refine wpList_build1 rfl 71 24 _ rfl l0 rfl Tryz.underlying71 HIB.out (by rw [HLL.out]; omega) (by rw [HLL.out]; omega) ?_)
    | ((with_reducible (refine wpList_store_mid rfl _ _ _ rfl ?_ ?_ ?_ ?_ ?_ ?_ ?_ ?_ ?_)); (exact p13); (exact 0); (exact (l0).toArray); (exact rfl); (exact rfl); (exact HTH.out); (exact HIA.out); (exact HOC.out); rw [HW6.out]))
  refine kp_loop w1 g gr p13 A0 n c0 ids HN hnm HIL HRD fu (some ⟨gm, 0, none⟩) 1 rf0 W6 HKP (Lib.hid KR.zero) (Lib.hid hfu1.1) HWN _ ?_
  intros
  rename_i A1 n1 c1 ids' going bs sf fu1 dn r1 wx HK HSF HBS
  obtain ⟨L, d, q, k1, k2, k3, k4, k5⟩ := HK.out.ex
  obtain ⟨hs1, hgl32, hj12⟩ := HSF.out
  obtain ⟨jn, hjn⟩ : ∃ x, ids'.length = x := ⟨_, rfl⟩
  rw [hjn] at hj12 k3
  have hnum := HK.out.num
  rw [hjn] at hnum
  have hL2 : L ≤ 2000 := by
    have : (if dn = true then 2 else 1) ≤ 2 := by split <;> omega
    have h3 := Nat.mul_le_mul_left 114 (Nat.add_le_add hj12 this)
    omega
  obtain ⟨gm2, cm2, eM, _, _⟩ := own_some HK.out.own (by omega)
  obtain ⟨rfl, rfl⟩ : A1 = some ⟨gm2, 0, none⟩ ∧ c1 = cm2 := by simpa using eM
  clear eM
  obtain ⟨was, hwas⟩ : ∃ x, lastK Z32 ids' = x := ⟨_, rfl⟩
  have HWL : Hid (was.length = 32) := Lib.hid (by rw [← hwas]; exact lastK_len _ _ rfl HK.out.len)
  have hcl2 : ∀ x ∈ Z32 :: ids', (b8s x).length = 32 := fun x hx => by
    rw [b8s_length]
    rcases List.mem_cons.1 hx with rfl | hx
    · rfl
    · exact HK.out.len x hx
  have hgl : jn < (Z32 :: ids').length := by rw [List.length_cons, hjn]; omega
  have hrm := rd_flat (f := b8s) (m := 32) (own_rd HK.out.own) hcl2 jn hgl
  have hge : (Z32 :: ids')[jn] = was := by
    have h1 := lastK_get ids' Z32
    rw [hjn, List.getElem?_eq_getElem hgl] at h1
    rw [Option.some.inj h1, hwas]
  rw [hge, Nat.zero_add] at hrm
  have HRM := Lib.hid hrm
  obtain ⟨p18, Wc, W2, hH2, hWc, hW2, HTH2, HR18, HB2, _⟩ := arr_place (w := wx) 24 was HWL.out
  have HW2 := Lib.hid hW2
  have HP18 : Hid (wx.heap.size = p18) := Lib.hid hH2
  have hrl : (recsK Z32 ids').length = 114 * jn := by rw [recsK_len _ Z32 rfl HK.out.len, hjn]
  have hrec : (recordB (kT was going)).length = 114 := rec_len HWL.out hgl32
  have hbl : sf ≤ bs.length ∧ bs.length - sf ≤ 114 := by
    rcases HBS.out with h | h
    · rw [h, hs1]; omega
    · rw [h, hs1, List.length_append, hwas, hrec]; omega
  obtain ⟨kk, hkk, hcr⟩ := kD_crash (fu := fu1) (dn := dn) hbl.1 turns keep
  obtain ⟨k', hk', hX⟩ : ∃ k', k' ≤ 114 ∧ bs.take (sf + kk) = recsK Z32 ids' ++ (recordB (kT (lastK Z32 ids') going)).take k' := by
    rcases HBS.out with h | h
    · exact ⟨0, by omega, by rw [List.take_zero, List.append_nil, h, List.take_of_length_le (by omega)]⟩
    · refine ⟨kk, by omega, ?_⟩
      rw [h, List.take_append, List.take_of_length_le (by omega), hs1, Nat.add_sub_cancel_left]
  obtain ⟨R, G, hop, hKR⟩ := keeps_open HK.out.len hgl32 k' hk'
  rw [← hX] at hop
  rw [hwas, hjn] at hKR
  obtain ⟨X, hXe⟩ : ∃ x, bs.take (sf + kk) = x := ⟨_, rfl⟩
  rw [hXe] at hop hcr
  have hXl : X.length ≤ 10000 := by rw [← hXe, List.length_take]; omega
  have HD2 := Lib.hid (k1.disk.below HB2.out)
  have HF2 := Lib.hid k2
  have L3 := Lib.hid (lit_args HD2.out [.int .i64 keep] 3 (0, 0))
  have HCR := Lib.hid hcr
  have HOP := Lib.hid hop
  have HKR := Lib.hid hKR
  have HXL := Lib.hid hXl
  have HGL := Lib.hid hgl32
  have HNF : Hid (¬ foot g d p13 ∧ ¬ foot g d p18) := Lib.hid ⟨fun h => k4 (.inl h), fun h => by have := k1.disk.foot_lt h; omega⟩
  have HIDW := Lib.hid (info_idl was HWL.out)
  have HIWA := Lib.hid (info_ida was HWL.out)
  have HOW : Hid ((b8s was).toArray.all (·.oneCell') = true) := Lib.hid (all_oneCell_toArray (b8s_one' _))
  have HR13 : Hid (W2.heap[p13]? = some (.cells (b8s going).toArray 24 (0, 0))) := Lib.hid ((HB2.out.block _ (Array.getElem?_eq_some_iff.1 HK.out.row).1).trans HK.out.row)
  have HBX : Hid (Below w1.heap.size w1 W2) := Lib.hid (HK.out.bel.trans (HB2.out.mono HK.out.bel.size))
  have HL2 := Lib.hid hL2
  obtain ⟨lw, hlw⟩ : ∃ l, b8s was = l := ⟨_, rfl⟩
  have HLW := Lib.hid hlw
  rw [hlw] at HRM HTH2 HW2 HR18 HIDW HIWA HOW
  clear k1 k2 k3 k4 k5 hs1 hgl32 hwas hcl2 hgl hrm hge hW2 hrl hrec hbl hkk hcr hk' hX hop hKR hXe hXl hL2 hlw hjn HSF HBS
  subst hnum
  go_wp2_with (first
    | ((with_reducible (refine wpList_load_cells 24 _ gm2 (jn * 32) (lw) HRM.out Tryz.underlying24 rfl HIDW.out ?_ rfl ?_ ?_)); (exact rfl); (exact rfl))
    | ((with_reducible (refine wpList_store_mid rfl _ _ _ rfl ?_ ?_ ?_ ?_ ?_ ?_ ?_ ?_ ?_)); (exact p18); (exact 0); (exact (lw).toArray); (exact rfl); (exact rfl); (exact HTH2.out); (exact HIWA.out); (exact HOW.out); rw [HW2.out]))
  clear hH2 hWc
  refine (crash_st (keep := [keep]) L3.out.1.disk HF2.out (by omega) (by have := HL2.out; omega) rfl (Nat.le_refl _) (by simp) L3.out.2.1 (fun _ => L3.out.2.2) HCR.out).mono ?_
  rintro e w14 ⟨rfl, d14, ha14, hf14⟩
  have HA14 := Lib.hid (L3.out.1.trans ha14)
  have HF14 := Lib.hid hf14
  clear ha14 hf14
  go_wp2_with fail
  refine (open_stR HA14.out.disk HF14.out (by omega) (by have := HL2.out; omega) HXL.out (by have := HXL.out; omega) HOP.out).mono ?_
  rintro e w15 ⟨gs, rfl, ⟨d15, q15, hd15, ha15⟩, hf15, hok15, hst15, hb15⟩
  have HA15 := Lib.hid (HA14.out.trans ha15)
  have HR15 := Lib.hid hd15.refs
  have HOK15 := Lib.hid hok15
  have HB15 : Hid (Below w1.heap.size w1 w15) := Lib.hid (HBX.out.trans (HA15.out.bel HD2.out HD2.out.size))
  have HR135 := Lib.hid ((HA15.out.frm.block p13 (Array.getElem?_eq_some_iff.1 HR13.out).1 HNF.out.1).trans HR13.out)
  have HR185 := Lib.hid ((HA15.out.frm.block p18 (Array.getElem?_eq_some_iff.1 HR18.out).1 HNF.out.2).trans HR18.out)
  clear hd15 ha15 hf15 hok15 hst15 hb15
  obtain ⟨got, hgot⟩ : ∃ x, getA R.all mainB = x := ⟨_, rfl⟩
  have HGT : Hid (Calls Tryz.prog 15 #[.pointer (some ⟨gs, 0, none⟩), .string ⟨#[104, 101, 97, 100, 115, 47, 109, 97, 105, 110]⟩] w15 fun e w' => e = .returned (.agg (b8s got).toArray) ∧ Below w15.heap.size w15 w') := Lib.hid (by
    have h1 := get_any HR15.out HOK15.out ⟨#[104, 101, 97, 100, 115, 47, 109, 97, 105, 110]⟩ (by decide)
    rw [show (⟨#[104, 101, 97, 100, 115, 47, 109, 97, 105, 110]⟩ : ByteArray).data.toList = mainB from rfl, hgot] at h1
    exact h1)
  have HGOT : Hid (got.length = 32) := Lib.hid (by rw [← hgot]; exact getA_len HOK15.out.ids _)
  have HCASE : Hid (got = was ∨ got = going ∧ R.log.length = jn + 1) := Lib.hid (by
    rcases HKR.out with h | h
    · exact .inl (hgot.symm.trans h.get)
    · exact .inr ⟨hgot.symm.trans h.get, h.log⟩)
  clear hgot
  go_wp2_with fail
  refine HGT.out.mono ?_
  rintro e w16 ⟨rfl, hb16⟩
  obtain ⟨p21, Wd, W17, hH3, hWd, hW17, HTH17, HR21, HB17, _⟩ := arr_place (w := w16) 24 got HGOT.out
  have HW17 := Lib.hid hW17
  have hb17 : Below w15.heap.size w15 W17 := hb16.trans (HB17.out.mono hb16.size)
  have HRR := Lib.hid (HR15.out.below hb17)
  have HB17' : Hid (Below w.heap.size w W17) := Lib.hid (HB1.out.trans ((HB15.out.trans (hb17.mono HB15.out.size)).mono HB1.out.size))
  have HR137 := Lib.hid ((hb17.block _ (Array.getElem?_eq_some_iff.1 HR135.out).1).trans HR135.out)
  have HR187 := Lib.hid ((hb17.block _ (Array.getElem?_eq_some_iff.1 HR185.out).1).trans HR185.out)
  have HIDG := Lib.hid (info_idl got HGOT.out)
  have HIGA := Lib.hid (info_ida got HGOT.out)
  have HOG : Hid ((b8s got).toArray.all (·.oneCell') = true) := Lib.hid (all_oneCell_toArray (b8s_one' _))
  have HIGO := Lib.hid (info_ida going HGL.out)
  have hgd := id_guard
  obtain ⟨lg, hlg⟩ : ∃ l, b8s got = l := ⟨_, rfl⟩
  have HLG := Lib.hid hlg
  obtain ⟨lo, hlo⟩ : ∃ l, b8s going = l := ⟨_, rfl⟩
  have HLO := Lib.hid hlo
  rw [hlg] at HTH17 HW17 HR21 HIDG HIGA HOG ⊢
  rw [hlo] at HR137 HIGO
  have HE1 : Hid (∀ W, (binOp .eql 24 (.agg lg.toArray) (.agg lw.toArray)).run Tryz.prog W = .ok (.bool (decide (got = was))) W) := Lib.hid (fun W => by rw [← HLG.out, ← HLW.out]; exact id_eql got was HGOT.out HWL.out W)
  have HE2 : Hid (∀ W, (binOp .eql 24 (.agg lg.toArray) (.agg lo.toArray)).run Tryz.prog W = .ok (.bool (decide (got = going))) W) := Lib.hid (fun W => by rw [← HLG.out, ← HLO.out]; exact id_eql got going HGOT.out HGL.out W)
  have HRG21 := Lib.hid (range_of_row HR21.out)
  have HRG18 := Lib.hid (range_of_row HR187.out)
  clear hb16 hb17 hW17 hlg hlo
  by_cases hgw : got = was
  · have he1 := HE1.out
    rw [decide_eq_true hgw] at he1
    clear hgw
    go_wp2_with (first
      | ((with_reducible (refine wpList_store_mid rfl _ _ _ rfl ?_ ?_ ?_ ?_ ?_ ?_ ?_ ?_ ?_)); (exact p21); (exact 0); (exact (lg).toArray); (exact rfl); (exact rfl); (exact HTH17.out); (exact HIGA.out); (exact HOG.out); rw [HW17.out])
      | ((with_reducible (refine wpList_load_cells 24 _ p21 0 (lg) HRG21.out Tryz.underlying24 rfl HIDG.out ?_ rfl ?_ ?_)); (exact rfl); (exact rfl))
      | ((with_reducible (refine wpList_load_cells 24 _ p18 0 (lw) HRG18.out Tryz.underlying24 rfl HIDW.out ?_ rfl ?_ ?_)); (exact rfl); (exact rfl)))
    go_ret
    exact ⟨rfl, HB17'.out⟩
  · have he1 := HE1.out
    rw [decide_eq_false hgw] at he1
    have hgg : got = going := by rcases HCASE.out with h | h; exact absurd h hgw; exact h.1
    have he2 := HE2.out
    rw [decide_eq_true hgg] at he2
    have HLGN : Hid (R.log.length = jn + 1) := Lib.hid (by rcases HCASE.out with h | h; exact absurd h hgw; exact h.2)
    have HLOG : Hid (∀ W, Below W17.heap.size W17 W → Calls Tryz.prog 12 #[.pointer (some ⟨gs, 0, none⟩)] W fun e w' => ∃ A' c', e = .returned (.slice A' (jn + 1) c') ∧ Below W.heap.size W w') := Lib.hid (fun W hW => by
      have h1 := log_any (HRR.out.below hW) HOK15.out (by rw [HLGN.out]; omega)
      rw [HLGN.out] at h1
      exact h1.mono fun e w' ⟨A', c', h2, _, h3⟩ => ⟨A', c', h2, h3⟩)
    have z1 : (((jn + 1 : Nat) : Int) == ((jn + 1 : Nat) : Int)) = true := by simp
    clear hgw hgg
    go_wp2_with (first
      | ((with_reducible (refine wpList_store_mid rfl _ _ _ rfl ?_ ?_ ?_ ?_ ?_ ?_ ?_ ?_ ?_)); (exact p21); (exact 0); (exact (lg).toArray); (exact rfl); (exact rfl); (exact HTH17.out); (exact HIGA.out); (exact HOG.out); rw [HW17.out])
      | ((with_reducible (refine wpList_load_cells 24 _ p21 0 (lg) HRG21.out Tryz.underlying24 rfl HIDG.out ?_ rfl ?_ ?_)); (exact rfl); (exact rfl))
      | ((with_reducible (refine wpList_load_cells 24 _ p18 0 (lw) HRG18.out Tryz.underlying24 rfl HIDW.out ?_ rfl ?_ ?_)); (exact rfl); (exact rfl))
      | ((with_reducible (refine wpList_load_row_w _ _ rfl _ rfl _ _ _ _ HR21.out Tryz.underlying24 rfl HIGA.out ?_ ?_)); (focus (rfl)))
      | ((with_reducible (refine wpList_load_row_w _ _ rfl _ rfl _ _ _ _ HR137.out Tryz.underlying24 rfl HIGO.out ?_ ?_)); (focus (rfl))))
    refine (HLOG.out _ (Below.refl _ _)).mono ?_
    rintro e w18 ⟨A', c', rfl, hb18⟩
    have HB18 : Hid (Below w.heap.size w w18) := Lib.hid (HB17'.out.trans (hb18.mono HB17'.out.size))
    clear hb18
    go_wp2_with fail
    go_ret
    exact ⟨rfl, HB18.out⟩
end Go.Proofs.YtelbofikcpchiaaGreat
