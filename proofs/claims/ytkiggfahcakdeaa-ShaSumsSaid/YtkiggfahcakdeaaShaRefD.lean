
/- The document's Sum: the whole. -/

import Derived.Test.YtkiggfahcakdeaaShaRefB

import Derived.Test.YtkiggfahcakdeaaShaRefC

namespace Go.Proofs.Ytkiggfahcakdeaa

set_option linter.unusedVariables false

set_option linter.unusedSimpArgs false

open Go.RowKit

attribute [local go_sem] w_xor w_and w_or w_not w_not' w_add w_addw w_shr3 w_shr10 w_conv8 w_shl24 w_shl16 w_shl8

set_option maxRecDepth 100000 in
set_option maxHeartbeats 8000000 in
theorem refsum_any (A1 A2 : Option Addr) (c1 c2 : Nat) (s0 : St8) (KT : List W32) (hKL : KT.length = 64) (A : Option Addr) (bs : List UInt8) (c : Nat) (w : World) (h1 : Rd w A1 (w32s s0.list)) (h2 : Rd w A2 (w32s KT)) (hr : Rd w A (b8s bs)) (hm : bs.length ≤ 1099511627776) :
    Calls Try.prog 20 #[.agg #[.slice A1 8 c1, .slice A2 64 c2], .slice A bs.length c] w fun e w' => e = .returned (.agg (b8s (outB (eat KT (padded bs) ((padded bs).length / 64) s0))).toArray) ∧ Below w.heap.size w w' := by
  obtain ⟨Wa, hWa⟩ : ∃ Wa, (w.alloc (.cells #[.slice A1 8 c1, .slice A2 64 c2] 39)).alloc (.cells #[Value.int .u8 0, Value.int .u8 0, Value.int .u8 0, Value.int .u8 0, Value.int .u8 0, Value.int .u8 0, Value.int .u8 0, Value.int .u8 0, Value.int .u8 0, Value.int .u8 0, Value.int .u8 0, Value.int .u8 0, Value.int .u8 0, Value.int .u8 0, Value.int .u8 0, Value.int .u8 0, Value.int .u8 0, Value.int .u8 0, Value.int .u8 0, Value.int .u8 0, Value.int .u8 0, Value.int .u8 0, Value.int .u8 0, Value.int .u8 0, Value.int .u8 0, Value.int .u8 0, Value.int .u8 0, Value.int .u8 0, Value.int .u8 0, Value.int .u8 0, Value.int .u8 0, Value.int .u8 0] 22) = Wa := ⟨_, rfl⟩
  have hba : Below w.heap.size w Wa := by rw [← hWa]; exact ((Below.refl _ _).alloc (Nat.le_refl _) _).alloc (by simp) _
  have hsa : Wa.heap.size = w.heap.size + 2 := by rw [← hWa]; simp
  have hbx : Wa.heap[w.heap.size]? = some (.cells #[.slice A1 8 c1, .slice A2 64 c2] 39 (0, 0)) := by rw [← hWa]; exact (Below.heap_alloc _ _ _ (by simp)).trans (heap_alloc_new w _)
  have hid : Wa.heap[w.heap.size + 1]? = some (.cells (b8s zeros32).toArray 22 (0, 0)) := by
    rw [← hWa]
    have := heap_alloc_new (w.alloc (.cells #[.slice A1 8 c1, .slice A2 64 c2] 39)) (.cells (b8s zeros32).toArray 22 (0, 0))
    rwa [show (w.alloc (.cells #[.slice A1 8 c1, .slice A2 64 c2] 39)).heap.size = w.heap.size + 1 by simp] at this
  have HBA := Lib.hid hba
  have HSA := Lib.hid hsa
  have HBX := Lib.hid hbx
  have HID := Lib.hid hid
  have H1 := Lib.hid h1
  have H2 := Lib.hid h2
  have HR := Lib.hid hr
  have HKL := Lib.hid hKL
  clear hba hsa hbx hid h1 h2 hr hKL
  go_enter Try.func20, Try.ntmps20
  go_wp2_with fail
  refine (blocked_any A bs c _ (HR.out.below HBA.out) hm).mono ?_
  rintro e w2 ⟨v, rfl, hown⟩
  have hb2 := hown.bel
  have hz2 := hown.sz
  obtain ⟨AP, nP, cP, rfl, hnP, hncP, hcP, hRP, hbP⟩ := hown.sliceN
  have hlt : w.heap.size + 1 < Wa.heap.size := by have := HSA.out; omega
  have HBX2 : Hid (w2.heap[w.heap.size]? = some (.cells #[.slice A1 8 c1, .slice A2 64 c2] 39 (0, 0))) := Lib.hid ((hb2.block _ (by omega)).trans HBX.out)
  have HID2 : Hid (w2.heap[w.heap.size + 1]? = some (.cells (b8s zeros32).toArray 22 (0, 0))) := Lib.hid ((hb2.block _ (by omega)).trans HID.out)
  have hB2 : Below w.heap.size w w2 := HBA.out.trans (hb2.mono (by omega))
  have H12 := Lib.hid (H1.out.below hB2)
  have H22 := Lib.hid (H2.out.below hB2)
  have HB2 := Lib.hid hB2
  have HRP := Lib.hid hRP
  have HnP := Lib.hid hnP
  have hw2 : w.heap.size + 1 < w2.heap.size := by omega
  obtain ⟨P, hP⟩ : ∃ P, padded bs = P := ⟨_, rfl⟩
  have hPm : 64 * (P.length / 64) = P.length := by have := padded_len bs; rw [hP] at this; omega
  have hPl : P.length ≤ 1099511627776 + 200 := by
    rw [← hP, padded, List.length_append, (padOf_len _).2]; unfold zPad; omega
  rw [hP] at HRP HnP
  have HP := Lib.hid hP
  have HPm := Lib.hid hPm
  clear hWa hP hPm hnP hRP hbP hown hb2 HBX HID H1 H2 HR HBA hB2 hlt HSA hz2
  have hst := OwnW.startN w2 w2 w2.heap.size (Below.refl _ _) (Nat.le_refl _)
  unfold maxLen at hcP
  go_wp2_with fail
  go_loopg [6, 7] 8 (fun gk_ v i wr => ∃ k : Nat, k ≤ 8 ∧ gk_ = 8 - k ∧ i = .int .i64 (k : Int) ∧ OwnW w2.heap.size w2 wr v (s0.list.take k))
  case atStart => exact ⟨0, by omega, by omega, rfl, hst⟩
  case round =>
    clear hst
    obtain ⟨k, hk, rfl, rfl, hown⟩ := hrel
    have hs8 : s0.list.length = 8 := rfl
    by_cases hlt : k < 8
    · have hb := hown.bel
      have hc0 : wr.cell? ⟨w.heap.size, 0, none⟩ = some (.slice A1 8 c1) := by rw [row_cell ((hb.block _ (by omega)).trans HBX2.out)]; rfl
      obtain ⟨b, o, rfl, hc⟩ := (H12.out.below hb).word k (by omega)
      have hk8 : (k : Int) < 8 := by omega
      have hlw : (s0.list.take k).length + 1 ≤ 1099511627776 := by rw [List.length_take]; omega
      go_wp2_with (at_builtin; refine wpList_append_w rfl _ _ rfl (s0.list[k]'(by omega)) rfl rfl rfl hown hlw ?_; intro v1 w1 hown1)
      go_roundg (8 - (k + 1))
      case measure => omega
      case rel => exact ⟨k + 1, by omega, rfl, by go_num, by rw [List.take_succ_eq_append_getElem (by omega)]; exact hown1⟩
    obtain rfl : k = 8 := by omega
    rw [show s0.list.take 8 = s0.list from rfl] at hown
    go_wp2_with fail
    have hown0 : OwnW w2.heap.size w2 wr u6 (eat KT P 0 s0).list := hown
    clear hown
    go_loopg [6, 8] (P.length / 64) (fun gk_ v i wr => ∃ (m q : Nat), m ≤ P.length / 64 ∧ gk_ = P.length / 64 - m ∧ i = .int .i64 (q : Int) ∧ Hid (q = 64 * m) ∧ q ≤ 1099511627976 ∧ OwnW w2.heap.size w2 wr v (eat KT P m s0).list)
    case atStart => exact ⟨0, 0, by omega, by omega, rfl, Lib.hid rfl, by omega, hown0⟩
    case round =>
      clear hown0
      obtain ⟨m, q, hm, rfl, rfl, HQ, hq, hown⟩ := hrel
      obtain ⟨A6, n6, c6, rfl, hn6, hnc6, hc6, hr6⟩ := hown.slice
      obtain ⟨st, hst⟩ : ∃ st, eat KT P m s0 = st := ⟨_, rfl⟩
      rw [hst] at hr6 hn6
      obtain rfl : n6 = 8 := hn6
      have H6 := Lib.hid hr6
      have HB := Lib.hid hown.bel
      have HST := Lib.hid hst
      have hsz := hown.bel.size
      unfold maxLen at hc6
      clear hr6 hst hown
      by_cases hlt : m < P.length / 64
      · have hqn : q + 64 ≤ nP := by have := HnP.out; have := HQ.out; have := HPm.out; omega
        have hql : q < nP := by omega
        obtain ⟨wo, rfl⟩ : ∃ wo : World, wo = wr := ⟨_, rfl⟩
        have hst9 := OwnW.startN wo wo wo.heap.size (Below.refl _ _) (Nat.le_refl _)
        go_upto_block 4 with (fail)
        refine ref_words AP nP cP q m P HnP HQ hq hqn hncP hcP wo _ (Lib.hid (HRP.out.below HB.out)) _ hst9 _ ?_
        intros
        rename_i wa how16
        clear hst9
        go_upto_block 6 with (fail)
        refine ref_sched q P wo _ _ how16 _ ?_
        intros
        rename_i wr hown48
        clear how16
        obtain ⟨A9, n9, c9, rfl, hn9, hnc9, hc9, hr48⟩ := hown48.slice
        rw [sched_len] at hn9
        obtain rfl := hn9
        unfold maxLen at hc9
        go_upto_region 22 with (fail)
        have hbn := hown48.bel
        have h6r := H6.out.below hbn
        obtain ⟨b6, o6, hA6, z0⟩ := h6r.word 0 (by simp [St8.list])
        subst hA6
        have z1 := h6r.wordat 1 (by simp [St8.list])
        have z2 := h6r.wordat 2 (by simp [St8.list])
        have z3 := h6r.wordat 3 (by simp [St8.list])
        have z4 := h6r.wordat 4 (by simp [St8.list])
        have z5 := h6r.wordat 5 (by simp [St8.list])
        have z6 := h6r.wordat 6 (by simp [St8.list])
        have z7 := h6r.wordat 7 (by simp [St8.list])
        simp only [St8.list, List.getElem_cons_zero, List.getElem_cons_succ] at z0 z1 z2 z3 z4 z5 z6 z7
        rw [Nat.add_zero] at z0
        have HSW : Hid ((sched (P.drop q)).length = 64) := Lib.hid (sched_len _)
        obtain ⟨SW, hSW⟩ : ∃ SW, sched (P.drop q) = SW := ⟨_, rfl⟩
        rw [hSW] at hown48 hr48 HSW
        have HSWE := Lib.hid hSW
        have HR48 := Lib.hid hr48
        have HBN := Lib.hid hbn
        clear hSW hr48 h6r hown48
        refine wp_region_sched (fun w' => w'.cell? ⟨b6, o6, none⟩ = some (.int .u32 (st.a.toNat : Int)) ∧ w'.cell? ⟨b6, o6 + 1, none⟩ = some (.int .u32 (st.b.toNat : Int)) ∧ w'.cell? ⟨b6, o6 + 2, none⟩ = some (.int .u32 (st.c.toNat : Int)) ∧ w'.cell? ⟨b6, o6 + 3, none⟩ = some (.int .u32 (st.d.toNat : Int)) ∧ w'.cell? ⟨b6, o6 + 4, none⟩ = some (.int .u32 (st.e.toNat : Int)) ∧ w'.cell? ⟨b6, o6 + 5, none⟩ = some (.int .u32 (st.f.toNat : Int)) ∧ w'.cell? ⟨b6, o6 + 6, none⟩ = some (.int .u32 (st.g.toNat : Int)) ∧ w'.cell? ⟨b6, o6 + 7, none⟩ = some (.int .u32 (st.h.toNat : Int)))
          ((List.range 32).map (fun i => (true, i))) (by kernel_rfl) (by kernel_rfl) rfl (by kernel_rfl) ⟨z0, z1, z2, z3, z4, z5, z6, z7⟩ ?_
        simp only [List.range, List.range.loop, List.map, List.cons_append, List.nil_append]
        (repeat (first | (refine wpS_pass _ rfl (by rfl) ?_; simp only [Act.put, List.getElem_toArray, List.getElem_cons_zero, List.getElem_cons_succ, List.setIfInBounds_toArray, List.set_cons_zero, List.set_cons_succ]) | (refine wpS_take _ ?_ rfl (by rfl) ?_ ?_; rotate_left; (focus (intro w' hS'; (try dsimp only at hS'); (repeat (have hS1 := hS'.1; replace hS' := hS'.2)); go_simp; (try with_reducible rfl); done)); simp only [Act.put, List.getElem_toArray, List.getElem_cons_zero, List.getElem_cons_succ, List.setIfInBounds_toArray, List.set_cons_zero, List.set_cons_succ])))
        refine wpS_done ?_
        clear z0 z1 z2 z3 z4 z5 z6 z7
        have hB2r := HB.out.trans (HBN.out.mono HB.out.size)
        have b1 : wr.cell? ⟨w.heap.size, 1, none⟩ = some (.slice A2 64 c2) := by rw [row_cell ((hB2r.block _ (by omega)).trans HBX2.out)]; rfl
        have HB1 := Lib.hid b1
        have H22r := Lib.hid (H22.out.below hB2r)
        clear b1
        go_upto_block 8 with (fail)
        refine ref_rounds w.heap.size A2 A9 c2 c9 hc9 hnc9 KT SW HKL HSW st wr.drew (Lib.hid HB1.out) (Lib.hid H22r.out.drew) (Lib.hid HR48.out.drew) _ ?_
        intros
        rename_i s wx HS hbel
        have hB2x := hB2r.drew.trans (hbel.mono hB2r.size)
        go_upto_region 29 with (fail)
        have h6r := H6.out.below (HBN.out.drew.trans (hbel.mono HBN.out.size))
        have z0 := h6r.wordat 0 (by simp [St8.list])
        have z1 := h6r.wordat 1 (by simp [St8.list])
        have z2 := h6r.wordat 2 (by simp [St8.list])
        have z3 := h6r.wordat 3 (by simp [St8.list])
        have z4 := h6r.wordat 4 (by simp [St8.list])
        have z5 := h6r.wordat 5 (by simp [St8.list])
        have z6 := h6r.wordat 6 (by simp [St8.list])
        have z7 := h6r.wordat 7 (by simp [St8.list])
        simp only [St8.list, List.getElem_cons_zero, List.getElem_cons_succ] at z0 z1 z2 z3 z4 z5 z6 z7
        rw [Nat.add_zero] at z0
        have hfin : eat KT P (m + 1) s0 = st.plus s := by
          have e1 : eat KT P (m + 1) s0 = comp KT (eat KT P m s0) (P.drop (64 * m)) := rfl
          rw [e1, HST.out, ← HQ.out]
          unfold comp
          rw [HSWE.out, HS.out]
        have HFIN := Lib.hid hfin
        have hlit := OwnW.lit w2 wx.drew w2.heap.size (st.plus s).list (by simp [St8.list]) hB2x.drew hB2x.size
        have HLIT := Lib.hid hlit
        clear hfin hlit h6r
        refine wp_region_sched (fun w' => w'.cell? ⟨b6, o6, none⟩ = some (.int .u32 (st.a.toNat : Int)) ∧ w'.cell? ⟨b6, o6 + 1, none⟩ = some (.int .u32 (st.b.toNat : Int)) ∧ w'.cell? ⟨b6, o6 + 2, none⟩ = some (.int .u32 (st.c.toNat : Int)) ∧ w'.cell? ⟨b6, o6 + 3, none⟩ = some (.int .u32 (st.d.toNat : Int)) ∧ w'.cell? ⟨b6, o6 + 4, none⟩ = some (.int .u32 (st.e.toNat : Int)) ∧ w'.cell? ⟨b6, o6 + 5, none⟩ = some (.int .u32 (st.f.toNat : Int)) ∧ w'.cell? ⟨b6, o6 + 6, none⟩ = some (.int .u32 (st.g.toNat : Int)) ∧ w'.cell? ⟨b6, o6 + 7, none⟩ = some (.int .u32 (st.h.toNat : Int)))
          ((List.range 40).map (fun i => (true, i)) ++ [(false, 40), (true, 41)]) (by kernel_rfl) (by kernel_rfl) rfl (by kernel_rfl) ⟨z0, z1, z2, z3, z4, z5, z6, z7⟩ ?_
        simp only [List.range, List.range.loop, List.map, List.cons_append, List.nil_append]
        (repeat (first | (refine wpS_pass _ rfl (by rfl) ?_; simp only [Act.put, List.getElem_toArray, List.getElem_cons_zero, List.getElem_cons_succ, List.setIfInBounds_toArray, List.set_cons_zero, List.set_cons_succ]) | (refine wpS_take _ ?_ rfl (by rfl) ?_ ?_; rotate_left; (focus (intro w' hS'; (try dsimp only at hS'); (repeat (have hS1 := hS'.1; replace hS' := hS'.2)); go_simp; (try with_reducible rfl); done)); simp only [Act.put, List.getElem_toArray, List.getElem_cons_zero, List.getElem_cons_succ, List.setIfInBounds_toArray, List.set_cons_zero, List.set_cons_succ])))
        refine wpS_do _ rfl (by rfl) (fun K hK => ?_)
        go_simp
        have hb6 : b6 < wx.heap.size := World.block_lt_of_cell? wx _ z0
        have hal : ∀ (ob : Obj) (k : Nat), (wx.alloc ob).drew.cell? ⟨b6, k, none⟩ = wx.cell? ⟨b6, k, none⟩ := fun ob k => World.cell?_of_block (w := wx) (w' := wx.alloc ob) (a := ⟨b6, k, none⟩) (Below.heap_alloc wx ob b6 hb6)
        refine hK.out _ _ ⟨(hal _ _).trans z0, (hal _ _).trans z1, (hal _ _).trans z2, (hal _ _).trans z3, (hal _ _).trans z4, (hal _ _).trans z5, (hal _ _).trans z6, (hal _ _).trans z7⟩ (fun hS => ?_)
        clear hK hS hal z0 z1 z2 z3 z4 z5 z6 z7
        (repeat (first | (refine wpS_pass _ rfl (by rfl) ?_; simp only [Act.put, List.getElem_toArray, List.getElem_cons_zero, List.getElem_cons_succ, List.setIfInBounds_toArray, List.set_cons_zero, List.set_cons_succ]) | (refine wpS_take _ ?_ rfl (by rfl) ?_ ?_; rotate_left; (focus (intro w' hS'; (try dsimp only at hS'); (repeat (have hS1 := hS'.1; replace hS' := hS'.2)); go_simp; (try with_reducible rfl); done)); simp only [Act.put, List.getElem_toArray, List.getElem_cons_zero, List.getElem_cons_succ, List.setIfInBounds_toArray, List.set_cons_zero, List.set_cons_succ])))
        refine wpS_done ?_
        go_wp2_with fail
        go_roundg (P.length / 64 - (m + 1))
        case measure => omega
        case rel => exact ⟨m + 1, q + 64, by omega, rfl, by go_num, Lib.hid (by have := HQ.out; omega), by have := HnP.out; omega, by rw [HFIN.out]; exact HLIT.out⟩
      · obtain rfl : m = P.length / 64 := by omega
        have hqn : nP ≤ q := by have := HnP.out; have := HQ.out; have := HPm.out; omega
        obtain ⟨wq, rfl⟩ : ∃ wq : World, wq = wr := ⟨_, rfl⟩
        obtain ⟨gi, W4, W5, hgi, hW4, hW5, HTH, HV, HB5, HS5⟩ := arr_place (w := wq) 22 zeros32 rfl
        have HW5 := Lib.hid hW5
        have HI0 : Hid ((Try.prog.info? 22).map (·.size) = some (b8s zeros32).toArray.size) := Lib.hid (by kernel_rfl)
        clear hW5
        go_wp2_with ((with_reducible (refine wpList_store_mid rfl _ _ _ rfl ?_ ?_ ?_ ?_ ?_ ?_ ?_ ?_ ?_)); (exact gi); (exact 0); (exact (b8s zeros32).toArray); (exact rfl); (exact rfl); (exact HTH.out); (exact HI0.out); (exact all_oneCell_toArray (b8s_one' _)); rw [HW5.out])
        have HV0 : Hid (W5.heap[gi]? = some (.cells (b8s ((outB st).take 0 ++ List.replicate (32 - 0) 0)).toArray 22 (0, 0))) := HV
        subst hgi
        have hb5 := HB5.out
        clear hW4 HTH HW5 HB5 HI0 HV HS5
        go_loopg [27] 32 (fun gk_ i wx => ∃ (k : Nat), k ≤ 32 ∧ gk_ = 32 - k ∧ i = .int .i64 (k : Int) ∧ Hid (wx.heap[wq.heap.size]? = some (.cells (b8s ((outB st).take k ++ List.replicate (32 - k) 0)).toArray 22 (0, 0))) ∧ Below wq.heap.size wq wx)
        case atStart => exact ⟨0, by omega, by omega, rfl, HV0, hb5⟩
        case round =>
          clear HV0 hb5
          obtain ⟨k, hk, rfl, rfl, HV, hbel⟩ := hrel
          by_cases hlt2 : k < 32
          · have hk4 : k / 4 < 8 := by omega
            obtain ⟨b6, o6, rfl, cw⟩ := (H6.out.below hbel).word (k / 4) (by show k / 4 < 8; omega)
            have hk32 : (k : Int) < 32 := by omega
            have i1 : (k : Int) / 4 < 8 := by omega
            have i2 : (0 : Int) ≤ (k : Int) / 4 := by omega
            have i3 : ((k : Int) / 4).toNat = k / 4 := by omega
            have i4 : (0 : Int) ≤ (k : Int) % 4 := by omega
            have i5 : (k : Int) % 4 < 4 := by omega
            have hfz : wr.frozen? ⟨wq.heap.size, k, none⟩ = false := row_free HV.out _
            have hcl : ∃ v, wr.cell? ⟨wq.heap.size, k, none⟩ = some v := by
              rw [row_cell HV.out]
              refine ⟨_, Array.getElem?_eq_getElem ?_⟩
              rw [List.size_toArray, b8s_length, List.length_append, List.length_take, List.length_replicate]
              have : (outB st).length = 32 := rfl
              omega
            obtain ⟨v0, hv0⟩ := hcl
            obtain ⟨ho1, ho2⟩ := outB_at st k hlt2
            obtain ⟨x, hx⟩ : ∃ x, st.list[k / 4]'(by show k / 4 < 8; omega) = x := ⟨_, rfl⟩
            rw [hx] at cw ho2
            have hst := row_set HV.out k (.int .u8 ((UInt8.ofNat (x.toNat / 2 ^ (24 - 8 * (k % 4)))).toNat : Int))
            have hbl : ((outB st).take k).length = k := by rw [List.length_take, ho1]; omega
            have hrow : (b8s ((outB st).take k ++ List.replicate (32 - k) 0)).toArray.setIfInBounds k (.int .u8 ((UInt8.ofNat (x.toNat / 2 ^ (24 - 8 * (k % 4)))).toNat : Int)) = (b8s ((outB st).take (k + 1) ++ List.replicate (32 - (k + 1)) 0)).toArray := by
              rw [List.take_succ_eq_append_getElem (by rw [ho1]; exact hlt2), ho2, List.setIfInBounds_toArray]
              congr 1
              have e1 : (Value.int .u8 ((UInt8.ofNat (x.toNat / 2 ^ (24 - 8 * (k % 4)))).toNat : Int)) = (fun c : UInt8 => Value.int .u8 (c.toNat : Int)) (UInt8.ofNat (x.toNat / 2 ^ (24 - 8 * (k % 4)))) := rfl
              unfold b8s
              rw [e1, ← List.map_set]
              congr 1
              rw [List.set_append_right _ _ (by omega), hbl, Nat.sub_self]
              obtain ⟨r, hr⟩ : ∃ r, 32 - k = r + 1 := ⟨31 - k, by omega⟩
              rw [hr, show 32 - (k + 1) = r by omega, List.replicate_succ, List.set_cons_zero, List.append_assoc]
              rfl
            rw [hrow] at hst
            have HST2 := Lib.hid hst
            have hg := grown_set (w := wr) wq.heap.size k (.int .u8 ((UInt8.ofNat (x.toNat / 2 ^ (24 - 8 * (k % 4)))).toNat : Int))
            have hbel2 := Lib.hid (bel_grown hbel hbel.size hg (Nat.le_refl _))
            have HXV : Hid ((x.toNat : Int) / 2 ^ (24 - 8 * (k % 4)) % 256 = ((UInt8.ofNat (x.toNat / 2 ^ (24 - 8 * (k % 4)))).toNat : Int)) := Lib.hid (by
              rw [UInt8.toNat_ofNat', Int.natCast_emod, Int.natCast_ediv, Int.natCast_pow]; rfl)
            clear hst hrow hbl ho1 ho2 hx hg
            go_wp2_with fail
            rw [HXV.out]
            go_roundg (32 - (k + 1))
            case measure => omega
            case rel => exact ⟨k + 1, by omega, rfl, by go_num, HST2, hbel2.out⟩
          · obtain rfl : k = 32 := by omega
            have hop : (outB st).take 32 ++ List.replicate (32 - 32) 0 = outB st := by rw [List.take_of_length_le (by show 32 ≤ 32; omega)]; simp
            rw [hop] at HV
            have hB2q := HB.out.trans (hbel.mono HB.out.size)
            have hBq := HB2.out.trans (hB2q.mono HB2.out.size)
            have HI8 := (hB2q.block _ (by omega)).trans HID2.out
            have HIV : Hid ((Try.prog.info? 22).map (·.size) = some (b8s (outB st)).toArray.size) := Lib.hid (info_of_arr _ rfl (by kernel_rfl))
            obtain ⟨W9, hW9, HTH, HR9, HB9⟩ := arr_write HI8 (new := outB st) rfl hBq hBq.size (by omega)
            have HW9 := Lib.hid hW9
            have hPP : outB (eat KT (padded bs) ((padded bs).length / 64) s0) = outB st := by rw [HP.out, HST.out]
            have HPP := Lib.hid hPP
            clear hW9 hop hPP HI8
            go_wp2_with (first
              | ((with_reducible (refine wpList_load_row rfl _ _ rfl _ rfl _ _ _ _ HV.out Try.underlying22 rfl ?_ ?_)); (focus (exact HIV.out)))
              | ((with_reducible (refine wpList_store_mid rfl _ _ _ rfl ?_ ?_ ?_ ?_ ?_ ?_ ?_ ?_ ?_)); (exact w.heap.size + 1); (exact 0); (exact (b8s (outB st)).toArray); (exact rfl); (exact rfl); (exact HTH.out); (exact HIV.out); (exact all_oneCell_toArray (b8s_one' _)); rw [HW9.out]))
            rw [HPP.out]
            refine bodyPost_ret (results_row1 rfl _ _ _ _ _ _ _ rfl HR9.out Try.underlying22 rfl HIV.out) rfl ?_
            exact ⟨rfl, HB9.out⟩
end Go.Proofs.Ytkiggfahcakdeaa
