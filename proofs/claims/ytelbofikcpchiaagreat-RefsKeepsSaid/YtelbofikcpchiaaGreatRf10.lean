
/- Refs: payload. -/

import Derived.Test.YtelbofikcpchiaaGreatRf9

namespace Go.Proofs.YtelbofikcpchiaaGreat

set_option linter.unusedVariables false

set_option linter.unusedSimpArgs false

set_option linter.unusedSectionVars false

open Go.RowKit

/-! ### the writers, on what a slice tells -/

def Sl (w : World) (v : Value) (bs : List UInt8) : Prop := ∃ A n c, v = .slice A n c ∧ n = bs.length ∧ n ≤ c ∧ c ≤ maxLen ∧ Rd w A (b8s bs)
theorem Sl.nil (w : World) : Sl w (.slice none 0 0) [] := ⟨_, _, _, rfl, rfl, Nat.le_refl _, by unfold maxLen; omega, Rd.nil⟩
theorem Own8.sl {N : Nat} {w0 w : World} {v : Value} {zs : List UInt8} (h : Own8 N w0 w v zs) : Sl w v zs := by
  obtain ⟨A, c, rfl, hcl, hcm, hr, _⟩ := h.slice
  exact ⟨A, _, c, rfl, rfl, hcl, hcm, hr⟩
theorem Sl.below {w w' : World} {v : Value} {bs : List UInt8} (h : Sl w v bs) (hb : Below w.heap.size w w') : Sl w' v bs := by
  obtain ⟨A, n, c, h1, h2, h3, h4, h5⟩ := h
  exact ⟨A, n, c, h1, h2, h3, h4, h5.below hb⟩
theorem num_sL (v : Value) (bs : List UInt8) (n : Int) (w : World) (h : Sl w v bs) (hm : bs.length + 10 ≤ 140737488355328) :
    Calls Tryz.prog 77 #[v, .int .i64 n] w fun e w' => ∃ v, e = .returned v ∧ Own8 w.heap.size w w' v (bs ++ numB (clampN n)) := by
  obtain ⟨A, m, c, rfl, rfl, _, _, hr⟩ := h
  exact num_any A bs c n w hr (by omega)
theorem text_sL (v : Value) (bs : List UInt8) (s : ByteArray) (w : World) (h : Sl w v bs) (hm : bs.length + s.size + 10 ≤ 140737488355328) :
    Calls Tryz.prog 103 #[v, .string s] w fun e w' => ∃ v, e = .returned v ∧ Own8 w.heap.size w w' v (bs ++ textB s.data.toList) := by
  obtain ⟨A, m, c, rfl, rfl, _, _, hr⟩ := h
  exact text_any A bs c s w hr (by omega)
theorem id_sL (v : Value) (bs id : List UInt8) (w : World) (h : Sl w v bs) (hid : id.length = 32) (hm : bs.length + 32 ≤ 140737488355328) :
    Calls Tryz.prog 102 #[v, .agg (b8s id).toArray] w fun e w' => ∃ v, e = .returned v ∧ Own8 w.heap.size w w' v (bs ++ id) := by
  obtain ⟨A, m, c, rfl, rfl, _, _, hr⟩ := h
  exact id_any A bs id c w hid hr (by omega)

/-! ### lengths -/

theorem ups_take {us : List UpM} {i : Nat} (h : i < us.length) : (us.take (i + 1)).flatMap upB = (us.take i).flatMap upB ++ upB us[i] := by
  have e : us.take (i + 1) = us.take i ++ [us[i]] := by
    rw [List.take_add_one, List.getElem?_eq_getElem h]
    rfl
  rw [e, List.flatMap_append]
  simp
theorem ups_le (us : List UpM) (i : Nat) : ((us.take i).flatMap upB).length ≤ (us.flatMap upB).length := by
  conv => rhs; rw [← List.take_append_drop i us]
  simp only [List.flatMap_append, List.length_append]
  omega
theorem upB_len {u : UpM} (h : upOk u) : (upB u).length = (textB u.name).length + 64 := by
  unfold upB
  simp only [List.length_append, h.1, h.2.1]
theorem textB_ge (s : List UInt8) : s.length ≤ (textB s).length := by
  unfold textB
  simp only [List.length_append]
  omega

set_option maxRecDepth 100000 in
set_option maxHeartbeats 8000000 in
theorem payload_any (A : Option Addr) (n c : Nat) (t : TxM) (hn : t.us.length = n) (ht : TxOk t) (w : World) (hr : Rd w A (upsC t.us)) (hl : (payloadB t).length ≤ 100000000000000) :
    Calls Tryz.prog 75 #[.agg (txC A n c t).toArray] w fun e w' => ∃ v, e = .returned v ∧ Own8 w.heap.size w w' v (payloadB t) := by
  have HN := Lib.hid hn
  have HT := Lib.hid ht
  have hnl : n ≤ 1000000 := by have := ht.ul; omega
  obtain ⟨g1, hg⟩ : ∃ g, w.heap.size = g := ⟨_, rfl⟩
  obtain ⟨W1, hW1⟩ : ∃ W, w.alloc (.cells (txC A n c t).toArray 28) = W := ⟨_, rfl⟩
  obtain ⟨r1, b1, s1⟩ := new_row hW1
  rw [hg] at r1
  have R1 := Lib.hid r1
  have HB1 := Lib.hid b1
  have HRW : Hid (∀ W, Below W1.heap.size W1 W → W.heap[g1]? = some (.cells (txC A n c t).toArray 28 (0, 0)) ∧ Rd W A (upsC t.us) ∧ g1 < W.heap.size) := Lib.hid (fun W hb => by
    have h1 := (hb.block _ (Array.getElem?_eq_some_iff.1 r1).1).trans r1
    exact ⟨h1, hr.below (b1.trans (hb.mono b1.size)), (Array.getElem?_eq_some_iff.1 h1).1⟩)
  obtain ⟨X, hX, hXs⟩ : ∃ X : ByteArray, strV t.head = .string X ∧ X.data.toList = t.head := ⟨_, rfl, rfl⟩
  have HX := Lib.hid hX
  have HXS := Lib.hid hXs
  have HXZ : Hid (X.size = t.head.length) := Lib.hid (by rw [← hXs, Lib.size_eq])
  obtain ⟨P0, hP0⟩ : ∃ P, numB (clampN (n : Int)) = P := ⟨_, rfl⟩
  have hp0 : P0.length ≤ 10 := by rw [← hP0]; exact numB_length _
  obtain ⟨PF, hPF⟩ : ∃ P, payloadB t = P := ⟨_, rfl⟩
  have HPF : Hid (PF = P0 ++ t.us.flatMap upB ++ textB t.head ++ t.at_) := Lib.hid (by rw [← hPF, ← hP0, ← hn]; rfl)
  rw [hPF] at hl ⊢
  have HP0 := Lib.hid hP0
  have HLEN : Hid (P0.length + (t.us.flatMap upB).length + (textB t.head).length + 32 ≤ 100000000000000) := Lib.hid (by
    have h1 := hl
    rw [HPF.out] at h1
    simp only [List.length_append, ht.al] at h1
    omega)
  obtain ⟨lt, hlt⟩ : ∃ l, txC A n c t = l := ⟨_, rfl⟩
  have c0 : W1.cell? ⟨g1, 0, none⟩ = some (.slice A n c) := (tx_cells r1).1
  rw [hlt] at hW1 ⊢
  clear hn ht b1 s1 r1 hX hXs hlt hr hPF hP0 hl
  go_enter Tryz.func75, Tryz.ntmps75
  go_wp2_with fail
  try rw [hg]
  refine (num_sL _ [] (n : Int) _ (Sl.nil _) (by simp)).mono ?_
  rintro e w2 ⟨v2, rfl, ho2⟩
  rw [HP0.out, List.nil_append] at ho2
  have HO2 := Lib.hid ho2
  have c2 : w2.cell? ⟨g1, 0, none⟩ = some (.slice A n c) := (tx_cells (HRW.out _ ho2.bel).1).1
  clear ho2 c0 hW1
  go_wp2_with fail
  go_loopg [3, 13] (n * 1) (fun gk_ v iv wr => ∃ (i : Nat), i ≤ n ∧ gk_ = n - i ∧ iv = .int .i64 (i : Int) ∧ Hid (Own8 W1.heap.size W1 wr v (P0 ++ (t.us.take i).flatMap upB)))
  case atStart => exact ⟨0, by omega, by omega, rfl, Lib.hid (by simpa using HO2.out)⟩
  case round =>
  clear c2 HO2
  obtain ⟨i, hi, rfl, rfl, HO⟩ := hrel
  by_cases hlt : i < n
  · have j1 : (i : Int) < (n : Int) := by omega
    have hil : i < t.us.length := by rw [HN.out]; exact hlt
    obtain ⟨u, hu⟩ : ∃ u, t.us[i] = u := ⟨_, rfl⟩
    have HOK : Hid (upOk u) := Lib.hid (HT.out.us u (by rw [← hu]; exact List.getElem_mem hil))
    have hrd := (HRW.out _ HO.out.bel).2.1
    obtain ⟨b, o, hA, _⟩ := hrd.all (by rw [upsC_len HT.out.us, HN.out]; omega)
    rw [hA] at hrd
    have hrow := rd_flat (f := upC) (m := 65) hrd (fun x hx => upC_len (HT.out.us x hx)) i hil
    rw [hu] at hrow
    have HU := Lib.hid hrow
    have HA := Lib.hid hA
    rw [hA]
    have HIL := Lib.hid (info_upl HOK.out)
    have HIA := Lib.hid (info_upa HOK.out)
    have HOC : Hid ((upC u).toArray.all (·.oneCell') = true) := Lib.hid (all_oneCell_toArray (upC_one u))
    obtain ⟨gu, hgu⟩ : ∃ x, wr.heap.size = x := ⟨_, rfl⟩
    obtain ⟨WA, hWA⟩ : ∃ W, wr.alloc (.cells Tryz.zeroCells31 31) = W := ⟨_, rfl⟩
    obtain ⟨rA, bA, sA⟩ := new_row hWA
    rw [hgu, upZ_eq] at rA
    obtain ⟨WB, hWB, TB, RB, GB⟩ := put_rowR (new := upC u) rA (by rw [upC_len HOK.out]; rfl)
    have HWB := Lib.hid hWB
    have BB : Hid (Below wr.heap.size wr WB) := Lib.hid (bel_grown bA bA.size GB.out (by omega))
    obtain ⟨Y, hY, hYs⟩ : ∃ Y : ByteArray, strV u.name = .string Y ∧ Y.data.toList = u.name := ⟨_, rfl, rfl⟩
    have HYS := Lib.hid hYs
    have HYZ : Hid (Y.size = u.name.length) := Lib.hid (by rw [← hYs, Lib.size_eq])
    obtain ⟨c0, c1, c2⟩ := up_cells RB.out HOK.out
    rw [hY] at c0
    have HSZ : Hid (gu < WB.heap.size) := Lib.hid (Array.getElem?_eq_some_iff.1 RB.out).1
    have HIO := Lib.hid (info_idl u.old HOK.out.1)
    have HIN := Lib.hid (info_idl u.new HOK.out.2.1)
    have HL2 : Hid ((P0 ++ (t.us.take i).flatMap upB).length + (textB u.name).length + 64 ≤ 100000000000000 ∧ (P0 ++ (t.us.take i).flatMap upB).length + u.name.length ≤ 100000000000000) := Lib.hid (by
      have h1 := ups_le t.us (i + 1)
      rw [ups_take hil, hu, List.length_append, upB_len HOK.out] at h1
      have h2 := HLEN.out
      have h3 := textB_ge u.name
      rw [List.length_append]
      omega)
    have HNX : Hid (P0 ++ (t.us.take i).flatMap upB ++ textB u.name ++ u.old ++ u.new = P0 ++ (t.us.take (i + 1)).flatMap upB) := Lib.hid (by
      rw [ups_take hil, hu]
      unfold upB
      simp only [List.append_assoc])
    obtain ⟨zs, hzs⟩ : ∃ zs, P0 ++ (t.us.take i).flatMap upB = zs := ⟨_, rfl⟩
    rw [hzs] at HO HL2 HNX
    have HC1 := Lib.hid c1
    have HC2 := Lib.hid c2
    obtain ⟨la, hla⟩ : ∃ l, upC u = l := ⟨_, rfl⟩
    rw [hla] at HU HIL HIA HOC HWB TB
    clear hil hu hrd hA hrow rA bA sA hWB hY hYs hla c1 c2 hzs
    go_wp2_with (first
      | ((with_reducible (refine wpList_load_cells 31 _ b (o + i * 65) (la) HU.out Tryz.underlying31 rfl HIL.out ?_ rfl ?_ ?_)); (exact rfl); (exact rfl))
      | ((with_reducible (refine wpList_store_mid rfl _ _ _ rfl ?_ ?_ ?_ ?_ ?_ ?_ ?_ ?_ ?_)); (exact gu); (exact 0); (exact (la).toArray); (exact rfl); (exact rfl); (exact TB.out); (exact HIA.out); (exact HOC.out); rw [HWB.out]))
    refine wp_region_sched (fun w' => w'.cell? ⟨gu, 0, none⟩ = some (.string Y) ∧ w'.rangeAt gu 1 (b8s u.old) ∧ w'.rangeAt gu 33 (b8s u.new))
      [(true, 0), (true, 1), (true, 2), (true, 4), (true, 5), (true, 7), (true, 8), (false, 3), (false, 6), (false, 9), (true, 10)] (by kernel_rfl) (by kernel_rfl) rfl (by kernel_rfl) ⟨c0, HC1.out, HC2.out⟩ ?_
    (first | (refine wpS_pass _ rfl (by rfl) ?_; simp only [Act.put, List.getElem_toArray, List.getElem_cons_zero, List.getElem_cons_succ, List.setIfInBounds_toArray, List.set_cons_zero, List.set_cons_succ]) | (refine wpS_take _ ?_ rfl (by rfl) ?_ ?_; rotate_left; (focus (intro w' hS'; (try dsimp only at hS'); (repeat (have hS1 := hS'.1; replace hS' := hS'.2)); go_simp; (try with_reducible rfl); done)); simp only [Act.put, List.getElem_toArray, List.getElem_cons_zero, List.getElem_cons_succ, List.setIfInBounds_toArray, List.set_cons_zero, List.set_cons_succ]))
    (first | (refine wpS_pass _ rfl (by rfl) ?_; simp only [Act.put, List.getElem_toArray, List.getElem_cons_zero, List.getElem_cons_succ, List.setIfInBounds_toArray, List.set_cons_zero, List.set_cons_succ]) | (refine wpS_take _ ?_ rfl (by rfl) ?_ ?_; rotate_left; (focus (intro w' hS'; (try dsimp only at hS'); (repeat (have hS1 := hS'.1; replace hS' := hS'.2)); go_simp; (try with_reducible rfl); done)); simp only [Act.put, List.getElem_toArray, List.getElem_cons_zero, List.getElem_cons_succ, List.setIfInBounds_toArray, List.set_cons_zero, List.set_cons_succ]))
    (first | (refine wpS_pass _ rfl (by rfl) ?_; simp only [Act.put, List.getElem_toArray, List.getElem_cons_zero, List.getElem_cons_succ, List.setIfInBounds_toArray, List.set_cons_zero, List.set_cons_succ]) | (refine wpS_take _ ?_ rfl (by rfl) ?_ ?_; rotate_left; (focus (intro w' hS'; (try dsimp only at hS'); (repeat (have hS1 := hS'.1; replace hS' := hS'.2)); go_simp; (try with_reducible rfl); done)); simp only [Act.put, List.getElem_toArray, List.getElem_cons_zero, List.getElem_cons_succ, List.setIfInBounds_toArray, List.set_cons_zero, List.set_cons_succ]))
    (first | (refine wpS_pass _ rfl (by rfl) ?_; simp only [Act.put, List.getElem_toArray, List.getElem_cons_zero, List.getElem_cons_succ, List.setIfInBounds_toArray, List.set_cons_zero, List.set_cons_succ]) | (refine wpS_take _ ?_ rfl (by rfl) ?_ ?_; rotate_left; (focus (intro w' hS'; (try dsimp only at hS'); (repeat (have hS1 := hS'.1; replace hS' := hS'.2)); go_simp; (try with_reducible rfl); done)); simp only [Act.put, List.getElem_toArray, List.getElem_cons_zero, List.getElem_cons_succ, List.setIfInBounds_toArray, List.set_cons_zero, List.set_cons_succ]))
    refine wpS_load _ rfl (by rfl) 24 _ rfl gu 1 rfl (b8s u.old) _ (fun w' hS => hS.2.1) Tryz.underlying24 rfl HIO.out ?_
    simp only [Act.put, List.getElem_toArray, List.getElem_cons_zero, List.getElem_cons_succ, List.setIfInBounds_toArray, List.set_cons_zero, List.set_cons_succ]
    (first | (refine wpS_pass _ rfl (by rfl) ?_; simp only [Act.put, List.getElem_toArray, List.getElem_cons_zero, List.getElem_cons_succ, List.setIfInBounds_toArray, List.set_cons_zero, List.set_cons_succ]) | (refine wpS_take _ ?_ rfl (by rfl) ?_ ?_; rotate_left; (focus (intro w' hS'; (try dsimp only at hS'); (repeat (have hS1 := hS'.1; replace hS' := hS'.2)); go_simp; (try with_reducible rfl); done)); simp only [Act.put, List.getElem_toArray, List.getElem_cons_zero, List.getElem_cons_succ, List.setIfInBounds_toArray, List.set_cons_zero, List.set_cons_succ]))
    refine wpS_load _ rfl (by rfl) 24 _ rfl gu 33 rfl (b8s u.new) _ (fun w' hS => hS.2.2) Tryz.underlying24 rfl HIN.out ?_
    simp only [Act.put, List.getElem_toArray, List.getElem_cons_zero, List.getElem_cons_succ, List.setIfInBounds_toArray, List.set_cons_zero, List.set_cons_succ]
    refine wpS_do _ rfl (by rfl) (fun K hK => ?_)
    go_simp
    refine (text_sL _ zs Y _ (HO.out.sl.below BB.out.drew) (by have := HL2.out.2; have := HYZ.out; omega)).mono ?_
    rintro e w3 ⟨v3, rfl, ho3⟩
    rw [HYS.out] at ho3
    have hb3 : Below WB.heap.size WB w3 := (Below.refl _ _).drew.trans ho3.bel
    refine hK.out _ _ ⟨cell_below c0 HSZ.out hb3, range_below HC1.out HSZ.out hb3, range_below HC2.out HSZ.out hb3⟩ (fun hS => ?_)
    clear hK hS
    refine wpS_do _ rfl (by rfl) (fun K hK => ?_)
    go_simp
    refine (id_sL v3 _ u.old _ ho3.sl HOK.out.1 (by have := HL2.out.1; rw [List.length_append]; omega)).mono ?_
    rintro e w4 ⟨v4, rfl, ho4⟩
    have hb4 := hb3.trans (ho4.bel.mono hb3.size)
    refine hK.out _ _ ⟨cell_below c0 HSZ.out hb4, range_below HC1.out HSZ.out hb4, range_below HC2.out HSZ.out hb4⟩ (fun hS => ?_)
    clear hK hS
    refine wpS_do _ rfl (by rfl) (fun K hK => ?_)
    go_simp
    refine (id_sL v4 _ u.new _ ho4.sl HOK.out.2.1 (by have := HL2.out.1; have := HOK.out.1; simp only [List.length_append]; omega)).mono ?_
    rintro e w5 ⟨v5, rfl, ho5⟩
    have hb5 := hb4.trans (ho5.bel.mono hb4.size)
    refine hK.out _ _ ⟨cell_below c0 HSZ.out hb5, range_below HC1.out HSZ.out hb5, range_below HC2.out HSZ.out hb5⟩ (fun hS => ?_)
    clear hK hS
    have HO5 : Hid (Own8 W1.heap.size W1 w5 v5 (P0 ++ (t.us.take (i + 1)).flatMap upB)) := Lib.hid (by
      rw [← HNX.out]
      have hbb : Below W1.heap.size W1 w4 := HO.out.bel.trans ((BB.out.trans (hb4.mono BB.out.size)).mono HO.out.bel.size)
      exact Own8.trans hbb hbb.size ho5)
    clear hb3 hb4 hb5 ho3 ho4 ho5
    (first | (refine wpS_pass _ rfl (by rfl) ?_; simp only [Act.put, List.getElem_toArray, List.getElem_cons_zero, List.getElem_cons_succ, List.setIfInBounds_toArray, List.set_cons_zero, List.set_cons_succ]) | (refine wpS_take _ ?_ rfl (by rfl) ?_ ?_; rotate_left; (focus (intro w' hS'; (try dsimp only at hS'); (repeat (have hS1 := hS'.1; replace hS' := hS'.2)); go_simp; (try with_reducible rfl); done)); simp only [Act.put, List.getElem_toArray, List.getElem_cons_zero, List.getElem_cons_succ, List.setIfInBounds_toArray, List.set_cons_zero, List.set_cons_succ]))
    refine wpS_done ?_
    go_wp2_with fail
    rw [← HA.out]
    clear c0
    go_roundg (n - (i + 1))
    case measure => omega
    case rel => exact ⟨i + 1, by omega, rfl, by first | rfl | exact congrArg (Value.int .i64) (by omega) | go_num, HO5⟩
  · obtain rfl : i = n := by omega
    have h1 := HO.out
    rw [List.take_of_length_le (by rw [HN.out]; exact Nat.le_refl _)] at h1
    have HOF := Lib.hid h1
    clear h1
    have hrow := HRW.out _ HOF.out.bel
    obtain ⟨_, c1, c2⟩ := tx_cells hrow.1
    rw [HX.out] at c1
    have HC1 := Lib.hid c1
    have HC2 := Lib.hid c2
    have HSZ := Lib.hid hrow.2.2
    have HIT := Lib.hid (info_idl t.at_ HT.out.al)
    have HTL := Lib.hid (textB_ge t.head)
    clear hrow c1 c2 HO
    have c1 := HC1.out
    go_wp2_with fail
    refine wp_region_sched (fun w' => w'.cell? ⟨g1, 1, none⟩ = some (.string X) ∧ w'.rangeAt g1 2 (b8s t.at_))
      [(true, 0), (true, 1), (true, 2), (true, 4), (true, 5), (false, 3), (false, 6), (true, 7)] (by kernel_rfl) (by kernel_rfl) rfl (by kernel_rfl) ⟨c1, HC2.out⟩ ?_
    (first | (refine wpS_pass _ rfl (by rfl) ?_; simp only [Act.put, List.getElem_toArray, List.getElem_cons_zero, List.getElem_cons_succ, List.setIfInBounds_toArray, List.set_cons_zero, List.set_cons_succ]) | (refine wpS_take _ ?_ rfl (by rfl) ?_ ?_; rotate_left; (focus (intro w' hS'; (try dsimp only at hS'); (repeat (have hS1 := hS'.1; replace hS' := hS'.2)); go_simp; (try with_reducible rfl); done)); simp only [Act.put, List.getElem_toArray, List.getElem_cons_zero, List.getElem_cons_succ, List.setIfInBounds_toArray, List.set_cons_zero, List.set_cons_succ]))
    (first | (refine wpS_pass _ rfl (by rfl) ?_; simp only [Act.put, List.getElem_toArray, List.getElem_cons_zero, List.getElem_cons_succ, List.setIfInBounds_toArray, List.set_cons_zero, List.set_cons_succ]) | (refine wpS_take _ ?_ rfl (by rfl) ?_ ?_; rotate_left; (focus (intro w' hS'; (try dsimp only at hS'); (repeat (have hS1 := hS'.1; replace hS' := hS'.2)); go_simp; (try with_reducible rfl); done)); simp only [Act.put, List.getElem_toArray, List.getElem_cons_zero, List.getElem_cons_succ, List.setIfInBounds_toArray, List.set_cons_zero, List.set_cons_succ]))
    (first | (refine wpS_pass _ rfl (by rfl) ?_; simp only [Act.put, List.getElem_toArray, List.getElem_cons_zero, List.getElem_cons_succ, List.setIfInBounds_toArray, List.set_cons_zero, List.set_cons_succ]) | (refine wpS_take _ ?_ rfl (by rfl) ?_ ?_; rotate_left; (focus (intro w' hS'; (try dsimp only at hS'); (repeat (have hS1 := hS'.1; replace hS' := hS'.2)); go_simp; (try with_reducible rfl); done)); simp only [Act.put, List.getElem_toArray, List.getElem_cons_zero, List.getElem_cons_succ, List.setIfInBounds_toArray, List.set_cons_zero, List.set_cons_succ]))
    (first | (refine wpS_pass _ rfl (by rfl) ?_; simp only [Act.put, List.getElem_toArray, List.getElem_cons_zero, List.getElem_cons_succ, List.setIfInBounds_toArray, List.set_cons_zero, List.set_cons_succ]) | (refine wpS_take _ ?_ rfl (by rfl) ?_ ?_; rotate_left; (focus (intro w' hS'; (try dsimp only at hS'); (repeat (have hS1 := hS'.1; replace hS' := hS'.2)); go_simp; (try with_reducible rfl); done)); simp only [Act.put, List.getElem_toArray, List.getElem_cons_zero, List.getElem_cons_succ, List.setIfInBounds_toArray, List.set_cons_zero, List.set_cons_succ]))
    refine wpS_load _ rfl (by rfl) 24 _ rfl g1 2 rfl (b8s t.at_) _ (fun w' hS => hS.2) Tryz.underlying24 rfl HIT.out ?_
    simp only [Act.put, List.getElem_toArray, List.getElem_cons_zero, List.getElem_cons_succ, List.setIfInBounds_toArray, List.set_cons_zero, List.set_cons_succ]
    refine wpS_do _ rfl (by rfl) (fun K hK => ?_)
    go_simp
    refine (text_sL _ _ X _ (HOF.out.sl.below (Below.refl _ _).drew) (by have := HLEN.out; have := HXZ.out; have := HTL.out; rw [List.length_append]; omega)).mono ?_
    rintro e w3 ⟨v3, rfl, ho3⟩
    rw [HXS.out] at ho3
    have hb3 : Below wr.heap.size wr w3 := (Below.refl _ _).drew.trans ho3.bel
    refine hK.out _ _ ⟨cell_below HC1.out HSZ.out hb3, range_below HC2.out HSZ.out hb3⟩ (fun hS => ?_)
    clear hK hS
    refine wpS_do _ rfl (by rfl) (fun K hK => ?_)
    go_simp
    refine (id_sL v3 _ t.at_ _ ho3.sl HT.out.al (by have := HLEN.out; simp only [List.length_append]; omega)).mono ?_
    rintro e w4 ⟨v4, rfl, ho4⟩
    have hb4 := hb3.trans (ho4.bel.mono hb3.size)
    refine hK.out _ _ ⟨cell_below HC1.out HSZ.out hb4, range_below HC2.out HSZ.out hb4⟩ (fun hS => ?_)
    clear hK hS
    have HO4 : Hid (Own8 w.heap.size w w4 v4 PF) := Lib.hid (by
      rw [HPF.out]
      have hbb : Below W1.heap.size W1 w3 := HOF.out.bel.trans (hb3.mono HOF.out.bel.size)
      have hbw : Below w.heap.size w w3 := HB1.out.trans (hbb.mono HB1.out.size)
      exact Own8.trans hbw hbw.size ho4)
    clear hb3 hb4 ho3 ho4
    (first | (refine wpS_pass _ rfl (by rfl) ?_; simp only [Act.put, List.getElem_toArray, List.getElem_cons_zero, List.getElem_cons_succ, List.setIfInBounds_toArray, List.set_cons_zero, List.set_cons_succ]) | (refine wpS_take _ ?_ rfl (by rfl) ?_ ?_; rotate_left; (focus (intro w' hS'; (try dsimp only at hS'); (repeat (have hS1 := hS'.1; replace hS' := hS'.2)); go_simp; (try with_reducible rfl); done)); simp only [Act.put, List.getElem_toArray, List.getElem_cons_zero, List.getElem_cons_succ, List.setIfInBounds_toArray, List.set_cons_zero, List.set_cons_succ]))
    refine wpS_done ?_
    go_wp2_with fail
    go_ret
    exact ⟨v4, rfl, by first | exact HO4.out | (rw [← hg]; exact HO4.out)⟩
end Go.Proofs.YtelbofikcpchiaaGreat
