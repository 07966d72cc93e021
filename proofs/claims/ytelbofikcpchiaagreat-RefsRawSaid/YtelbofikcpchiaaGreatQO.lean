/- Refs: split of what is no whole record. (With the texts that it stands on.) -/
import Derived.Test.YtelbofikcpchiaaGreatQN
namespace Go.Proofs.YtelbofikcpchiaaGreat
open Go.RowKit
def Sl (w : World) (v : Value) (bs : List UInt8) : Prop := ∃ A n c, v = .slice A n c ∧ n = bs.length ∧ n ≤ c ∧ c ≤ maxLen ∧ Rd w A (b8s bs)
theorem Sl.nil (w : World) : Sl w (.slice none 0 0) [] := ⟨_, _, _, rfl, rfl, Nat.le_refl _, by unfold maxLen; omega, Rd.nil⟩
theorem Own8.sl {N : Nat} {w0 w : World} {v : Value} {zs : List UInt8} (h : Own8 N w0 w v zs) : Sl w v zs := by
 obtain ⟨A, c, rfl, hcl, hcm, hr, _⟩ := h.slice
 exact ⟨A, _, c, rfl, rfl, hcl, hcm, hr⟩
theorem Sl.below {w w' : World} {v : Value} {bs : List UInt8} (h : Sl w v bs) (hb : Below w.heap.size w w') : Sl w' v bs := by
 obtain ⟨A, n, c, h1, h2, h3, h4, h5⟩ := h
 exact ⟨A, n, c, h1, h2, h3, h4, h5.below hb⟩
theorem num_sL (v : Value) (bs : List UInt8) (n : Int) (w : World) (h : Sl w v bs) (hm : bs.length + 10 ≤ 140737488355328) :
  Calls Tryz.prog 77 #[v, .int .i64 n] w fun e w' => ∃ v, e = .returned v ∧ Own8 w.heap.size w w' v (bs ++ numB (clampN n)) := by
 obtain ⟨A, m, c, rfl, rfl, _, _, hr⟩ := h
 exact num_any A bs c n w hr (by omega)
theorem text_sL (v : Value) (bs : List UInt8) (s : ByteArray) (w : World) (h : Sl w v bs) (hm : bs.length + s.size + 10 ≤ 140737488355328) :
  Calls Tryz.prog 103 #[v, .string s] w fun e w' => ∃ v, e = .returned v ∧ Own8 w.heap.size w w' v (bs ++ textB s.data.toList) := by
 obtain ⟨A, m, c, rfl, rfl, _, _, hr⟩ := h
 exact text_any A bs c s w hr (by omega)
theorem id_sL (v : Value) (bs id : List UInt8) (w : World) (h : Sl w v bs) (hid : id.length = 32) (hm : bs.length + 32 ≤ 140737488355328) :
  Calls Tryz.prog 102 #[v, .agg (b8s id).toArray] w fun e w' => ∃ v, e = .returned v ∧ Own8 w.heap.size w w' v (bs ++ id) := by
 obtain ⟨A, m, c, rfl, rfl, _, _, hr⟩ := h
 exact id_any A bs id c w hid hr (by omega)
theorem ups_take {us : List UpM} {i : Nat} (h : i < us.length) : (us.take (i + 1)).flatMap upB = (us.take i).flatMap upB ++ upB us[i] := by
 have e : us.take (i + 1) = us.take i ++ [us[i]] := by
  rw [List.take_add_one, List.getElem?_eq_getElem h]
  rfl
 rw [e, List.flatMap_append]
 simp
theorem ups_le (us : List UpM) (i : Nat) : ((us.take i).flatMap upB).length ≤ (us.flatMap upB).length := by
 conv => rhs; rw [← List.take_append_drop i us]
 simp only [List.flatMap_append, List.length_append]
 omega
theorem upB_len {u : UpM} (h : upOk u) : (upB u).length = (textB u.name).length + 64 := by
 unfold upB
 simp only [List.length_append, h.1, h.2.1]
theorem textB_ge (s : List UInt8) : s.length ≤ (textB s).length := by
 unfold textB
 simp only [List.length_append]
 omega
set_option maxRecDepth 100000 in
set_option maxHeartbeats 8000000 in
theorem payload_any (A : Option Addr) (n c : Nat) (t : TxM) (hn : t.us.length = n) (ht : TxOk t) (w : World) (hr : Rd w A (upsC t.us)) (hl : (payloadB t).length ≤ 100000000000000) :
  Calls Tryz.prog 75 #[.agg (txC A n c t).toArray] w fun e w' => ∃ v, e = .returned v ∧ Own8 w.heap.size w w' v (payloadB t) := by
 have HN := h_ hn
 have HT := h_ ht
 have hnl : n ≤ 1000000 := by have := ht.ul; omega
 obtain ⟨g1, hg⟩ := eX w.heap.size
 obtain ⟨W1, hW1⟩ := eX (w.alloc (.cells (txC A n c t).toArray 28))
 obtain ⟨r1, b1, s1⟩ := new_row hW1
 rw [hg] at r1
 have R1 := h_ r1
 have HB1 := h_ b1
 have HRW : Hid (∀ W, Below W1.heap.size W1 W → W.heap[g1]? = some (.cells (txC A n c t).toArray 28 (0, 0)) ∧ Rd W A (upsC t.us) ∧ g1 < W.heap.size) := h_ (fun W hb => by
  have h1 := (hb.block _ (Array.getElem?_eq_some_iff.1 r1).1).trans r1
  exact ⟨h1, hr.below (b1.trans (hb.mono b1.size)), (Array.getElem?_eq_some_iff.1 h1).1⟩)
 obtain ⟨X, hX, hXs⟩ : ∃ X : ByteArray, strV t.head = .string X ∧ X.data.toList = t.head := ⟨_, rfl, rfl⟩
 have HX := h_ hX
 have HXS := h_ hXs
 have HXZ : Hid (X.size = t.head.length) := h_ (by rw [← hXs, Lib.size_eq])
 obtain ⟨P0, hP0⟩ := eX (numB (clampN (n : Int)))
 have hp0 : P0.length ≤ 10 := by rw [← hP0]; exact numB_length _
 obtain ⟨PF, hPF⟩ := eX (payloadB t)
 have HPF : Hid (PF = P0 ++ t.us.flatMap upB ++ textB t.head ++ t.at_) := h_ (by rw [← hPF, ← hP0, ← hn]; rfl)
 rw [hPF] at hl ⊢
 have HP0 := h_ hP0
 have HLEN : Hid (P0.length + (t.us.flatMap upB).length + (textB t.head).length + 32 ≤ 100000000000000) := h_ (by
  have h1 := hl
  rw [HPF.out] at h1
  simp only [List.length_append, ht.al] at h1
  omega)
 obtain ⟨lt, hlt⟩ := eX (txC A n c t)
 have c0 : W1.cell? ⟨g1, 0, none⟩ = some (.slice A n c) := (tx_cells r1).1
 rw [hlt] at hW1 ⊢
 clear hn ht b1 s1 r1 hX hXs hlt hr hPF hP0 hl
 go_enter Tryz.func75, Tryz.ntmps75
 go_wp2_with fail
 try rw [hg]
 refine (num_sL _ [] (n : Int) _ (Sl.nil _) (by simp)).mono ?_
 rintro e w2 ⟨v2, rfl, ho2⟩
 rw [HP0.out, List.nil_append] at ho2
 have HO2 := h_ ho2
 have c2 : w2.cell? ⟨g1, 0, none⟩ = some (.slice A n c) := (tx_cells (HRW.out _ ho2.bel).1).1
 clear ho2 c0 hW1
 go_wp2_with fail
 go_loopg [3, 13] (n * 1) (fun gk_ v iv wr => ∃ (i : Nat), i ≤ n ∧ gk_ = n - i ∧ iv = .int .i64 (i : Int) ∧ Hid (Own8 W1.heap.size W1 wr v (P0 ++ (t.us.take i).flatMap upB)))
 case atStart => exact ⟨0, by omega, by omega, rfl, h_ (by simpa using HO2.out)⟩
 case round =>
 clear c2 HO2
 obtain ⟨i, hi, rfl, rfl, HO⟩ := hrel
 by_cases hlt : i < n
 ·have j1 : (i : Int) < (n : Int) := by omega
  have hil : i < t.us.length := by rw [HN.out]; exact hlt
  obtain ⟨u, hu⟩ := eX (t.us[i])
  have HOK : Hid (upOk u) := h_ (HT.out.us u (by rw [← hu]; exact List.getElem_mem hil))
  have hrd := (HRW.out _ HO.out.bel).2.1
  obtain ⟨b, o, hA, _⟩ := hrd.all (by rw [upsC_len HT.out.us, HN.out]; omega)
  rw [hA] at hrd
  have hrow := rd_flat (f := upC) (m := 65) hrd (fun x hx => upC_len (HT.out.us x hx)) i hil
  rw [hu] at hrow
  have HU := h_ hrow
  have HA := h_ hA
  rw [hA]
  have HIL := h_ (info_upl HOK.out)
  have HIA := h_ (info_upa HOK.out)
  have HOC : Hid ((upC u).toArray.all (·.oneCell') = true) := h_ (all_oneCell_toArray (upC_one u))
  obtain ⟨gu, hgu⟩ := eX wr.heap.size
  obtain ⟨WA, hWA⟩ := eX (wr.alloc (.cells Tryz.zeroCells31 31))
  obtain ⟨rA, bA, sA⟩ := new_row hWA
  rw [hgu, upZ_eq] at rA
  obtain ⟨WB, hWB, TB, RB, GB⟩ := put_rowR (new := upC u) rA (by rw [upC_len HOK.out]; rfl)
  have HWB := h_ hWB
  have BB : Hid (Below wr.heap.size wr WB) := h_ (bel_grown bA bA.size GB.out (by omega))
  obtain ⟨Y, hY, hYs⟩ : ∃ Y : ByteArray, strV u.name = .string Y ∧ Y.data.toList = u.name := ⟨_, rfl, rfl⟩
  have HYS := h_ hYs
  have HYZ : Hid (Y.size = u.name.length) := h_ (by rw [← hYs, Lib.size_eq])
  obtain ⟨c0, c1, c2⟩ := up_cells RB.out HOK.out
  rw [hY] at c0
  have HSZ : Hid (gu < WB.heap.size) := h_ (b_ RB)
  have HIO := h_ (info_idl u.old HOK.out.1)
  have HIN := h_ (info_idl u.new HOK.out.2.1)
  have HL2 : Hid ((P0 ++ (t.us.take i).flatMap upB).length + (textB u.name).length + 64 ≤ 100000000000000 ∧ (P0 ++ (t.us.take i).flatMap upB).length + u.name.length ≤ 100000000000000) := h_ (by
   have h1 := ups_le t.us (i + 1)
   rw [ups_take hil, hu, List.length_append, upB_len HOK.out] at h1
   have h2 := HLEN.out
   have h3 := textB_ge u.name
   rw [List.length_append]
   omega)
  have HNX : Hid (P0 ++ (t.us.take i).flatMap upB ++ textB u.name ++ u.old ++ u.new = P0 ++ (t.us.take (i + 1)).flatMap upB) := h_ (by
   rw [ups_take hil, hu]
   unfold upB
   simp only [List.append_assoc])
  obtain ⟨zs, hzs⟩ := eX (P0 ++ (t.us.take i).flatMap upB)
  rw [hzs] at HO HL2 HNX
  have HC1 := h_ c1
  have HC2 := h_ c2
  obtain ⟨la, hla⟩ := eX (upC u)
  rw [hla] at HU HIL HIA HOC HWB TB
  clear hil hu hrd hA hrow rA bA sA hWB hY hYs hla c1 c2 hzs
  go_wp2_with (first
   | ((with_reducible (refine wpList_load_cells 31 _ b (o + i * 65) (la) HU.out Tryz.underlying31 rfl HIL.out ?_ rfl ?_ ?_)); exact rfl; (exact rfl))
   | ((with_reducible (refine wpList_store_mid rfl _ _ _ rfl ?_ ?_ ?_ ?_ ?_ ?_ ?_ ?_ ?_)); exact gu; exact 0; (exact (la).toArray); exact rfl; exact rfl; exact TB.out; exact HIA.out; exact HOC.out; rw [HWB.out]))
  refine wp_region_sched (fun w' => w'.cell? ⟨gu, 0, none⟩ = some (.string Y) ∧ w'.rangeAt gu 1 (b8s u.old) ∧ w'.rangeAt gu 33 (b8s u.new))
   [(true, 0), (true, 1), (true, 2), (true, 4), (true, 5), (true, 7), (true, 8), (false, 3), (false, 6), (false, 9), (true, 10)] (by kernel_rfl) (by kernel_rfl) rfl (by kernel_rfl) ⟨c0, HC1.out, HC2.out⟩ ?_
  iterate 4 ((first | refine wpS_pass _ rfl (by rfl) ?_ | (refine wpS_take _ ?_ rfl (by rfl) ?_ ?_; rotate_left; (focus (intro w' hS'; (try dsimp only at hS'); (repeat (have hS1 := hS'.1; replace hS' := hS'.2)); go_simp; (try with_reducible rfl); done)))); simp only [LY])
  refine wpS_load _ rfl (by rfl) 24 _ rfl gu 1 rfl (b8s u.old) _ (fun w' hS => hS.2.1) Tryz.underlying24 rfl HIO.out ?_
  simp only [LY]
  ((first | refine wpS_pass _ rfl (by rfl) ?_ | (refine wpS_take _ ?_ rfl (by rfl) ?_ ?_; rotate_left; (focus (intro w' hS'; (try dsimp only at hS'); (repeat (have hS1 := hS'.1; replace hS' := hS'.2)); go_simp; (try with_reducible rfl); done)))); simp only [LY])
  refine wpS_load _ rfl (by rfl) 24 _ rfl gu 33 rfl (b8s u.new) _ (fun w' hS => hS.2.2) Tryz.underlying24 rfl HIN.out ?_
  simp only [LY]
  refine wpS_do _ rfl (by rfl) (fun K hK => ?_)
  go_simp
  refine (text_sL _ zs Y _ (HO.out.sl.below BB.out.drew) (by have := HL2.out.2; have := HYZ.out; omega)).mono ?_
  rintro e w3 ⟨v3, rfl, ho3⟩
  rw [HYS.out] at ho3
  have hb3 : Below WB.heap.size WB w3 := (Below.refl _ _).drew.trans ho3.bel
  refine hK.out _ _ ⟨cell_below c0 HSZ.out hb3, range_below HC1.out HSZ.out hb3, range_below HC2.out HSZ.out hb3⟩ (fun hS => ?_)
  clear hK hS
  refine wpS_do _ rfl (by rfl) (fun K hK => ?_)
  go_simp
  refine (id_sL v3 _ u.old _ ho3.sl HOK.out.1 (by have := HL2.out.1; rw [List.length_append]; omega)).mono ?_
  rintro e w4 ⟨v4, rfl, ho4⟩
  have hb4 := hb3.trans (ho4.bel.mono hb3.size)
  refine hK.out _ _ ⟨cell_below c0 HSZ.out hb4, range_below HC1.out HSZ.out hb4, range_below HC2.out HSZ.out hb4⟩ (fun hS => ?_)
  clear hK hS
  refine wpS_do _ rfl (by rfl) (fun K hK => ?_)
  go_simp
  refine (id_sL v4 _ u.new _ ho4.sl HOK.out.2.1 (by have := HL2.out.1; have := HOK.out.1; simp only [List.length_append]; omega)).mono ?_
  rintro e w5 ⟨v5, rfl, ho5⟩
  have hb5 := hb4.trans (ho5.bel.mono hb4.size)
  refine hK.out _ _ ⟨cell_below c0 HSZ.out hb5, range_below HC1.out HSZ.out hb5, range_below HC2.out HSZ.out hb5⟩ (fun hS => ?_)
  clear hK hS
  have HO5 : Hid (Own8 W1.heap.size W1 w5 v5 (P0 ++ (t.us.take (i + 1)).flatMap upB)) := h_ (by
   rw [← HNX.out]
   have hbb : Below W1.heap.size W1 w4 := HO.out.bel.trans ((BB.out.trans (hb4.mono BB.out.size)).mono HO.out.bel.size)
   exact Own8.trans hbb hbb.size ho5)
  clear hb3 hb4 hb5 ho3 ho4 ho5
  ((first | refine wpS_pass _ rfl (by rfl) ?_ | (refine wpS_take _ ?_ rfl (by rfl) ?_ ?_; rotate_left; (focus (intro w' hS'; (try dsimp only at hS'); (repeat (have hS1 := hS'.1; replace hS' := hS'.2)); go_simp; (try with_reducible rfl); done)))); simp only [LY])
  refine wpS_done ?_
  go_wp2_with fail
  rw [← HA.out]
  clear c0
  go_roundg (n - (i + 1))
  case measure => omega
  case rel => exact ⟨i + 1, by omega, rfl, by first | rfl | exact congrArg (Value.int .i64) (by omega) | go_num, HO5⟩
 ·obtain rfl : i = n := by omega
  have h1 := HO.out
  rw [List.take_of_length_le (by rw [HN.out]; exact Nat.le_refl _)] at h1
  have HOF := h_ h1
  clear h1
  have hrow := HRW.out _ HOF.out.bel
  obtain ⟨_, c1, c2⟩ := tx_cells hrow.1
  rw [HX.out] at c1
  have HC1 := h_ c1
  have HC2 := h_ c2
  have HSZ := h_ hrow.2.2
  have HIT := h_ (info_idl t.at_ HT.out.al)
  have HTL := h_ (textB_ge t.head)
  clear hrow c1 c2 HO
  have c1 := HC1.out
  go_wp2_with fail
  refine wp_region_sched (fun w' => w'.cell? ⟨g1, 1, none⟩ = some (.string X) ∧ w'.rangeAt g1 2 (b8s t.at_))
   [(true, 0), (true, 1), (true, 2), (true, 4), (true, 5), (false, 3), (false, 6), (true, 7)] (by kernel_rfl) (by kernel_rfl) rfl (by kernel_rfl) ⟨c1, HC2.out⟩ ?_
  iterate 4 ((first | refine wpS_pass _ rfl (by rfl) ?_ | (refine wpS_take _ ?_ rfl (by rfl) ?_ ?_; rotate_left; (focus (intro w' hS'; (try dsimp only at hS'); (repeat (have hS1 := hS'.1; replace hS' := hS'.2)); go_simp; (try with_reducible rfl); done)))); simp only [LY])
  refine wpS_load _ rfl (by rfl) 24 _ rfl g1 2 rfl (b8s t.at_) _ (fun w' hS => hS.2) Tryz.underlying24 rfl HIT.out ?_
  simp only [LY]
  refine wpS_do _ rfl (by rfl) (fun K hK => ?_)
  go_simp
  refine (text_sL _ _ X _ (HOF.out.sl.below (Below.refl _ _).drew) (by have := HLEN.out; have := HXZ.out; have := HTL.out; rw [List.length_append]; omega)).mono ?_
  rintro e w3 ⟨v3, rfl, ho3⟩
  rw [HXS.out] at ho3
  have hb3 : Below wr.heap.size wr w3 := (Below.refl _ _).drew.trans ho3.bel
  refine hK.out _ _ ⟨cell_below HC1.out HSZ.out hb3, range_below HC2.out HSZ.out hb3⟩ (fun hS => ?_)
  clear hK hS
  refine wpS_do _ rfl (by rfl) (fun K hK => ?_)
  go_simp
  refine (id_sL v3 _ t.at_ _ ho3.sl HT.out.al (by have := HLEN.out; simp only [List.length_append]; omega)).mono ?_
  rintro e w4 ⟨v4, rfl, ho4⟩
  have hb4 := hb3.trans (ho4.bel.mono hb3.size)
  refine hK.out _ _ ⟨cell_below HC1.out HSZ.out hb4, range_below HC2.out HSZ.out hb4⟩ (fun hS => ?_)
  clear hK hS
  have HO4 : Hid (Own8 w.heap.size w w4 v4 PF) := h_ (by
   rw [HPF.out]
   have hbb : Below W1.heap.size W1 w3 := HOF.out.bel.trans (hb3.mono HOF.out.bel.size)
   have hbw : Below w.heap.size w w3 := HB1.out.trans (hbb.mono HB1.out.size)
   exact Own8.trans hbw hbw.size ho4)
  clear hb3 hb4 ho3 ho4
  ((first | refine wpS_pass _ rfl (by rfl) ?_ | (refine wpS_take _ ?_ rfl (by rfl) ?_ ?_; rotate_left; (focus (intro w' hS'; (try dsimp only at hS'); (repeat (have hS1 := hS'.1; replace hS' := hS'.2)); go_simp; (try with_reducible rfl); done)))); simp only [LY])
  refine wpS_done ?_
  go_wp2_with fail
  go_ret
  exact ⟨v4, rfl, by first | exact HO4.out | (rw [← hg]; exact HO4.out)⟩
theorem four_sL (v : Value) (bs : List UInt8) (u : Nat) (w : World) (hu : u < 4294967296) (h : Sl w v bs) (hm : bs.length + 4 ≤ 140737488355328) :
  Calls Tryz.prog 76 #[v, .int .u32 (u : Int)] w fun e w' => ∃ v, e = .returned v ∧ Own8 w.heap.size w w' v (bs ++ fourB u) := by
 obtain ⟨A, m, c, rfl, rfl, _, _, hr⟩ := h
 exact four_any A bs c u w hu hr (by omega)
set_option maxRecDepth 100000 in
set_option maxHeartbeats 8000000 in
theorem record_any (A : Option Addr) (n c : Nat) (t : TxM) (hn : t.us.length = n) (ht : TxOk t) (w : World) (hr : Rd w A (upsC t.us)) (hl : (payloadB t).length ≤ 100000000000000) :
  Calls Tryz.prog 34 #[.agg (txC A n c t).toArray] w fun e w' => ∃ v, e = .returned v ∧ Own8 w.heap.size w w' v (recordB t) := by
 obtain ⟨g1, hg⟩ := eX w.heap.size
 obtain ⟨W1, hW1⟩ := eX (w.alloc (.cells (txC A n c t).toArray 28))
 obtain ⟨r1, b1, s1⟩ := new_row hW1
 rw [hg] at r1
 have HB1 := h_ b1
 have HRG := h_ (range_of_row r1)
 have HIL := h_ (info_txl (A := A) (n := n) (c := c) ht.al)
 have HPY := h_ (payload_any A n c t hn ht W1 (hr.below b1) hl)
 obtain ⟨lt, hlt⟩ := eX (txC A n c t)
 obtain ⟨P, hP⟩ := eX (payloadB t)
 have HRC : Hid (recordB t = numB (clampN (P.length : Int)) ++ fourB (crc P).toNat ++ P) := h_ (by unfold recordB; rw [hP])
 rw [HRC.out]
 rw [hlt] at hW1 HRG HIL HPY ⊢
 rw [hP] at HPY hl
 clear hn ht b1 s1 r1 hlt hr hP HRC
 have hfo : (fourB (crc P).toNat).length = 4 := rfl
 have hnu := numB_length (P.length : Int)
 go_enter Tryz.func34, Tryz.ntmps34
 go_wp2_with (first
  | ((with_reducible (refine wpList_load_cells 28 _ g1 0 (lt) HRG.out Tryz.underlying28 rfl HIL.out ?_ rfl ?_ ?_)); exact rfl; (exact rfl)))
 refine HPY.out.mono ?_
 rintro e w2 ⟨v2, rfl, ho2⟩
 have HB2 := h_ (HB1.out.trans (ho2.bel.mono HB1.out.size))
 obtain ⟨A2, c2, rfl, hc2, hm2, hr2, _⟩ := ho2.slice
 have HR2 : Hid (Rd w2 A2 (b8s P)) := h_ hr2
 clear ho2 hr2 hW1
 go_wp2_with fail
 refine (num_sL _ [] (P.length : Int) _ (Sl.nil _) (by simp)).mono ?_
 rintro e w3 ⟨v3, rfl, ho3⟩
 rw [List.nil_append] at ho3
 have HB3 := h_ (HB2.out.trans (ho3.bel.mono HB2.out.size))
 have HR3 := h_ (HR2.out.below ho3.bel)
 have HO3 := h_ ho3.sl
 clear ho3
 go_wp2_with fail
 refine (sum_any A2 P c2 w3 HR3.out (by unfold maxLen; omega)).mono ?_
 rintro e w4 ⟨rfl, rfl⟩
 go_wp2_with fail
 refine (four_sL v3 _ (crc P).toNat w3 (crc P).isLt HO3.out (by omega)).mono ?_
 rintro e w5 ⟨v5, rfl, ho5⟩
 have hr5 := HR3.out.below ho5.bel
 have HO5 := h_ ho5
 have HR5 := h_ hr5
 clear ho5 hr5
 go_wp2_with (at_builtin; refine wpList_append_rd _ rfl _ _ 29 rfl _ 5 (.int .u8 0) 1 1 Tryz.underlying29 info_u8 rfl (by decide) v5 _ _ rfl HO5.out.own A2 P.length c2 (b8s P) rfl (by simp [b8s]) HR5.out (b8s_one' _) (by unfold maxLen; rw [List.length_append]; omega) (by rw [List.length_append]; omega) HO5.out.sz ?_; intro v6 w6 ho6 hg6 hv6; have HO6 := h_ (HO5.out.appended ho6 rfl hg6); clear ho6 hg6 hv6)
 go_ret
 refine ⟨_, rfl, ?_⟩
 first | exact Own8.trans HB3.out HB3.out.size HO6.out | (rw [← hg]; exact Own8.trans HB3.out HB3.out.size HO6.out)
set_option linter.unusedSectionVars false
section
variable {P : Program}
theorem results_row_two {fn : Func} {u v p : Tmp} {ty : TypeId} (h : fn.results = #[.cell p ty, .tmp u, .tmp v]) (tmps : Array Value) (w : World) (g : Nat) (t : TypeId) (cs : Array Value) (fr : Nat × Nat) (d : TypeDesc)
  (hp : tmps.getD p undef = .pointer (some ⟨g, 0, none⟩)) (hg : w.heap[g]? = some (.cells cs t fr))
  (hu : P.underlying ty = some d) (hd : (match d with | .struct _ | .array _ _ => true | _ => false) = true) (hi : (P.info? ty).map (·.size) = some cs.size) :
  (results fn tmps).run P w = .ok (.tuple #[.agg cs, tmps.getD u undef, tmps.getD v undef]) w := by
 have hp' : tmps[p]?.getD undef = .pointer (some ⟨g, 0, none⟩) := by simpa using hp
 simp [results, h, hp', asAddr, run_loadVar_row w g t ty cs fr d hg hu hd hi]
end
def t0 : TxM := ⟨[], [], Z32⟩
set_option maxRecDepth 100000 in
set_option maxHeartbeats 8000000 in
theorem split_cut (A : Option Addr) (n c : Nat) (bs : List UInt8) (hn : n = bs.length) (w : World) (hr : Rd w A (b8s bs)) (hm : bs.length ≤ 140737488355328) (hs : (getFour (getNum (some bs) 1048576).2).2.isSome = false) :
  Calls Tryz.prog 29 #[.slice A n c] w fun e w' => e = .returned (.tuple #[.agg (txC none 0 0 t0).toArray, .int .i64 0, .bool false]) ∧ Below w.heap.size w w' := by
 obtain ⟨g, hg⟩ := eX w.heap.size
 obtain ⟨lz, hlz⟩ := eX (txC none 0 0 t0)
 have hlz' : lz.toArray = #[Value.slice none 0 0, .string ⟨#[]⟩, Value.int .u8 0, .int .u8 0, .int .u8 0, .int .u8 0, .int .u8 0, .int .u8 0, .int .u8 0, .int .u8 0, .int .u8 0, .int .u8 0, .int .u8 0, .int .u8 0, .int .u8 0, .int .u8 0, .int .u8 0, .int .u8 0, .int .u8 0, .int .u8 0, .int .u8 0, .int .u8 0, .int .u8 0, .int .u8 0, .int .u8 0, .int .u8 0, .int .u8 0, .int .u8 0, .int .u8 0, .int .u8 0, .int .u8 0, .int .u8 0, .int .u8 0, .int .u8 0] := by rw [← hlz]; rfl
 obtain ⟨W1, hW1⟩ := eX (w.alloc (.cells #[Value.slice none 0 0, .string ⟨#[]⟩, Value.int .u8 0, .int .u8 0, .int .u8 0, .int .u8 0, .int .u8 0, .int .u8 0, .int .u8 0, .int .u8 0, .int .u8 0, .int .u8 0, .int .u8 0, .int .u8 0, .int .u8 0, .int .u8 0, .int .u8 0, .int .u8 0, .int .u8 0, .int .u8 0, .int .u8 0, .int .u8 0, .int .u8 0, .int .u8 0, .int .u8 0, .int .u8 0, .int .u8 0, .int .u8 0, .int .u8 0, .int .u8 0, .int .u8 0, .int .u8 0, .int .u8 0, .int .u8 0] 28))
 obtain ⟨r1, b1, s1⟩ := new_row hW1
 rw [hg, ← hlz'] at r1
 have HB1 := h_ b1
 have R1 := h_ r1
 have HIL : Hid ((Tryz.prog.info? 28).map (·.size) = some lz.length) := h_ (by rw [← hlz]; exact info_txl rfl)
 have HIA : Hid ((Tryz.prog.info? 28).map (·.size) = some lz.toArray.size) := h_ (by rw [← hlz]; exact info_txa rfl)
 have HOC : Hid (lz.toArray.all (·.oneCell') = true) := h_ (all_oneCell_toArray (by rw [← hlz]; exact txC_one _ _ _ _))
 have HRD := h_ (read_any A bs n c W1 hn (hr.below b1) hm)
 have HS := h_ hs
 rw [hlz]
 have HLZ := h_ hlz'
 clear hlz hlz' r1 b1 s1 hr hs hn
 go_enter Tryz.func29, Tryz.ntmps29
 go_wp2_with fail
 refine HRD.out.mono ?_
 rintro e w2 ⟨gd, rfl, hge, hb2, hm2⟩
 have HB2 := h_ hb2
 have HM2 := h_ hm2
 have HGE := h_ hge
 clear hge hb2 hm2 hW1
 go_wp2_with fail
 refine (rdnum_any gd _ 1048576 w2 HM2.out).mono ?_
 rintro e w3 ⟨rfl, hm3, hg3⟩
 have HB3 := h_ (bel_grown HB2.out HB2.out.size hg3 HGE.out)
 have HM3 := h_ hm3
 clear hm3 hg3
 go_wp2_with fail
 refine (rdfour_any gd _ w3 HM3.out).mono ?_
 rintro e w4 ⟨rfl, hm4, hg4⟩
 have HB4 := h_ (bel_grown HB3.out HB3.out.size hg4 HGE.out)
 have HM4 := h_ hm4
 clear hm4 hg4
 go_wp2_with fail
 refine (good_any gd _ w4 HM4.out).mono ?_
 rintro e w5 ⟨rfl, rfl⟩
 rw [HS.out]
 have r4 := (HB4.out.block _ (b_ R1)).trans R1.out
 obtain ⟨WB, hWB, TB, RB, GB⟩ := put_rowR (new := lz) r4 rfl
 have HWB := h_ hWB
 have HBB : Hid (Below w.heap.size w WB) := h_ (bel_grown (HB1.out.trans (HB4.out.mono HB1.out.size)) (Nat.le_trans HB1.out.size HB4.out.size) GB.out (by omega))
 clear hWB r4
 go_wp2_with (first
  | (rw [← HLZ.out]; ((with_reducible (refine wpList_store_mid rfl _ _ _ rfl ?_ ?_ ?_ ?_ ?_ ?_ ?_ ?_ ?_)); exact g; exact 0; (exact (lz).toArray); exact rfl; exact rfl; exact TB.out; exact HIA.out; exact HOC.out; rw [HWB.out])))
 refine bodyPost_ret (results_row_two rfl _ _ _ _ _ _ _ rfl RB.out Tryz.underlying28 rfl HIA.out) rfl ?_
 exact ⟨rfl, by first | exact HBB.out | (rw [← hg]; exact HBB.out)⟩
end Go.Proofs.YtelbofikcpchiaaGreat
