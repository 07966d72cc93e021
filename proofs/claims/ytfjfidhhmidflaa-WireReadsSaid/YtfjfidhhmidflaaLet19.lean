
/- Read: kind 4. (Printed by wip/genL16.py.) -/

import Derived.Test.YtfjfidhhmidflaaLet16

namespace Go.Proofs.Ytfjfidhhmidflaa

set_option linter.unusedVariables false

set_option linter.unusedSimpArgs false

open Go.RowKit


set_option maxRecDepth 100000 in
set_option maxHeartbeats 8000000 in
theorem read_4 (A : Option Addr) (bs : List UInt8) (c : Nat) (w : World) (hr : Rd w A (b8s bs)) (hc : bs.length ≤ c) (hc2 : c ≤ 9223372036854775807) (h4 : ¬ bs.length < 4) (h6 : ¬ 65536 < bs.length) (hsum : (getFour (some (bs.drop (bs.length - 4)))).1 = (crc (bs.take (bs.length - 4))).toNat) (hkind : (getNum (some (bs.take (bs.length - 4))) 4).1 = 4) :
    Calls Try.prog 15 #[.slice A bs.length c] w fun e w' => RdOut w w' e (readL bs) := by
  obtain ⟨m, hm⟩ : ∃ m, bs.length = m + 4 := ⟨bs.length - 4, by omega⟩
  have e1 : bs.length - 4 = m := by omega
  have HLEN : Hid (¬ (bs.length < 4 ∨ 65536 < bs.length)) := Lib.hid (by omega)
  rw [e1] at hsum hkind
  obtain ⟨n, hn⟩ : ∃ n, bs.length = n := ⟨_, rfl⟩
  have HNM : Hid (n = m + 4) := Lib.hid (by omega)
  rw [hn]
  have HTK : Hid (bs.length - 4 = m) := Lib.hid e1
  obtain ⟨inn, hinn⟩ : ∃ l, bs.take m = l := ⟨_, rfl⟩
  obtain ⟨end_, hend⟩ : ∃ l, bs.drop m = l := ⟨_, rfl⟩
  rw [hinn, hend] at hsum
  rw [hinn] at hkind
  have HKD := Lib.hid hkind
  clear hkind
  have hil : inn.length = m := by rw [← hinn, List.length_take]; omega
  have hel : end_.length = 4 := by rw [← hend, List.length_drop]; omega
  have hr1 : Rd w A (b8s inn) := by
    have := hr.take m
    rwa [show (b8s bs).take m = b8s inn by rw [← hinn]; simp [b8s]] at this
  have hr2 : Rd w (if c = m then A else A.map (·.add m)) (b8s end_) := by
    have := hr.drop (k := m) (size := 1) (cap := c) (by rw [b8s_length]; omega)
    simpa [b8s, ← hend] using this
  obtain ⟨W1, hW1⟩ : ∃ W, w.alloc (.cells #[Value.int .i64 0, Value.int .i64 0, Value.int .i64 0, Value.int .i64 0, Value.slice none 0 0, Value.slice none 0 0, Value.slice none 0 0, Value.int .i64 0, Value.int .i64 0, Value.int .u8 0, Value.int .u8 0, Value.int .u8 0, Value.int .u8 0, Value.int .u8 0, Value.int .u8 0, Value.int .u8 0, Value.int .u8 0, Value.int .u8 0, Value.int .u8 0, Value.int .u8 0, Value.int .u8 0, Value.int .u8 0, Value.int .u8 0, Value.int .u8 0, Value.int .u8 0, Value.int .u8 0, Value.int .u8 0, Value.int .u8 0, Value.int .u8 0, Value.int .u8 0, Value.int .u8 0, Value.int .u8 0, Value.int .u8 0, Value.int .u8 0, Value.int .u8 0, Value.int .u8 0, Value.int .u8 0, Value.int .u8 0, Value.int .u8 0, Value.int .u8 0, Value.int .u8 0, Value.slice none 0 0] 28) = W := ⟨_, rfl⟩
  obtain ⟨q1, b1, s1⟩ := new_row hW1
  rw [← lt0_cells] at q1
  obtain ⟨g2, hg2⟩ : ∃ g, w.heap.size = g := ⟨_, rfl⟩
  rw [hg2] at q1
  have HQ1 := Lib.hid q1
  have HB1 := Lib.hid b1
  have HS1 : Hid (W1.heap.size = g2 + 1) := Lib.hid (by omega)
  have HG2 := Lib.hid hg2
  have HR1 := Lib.hid (hr1.below b1)
  have HR2 := Lib.hid (hr2.below b1)
  have HIL := Lib.hid hil
  have HEL := Lib.hid hel
  have HSUM := Lib.hid hsum
  have HINN := Lib.hid hinn
  have HEND := Lib.hid hend
  have hmc : n ≤ c := by omega
  have HM6 : Hid (m + 4 ≤ 65536) := Lib.hid (by omega)
  have hsub := fun w => bin_sub (P := Try.prog) (t := 3) (n : Int) 4 (m : Int) w (by omega) (by omega) (by omega)
  have hm4 : ¬ (n : Int) < 4 := by omega
  have hm7 : ¬ (65536 : Int) < (n : Int) := by omega
  have hmi : (m : Int) ≤ (c : Int) := by omega
  have hmj : (m : Int) ≤ (n : Int) := by omega
  clear hn e1 hinn hend hil hel hr1 hr2 hr q1 b1 s1 hsum hm h4 h6 hc
  go_enter Try.func15, Try.ntmps15
  go_wp2_with fail
  clear hg2 hW1
  refine wp_region_sched (fun w' => Below W1.heap.size W1 w') [(true, 0), (true, 1), (true, 2), (true, 3), (true, 4), (true, 5), (true, 6), (true, 7), (true, 8), (true, 9), (false, 10), (true, 11), (true, 12)] (by kernel_rfl) (by kernel_rfl) rfl (by kernel_rfl) (Below.refl _ _).drew ?_
  (first | (refine wpS_pass _ rfl (by rfl) ?_; simp only [Act.put, List.getElem_toArray, List.getElem_cons_zero, List.getElem_cons_succ, List.setIfInBounds_toArray, List.set_cons_zero, List.set_cons_succ]) | (refine wpS_take _ ?_ rfl (by rfl) ?_ ?_; rotate_left; (focus (intro w' hS'; (try dsimp only at hS'); (repeat (have hS1 := hS'.1; replace hS' := hS'.2)); go_simp; (try with_reducible rfl); done)); simp only [Act.put, List.getElem_toArray, List.getElem_cons_zero, List.getElem_cons_succ, List.setIfInBounds_toArray, List.set_cons_zero, List.set_cons_succ]))
  (first | (refine wpS_pass _ rfl (by rfl) ?_; simp only [Act.put, List.getElem_toArray, List.getElem_cons_zero, List.getElem_cons_succ, List.setIfInBounds_toArray, List.set_cons_zero, List.set_cons_succ]) | (refine wpS_take _ ?_ rfl (by rfl) ?_ ?_; rotate_left; (focus (intro w' hS'; (try dsimp only at hS'); (repeat (have hS1 := hS'.1; replace hS' := hS'.2)); go_simp; (try with_reducible rfl); done)); simp only [Act.put, List.getElem_toArray, List.getElem_cons_zero, List.getElem_cons_succ, List.setIfInBounds_toArray, List.set_cons_zero, List.set_cons_succ]))
  (first | (refine wpS_pass _ rfl (by rfl) ?_; simp only [Act.put, List.getElem_toArray, List.getElem_cons_zero, List.getElem_cons_succ, List.setIfInBounds_toArray, List.set_cons_zero, List.set_cons_succ]) | (refine wpS_take _ ?_ rfl (by rfl) ?_ ?_; rotate_left; (focus (intro w' hS'; (try dsimp only at hS'); (repeat (have hS1 := hS'.1; replace hS' := hS'.2)); go_simp; (try with_reducible rfl); done)); simp only [Act.put, List.getElem_toArray, List.getElem_cons_zero, List.getElem_cons_succ, List.setIfInBounds_toArray, List.set_cons_zero, List.set_cons_succ]))
  refine wpS_take _ _ rfl (by rfl) (fun w' hS' => exec_bin _ _ _ _ _ rfl _ _ _ rfl rfl rfl (hsub w')) ?_
  simp only [Act.put, List.getElem_toArray, List.getElem_cons_zero, List.getElem_cons_succ, List.setIfInBounds_toArray, List.set_cons_zero, List.set_cons_succ]
  (first | (refine wpS_pass _ rfl (by rfl) ?_; simp only [Act.put, List.getElem_toArray, List.getElem_cons_zero, List.getElem_cons_succ, List.setIfInBounds_toArray, List.set_cons_zero, List.set_cons_succ]) | (refine wpS_take _ ?_ rfl (by rfl) ?_ ?_; rotate_left; (focus (intro w' hS'; (try dsimp only at hS'); (repeat (have hS1 := hS'.1; replace hS' := hS'.2)); go_simp; (try with_reducible rfl); done)); simp only [Act.put, List.getElem_toArray, List.getElem_cons_zero, List.getElem_cons_succ, List.setIfInBounds_toArray, List.set_cons_zero, List.set_cons_succ]))
  (first | (refine wpS_pass _ rfl (by rfl) ?_; simp only [Act.put, List.getElem_toArray, List.getElem_cons_zero, List.getElem_cons_succ, List.setIfInBounds_toArray, List.set_cons_zero, List.set_cons_succ]) | (refine wpS_take _ ?_ rfl (by rfl) ?_ ?_; rotate_left; (focus (intro w' hS'; (try dsimp only at hS'); (repeat (have hS1 := hS'.1; replace hS' := hS'.2)); go_simp; (try with_reducible rfl); done)); simp only [Act.put, List.getElem_toArray, List.getElem_cons_zero, List.getElem_cons_succ, List.setIfInBounds_toArray, List.set_cons_zero, List.set_cons_succ]))
  (first | (refine wpS_pass _ rfl (by rfl) ?_; simp only [Act.put, List.getElem_toArray, List.getElem_cons_zero, List.getElem_cons_succ, List.setIfInBounds_toArray, List.set_cons_zero, List.set_cons_succ]) | (refine wpS_take _ ?_ rfl (by rfl) ?_ ?_; rotate_left; (focus (intro w' hS'; (try dsimp only at hS'); (repeat (have hS1 := hS'.1; replace hS' := hS'.2)); go_simp; (try with_reducible rfl); done)); simp only [Act.put, List.getElem_toArray, List.getElem_cons_zero, List.getElem_cons_succ, List.setIfInBounds_toArray, List.set_cons_zero, List.set_cons_succ]))
  (first | (refine wpS_pass _ rfl (by rfl) ?_; simp only [Act.put, List.getElem_toArray, List.getElem_cons_zero, List.getElem_cons_succ, List.setIfInBounds_toArray, List.set_cons_zero, List.set_cons_succ]) | (refine wpS_take _ ?_ rfl (by rfl) ?_ ?_; rotate_left; (focus (intro w' hS'; (try dsimp only at hS'); (repeat (have hS1 := hS'.1; replace hS' := hS'.2)); go_simp; (try with_reducible rfl); done)); simp only [Act.put, List.getElem_toArray, List.getElem_cons_zero, List.getElem_cons_succ, List.setIfInBounds_toArray, List.set_cons_zero, List.set_cons_succ]))
  refine wpS_take _ _ rfl (by rfl) (fun w' hS' => exec_bin _ _ _ _ _ rfl _ _ _ rfl rfl rfl (hsub w')) ?_
  simp only [Act.put, List.getElem_toArray, List.getElem_cons_zero, List.getElem_cons_succ, List.setIfInBounds_toArray, List.set_cons_zero, List.set_cons_succ]
  clear hsub
  (first | (refine wpS_pass _ rfl (by rfl) ?_; simp only [Act.put, List.getElem_toArray, List.getElem_cons_zero, List.getElem_cons_succ, List.setIfInBounds_toArray, List.set_cons_zero, List.set_cons_succ]) | (refine wpS_take _ ?_ rfl (by rfl) ?_ ?_; rotate_left; (focus (intro w' hS'; (try dsimp only at hS'); (repeat (have hS1 := hS'.1; replace hS' := hS'.2)); go_simp; (try with_reducible rfl); done)); simp only [Act.put, List.getElem_toArray, List.getElem_cons_zero, List.getElem_cons_succ, List.setIfInBounds_toArray, List.set_cons_zero, List.set_cons_succ]))
  refine wpS_do _ rfl (by rfl) (fun K hK => ?_)
  go_simp
  refine (read_any _ end_ (n - m) (c - m) W1.drew (by have := HNM.out; have := HEL.out; omega) HR2.out.drew (by rw [HEL.out]; omega)).mono ?_
  rintro e w2 ⟨r1, rfl, hge1, hb2, hM1⟩
  have HB2 : Hid (Below W1.heap.size W1 w2) := Lib.hid ((Below.refl _ _).drew.trans hb2)
  have HM1 := Lib.hid hM1
  have HGE1 : Hid (W1.heap.size ≤ r1) := Lib.hid hge1
  refine hK.out _ _ HB2.out (fun hS => ?_)
  clear hK hS hge1 hb2 hM1
  (repeat (first | (refine wpS_pass _ rfl (by rfl) ?_; simp only [Act.put, List.getElem_toArray, List.getElem_cons_zero, List.getElem_cons_succ, List.setIfInBounds_toArray, List.set_cons_zero, List.set_cons_succ]) | (refine wpS_take _ ?_ rfl (by rfl) ?_ ?_; rotate_left; (focus (intro w' hS'; (try dsimp only at hS'); (repeat (have hS1 := hS'.1; replace hS' := hS'.2)); go_simp; (try with_reducible rfl); done)); simp only [Act.put, List.getElem_toArray, List.getElem_cons_zero, List.getElem_cons_succ, List.setIfInBounds_toArray, List.set_cons_zero, List.set_cons_succ])))
  refine wpS_done ?_
  generalize (if c = m then A else Option.map (fun x => x.add m) A) = A2 at *
  go_wp2_with fail
  refine (rdfour_any r1 (some end_) w2 HM1.out).mono ?_
  rintro e w3 ⟨rfl, hm3, hg3⟩
  have HB3 : Hid (Below W1.heap.size W1 w3) := Lib.hid (bel_grown HB2.out HB2.out.size hg3 HGE1.out)
  clear hm3 hg3 HB2 HM1 HGE1
  have hsm := sum_any A inn c w3 (HR1.out.below HB3.out) (by have := HIL.out; have := HM6.out; unfold maxLen; omega)
  rw [HIL.out] at hsm
  have HSM := Lib.hid hsm
  clear hsm
  go_wp2_with fail
  refine HSM.out.mono ?_
  rintro e w4 ⟨rfl, rfl⟩
  clear HSM
  rw [HSUM.out]
  have HRD := Lib.hid (read_any A inn m c w3 HIL.out.symm (HR1.out.below HB3.out) (by have := HIL.out; have := HM6.out; omega))
  go_wp2_with fail
  refine HRD.out.mono ?_
  rintro e w5 ⟨r, rfl, hge, hb5, hM⟩
  have HB5 : Hid (Below W1.heap.size W1 w5) := Lib.hid (ext_trans HB3.out hb5)
  have HRG : Hid (W1.heap.size ≤ r ∧ r < w5.heap.size) := Lib.hid ⟨Nat.le_trans HB3.out.size hge, hM.lt⟩
  have HM5 := Lib.hid hM.k
  clear hge hb5 hM HRD HR1 HR2
  go_wp2_with fail
  refine (rdnum_k w5.heap.size r (some inn) 4 w5 HM5.out).mono ?_
  rintro e w6 ⟨rfl, hm6, hg6⟩
  obtain ⟨k, hk⟩ : ∃ k, (getNum (some inn) 4).1 = k := ⟨_, rfl⟩
  obtain ⟨st1, hs1⟩ : ∃ s, (getNum (some inn) 4).2 = s := ⟨_, rfl⟩
  rw [hk]
  rw [hs1] at hm6
  have HK1 := Lib.hid hk
  have HKV := HKD
  rw [hk] at HKV
  have HST1 := Lib.hid hs1
  obtain ⟨W7, hW7⟩ : ∃ W, w6.alloc (.cells #[Value.int .i64 0, Value.int .i64 0, Value.int .i64 0, Value.int .i64 0, Value.slice none 0 0, Value.slice none 0 0, Value.slice none 0 0, Value.int .i64 0, Value.int .i64 0, Value.int .u8 0, Value.int .u8 0, Value.int .u8 0, Value.int .u8 0, Value.int .u8 0, Value.int .u8 0, Value.int .u8 0, Value.int .u8 0, Value.int .u8 0, Value.int .u8 0, Value.int .u8 0, Value.int .u8 0, Value.int .u8 0, Value.int .u8 0, Value.int .u8 0, Value.int .u8 0, Value.int .u8 0, Value.int .u8 0, Value.int .u8 0, Value.int .u8 0, Value.int .u8 0, Value.int .u8 0, Value.int .u8 0, Value.int .u8 0, Value.int .u8 0, Value.int .u8 0, Value.int .u8 0, Value.int .u8 0, Value.int .u8 0, Value.int .u8 0, Value.int .u8 0, Value.int .u8 0, Value.slice none 0 0] 28) = W := ⟨_, rfl⟩
  obtain ⟨q7, b7, s7⟩ := new_row hW7
  rw [← lt0_cells] at q7
  obtain ⟨g7, hg7⟩ : ∃ g, w6.heap.size = g := ⟨_, rfl⟩
  obtain ⟨W8, hW8, HTH7, HR7, HB8, HKK8, HSZ8⟩ := let_write (q := p0) (m := ⟨k, 0, 0, 0, [], [], [], 0, 0, zeros32, []⟩) q7 rfl rfl b7 b7.size (Nat.le_refl _)
  have HI8 : Hid (RI w W8 r w5.heap.size g2 g7 (g7 + 1) st1 ⟨k, 0, 0, 0, [], [], [], 0, 0, zeros32, []⟩ p0) := Lib.hid (by
    have h1 := HRG.out
    have h2 := HG2.out
    have h3 := HS1.out
    have h5 := HB5.out.size
    have h6 := hg6.size
    have h8 := HSZ8.out
    have a2 : w5.heap[g2]? = _ := (HB5.out.block g2 (by omega)).trans HQ1.out
    have a3 : w6.heap[g2]? = _ := (hg6.block g2 (by omega) (by simp; omega)).trans a2
    have a4 : W8.heap[g2]? = _ := (HB8.out.block g2 (by omega)).trans a3
    have b6 : Below w.heap.size w w6 := bel_grown (HB1.out.trans (HB5.out.mono (by omega))) (by omega) hg6 (by omega)
    exact ⟨hm6.below HB8.out, a4, by rw [← hg7]; exact HR7.out, b6.trans (HB8.out.mono (by omega)), by omega, LI.start _ _ _ _ _ _ _ _ _ _⟩)
  have HW8 := Lib.hid hW8
  rw [hg7] at HTH7 HW8
  have HIB := Lib.hid (info_leta (⟨k, 0, 0, 0, [], [], [], 0, 0, zeros32, []⟩ : Lt) p0 rfl)
  have HOB := Lib.hid (all_oneCell_toArray ((⟨k, 0, 0, 0, [], [], [], 0, 0, zeros32, []⟩ : Lt).cells_one p0))
  clear hk hs1 hm6 hg6 q7 b7 s7 hW8 HR7 HB8 HKK8 HSZ8 HB1 HQ1 HB3 HB5 HM5 HG2 HS1
  go_wp2_with ((with_reducible (refine wpList_store_mid rfl _ _ _ rfl ?_ ?_ ?_ ?_ ?_ ?_ ?_ ?_ ?_)); (exact g7); (exact 0); (exact ((⟨k, 0, 0, 0, [], [], [], 0, 0, zeros32, []⟩ : Lt).cells p0).toArray); (exact rfl); (exact rfl); (exact HTH7.out); (exact HIB.out); (exact HOB.out); rw [HW8.out])
  clear hg7 hW7
  refine (rdnum_k _ r st1 65536 W8 HI8.out.m).mono ?_
  rintro e w9 ⟨rfl, hmA, hgA⟩
  obtain ⟨f, hk⟩ : ∃ k, (getNum st1 65536).1 = k := ⟨_, rfl⟩
  obtain ⟨st2, hs1⟩ : ∃ s, (getNum st1 65536).2 = s := ⟨_, rfl⟩
  rw [hk]
  rw [hs1] at hmA
  have Hf := Lib.hid hk
  have Hst2 := Lib.hid hs1
  have hiA := HI8.out.call hmA hgA
  have c0 := row_cell hiA.r7 1
  have c1 := row_free hiA.r7 1
  have gr := grown_set (w := w9) g7 1 (.int .i64 (f : Int))
  obtain ⟨W9, hWo⟩ : ∃ W, w9.setCell ⟨g7, 1, none⟩ (.int .i64 (f : Int)) = W := ⟨_, rfl⟩
  have HI9 := Lib.hid (hiA.put gr (row_from hiA.r7 (f : Int)) (show LI _ _ _ _ ⟨k, f, 0, 0, [], [], [], 0, 0, zeros32, []⟩ _ from (let h := hiA.lif gr; ⟨h.o1, h.o2, h.o3, h.d, h.ok⟩)))
  rw [hWo] at HI9
  clear hk hs1 hmA hgA hiA gr
  go_wp2_with fail
  clear c0 c1 hWo HI8
  refine (rdnum_k _ r st2 65536 W9 HI9.out.m).mono ?_
  rintro e w10 ⟨rfl, hmA, hgA⟩
  obtain ⟨t, hk⟩ : ∃ k, (getNum st2 65536).1 = k := ⟨_, rfl⟩
  obtain ⟨st3, hs1⟩ : ∃ s, (getNum st2 65536).2 = s := ⟨_, rfl⟩
  rw [hk]
  rw [hs1] at hmA
  have Ht := Lib.hid hk
  have Hst3 := Lib.hid hs1
  have hiA := HI9.out.call hmA hgA
  have c0 := row_cell hiA.r7 2
  have c1 := row_free hiA.r7 2
  have gr := grown_set (w := w10) g7 2 (.int .i64 (t : Int))
  obtain ⟨W10, hWo⟩ : ∃ W, w10.setCell ⟨g7, 2, none⟩ (.int .i64 (t : Int)) = W := ⟨_, rfl⟩
  have HI10 := Lib.hid (hiA.put gr (row_to hiA.r7 (t : Int)) (show LI _ _ _ _ ⟨k, f, t, 0, [], [], [], 0, 0, zeros32, []⟩ _ from (let h := hiA.lif gr; ⟨h.o1, h.o2, h.o3, h.d, h.ok⟩)))
  rw [hWo] at HI10
  clear hk hs1 hmA hgA hiA gr
  go_wp2_with fail
  clear c0 c1 hWo HI9
  refine (rdnum_k _ r st3 1099511627776 W10 HI10.out.m).mono ?_
  rintro e w11 ⟨rfl, hmA, hgA⟩
  obtain ⟨s, hk⟩ : ∃ k, (getNum st3 1099511627776).1 = k := ⟨_, rfl⟩
  obtain ⟨st4, hs1⟩ : ∃ s, (getNum st3 1099511627776).2 = s := ⟨_, rfl⟩
  rw [hk]
  rw [hs1] at hmA
  have Hs := Lib.hid hk
  have Hst4 := Lib.hid hs1
  have hiA := HI10.out.call hmA hgA
  have c0 := row_cell hiA.r7 3
  have c1 := row_free hiA.r7 3
  have gr := grown_set (w := w11) g7 3 (.int .i64 (s : Int))
  obtain ⟨W11, hWo⟩ : ∃ W, w11.setCell ⟨g7, 3, none⟩ (.int .i64 (s : Int)) = W := ⟨_, rfl⟩
  have HI11 := Lib.hid (hiA.put gr (row_session hiA.r7 (s : Int)) (show LI _ _ _ _ ⟨k, f, t, s, [], [], [], 0, 0, zeros32, []⟩ _ from (let h := hiA.lif gr; ⟨h.o1, h.o2, h.o3, h.d, h.ok⟩)))
  rw [hWo] at HI11
  clear hk hs1 hmA hgA hiA gr
  have k0 : W11.cell? ⟨g7, 0, none⟩ = some (.int .i64 (k : Int)) := row_cell HI11.out.r7 0
  have d2 : ((k : Int) == 2) = false := by rw [HKV.out]; rfl
  have d3 : ((k : Int) == 3) = false := by rw [HKV.out]; rfl
  have d4 : ((k : Int) == 4) = true := by rw [HKV.out]; rfl
  go_wp2_with fail
  clear c0 c1 hWo HI10
  clear k0 d2 d3 d4
  have HHD : Hid (headR (some inn) = (⟨k, f, t, s, [], [], [], 0, 0, zeros32, []⟩, st4)) := Lib.hid (by
    unfold headR
    simp only [HK1.out, HST1.out, Hf.out, Hst2.out, Ht.out, Hst3.out, Hs.out, Hst4.out])
  have HRE0 : Hid (readL bs = (if doneS (restR (⟨k, f, t, s, [], [], [], 0, 0, zeros32, []⟩, st4)).2 && rightL (restR (⟨k, f, t, s, [], [], [], 0, 0, zeros32, []⟩, st4)).1 then some (restR (⟨k, f, t, s, [], [], [], 0, 0, zeros32, []⟩, st4)).1 else none)) := Lib.hid (by
    have h := readL_ok HLEN.out (by rw [HTK.out, HINN.out, HEND.out]; exact HSUM.out)
    rw [HTK.out, HINN.out, HHD.out] at h
    exact h)
  refine (rdid_k _ r st4 W11 HI11.out.m (by have := HI11.out.ne; omega)).mono ?_
  rintro e w12 ⟨rfl, hmA, hgA⟩
  obtain ⟨pk, hk⟩ : ∃ k, (getId st4).1 = k := ⟨_, rfl⟩
  obtain ⟨st5, hs1⟩ : ∃ s, (getId st4).2 = s := ⟨_, rfl⟩
  have hpl : pk.length = 32 := by rw [← hk]; exact getId_len _
  rw [hk]
  rw [hs1] at hmA
  have Hpk := Lib.hid hk
  have Hst5 := Lib.hid hs1
  have HPL := Lib.hid hpl
  have hiA := HI11.out.call hmA hgA
  have gr := setCells_grown g7 (b8s pk) 9 w12
  obtain ⟨W12, hWo⟩ : ∃ W, w12.setCells g7 9 (b8s pk).toArray.toList = W := ⟨_, rfl⟩
  have HI12 := Lib.hid (hiA.put gr (row_pack hiA.r7 pk (by rw [hpl]; rfl)) (show LI _ _ _ _ ⟨k, f, t, s, [], [], [], 0, 0, pk, []⟩ _ from (let h := hiA.lif gr; ⟨h.o1, h.o2, h.o3, h.d, ⟨h.ok.1, h.ok.2.1, h.ok.2.2.1, hpl⟩⟩)))
  have hWo' : w12.setCells g7 9 (b8s pk) = W12 := hWo
  rw [hWo'] at HI12
  have HWO := Lib.hid hWo
  have HTP : Hid (w12.there g7 9 (b8s pk).toArray.size) := Lib.hid (fun j hj => by
    rw [List.size_toArray, b8s_length, hpl] at hj
    refine ⟨?_, row_free hiA.r7 _⟩
    rw [row_cell hiA.r7, Array.getElem?_eq_getElem (by rw [List.size_toArray, Lt.cells_len _ _ rfl]; omega)]
    rfl)
  have HIP := Lib.hid (info_id32' pk hpl).2
  clear hk hs1 hmA hgA hiA gr hWo hWo' hpl
  go_wp2_with ((with_reducible (refine wpList_store_mid rfl _ _ _ rfl ?_ ?_ ?_ ?_ ?_ ?_ ?_ ?_ ?_)); (exact g7); (exact 9); (exact (b8s pk).toArray); (exact rfl); (exact rfl); (exact HTP.out); (exact HIP.out); (exact all_oneCell_toArray (b8s_one' _)); rw [HWO.out])
  clear HI11
  refine (rdnum_k _ r st5 1048576 W12 HI12.out.m).mono ?_
  rintro e w13 ⟨rfl, hmA, hgA⟩
  obtain ⟨o, hk⟩ : ∃ k, (getNum st5 1048576).1 = k := ⟨_, rfl⟩
  obtain ⟨st6, hs1⟩ : ∃ s, (getNum st5 1048576).2 = s := ⟨_, rfl⟩
  rw [hk]
  rw [hs1] at hmA
  have Ho := Lib.hid hk
  have Hst6 := Lib.hid hs1
  have hiA := HI12.out.call hmA hgA
  have c0 := row_cell hiA.r7 7
  have c1 := row_free hiA.r7 7
  have gr := grown_set (w := w13) g7 7 (.int .i64 (o : Int))
  obtain ⟨W13, hWo⟩ : ∃ W, w13.setCell ⟨g7, 7, none⟩ (.int .i64 (o : Int)) = W := ⟨_, rfl⟩
  have HI13 := Lib.hid (hiA.put gr (row_off hiA.r7 (o : Int)) (show LI _ _ _ _ ⟨k, f, t, s, [], [], [], o, 0, pk, []⟩ _ from (let h := hiA.lif gr; ⟨h.o1, h.o2, h.o3, h.d, h.ok⟩)))
  rw [hWo] at HI13
  clear hk hs1 hmA hgA hiA gr
  go_wp2_with fail
  clear c0 c1 hWo HI12
  refine (rdnum_k _ r st6 1048576 W13 HI13.out.m).mono ?_
  rintro e w14 ⟨rfl, hmA, hgA⟩
  obtain ⟨tt, hk⟩ : ∃ k, (getNum st6 1048576).1 = k := ⟨_, rfl⟩
  obtain ⟨st7, hs1⟩ : ∃ s, (getNum st6 1048576).2 = s := ⟨_, rfl⟩
  rw [hk]
  rw [hs1] at hmA
  have Htt := Lib.hid hk
  have Hst7 := Lib.hid hs1
  have hiA := HI13.out.call hmA hgA
  have c0 := row_cell hiA.r7 8
  have c1 := row_free hiA.r7 8
  have gr := grown_set (w := w14) g7 8 (.int .i64 (tt : Int))
  obtain ⟨W14, hWo⟩ : ∃ W, w14.setCell ⟨g7, 8, none⟩ (.int .i64 (tt : Int)) = W := ⟨_, rfl⟩
  have HI14 := Lib.hid (hiA.put gr (row_total hiA.r7 (tt : Int)) (show LI _ _ _ _ ⟨k, f, t, s, [], [], [], o, tt, pk, []⟩ _ from (let h := hiA.lif gr; ⟨h.o1, h.o2, h.o3, h.d, h.ok⟩)))
  rw [hWo] at HI14
  clear hk hs1 hmA hgA hiA gr
  go_wp2_with fail
  clear c0 c1 hWo HI13
  refine (rdtext_k _ r st7 500 W14 HI14.out.m).mono ?_
  rintro e w15 ⟨rfl, hmA, hgA⟩
  have hdl : (getText st7 500).1.length ≤ 500 := by
    have h1 : (getText st7 500).1.length ≤ (getNum st7 500).1 := by
      unfold getText getN
      split
      · exact Nat.zero_le _
      · split
        · simp; omega
        · exact Nat.zero_le _
    have h2 := getNum_most st7 500 (by decide)
    omega
  obtain ⟨dt, hk⟩ : ∃ k, (getText st7 500).1 = k := ⟨_, rfl⟩
  obtain ⟨st8, hs1⟩ : ∃ s, (getText st7 500).2 = s := ⟨_, rfl⟩
  rw [hk] at hdl
  rw [hk]
  rw [hs1] at hmA
  have Hdt := Lib.hid hk
  have Hst8 := Lib.hid hs1
  have HDL := Lib.hid hdl
  have HIA := Lib.hid (HI14.out.call hmA hgA)
  clear hk hs1 hmA hgA hdl HI14
  obtain ⟨S, hS⟩ : ∃ S : ByteArray, (⟨dt.toArray⟩ : ByteArray) = S := ⟨_, rfl⟩
  have hSs : S.size = dt.length := by rw [← hS]; show dt.toArray.size = _; rw [List.size_toArray]
  have hSl : S.data.toList = dt := by rw [← hS]
  rw [hS]
  have hcv := run_bytes_of_string (P := Try.prog) w15 9 26 5 S Try.underlying9 Try.underlying26 Try.underlying5
  have hrd := rd_bytesRow w15.drew S (grownCap w15 S.size 0 5) 5 ((bytesRow S (grownCap w15 S.size 0 5)).size, (bytesRow S (grownCap w15 S.size 0 5)).size + 1)
  have hbb : Below w15.heap.size w15 (w15.drew.alloc (.cells (bytesRow S (grownCap w15 S.size 0 5)) 5 ((bytesRow S (grownCap w15 S.size 0 5)).size, (bytesRow S (grownCap w15 S.size 0 5)).size + 1))) := (Below.refl _ _).drew.alloc (Nat.le_refl _) _
  have hcap : S.size ≤ grownCap w15 S.size 0 5 ∧ grownCap w15 S.size 0 5 ≤ maxLen := ⟨grownCap_ge _ _ _ _, grownCap_le_maxLen _ _ _ _ (by have := HDL.out; rw [hSs]; unfold maxLen; omega)⟩
  obtain ⟨W16, hW16⟩ : ∃ W, (w15.drew.alloc (.cells (bytesRow S (grownCap w15 S.size 0 5)) 5 ((bytesRow S (grownCap w15 S.size 0 5)).size, (bytesRow S (grownCap w15 S.size 0 5)).size + 1))) = W := ⟨_, rfl⟩
  rw [hW16] at hcv hrd hbb
  generalize grownCap w15 S.size 0 5 = cap at *
  rw [hSl] at hrd
  rw [hSs] at hcv hcap
  have hiB := HIA.out.below hbb
  obtain ⟨_, _, _, _, _, _, _, _, _, c0, _⟩ := ltRow_of hiB.r7 HPL.out
  have c1 := row_free hiB.r7 41
  have gr := grown_set (w := W16) g7 41 (.slice (some ⟨w15.heap.size, 0, none⟩) dt.length cap)
  obtain ⟨W17, hWo⟩ : ∃ W, W16.setCell ⟨g7, 41, none⟩ (.slice (some ⟨w15.heap.size, 0, none⟩) dt.length cap) = W := ⟨_, rfl⟩
  have hrd2 : Rd (W16.setCell ⟨g7, 41, none⟩ (.slice (some ⟨w15.heap.size, 0, none⟩) dt.length cap)) (some ⟨w15.heap.size, 0, none⟩) (b8s dt) := hrd.setCell (fun ad e => by cases e; have := (Array.getElem?_eq_some_iff.1 HIA.out.r7).1; show w15.heap.size ≠ g7; omega) _
  have HIZ : Hid (RI w W17 r w5.heap.size g2 g7 (g7 + 1) st8 ⟨k, f, t, s, [], [], [], o, tt, pk, dt⟩ ⟨none, 0, none, 0, none, 0, some ⟨w15.heap.size, 0, none⟩, cap⟩) := Lib.hid (by
    rw [← hWo]
    exact hiB.put gr (row_data hiB.r7 HPL.out (some ⟨w15.heap.size, 0, none⟩) cap dt) (let h := hiB.lif gr; ⟨h.o1, h.o2, h.o3, ⟨hrd2, hcap.1, hcap.2, fun ad e => by cases e; exact HIA.out.ne.2.2.2.2.2.2.2.2.2.2.2⟩, ⟨h.ok.1, h.ok.2.1, h.ok.2.2.1, HPL.out⟩⟩))
  clear hrd hbb hcap hiB gr hrd2 hS hSs hSl hW16 HIA
  go_wp2_with fail
  clear c0 c1 hWo hcv
  have HRES : Hid (readL bs = (if doneS st8 && rightL ⟨k, f, t, s, [], [], [], o, tt, pk, dt⟩ then some ⟨k, f, t, s, [], [], [], o, tt, pk, dt⟩ else none)) := Lib.hid (by
    have h := HRE0.out
    rw [restR_4 (by have := HKV.out; simp only; omega)] at h
    simp only [Hpk.out, Hst5.out, Ho.out, Hst6.out, Htt.out, Hst7.out, Hdt.out, Hst8.out] at h
    exact h)
  have HTB : Hid (-9223372036854775808 ≤ (tt : Int) ∧ (tt : Int) ≤ 9223372036854775807) := Lib.hid (by have h := getNum_most st6 1048576 (by decide); rw [Htt.out] at h; omega)
  refine (done_any r _ _ HIZ.out.m.m).mono ?_
  rintro e wz1 ⟨rfl, rfl⟩
  have HRL := Lib.hid (lright_any _ _ W17 HIZ.out.li.in_ HTB.out)
  obtain ⟨WE, hWE, HTE, HRE, HBE, _, _⟩ := let_write (q := p0) (m := lt0) HIZ.out.r2 rfl rfl HIZ.out.bw HIZ.out.bw.size HIZ.out.ne.2.1
  have HWE := Lib.hid hWE
  have HIE := Lib.hid (info_leta lt0 p0 rfl)
  have HOE := Lib.hid (all_oneCell_toArray (lt0.cells_one p0))
  have HBE' : Hid (Below w.heap.size w WE) := HBE
  clear hWE
  cases hd : doneS st8
  · have HRF : Hid (readL bs = none) := Lib.hid (by rw [HRES.out, hd]; rfl)
    clear hd
    go_wp2_with ((with_reducible (refine wpList_store_mid rfl _ _ _ rfl ?_ ?_ ?_ ?_ ?_ ?_ ?_ ?_ ?_)); (exact g2); (exact 0); (exact (lt0.cells p0).toArray); (exact rfl); (exact rfl); (exact HTE.out); (exact HIE.out); (exact HOE.out); rw [HWE.out])
    refine bodyPost_ret (results_row_tmp rfl _ _ _ _ _ _ _ rfl HRE.out Try.underlying28 rfl HIE.out) rfl ?_
    rw [HRF.out]
    exact res_zero HBE'.out
  have HD := Lib.hid hd
  clear hd
  have HR7 := Lib.hid HIZ.out.r7
  have HIL7 := Lib.hid (info_leta (⟨k, f, t, s, [], [], [], o, tt, pk, dt⟩ : Lt) (⟨none, 0, none, 0, none, 0, some ⟨w15.heap.size, 0, none⟩, cap⟩ : LtP) HIZ.out.li.ok.2.2.2)
  have HOL7 := Lib.hid (all_oneCell_toArray (Lt.cells_one (⟨k, f, t, s, [], [], [], o, tt, pk, dt⟩ : Lt) (⟨none, 0, none, 0, none, 0, some ⟨w15.heap.size, 0, none⟩, cap⟩ : LtP)))
  go_wp2_with ((with_reducible (refine wpList_load_row_w _ _ rfl _ rfl _ _ _ _ HR7.out Try.underlying28 rfl HIL7.out ?_ ?_)); (focus (rfl)))
  refine HRL.out.mono ?_
  rintro e wz2 ⟨rfl, hbz⟩
  have HIY := Lib.hid (HIZ.out.below hbz)
  clear hbz HRL HTE HRE HBE HBE' HWE
  cases hrt : rightL (⟨k, f, t, s, [], [], [], o, tt, pk, dt⟩ : Lt)
  · have HRF : Hid (readL bs = none) := Lib.hid (by rw [HRES.out, HD.out, hrt]; rfl)
    clear hrt
    obtain ⟨WE, hWE, HTE, HRE, HBE, _, _⟩ := let_write (q := p0) (m := lt0) HIY.out.r2 rfl rfl HIY.out.bw HIY.out.bw.size HIY.out.ne.2.1
    have HWE := Lib.hid hWE
    have HBE' : Hid (Below w.heap.size w WE) := HBE
    clear hWE
    go_wp2_with ((with_reducible (refine wpList_store_mid rfl _ _ _ rfl ?_ ?_ ?_ ?_ ?_ ?_ ?_ ?_ ?_)); (exact g2); (exact 0); (exact (lt0.cells p0).toArray); (exact rfl); (exact rfl); (exact HTE.out); (exact HIE.out); (exact HOE.out); rw [HWE.out])
    refine bodyPost_ret (results_row_tmp rfl _ _ _ _ _ _ _ rfl HRE.out Try.underlying28 rfl HIE.out) rfl ?_
    rw [HRF.out]
    exact res_zero HBE'.out
  have HRF : Hid (readL bs = some (⟨k, f, t, s, [], [], [], o, tt, pk, dt⟩ : Lt)) := Lib.hid (by rw [HRES.out, HD.out, hrt]; rfl)
  clear hrt
  obtain ⟨WE, hWE, HTE, HRE, HBE, _, _⟩ := let_write (q := (⟨none, 0, none, 0, none, 0, some ⟨w15.heap.size, 0, none⟩, cap⟩ : LtP)) (m := (⟨k, f, t, s, [], [], [], o, tt, pk, dt⟩ : Lt)) HIY.out.r2 rfl HIY.out.li.ok.2.2.2 HIY.out.bw HIY.out.bw.size HIY.out.ne.2.1
  have HWE := Lib.hid hWE
  have HLE : Hid (LtIn WE (⟨k, f, t, s, [], [], [], o, tt, pk, dt⟩ : Lt) (⟨none, 0, none, 0, none, 0, some ⟨w15.heap.size, 0, none⟩, cap⟩ : LtP)) := Lib.hid (by rw [← hWE]; exact (HIY.out.li.far HIY.out.ne.2.2.2.2.1 (setCells_grown _ _ _ _)).in_)
  have HR7' := Lib.hid HIY.out.r7
  clear hWE
  go_wp2_with (first
    | ((with_reducible (refine wpList_load_row_w _ _ rfl _ rfl _ _ _ _ HR7'.out Try.underlying28 rfl HIL7.out ?_ ?_)); (focus (rfl)))
    | ((with_reducible (refine wpList_store_mid rfl _ _ _ rfl ?_ ?_ ?_ ?_ ?_ ?_ ?_ ?_ ?_)); (exact g2); (exact 0); (exact (Lt.cells (⟨k, f, t, s, [], [], [], o, tt, pk, dt⟩ : Lt) (⟨none, 0, none, 0, none, 0, some ⟨w15.heap.size, 0, none⟩, cap⟩ : LtP)).toArray); (exact rfl); (exact rfl); (exact HTE.out); (exact HIL7.out); (exact HOL7.out); rw [HWE.out]))
  refine bodyPost_ret (results_row_tmp rfl _ _ _ _ _ _ _ rfl HRE.out Try.underlying28 rfl HIL7.out) rfl ?_
  rw [HRF.out]
  exact ⟨_, rfl, HLE.out, HBE.out⟩
end Go.Proofs.Ytfjfidhhmidflaa
