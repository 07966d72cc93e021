
/- RefsHead: the law's walk. (Printed by wip/genRf26.py.) -/

import Derived.Test.YtelbofikcpchiaaGreatRf26

namespace Go.Proofs.YtelbofikcpchiaaGreat

set_option linter.unusedVariables false

set_option linter.unusedSimpArgs false

set_option linter.unusedSectionVars false

open Go.RowKit

/-- a turn that came in, and where it lies -/
structure TxP where
  t : TxM
  A : Option Addr
  c : Nat
def txP (p : TxP) : List Value := txC p.A p.t.us.length p.c p.t
theorem tx_built2 {t : TxM} (h : t.at_.length = 32) : Tryz.prog.built 28 [(1, strV t.head), (2, .agg (b8s t.at_).toArray)] = some (txC none 0 0 (tx0 t)).toArray := by
  obtain ⟨us, hd, at_⟩ := t
  obtain ⟨a0, a1, a2, a3, a4, a5, a6, a7, a8, a9, b0, b1, b2, b3, b4, b5, b6, b7, b8, b9, c0, c1, c2, c3, c4, c5, c6, c7, c8, c9, d0, d1, rfl⟩ := cells32 h
  kernel_rfl
theorem few_all {t : TxM} (h : fewB t = true) (hr : TxRaw t) : t.head.length ≤ 999 ∧ t.us.length ≤ 1000 ∧ wtU t.us ≤ 1000 ∧ ∀ u ∈ t.us, upOk u ∧ u.name.length ≤ 1000 := by
  have h1 := few_sum h
  have h2 : wtU t.us = t.us.length + (t.us.map fun u => u.name.length).sum := by
    unfold wtU
    generalize t.us = l
    induction l with
    | nil => rfl
    | cons x r ih => simp only [List.map_cons, List.sum_cons, List.length_cons, ih]; omega
  refine ⟨by omega, by omega, by omega, fun u hu => ⟨(few_ok h hr).us u hu, ?_⟩⟩
  have : ∀ l : List UpM, u ∈ l → u.name.length ≤ (l.map fun u => u.name.length).sum := by
    intro l
    induction l with
    | nil => intro h; cases h
    | cons v r ih =>
      intro hm
      simp only [List.map_cons, List.sum_cons]
      rcases List.mem_cons.1 hm with rfl | hm
      · omega
      · have := ih hm; omega
  have := this t.us hu
  omega

set_option maxRecDepth 1000000 in
set_option maxHeartbeats 16000000 in
theorem refsHead_any (A0 : Option Addr) (ts : List TxP) (n c0 : Nat) (w : World) (hn : ts.length = n) (hnm : n ≤ 140737488355328) (hr : Rd w A0 (ts.flatMap txP)) (ht : ∀ p ∈ ts, TxRaw p.t ∧ Rd w p.A (upsC p.t.us)) :
    Calls Tryz.prog 4 #[.slice A0 n c0] w fun e w' => e = .returned (.bool true) ∧ Below w.heap.size w w' := by
  have HN := Lib.hid hn
  have HR0 := Lib.hid hr
  have HT0 := Lib.hid ht
  obtain ⟨l0, hl0⟩ : ∃ l, b8s Z32 = l := ⟨_, rfl⟩
  have HL0 := Lib.hid hl0
  have HID0 : Hid (Tryz.prog.built 24 [] = some l0.toArray) := Lib.hid (by rw [← hl0]; exact id0_built)
  have hgd := id_guard
  clear hn hr ht hl0
  go_enter Tryz.func4, Tryz.ntmps4
  go_wp2_with fail
  refine (ralive_any w).mono ?_
  rintro e w1 ⟨rfl, hb1⟩
  have HB1 := Lib.hid hb1
  have HR := Lib.hid (HR0.out.below hb1)
  have HT : Hid (∀ p ∈ ts, TxRaw p.t ∧ Rd w1 p.A (upsC p.t.us)) := Lib.hid (fun p hp => ⟨(HT0.out p hp).1, (HT0.out p hp).2.below hb1⟩)
  clear hb1 HR0 HT0
  by_cases h20 : 20 < n
  · have j20 : (20 : Int) < (n : Int) := by omega
    go_wp2_with fail
    go_ret
    exact ⟨rfl, HB1.out⟩
  have j20 : ¬ (20 : Int) < (n : Int) := by omega
  go_wp2_with fail
  refine (new_any 1048576 (by omega) w1).mono ?_
  rintro e w2 ⟨g, d2, rfl, hd2, hb2⟩
  have HD2 := Lib.hid hd2
  have HB2 := Lib.hid hb2
  clear hd2 hb2
  go_wp2_with fail
  refine (open_at HD2.out (by omega)).mono ?_
  rintro e w3 ⟨gr, d3, q3, rfl, hr3, hb3⟩
  have HR3 := Lib.hid hr3
  have HB3 := Lib.hid (HB2.out.trans hb3)
  clear hr3 hb3
  obtain ⟨p6, Wa, W4, hH, hWa, hW4, HTH, HR4, HB4, _⟩ := arr_place (w := w3) 24 Z32 rfl
  have HP6 : Hid (w1.heap.size ≤ p6) := Lib.hid (by rw [← hH]; exact HB3.out.size)
  have HIA : Hid ((Tryz.prog.info? 24).map (·.size) = some l0.toArray.size) := Lib.hid (by rw [← HL0.out]; exact info_ida Z32 rfl)
  have HOC : Hid (l0.toArray.all (·.oneCell') = true) := Lib.hid (by rw [← HL0.out]; exact all_oneCell_toArray (b8s_one' _))
  have HS4 : Hid (HdS w1 g gr [(p6, .cells (b8s rf0.at_).toArray 24 (0, 0))] 0 0 W4 rf0) := Lib.hid (by
    have h0 : HdS w1 g gr [] 0 0 w3 rf0 := ⟨⟨_, _, _, _, HR3.out, by simp, by simp, by simp⟩, by simp, HB3.out, by intro p hp; simp [rf0] at hp, by simp [rf0], by simp [rf0]⟩
    exact h0.add HB4.out (by rw [hH]; exact Nat.le_refl _) HR4.out)
  rw [HL0.out] at hW4 HTH
  have HW4 := Lib.hid hW4
  clear hW4 HR4 HB4
  go_wp2_with (first
    | ((with_reducible (refine wpList_built ?_ _ #[] ?_ _ ?_ _ HID0.out ?_)); (exact rfl); (exact rfl); (exact rfl))
    | ((with_reducible (refine wpList_store_mid rfl _ _ _ rfl ?_ ?_ ?_ ?_ ?_ ?_ ?_ ?_ ?_)); (exact p6); (exact 0); (exact (l0).toArray); (exact rfl); (exact rfl); (exact HTH.out); (exact HIA.out); (exact HOC.out); rw [HW4.out]))
  clear hH hWa
  go_loopg [5, 36] (n * 1) (fun gk_ hv iv wr => ∃ (i : Nat) (r : RfM), i ≤ n ∧ gk_ = n - i ∧ hv = strV r.head ∧ iv = .int .i64 (i : Int) ∧ Hid (HdS w1 g gr [(p6, .cells (b8s r.at_).toArray 24 (0, 0))] (33000 * i) (1002 * i) wr r))
  case atStart => exact ⟨0, rf0, by omega, by omega, rfl, rfl, HS4⟩
  case round =>
  clear HS4 HTH
  obtain ⟨i, r, hi, rfl, rfl, rfl, HS⟩ := hrel
  by_cases hlt : i < n
  · have j1 : (i : Int) < (n : Int) := by omega
    have hil : i < ts.length := by rw [HN.out]; exact hlt
    have hi20 : i < 20 := by omega
    have hcl : ∀ x ∈ ts, (txP x).length = 34 := fun x hx => txC_len (HT.out x hx).1.al
    obtain ⟨⟨⟨pus, phd, pat⟩, pA, pc⟩, hp⟩ : ∃ p, ts[i] = p := ⟨_, rfl⟩
    obtain ⟨hraw, hrdu⟩ := HT.out ts[i] (List.getElem_mem hil)
    rw [hp] at hraw hrdu
    have HRAW : Hid (TxRaw ⟨pus, phd, pat⟩) := Lib.hid hraw
    have HRDU : Hid (Rd w1 pA (upsC pus)) := Lib.hid hrdu
    have hrd := HR.out.below HS.out.bel
    obtain ⟨b, o, hA, _⟩ := hrd.all (by rw [flat_length ts hcl, HN.out]; omega)
    rw [hA] at hrd
    have hrow := rd_flat (f := txP) (m := 34) hrd hcl i hil
    rw [hp] at hrow
    subst hA
    obtain ⟨np, hnp⟩ : ∃ k, pus.length = k := ⟨_, rfl⟩
    have HNP := Lib.hid hnp
    have hrow' : wr.rangeAt b (o + i * 34) (txC pA np pc ⟨pus, phd, pat⟩) := by rw [← hnp]; exact hrow
    obtain ⟨gt, hgt⟩ : ∃ x, wr.heap.size = x := ⟨_, rfl⟩
    obtain ⟨WA, hWA⟩ : ∃ W, wr.alloc (.cells #[Value.slice none 0 0, Value.string ⟨#[]⟩, Value.int .u8 0, Value.int .u8 0, Value.int .u8 0, Value.int .u8 0, Value.int .u8 0, Value.int .u8 0, Value.int .u8 0, Value.int .u8 0, Value.int .u8 0, Value.int .u8 0, Value.int .u8 0, Value.int .u8 0, Value.int .u8 0, Value.int .u8 0, Value.int .u8 0, Value.int .u8 0, Value.int .u8 0, Value.int .u8 0, Value.int .u8 0, Value.int .u8 0, Value.int .u8 0, Value.int .u8 0, Value.int .u8 0, Value.int .u8 0, Value.int .u8 0, Value.int .u8 0, Value.int .u8 0, Value.int .u8 0, Value.int .u8 0, Value.int .u8 0, Value.int .u8 0, Value.int .u8 0] 28) = W := ⟨_, rfl⟩
    obtain ⟨rA_, bA, sA⟩ := new_row hWA
    obtain ⟨lz, hlz⟩ : ∃ l, txC none 0 0 t0 = l := ⟨_, rfl⟩
    have hlz' : lz.toArray = #[Value.slice none 0 0, Value.string ⟨#[]⟩, Value.int .u8 0, Value.int .u8 0, Value.int .u8 0, Value.int .u8 0, Value.int .u8 0, Value.int .u8 0, Value.int .u8 0, Value.int .u8 0, Value.int .u8 0, Value.int .u8 0, Value.int .u8 0, Value.int .u8 0, Value.int .u8 0, Value.int .u8 0, Value.int .u8 0, Value.int .u8 0, Value.int .u8 0, Value.int .u8 0, Value.int .u8 0, Value.int .u8 0, Value.int .u8 0, Value.int .u8 0, Value.int .u8 0, Value.int .u8 0, Value.int .u8 0, Value.int .u8 0, Value.int .u8 0, Value.int .u8 0, Value.int .u8 0, Value.int .u8 0, Value.int .u8 0, Value.int .u8 0] := by rw [← hlz]; rfl
    rw [hgt, ← hlz'] at rA_
    obtain ⟨WB, hWB, TB, RB, GB⟩ := put_rowR (new := txC pA np pc ⟨pus, phd, pat⟩) rA_ (by rw [txC_len hraw.al, ← hlz]; rfl)
    have HWB := Lib.hid hWB
    have BB : Hid (Below wr.heap.size wr WB) := Lib.hid (bel_grown bA bA.size GB.out (by omega))
    have HFEW := Lib.hid (few_any pA np pc ⟨pus, phd, pat⟩ hnp hraw WB (hrdu.below (HS.out.bel.trans (BB.out.mono HS.out.bel.size))))
    have HIL := Lib.hid (info_txl (A := pA) (n := np) (c := pc) hraw.al)
    have HIT := Lib.hid (info_txa (A := pA) (n := np) (c := pc) hraw.al)
    have HOT : Hid ((txC pA np pc ⟨pus, phd, pat⟩).toArray.all (·.oneCell') = true) := Lib.hid (all_oneCell_toArray (txC_one _ _ _ _))
    have HS1 : Hid (HdS w1 g gr [(gt, .cells (txC pA np pc ⟨pus, phd, pat⟩).toArray 28 (0, 0)), (p6, .cells (b8s r.at_).toArray 24 (0, 0))] (33000 * i) (1002 * i) WB r) := Lib.hid (HS.out.add BB.out (by rw [hgt]; exact Nat.le_refl _) RB.out)
    have HNE : Hid (gt ≠ p6) := Lib.hid (by
      have := HS.out.lt (p := (p6, .cells (b8s r.at_).toArray 24 (0, 0))) (by simp)
      dsimp only at this
      omega)
    have HGTL : Hid (w1.heap.size ≤ gt) := Lib.hid (by rw [← hgt]; exact HS.out.bel.size)
    obtain ⟨lt, hlt_⟩ : ∃ l, txC pA np pc ⟨pus, phd, pat⟩ = l := ⟨_, rfl⟩
    have HLT := Lib.hid hlt_
    have HROW : Hid (wr.rangeAt b (o + i * 34) lt) := Lib.hid (by rw [← hlt_]; exact hrow')
    have HRGB : Hid (WB.rangeAt gt 0 lt) := Lib.hid (by rw [← hlt_]; exact range_of_row RB.out)
    rw [hlt_] at HFEW HIL HIT HOT HS1 HWB TB
    clear hil hcl hp hraw hrdu hrd hrow hrow' hnp rA_ bA sA hlz hlz' hWB hlt_ RB GB
    go_wp2_with (first
      | ((with_reducible (refine wpList_load_cells 28 _ b (o + i * 34) (lt) HROW.out Tryz.underlying28 rfl HIL.out ?_ rfl ?_ ?_)); (exact rfl); (exact rfl))
      | ((with_reducible (refine wpList_store_mid rfl _ _ _ rfl ?_ ?_ ?_ ?_ ?_ ?_ ?_ ?_ ?_)); (exact gt); (exact 0); (exact (lt).toArray); (exact rfl); (exact rfl); (exact TB.out); (exact HIT.out); (exact HOT.out); rw [HWB.out])
      | ((with_reducible (refine wpList_load_cells 28 _ gt 0 (lt) HRGB.out Tryz.underlying28 rfl HIL.out ?_ rfl ?_ ?_)); (exact rfl); (exact rfl)))
    refine HFEW.out.mono ?_
    clear HFEW
    rintro e w2' ⟨rfl, hb2'⟩
    have HS2 := Lib.hid (HS1.out.below hb2')
    clear hb2' hgt hWA
    obtain ⟨fw, hfw⟩ : ∃ x, fewB ⟨pus, phd, pat⟩ = x := ⟨_, rfl⟩
    rw [hfw]
    cases fw with
    | false =>
      go_wp2_with fail
      go_ret
      exact ⟨rfl, HB1.out.trans (HS2.out.bel.mono HB1.out.size)⟩
    | true =>
      obtain ⟨k1, k2, k3, k4⟩ := few_all hfw HRAW.out
      have HOKT : Hid (TxOk ⟨pus, phd, pat⟩) := Lib.hid (few_ok hfw HRAW.out)
      have hnp1 : np ≤ 1000 := by rw [← HNP.out]; exact k2
      have HWT := Lib.hid k3
      have HUS := Lib.hid k4
      have hk1 : phd.length ≤ 999 := k1
      clear k1 k2 k3 k4 hfw
      obtain ⟨Xh, hXh, hXhs⟩ : ∃ X : ByteArray, strV phd = .string X ∧ X.data.toList = phd := ⟨_, rfl, rfl⟩
      have HXH := Lib.hid hXh
      have HXS := Lib.hid hXhs
      obtain ⟨la, hla⟩ : ∃ l, b8s pat = l := ⟨_, rfl⟩
      have HLA := Lib.hid hla
      have h2r := HS2.out.rows (gt, .cells lt.toArray 28 (0, 0)) (by simp)
      dsimp only at h2r
      rw [← HLT.out] at h2r
      have c21 : w2'.cell? ⟨gt, 1, none⟩ = some (.string Xh) := by rw [← hXh]; exact (tx_cells h2r).2.1
      have HR22 : Hid (w2'.rangeAt gt 2 la) := Lib.hid (by rw [← hla]; exact (tx_cells h2r).2.2)
      have HIDA : Hid ((Tryz.prog.info? 24).map (·.size) = some la.length) := Lib.hid (by rw [← hla]; exact info_idl pat HRAW.out.al)
      have HIDAA : Hid ((Tryz.prog.info? 24).map (·.size) = some la.toArray.size) := Lib.hid (by rw [← hla]; exact info_ida pat HRAW.out.al)
      have HOA : Hid (la.toArray.all (·.oneCell') = true) := Lib.hid (by rw [← hla]; exact all_oneCell_toArray (b8s_one' _))
      obtain ⟨p9, hp9⟩ : ∃ x, w2'.heap.size = x := ⟨_, rfl⟩
      obtain ⟨W3, hW3⟩ : ∃ W, w2'.alloc (.cells #[Value.slice none 0 0, Value.string ⟨#[]⟩, Value.int .u8 0, Value.int .u8 0, Value.int .u8 0, Value.int .u8 0, Value.int .u8 0, Value.int .u8 0, Value.int .u8 0, Value.int .u8 0, Value.int .u8 0, Value.int .u8 0, Value.int .u8 0, Value.int .u8 0, Value.int .u8 0, Value.int .u8 0, Value.int .u8 0, Value.int .u8 0, Value.int .u8 0, Value.int .u8 0, Value.int .u8 0, Value.int .u8 0, Value.int .u8 0, Value.int .u8 0, Value.int .u8 0, Value.int .u8 0, Value.int .u8 0, Value.int .u8 0, Value.int .u8 0, Value.int .u8 0, Value.int .u8 0, Value.int .u8 0, Value.int .u8 0, Value.int .u8 0] 28) = W := ⟨_, rfl⟩
      obtain ⟨r3_, b3_, s3_⟩ := new_row hW3
      obtain ⟨lz, hlz⟩ : ∃ l, txC none 0 0 t0 = l := ⟨_, rfl⟩
      have hlz' : lz.toArray = #[Value.slice none 0 0, Value.string ⟨#[]⟩, Value.int .u8 0, Value.int .u8 0, Value.int .u8 0, Value.int .u8 0, Value.int .u8 0, Value.int .u8 0, Value.int .u8 0, Value.int .u8 0, Value.int .u8 0, Value.int .u8 0, Value.int .u8 0, Value.int .u8 0, Value.int .u8 0, Value.int .u8 0, Value.int .u8 0, Value.int .u8 0, Value.int .u8 0, Value.int .u8 0, Value.int .u8 0, Value.int .u8 0, Value.int .u8 0, Value.int .u8 0, Value.int .u8 0, Value.int .u8 0, Value.int .u8 0, Value.int .u8 0, Value.int .u8 0, Value.int .u8 0, Value.int .u8 0, Value.int .u8 0, Value.int .u8 0, Value.int .u8 0] := by rw [← hlz]; rfl
      rw [hp9, ← hlz'] at r3_
      have hl9 : (txC none 0 0 (tx0 ⟨pus, phd, pat⟩)).length = 34 := txC_len HRAW.out.al
      obtain ⟨W4', hW4', T4', R4', G4'⟩ := put_rowR (new := txC none 0 0 (tx0 ⟨pus, phd, pat⟩)) r3_ (by rw [hl9, ← hlz]; rfl)
      have B4' : Hid (Below w2'.heap.size w2' W4') := Lib.hid (bel_grown b3_ b3_.size G4'.out (by omega))
      have HTB : Hid (Tryz.prog.built 28 [(1, .string Xh), (2, .agg la.toArray)] = some (txC none 0 0 (tx0 ⟨pus, phd, pat⟩)).toArray) := Lib.hid (by rw [← hXh, ← hla]; exact tx_built2 (t := ⟨pus, phd, pat⟩) HRAW.out.al)
      have HIL9 : Hid ((Tryz.prog.info? 28).map (·.size) = some (txC none 0 0 (tx0 ⟨pus, phd, pat⟩)).length) := Lib.hid (info_txl (t := tx0 ⟨pus, phd, pat⟩) HRAW.out.al)
      have HIT9 : Hid ((Tryz.prog.info? 28).map (·.size) = some (txC none 0 0 (tx0 ⟨pus, phd, pat⟩)).toArray.size) := Lib.hid (info_txa (t := tx0 ⟨pus, phd, pat⟩) HRAW.out.al)
      have HOT9 : Hid ((txC none 0 0 (tx0 ⟨pus, phd, pat⟩)).toArray.all (·.oneCell') = true) := Lib.hid (all_oneCell_toArray (txC_one _ _ _ _))
      have HS3 : Hid (HdS w1 g gr [(p9, .cells (txC none 0 0 (tx0 ⟨pus, phd, pat⟩)).toArray 28 (0, 0)), (gt, .cells lt.toArray 28 (0, 0)), (p6, .cells (b8s r.at_).toArray 24 (0, 0))] (33000 * i) (1002 * i) W4' r) := Lib.hid (HS2.out.add B4'.out (by rw [hp9]; exact Nat.le_refl _) R4'.out)
      have HDO := Lib.hid (HS3.out.do0 HOKT.out (by show phd.length ≤ 1000; omega) (by omega) (by omega))
      have HRG9 := Lib.hid (range_of_row R4'.out)
      have HW4' := Lib.hid hW4'
      have HT4' := Lib.hid T4'.out
      obtain ⟨lx, hlx⟩ : ∃ l, txC none 0 0 (tx0 ⟨pus, phd, pat⟩) = l := ⟨_, rfl⟩
      have HLX := Lib.hid hlx
      have HNE9 : Hid (p9 ≠ p6) := Lib.hid (by
        have := HS2.out.lt (p := (p6, .cells (b8s r.at_).toArray 24 (0, 0))) (by simp)
        dsimp only at this
        omega)
      rw [hlx] at HTB HIL9 HIT9 HOT9 HS3 HDO HRG9 HW4' HT4'
      clear hXh hXhs hla h2r r3_ b3_ s3_ hlz hlz' hl9 hW4' T4' R4' G4' hlx
      go_wp2_with (first
        | ((with_reducible (refine wpList_load_cells 24 _ gt 2 (la) HR22.out Tryz.underlying24 rfl HIDA.out ?_ rfl ?_ ?_)); (exact rfl); (exact rfl))
        | ((with_reducible (refine wpList_built ?_ _ #[(1, .tmp 44), (2, .tmp 46)] ?_ _ ?_ _ HTB.out ?_)); (exact rfl); (exact rfl); (exact rfl))
        | ((with_reducible (refine wpList_store_mid rfl _ _ _ rfl ?_ ?_ ?_ ?_ ?_ ?_ ?_ ?_ ?_)); (exact p9); (exact 0); (exact (lx).toArray); (exact rfl); (exact rfl); (exact HT4'.out); (exact HIT9.out); (exact HOT9.out); rw [HW4'.out])
        | ((with_reducible (refine wpList_load_cells 28 _ p9 0 (lx) HRG9.out Tryz.underlying28 rfl HIL9.out ?_ rfl ?_ ?_)); (exact rfl); (exact rfl)))
      refine HDO.out.mono ?_
      clear HDO
      rintro e w5 ⟨rfl, r5, hs5, hcase⟩
      have HS5 := Lib.hid hs5
      clear hs5 hW3 hp9 c21
      rcases hcase with ⟨hc, hh, ha⟩ | ⟨hc, hh, ha⟩
      · rw [hc]
        have HH := Lib.hid hh
        have HAA := Lib.hid ha
        clear hc hh ha
        have h9r := HS5.out.rows (p9, .cells lx.toArray 28 (0, 0)) (by simp)
        have h6r := HS5.out.rows (p6, .cells (b8s r.at_).toArray 24 (0, 0)) (by simp)
        dsimp only at h9r h6r
        have hl6 := HS5.out.lt (p := (p6, .cells (b8s r.at_).toArray 24 (0, 0))) (by simp)
        have hl9 := HS5.out.lt (p := (p9, .cells lx.toArray 28 (0, 0))) (by simp)
        dsimp only at hl6 hl9
        rw [← HLX.out] at h9r
        have c91 : w5.cell? ⟨p9, 1, none⟩ = some (.string Xh) := by
          have h1 := (tx_cells h9r).2.1
          rw [show (tx0 ⟨pus, phd, pat⟩).head = phd from rfl, HXH.out] at h1
          exact h1
        have hr92 : w5.rangeAt p9 2 la := by
          have h1 := (tx_cells h9r).2.2
          rw [show (tx0 ⟨pus, phd, pat⟩).at_ = pat from rfl, HLA.out] at h1
          exact h1
        have HR92 := Lib.hid hr92
        have hatl : r.at_.length = 32 := (HS5.out.sub (ps' := []) (by simp)).ok.al |> fun _ => HS.out.ok.al
        have HSP : Hid (HdS w1 g gr [(p6, .cells (b8s r.at_).toArray 24 (0, 0)), (gt, .cells lt.toArray 28 (0, 0))] (33000 * i + 76 + phd.length) (1002 * i + 1) w5 r5) := Lib.hid (HS5.out.sub (by simp))
        by_cases hhd : phd = []
        · have hem : Xh.toList.isEmpty = true := by
            rw [tl_data, HXS.out, hhd]
            rfl
          have HHD0 := Lib.hid hhd
          by_cases hat : pat = Z32
          · have HAT0 := Lib.hid hat
            have hq : ∀ W, (binOp .neq 24 (.agg la.toArray) (.agg l0.toArray)).run Tryz.prog W = .ok (.bool false) W := by
              intro W
              rw [← HLA.out, ← HL0.out, hat, id_neq Z32 Z32 rfl rfl W, decide_eq_true rfl]
              rfl
            have HE5 : Hid (r5.head = r.head ∧ r5.at_ = r.at_) := Lib.hid ⟨by rw [HH.out]; unfold hdT; rw [if_neg (by simp [hhd]), if_neg (by simp [hat])], by rw [HAA.out]; unfold atT; rw [if_neg (by simp [hhd]), if_neg (by simp [hat])]⟩
            have HS6 : Hid (HdS w1 g gr [(p6, .cells (b8s r5.at_).toArray 24 (0, 0)), (gt, .cells lt.toArray 28 (0, 0))] (33000 * i + 76 + phd.length) (1002 * i + 1) w5 r5) := Lib.hid (by rw [HE5.out.2]; exact HSP.out)
            obtain ⟨W6, hW6_⟩ : ∃ x, x = w5 := ⟨_, rfl⟩
            subst hW6_
            clear h9r h6r hr92 hatl hhd hat hl6 hl9
            by_cases hr0 : r.head = []
            · have HH5 : Hid (r5.head = []) := Lib.hid (by rw [HE5.out.1]; exact hr0)
              rw [hr0, show strV [] = .string ⟨#[]⟩ from rfl]
              clear hr0
              have c70 : W6.cell? ⟨gt, 0, none⟩ = some (.slice pA np pc) := by
                have h1 := HS6.out.rows (gt, .cells lt.toArray 28 (0, 0)) (by simp)
                rw [← HLT.out] at h1
                exact (tx_cells h1).1
              go_upto_block 2 with (first | ((with_reducible (refine wpList_load_cells 24 _ p9 2 (la) HR92.out Tryz.underlying24 rfl HIDA.out ?_ rfl ?_ ?_)); (exact rfl); (exact rfl)) | ((with_reducible (refine wpList_built ?_ _ #[] ?_ _ ?_ _ HID0.out ?_)); (exact rfl); (exact rfl); (exact rfl)))
              refine hd_inner w1 g gr _ (33000 * i + 76 + phd.length) (1002 * i + 1) r5 pA np pc pus HNP hnp1 HUS HWT HRDU (by omega) (by omega) W6 HS6 _ ?_
              intros
              rename_i r1 wx HSx HEQx
              clear c70
              have HRK : Hid (r1.head = r5.head ∧ r1.at_ = r5.at_) := HEQx
              obtain ⟨qx, hqx⟩ := HSx.out.rf
              have HHD := Lib.hid (head_any hqx HSx.out.ok)
              obtain ⟨li, hli⟩ : ∃ l, headR r1 = l := ⟨_, rfl⟩
              have HLIL : Hid (li.length = 32) := Lib.hid (by
                rw [← hli]
                unfold headR
                split
                · exact HSx.out.ok.al
                · exact getA_len HSx.out.ok.ids _)
              have HLI : Hid (li = r5.at_) := Lib.hid (by
                rw [← hli, ← HRK.out.2]
                unfold headR
                rw [if_pos (by rw [HRK.out.1, HH5.out])])
              rw [HRK.out.1, HH5.out, show strV [] = .string ⟨#[]⟩ from rfl, hli] at HHD
              clear hqx hli HEQx
              go_wp2_with fail
              refine HHD.out.mono ?_
              clear HHD
              rintro e w7 ⟨rfl, hb7⟩
              have HS7 := Lib.hid (HSx.out.below hb7)
              clear hb7
              obtain ⟨p14, Wb, W8, hH14, hWb, hW8, HTH14, HR14, HB14, _⟩ := arr_place (w := w7) 24 li HLIL.out
              have HIA14 := Lib.hid (info_ida li HLIL.out)
              have HIL14 := Lib.hid (info_idl li HLIL.out)
              have HOC14 : Hid ((b8s li).toArray.all (·.oneCell') = true) := Lib.hid (all_oneCell_toArray (b8s_one' _))
              have HW8 := Lib.hid hW8
              have HS8 := Lib.hid (HS7.out.below HB14.out)
              have HRG14 := Lib.hid (range_of_row HR14.out)
              have HL14 := Lib.hid (Array.getElem?_eq_some_iff.1 HR14.out).1
              have HRG6 : Hid (W8.rangeAt p6 0 (b8s li)) := Lib.hid (by
                rw [HLI.out]
                exact range_of_row (HS8.out.rows (p6, .cells (b8s r5.at_).toArray 24 (0, 0)) (by simp)))
              have hq : ∀ W, (binOp .neq 24 (.agg (b8s li).toArray) (.agg (b8s li).toArray)).run Tryz.prog W = .ok (.bool false) W := by
                intro W
                rw [id_neq li li HLIL.out HLIL.out W, decide_eq_true rfl]
                rfl
              obtain ⟨ll, hll⟩ : ∃ l, b8s li = l := ⟨_, rfl⟩
              rw [hll] at HIA14 HIL14 HOC14 HW8 HTH14 HRG14 hq ⊢
              rw [hll] at HRG6
              have HLL := Lib.hid hll
              clear hll hW8
              go_wp2_with ((with_reducible (refine wpList_store_mid rfl _ _ _ rfl ?_ ?_ ?_ ?_ ?_ ?_ ?_ ?_ ?_)); (exact p14); (exact 0); (exact (ll).toArray); (exact rfl); (exact rfl); (exact HTH14.out); (exact HIA14.out); (exact HOC14.out); rw [HW8.out])
              clear hH14 hWb
              refine wp_region_sched (fun w' => w'.rangeAt p14 0 ll ∧ w'.rangeAt p6 0 ll) [(true, 0), (true, 1), (true, 2), (true, 3), (true, 4), (true, 5), (true, 6), (true, 7), (true, 8), (true, 9), (true, 10), (true, 11), (true, 12), (true, 13), (true, 14), (true, 15), (true, 16), (true, 17), (true, 18), (false, 19), (true, 20), (true, 21), (true, 22)] (by kernel_rfl) (by kernel_rfl) rfl (by kernel_rfl) ⟨HRG14.out, HRG6.out⟩ ?_
              (repeat (first | (refine wpS_pass _ rfl (by rfl) ?_; simp only [Act.put, List.getElem_toArray, List.getElem_cons_zero, List.getElem_cons_succ, List.setIfInBounds_toArray, List.set_cons_zero, List.set_cons_succ]) | (refine wpS_take _ ?_ rfl (by rfl) ?_ ?_; rotate_left; (focus (intro w' hS'; (try dsimp only at hS'); (repeat (have hS1 := hS'.1; replace hS' := hS'.2)); go_simp; (try with_reducible rfl); done)); simp only [Act.put, List.getElem_toArray, List.getElem_cons_zero, List.getElem_cons_succ, List.setIfInBounds_toArray, List.set_cons_zero, List.set_cons_succ])))
              refine wpS_load _ rfl (by rfl) 24 _ rfl p14 0 rfl ll _ (fun w' hS => hS.1) Tryz.underlying24 rfl HIL14.out ?_
              simp only [Act.put, List.getElem_toArray, List.getElem_cons_zero, List.getElem_cons_succ, List.setIfInBounds_toArray, List.set_cons_zero, List.set_cons_succ]
              refine wpS_load _ rfl (by rfl) 24 _ rfl p6 0 rfl ll _ (fun w' hS => hS.2) Tryz.underlying24 rfl HIL14.out ?_
              simp only [Act.put, List.getElem_toArray, List.getElem_cons_zero, List.getElem_cons_succ, List.setIfInBounds_toArray, List.set_cons_zero, List.set_cons_succ]
              (repeat (first | (refine wpS_pass _ rfl (by rfl) ?_; simp only [Act.put, List.getElem_toArray, List.getElem_cons_zero, List.getElem_cons_succ, List.setIfInBounds_toArray, List.set_cons_zero, List.set_cons_succ]) | (refine wpS_take _ ?_ rfl (by rfl) ?_ ?_; rotate_left; (focus (intro w' hS'; (try dsimp only at hS'); (repeat (have hS1 := hS'.1; replace hS' := hS'.2)); go_simp; (try with_reducible rfl); done)); simp only [Act.put, List.getElem_toArray, List.getElem_cons_zero, List.getElem_cons_succ, List.setIfInBounds_toArray, List.set_cons_zero, List.set_cons_succ])))
              refine wpS_skip _ rfl (by rfl) ⟨HRG14.out, HRG6.out⟩ ?_
              simp only [Act.put, List.getElem_toArray, List.getElem_cons_zero, List.getElem_cons_succ, List.setIfInBounds_toArray, List.set_cons_zero, List.set_cons_succ]
              (repeat (first | (refine wpS_pass _ rfl (by rfl) ?_; simp only [Act.put, List.getElem_toArray, List.getElem_cons_zero, List.getElem_cons_succ, List.setIfInBounds_toArray, List.set_cons_zero, List.set_cons_succ]) | (refine wpS_take _ ?_ rfl (by rfl) ?_ ?_; rotate_left; (focus (intro w' hS'; (try dsimp only at hS'); (repeat (have hS1 := hS'.1; replace hS' := hS'.2)); go_simp; (try with_reducible rfl); done)); simp only [Act.put, List.getElem_toArray, List.getElem_cons_zero, List.getElem_cons_succ, List.setIfInBounds_toArray, List.set_cons_zero, List.set_cons_succ])))
              refine wpS_done ?_
              have HS9 : Hid (HdS w1 g gr [(p6, .cells (b8s r5.at_).toArray 24 (0, 0)), (gt, .cells lt.toArray 28 (0, 0))] (33000 * i + 76 + phd.length + 31000) (1002 * i + 1 + np) W8.drew r1) := Lib.hid (HS8.out.below (Below.refl _ _).drew)
              generalize W8.drew = W9 at HS9 ⊢
              clear hq
              go_wp2_with fail
              go_roundg (n - (i + 1))
              case measure => omega
              case rel => exact ⟨i + 1, r1, by omega, rfl, by rw [HRK.out.1, HH5.out]; rfl, by first | rfl | exact congrArg (Value.int .i64) (by omega) | go_num, Lib.hid (by rw [HRK.out.2]; exact (HS9.out.sub (by simp)).mono (by omega) (by omega))⟩
            · have HH5 : Hid (r5.head ≠ []) := Lib.hid (by rw [HE5.out.1]; exact hr0)
              obtain ⟨X5, hX5, hX5s⟩ : ∃ X : ByteArray, strV r.head = .string X ∧ X.data.toList = r.head := ⟨_, rfl, rfl⟩
              have HX5 : Hid (X5.data.toList = r5.head) := Lib.hid (by rw [HE5.out.1]; exact hX5s)
              have hXm : X5.size ≤ 140737488355328 := by
                have h1 := HSP.out.ok.hd
                rw [← HX5.out, ← Lib.size_eq] at h1
                exact h1
              have hem5 : X5.toList.isEmpty = false := by
                rw [tl_data, hX5s]
                cases h : r.head with
                | nil => exact absurd h hr0
                | cons => rfl
              rw [hX5]
              clear hr0 hX5 hX5s
              have c70 : W6.cell? ⟨gt, 0, none⟩ = some (.slice pA np pc) := by
                have h1 := HS6.out.rows (gt, .cells lt.toArray 28 (0, 0)) (by simp)
                rw [← HLT.out] at h1
                exact (tx_cells h1).1
              go_upto_block 2 with (first | ((with_reducible (refine wpList_load_cells 24 _ p9 2 (la) HR92.out Tryz.underlying24 rfl HIDA.out ?_ rfl ?_ ?_)); (exact rfl); (exact rfl)) | ((with_reducible (refine wpList_built ?_ _ #[] ?_ _ ?_ _ HID0.out ?_)); (exact rfl); (exact rfl); (exact rfl)))
              refine hd_inner w1 g gr _ (33000 * i + 76 + phd.length) (1002 * i + 1) r5 pA np pc pus HNP hnp1 HUS HWT HRDU (by omega) (by omega) W6 HS6 _ ?_
              intros
              rename_i r1 wx HSx HEQx
              clear c70
              have HRK : Hid (r1.head = r5.head ∧ r1.at_ = r5.at_) := HEQx
              obtain ⟨qx, hqx⟩ := HSx.out.rf
              have HHD := Lib.hid (head_any hqx HSx.out.ok)
              obtain ⟨li, hli⟩ : ∃ l, headR r1 = l := ⟨_, rfl⟩
              have HLIL : Hid (li.length = 32) := Lib.hid (by
                rw [← hli]
                unfold headR
                split
                · exact HSx.out.ok.al
                · exact getA_len HSx.out.ok.ids _)
              have HLI : Hid (getA r1.all X5.data.toList = li) := Lib.hid (by
                rw [← hli, HX5.out, ← HRK.out.1]
                unfold headR
                rw [if_neg (by rw [HRK.out.1]; exact HH5.out)])
              rw [HRK.out.1, ← HX5.out, strV_data, hli] at HHD
              clear hqx hli HEQx
              go_wp2_with fail
              refine HHD.out.mono ?_
              clear HHD
              rintro e w7 ⟨rfl, hb7⟩
              have HS7 := Lib.hid (HSx.out.below hb7)
              clear hb7
              obtain ⟨p14, Wb, W8, hH14, hWb, hW8, HTH14, HR14, HB14, _⟩ := arr_place (w := w7) 24 li HLIL.out
              have HIA14 := Lib.hid (info_ida li HLIL.out)
              have HIL14 := Lib.hid (info_idl li HLIL.out)
              have HOC14 : Hid ((b8s li).toArray.all (·.oneCell') = true) := Lib.hid (all_oneCell_toArray (b8s_one' _))
              have HW8 := Lib.hid hW8
              have HS8 := Lib.hid (HS7.out.below HB14.out)
              have HRG14 := Lib.hid (range_of_row HR14.out)
              have HL14 := Lib.hid (Array.getElem?_eq_some_iff.1 HR14.out).1
              have hq : ∀ W, (binOp .neq 24 (.agg (b8s li).toArray) (.agg (b8s li).toArray)).run Tryz.prog W = .ok (.bool false) W := by
                intro W
                rw [id_neq li li HLIL.out HLIL.out W, decide_eq_true rfl]
                rfl
              have hbb : (X5.toList == X5.toList) = true := by simp
              obtain ⟨ll, hll⟩ : ∃ l, b8s li = l := ⟨_, rfl⟩
              rw [hll] at HIA14 HIL14 HOC14 HW8 HTH14 HRG14 hq ⊢
              skip
              have HLL := Lib.hid hll
              clear hll hW8
              go_wp2_with ((with_reducible (refine wpList_store_mid rfl _ _ _ rfl ?_ ?_ ?_ ?_ ?_ ?_ ?_ ?_ ?_)); (exact p14); (exact 0); (exact (ll).toArray); (exact rfl); (exact rfl); (exact HTH14.out); (exact HIA14.out); (exact HOC14.out); rw [HW8.out])
              clear hH14 hWb
              have HGT := Lib.hid (fun (W : World) (h : HdS w1 g gr [(p6, .cells (b8s r5.at_).toArray 24 (0, 0)), (gt, .cells lt.toArray 28 (0, 0))] (33000 * i + 76 + phd.length + 31000) (1002 * i + 1 + np) W r1) => by
                obtain ⟨qx, hqx⟩ := h.rf
                exact get_any hqx h.ok X5 (by unfold maxLen; omega))
              rw [HLI.out, HLL.out] at HGT
              refine wp_region_sched (fun w' => w'.rangeAt p14 0 ll) [(true, 0), (true, 1), (true, 2), (true, 3), (true, 4), (true, 5), (true, 6), (true, 7), (true, 8), (true, 9), (true, 10), (true, 11), (true, 12), (true, 13), (true, 14), (true, 15), (true, 16), (true, 17), (true, 18), (false, 19), (true, 20), (true, 21), (true, 22)] (by kernel_rfl) (by kernel_rfl) rfl (by kernel_rfl) HRG14.out ?_
              (repeat (first | (refine wpS_pass _ rfl (by rfl) ?_; simp only [Act.put, List.getElem_toArray, List.getElem_cons_zero, List.getElem_cons_succ, List.setIfInBounds_toArray, List.set_cons_zero, List.set_cons_succ]) | (refine wpS_take _ ?_ rfl (by rfl) ?_ ?_; rotate_left; (focus (intro w' hS'; (try dsimp only at hS'); (repeat (have hS1 := hS'.1; replace hS' := hS'.2)); go_simp; (try with_reducible rfl); done)); simp only [Act.put, List.getElem_toArray, List.getElem_cons_zero, List.getElem_cons_succ, List.setIfInBounds_toArray, List.set_cons_zero, List.set_cons_succ])))
              refine wpS_load _ rfl (by rfl) 24 _ rfl p14 0 rfl ll _ (fun w' hS => hS) Tryz.underlying24 rfl HIL14.out ?_
              simp only [Act.put, List.getElem_toArray, List.getElem_cons_zero, List.getElem_cons_succ, List.setIfInBounds_toArray, List.set_cons_zero, List.set_cons_succ]
              (repeat (first | (refine wpS_pass _ rfl (by rfl) ?_; simp only [Act.put, List.getElem_toArray, List.getElem_cons_zero, List.getElem_cons_succ, List.setIfInBounds_toArray, List.set_cons_zero, List.set_cons_succ]) | (refine wpS_take _ ?_ rfl (by rfl) ?_ ?_; rotate_left; (focus (intro w' hS'; (try dsimp only at hS'); (repeat (have hS1 := hS'.1; replace hS' := hS'.2)); go_simp; (try with_reducible rfl); done)); simp only [Act.put, List.getElem_toArray, List.getElem_cons_zero, List.getElem_cons_succ, List.setIfInBounds_toArray, List.set_cons_zero, List.set_cons_succ])))
              refine wpS_do _ rfl (by rfl) (fun KK hKK => ?_)
              go_simp
              refine (HGT.out W8.drew (HS8.out.below (Below.refl _ _).drew)).mono ?_
              rintro e w9 ⟨rfl, hb9⟩
              have hb9' : Below W8.heap.size W8 w9 := (Below.refl _ _).drew.trans hb9
              refine hKK.out _ _ (range_below HRG14.out HL14.out hb9') (fun hS => ?_)
              clear hKK hS
              have HS9 : Hid (HdS w1 g gr [(p6, .cells (b8s r5.at_).toArray 24 (0, 0)), (gt, .cells lt.toArray 28 (0, 0))] (33000 * i + 76 + phd.length + 31000) (1002 * i + 1 + np) w9 r1) := Lib.hid (HS8.out.below hb9')
              clear hb9 hb9'
              (repeat (first | (refine wpS_pass _ rfl (by rfl) ?_; simp only [Act.put, List.getElem_toArray, List.getElem_cons_zero, List.getElem_cons_succ, List.setIfInBounds_toArray, List.set_cons_zero, List.set_cons_succ]) | (refine wpS_take _ ?_ rfl (by rfl) ?_ ?_; rotate_left; (focus (intro w' hS'; (try dsimp only at hS'); (repeat (have hS1 := hS'.1; replace hS' := hS'.2)); go_simp; (try with_reducible rfl); done)); simp only [Act.put, List.getElem_toArray, List.getElem_cons_zero, List.getElem_cons_succ, List.setIfInBounds_toArray, List.set_cons_zero, List.set_cons_succ])))
              refine wpS_done ?_
              clear hq hbb
              go_wp2_with fail
              go_roundg (n - (i + 1))
              case measure => omega
              case rel => exact ⟨i + 1, r1, by omega, rfl, by rw [HRK.out.1, ← HX5.out, strV_data], by first | rfl | exact congrArg (Value.int .i64) (by omega) | go_num, Lib.hid (by rw [HRK.out.2]; exact (HS9.out.sub (by simp)).mono (by omega) (by omega))⟩
          · have hq : ∀ W, (binOp .neq 24 (.agg la.toArray) (.agg l0.toArray)).run Tryz.prog W = .ok (.bool true) W := by
              intro W
              rw [← HLA.out, ← HL0.out, id_neq pat Z32 HRAW.out.al rfl W, decide_eq_false hat]
              rfl
            have HE5 : Hid (r5.head = [] ∧ r5.at_ = pat) := Lib.hid ⟨by rw [HH.out]; unfold hdT; rw [if_neg (by simp [hhd]), if_pos (by simpa using hat)], by rw [HAA.out]; unfold atT; rw [if_neg (by simp [hhd]), if_pos (by simpa using hat)]⟩
            have h6d : w5.drew.heap[p6]? = some (.cells (b8s r.at_).toArray 24 (0, 0)) := h6r
            obtain ⟨W6, hW6, T6, R6, G6⟩ := put_rowR (new := la) h6d (by rw [← HLA.out, b8s_length, b8s_length, HRAW.out.al, hatl])
            have HW6 := Lib.hid hW6
            have HT6 := Lib.hid T6.out
            have HS6 : Hid (HdS w1 g gr [(p6, .cells (b8s r5.at_).toArray 24 (0, 0)), (gt, .cells lt.toArray 28 (0, 0))] (33000 * i + 76 + phd.length) (1002 * i + 1) W6 r5) := Lib.hid (by
              rw [HE5.out.2, HLA.out]
              exact (HSP.out.below (Below.refl _ _).drew).put G6.out R6.out HP6.out (by intro p hp; simp only [List.mem_singleton] at hp; rw [hp]; exact HNE.out))
            have HR9W : Hid (W6.rangeAt p9 2 la) := Lib.hid (by
              have h1 := (G6.out.block p9 hl9 (fun e => HNE9.out (Option.some.inj e))).trans (show w5.drew.heap[p9]? = _ from h9r)
              have h2 := (tx_cells h1).2.2
              rw [show (tx0 ⟨pus, phd, pat⟩).at_ = pat from rfl, HLA.out] at h2
              exact h2)
            have HH5 : Hid (r5.head = []) := Lib.hid HE5.out.1
            clear h9r h6r hr92 hatl hhd hat h6d hW6 T6 R6 G6 hl6 hl9
            go_wp2_with (first | ((with_reducible (refine wpList_load_cells 24 _ p9 2 (la) HR92.out Tryz.underlying24 rfl HIDA.out ?_ rfl ?_ ?_)); (exact rfl); (exact rfl)) | ((with_reducible (refine wpList_built ?_ _ #[] ?_ _ ?_ _ HID0.out ?_)); (exact rfl); (exact rfl); (exact rfl)))
            refine wp_region_sched (fun w' => w'.rangeAt p9 2 la) [(true, 0), (true, 1), (true, 2), (false, 3)] (by kernel_rfl) (by kernel_rfl) rfl (by kernel_rfl) HR92.out ?_
            (first | (refine wpS_pass _ rfl (by rfl) ?_; simp only [Act.put, List.getElem_toArray, List.getElem_cons_zero, List.getElem_cons_succ, List.setIfInBounds_toArray, List.set_cons_zero, List.set_cons_succ]) | (refine wpS_take _ ?_ rfl (by rfl) ?_ ?_; rotate_left; (focus (intro w' hS'; (try dsimp only at hS'); (repeat (have hS1 := hS'.1; replace hS' := hS'.2)); go_simp; (try with_reducible rfl); done)); simp only [Act.put, List.getElem_toArray, List.getElem_cons_zero, List.getElem_cons_succ, List.setIfInBounds_toArray, List.set_cons_zero, List.set_cons_succ]))
            refine wpS_load _ rfl (by rfl) 24 _ rfl p9 2 rfl la _ (fun w' hS => hS) Tryz.underlying24 rfl HIDA.out ?_
            simp only [Act.put, List.getElem_toArray, List.getElem_cons_zero, List.getElem_cons_succ, List.setIfInBounds_toArray, List.set_cons_zero, List.set_cons_succ]
            (first | (refine wpS_pass _ rfl (by rfl) ?_; simp only [Act.put, List.getElem_toArray, List.getElem_cons_zero, List.getElem_cons_succ, List.setIfInBounds_toArray, List.set_cons_zero, List.set_cons_succ]) | (refine wpS_take _ ?_ rfl (by rfl) ?_ ?_; rotate_left; (focus (intro w' hS'; (try dsimp only at hS'); (repeat (have hS1 := hS'.1; replace hS' := hS'.2)); go_simp; (try with_reducible rfl); done)); simp only [Act.put, List.getElem_toArray, List.getElem_cons_zero, List.getElem_cons_succ, List.setIfInBounds_toArray, List.set_cons_zero, List.set_cons_succ]))
            refine wpS_store_mid _ rfl (by rfl) 24 _ _ rfl p6 0 la.toArray rfl rfl HT6.out HIDAA.out HOA.out ?_ ?_
            · rw [HW6.out]
              exact HR9W.out
            refine wpS_done ?_
            rw [HW6.out]
            clear hq c91 hem
            have c70 : W6.cell? ⟨gt, 0, none⟩ = some (.slice pA np pc) := by
              have h1 := HS6.out.rows (gt, .cells lt.toArray 28 (0, 0)) (by simp)
              rw [← HLT.out] at h1
              exact (tx_cells h1).1
            go_upto_block 2 with (fail)
            refine hd_inner w1 g gr _ (33000 * i + 76 + phd.length) (1002 * i + 1) r5 pA np pc pus HNP hnp1 HUS HWT HRDU (by omega) (by omega) W6 HS6 _ ?_
            intros
            rename_i r1 wx HSx HEQx
            clear c70
            have HRK : Hid (r1.head = r5.head ∧ r1.at_ = r5.at_) := HEQx
            obtain ⟨qx, hqx⟩ := HSx.out.rf
            have HHD := Lib.hid (head_any hqx HSx.out.ok)
            obtain ⟨li, hli⟩ : ∃ l, headR r1 = l := ⟨_, rfl⟩
            have HLIL : Hid (li.length = 32) := Lib.hid (by
              rw [← hli]
              unfold headR
              split
              · exact HSx.out.ok.al
              · exact getA_len HSx.out.ok.ids _)
            have HLI : Hid (li = r5.at_) := Lib.hid (by
              rw [← hli, ← HRK.out.2]
              unfold headR
              rw [if_pos (by rw [HRK.out.1, HH5.out])])
            rw [HRK.out.1, HH5.out, show strV [] = .string ⟨#[]⟩ from rfl, hli] at HHD
            clear hqx hli HEQx
            go_wp2_with fail
            refine HHD.out.mono ?_
            clear HHD
            rintro e w7 ⟨rfl, hb7⟩
            have HS7 := Lib.hid (HSx.out.below hb7)
            clear hb7
            obtain ⟨p14, Wb, W8, hH14, hWb, hW8, HTH14, HR14, HB14, _⟩ := arr_place (w := w7) 24 li HLIL.out
            have HIA14 := Lib.hid (info_ida li HLIL.out)
            have HIL14 := Lib.hid (info_idl li HLIL.out)
            have HOC14 : Hid ((b8s li).toArray.all (·.oneCell') = true) := Lib.hid (all_oneCell_toArray (b8s_one' _))
            have HW8 := Lib.hid hW8
            have HS8 := Lib.hid (HS7.out.below HB14.out)
            have HRG14 := Lib.hid (range_of_row HR14.out)
            have HL14 := Lib.hid (Array.getElem?_eq_some_iff.1 HR14.out).1
            have HRG6 : Hid (W8.rangeAt p6 0 (b8s li)) := Lib.hid (by
              rw [HLI.out]
              exact range_of_row (HS8.out.rows (p6, .cells (b8s r5.at_).toArray 24 (0, 0)) (by simp)))
            have hq : ∀ W, (binOp .neq 24 (.agg (b8s li).toArray) (.agg (b8s li).toArray)).run Tryz.prog W = .ok (.bool false) W := by
              intro W
              rw [id_neq li li HLIL.out HLIL.out W, decide_eq_true rfl]
              rfl
            obtain ⟨ll, hll⟩ : ∃ l, b8s li = l := ⟨_, rfl⟩
            rw [hll] at HIA14 HIL14 HOC14 HW8 HTH14 HRG14 hq ⊢
            rw [hll] at HRG6
            have HLL := Lib.hid hll
            clear hll hW8
            go_wp2_with ((with_reducible (refine wpList_store_mid rfl _ _ _ rfl ?_ ?_ ?_ ?_ ?_ ?_ ?_ ?_ ?_)); (exact p14); (exact 0); (exact (ll).toArray); (exact rfl); (exact rfl); (exact HTH14.out); (exact HIA14.out); (exact HOC14.out); rw [HW8.out])
            clear hH14 hWb
            refine wp_region_sched (fun w' => w'.rangeAt p14 0 ll ∧ w'.rangeAt p6 0 ll) [(true, 0), (true, 1), (true, 2), (true, 3), (true, 4), (true, 5), (true, 6), (true, 7), (true, 8), (true, 9), (true, 10), (true, 11), (true, 12), (true, 13), (true, 14), (true, 15), (true, 16), (true, 17), (true, 18), (false, 19), (true, 20), (true, 21), (true, 22)] (by kernel_rfl) (by kernel_rfl) rfl (by kernel_rfl) ⟨HRG14.out, HRG6.out⟩ ?_
            (repeat (first | (refine wpS_pass _ rfl (by rfl) ?_; simp only [Act.put, List.getElem_toArray, List.getElem_cons_zero, List.getElem_cons_succ, List.setIfInBounds_toArray, List.set_cons_zero, List.set_cons_succ]) | (refine wpS_take _ ?_ rfl (by rfl) ?_ ?_; rotate_left; (focus (intro w' hS'; (try dsimp only at hS'); (repeat (have hS1 := hS'.1; replace hS' := hS'.2)); go_simp; (try with_reducible rfl); done)); simp only [Act.put, List.getElem_toArray, List.getElem_cons_zero, List.getElem_cons_succ, List.setIfInBounds_toArray, List.set_cons_zero, List.set_cons_succ])))
            refine wpS_load _ rfl (by rfl) 24 _ rfl p14 0 rfl ll _ (fun w' hS => hS.1) Tryz.underlying24 rfl HIL14.out ?_
            simp only [Act.put, List.getElem_toArray, List.getElem_cons_zero, List.getElem_cons_succ, List.setIfInBounds_toArray, List.set_cons_zero, List.set_cons_succ]
            refine wpS_load _ rfl (by rfl) 24 _ rfl p6 0 rfl ll _ (fun w' hS => hS.2) Tryz.underlying24 rfl HIL14.out ?_
            simp only [Act.put, List.getElem_toArray, List.getElem_cons_zero, List.getElem_cons_succ, List.setIfInBounds_toArray, List.set_cons_zero, List.set_cons_succ]
            (repeat (first | (refine wpS_pass _ rfl (by rfl) ?_; simp only [Act.put, List.getElem_toArray, List.getElem_cons_zero, List.getElem_cons_succ, List.setIfInBounds_toArray, List.set_cons_zero, List.set_cons_succ]) | (refine wpS_take _ ?_ rfl (by rfl) ?_ ?_; rotate_left; (focus (intro w' hS'; (try dsimp only at hS'); (repeat (have hS1 := hS'.1; replace hS' := hS'.2)); go_simp; (try with_reducible rfl); done)); simp only [Act.put, List.getElem_toArray, List.getElem_cons_zero, List.getElem_cons_succ, List.setIfInBounds_toArray, List.set_cons_zero, List.set_cons_succ])))
            refine wpS_skip _ rfl (by rfl) ⟨HRG14.out, HRG6.out⟩ ?_
            simp only [Act.put, List.getElem_toArray, List.getElem_cons_zero, List.getElem_cons_succ, List.setIfInBounds_toArray, List.set_cons_zero, List.set_cons_succ]
            (repeat (first | (refine wpS_pass _ rfl (by rfl) ?_; simp only [Act.put, List.getElem_toArray, List.getElem_cons_zero, List.getElem_cons_succ, List.setIfInBounds_toArray, List.set_cons_zero, List.set_cons_succ]) | (refine wpS_take _ ?_ rfl (by rfl) ?_ ?_; rotate_left; (focus (intro w' hS'; (try dsimp only at hS'); (repeat (have hS1 := hS'.1; replace hS' := hS'.2)); go_simp; (try with_reducible rfl); done)); simp only [Act.put, List.getElem_toArray, List.getElem_cons_zero, List.getElem_cons_succ, List.setIfInBounds_toArray, List.set_cons_zero, List.set_cons_succ])))
            refine wpS_done ?_
            have HS9 : Hid (HdS w1 g gr [(p6, .cells (b8s r5.at_).toArray 24 (0, 0)), (gt, .cells lt.toArray 28 (0, 0))] (33000 * i + 76 + phd.length + 31000) (1002 * i + 1 + np) W8.drew r1) := Lib.hid (HS8.out.below (Below.refl _ _).drew)
            generalize W8.drew = W9 at HS9 ⊢
            clear hq
            go_wp2_with fail
            go_roundg (n - (i + 1))
            case measure => omega
            case rel => exact ⟨i + 1, r1, by omega, rfl, by rw [HRK.out.1, HH5.out]; rfl, by first | rfl | exact congrArg (Value.int .i64) (by omega) | go_num, Lib.hid (by rw [HRK.out.2]; exact (HS9.out.sub (by simp)).mono (by omega) (by omega))⟩
        · have hem : Xh.toList.isEmpty = false := by
            rw [tl_data, HXS.out]
            cases h : phd with
            | nil => exact absurd h hhd
            | cons => rfl
          have HE5 : Hid (r5.head = phd ∧ r5.at_ = Z32) := Lib.hid ⟨by rw [HH.out]; unfold hdT; rw [if_pos (by simpa using hhd)], by rw [HAA.out]; unfold atT; rw [if_pos (by simpa using hhd)]⟩
          obtain ⟨W6, hW6, T6, R6, G6⟩ := put_rowR (new := l0) h6r (by rw [← HL0.out, b8s_length, b8s_length, hatl]; rfl)
          have HW6 := Lib.hid hW6
          have HT6 := Lib.hid T6.out
          have HS6 : Hid (HdS w1 g gr [(p6, .cells (b8s r5.at_).toArray 24 (0, 0)), (gt, .cells lt.toArray 28 (0, 0))] (33000 * i + 76 + phd.length) (1002 * i + 1) W6 r5) := Lib.hid (by
            rw [HE5.out.2, HL0.out]
            exact HSP.out.put G6.out R6.out HP6.out (by intro p hp; simp only [List.mem_singleton] at hp; rw [hp]; exact HNE.out))
          have HH5 : Hid (r5.head ≠ []) := Lib.hid (by rw [HE5.out.1]; exact hhd)
          obtain ⟨X5, hX5_⟩ : ∃ X, X = Xh := ⟨_, rfl⟩
          subst hX5_
          have HX5 : Hid (X5.data.toList = r5.head) := Lib.hid (by rw [HE5.out.1]; exact HXS.out)
          have hXm : X5.size ≤ 140737488355328 := by
            have h1 := HSP.out.ok.hd
            rw [← HX5.out, ← Lib.size_eq] at h1
            exact h1
          have hem5 : X5.toList.isEmpty = false := hem
          clear h9r h6r hr92 hatl hhd hW6 T6 R6 G6 hl6 hl9
          have c70 : W6.cell? ⟨gt, 0, none⟩ = some (.slice pA np pc) := by
            have h1 := HS6.out.rows (gt, .cells lt.toArray 28 (0, 0)) (by simp)
            rw [← HLT.out] at h1
            exact (tx_cells h1).1
          go_upto_block 2 with (first | ((with_reducible (refine wpList_built ?_ _ #[] ?_ _ ?_ _ HID0.out ?_)); (exact rfl); (exact rfl); (exact rfl)) | ((with_reducible (refine wpList_store_mid rfl _ _ _ rfl ?_ ?_ ?_ ?_ ?_ ?_ ?_ ?_ ?_)); (exact p6); (exact 0); (exact (l0).toArray); (exact rfl); (exact rfl); (exact HT6.out); (exact HIA.out); (exact HOC.out); rw [HW6.out]))
          refine hd_inner w1 g gr _ (33000 * i + 76 + phd.length) (1002 * i + 1) r5 pA np pc pus HNP hnp1 HUS HWT HRDU (by omega) (by omega) W6 HS6 _ ?_
          intros
          rename_i r1 wx HSx HEQx
          clear c70
          have HRK : Hid (r1.head = r5.head ∧ r1.at_ = r5.at_) := HEQx
          obtain ⟨qx, hqx⟩ := HSx.out.rf
          have HHD := Lib.hid (head_any hqx HSx.out.ok)
          obtain ⟨li, hli⟩ : ∃ l, headR r1 = l := ⟨_, rfl⟩
          have HLIL : Hid (li.length = 32) := Lib.hid (by
            rw [← hli]
            unfold headR
            split
            · exact HSx.out.ok.al
            · exact getA_len HSx.out.ok.ids _)
          have HLI : Hid (getA r1.all X5.data.toList = li) := Lib.hid (by
            rw [← hli, HX5.out, ← HRK.out.1]
            unfold headR
            rw [if_neg (by rw [HRK.out.1]; exact HH5.out)])
          rw [HRK.out.1, ← HX5.out, strV_data, hli] at HHD
          clear hqx hli HEQx
          go_wp2_with fail
          refine HHD.out.mono ?_
          clear HHD
          rintro e w7 ⟨rfl, hb7⟩
          have HS7 := Lib.hid (HSx.out.below hb7)
          clear hb7
          obtain ⟨p14, Wb, W8, hH14, hWb, hW8, HTH14, HR14, HB14, _⟩ := arr_place (w := w7) 24 li HLIL.out
          have HIA14 := Lib.hid (info_ida li HLIL.out)
          have HIL14 := Lib.hid (info_idl li HLIL.out)
          have HOC14 : Hid ((b8s li).toArray.all (·.oneCell') = true) := Lib.hid (all_oneCell_toArray (b8s_one' _))
          have HW8 := Lib.hid hW8
          have HS8 := Lib.hid (HS7.out.below HB14.out)
          have HRG14 := Lib.hid (range_of_row HR14.out)
          have HL14 := Lib.hid (Array.getElem?_eq_some_iff.1 HR14.out).1
          have hq : ∀ W, (binOp .neq 24 (.agg (b8s li).toArray) (.agg (b8s li).toArray)).run Tryz.prog W = .ok (.bool false) W := by
            intro W
            rw [id_neq li li HLIL.out HLIL.out W, decide_eq_true rfl]
            rfl
          have hbb : (X5.toList == X5.toList) = true := by simp
          obtain ⟨ll, hll⟩ : ∃ l, b8s li = l := ⟨_, rfl⟩
          rw [hll] at HIA14 HIL14 HOC14 HW8 HTH14 HRG14 hq ⊢
          skip
          have HLL := Lib.hid hll
          clear hll hW8
          go_wp2_with ((with_reducible (refine wpList_store_mid rfl _ _ _ rfl ?_ ?_ ?_ ?_ ?_ ?_ ?_ ?_ ?_)); (exact p14); (exact 0); (exact (ll).toArray); (exact rfl); (exact rfl); (exact HTH14.out); (exact HIA14.out); (exact HOC14.out); rw [HW8.out])
          clear hH14 hWb
          have HGT := Lib.hid (fun (W : World) (h : HdS w1 g gr [(p6, .cells (b8s r5.at_).toArray 24 (0, 0)), (gt, .cells lt.toArray 28 (0, 0))] (33000 * i + 76 + phd.length + 31000) (1002 * i + 1 + np) W r1) => by
            obtain ⟨qx, hqx⟩ := h.rf
            exact get_any hqx h.ok X5 (by unfold maxLen; omega))
          rw [HLI.out, HLL.out] at HGT
          refine wp_region_sched (fun w' => w'.rangeAt p14 0 ll) [(true, 0), (true, 1), (true, 2), (true, 3), (true, 4), (true, 5), (true, 6), (true, 7), (true, 8), (true, 9), (true, 10), (true, 11), (true, 12), (true, 13), (true, 14), (true, 15), (true, 16), (true, 17), (true, 18), (false, 19), (true, 20), (true, 21), (true, 22)] (by kernel_rfl) (by kernel_rfl) rfl (by kernel_rfl) HRG14.out ?_
          (repeat (first | (refine wpS_pass _ rfl (by rfl) ?_; simp only [Act.put, List.getElem_toArray, List.getElem_cons_zero, List.getElem_cons_succ, List.setIfInBounds_toArray, List.set_cons_zero, List.set_cons_succ]) | (refine wpS_take _ ?_ rfl (by rfl) ?_ ?_; rotate_left; (focus (intro w' hS'; (try dsimp only at hS'); (repeat (have hS1 := hS'.1; replace hS' := hS'.2)); go_simp; (try with_reducible rfl); done)); simp only [Act.put, List.getElem_toArray, List.getElem_cons_zero, List.getElem_cons_succ, List.setIfInBounds_toArray, List.set_cons_zero, List.set_cons_succ])))
          refine wpS_load _ rfl (by rfl) 24 _ rfl p14 0 rfl ll _ (fun w' hS => hS) Tryz.underlying24 rfl HIL14.out ?_
          simp only [Act.put, List.getElem_toArray, List.getElem_cons_zero, List.getElem_cons_succ, List.setIfInBounds_toArray, List.set_cons_zero, List.set_cons_succ]
          (repeat (first | (refine wpS_pass _ rfl (by rfl) ?_; simp only [Act.put, List.getElem_toArray, List.getElem_cons_zero, List.getElem_cons_succ, List.setIfInBounds_toArray, List.set_cons_zero, List.set_cons_succ]) | (refine wpS_take _ ?_ rfl (by rfl) ?_ ?_; rotate_left; (focus (intro w' hS'; (try dsimp only at hS'); (repeat (have hS1 := hS'.1; replace hS' := hS'.2)); go_simp; (try with_reducible rfl); done)); simp only [Act.put, List.getElem_toArray, List.getElem_cons_zero, List.getElem_cons_succ, List.setIfInBounds_toArray, List.set_cons_zero, List.set_cons_succ])))
          refine wpS_do _ rfl (by rfl) (fun KK hKK => ?_)
          go_simp
          refine (HGT.out W8.drew (HS8.out.below (Below.refl _ _).drew)).mono ?_
          rintro e w9 ⟨rfl, hb9⟩
          have hb9' : Below W8.heap.size W8 w9 := (Below.refl _ _).drew.trans hb9
          refine hKK.out _ _ (range_below HRG14.out HL14.out hb9') (fun hS => ?_)
          clear hKK hS
          have HS9 : Hid (HdS w1 g gr [(p6, .cells (b8s r5.at_).toArray 24 (0, 0)), (gt, .cells lt.toArray 28 (0, 0))] (33000 * i + 76 + phd.length + 31000) (1002 * i + 1 + np) w9 r1) := Lib.hid (HS8.out.below hb9')
          clear hb9 hb9'
          (repeat (first | (refine wpS_pass _ rfl (by rfl) ?_; simp only [Act.put, List.getElem_toArray, List.getElem_cons_zero, List.getElem_cons_succ, List.setIfInBounds_toArray, List.set_cons_zero, List.set_cons_succ]) | (refine wpS_take _ ?_ rfl (by rfl) ?_ ?_; rotate_left; (focus (intro w' hS'; (try dsimp only at hS'); (repeat (have hS1 := hS'.1; replace hS' := hS'.2)); go_simp; (try with_reducible rfl); done)); simp only [Act.put, List.getElem_toArray, List.getElem_cons_zero, List.getElem_cons_succ, List.setIfInBounds_toArray, List.set_cons_zero, List.set_cons_succ])))
          refine wpS_done ?_
          clear hq hbb
          go_wp2_with fail
          go_roundg (n - (i + 1))
          case measure => omega
          case rel => exact ⟨i + 1, r1, by omega, rfl, by rw [HRK.out.1, ← HX5.out, strV_data], by first | rfl | exact congrArg (Value.int .i64) (by omega) | go_num, Lib.hid (by rw [HRK.out.2]; exact (HS9.out.sub (by simp)).mono (by omega) (by omega))⟩
      · rw [hc]
        have HH := Lib.hid hh
        have HAA := Lib.hid ha
        clear hc hh ha
        go_wp2_with fail
        go_roundg (n - (i + 1))
        case measure => omega
        case rel => exact ⟨i + 1, r5, by omega, rfl, by rw [HH.out], by first | rfl | exact congrArg (Value.int .i64) (by omega) | go_num, Lib.hid (by rw [HAA.out]; exact (HS5.out.sub (by simp)).mono (by have h1 : phd.length ≤ 999 := hk1; show 33000 * i + 76 + phd.length ≤ _; omega) (by omega))⟩
  · obtain rfl : i = n := by omega
    go_wp2_with fail
    obtain ⟨qx, hqx⟩ := HS.out.rf
    refine (rnames_any hqx HS.out.ok (by have := HS.out.al; omega)).mono ?_
    rintro e w6 ⟨v, rfl, hov, hb6⟩
    obtain ⟨Av, cv, rfl, _⟩ := own_slice hov
    have HRDV : Hid (Rd w6 Av (keysC r.all)) := Lib.hid (own_rd hov)
    have HS6 := Lib.hid (HS.out.below hb6)
    obtain ⟨nv, hnv⟩ : ∃ k, r.all.length = k := ⟨_, rfl⟩
    have hnvm : nv ≤ 1000000 := by have := HS.out.al; omega
    have HNV := Lib.hid hnv
    rw [hnv]
    clear hov hb6 hqx hnv
    go_wp2_with fail
    go_loopg [117] (nv * 1) (fun gk_ jv wr => ∃ (j : Nat), j ≤ nv ∧ gk_ = nv - j ∧ jv = .int .i64 (j : Int) ∧ Hid (Below w6.heap.size w6 wr))
    case atStart => exact ⟨0, by omega, by omega, rfl, Lib.hid (Below.refl _ _)⟩
    case round =>
    obtain ⟨j, hj, rfl, rfl, HBJ⟩ := hrel
    by_cases hlt2 : j < nv
    · have j2 : (j : Int) < (nv : Int) := by omega
      have hjl : j < r.all.length := by rw [HNV.out]; exact hlt2
      obtain ⟨⟨ks, kv⟩, hpk⟩ : ∃ p, r.all[j] = p := ⟨_, rfl⟩
      have hmem : (ks, kv) ∈ r.all := by rw [← hpk]; exact List.getElem_mem hjl
      obtain ⟨hgv, _, hgl⟩ := HS6.out.good _ hmem
      have hnz : getA r.all ks ≠ Z32 := getA_good HS6.out.ok.rn HS6.out.good hmem
      have hrdj := HRDV.out.below HBJ.out
      have hkl : (keysC r.all).length = r.all.length := by simp [keysC]
      obtain ⟨bv, ov, hAv, hcell⟩ := hrdj.all (by rw [hkl]; omega)
      obtain ⟨Y, hY, hYs⟩ : ∃ Y : ByteArray, strV ks = .string Y ∧ Y.data.toList = ks := ⟨_, rfl, rfl⟩
      have cv_ : wr.cell? ⟨bv, ov + j, none⟩ = some (.string Y) := hcell j _ (by
        unfold keysC
        rw [List.getElem?_map, List.getElem?_eq_getElem hjl, hpk, ← hY]
        rfl)
      have hYm : Y.size ≤ 140737488355328 := by
        dsimp only at hgl
        rw [← hYs, ← Lib.size_eq] at hgl
        exact hgl
      subst hAv
      obtain ⟨id, hid⟩ : ∃ id, getA r.all Y.data.toList = id := ⟨_, rfl⟩
      have hidl : id.length = 32 := by rw [← hid]; exact getA_len HS6.out.ok.ids _
      have HSJ := Lib.hid (HS6.out.below HBJ.out)
      obtain ⟨qj, hqj⟩ := HSJ.out.rf
      have HGT := Lib.hid (get_any hqj HSJ.out.ok Y (by unfold maxLen; omega))
      rw [hid] at HGT
      have hq : ∀ W, (binOp .eql 24 (.agg (b8s id).toArray) (.agg l0.toArray)).run Tryz.prog W = .ok (.bool false) W := by
        intro W
        rw [← HL0.out, id_eql id Z32 hidl rfl W, decide_eq_false (by rw [← hid, hYs]; exact hnz)]
      have HVD := Lib.hid (fun W : World => valid_any Y (by omega) W)
      rw [hYs, show validB ks = true from hgv] at HVD
      obtain ⟨lk, hlk⟩ : ∃ l, b8s id = l := ⟨_, rfl⟩
      rw [hlk] at HGT hq
      clear hjl hpk hmem hgv hgl hnz hrdj hkl hcell hY hYs hid hidl hqj hlk
      go_wp2_with fail
      refine HGT.out.mono ?_
      rintro e w7 ⟨rfl, hb7⟩
      clear HGT cv_
      have HB7 := Lib.hid (HBJ.out.trans (hb7.mono HBJ.out.size))
      clear hb7
      go_wp2_with ((with_reducible (refine wpList_built ?_ _ #[] ?_ _ ?_ _ HID0.out ?_)); (exact rfl); (exact rfl); (exact rfl))
      refine (HVD.out _).mono ?_
      rintro e w8 ⟨rfl, hb8⟩
      have HB8 := Lib.hid (HB7.out.trans (hb8.mono HB7.out.size))
      clear hb8 HVD
      go_wp2_with fail
      clear hq
      go_roundg (nv - (j + 1))
      case measure => omega
      case rel => exact ⟨j + 1, by omega, rfl, by first | rfl | exact congrArg (Value.int .i64) (by omega) | go_num, HB8⟩
    · obtain rfl : j = nv := by omega
      go_wp2_with fail
      go_ret
      exact ⟨rfl, HB1.out.trans ((HS6.out.bel.trans (HBJ.out.mono HS6.out.bel.size)).mono HB1.out.size)⟩
end Go.Proofs.YtelbofikcpchiaaGreat
