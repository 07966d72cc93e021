
/- StampWrites: the walk. -/

import Derived.Test.YtabkgoandfpclaaStBack

import Derived.Test.YtabkgoandfpclaaStAl1

namespace Go.Proofs.Ytabkgoandfpclaa

set_option linter.unusedVariables false

set_option linter.unusedSimpArgs false

open Go.RowKit

theorem same_s (v u : Value) (xs ys : List UInt8) (w : World) (h : Sl w v xs) (k : Sl w u ys) (b : Bool) (he : decide (xs = ys) = b) :
    Calls Try.prog 23 #[v, u] w fun e w' => e = .returned (.bool b) ∧ Below w.heap.size w w' := by
  obtain ⟨A, m, c, rfl, rfl, _, _, hr⟩ := h
  obtain ⟨B, n, d, rfl, rfl, _, _, hs⟩ := k
  exact same_b b A B xs ys c d w hr hs (by omega) (by omega) he
theorem opB_len (o : OpM) (hl : o.data.length = 32) (hg : goodO o = true) : (opB o).length ≤ 2000 := by
  have h1 := (numB_len o.kind).2
  have h2 := stmB_len o.at_
  have h3 := stmB_len o.node
  have h4 := stmB_len o.par
  have h5 := (numB_len (o.os.length : Int)).2
  have h6 := stmsB_len o.os
  unfold opB
  by_cases k : o.kind = 1
  · rw [if_pos k]
    have := good_nm hg k
    have h7 : (textB o.name.data.toList).length ≤ 69 := by
      unfold textB
      rw [List.length_append, ← Lib.size_eq]
      have := (numB_len ((o.name.size : Nat) : Int)).2
      omega
    simp only [List.length_append]
    omega
  · rw [if_neg k]
    have := good_os hg k
    simp only [List.length_append, hl]
    omega

set_option maxRecDepth 100000 in
set_option maxHeartbeats 4000000 in
theorem stampWrites_any (A : Option Addr) (bs : List UInt8) (c : Nat) (o : OpM) (w : World) (hr : Rd w A (b8s bs)) (hm : bs.length + 4000 ≤ 140737488355328) (hc : bs.length ≤ c) (hc2 : c ≤ maxLen) (h : OpIn w o) :
    Calls Try.prog 5 #[.slice A bs.length c, o.val] w fun e w' => e = .returned (.bool true) ∧ Below w.heap.size w w' := by
  obtain ⟨W1, hW1⟩ : ∃ W1, w.alloc (.cells o.cells.toArray 33) = W1 := ⟨_, rfl⟩
  have hrow : W1.heap[w.heap.size]? = some (.cells o.cells.toArray 33 (0, 0)) := by rw [← hW1]; exact heap_alloc_new w _
  have hb1 : Below w.heap.size w W1 := by rw [← hW1]; exact (Below.refl _ _).alloc (Nat.le_refl _) _
  have HIN : Hid (∀ W, Below w.heap.size w W → OpIn W o) := Lib.hid (fun W hb => h.below hb)
  have HSL : Hid (∀ W, Below w.heap.size w W → Sl W (.slice A bs.length c) bs) := Lib.hid (fun W hb => ⟨A, bs.length, c, rfl, rfl, hc, hc2, hr.below hb⟩)
  have HIA : Hid ((Try.prog.info? 33).map (·.size) = some o.cells.length) := Lib.hid (by rw [o.cells_len h.len]; exact info_op)
  have HI : Hid ((Try.prog.info? 33).map (·.size) = some o.cells.toArray.size) := Lib.hid (by rw [List.size_toArray]; exact HIA.out)
  have HDL := Lib.hid h.len
  obtain ⟨g, hg⟩ : ∃ g, w.heap.size = g := ⟨_, rfl⟩
  rw [hg] at hrow hb1 HIN HSL ⊢
  have HB1 := Lib.hid hb1
  have HR1 := Lib.hid hrow
  have HL1 := Lib.hid (Array.getElem?_eq_some_iff.1 hrow).1
  unfold OpM.val
  clear hrow hb1 h hr
  go_enter Try.func5, Try.ntmps5
  go_wp2_with fail
  clear hg hW1
  refine (alive_any W1).mono ?_
  rintro e w2 ⟨rfl, hb2⟩
  have HB2 := Lib.hid (HB1.out.trans (hb2.mono (Nat.le_of_lt HL1.out)))
  have hr2 := (hb2.block _ HL1.out).trans HR1.out
  have HR2 := Lib.hid hr2
  have HL2 := Lib.hid (Array.getElem?_eq_some_iff.1 hr2).1
  clear hb2
  go_wp2_with ((with_reducible (refine wpList_load_op 33 _ g o hr2 Try.underlying33 rfl HI.out ?_ rfl ?_ ?_)); (exact rfl); (exact rfl))
  refine (put_any _ bs o w2 (HSL.out _ HB2.out) (by omega) (HIN.out _ HB2.out)).mono ?_
  rintro e w3 ⟨v3, rfl, ho3⟩
  have HB3 := Lib.hid (HB2.out.trans (ho3.bel.mono (Nat.le_of_lt HL2.out)))
  have hr3 := (ho3.bel.block _ HL2.out).trans HR2.out
  have HR3 := Lib.hid hr3
  have HL3 := Lib.hid (Array.getElem?_eq_some_iff.1 hr3).1
  have HX := Lib.hid (ho3.sl)
  clear ho3 hr2
  go_wp2_with ((with_reducible (refine wpList_load_op 33 _ g o hr3 Try.underlying33 rfl HI.out ?_ rfl ?_ ?_)); (exact rfl); (exact rfl))
  refine (rput_any o w3 (HIN.out _ HB3.out)).mono ?_
  rintro e w4 ⟨v4, rfl, ho4⟩
  have HB4 := Lib.hid (HB3.out.trans (ho4.bel.mono (Nat.le_of_lt HL3.out)))
  have hb34 := ho4.bel
  have hr4 := (hb34.block _ HL3.out).trans HR3.out
  have HX4 := Lib.hid (HX.out.below hb34)
  have HP4 := Lib.hid ho4.sl
  have HR4 := Lib.hid hr4
  have HL4 := Lib.hid (Array.getElem?_eq_some_iff.1 hr4).1
  clear ho4 hb34 hr3
  have hpl : (putB o).length ≤ 2000 := by
    unfold putB
    cases hg0 : goodO o
    · exact Nat.zero_le _
    · exact opB_len o HDL.out hg0
  go_wp2_with fail
  refine (join_s _ v4 bs (putB o) w4 (HSL.out _ HB4.out) HP4.out (by omega)).mono ?_
  rintro e w5 ⟨v5, rfl, ho5⟩
  have HB5 := Lib.hid (HB4.out.trans (ho5.bel.mono (Nat.le_of_lt HL4.out)))
  have HX5 := Lib.hid (HX4.out.below ho5.bel)
  have HP5 := Lib.hid ho5.sl
  have hr5 := (ho5.bel.block _ HL4.out).trans HR4.out
  have HR5 := Lib.hid hr5
  have HL5 := Lib.hid (Array.getElem?_eq_some_iff.1 hr5).1
  clear ho5 hr4
  go_wp2_with fail
  refine (same_s v3 v5 _ _ w5 HX5.out HP5.out true (decide_eq_true rfl)).mono ?_
  rintro e w6 ⟨rfl, hb6⟩
  have HB6 := Lib.hid (HB5.out.trans (hb6.mono (Nat.le_of_lt HL5.out)))
  have HX6 := Lib.hid (HX5.out.below hb6)
  have hr6 := (hb6.block _ HL5.out).trans HR5.out
  have HR6 := Lib.hid hr6
  have HL6 := Lib.hid (Array.getElem?_eq_some_iff.1 hr6).1
  clear hb6 hr5
  go_wp2_with ((with_reducible (refine wpList_load_op 33 _ g o hr6 Try.underlying33 rfl HI.out ?_ rfl ?_ ?_)); (exact rfl); (exact rfl))
  refine (good_any' o w6 (HIN.out _ HB6.out)).mono ?_
  rintro e w7 ⟨rfl, hb7⟩
  have HB7 := Lib.hid (HB6.out.trans (hb7.mono (Nat.le_of_lt HL6.out)))
  have HX7 := Lib.hid (HX6.out.below hb7)
  have hr7 := (hb7.block _ HL6.out).trans HR6.out
  have HR7 := Lib.hid hr7
  have HL7 := Lib.hid (Array.getElem?_eq_some_iff.1 hr7).1
  clear hb7 hr6
  obtain ⟨X, n, d, hv, hn, hnd, hdm, hrx⟩ := HX7.out
  subst hv
  have HN := Lib.hid hn
  have HRX := Lib.hid hrx
  clear hn hrx
  cases hgd : goodO o
  · have hn2 : ((n : Int) == (bs.length : Int)) = true := by
      have := HN.out
      unfold putB at this
      rw [hgd] at this
      simp at this
      rw [this]
      simp
    clear hpl
    go_wp2_with fail
    go_ret
    exact ⟨rfl, HB7.out⟩
  · have hput : putB o = opB o := by unfold putB; rw [hgd]; rfl
    have HN2 : Hid (n = bs.length + (opB o).length) := Lib.hid (by rw [HN.out, hput, List.length_append])
    have HGD := Lib.hid hgd
    rw [hput] at HRX hpl
    have hpos : 1 ≤ (opB o).length := by
      have := (numB_len o.kind).1
      unfold opB
      simp only [List.length_append]
      omega
    have i1 : (bs.length : Int) ≤ (n : Int) := by have := HN2.out; omega
    have i2 : (n : Int) ≤ (d : Int) := by omega
    have hcn : ¬ d = bs.length := by have := HN2.out; omega
    clear hgd hput
    go_wp2_with fail
    have hrd : Rd w7 (X.map fun x => x.add bs.length) (b8s (opB o)) := by
      have hd := Rd.drop (k := bs.length) (size := 1) (cap := d) HRX.out (by rw [b8s_length, List.length_append]; have := HN2.out; omega)
      rw [if_neg hcn, Nat.mul_one, ← b8s_drop, List.drop_left] at hd
      exact hd
    refine (read_any _ (opB o) _ _ w7 (by have := HN2.out; omega) hrd (by omega)).mono ?_
    rintro e w8 ⟨rd, rfl, hrd2, hb8, hm8⟩
    have HB8 := Lib.hid (HB7.out.trans (hb8.mono (Nat.le_of_lt HL7.out)))
    have hr8 := (hb8.block _ HL7.out).trans HR7.out
    have hgr : g < rd := Nat.lt_of_lt_of_le HL7.out hrd2
    clear hb8 hrd
    go_wp2_with fail
    refine wp_region_sched (fun w' => w'.heap[g]? = some (.cells o.cells.toArray 33 (0, 0)))
      [(true, 0), (true, 2), (false, 1), (false, 3), (true, 4), (true, 5), (false, 6), (true, 7), (true, 8)] (by kernel_rfl) (by kernel_rfl) rfl (by kernel_rfl) hr8 ?_
    (first | (refine wpS_pass _ rfl (by rfl) ?_; simp only [Act.put, List.getElem_toArray, List.getElem_cons_zero, List.getElem_cons_succ, List.setIfInBounds_toArray, List.set_cons_zero, List.set_cons_succ]) | (refine wpS_take _ ?_ rfl (by rfl) ?_ ?_; rotate_left; (focus (intro w' hS'; (try dsimp only at hS'); (repeat (have hS1 := hS'.1; replace hS' := hS'.2)); go_simp; (try with_reducible rfl); done)); simp only [Act.put, List.getElem_toArray, List.getElem_cons_zero, List.getElem_cons_succ, List.setIfInBounds_toArray, List.set_cons_zero, List.set_cons_succ]))
    refine wpS_load _ rfl (by rfl) _ _ rfl _ _ rfl o.cells _ (fun w' hS' => range_of_row hS') Try.underlying33 rfl HIA.out ?_
    simp only [Act.put, List.getElem_toArray, List.getElem_cons_zero, List.getElem_cons_succ, List.setIfInBounds_toArray, List.set_cons_zero, List.set_cons_succ]
    refine wpS_do _ rfl (by rfl) (fun K hK => ?_)
    go_simp
    refine (get_any rd (some (opB o)) _ (hm8.below (Below.refl _ _).drew)).mono ?_
    rintro e w9 ⟨o', rfl, hin, heq, hm9, hg9⟩
    rw [getOp_back o HDL.out HGD.out] at heq hm9
    dsimp only at heq hm9
    have hB9 := bel_grown HB8.out.drew (Nat.le_of_lt (Array.getElem?_eq_some_iff.1 hr8).1) hg9 (Nat.le_of_lt hgr)
    have hr9 : w9.heap[g]? = some (.cells o.cells.toArray 33 (0, 0)) := (hg9.block _ (Array.getElem?_eq_some_iff.1 hr8).1 (fun e => by have := Option.some.inj e; omega)).trans hr8
    have hsame : sameO o' o = true := by
      have h1 : sameO o' o = sameO { o' with ov := .slice none 0 0 } o := rfl
      rw [h1, heq]
      exact same_o1 o
    refine hK.out _ _ hr9 (fun hS => ?_)
    clear hK hS
    refine wpS_do _ rfl (by rfl) (fun K hK => ?_)
    go_simp
    refine (opsame_any o' o w9 hin (HIN.out _ hB9)).mono ?_
    rintro e w10 ⟨rfl, hb10⟩
    rw [hsame]
    have hr10 := (hb10.block _ (Array.getElem?_eq_some_iff.1 hr9).1).trans hr9
    refine hK.out _ _ hr10 (fun hS => ?_)
    clear hK hS
    (repeat (first | (refine wpS_pass _ rfl (by rfl) ?_; simp only [Act.put, List.getElem_toArray, List.getElem_cons_zero, List.getElem_cons_succ, List.setIfInBounds_toArray, List.set_cons_zero, List.set_cons_succ]) | (refine wpS_take _ ?_ rfl (by rfl) ?_ ?_; rotate_left; (focus (intro w' hS'; (try dsimp only at hS'); (repeat (have hS1 := hS'.1; replace hS' := hS'.2)); go_simp; (try with_reducible rfl); done)); simp only [Act.put, List.getElem_toArray, List.getElem_cons_zero, List.getElem_cons_succ, List.setIfInBounds_toArray, List.set_cons_zero, List.set_cons_succ])))
    refine wpS_do _ rfl (by rfl) (fun K hK => ?_)
    go_simp
    refine (done_any rd (some []) w10 (hm9.below hb10)).mono ?_
    rintro e w11 ⟨rfl, rfl⟩
    refine hK.out _ _ hr10 (fun hS => ?_)
    clear hK hS
    (repeat (first | (refine wpS_pass _ rfl (by rfl) ?_; simp only [Act.put, List.getElem_toArray, List.getElem_cons_zero, List.getElem_cons_succ, List.setIfInBounds_toArray, List.set_cons_zero, List.set_cons_succ]) | (refine wpS_take _ ?_ rfl (by rfl) ?_ ?_; rotate_left; (focus (intro w' hS'; (try dsimp only at hS'); (repeat (have hS1 := hS'.1; replace hS' := hS'.2)); go_simp; (try with_reducible rfl); done)); simp only [Act.put, List.getElem_toArray, List.getElem_cons_zero, List.getElem_cons_succ, List.setIfInBounds_toArray, List.set_cons_zero, List.set_cons_succ])))
    refine wpS_done ?_
    go_wp2_with fail
    go_ret
    exact ⟨rfl, hB9.trans (hb10.mono (Nat.le_of_lt (Array.getElem?_eq_some_iff.1 hr9).1))⟩
end Go.Proofs.Ytabkgoandfpclaa
