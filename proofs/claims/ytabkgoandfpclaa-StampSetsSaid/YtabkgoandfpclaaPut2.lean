
/- stamp.Put. -/

import Derived.Test.YtabkgoandfpclaaPut1

import Derived.Test.YtabkgoandfpclaaOp3

namespace Go.Proofs.Ytabkgoandfpclaa

set_option linter.unusedVariables false

set_option linter.unusedSimpArgs false

open Go.RowKit

def stmsB (os : List Stm) : List UInt8 := os.flatMap stmB
def opB (o : OpM) : List UInt8 := numB (clampN o.kind) ++ stmB o.at_ ++ stmB o.node ++ (if o.kind = 1 then stmB o.par ++ textB o.name.data.toList else o.data ++ numB (clampN (o.os.length : Int)) ++ stmsB o.os)
def putB (o : OpM) : List UInt8 := if goodO o then opB o else []
theorem stmsB_len (os : List Stm) : (stmsB os).length ≤ 18 * os.length := by
  induction os with
  | nil => simp [stmsB]
  | cons s os ih =>
    have := stmB_len s
    simp [stmsB] at ih ⊢
    omega
theorem good_os {o : OpM} (h : goodO o = true) (hk : ¬ o.kind = 1) : o.os.length ≤ 64 := by
  unfold goodO at h
  rw [if_neg hk] at h
  split at h
  · simp [goodEdit] at h
    omega
  · simp at h
theorem good_nm {o : OpM} (h : goodO o = true) (hk : o.kind = 1) : o.name.size ≤ 60 := by
  unfold goodO at h
  rw [if_pos hk] at h
  simp [goodMove, nameS] at h
  omega

theorem Own8.trans' {N : Nat} {w0 w1 w2 : World} {v : Value} {zs : List UInt8} (hb : Below N w0 w1) (hN : N ≤ w1.heap.size) (h : Own8 w1.heap.size w1 w2 v zs) : Own8 N w0 w2 v zs := Own8.trans hb hN h

set_option maxRecDepth 100000 in
set_option maxHeartbeats 4000000 in
theorem put_move (v : Value) (bs : List UInt8) (o : OpM) (w : World) (hsl : Sl w v bs) (hm : bs.length ≤ 1099511600000) (h : OpIn w o) (k1 : o.kind = 1) :
    Calls Try.prog 22 #[v, o.val] w fun e w' => ∃ v', e = .returned v' ∧ Own8 w.heap.size w w' v' (bs ++ putB o) := by
  obtain ⟨W1, hW1⟩ : ∃ W1, w.alloc (.cells o.cells.toArray 33) = W1 := ⟨_, rfl⟩
  have hrow : W1.heap[w.heap.size]? = some (.cells o.cells.toArray 33 (0, 0)) := by rw [← hW1]; exact heap_alloc_new w _
  have hb1 : Below w.heap.size w W1 := by rw [← hW1]; exact (Below.refl _ _).alloc (Nat.le_refl _) _
  obtain ⟨g, hg⟩ : ∃ g, w.heap.size = g := ⟨_, rfl⟩
  rw [hg] at hrow hb1
  have HID := Lib.hid (info_data o.data h.len)
  have HR1 := Lib.hid hrow
  have HL1 := Lib.hid (Array.getElem?_eq_some_iff.1 hrow).1
  have HB1 := Lib.hid hb1
  have R1 := opRow_of hrow h.len
  have HL := Lib.hid h.len
  have HN := Lib.hid h.nm
  obtain ⟨A, c, hov, hrd, hcl, hcm⟩ := h.ov
  have HOV := Lib.hid hov
  have HRD : Hid (∀ W, Below g w W → Rd W A (stc o.os)) := Lib.hid (fun W hb => hrd.below (by rw [hg]; exact hb))
  have HIN : Hid (∀ W, Below g w W → OpIn W o) := Lib.hid (fun W hb => h.below (by rw [hg]; exact hb))
  unfold OpM.val
  have HSL : Hid (∀ W, Below g w W → Sl W v bs) := Lib.hid (fun W hb => hsl.below (by rw [hg]; exact hb))
  rw [hg]
  clear hsl hrow hb1 h hov hrd
  have HI : Hid ((Try.prog.info? 33).map (·.size) = some o.cells.toArray.size) := Lib.hid (by rw [List.size_toArray, o.cells_len HL.out]; exact info_op)
  have hrow1 := HR1.out
  have KK := Lib.hid k1
  clear k1
  go_enter Try.func22, Try.ntmps22
  go_wp2_with ((with_reducible (refine wpList_load_op 33 _ g o hrow1 Try.underlying33 rfl HI.out ?_ rfl ?_ ?_)); (exact rfl); (exact rfl))
  clear hg hW1 hrow1
  refine (good_any' o W1 (HIN.out _ HB1.out)).mono ?_
  rintro e w2 ⟨rfl, hb2⟩
  have HB2 := Lib.hid (HB1.out.trans (hb2.mono (Nat.le_of_lt HL1.out)))
  have hr2 := (hb2.block _ HL1.out).trans HR1.out
  have R2 := opRow_of hr2 HL.out
  have HR2 := Lib.hid hr2
  have HL2 := Lib.hid (Array.getElem?_eq_some_iff.1 hr2).1
  clear hb2 R1 hr2
  cases c1 : goodO o
  · go_wp2_with fail
    refine (clone_s v bs w2 (HSL.out _ HB2.out) (by omega)).mono ?_
    rintro e w3 ⟨v3, rfl, ho3⟩
    go_wp2_with fail
    go_ret
    refine ⟨_, rfl, ?_⟩
    unfold putB
    rw [c1]
    have := Own8.trans HB2.out (Nat.le_of_lt HL2.out) ho3
    simpa using this
  · have HG := Lib.hid c1
    clear c1
    have k0 := R2.kind
    go_wp2_with fail
    refine wp_region_sched (fun w' => Below w2.heap.size w2 w' ∧ w'.cell? ⟨g, 0, none⟩ = some (.int .i64 o.kind))
      [(true, 0), (true, 1), (true, 2), (true, 4), (true, 5), (true, 7), (true, 8), (false, 3), (false, 6), (false, 9), (true, 10)] (by kernel_rfl) (by kernel_rfl) rfl (by kernel_rfl) ⟨(Below.refl _ _).drew, k0⟩ ?_
    (repeat (first | (refine wpS_pass _ rfl (by rfl) ?_; simp only [Act.put, List.getElem_toArray, List.getElem_cons_zero, List.getElem_cons_succ, List.setIfInBounds_toArray, List.set_cons_zero, List.set_cons_succ]) | (refine wpS_take _ ?_ rfl (by rfl) ?_ ?_; rotate_left; (focus (intro w' hS'; (try dsimp only at hS'); (repeat (have hS1 := hS'.1; replace hS' := hS'.2)); go_simp; (try with_reducible rfl); done)); simp only [Act.put, List.getElem_toArray, List.getElem_cons_zero, List.getElem_cons_succ, List.setIfInBounds_toArray, List.set_cons_zero, List.set_cons_succ])))
    refine wpS_load_stm _ rfl (by rfl) _ _ rfl _ _ rfl o.at_ _ (fun w' hS' => range_below R2.at_ HL2.out hS'.1) Try.underlying23 rfl info_stm ?_
    simp only [Act.put, List.getElem_toArray, List.getElem_cons_zero, List.getElem_cons_succ, List.setIfInBounds_toArray, List.set_cons_zero, List.set_cons_succ]
    (repeat (first | (refine wpS_pass _ rfl (by rfl) ?_; simp only [Act.put, List.getElem_toArray, List.getElem_cons_zero, List.getElem_cons_succ, List.setIfInBounds_toArray, List.set_cons_zero, List.set_cons_succ]) | (refine wpS_take _ ?_ rfl (by rfl) ?_ ?_; rotate_left; (focus (intro w' hS'; (try dsimp only at hS'); (repeat (have hS1 := hS'.1; replace hS' := hS'.2)); go_simp; (try with_reducible rfl); done)); simp only [Act.put, List.getElem_toArray, List.getElem_cons_zero, List.getElem_cons_succ, List.setIfInBounds_toArray, List.set_cons_zero, List.set_cons_succ])))
    refine wpS_load_stm _ rfl (by rfl) _ _ rfl _ _ rfl o.node _ (fun w' hS' => range_below R2.node HL2.out hS'.1) Try.underlying23 rfl info_stm ?_
    simp only [Act.put, List.getElem_toArray, List.getElem_cons_zero, List.getElem_cons_succ, List.setIfInBounds_toArray, List.set_cons_zero, List.set_cons_succ]
    refine wpS_do _ rfl (by rfl) (fun K hK => ?_)
    go_simp
    refine (num_s v bs o.kind _ (HSL.out _ HB2.out.drew) (by omega)).mono ?_
    rintro e w3 ⟨v3, rfl, ho3⟩
    have hb3 : Below w2.heap.size w2 w3 := (Below.refl _ _).drew.trans ho3.bel
    refine hK.out _ _ ⟨hb3, cell_below k0 HL2.out hb3⟩ (fun hS => ?_)
    clear hK hS
    have l3 : (bs ++ numB (clampN o.kind)).length ≤ bs.length + 9 := by have := (numB_len o.kind).2; rw [List.length_append]; omega
    refine wpS_do _ rfl (by rfl) (fun K hK => ?_)
    go_simp
    refine (puts_any v3 _ o.at_ _ ho3.sl (by omega)).mono ?_
    rintro e w4 ⟨v4, rfl, ho4⟩
    have hb4 := hb3.trans (ho4.bel.mono hb3.size)
    refine hK.out _ _ ⟨hb4, cell_below k0 HL2.out hb4⟩ (fun hS => ?_)
    clear hK hS
    have l4 : (bs ++ numB (clampN o.kind) ++ stmB o.at_).length ≤ bs.length + 27 := by have := stmB_len o.at_; rw [List.length_append]; omega
    refine wpS_do _ rfl (by rfl) (fun K hK => ?_)
    go_simp
    refine (puts_any v4 _ o.node _ ho4.sl (by omega)).mono ?_
    rintro e w5 ⟨v5, rfl, ho5⟩
    have hb5 := hb4.trans (ho5.bel.mono hb4.size)
    refine hK.out _ _ ⟨hb5, cell_below k0 HL2.out hb5⟩ (fun hS => ?_)
    clear hK hS
    have l5 : (bs ++ numB (clampN o.kind) ++ stmB o.at_ ++ stmB o.node).length ≤ bs.length + 45 := by have := stmB_len o.node; rw [List.length_append]; omega
    have HO5 := Lib.hid (Own8.trans hb4 hb4.size ho5)
    obtain ⟨xs, hxs⟩ : ∃ xs, bs ++ numB (clampN o.kind) ++ stmB o.at_ ++ stmB o.node = xs := ⟨_, rfl⟩
    rw [hxs] at HO5 l5
    have HXS := Lib.hid hxs
    have HW5 := Lib.hid hb5
    have hr5 := (hb5.block _ HL2.out).trans HR2.out
    have R5 := opRow_of hr5 HL.out
    have HL5 := Lib.hid (Array.getElem?_eq_some_iff.1 hr5).1
    have HR5 := Lib.hid hr5
    have HB5 := Lib.hid (HB2.out.trans (hb5.mono (Nat.le_of_lt HL2.out)))
    clear hb5 ho5 hb4 ho4 hb3 ho3 l3 l4 R2 k0 hr5 hxs
    have k0 := R5.kind
    (repeat (first | (refine wpS_pass _ rfl (by rfl) ?_; simp only [Act.put, List.getElem_toArray, List.getElem_cons_zero, List.getElem_cons_succ, List.setIfInBounds_toArray, List.set_cons_zero, List.set_cons_succ]) | (refine wpS_take _ ?_ rfl (by rfl) ?_ ?_; rotate_left; (focus (intro w' hS'; (try dsimp only at hS'); (repeat (have hS1 := hS'.1; replace hS' := hS'.2)); go_simp; (try with_reducible rfl); done)); simp only [Act.put, List.getElem_toArray, List.getElem_cons_zero, List.getElem_cons_succ, List.setIfInBounds_toArray, List.set_cons_zero, List.set_cons_succ])))
    refine wpS_done ?_
    have k1 := KK.out
    have d1 : (o.kind == 1) = true := by rw [k1]; rfl
    have K1 := Lib.hid k1
    have ln := good_nm HG.out k1
    clear k1
    have k4 := R5.name
    go_wp2_with fail
    refine wp_region_sched (fun w' => Below w5.heap.size w5 w' ∧ w'.cell? ⟨g, 7, none⟩ = some (.string o.name))
      [(true, 0), (true, 1), (true, 2), (true, 4), (true, 5), (false, 3), (false, 6), (true, 7)] (by kernel_rfl) (by kernel_rfl) rfl (by kernel_rfl) ⟨(Below.refl _ _).drew, k4⟩ ?_
    (repeat (first | (refine wpS_pass _ rfl (by rfl) ?_; simp only [Act.put, List.getElem_toArray, List.getElem_cons_zero, List.getElem_cons_succ, List.setIfInBounds_toArray, List.set_cons_zero, List.set_cons_succ]) | (refine wpS_take _ ?_ rfl (by rfl) ?_ ?_; rotate_left; (focus (intro w' hS'; (try dsimp only at hS'); (repeat (have hS1 := hS'.1; replace hS' := hS'.2)); go_simp; (try with_reducible rfl); done)); simp only [Act.put, List.getElem_toArray, List.getElem_cons_zero, List.getElem_cons_succ, List.setIfInBounds_toArray, List.set_cons_zero, List.set_cons_succ])))
    refine wpS_load_stm _ rfl (by rfl) _ _ rfl _ _ rfl o.par _ (fun w' hS' => range_below R5.par HL5.out hS'.1) Try.underlying23 rfl info_stm ?_
    simp only [Act.put, List.getElem_toArray, List.getElem_cons_zero, List.getElem_cons_succ, List.setIfInBounds_toArray, List.set_cons_zero, List.set_cons_succ]
    (repeat (first | (refine wpS_pass _ rfl (by rfl) ?_; simp only [Act.put, List.getElem_toArray, List.getElem_cons_zero, List.getElem_cons_succ, List.setIfInBounds_toArray, List.set_cons_zero, List.set_cons_succ]) | (refine wpS_take _ ?_ rfl (by rfl) ?_ ?_; rotate_left; (focus (intro w' hS'; (try dsimp only at hS'); (repeat (have hS1 := hS'.1; replace hS' := hS'.2)); go_simp; (try with_reducible rfl); done)); simp only [Act.put, List.getElem_toArray, List.getElem_cons_zero, List.getElem_cons_succ, List.setIfInBounds_toArray, List.set_cons_zero, List.set_cons_succ])))
    refine wpS_do _ rfl (by rfl) (fun K hK => ?_)
    go_simp
    refine (puts_any v5 xs o.par _ (HO5.out.sl.below (Below.refl _ _).drew) (by omega)).mono ?_
    rintro e w6 ⟨v6, rfl, ho6⟩
    have hb6 : Below w5.heap.size w5 w6 := (Below.refl _ _).drew.trans ho6.bel
    refine hK.out _ _ ⟨hb6, cell_below k4 HL5.out hb6⟩ (fun hS => ?_)
    clear hK hS
    refine wpS_do _ rfl (by rfl) (fun K hK => ?_)
    go_simp
    refine (text_s v6 _ o.name _ ho6.sl (by have := stmB_len o.par; rw [List.length_append]; omega) (by omega)).mono ?_
    rintro e w7 ⟨v7, rfl, ho7⟩
    have hb7 := hb6.trans (ho7.bel.mono hb6.size)
    refine hK.out _ _ ⟨hb7, cell_below k4 HL5.out hb7⟩ (fun hS => ?_)
    clear hK hS
    (repeat (first | (refine wpS_pass _ rfl (by rfl) ?_; simp only [Act.put, List.getElem_toArray, List.getElem_cons_zero, List.getElem_cons_succ, List.setIfInBounds_toArray, List.set_cons_zero, List.set_cons_succ]) | (refine wpS_take _ ?_ rfl (by rfl) ?_ ?_; rotate_left; (focus (intro w' hS'; (try dsimp only at hS'); (repeat (have hS1 := hS'.1; replace hS' := hS'.2)); go_simp; (try with_reducible rfl); done)); simp only [Act.put, List.getElem_toArray, List.getElem_cons_zero, List.getElem_cons_succ, List.setIfInBounds_toArray, List.set_cons_zero, List.set_cons_succ])))
    refine wpS_done ?_
    go_wp2_with fail
    go_ret
    refine ⟨v7, rfl, ?_⟩
    have hfin := Own8.trans (HB5.out.trans (hb6.mono (Nat.le_of_lt HL5.out))) (Nat.le_trans (Nat.le_of_lt HL5.out) hb6.size) ho7
    have e1 : bs ++ putB o = xs ++ stmB o.par ++ textB o.name.data.toList := by
      rw [← HXS.out]
      unfold putB opB
      rw [HG.out, if_pos rfl, if_pos K1.out]
      simp only [List.append_assoc]
    rw [e1]
    exact hfin
end Go.Proofs.Ytabkgoandfpclaa
