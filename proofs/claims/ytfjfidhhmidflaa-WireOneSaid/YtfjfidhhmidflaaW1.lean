
/- WireOne: the walk. (Printed by wip/genW1.py.) -/

import Derived.Test.YtfjfidhhmidflaaLet21

namespace Go.Proofs.Ytfjfidhhmidflaa

set_option linter.unusedVariables false

set_option linter.unusedSimpArgs false

open Go.RowKit

def total64 (l : Lt) : Prop := -9223372036854775808 ≤ l.total ∧ l.total ≤ 9223372036854775807
def id1 : List UInt8 := 1 :: List.replicate 31 0
/-- a letter with a field that its kind does not name -/
def turnL (a : Lt) : Lt :=
  if a.kind = 1 ∨ a.kind = 2 then ⟨a.kind, a.from_, a.to_, a.session, a.refs, a.wants, a.haves, 1, a.total, a.pack, a.data⟩
  else if a.kind = 3 then ⟨a.kind, a.from_, a.to_, a.session, a.refs, a.wants, a.haves, a.off, 1, a.pack, a.data⟩
  else ⟨a.kind, a.from_, a.to_, a.session, a.refs, [id1], a.haves, a.off, a.total, a.pack, a.data⟩
theorem turnL_bad (a : Lt) (h : rightL a = true) : rightL (turnL a) = false := by
  cases hr : rightL (turnL a)
  · rfl
  · exfalso
    have hb := (rightL_parts hr).2.1
    rcases right_kind h with hk | hk | hk | hk
    · have e : turnL a = ⟨a.kind, a.from_, a.to_, a.session, a.refs, a.wants, a.haves, 1, a.total, a.pack, a.data⟩ := by unfold turnL; rw [if_pos (.inl hk)]
      have := congrArg Lt.off hb
      rw [e] at this
      unfold bareL base0 at this
      simp [hk] at this
    · have e : turnL a = ⟨a.kind, a.from_, a.to_, a.session, a.refs, a.wants, a.haves, 1, a.total, a.pack, a.data⟩ := by unfold turnL; rw [if_pos (.inr hk)]
      have := congrArg Lt.off hb
      rw [e] at this
      unfold bareL base0 at this
      simp [hk] at this
    · have e : turnL a = ⟨a.kind, a.from_, a.to_, a.session, a.refs, a.wants, a.haves, a.off, 1, a.pack, a.data⟩ := by unfold turnL; rw [if_neg (by omega), if_pos hk]
      have := congrArg Lt.total hb
      rw [e] at this
      unfold bareL base0 at this
      simp [hk] at this
    · have e : turnL a = ⟨a.kind, a.from_, a.to_, a.session, a.refs, [id1], a.haves, a.off, a.total, a.pack, a.data⟩ := by unfold turnL; rw [if_neg (by omega), if_neg (by omega)]
      have := congrArg Lt.wants hb
      rw [e] at this
      unfold bareL base0 at this
      simp [hk] at this
theorem same_write {a b : Lt} (ha : rightL a = true) (hb : rightL b = true) (hoa : LtOk a) (hob : LtOk b) : decide (writeB a = writeB b) = sameL a b := by
  by_cases h : a = b
  · subst h
    rw [(sameL_iff a a).2 rfl]
    simp
  · have h1 : ¬ writeB a = writeB b := fun e => h (write_inj ha hb hoa hob e)
    rw [decide_eq_false h1]
    cases hs : sameL a b
    · rfl
    · exact absurd ((sameL_iff a b).1 hs) h
theorem sameL_self (a : Lt) : sameL a a = true := (sameL_iff a a).2 rfl

/-- Write, of whatever letter: it returns a pair -/
theorem write_q (l : Lt) (p : LtP) (w : World) (hin : LtIn w l p) (ht : total64 l) : Calls Try.prog 9 #[l.val p] w fun e w' => ∃ v, ∃ ec : Int, e = .returned (.tuple #[v, .int .i64 ec]) ∧ Below w.heap.size w w' := by
  cases hr : rightL l
  · refine (write_bad l p w hin ht hr).mono ?_
    rintro e w' ⟨rfl, hb⟩
    exact ⟨_, 1, rfl, hb⟩
  · refine (write_ok l p w hin ht hr).mono ?_
    rintro e w' ⟨v, rfl, _, hb⟩
    exact ⟨v, 0, rfl, hb⟩

set_option maxRecDepth 100000 in
set_option maxHeartbeats 8000000 in
theorem wireOne_no (a b : Lt) (p q : LtP) (w : World) (ha : LtIn w a p) (hb : LtIn w b q) (hta : total64 a) (htb : total64 b) (ra : rightL a = false) :
    Calls Try.prog 7 #[a.val p, b.val q] w fun e w' => e = .returned (.bool true) ∧ Below w.heap.size w w' := by
  obtain ⟨W1, W2, g, g', hg, hg', hW1, hW2, HGS, HRA, HRB, HB2⟩ := two_lets (w := w) 28 a b p q ha.len hb.len
  have HIA := Lib.hid (ha.below (hg ▸ HB2.out))
  have HIB := Lib.hid (hb.below (hg ▸ HB2.out))
  have HLA := Lib.hid ha.len
  have HLB := Lib.hid hb.len
  have HTA := Lib.hid hta
  have HTB := Lib.hid htb
  have HFA : Hid (∀ W, Below W2.heap.size W2 W → W.heap[g]? = some (.cells (a.cells p).toArray 28 (0, 0))) := Lib.hid (fun W h => (h.block g HGS.out.1).trans HRA.out)
  have HFB : Hid (∀ W, Below W2.heap.size W2 W → W.heap[g']? = some (.cells (b.cells q).toArray 28 (0, 0))) := Lib.hid (fun W h => (h.block g' HGS.out.2.1).trans HRB.out)
  have HBW : Hid (∀ W, Below W2.heap.size W2 W → Below g w W) := Lib.hid (fun W h => HB2.out.trans (h.mono HGS.out.2.2.2))
  have HIL := Lib.hid (info_leta a p ha.len)
  have HIM := Lib.hid (info_leta b q hb.len)
  have HOL := Lib.hid (all_oneCell_toArray (a.cells_one p))
  have HR := Lib.hid (ra)
  unfold Lt.val
  rw [hg]
  clear ha hb hta htb ra
  go_enter Try.func7, Try.ntmps7
  go_wp2_with fail
  clear hg hg' hW1 hW2
  refine (alive_any W2).mono ?_
  rintro e w3 ⟨rfl, hb3⟩
  have HB3 := Lib.hid hb3
  have HR3 := Lib.hid (HFA.out _ hb3)
  have HIA3 := Lib.hid (HIA.out.below hb3)
  clear hb3
  go_wp2_with ((with_reducible (refine wpList_load_row_w _ _ rfl _ rfl _ _ _ _ HR3.out Try.underlying28 rfl HIL.out ?_ ?_)); (focus (rfl)))
  refine (write_bad a p w3 HIA3.out HTA.out HR.out).mono ?_
  rintro e w4 ⟨rfl, hb4⟩
  have HB4 := Lib.hid (ext_trans HB3.out hb4)
  have HR4 := Lib.hid (HFB.out _ HB4.out)
  have HIB4 := Lib.hid (HIB.out.below HB4.out)
  clear hb4
  go_wp2_with ((with_reducible (refine wpList_load_row_w _ _ rfl _ rfl _ _ _ _ HR4.out Try.underlying28 rfl HIM.out ?_ ?_)); (focus (rfl)))
  refine (write_q b q w4 HIB4.out HTB.out).mono ?_
  rintro e w5 ⟨v5, ec, rfl, hb5⟩
  have HB5 := Lib.hid (ext_trans HB4.out hb5)
  clear hb5
  go_wp2_with fail
  refine wp_region_sched (fun w' => Below W2.heap.size W2 w') [(true, 0), (true, 1), (true, 2), (true, 3), (true, 4), (true, 5), (true, 6), (true, 7), (true, 8), (true, 10), (true, 11), (false, 9), (false, 12), (true, 13), (true, 14)] (by kernel_rfl) (by kernel_rfl) rfl (by kernel_rfl) HB5.out.drew ?_
  (repeat (first | (refine wpS_pass _ rfl (by rfl) ?_; simp only [Act.put, List.getElem_toArray, List.getElem_cons_zero, List.getElem_cons_succ, List.setIfInBounds_toArray, List.set_cons_zero, List.set_cons_succ]) | (refine wpS_take _ ?_ rfl (by rfl) ?_ ?_; rotate_left; (focus (intro w' hS'; (try dsimp only at hS'); (repeat (have hS1 := hS'.1; replace hS' := hS'.2)); go_simp; (try with_reducible rfl); done)); simp only [Act.put, List.getElem_toArray, List.getElem_cons_zero, List.getElem_cons_succ, List.setIfInBounds_toArray, List.set_cons_zero, List.set_cons_succ])))
  refine wpS_skip _ rfl (by rfl) HB5.out.drew ?_
  simp only [Act.put, List.getElem_toArray, List.getElem_cons_zero, List.getElem_cons_succ, List.setIfInBounds_toArray, List.set_cons_zero, List.set_cons_succ]
  (repeat (first | (refine wpS_pass _ rfl (by rfl) ?_; simp only [Act.put, List.getElem_toArray, List.getElem_cons_zero, List.getElem_cons_succ, List.setIfInBounds_toArray, List.set_cons_zero, List.set_cons_succ]) | (refine wpS_take _ ?_ rfl (by rfl) ?_ ?_; rotate_left; (focus (intro w' hS'; (try dsimp only at hS'); (repeat (have hS1 := hS'.1; replace hS' := hS'.2)); go_simp; (try with_reducible rfl); done)); simp only [Act.put, List.getElem_toArray, List.getElem_cons_zero, List.getElem_cons_succ, List.setIfInBounds_toArray, List.set_cons_zero, List.set_cons_succ])))
  refine wpS_skip _ rfl (by rfl) HB5.out.drew ?_
  simp only [Act.put, List.getElem_toArray, List.getElem_cons_zero, List.getElem_cons_succ, List.setIfInBounds_toArray, List.set_cons_zero, List.set_cons_succ]
  (repeat (first | (refine wpS_pass _ rfl (by rfl) ?_; simp only [Act.put, List.getElem_toArray, List.getElem_cons_zero, List.getElem_cons_succ, List.setIfInBounds_toArray, List.set_cons_zero, List.set_cons_succ]) | (refine wpS_take _ ?_ rfl (by rfl) ?_ ?_; rotate_left; (focus (intro w' hS'; (try dsimp only at hS'); (repeat (have hS1 := hS'.1; replace hS' := hS'.2)); go_simp; (try with_reducible rfl); done)); simp only [Act.put, List.getElem_toArray, List.getElem_cons_zero, List.getElem_cons_succ, List.setIfInBounds_toArray, List.set_cons_zero, List.set_cons_succ])))
  refine wpS_done ?_
  have HB7 : Hid (Below W2.heap.size W2 w5.drew) := Lib.hid HB5.out.drew
  generalize w5.drew = w7 at *
  have HR7 := Lib.hid (HFA.out _ HB7.out)
  have HIA7 := Lib.hid (HIA.out.below HB7.out)
  go_wp2_with ((with_reducible (refine wpList_load_row_w _ _ rfl _ rfl _ _ _ _ HR7.out Try.underlying28 rfl HIL.out ?_ ?_)); (focus (rfl)))
  refine (lright_any a p w7 HIA7.out HTA.out).mono ?_
  rintro e w8 ⟨rfl, hb8⟩
  rw [HR.out]
  go_wp2_with fail
  go_ret
  exact ⟨rfl, HBW.out _ (ext_trans HB7.out hb8)⟩

set_option maxRecDepth 100000 in
set_option maxHeartbeats 8000000 in
theorem wireOne_1t (a b : Lt) (p q : LtP) (w : World) (ha : LtIn w a p) (hb : LtIn w b q) (hta : total64 a) (htb : total64 b) (ra : rightL a = true) (rb : rightL b = true) (hk : a.kind = 1) :
    Calls Try.prog 7 #[a.val p, b.val q] w fun e w' => e = .returned (.bool true) ∧ Below w.heap.size w w' := by
  obtain ⟨W1, W2, g, g', hg, hg', hW1, hW2, HGS, HRA, HRB, HB2⟩ := two_lets (w := w) 28 a b p q ha.len hb.len
  have HIA := Lib.hid (ha.below (hg ▸ HB2.out))
  have HIB := Lib.hid (hb.below (hg ▸ HB2.out))
  have HLA := Lib.hid ha.len
  have HLB := Lib.hid hb.len
  have HTA := Lib.hid hta
  have HTB := Lib.hid htb
  have HFA : Hid (∀ W, Below W2.heap.size W2 W → W.heap[g]? = some (.cells (a.cells p).toArray 28 (0, 0))) := Lib.hid (fun W h => (h.block g HGS.out.1).trans HRA.out)
  have HFB : Hid (∀ W, Below W2.heap.size W2 W → W.heap[g']? = some (.cells (b.cells q).toArray 28 (0, 0))) := Lib.hid (fun W h => (h.block g' HGS.out.2.1).trans HRB.out)
  have HBW : Hid (∀ W, Below W2.heap.size W2 W → Below g w W) := Lib.hid (fun W h => HB2.out.trans (h.mono HGS.out.2.2.2))
  have HIL := Lib.hid (info_leta a p ha.len)
  have HIM := Lib.hid (info_leta b q hb.len)
  have HOL := Lib.hid (all_oneCell_toArray (a.cells_one p))
  have HR := Lib.hid (And.intro ra rb)
  have HK := Lib.hid hk
  clear hk
  unfold Lt.val
  rw [hg]
  clear ha hb hta htb ra rb
  go_enter Try.func7, Try.ntmps7
  go_wp2_with fail
  clear hg hg' hW1 hW2
  refine (alive_any W2).mono ?_
  rintro e w3 ⟨rfl, hb3⟩
  have HB3 := Lib.hid hb3
  have HR3 := Lib.hid (HFA.out _ hb3)
  have HIA3 := Lib.hid (HIA.out.below hb3)
  clear hb3
  go_wp2_with ((with_reducible (refine wpList_load_row_w _ _ rfl _ rfl _ _ _ _ HR3.out Try.underlying28 rfl HIL.out ?_ ?_)); (focus (rfl)))
  refine (write_ok a p w3 HIA3.out HTA.out HR.out.1).mono ?_
  rintro e w4 ⟨v4, rfl, hs4, hb4⟩
  have HB4 := Lib.hid (ext_trans HB3.out hb4)
  have HS4 := Lib.hid hs4
  have HR4 := Lib.hid (HFB.out _ HB4.out)
  have HIB4 := Lib.hid (HIB.out.below HB4.out)
  clear hs4 hb4
  go_wp2_with ((with_reducible (refine wpList_load_row_w _ _ rfl _ rfl _ _ _ _ HR4.out Try.underlying28 rfl HIM.out ?_ ?_)); (focus (rfl)))
  refine (write_ok b q w4 HIB4.out HTB.out HR.out.2).mono ?_
  rintro e w5 ⟨v5, rfl, hs5, hb5⟩
  have HB5 := Lib.hid (ext_trans HB4.out hb5)
  have HS5 := Lib.hid hs5
  have HS45 := Lib.hid (HS4.out.below hb5)
  clear hs5 hb5
  go_wp2_with fail
  have HIL2 := Lib.hid (info_let a p HLA.out)
  have HIM2 := Lib.hid (info_let b q HLB.out)
  refine wp_region_sched (fun w' => Below W2.heap.size W2 w') [(true, 0), (true, 1), (true, 2), (true, 3), (true, 4), (true, 5), (true, 6), (true, 7), (true, 8), (true, 10), (true, 11), (false, 9), (false, 12), (true, 13), (true, 14)] (by kernel_rfl) (by kernel_rfl) rfl (by kernel_rfl) HB5.out.drew ?_
  (repeat (first | (refine wpS_pass _ rfl (by rfl) ?_; simp only [Act.put, List.getElem_toArray, List.getElem_cons_zero, List.getElem_cons_succ, List.setIfInBounds_toArray, List.set_cons_zero, List.set_cons_succ]) | (refine wpS_take _ ?_ rfl (by rfl) ?_ ?_; rotate_left; (focus (intro w' hS'; (try dsimp only at hS'); (repeat (have hS1 := hS'.1; replace hS' := hS'.2)); go_simp; (try with_reducible rfl); done)); simp only [Act.put, List.getElem_toArray, List.getElem_cons_zero, List.getElem_cons_succ, List.setIfInBounds_toArray, List.set_cons_zero, List.set_cons_succ])))
  refine wpS_load _ rfl (by rfl) _ _ rfl g 0 rfl (a.cells p) _ (fun w' hS' => range_of_row (HFA.out w' hS')) Try.underlying28 rfl HIL2.out ?_
  simp only [Act.put, List.getElem_toArray, List.getElem_cons_zero, List.getElem_cons_succ, List.setIfInBounds_toArray, List.set_cons_zero, List.set_cons_succ]
  refine wpS_load _ rfl (by rfl) _ _ rfl g' 0 rfl (b.cells q) _ (fun w' hS' => range_of_row (HFB.out w' hS')) Try.underlying28 rfl HIM2.out ?_
  simp only [Act.put, List.getElem_toArray, List.getElem_cons_zero, List.getElem_cons_succ, List.setIfInBounds_toArray, List.set_cons_zero, List.set_cons_succ]
  refine wpS_do _ rfl (by rfl) (fun K hK => ?_)
  go_simp
  refine (same_s v4 v5 _ _ _ (HS45.out.below (Below.refl _ _).drew) (HS5.out.below (Below.refl _ _).drew)).mono ?_
  rintro e w6 ⟨rfl, hb6⟩
  have HB6 : Hid (Below W2.heap.size W2 w6) := Lib.hid (ext_trans HB5.out ((Below.refl _ _).drew.trans hb6))
  refine hK.out _ _ HB6.out (fun hS => ?_)
  clear hK hS hb6
  refine wpS_do _ rfl (by rfl) (fun K hK => ?_)
  go_simp
  refine (lsame_any a b p q w6 (HIA.out.below HB6.out) (HIB.out.below HB6.out)).mono ?_
  rintro e w7 ⟨rfl, hb7⟩
  have HB7 : Hid (Below W2.heap.size W2 w7) := Lib.hid (ext_trans HB6.out hb7)
  refine hK.out _ _ HB7.out (fun hS => ?_)
  clear hK hS hb7
  rw [same_write HR.out.1 HR.out.2 HIA.out.lok HIB.out.lok]
  have hbb : (sameL a b != sameL a b) = false := by cases sameL a b <;> rfl
  (repeat (first | (refine wpS_pass _ rfl (by rfl) ?_; simp only [Act.put, List.getElem_toArray, List.getElem_cons_zero, List.getElem_cons_succ, List.setIfInBounds_toArray, List.set_cons_zero, List.set_cons_succ]) | (refine wpS_take _ ?_ rfl (by rfl) ?_ ?_; rotate_left; (focus (intro w' hS'; (try dsimp only at hS'); (repeat (have hS1 := hS'.1; replace hS' := hS'.2)); go_simp; (try with_reducible rfl); done)); simp only [Act.put, List.getElem_toArray, List.getElem_cons_zero, List.getElem_cons_succ, List.setIfInBounds_toArray, List.set_cons_zero, List.set_cons_succ])))
  refine wpS_done ?_
  clear hbb
  have HR7 := Lib.hid (HFA.out _ HB7.out)
  have HIA7 := Lib.hid (HIA.out.below HB7.out)
  obtain ⟨W8, hW8⟩ : ∃ W, w7.alloc (.cells #[Value.int .i64 0, Value.int .i64 0, Value.int .i64 0, Value.int .i64 0, Value.slice none 0 0, Value.slice none 0 0, Value.slice none 0 0, Value.int .i64 0, Value.int .i64 0, Value.int .u8 0, Value.int .u8 0, Value.int .u8 0, Value.int .u8 0, Value.int .u8 0, Value.int .u8 0, Value.int .u8 0, Value.int .u8 0, Value.int .u8 0, Value.int .u8 0, Value.int .u8 0, Value.int .u8 0, Value.int .u8 0, Value.int .u8 0, Value.int .u8 0, Value.int .u8 0, Value.int .u8 0, Value.int .u8 0, Value.int .u8 0, Value.int .u8 0, Value.int .u8 0, Value.int .u8 0, Value.int .u8 0, Value.int .u8 0, Value.int .u8 0, Value.int .u8 0, Value.int .u8 0, Value.int .u8 0, Value.int .u8 0, Value.int .u8 0, Value.int .u8 0, Value.int .u8 0, Value.slice none 0 0] 28) = W := ⟨_, rfl⟩
  obtain ⟨q8, b8, s8⟩ := new_row hW8
  rw [← lt0_cells] at q8
  obtain ⟨g9, hg9⟩ : ∃ g, w7.heap.size = g := ⟨_, rfl⟩
  rw [hg9] at q8
  obtain ⟨W9, hW9, HTH, HR9, HB9, _, _⟩ := let_write (q := p) (m := a) q8 rfl HLA.out b8 b8.size (Nat.le_of_eq hg9)
  have HW9 := Lib.hid hW9
  have HB9' : Hid (Below w7.heap.size w7 W9) := HB9
  have HIA9 := Lib.hid (HIA7.out.below HB9'.out)
  have HRA9 := Lib.hid ((HB9'.out.block g (Array.getElem?_eq_some_iff.1 HR7.out).1).trans HR7.out)
  obtain ⟨k0, _⟩ := ltRow_of HRA9.out HLA.out
  clear q8 b8 s8 hW9 HB9
  have HTU : Hid (turnL a = (⟨a.kind, a.from_, a.to_, a.session, a.refs, a.wants, a.haves, 1, a.total, a.pack, a.data⟩ : Lt)) := Lib.hid (by unfold turnL; rw [if_pos (.inl HK.out)])
  have hgr := grown_set (w := W9) g9 7 (.int .i64 1)
  have hrt := row_off HR9.out 1
  obtain ⟨_, _, _, _, _, _, _, c7, _⟩ := ltRow_of HR9.out HLA.out
  have f7 := row_free HR9.out 7
  have htt : total64 (⟨a.kind, a.from_, a.to_, a.session, a.refs, a.wants, a.haves, 1, a.total, a.pack, a.data⟩ : Lt) := HTA.out
  have hbt : Below w7.heap.size w7 (W9.setCell ⟨g9, 7, none⟩ (.int .i64 1)) := bel_grown HB9'.out HB9'.out.size hgr (Nat.le_of_eq hg9)
  have hit : LtIn (W9.setCell ⟨g9, 7, none⟩ (.int .i64 1)) (⟨a.kind, a.from_, a.to_, a.session, a.refs, a.wants, a.haves, 1, a.total, a.pack, a.data⟩ : Lt) p := by
    have h := HIA7.out.below hbt
    exact ⟨h.len, h.rok, h.wok, h.hok, h.rr, h.wr, h.hr, h.dr⟩
  have hka := (hbt.block g (Array.getElem?_eq_some_iff.1 HR7.out).1).trans HR7.out
  obtain ⟨W10, hW10⟩ : ∃ W, W9.setCell ⟨g9, 7, none⟩ (.int .i64 1) = W := ⟨_, rfl⟩
  rw [hW10] at hrt hbt hit hka
  clear hgr
  have d1 : (a.kind == 1) = true := by rw [HK.out]; rfl
  have HFT := Lib.hid (turnL_bad a HR.out.1)
  rw [HTU.out] at HFT
  have HTT := Lib.hid htt
  have HRT := Lib.hid hrt
  have HIT := Lib.hid hit
  have HBT := Lib.hid hbt
  have HIQZ := Lib.hid (info_leta (⟨a.kind, a.from_, a.to_, a.session, a.refs, a.wants, a.haves, 1, a.total, a.pack, a.data⟩ : Lt) p hit.len)
  have HKA := Lib.hid (hka : W10.heap[g]? = some (.cells (a.cells p).toArray 28 (0, 0)))
  clear htt hrt hit hbt hka
  go_wp2_with (first
    | ((with_reducible (refine wpList_load_row_w _ _ rfl _ rfl _ _ _ _ HR7.out Try.underlying28 rfl HIL.out ?_ ?_)); (focus (rfl)))
    | ((with_reducible (refine wpList_store_mid rfl _ _ _ rfl ?_ ?_ ?_ ?_ ?_ ?_ ?_ ?_ ?_)); (exact g9); (exact 0); (exact (a.cells p).toArray); (exact rfl); (exact rfl); (exact HTH.out); (exact HIL.out); (exact HOL.out); rw [HW9.out])
    | ((with_reducible (refine wpList_load_row_w _ _ rfl _ rfl _ _ _ _ HRT.out Try.underlying28 rfl HIQZ.out ?_ ?_)); (focus (rfl))))
  refine (write_bad (⟨a.kind, a.from_, a.to_, a.session, a.refs, a.wants, a.haves, 1, a.total, a.pack, a.data⟩ : Lt) p W10 HIT.out HTT.out HFT.out).mono ?_
  rintro e w10 ⟨rfl, hb10⟩
  have HR10 := Lib.hid ((hb10.block g (Array.getElem?_eq_some_iff.1 HKA.out).1).trans HKA.out)
  have HB10 := Lib.hid (ext_trans HB7.out (ext_trans HBT.out hb10))
  have HIA10 := Lib.hid (HIA.out.below HB10.out)
  clear hb10
  go_wp2_with ((with_reducible (refine wpList_load_row_w _ _ rfl _ rfl _ _ _ _ HR10.out Try.underlying28 rfl HIL.out ?_ ?_)); (focus (rfl)))
  refine (lsame_any a a p p w10 HIA10.out HIA10.out).mono ?_
  rintro e w11 ⟨rfl, hb11⟩
  rw [sameL_self]
  go_wp2_with fail
  go_ret
  exact ⟨rfl, HBW.out _ (ext_trans HB10.out hb11)⟩

set_option maxRecDepth 100000 in
set_option maxHeartbeats 8000000 in
theorem wireOne_1f (a b : Lt) (p q : LtP) (w : World) (ha : LtIn w a p) (hb : LtIn w b q) (hta : total64 a) (htb : total64 b) (ra : rightL a = true) (rb : rightL b = false) (hk : a.kind = 1) :
    Calls Try.prog 7 #[a.val p, b.val q] w fun e w' => e = .returned (.bool true) ∧ Below w.heap.size w w' := by
  obtain ⟨W1, W2, g, g', hg, hg', hW1, hW2, HGS, HRA, HRB, HB2⟩ := two_lets (w := w) 28 a b p q ha.len hb.len
  have HIA := Lib.hid (ha.below (hg ▸ HB2.out))
  have HIB := Lib.hid (hb.below (hg ▸ HB2.out))
  have HLA := Lib.hid ha.len
  have HLB := Lib.hid hb.len
  have HTA := Lib.hid hta
  have HTB := Lib.hid htb
  have HFA : Hid (∀ W, Below W2.heap.size W2 W → W.heap[g]? = some (.cells (a.cells p).toArray 28 (0, 0))) := Lib.hid (fun W h => (h.block g HGS.out.1).trans HRA.out)
  have HFB : Hid (∀ W, Below W2.heap.size W2 W → W.heap[g']? = some (.cells (b.cells q).toArray 28 (0, 0))) := Lib.hid (fun W h => (h.block g' HGS.out.2.1).trans HRB.out)
  have HBW : Hid (∀ W, Below W2.heap.size W2 W → Below g w W) := Lib.hid (fun W h => HB2.out.trans (h.mono HGS.out.2.2.2))
  have HIL := Lib.hid (info_leta a p ha.len)
  have HIM := Lib.hid (info_leta b q hb.len)
  have HOL := Lib.hid (all_oneCell_toArray (a.cells_one p))
  have HR := Lib.hid (And.intro ra rb)
  have HK := Lib.hid hk
  clear hk
  unfold Lt.val
  rw [hg]
  clear ha hb hta htb ra rb
  go_enter Try.func7, Try.ntmps7
  go_wp2_with fail
  clear hg hg' hW1 hW2
  refine (alive_any W2).mono ?_
  rintro e w3 ⟨rfl, hb3⟩
  have HB3 := Lib.hid hb3
  have HR3 := Lib.hid (HFA.out _ hb3)
  have HIA3 := Lib.hid (HIA.out.below hb3)
  clear hb3
  go_wp2_with ((with_reducible (refine wpList_load_row_w _ _ rfl _ rfl _ _ _ _ HR3.out Try.underlying28 rfl HIL.out ?_ ?_)); (focus (rfl)))
  refine (write_ok a p w3 HIA3.out HTA.out HR.out.1).mono ?_
  rintro e w4 ⟨v4, rfl, hs4, hb4⟩
  have HB4 := Lib.hid (ext_trans HB3.out hb4)
  have HS4 := Lib.hid hs4
  have HR4 := Lib.hid (HFB.out _ HB4.out)
  have HIB4 := Lib.hid (HIB.out.below HB4.out)
  clear hs4 hb4
  go_wp2_with ((with_reducible (refine wpList_load_row_w _ _ rfl _ rfl _ _ _ _ HR4.out Try.underlying28 rfl HIM.out ?_ ?_)); (focus (rfl)))
  refine (write_bad b q w4 HIB4.out HTB.out HR.out.2).mono ?_
  rintro e w5 ⟨rfl, hb5⟩
  have HB5 := Lib.hid (ext_trans HB4.out hb5)
  clear hb5
  go_wp2_with fail
  refine wp_region_sched (fun w' => Below W2.heap.size W2 w') [(true, 0), (true, 1), (true, 2), (true, 3), (true, 4), (true, 5), (true, 6), (true, 7), (true, 8), (true, 10), (true, 11), (false, 9), (false, 12), (true, 13), (true, 14)] (by kernel_rfl) (by kernel_rfl) rfl (by kernel_rfl) HB5.out.drew ?_
  (repeat (first | (refine wpS_pass _ rfl (by rfl) ?_; simp only [Act.put, List.getElem_toArray, List.getElem_cons_zero, List.getElem_cons_succ, List.setIfInBounds_toArray, List.set_cons_zero, List.set_cons_succ]) | (refine wpS_take _ ?_ rfl (by rfl) ?_ ?_; rotate_left; (focus (intro w' hS'; (try dsimp only at hS'); (repeat (have hS1 := hS'.1; replace hS' := hS'.2)); go_simp; (try with_reducible rfl); done)); simp only [Act.put, List.getElem_toArray, List.getElem_cons_zero, List.getElem_cons_succ, List.setIfInBounds_toArray, List.set_cons_zero, List.set_cons_succ])))
  refine wpS_skip _ rfl (by rfl) HB5.out.drew ?_
  simp only [Act.put, List.getElem_toArray, List.getElem_cons_zero, List.getElem_cons_succ, List.setIfInBounds_toArray, List.set_cons_zero, List.set_cons_succ]
  (repeat (first | (refine wpS_pass _ rfl (by rfl) ?_; simp only [Act.put, List.getElem_toArray, List.getElem_cons_zero, List.getElem_cons_succ, List.setIfInBounds_toArray, List.set_cons_zero, List.set_cons_succ]) | (refine wpS_take _ ?_ rfl (by rfl) ?_ ?_; rotate_left; (focus (intro w' hS'; (try dsimp only at hS'); (repeat (have hS1 := hS'.1; replace hS' := hS'.2)); go_simp; (try with_reducible rfl); done)); simp only [Act.put, List.getElem_toArray, List.getElem_cons_zero, List.getElem_cons_succ, List.setIfInBounds_toArray, List.set_cons_zero, List.set_cons_succ])))
  refine wpS_skip _ rfl (by rfl) HB5.out.drew ?_
  simp only [Act.put, List.getElem_toArray, List.getElem_cons_zero, List.getElem_cons_succ, List.setIfInBounds_toArray, List.set_cons_zero, List.set_cons_succ]
  (repeat (first | (refine wpS_pass _ rfl (by rfl) ?_; simp only [Act.put, List.getElem_toArray, List.getElem_cons_zero, List.getElem_cons_succ, List.setIfInBounds_toArray, List.set_cons_zero, List.set_cons_succ]) | (refine wpS_take _ ?_ rfl (by rfl) ?_ ?_; rotate_left; (focus (intro w' hS'; (try dsimp only at hS'); (repeat (have hS1 := hS'.1; replace hS' := hS'.2)); go_simp; (try with_reducible rfl); done)); simp only [Act.put, List.getElem_toArray, List.getElem_cons_zero, List.getElem_cons_succ, List.setIfInBounds_toArray, List.set_cons_zero, List.set_cons_succ])))
  refine wpS_done ?_
  have HB7 : Hid (Below W2.heap.size W2 w5.drew) := Lib.hid HB5.out.drew
  generalize w5.drew = w7 at *
  have HR7 := Lib.hid (HFA.out _ HB7.out)
  have HIA7 := Lib.hid (HIA.out.below HB7.out)
  obtain ⟨W8, hW8⟩ : ∃ W, w7.alloc (.cells #[Value.int .i64 0, Value.int .i64 0, Value.int .i64 0, Value.int .i64 0, Value.slice none 0 0, Value.slice none 0 0, Value.slice none 0 0, Value.int .i64 0, Value.int .i64 0, Value.int .u8 0, Value.int .u8 0, Value.int .u8 0, Value.int .u8 0, Value.int .u8 0, Value.int .u8 0, Value.int .u8 0, Value.int .u8 0, Value.int .u8 0, Value.int .u8 0, Value.int .u8 0, Value.int .u8 0, Value.int .u8 0, Value.int .u8 0, Value.int .u8 0, Value.int .u8 0, Value.int .u8 0, Value.int .u8 0, Value.int .u8 0, Value.int .u8 0, Value.int .u8 0, Value.int .u8 0, Value.int .u8 0, Value.int .u8 0, Value.int .u8 0, Value.int .u8 0, Value.int .u8 0, Value.int .u8 0, Value.int .u8 0, Value.int .u8 0, Value.int .u8 0, Value.int .u8 0, Value.slice none 0 0] 28) = W := ⟨_, rfl⟩
  obtain ⟨q8, b8, s8⟩ := new_row hW8
  rw [← lt0_cells] at q8
  obtain ⟨g9, hg9⟩ : ∃ g, w7.heap.size = g := ⟨_, rfl⟩
  rw [hg9] at q8
  obtain ⟨W9, hW9, HTH, HR9, HB9, _, _⟩ := let_write (q := p) (m := a) q8 rfl HLA.out b8 b8.size (Nat.le_of_eq hg9)
  have HW9 := Lib.hid hW9
  have HB9' : Hid (Below w7.heap.size w7 W9) := HB9
  have HIA9 := Lib.hid (HIA7.out.below HB9'.out)
  have HRA9 := Lib.hid ((HB9'.out.block g (Array.getElem?_eq_some_iff.1 HR7.out).1).trans HR7.out)
  obtain ⟨k0, _⟩ := ltRow_of HRA9.out HLA.out
  clear q8 b8 s8 hW9 HB9
  have HTU : Hid (turnL a = (⟨a.kind, a.from_, a.to_, a.session, a.refs, a.wants, a.haves, 1, a.total, a.pack, a.data⟩ : Lt)) := Lib.hid (by unfold turnL; rw [if_pos (.inl HK.out)])
  have hgr := grown_set (w := W9) g9 7 (.int .i64 1)
  have hrt := row_off HR9.out 1
  obtain ⟨_, _, _, _, _, _, _, c7, _⟩ := ltRow_of HR9.out HLA.out
  have f7 := row_free HR9.out 7
  have htt : total64 (⟨a.kind, a.from_, a.to_, a.session, a.refs, a.wants, a.haves, 1, a.total, a.pack, a.data⟩ : Lt) := HTA.out
  have hbt : Below w7.heap.size w7 (W9.setCell ⟨g9, 7, none⟩ (.int .i64 1)) := bel_grown HB9'.out HB9'.out.size hgr (Nat.le_of_eq hg9)
  have hit : LtIn (W9.setCell ⟨g9, 7, none⟩ (.int .i64 1)) (⟨a.kind, a.from_, a.to_, a.session, a.refs, a.wants, a.haves, 1, a.total, a.pack, a.data⟩ : Lt) p := by
    have h := HIA7.out.below hbt
    exact ⟨h.len, h.rok, h.wok, h.hok, h.rr, h.wr, h.hr, h.dr⟩
  have hka := (hbt.block g (Array.getElem?_eq_some_iff.1 HR7.out).1).trans HR7.out
  obtain ⟨W10, hW10⟩ : ∃ W, W9.setCell ⟨g9, 7, none⟩ (.int .i64 1) = W := ⟨_, rfl⟩
  rw [hW10] at hrt hbt hit hka
  clear hgr
  have d1 : (a.kind == 1) = true := by rw [HK.out]; rfl
  have HFT := Lib.hid (turnL_bad a HR.out.1)
  rw [HTU.out] at HFT
  have HTT := Lib.hid htt
  have HRT := Lib.hid hrt
  have HIT := Lib.hid hit
  have HBT := Lib.hid hbt
  have HIQZ := Lib.hid (info_leta (⟨a.kind, a.from_, a.to_, a.session, a.refs, a.wants, a.haves, 1, a.total, a.pack, a.data⟩ : Lt) p hit.len)
  have HKA := Lib.hid (hka : W10.heap[g]? = some (.cells (a.cells p).toArray 28 (0, 0)))
  clear htt hrt hit hbt hka
  go_wp2_with (first
    | ((with_reducible (refine wpList_load_row_w _ _ rfl _ rfl _ _ _ _ HR7.out Try.underlying28 rfl HIL.out ?_ ?_)); (focus (rfl)))
    | ((with_reducible (refine wpList_store_mid rfl _ _ _ rfl ?_ ?_ ?_ ?_ ?_ ?_ ?_ ?_ ?_)); (exact g9); (exact 0); (exact (a.cells p).toArray); (exact rfl); (exact rfl); (exact HTH.out); (exact HIL.out); (exact HOL.out); rw [HW9.out])
    | ((with_reducible (refine wpList_load_row_w _ _ rfl _ rfl _ _ _ _ HRT.out Try.underlying28 rfl HIQZ.out ?_ ?_)); (focus (rfl))))
  refine (write_bad (⟨a.kind, a.from_, a.to_, a.session, a.refs, a.wants, a.haves, 1, a.total, a.pack, a.data⟩ : Lt) p W10 HIT.out HTT.out HFT.out).mono ?_
  rintro e w10 ⟨rfl, hb10⟩
  have HR10 := Lib.hid ((hb10.block g (Array.getElem?_eq_some_iff.1 HKA.out).1).trans HKA.out)
  have HB10 := Lib.hid (ext_trans HB7.out (ext_trans HBT.out hb10))
  have HIA10 := Lib.hid (HIA.out.below HB10.out)
  clear hb10
  go_wp2_with ((with_reducible (refine wpList_load_row_w _ _ rfl _ rfl _ _ _ _ HR10.out Try.underlying28 rfl HIL.out ?_ ?_)); (focus (rfl)))
  refine (lsame_any a a p p w10 HIA10.out HIA10.out).mono ?_
  rintro e w11 ⟨rfl, hb11⟩
  rw [sameL_self]
  go_wp2_with fail
  go_ret
  exact ⟨rfl, HBW.out _ (ext_trans HB10.out hb11)⟩

set_option maxRecDepth 100000 in
set_option maxHeartbeats 8000000 in
theorem wireOne_2t (a b : Lt) (p q : LtP) (w : World) (ha : LtIn w a p) (hb : LtIn w b q) (hta : total64 a) (htb : total64 b) (ra : rightL a = true) (rb : rightL b = true) (hk : a.kind = 2) :
    Calls Try.prog 7 #[a.val p, b.val q] w fun e w' => e = .returned (.bool true) ∧ Below w.heap.size w w' := by
  obtain ⟨W1, W2, g, g', hg, hg', hW1, hW2, HGS, HRA, HRB, HB2⟩ := two_lets (w := w) 28 a b p q ha.len hb.len
  have HIA := Lib.hid (ha.below (hg ▸ HB2.out))
  have HIB := Lib.hid (hb.below (hg ▸ HB2.out))
  have HLA := Lib.hid ha.len
  have HLB := Lib.hid hb.len
  have HTA := Lib.hid hta
  have HTB := Lib.hid htb
  have HFA : Hid (∀ W, Below W2.heap.size W2 W → W.heap[g]? = some (.cells (a.cells p).toArray 28 (0, 0))) := Lib.hid (fun W h => (h.block g HGS.out.1).trans HRA.out)
  have HFB : Hid (∀ W, Below W2.heap.size W2 W → W.heap[g']? = some (.cells (b.cells q).toArray 28 (0, 0))) := Lib.hid (fun W h => (h.block g' HGS.out.2.1).trans HRB.out)
  have HBW : Hid (∀ W, Below W2.heap.size W2 W → Below g w W) := Lib.hid (fun W h => HB2.out.trans (h.mono HGS.out.2.2.2))
  have HIL := Lib.hid (info_leta a p ha.len)
  have HIM := Lib.hid (info_leta b q hb.len)
  have HOL := Lib.hid (all_oneCell_toArray (a.cells_one p))
  have HR := Lib.hid (And.intro ra rb)
  have HK := Lib.hid hk
  clear hk
  unfold Lt.val
  rw [hg]
  clear ha hb hta htb ra rb
  go_enter Try.func7, Try.ntmps7
  go_wp2_with fail
  clear hg hg' hW1 hW2
  refine (alive_any W2).mono ?_
  rintro e w3 ⟨rfl, hb3⟩
  have HB3 := Lib.hid hb3
  have HR3 := Lib.hid (HFA.out _ hb3)
  have HIA3 := Lib.hid (HIA.out.below hb3)
  clear hb3
  go_wp2_with ((with_reducible (refine wpList_load_row_w _ _ rfl _ rfl _ _ _ _ HR3.out Try.underlying28 rfl HIL.out ?_ ?_)); (focus (rfl)))
  refine (write_ok a p w3 HIA3.out HTA.out HR.out.1).mono ?_
  rintro e w4 ⟨v4, rfl, hs4, hb4⟩
  have HB4 := Lib.hid (ext_trans HB3.out hb4)
  have HS4 := Lib.hid hs4
  have HR4 := Lib.hid (HFB.out _ HB4.out)
  have HIB4 := Lib.hid (HIB.out.below HB4.out)
  clear hs4 hb4
  go_wp2_with ((with_reducible (refine wpList_load_row_w _ _ rfl _ rfl _ _ _ _ HR4.out Try.underlying28 rfl HIM.out ?_ ?_)); (focus (rfl)))
  refine (write_ok b q w4 HIB4.out HTB.out HR.out.2).mono ?_
  rintro e w5 ⟨v5, rfl, hs5, hb5⟩
  have HB5 := Lib.hid (ext_trans HB4.out hb5)
  have HS5 := Lib.hid hs5
  have HS45 := Lib.hid (HS4.out.below hb5)
  clear hs5 hb5
  go_wp2_with fail
  have HIL2 := Lib.hid (info_let a p HLA.out)
  have HIM2 := Lib.hid (info_let b q HLB.out)
  refine wp_region_sched (fun w' => Below W2.heap.size W2 w') [(true, 0), (true, 1), (true, 2), (true, 3), (true, 4), (true, 5), (true, 6), (true, 7), (true, 8), (true, 10), (true, 11), (false, 9), (false, 12), (true, 13), (true, 14)] (by kernel_rfl) (by kernel_rfl) rfl (by kernel_rfl) HB5.out.drew ?_
  (repeat (first | (refine wpS_pass _ rfl (by rfl) ?_; simp only [Act.put, List.getElem_toArray, List.getElem_cons_zero, List.getElem_cons_succ, List.setIfInBounds_toArray, List.set_cons_zero, List.set_cons_succ]) | (refine wpS_take _ ?_ rfl (by rfl) ?_ ?_; rotate_left; (focus (intro w' hS'; (try dsimp only at hS'); (repeat (have hS1 := hS'.1; replace hS' := hS'.2)); go_simp; (try with_reducible rfl); done)); simp only [Act.put, List.getElem_toArray, List.getElem_cons_zero, List.getElem_cons_succ, List.setIfInBounds_toArray, List.set_cons_zero, List.set_cons_succ])))
  refine wpS_load _ rfl (by rfl) _ _ rfl g 0 rfl (a.cells p) _ (fun w' hS' => range_of_row (HFA.out w' hS')) Try.underlying28 rfl HIL2.out ?_
  simp only [Act.put, List.getElem_toArray, List.getElem_cons_zero, List.getElem_cons_succ, List.setIfInBounds_toArray, List.set_cons_zero, List.set_cons_succ]
  refine wpS_load _ rfl (by rfl) _ _ rfl g' 0 rfl (b.cells q) _ (fun w' hS' => range_of_row (HFB.out w' hS')) Try.underlying28 rfl HIM2.out ?_
  simp only [Act.put, List.getElem_toArray, List.getElem_cons_zero, List.getElem_cons_succ, List.setIfInBounds_toArray, List.set_cons_zero, List.set_cons_succ]
  refine wpS_do _ rfl (by rfl) (fun K hK => ?_)
  go_simp
  refine (same_s v4 v5 _ _ _ (HS45.out.below (Below.refl _ _).drew) (HS5.out.below (Below.refl _ _).drew)).mono ?_
  rintro e w6 ⟨rfl, hb6⟩
  have HB6 : Hid (Below W2.heap.size W2 w6) := Lib.hid (ext_trans HB5.out ((Below.refl _ _).drew.trans hb6))
  refine hK.out _ _ HB6.out (fun hS => ?_)
  clear hK hS hb6
  refine wpS_do _ rfl (by rfl) (fun K hK => ?_)
  go_simp
  refine (lsame_any a b p q w6 (HIA.out.below HB6.out) (HIB.out.below HB6.out)).mono ?_
  rintro e w7 ⟨rfl, hb7⟩
  have HB7 : Hid (Below W2.heap.size W2 w7) := Lib.hid (ext_trans HB6.out hb7)
  refine hK.out _ _ HB7.out (fun hS => ?_)
  clear hK hS hb7
  rw [same_write HR.out.1 HR.out.2 HIA.out.lok HIB.out.lok]
  have hbb : (sameL a b != sameL a b) = false := by cases sameL a b <;> rfl
  (repeat (first | (refine wpS_pass _ rfl (by rfl) ?_; simp only [Act.put, List.getElem_toArray, List.getElem_cons_zero, List.getElem_cons_succ, List.setIfInBounds_toArray, List.set_cons_zero, List.set_cons_succ]) | (refine wpS_take _ ?_ rfl (by rfl) ?_ ?_; rotate_left; (focus (intro w' hS'; (try dsimp only at hS'); (repeat (have hS1 := hS'.1; replace hS' := hS'.2)); go_simp; (try with_reducible rfl); done)); simp only [Act.put, List.getElem_toArray, List.getElem_cons_zero, List.getElem_cons_succ, List.setIfInBounds_toArray, List.set_cons_zero, List.set_cons_succ])))
  refine wpS_done ?_
  clear hbb
  have HR7 := Lib.hid (HFA.out _ HB7.out)
  have HIA7 := Lib.hid (HIA.out.below HB7.out)
  obtain ⟨W8, hW8⟩ : ∃ W, w7.alloc (.cells #[Value.int .i64 0, Value.int .i64 0, Value.int .i64 0, Value.int .i64 0, Value.slice none 0 0, Value.slice none 0 0, Value.slice none 0 0, Value.int .i64 0, Value.int .i64 0, Value.int .u8 0, Value.int .u8 0, Value.int .u8 0, Value.int .u8 0, Value.int .u8 0, Value.int .u8 0, Value.int .u8 0, Value.int .u8 0, Value.int .u8 0, Value.int .u8 0, Value.int .u8 0, Value.int .u8 0, Value.int .u8 0, Value.int .u8 0, Value.int .u8 0, Value.int .u8 0, Value.int .u8 0, Value.int .u8 0, Value.int .u8 0, Value.int .u8 0, Value.int .u8 0, Value.int .u8 0, Value.int .u8 0, Value.int .u8 0, Value.int .u8 0, Value.int .u8 0, Value.int .u8 0, Value.int .u8 0, Value.int .u8 0, Value.int .u8 0, Value.int .u8 0, Value.int .u8 0, Value.slice none 0 0] 28) = W := ⟨_, rfl⟩
  obtain ⟨q8, b8, s8⟩ := new_row hW8
  rw [← lt0_cells] at q8
  obtain ⟨g9, hg9⟩ : ∃ g, w7.heap.size = g := ⟨_, rfl⟩
  rw [hg9] at q8
  obtain ⟨W9, hW9, HTH, HR9, HB9, _, _⟩ := let_write (q := p) (m := a) q8 rfl HLA.out b8 b8.size (Nat.le_of_eq hg9)
  have HW9 := Lib.hid hW9
  have HB9' : Hid (Below w7.heap.size w7 W9) := HB9
  have HIA9 := Lib.hid (HIA7.out.below HB9'.out)
  have HRA9 := Lib.hid ((HB9'.out.block g (Array.getElem?_eq_some_iff.1 HR7.out).1).trans HR7.out)
  obtain ⟨k0, _⟩ := ltRow_of HRA9.out HLA.out
  clear q8 b8 s8 hW9 HB9
  have HTU : Hid (turnL a = (⟨a.kind, a.from_, a.to_, a.session, a.refs, a.wants, a.haves, 1, a.total, a.pack, a.data⟩ : Lt)) := Lib.hid (by unfold turnL; rw [if_pos (.inr HK.out)])
  have hgr := grown_set (w := W9) g9 7 (.int .i64 1)
  have hrt := row_off HR9.out 1
  obtain ⟨_, _, _, _, _, _, _, c7, _⟩ := ltRow_of HR9.out HLA.out
  have f7 := row_free HR9.out 7
  have htt : total64 (⟨a.kind, a.from_, a.to_, a.session, a.refs, a.wants, a.haves, 1, a.total, a.pack, a.data⟩ : Lt) := HTA.out
  have hbt : Below w7.heap.size w7 (W9.setCell ⟨g9, 7, none⟩ (.int .i64 1)) := bel_grown HB9'.out HB9'.out.size hgr (Nat.le_of_eq hg9)
  have hit : LtIn (W9.setCell ⟨g9, 7, none⟩ (.int .i64 1)) (⟨a.kind, a.from_, a.to_, a.session, a.refs, a.wants, a.haves, 1, a.total, a.pack, a.data⟩ : Lt) p := by
    have h := HIA7.out.below hbt
    exact ⟨h.len, h.rok, h.wok, h.hok, h.rr, h.wr, h.hr, h.dr⟩
  have hka := (hbt.block g (Array.getElem?_eq_some_iff.1 HR7.out).1).trans HR7.out
  obtain ⟨W10, hW10⟩ : ∃ W, W9.setCell ⟨g9, 7, none⟩ (.int .i64 1) = W := ⟨_, rfl⟩
  rw [hW10] at hrt hbt hit hka
  clear hgr
  have d1 : (a.kind == 1) = false := by rw [HK.out]; rfl
  have d2 : (a.kind == 2) = true := by rw [HK.out]; rfl
  have HFT := Lib.hid (turnL_bad a HR.out.1)
  rw [HTU.out] at HFT
  have HTT := Lib.hid htt
  have HRT := Lib.hid hrt
  have HIT := Lib.hid hit
  have HBT := Lib.hid hbt
  have HIQZ := Lib.hid (info_leta (⟨a.kind, a.from_, a.to_, a.session, a.refs, a.wants, a.haves, 1, a.total, a.pack, a.data⟩ : Lt) p hit.len)
  have HKA := Lib.hid (hka : W10.heap[g]? = some (.cells (a.cells p).toArray 28 (0, 0)))
  clear htt hrt hit hbt hka
  go_wp2_with (first
    | ((with_reducible (refine wpList_load_row_w _ _ rfl _ rfl _ _ _ _ HR7.out Try.underlying28 rfl HIL.out ?_ ?_)); (focus (rfl)))
    | ((with_reducible (refine wpList_store_mid rfl _ _ _ rfl ?_ ?_ ?_ ?_ ?_ ?_ ?_ ?_ ?_)); (exact g9); (exact 0); (exact (a.cells p).toArray); (exact rfl); (exact rfl); (exact HTH.out); (exact HIL.out); (exact HOL.out); rw [HW9.out])
    | ((with_reducible (refine wpList_load_row_w _ _ rfl _ rfl _ _ _ _ HRT.out Try.underlying28 rfl HIQZ.out ?_ ?_)); (focus (rfl))))
  refine (write_bad (⟨a.kind, a.from_, a.to_, a.session, a.refs, a.wants, a.haves, 1, a.total, a.pack, a.data⟩ : Lt) p W10 HIT.out HTT.out HFT.out).mono ?_
  rintro e w10 ⟨rfl, hb10⟩
  have HR10 := Lib.hid ((hb10.block g (Array.getElem?_eq_some_iff.1 HKA.out).1).trans HKA.out)
  have HB10 := Lib.hid (ext_trans HB7.out (ext_trans HBT.out hb10))
  have HIA10 := Lib.hid (HIA.out.below HB10.out)
  clear hb10
  go_wp2_with ((with_reducible (refine wpList_load_row_w _ _ rfl _ rfl _ _ _ _ HR10.out Try.underlying28 rfl HIL.out ?_ ?_)); (focus (rfl)))
  refine (lsame_any a a p p w10 HIA10.out HIA10.out).mono ?_
  rintro e w11 ⟨rfl, hb11⟩
  rw [sameL_self]
  go_wp2_with fail
  go_ret
  exact ⟨rfl, HBW.out _ (ext_trans HB10.out hb11)⟩

set_option maxRecDepth 100000 in
set_option maxHeartbeats 8000000 in
theorem wireOne_2f (a b : Lt) (p q : LtP) (w : World) (ha : LtIn w a p) (hb : LtIn w b q) (hta : total64 a) (htb : total64 b) (ra : rightL a = true) (rb : rightL b = false) (hk : a.kind = 2) :
    Calls Try.prog 7 #[a.val p, b.val q] w fun e w' => e = .returned (.bool true) ∧ Below w.heap.size w w' := by
  obtain ⟨W1, W2, g, g', hg, hg', hW1, hW2, HGS, HRA, HRB, HB2⟩ := two_lets (w := w) 28 a b p q ha.len hb.len
  have HIA := Lib.hid (ha.below (hg ▸ HB2.out))
  have HIB := Lib.hid (hb.below (hg ▸ HB2.out))
  have HLA := Lib.hid ha.len
  have HLB := Lib.hid hb.len
  have HTA := Lib.hid hta
  have HTB := Lib.hid htb
  have HFA : Hid (∀ W, Below W2.heap.size W2 W → W.heap[g]? = some (.cells (a.cells p).toArray 28 (0, 0))) := Lib.hid (fun W h => (h.block g HGS.out.1).trans HRA.out)
  have HFB : Hid (∀ W, Below W2.heap.size W2 W → W.heap[g']? = some (.cells (b.cells q).toArray 28 (0, 0))) := Lib.hid (fun W h => (h.block g' HGS.out.2.1).trans HRB.out)
  have HBW : Hid (∀ W, Below W2.heap.size W2 W → Below g w W) := Lib.hid (fun W h => HB2.out.trans (h.mono HGS.out.2.2.2))
  have HIL := Lib.hid (info_leta a p ha.len)
  have HIM := Lib.hid (info_leta b q hb.len)
  have HOL := Lib.hid (all_oneCell_toArray (a.cells_one p))
  have HR := Lib.hid (And.intro ra rb)
  have HK := Lib.hid hk
  clear hk
  unfold Lt.val
  rw [hg]
  clear ha hb hta htb ra rb
  go_enter Try.func7, Try.ntmps7
  go_wp2_with fail
  clear hg hg' hW1 hW2
  refine (alive_any W2).mono ?_
  rintro e w3 ⟨rfl, hb3⟩
  have HB3 := Lib.hid hb3
  have HR3 := Lib.hid (HFA.out _ hb3)
  have HIA3 := Lib.hid (HIA.out.below hb3)
  clear hb3
  go_wp2_with ((with_reducible (refine wpList_load_row_w _ _ rfl _ rfl _ _ _ _ HR3.out Try.underlying28 rfl HIL.out ?_ ?_)); (focus (rfl)))
  refine (write_ok a p w3 HIA3.out HTA.out HR.out.1).mono ?_
  rintro e w4 ⟨v4, rfl, hs4, hb4⟩
  have HB4 := Lib.hid (ext_trans HB3.out hb4)
  have HS4 := Lib.hid hs4
  have HR4 := Lib.hid (HFB.out _ HB4.out)
  have HIB4 := Lib.hid (HIB.out.below HB4.out)
  clear hs4 hb4
  go_wp2_with ((with_reducible (refine wpList_load_row_w _ _ rfl _ rfl _ _ _ _ HR4.out Try.underlying28 rfl HIM.out ?_ ?_)); (focus (rfl)))
  refine (write_bad b q w4 HIB4.out HTB.out HR.out.2).mono ?_
  rintro e w5 ⟨rfl, hb5⟩
  have HB5 := Lib.hid (ext_trans HB4.out hb5)
  clear hb5
  go_wp2_with fail
  refine wp_region_sched (fun w' => Below W2.heap.size W2 w') [(true, 0), (true, 1), (true, 2), (true, 3), (true, 4), (true, 5), (true, 6), (true, 7), (true, 8), (true, 10), (true, 11), (false, 9), (false, 12), (true, 13), (true, 14)] (by kernel_rfl) (by kernel_rfl) rfl (by kernel_rfl) HB5.out.drew ?_
  (repeat (first | (refine wpS_pass _ rfl (by rfl) ?_; simp only [Act.put, List.getElem_toArray, List.getElem_cons_zero, List.getElem_cons_succ, List.setIfInBounds_toArray, List.set_cons_zero, List.set_cons_succ]) | (refine wpS_take _ ?_ rfl (by rfl) ?_ ?_; rotate_left; (focus (intro w' hS'; (try dsimp only at hS'); (repeat (have hS1 := hS'.1; replace hS' := hS'.2)); go_simp; (try with_reducible rfl); done)); simp only [Act.put, List.getElem_toArray, List.getElem_cons_zero, List.getElem_cons_succ, List.setIfInBounds_toArray, List.set_cons_zero, List.set_cons_succ])))
  refine wpS_skip _ rfl (by rfl) HB5.out.drew ?_
  simp only [Act.put, List.getElem_toArray, List.getElem_cons_zero, List.getElem_cons_succ, List.setIfInBounds_toArray, List.set_cons_zero, List.set_cons_succ]
  (repeat (first | (refine wpS_pass _ rfl (by rfl) ?_; simp only [Act.put, List.getElem_toArray, List.getElem_cons_zero, List.getElem_cons_succ, List.setIfInBounds_toArray, List.set_cons_zero, List.set_cons_succ]) | (refine wpS_take _ ?_ rfl (by rfl) ?_ ?_; rotate_left; (focus (intro w' hS'; (try dsimp only at hS'); (repeat (have hS1 := hS'.1; replace hS' := hS'.2)); go_simp; (try with_reducible rfl); done)); simp only [Act.put, List.getElem_toArray, List.getElem_cons_zero, List.getElem_cons_succ, List.setIfInBounds_toArray, List.set_cons_zero, List.set_cons_succ])))
  refine wpS_skip _ rfl (by rfl) HB5.out.drew ?_
  simp only [Act.put, List.getElem_toArray, List.getElem_cons_zero, List.getElem_cons_succ, List.setIfInBounds_toArray, List.set_cons_zero, List.set_cons_succ]
  (repeat (first | (refine wpS_pass _ rfl (by rfl) ?_; simp only [Act.put, List.getElem_toArray, List.getElem_cons_zero, List.getElem_cons_succ, List.setIfInBounds_toArray, List.set_cons_zero, List.set_cons_succ]) | (refine wpS_take _ ?_ rfl (by rfl) ?_ ?_; rotate_left; (focus (intro w' hS'; (try dsimp only at hS'); (repeat (have hS1 := hS'.1; replace hS' := hS'.2)); go_simp; (try with_reducible rfl); done)); simp only [Act.put, List.getElem_toArray, List.getElem_cons_zero, List.getElem_cons_succ, List.setIfInBounds_toArray, List.set_cons_zero, List.set_cons_succ])))
  refine wpS_done ?_
  have HB7 : Hid (Below W2.heap.size W2 w5.drew) := Lib.hid HB5.out.drew
  generalize w5.drew = w7 at *
  have HR7 := Lib.hid (HFA.out _ HB7.out)
  have HIA7 := Lib.hid (HIA.out.below HB7.out)
  obtain ⟨W8, hW8⟩ : ∃ W, w7.alloc (.cells #[Value.int .i64 0, Value.int .i64 0, Value.int .i64 0, Value.int .i64 0, Value.slice none 0 0, Value.slice none 0 0, Value.slice none 0 0, Value.int .i64 0, Value.int .i64 0, Value.int .u8 0, Value.int .u8 0, Value.int .u8 0, Value.int .u8 0, Value.int .u8 0, Value.int .u8 0, Value.int .u8 0, Value.int .u8 0, Value.int .u8 0, Value.int .u8 0, Value.int .u8 0, Value.int .u8 0, Value.int .u8 0, Value.int .u8 0, Value.int .u8 0, Value.int .u8 0, Value.int .u8 0, Value.int .u8 0, Value.int .u8 0, Value.int .u8 0, Value.int .u8 0, Value.int .u8 0, Value.int .u8 0, Value.int .u8 0, Value.int .u8 0, Value.int .u8 0, Value.int .u8 0, Value.int .u8 0, Value.int .u8 0, Value.int .u8 0, Value.int .u8 0, Value.int .u8 0, Value.slice none 0 0] 28) = W := ⟨_, rfl⟩
  obtain ⟨q8, b8, s8⟩ := new_row hW8
  rw [← lt0_cells] at q8
  obtain ⟨g9, hg9⟩ : ∃ g, w7.heap.size = g := ⟨_, rfl⟩
  rw [hg9] at q8
  obtain ⟨W9, hW9, HTH, HR9, HB9, _, _⟩ := let_write (q := p) (m := a) q8 rfl HLA.out b8 b8.size (Nat.le_of_eq hg9)
  have HW9 := Lib.hid hW9
  have HB9' : Hid (Below w7.heap.size w7 W9) := HB9
  have HIA9 := Lib.hid (HIA7.out.below HB9'.out)
  have HRA9 := Lib.hid ((HB9'.out.block g (Array.getElem?_eq_some_iff.1 HR7.out).1).trans HR7.out)
  obtain ⟨k0, _⟩ := ltRow_of HRA9.out HLA.out
  clear q8 b8 s8 hW9 HB9
  have HTU : Hid (turnL a = (⟨a.kind, a.from_, a.to_, a.session, a.refs, a.wants, a.haves, 1, a.total, a.pack, a.data⟩ : Lt)) := Lib.hid (by unfold turnL; rw [if_pos (.inr HK.out)])
  have hgr := grown_set (w := W9) g9 7 (.int .i64 1)
  have hrt := row_off HR9.out 1
  obtain ⟨_, _, _, _, _, _, _, c7, _⟩ := ltRow_of HR9.out HLA.out
  have f7 := row_free HR9.out 7
  have htt : total64 (⟨a.kind, a.from_, a.to_, a.session, a.refs, a.wants, a.haves, 1, a.total, a.pack, a.data⟩ : Lt) := HTA.out
  have hbt : Below w7.heap.size w7 (W9.setCell ⟨g9, 7, none⟩ (.int .i64 1)) := bel_grown HB9'.out HB9'.out.size hgr (Nat.le_of_eq hg9)
  have hit : LtIn (W9.setCell ⟨g9, 7, none⟩ (.int .i64 1)) (⟨a.kind, a.from_, a.to_, a.session, a.refs, a.wants, a.haves, 1, a.total, a.pack, a.data⟩ : Lt) p := by
    have h := HIA7.out.below hbt
    exact ⟨h.len, h.rok, h.wok, h.hok, h.rr, h.wr, h.hr, h.dr⟩
  have hka := (hbt.block g (Array.getElem?_eq_some_iff.1 HR7.out).1).trans HR7.out
  obtain ⟨W10, hW10⟩ : ∃ W, W9.setCell ⟨g9, 7, none⟩ (.int .i64 1) = W := ⟨_, rfl⟩
  rw [hW10] at hrt hbt hit hka
  clear hgr
  have d1 : (a.kind == 1) = false := by rw [HK.out]; rfl
  have d2 : (a.kind == 2) = true := by rw [HK.out]; rfl
  have HFT := Lib.hid (turnL_bad a HR.out.1)
  rw [HTU.out] at HFT
  have HTT := Lib.hid htt
  have HRT := Lib.hid hrt
  have HIT := Lib.hid hit
  have HBT := Lib.hid hbt
  have HIQZ := Lib.hid (info_leta (⟨a.kind, a.from_, a.to_, a.session, a.refs, a.wants, a.haves, 1, a.total, a.pack, a.data⟩ : Lt) p hit.len)
  have HKA := Lib.hid (hka : W10.heap[g]? = some (.cells (a.cells p).toArray 28 (0, 0)))
  clear htt hrt hit hbt hka
  go_wp2_with (first
    | ((with_reducible (refine wpList_load_row_w _ _ rfl _ rfl _ _ _ _ HR7.out Try.underlying28 rfl HIL.out ?_ ?_)); (focus (rfl)))
    | ((with_reducible (refine wpList_store_mid rfl _ _ _ rfl ?_ ?_ ?_ ?_ ?_ ?_ ?_ ?_ ?_)); (exact g9); (exact 0); (exact (a.cells p).toArray); (exact rfl); (exact rfl); (exact HTH.out); (exact HIL.out); (exact HOL.out); rw [HW9.out])
    | ((with_reducible (refine wpList_load_row_w _ _ rfl _ rfl _ _ _ _ HRT.out Try.underlying28 rfl HIQZ.out ?_ ?_)); (focus (rfl))))
  refine (write_bad (⟨a.kind, a.from_, a.to_, a.session, a.refs, a.wants, a.haves, 1, a.total, a.pack, a.data⟩ : Lt) p W10 HIT.out HTT.out HFT.out).mono ?_
  rintro e w10 ⟨rfl, hb10⟩
  have HR10 := Lib.hid ((hb10.block g (Array.getElem?_eq_some_iff.1 HKA.out).1).trans HKA.out)
  have HB10 := Lib.hid (ext_trans HB7.out (ext_trans HBT.out hb10))
  have HIA10 := Lib.hid (HIA.out.below HB10.out)
  clear hb10
  go_wp2_with ((with_reducible (refine wpList_load_row_w _ _ rfl _ rfl _ _ _ _ HR10.out Try.underlying28 rfl HIL.out ?_ ?_)); (focus (rfl)))
  refine (lsame_any a a p p w10 HIA10.out HIA10.out).mono ?_
  rintro e w11 ⟨rfl, hb11⟩
  rw [sameL_self]
  go_wp2_with fail
  go_ret
  exact ⟨rfl, HBW.out _ (ext_trans HB10.out hb11)⟩

set_option maxRecDepth 100000 in
set_option maxHeartbeats 8000000 in
theorem wireOne_3t (a b : Lt) (p q : LtP) (w : World) (ha : LtIn w a p) (hb : LtIn w b q) (hta : total64 a) (htb : total64 b) (ra : rightL a = true) (rb : rightL b = true) (hk : a.kind = 3) :
    Calls Try.prog 7 #[a.val p, b.val q] w fun e w' => e = .returned (.bool true) ∧ Below w.heap.size w w' := by
  obtain ⟨W1, W2, g, g', hg, hg', hW1, hW2, HGS, HRA, HRB, HB2⟩ := two_lets (w := w) 28 a b p q ha.len hb.len
  have HIA := Lib.hid (ha.below (hg ▸ HB2.out))
  have HIB := Lib.hid (hb.below (hg ▸ HB2.out))
  have HLA := Lib.hid ha.len
  have HLB := Lib.hid hb.len
  have HTA := Lib.hid hta
  have HTB := Lib.hid htb
  have HFA : Hid (∀ W, Below W2.heap.size W2 W → W.heap[g]? = some (.cells (a.cells p).toArray 28 (0, 0))) := Lib.hid (fun W h => (h.block g HGS.out.1).trans HRA.out)
  have HFB : Hid (∀ W, Below W2.heap.size W2 W → W.heap[g']? = some (.cells (b.cells q).toArray 28 (0, 0))) := Lib.hid (fun W h => (h.block g' HGS.out.2.1).trans HRB.out)
  have HBW : Hid (∀ W, Below W2.heap.size W2 W → Below g w W) := Lib.hid (fun W h => HB2.out.trans (h.mono HGS.out.2.2.2))
  have HIL := Lib.hid (info_leta a p ha.len)
  have HIM := Lib.hid (info_leta b q hb.len)
  have HOL := Lib.hid (all_oneCell_toArray (a.cells_one p))
  have HR := Lib.hid (And.intro ra rb)
  have HK := Lib.hid hk
  clear hk
  unfold Lt.val
  rw [hg]
  clear ha hb hta htb ra rb
  go_enter Try.func7, Try.ntmps7
  go_wp2_with fail
  clear hg hg' hW1 hW2
  refine (alive_any W2).mono ?_
  rintro e w3 ⟨rfl, hb3⟩
  have HB3 := Lib.hid hb3
  have HR3 := Lib.hid (HFA.out _ hb3)
  have HIA3 := Lib.hid (HIA.out.below hb3)
  clear hb3
  go_wp2_with ((with_reducible (refine wpList_load_row_w _ _ rfl _ rfl _ _ _ _ HR3.out Try.underlying28 rfl HIL.out ?_ ?_)); (focus (rfl)))
  refine (write_ok a p w3 HIA3.out HTA.out HR.out.1).mono ?_
  rintro e w4 ⟨v4, rfl, hs4, hb4⟩
  have HB4 := Lib.hid (ext_trans HB3.out hb4)
  have HS4 := Lib.hid hs4
  have HR4 := Lib.hid (HFB.out _ HB4.out)
  have HIB4 := Lib.hid (HIB.out.below HB4.out)
  clear hs4 hb4
  go_wp2_with ((with_reducible (refine wpList_load_row_w _ _ rfl _ rfl _ _ _ _ HR4.out Try.underlying28 rfl HIM.out ?_ ?_)); (focus (rfl)))
  refine (write_ok b q w4 HIB4.out HTB.out HR.out.2).mono ?_
  rintro e w5 ⟨v5, rfl, hs5, hb5⟩
  have HB5 := Lib.hid (ext_trans HB4.out hb5)
  have HS5 := Lib.hid hs5
  have HS45 := Lib.hid (HS4.out.below hb5)
  clear hs5 hb5
  go_wp2_with fail
  have HIL2 := Lib.hid (info_let a p HLA.out)
  have HIM2 := Lib.hid (info_let b q HLB.out)
  refine wp_region_sched (fun w' => Below W2.heap.size W2 w') [(true, 0), (true, 1), (true, 2), (true, 3), (true, 4), (true, 5), (true, 6), (true, 7), (true, 8), (true, 10), (true, 11), (false, 9), (false, 12), (true, 13), (true, 14)] (by kernel_rfl) (by kernel_rfl) rfl (by kernel_rfl) HB5.out.drew ?_
  (repeat (first | (refine wpS_pass _ rfl (by rfl) ?_; simp only [Act.put, List.getElem_toArray, List.getElem_cons_zero, List.getElem_cons_succ, List.setIfInBounds_toArray, List.set_cons_zero, List.set_cons_succ]) | (refine wpS_take _ ?_ rfl (by rfl) ?_ ?_; rotate_left; (focus (intro w' hS'; (try dsimp only at hS'); (repeat (have hS1 := hS'.1; replace hS' := hS'.2)); go_simp; (try with_reducible rfl); done)); simp only [Act.put, List.getElem_toArray, List.getElem_cons_zero, List.getElem_cons_succ, List.setIfInBounds_toArray, List.set_cons_zero, List.set_cons_succ])))
  refine wpS_load _ rfl (by rfl) _ _ rfl g 0 rfl (a.cells p) _ (fun w' hS' => range_of_row (HFA.out w' hS')) Try.underlying28 rfl HIL2.out ?_
  simp only [Act.put, List.getElem_toArray, List.getElem_cons_zero, List.getElem_cons_succ, List.setIfInBounds_toArray, List.set_cons_zero, List.set_cons_succ]
  refine wpS_load _ rfl (by rfl) _ _ rfl g' 0 rfl (b.cells q) _ (fun w' hS' => range_of_row (HFB.out w' hS')) Try.underlying28 rfl HIM2.out ?_
  simp only [Act.put, List.getElem_toArray, List.getElem_cons_zero, List.getElem_cons_succ, List.setIfInBounds_toArray, List.set_cons_zero, List.set_cons_succ]
  refine wpS_do _ rfl (by rfl) (fun K hK => ?_)
  go_simp
  refine (same_s v4 v5 _ _ _ (HS45.out.below (Below.refl _ _).drew) (HS5.out.below (Below.refl _ _).drew)).mono ?_
  rintro e w6 ⟨rfl, hb6⟩
  have HB6 : Hid (Below W2.heap.size W2 w6) := Lib.hid (ext_trans HB5.out ((Below.refl _ _).drew.trans hb6))
  refine hK.out _ _ HB6.out (fun hS => ?_)
  clear hK hS hb6
  refine wpS_do _ rfl (by rfl) (fun K hK => ?_)
  go_simp
  refine (lsame_any a b p q w6 (HIA.out.below HB6.out) (HIB.out.below HB6.out)).mono ?_
  rintro e w7 ⟨rfl, hb7⟩
  have HB7 : Hid (Below W2.heap.size W2 w7) := Lib.hid (ext_trans HB6.out hb7)
  refine hK.out _ _ HB7.out (fun hS => ?_)
  clear hK hS hb7
  rw [same_write HR.out.1 HR.out.2 HIA.out.lok HIB.out.lok]
  have hbb : (sameL a b != sameL a b) = false := by cases sameL a b <;> rfl
  (repeat (first | (refine wpS_pass _ rfl (by rfl) ?_; simp only [Act.put, List.getElem_toArray, List.getElem_cons_zero, List.getElem_cons_succ, List.setIfInBounds_toArray, List.set_cons_zero, List.set_cons_succ]) | (refine wpS_take _ ?_ rfl (by rfl) ?_ ?_; rotate_left; (focus (intro w' hS'; (try dsimp only at hS'); (repeat (have hS1 := hS'.1; replace hS' := hS'.2)); go_simp; (try with_reducible rfl); done)); simp only [Act.put, List.getElem_toArray, List.getElem_cons_zero, List.getElem_cons_succ, List.setIfInBounds_toArray, List.set_cons_zero, List.set_cons_succ])))
  refine wpS_done ?_
  clear hbb
  have HR7 := Lib.hid (HFA.out _ HB7.out)
  have HIA7 := Lib.hid (HIA.out.below HB7.out)
  obtain ⟨W8, hW8⟩ : ∃ W, w7.alloc (.cells #[Value.int .i64 0, Value.int .i64 0, Value.int .i64 0, Value.int .i64 0, Value.slice none 0 0, Value.slice none 0 0, Value.slice none 0 0, Value.int .i64 0, Value.int .i64 0, Value.int .u8 0, Value.int .u8 0, Value.int .u8 0, Value.int .u8 0, Value.int .u8 0, Value.int .u8 0, Value.int .u8 0, Value.int .u8 0, Value.int .u8 0, Value.int .u8 0, Value.int .u8 0, Value.int .u8 0, Value.int .u8 0, Value.int .u8 0, Value.int .u8 0, Value.int .u8 0, Value.int .u8 0, Value.int .u8 0, Value.int .u8 0, Value.int .u8 0, Value.int .u8 0, Value.int .u8 0, Value.int .u8 0, Value.int .u8 0, Value.int .u8 0, Value.int .u8 0, Value.int .u8 0, Value.int .u8 0, Value.int .u8 0, Value.int .u8 0, Value.int .u8 0, Value.int .u8 0, Value.slice none 0 0] 28) = W := ⟨_, rfl⟩
  obtain ⟨q8, b8, s8⟩ := new_row hW8
  rw [← lt0_cells] at q8
  obtain ⟨g9, hg9⟩ : ∃ g, w7.heap.size = g := ⟨_, rfl⟩
  rw [hg9] at q8
  obtain ⟨W9, hW9, HTH, HR9, HB9, _, _⟩ := let_write (q := p) (m := a) q8 rfl HLA.out b8 b8.size (Nat.le_of_eq hg9)
  have HW9 := Lib.hid hW9
  have HB9' : Hid (Below w7.heap.size w7 W9) := HB9
  have HIA9 := Lib.hid (HIA7.out.below HB9'.out)
  have HRA9 := Lib.hid ((HB9'.out.block g (Array.getElem?_eq_some_iff.1 HR7.out).1).trans HR7.out)
  obtain ⟨k0, _⟩ := ltRow_of HRA9.out HLA.out
  clear q8 b8 s8 hW9 HB9
  have HTU : Hid (turnL a = (⟨a.kind, a.from_, a.to_, a.session, a.refs, a.wants, a.haves, a.off, 1, a.pack, a.data⟩ : Lt)) := Lib.hid (by unfold turnL; rw [if_neg (by have := HK.out; omega), if_pos HK.out])
  have hgr := grown_set (w := W9) g9 8 (.int .i64 1)
  have hrt := row_total HR9.out 1
  obtain ⟨_, _, _, _, _, _, _, _, c8, _⟩ := ltRow_of HR9.out HLA.out
  have f8 := row_free HR9.out 8
  have htt : total64 (⟨a.kind, a.from_, a.to_, a.session, a.refs, a.wants, a.haves, a.off, 1, a.pack, a.data⟩ : Lt) := ⟨(by decide : (-9223372036854775808 : Int) ≤ 1), (by decide : (1 : Int) ≤ 9223372036854775807)⟩
  have hbt : Below w7.heap.size w7 (W9.setCell ⟨g9, 8, none⟩ (.int .i64 1)) := bel_grown HB9'.out HB9'.out.size hgr (Nat.le_of_eq hg9)
  have hit : LtIn (W9.setCell ⟨g9, 8, none⟩ (.int .i64 1)) (⟨a.kind, a.from_, a.to_, a.session, a.refs, a.wants, a.haves, a.off, 1, a.pack, a.data⟩ : Lt) p := by
    have h := HIA7.out.below hbt
    exact ⟨h.len, h.rok, h.wok, h.hok, h.rr, h.wr, h.hr, h.dr⟩
  have hka := (hbt.block g (Array.getElem?_eq_some_iff.1 HR7.out).1).trans HR7.out
  obtain ⟨W10, hW10⟩ : ∃ W, W9.setCell ⟨g9, 8, none⟩ (.int .i64 1) = W := ⟨_, rfl⟩
  rw [hW10] at hrt hbt hit hka
  clear hgr
  have d1 : (a.kind == 1) = false := by rw [HK.out]; rfl
  have d2 : (a.kind == 2) = false := by rw [HK.out]; rfl
  have d3 : (a.kind == 3) = true := by rw [HK.out]; rfl
  have HFT := Lib.hid (turnL_bad a HR.out.1)
  rw [HTU.out] at HFT
  have HTT := Lib.hid htt
  have HRT := Lib.hid hrt
  have HIT := Lib.hid hit
  have HBT := Lib.hid hbt
  have HIQZ := Lib.hid (info_leta (⟨a.kind, a.from_, a.to_, a.session, a.refs, a.wants, a.haves, a.off, 1, a.pack, a.data⟩ : Lt) p hit.len)
  have HKA := Lib.hid (hka : W10.heap[g]? = some (.cells (a.cells p).toArray 28 (0, 0)))
  clear htt hrt hit hbt hka
  go_wp2_with (first
    | ((with_reducible (refine wpList_load_row_w _ _ rfl _ rfl _ _ _ _ HR7.out Try.underlying28 rfl HIL.out ?_ ?_)); (focus (rfl)))
    | ((with_reducible (refine wpList_store_mid rfl _ _ _ rfl ?_ ?_ ?_ ?_ ?_ ?_ ?_ ?_ ?_)); (exact g9); (exact 0); (exact (a.cells p).toArray); (exact rfl); (exact rfl); (exact HTH.out); (exact HIL.out); (exact HOL.out); rw [HW9.out])
    | ((with_reducible (refine wpList_load_row_w _ _ rfl _ rfl _ _ _ _ HRT.out Try.underlying28 rfl HIQZ.out ?_ ?_)); (focus (rfl))))
  refine (write_bad (⟨a.kind, a.from_, a.to_, a.session, a.refs, a.wants, a.haves, a.off, 1, a.pack, a.data⟩ : Lt) p W10 HIT.out HTT.out HFT.out).mono ?_
  rintro e w10 ⟨rfl, hb10⟩
  have HR10 := Lib.hid ((hb10.block g (Array.getElem?_eq_some_iff.1 HKA.out).1).trans HKA.out)
  have HB10 := Lib.hid (ext_trans HB7.out (ext_trans HBT.out hb10))
  have HIA10 := Lib.hid (HIA.out.below HB10.out)
  clear hb10
  go_wp2_with ((with_reducible (refine wpList_load_row_w _ _ rfl _ rfl _ _ _ _ HR10.out Try.underlying28 rfl HIL.out ?_ ?_)); (focus (rfl)))
  refine (lsame_any a a p p w10 HIA10.out HIA10.out).mono ?_
  rintro e w11 ⟨rfl, hb11⟩
  rw [sameL_self]
  go_wp2_with fail
  go_ret
  exact ⟨rfl, HBW.out _ (ext_trans HB10.out hb11)⟩

set_option maxRecDepth 100000 in
set_option maxHeartbeats 8000000 in
theorem wireOne_3f (a b : Lt) (p q : LtP) (w : World) (ha : LtIn w a p) (hb : LtIn w b q) (hta : total64 a) (htb : total64 b) (ra : rightL a = true) (rb : rightL b = false) (hk : a.kind = 3) :
    Calls Try.prog 7 #[a.val p, b.val q] w fun e w' => e = .returned (.bool true) ∧ Below w.heap.size w w' := by
  obtain ⟨W1, W2, g, g', hg, hg', hW1, hW2, HGS, HRA, HRB, HB2⟩ := two_lets (w := w) 28 a b p q ha.len hb.len
  have HIA := Lib.hid (ha.below (hg ▸ HB2.out))
  have HIB := Lib.hid (hb.below (hg ▸ HB2.out))
  have HLA := Lib.hid ha.len
  have HLB := Lib.hid hb.len
  have HTA := Lib.hid hta
  have HTB := Lib.hid htb
  have HFA : Hid (∀ W, Below W2.heap.size W2 W → W.heap[g]? = some (.cells (a.cells p).toArray 28 (0, 0))) := Lib.hid (fun W h => (h.block g HGS.out.1).trans HRA.out)
  have HFB : Hid (∀ W, Below W2.heap.size W2 W → W.heap[g']? = some (.cells (b.cells q).toArray 28 (0, 0))) := Lib.hid (fun W h => (h.block g' HGS.out.2.1).trans HRB.out)
  have HBW : Hid (∀ W, Below W2.heap.size W2 W → Below g w W) := Lib.hid (fun W h => HB2.out.trans (h.mono HGS.out.2.2.2))
  have HIL := Lib.hid (info_leta a p ha.len)
  have HIM := Lib.hid (info_leta b q hb.len)
  have HOL := Lib.hid (all_oneCell_toArray (a.cells_one p))
  have HR := Lib.hid (And.intro ra rb)
  have HK := Lib.hid hk
  clear hk
  unfold Lt.val
  rw [hg]
  clear ha hb hta htb ra rb
  go_enter Try.func7, Try.ntmps7
  go_wp2_with fail
  clear hg hg' hW1 hW2
  refine (alive_any W2).mono ?_
  rintro e w3 ⟨rfl, hb3⟩
  have HB3 := Lib.hid hb3
  have HR3 := Lib.hid (HFA.out _ hb3)
  have HIA3 := Lib.hid (HIA.out.below hb3)
  clear hb3
  go_wp2_with ((with_reducible (refine wpList_load_row_w _ _ rfl _ rfl _ _ _ _ HR3.out Try.underlying28 rfl HIL.out ?_ ?_)); (focus (rfl)))
  refine (write_ok a p w3 HIA3.out HTA.out HR.out.1).mono ?_
  rintro e w4 ⟨v4, rfl, hs4, hb4⟩
  have HB4 := Lib.hid (ext_trans HB3.out hb4)
  have HS4 := Lib.hid hs4
  have HR4 := Lib.hid (HFB.out _ HB4.out)
  have HIB4 := Lib.hid (HIB.out.below HB4.out)
  clear hs4 hb4
  go_wp2_with ((with_reducible (refine wpList_load_row_w _ _ rfl _ rfl _ _ _ _ HR4.out Try.underlying28 rfl HIM.out ?_ ?_)); (focus (rfl)))
  refine (write_bad b q w4 HIB4.out HTB.out HR.out.2).mono ?_
  rintro e w5 ⟨rfl, hb5⟩
  have HB5 := Lib.hid (ext_trans HB4.out hb5)
  clear hb5
  go_wp2_with fail
  refine wp_region_sched (fun w' => Below W2.heap.size W2 w') [(true, 0), (true, 1), (true, 2), (true, 3), (true, 4), (true, 5), (true, 6), (true, 7), (true, 8), (true, 10), (true, 11), (false, 9), (false, 12), (true, 13), (true, 14)] (by kernel_rfl) (by kernel_rfl) rfl (by kernel_rfl) HB5.out.drew ?_
  (repeat (first | (refine wpS_pass _ rfl (by rfl) ?_; simp only [Act.put, List.getElem_toArray, List.getElem_cons_zero, List.getElem_cons_succ, List.setIfInBounds_toArray, List.set_cons_zero, List.set_cons_succ]) | (refine wpS_take _ ?_ rfl (by rfl) ?_ ?_; rotate_left; (focus (intro w' hS'; (try dsimp only at hS'); (repeat (have hS1 := hS'.1; replace hS' := hS'.2)); go_simp; (try with_reducible rfl); done)); simp only [Act.put, List.getElem_toArray, List.getElem_cons_zero, List.getElem_cons_succ, List.setIfInBounds_toArray, List.set_cons_zero, List.set_cons_succ])))
  refine wpS_skip _ rfl (by rfl) HB5.out.drew ?_
  simp only [Act.put, List.getElem_toArray, List.getElem_cons_zero, List.getElem_cons_succ, List.setIfInBounds_toArray, List.set_cons_zero, List.set_cons_succ]
  (repeat (first | (refine wpS_pass _ rfl (by rfl) ?_; simp only [Act.put, List.getElem_toArray, List.getElem_cons_zero, List.getElem_cons_succ, List.setIfInBounds_toArray, List.set_cons_zero, List.set_cons_succ]) | (refine wpS_take _ ?_ rfl (by rfl) ?_ ?_; rotate_left; (focus (intro w' hS'; (try dsimp only at hS'); (repeat (have hS1 := hS'.1; replace hS' := hS'.2)); go_simp; (try with_reducible rfl); done)); simp only [Act.put, List.getElem_toArray, List.getElem_cons_zero, List.getElem_cons_succ, List.setIfInBounds_toArray, List.set_cons_zero, List.set_cons_succ])))
  refine wpS_skip _ rfl (by rfl) HB5.out.drew ?_
  simp only [Act.put, List.getElem_toArray, List.getElem_cons_zero, List.getElem_cons_succ, List.setIfInBounds_toArray, List.set_cons_zero, List.set_cons_succ]
  (repeat (first | (refine wpS_pass _ rfl (by rfl) ?_; simp only [Act.put, List.getElem_toArray, List.getElem_cons_zero, List.getElem_cons_succ, List.setIfInBounds_toArray, List.set_cons_zero, List.set_cons_succ]) | (refine wpS_take _ ?_ rfl (by rfl) ?_ ?_; rotate_left; (focus (intro w' hS'; (try dsimp only at hS'); (repeat (have hS1 := hS'.1; replace hS' := hS'.2)); go_simp; (try with_reducible rfl); done)); simp only [Act.put, List.getElem_toArray, List.getElem_cons_zero, List.getElem_cons_succ, List.setIfInBounds_toArray, List.set_cons_zero, List.set_cons_succ])))
  refine wpS_done ?_
  have HB7 : Hid (Below W2.heap.size W2 w5.drew) := Lib.hid HB5.out.drew
  generalize w5.drew = w7 at *
  have HR7 := Lib.hid (HFA.out _ HB7.out)
  have HIA7 := Lib.hid (HIA.out.below HB7.out)
  obtain ⟨W8, hW8⟩ : ∃ W, w7.alloc (.cells #[Value.int .i64 0, Value.int .i64 0, Value.int .i64 0, Value.int .i64 0, Value.slice none 0 0, Value.slice none 0 0, Value.slice none 0 0, Value.int .i64 0, Value.int .i64 0, Value.int .u8 0, Value.int .u8 0, Value.int .u8 0, Value.int .u8 0, Value.int .u8 0, Value.int .u8 0, Value.int .u8 0, Value.int .u8 0, Value.int .u8 0, Value.int .u8 0, Value.int .u8 0, Value.int .u8 0, Value.int .u8 0, Value.int .u8 0, Value.int .u8 0, Value.int .u8 0, Value.int .u8 0, Value.int .u8 0, Value.int .u8 0, Value.int .u8 0, Value.int .u8 0, Value.int .u8 0, Value.int .u8 0, Value.int .u8 0, Value.int .u8 0, Value.int .u8 0, Value.int .u8 0, Value.int .u8 0, Value.int .u8 0, Value.int .u8 0, Value.int .u8 0, Value.int .u8 0, Value.slice none 0 0] 28) = W := ⟨_, rfl⟩
  obtain ⟨q8, b8, s8⟩ := new_row hW8
  rw [← lt0_cells] at q8
  obtain ⟨g9, hg9⟩ : ∃ g, w7.heap.size = g := ⟨_, rfl⟩
  rw [hg9] at q8
  obtain ⟨W9, hW9, HTH, HR9, HB9, _, _⟩ := let_write (q := p) (m := a) q8 rfl HLA.out b8 b8.size (Nat.le_of_eq hg9)
  have HW9 := Lib.hid hW9
  have HB9' : Hid (Below w7.heap.size w7 W9) := HB9
  have HIA9 := Lib.hid (HIA7.out.below HB9'.out)
  have HRA9 := Lib.hid ((HB9'.out.block g (Array.getElem?_eq_some_iff.1 HR7.out).1).trans HR7.out)
  obtain ⟨k0, _⟩ := ltRow_of HRA9.out HLA.out
  clear q8 b8 s8 hW9 HB9
  have HTU : Hid (turnL a = (⟨a.kind, a.from_, a.to_, a.session, a.refs, a.wants, a.haves, a.off, 1, a.pack, a.data⟩ : Lt)) := Lib.hid (by unfold turnL; rw [if_neg (by have := HK.out; omega), if_pos HK.out])
  have hgr := grown_set (w := W9) g9 8 (.int .i64 1)
  have hrt := row_total HR9.out 1
  obtain ⟨_, _, _, _, _, _, _, _, c8, _⟩ := ltRow_of HR9.out HLA.out
  have f8 := row_free HR9.out 8
  have htt : total64 (⟨a.kind, a.from_, a.to_, a.session, a.refs, a.wants, a.haves, a.off, 1, a.pack, a.data⟩ : Lt) := ⟨(by decide : (-9223372036854775808 : Int) ≤ 1), (by decide : (1 : Int) ≤ 9223372036854775807)⟩
  have hbt : Below w7.heap.size w7 (W9.setCell ⟨g9, 8, none⟩ (.int .i64 1)) := bel_grown HB9'.out HB9'.out.size hgr (Nat.le_of_eq hg9)
  have hit : LtIn (W9.setCell ⟨g9, 8, none⟩ (.int .i64 1)) (⟨a.kind, a.from_, a.to_, a.session, a.refs, a.wants, a.haves, a.off, 1, a.pack, a.data⟩ : Lt) p := by
    have h := HIA7.out.below hbt
    exact ⟨h.len, h.rok, h.wok, h.hok, h.rr, h.wr, h.hr, h.dr⟩
  have hka := (hbt.block g (Array.getElem?_eq_some_iff.1 HR7.out).1).trans HR7.out
  obtain ⟨W10, hW10⟩ : ∃ W, W9.setCell ⟨g9, 8, none⟩ (.int .i64 1) = W := ⟨_, rfl⟩
  rw [hW10] at hrt hbt hit hka
  clear hgr
  have d1 : (a.kind == 1) = false := by rw [HK.out]; rfl
  have d2 : (a.kind == 2) = false := by rw [HK.out]; rfl
  have d3 : (a.kind == 3) = true := by rw [HK.out]; rfl
  have HFT := Lib.hid (turnL_bad a HR.out.1)
  rw [HTU.out] at HFT
  have HTT := Lib.hid htt
  have HRT := Lib.hid hrt
  have HIT := Lib.hid hit
  have HBT := Lib.hid hbt
  have HIQZ := Lib.hid (info_leta (⟨a.kind, a.from_, a.to_, a.session, a.refs, a.wants, a.haves, a.off, 1, a.pack, a.data⟩ : Lt) p hit.len)
  have HKA := Lib.hid (hka : W10.heap[g]? = some (.cells (a.cells p).toArray 28 (0, 0)))
  clear htt hrt hit hbt hka
  go_wp2_with (first
    | ((with_reducible (refine wpList_load_row_w _ _ rfl _ rfl _ _ _ _ HR7.out Try.underlying28 rfl HIL.out ?_ ?_)); (focus (rfl)))
    | ((with_reducible (refine wpList_store_mid rfl _ _ _ rfl ?_ ?_ ?_ ?_ ?_ ?_ ?_ ?_ ?_)); (exact g9); (exact 0); (exact (a.cells p).toArray); (exact rfl); (exact rfl); (exact HTH.out); (exact HIL.out); (exact HOL.out); rw [HW9.out])
    | ((with_reducible (refine wpList_load_row_w _ _ rfl _ rfl _ _ _ _ HRT.out Try.underlying28 rfl HIQZ.out ?_ ?_)); (focus (rfl))))
  refine (write_bad (⟨a.kind, a.from_, a.to_, a.session, a.refs, a.wants, a.haves, a.off, 1, a.pack, a.data⟩ : Lt) p W10 HIT.out HTT.out HFT.out).mono ?_
  rintro e w10 ⟨rfl, hb10⟩
  have HR10 := Lib.hid ((hb10.block g (Array.getElem?_eq_some_iff.1 HKA.out).1).trans HKA.out)
  have HB10 := Lib.hid (ext_trans HB7.out (ext_trans HBT.out hb10))
  have HIA10 := Lib.hid (HIA.out.below HB10.out)
  clear hb10
  go_wp2_with ((with_reducible (refine wpList_load_row_w _ _ rfl _ rfl _ _ _ _ HR10.out Try.underlying28 rfl HIL.out ?_ ?_)); (focus (rfl)))
  refine (lsame_any a a p p w10 HIA10.out HIA10.out).mono ?_
  rintro e w11 ⟨rfl, hb11⟩
  rw [sameL_self]
  go_wp2_with fail
  go_ret
  exact ⟨rfl, HBW.out _ (ext_trans HB10.out hb11)⟩

set_option maxRecDepth 100000 in
set_option maxHeartbeats 8000000 in
theorem wireOne_4t (a b : Lt) (p q : LtP) (w : World) (ha : LtIn w a p) (hb : LtIn w b q) (hta : total64 a) (htb : total64 b) (ra : rightL a = true) (rb : rightL b = true) (hk : a.kind = 4) :
    Calls Try.prog 7 #[a.val p, b.val q] w fun e w' => e = .returned (.bool true) ∧ Below w.heap.size w w' := by
  obtain ⟨W1, W2, g, g', hg, hg', hW1, hW2, HGS, HRA, HRB, HB2⟩ := two_lets (w := w) 28 a b p q ha.len hb.len
  have HIA := Lib.hid (ha.below (hg ▸ HB2.out))
  have HIB := Lib.hid (hb.below (hg ▸ HB2.out))
  have HLA := Lib.hid ha.len
  have HLB := Lib.hid hb.len
  have HTA := Lib.hid hta
  have HTB := Lib.hid htb
  have HFA : Hid (∀ W, Below W2.heap.size W2 W → W.heap[g]? = some (.cells (a.cells p).toArray 28 (0, 0))) := Lib.hid (fun W h => (h.block g HGS.out.1).trans HRA.out)
  have HFB : Hid (∀ W, Below W2.heap.size W2 W → W.heap[g']? = some (.cells (b.cells q).toArray 28 (0, 0))) := Lib.hid (fun W h => (h.block g' HGS.out.2.1).trans HRB.out)
  have HBW : Hid (∀ W, Below W2.heap.size W2 W → Below g w W) := Lib.hid (fun W h => HB2.out.trans (h.mono HGS.out.2.2.2))
  have HIL := Lib.hid (info_leta a p ha.len)
  have HIM := Lib.hid (info_leta b q hb.len)
  have HOL := Lib.hid (all_oneCell_toArray (a.cells_one p))
  have HR := Lib.hid (And.intro ra rb)
  have HK := Lib.hid hk
  clear hk
  unfold Lt.val
  rw [hg]
  clear ha hb hta htb ra rb
  go_enter Try.func7, Try.ntmps7
  go_wp2_with fail
  clear hg hg' hW1 hW2
  refine (alive_any W2).mono ?_
  rintro e w3 ⟨rfl, hb3⟩
  have HB3 := Lib.hid hb3
  have HR3 := Lib.hid (HFA.out _ hb3)
  have HIA3 := Lib.hid (HIA.out.below hb3)
  clear hb3
  go_wp2_with ((with_reducible (refine wpList_load_row_w _ _ rfl _ rfl _ _ _ _ HR3.out Try.underlying28 rfl HIL.out ?_ ?_)); (focus (rfl)))
  refine (write_ok a p w3 HIA3.out HTA.out HR.out.1).mono ?_
  rintro e w4 ⟨v4, rfl, hs4, hb4⟩
  have HB4 := Lib.hid (ext_trans HB3.out hb4)
  have HS4 := Lib.hid hs4
  have HR4 := Lib.hid (HFB.out _ HB4.out)
  have HIB4 := Lib.hid (HIB.out.below HB4.out)
  clear hs4 hb4
  go_wp2_with ((with_reducible (refine wpList_load_row_w _ _ rfl _ rfl _ _ _ _ HR4.out Try.underlying28 rfl HIM.out ?_ ?_)); (focus (rfl)))
  refine (write_ok b q w4 HIB4.out HTB.out HR.out.2).mono ?_
  rintro e w5 ⟨v5, rfl, hs5, hb5⟩
  have HB5 := Lib.hid (ext_trans HB4.out hb5)
  have HS5 := Lib.hid hs5
  have HS45 := Lib.hid (HS4.out.below hb5)
  clear hs5 hb5
  go_wp2_with fail
  have HIL2 := Lib.hid (info_let a p HLA.out)
  have HIM2 := Lib.hid (info_let b q HLB.out)
  refine wp_region_sched (fun w' => Below W2.heap.size W2 w') [(true, 0), (true, 1), (true, 2), (true, 3), (true, 4), (true, 5), (true, 6), (true, 7), (true, 8), (true, 10), (true, 11), (false, 9), (false, 12), (true, 13), (true, 14)] (by kernel_rfl) (by kernel_rfl) rfl (by kernel_rfl) HB5.out.drew ?_
  (repeat (first | (refine wpS_pass _ rfl (by rfl) ?_; simp only [Act.put, List.getElem_toArray, List.getElem_cons_zero, List.getElem_cons_succ, List.setIfInBounds_toArray, List.set_cons_zero, List.set_cons_succ]) | (refine wpS_take _ ?_ rfl (by rfl) ?_ ?_; rotate_left; (focus (intro w' hS'; (try dsimp only at hS'); (repeat (have hS1 := hS'.1; replace hS' := hS'.2)); go_simp; (try with_reducible rfl); done)); simp only [Act.put, List.getElem_toArray, List.getElem_cons_zero, List.getElem_cons_succ, List.setIfInBounds_toArray, List.set_cons_zero, List.set_cons_succ])))
  refine wpS_load _ rfl (by rfl) _ _ rfl g 0 rfl (a.cells p) _ (fun w' hS' => range_of_row (HFA.out w' hS')) Try.underlying28 rfl HIL2.out ?_
  simp only [Act.put, List.getElem_toArray, List.getElem_cons_zero, List.getElem_cons_succ, List.setIfInBounds_toArray, List.set_cons_zero, List.set_cons_succ]
  refine wpS_load _ rfl (by rfl) _ _ rfl g' 0 rfl (b.cells q) _ (fun w' hS' => range_of_row (HFB.out w' hS')) Try.underlying28 rfl HIM2.out ?_
  simp only [Act.put, List.getElem_toArray, List.getElem_cons_zero, List.getElem_cons_succ, List.setIfInBounds_toArray, List.set_cons_zero, List.set_cons_succ]
  refine wpS_do _ rfl (by rfl) (fun K hK => ?_)
  go_simp
  refine (same_s v4 v5 _ _ _ (HS45.out.below (Below.refl _ _).drew) (HS5.out.below (Below.refl _ _).drew)).mono ?_
  rintro e w6 ⟨rfl, hb6⟩
  have HB6 : Hid (Below W2.heap.size W2 w6) := Lib.hid (ext_trans HB5.out ((Below.refl _ _).drew.trans hb6))
  refine hK.out _ _ HB6.out (fun hS => ?_)
  clear hK hS hb6
  refine wpS_do _ rfl (by rfl) (fun K hK => ?_)
  go_simp
  refine (lsame_any a b p q w6 (HIA.out.below HB6.out) (HIB.out.below HB6.out)).mono ?_
  rintro e w7 ⟨rfl, hb7⟩
  have HB7 : Hid (Below W2.heap.size W2 w7) := Lib.hid (ext_trans HB6.out hb7)
  refine hK.out _ _ HB7.out (fun hS => ?_)
  clear hK hS hb7
  rw [same_write HR.out.1 HR.out.2 HIA.out.lok HIB.out.lok]
  have hbb : (sameL a b != sameL a b) = false := by cases sameL a b <;> rfl
  (repeat (first | (refine wpS_pass _ rfl (by rfl) ?_; simp only [Act.put, List.getElem_toArray, List.getElem_cons_zero, List.getElem_cons_succ, List.setIfInBounds_toArray, List.set_cons_zero, List.set_cons_succ]) | (refine wpS_take _ ?_ rfl (by rfl) ?_ ?_; rotate_left; (focus (intro w' hS'; (try dsimp only at hS'); (repeat (have hS1 := hS'.1; replace hS' := hS'.2)); go_simp; (try with_reducible rfl); done)); simp only [Act.put, List.getElem_toArray, List.getElem_cons_zero, List.getElem_cons_succ, List.setIfInBounds_toArray, List.set_cons_zero, List.set_cons_succ])))
  refine wpS_done ?_
  clear hbb
  have HR7 := Lib.hid (HFA.out _ HB7.out)
  have HIA7 := Lib.hid (HIA.out.below HB7.out)
  obtain ⟨W8, hW8⟩ : ∃ W, w7.alloc (.cells #[Value.int .i64 0, Value.int .i64 0, Value.int .i64 0, Value.int .i64 0, Value.slice none 0 0, Value.slice none 0 0, Value.slice none 0 0, Value.int .i64 0, Value.int .i64 0, Value.int .u8 0, Value.int .u8 0, Value.int .u8 0, Value.int .u8 0, Value.int .u8 0, Value.int .u8 0, Value.int .u8 0, Value.int .u8 0, Value.int .u8 0, Value.int .u8 0, Value.int .u8 0, Value.int .u8 0, Value.int .u8 0, Value.int .u8 0, Value.int .u8 0, Value.int .u8 0, Value.int .u8 0, Value.int .u8 0, Value.int .u8 0, Value.int .u8 0, Value.int .u8 0, Value.int .u8 0, Value.int .u8 0, Value.int .u8 0, Value.int .u8 0, Value.int .u8 0, Value.int .u8 0, Value.int .u8 0, Value.int .u8 0, Value.int .u8 0, Value.int .u8 0, Value.int .u8 0, Value.slice none 0 0] 28) = W := ⟨_, rfl⟩
  obtain ⟨q8, b8, s8⟩ := new_row hW8
  rw [← lt0_cells] at q8
  obtain ⟨g9, hg9⟩ : ∃ g, w7.heap.size = g := ⟨_, rfl⟩
  rw [hg9] at q8
  obtain ⟨W9, hW9, HTH, HR9, HB9, _, _⟩ := let_write (q := p) (m := a) q8 rfl HLA.out b8 b8.size (Nat.le_of_eq hg9)
  have HW9 := Lib.hid hW9
  have HB9' : Hid (Below w7.heap.size w7 W9) := HB9
  have HIA9 := Lib.hid (HIA7.out.below HB9'.out)
  have HRA9 := Lib.hid ((HB9'.out.block g (Array.getElem?_eq_some_iff.1 HR7.out).1).trans HR7.out)
  obtain ⟨k0, _⟩ := ltRow_of HRA9.out HLA.out
  clear q8 b8 s8 hW9 HB9
  have HTU : Hid (turnL a = (⟨a.kind, a.from_, a.to_, a.session, a.refs, [id1], a.haves, a.off, a.total, a.pack, a.data⟩ : Lt)) := Lib.hid (by unfold turnL; rw [if_neg (by have := HK.out; omega), if_neg (by have := HK.out; omega)])
  obtain ⟨WI, hWI⟩ : ∃ W, W9.alloc (.cells (b8s id1).toArray 25) = W := ⟨_, rfl⟩
  obtain ⟨qi, bi, si⟩ := new_row hWI
  have hWI' : W9.alloc (.cells #[Value.int .u8 1, Value.int .u8 0, Value.int .u8 0, Value.int .u8 0, Value.int .u8 0, Value.int .u8 0, Value.int .u8 0, Value.int .u8 0, Value.int .u8 0, Value.int .u8 0, Value.int .u8 0, Value.int .u8 0, Value.int .u8 0, Value.int .u8 0, Value.int .u8 0, Value.int .u8 0, Value.int .u8 0, Value.int .u8 0, Value.int .u8 0, Value.int .u8 0, Value.int .u8 0, Value.int .u8 0, Value.int .u8 0, Value.int .u8 0, Value.int .u8 0, Value.int .u8 0, Value.int .u8 0, Value.int .u8 0, Value.int .u8 0, Value.int .u8 0, Value.int .u8 0, Value.int .u8 0] 25) = WI := hWI
  have hri := (bi.block g9 (Array.getElem?_eq_some_iff.1 HR9.out).1).trans HR9.out
  have hrd := range_rd (range_of_row qi)
  have hgr := grown_set (w := WI) g9 5 (.slice (some ⟨W9.heap.size, 0, none⟩) 1 1)
  have hrt := row_wants hri (some ⟨W9.heap.size, 0, none⟩) 1 [id1]
  obtain ⟨_, _, _, _, _, c5, _⟩ := ltRow_of hri HLA.out
  have f5 := row_free hri 5
  have htt : total64 (⟨a.kind, a.from_, a.to_, a.session, a.refs, [id1], a.haves, a.off, a.total, a.pack, a.data⟩ : Lt) := HTA.out
  have hb9 : Below w7.heap.size w7 WI := ext_trans HB9'.out bi
  have hbt : Below w7.heap.size w7 (WI.setCell ⟨g9, 5, none⟩ (.slice (some ⟨W9.heap.size, 0, none⟩) 1 1)) := bel_grown hb9 hb9.size hgr (Nat.le_of_eq hg9)
  have hgl : g9 < W9.heap.size := (Array.getElem?_eq_some_iff.1 HR9.out).1
  have hit : LtIn (WI.setCell ⟨g9, 5, none⟩ (.slice (some ⟨W9.heap.size, 0, none⟩) 1 1)) (⟨a.kind, a.from_, a.to_, a.session, a.refs, [id1], a.haves, a.off, a.total, a.pack, a.data⟩ : Lt) (⟨p.rA, p.rc, some ⟨W9.heap.size, 0, none⟩, 1, p.hA, p.hc, p.dA, p.dc⟩ : LtP) := by
    have h := HIA7.out.below hbt
    have h1 : Rd (WI.setCell ⟨g9, 5, none⟩ (.slice (some ⟨W9.heap.size, 0, none⟩) 1 1)) (some ⟨W9.heap.size, 0, none⟩) (idc [id1]) := by
      have := hrd.setCell (p := ⟨g9, 5, none⟩) (fun ad e => by cases e; show W9.heap.size ≠ g9; omega) (.slice (some ⟨W9.heap.size, 0, none⟩) 1 1)
      simpa [idc] using this
    exact ⟨h.len, h.rok, fun x hx => (by rw [List.mem_singleton.1 hx]; rfl), h.hok, h.rr, ⟨h1, Nat.le_refl _, by show (1 : Nat) ≤ _; decide⟩, h.hr, h.dr⟩
  have hka := (hbt.block g (Array.getElem?_eq_some_iff.1 HR7.out).1).trans HR7.out
  obtain ⟨W10, hW10⟩ : ∃ W, WI.setCell ⟨g9, 5, none⟩ (.slice (some ⟨W9.heap.size, 0, none⟩) 1 1) = W := ⟨_, rfl⟩
  have hrt' : (WI.setCell ⟨g9, 5, none⟩ (.slice (some ⟨W9.heap.size, 0, none⟩) 1 1)).heap[g9]? = some (.cells (Lt.cells (⟨a.kind, a.from_, a.to_, a.session, a.refs, [id1], a.haves, a.off, a.total, a.pack, a.data⟩ : Lt) (⟨p.rA, p.rc, some ⟨W9.heap.size, 0, none⟩, 1, p.hA, p.hc, p.dA, p.dc⟩ : LtP)).toArray 28 (0, 0)) := hrt
  rw [hW10] at hrt' hbt hit hka
  have hrt := hrt'
  clear hgr qi bi si hri hrd hb9 hgl hrt' hWI
  have d1 : (a.kind == 1) = false := by rw [HK.out]; rfl
  have d2 : (a.kind == 2) = false := by rw [HK.out]; rfl
  have d3 : (a.kind == 3) = false := by rw [HK.out]; rfl
  have HFT := Lib.hid (turnL_bad a HR.out.1)
  rw [HTU.out] at HFT
  have HTT := Lib.hid htt
  have HRT := Lib.hid hrt
  have HIT := Lib.hid hit
  have HBT := Lib.hid hbt
  have HIQZ := Lib.hid (info_leta (⟨a.kind, a.from_, a.to_, a.session, a.refs, [id1], a.haves, a.off, a.total, a.pack, a.data⟩ : Lt) (⟨p.rA, p.rc, some ⟨W9.heap.size, 0, none⟩, 1, p.hA, p.hc, p.dA, p.dc⟩ : LtP) hit.len)
  have HKA := Lib.hid (hka : W10.heap[g]? = some (.cells (a.cells p).toArray 28 (0, 0)))
  clear htt hrt hit hbt hka
  go_wp2_with (first
    | ((with_reducible (refine wpList_load_row_w _ _ rfl _ rfl _ _ _ _ HR7.out Try.underlying28 rfl HIL.out ?_ ?_)); (focus (rfl)))
    | ((with_reducible (refine wpList_store_mid rfl _ _ _ rfl ?_ ?_ ?_ ?_ ?_ ?_ ?_ ?_ ?_)); (exact g9); (exact 0); (exact (a.cells p).toArray); (exact rfl); (exact rfl); (exact HTH.out); (exact HIL.out); (exact HOL.out); rw [HW9.out])
    | ((with_reducible (refine wpList_load_row_w _ _ rfl _ rfl _ _ _ _ HRT.out Try.underlying28 rfl HIQZ.out ?_ ?_)); (focus (rfl))))
  refine (write_bad (⟨a.kind, a.from_, a.to_, a.session, a.refs, [id1], a.haves, a.off, a.total, a.pack, a.data⟩ : Lt) (⟨p.rA, p.rc, some ⟨W9.heap.size, 0, none⟩, 1, p.hA, p.hc, p.dA, p.dc⟩ : LtP) W10 HIT.out HTT.out HFT.out).mono ?_
  rintro e w10 ⟨rfl, hb10⟩
  have HR10 := Lib.hid ((hb10.block g (Array.getElem?_eq_some_iff.1 HKA.out).1).trans HKA.out)
  have HB10 := Lib.hid (ext_trans HB7.out (ext_trans HBT.out hb10))
  have HIA10 := Lib.hid (HIA.out.below HB10.out)
  clear hb10
  go_wp2_with ((with_reducible (refine wpList_load_row_w _ _ rfl _ rfl _ _ _ _ HR10.out Try.underlying28 rfl HIL.out ?_ ?_)); (focus (rfl)))
  refine (lsame_any a a p p w10 HIA10.out HIA10.out).mono ?_
  rintro e w11 ⟨rfl, hb11⟩
  rw [sameL_self]
  go_wp2_with fail
  go_ret
  exact ⟨rfl, HBW.out _ (ext_trans HB10.out hb11)⟩

set_option maxRecDepth 100000 in
set_option maxHeartbeats 8000000 in
theorem wireOne_4f (a b : Lt) (p q : LtP) (w : World) (ha : LtIn w a p) (hb : LtIn w b q) (hta : total64 a) (htb : total64 b) (ra : rightL a = true) (rb : rightL b = false) (hk : a.kind = 4) :
    Calls Try.prog 7 #[a.val p, b.val q] w fun e w' => e = .returned (.bool true) ∧ Below w.heap.size w w' := by
  obtain ⟨W1, W2, g, g', hg, hg', hW1, hW2, HGS, HRA, HRB, HB2⟩ := two_lets (w := w) 28 a b p q ha.len hb.len
  have HIA := Lib.hid (ha.below (hg ▸ HB2.out))
  have HIB := Lib.hid (hb.below (hg ▸ HB2.out))
  have HLA := Lib.hid ha.len
  have HLB := Lib.hid hb.len
  have HTA := Lib.hid hta
  have HTB := Lib.hid htb
  have HFA : Hid (∀ W, Below W2.heap.size W2 W → W.heap[g]? = some (.cells (a.cells p).toArray 28 (0, 0))) := Lib.hid (fun W h => (h.block g HGS.out.1).trans HRA.out)
  have HFB : Hid (∀ W, Below W2.heap.size W2 W → W.heap[g']? = some (.cells (b.cells q).toArray 28 (0, 0))) := Lib.hid (fun W h => (h.block g' HGS.out.2.1).trans HRB.out)
  have HBW : Hid (∀ W, Below W2.heap.size W2 W → Below g w W) := Lib.hid (fun W h => HB2.out.trans (h.mono HGS.out.2.2.2))
  have HIL := Lib.hid (info_leta a p ha.len)
  have HIM := Lib.hid (info_leta b q hb.len)
  have HOL := Lib.hid (all_oneCell_toArray (a.cells_one p))
  have HR := Lib.hid (And.intro ra rb)
  have HK := Lib.hid hk
  clear hk
  unfold Lt.val
  rw [hg]
  clear ha hb hta htb ra rb
  go_enter Try.func7, Try.ntmps7
  go_wp2_with fail
  clear hg hg' hW1 hW2
  refine (alive_any W2).mono ?_
  rintro e w3 ⟨rfl, hb3⟩
  have HB3 := Lib.hid hb3
  have HR3 := Lib.hid (HFA.out _ hb3)
  have HIA3 := Lib.hid (HIA.out.below hb3)
  clear hb3
  go_wp2_with ((with_reducible (refine wpList_load_row_w _ _ rfl _ rfl _ _ _ _ HR3.out Try.underlying28 rfl HIL.out ?_ ?_)); (focus (rfl)))
  refine (write_ok a p w3 HIA3.out HTA.out HR.out.1).mono ?_
  rintro e w4 ⟨v4, rfl, hs4, hb4⟩
  have HB4 := Lib.hid (ext_trans HB3.out hb4)
  have HS4 := Lib.hid hs4
  have HR4 := Lib.hid (HFB.out _ HB4.out)
  have HIB4 := Lib.hid (HIB.out.below HB4.out)
  clear hs4 hb4
  go_wp2_with ((with_reducible (refine wpList_load_row_w _ _ rfl _ rfl _ _ _ _ HR4.out Try.underlying28 rfl HIM.out ?_ ?_)); (focus (rfl)))
  refine (write_bad b q w4 HIB4.out HTB.out HR.out.2).mono ?_
  rintro e w5 ⟨rfl, hb5⟩
  have HB5 := Lib.hid (ext_trans HB4.out hb5)
  clear hb5
  go_wp2_with fail
  refine wp_region_sched (fun w' => Below W2.heap.size W2 w') [(true, 0), (true, 1), (true, 2), (true, 3), (true, 4), (true, 5), (true, 6), (true, 7), (true, 8), (true, 10), (true, 11), (false, 9), (false, 12), (true, 13), (true, 14)] (by kernel_rfl) (by kernel_rfl) rfl (by kernel_rfl) HB5.out.drew ?_
  (repeat (first | (refine wpS_pass _ rfl (by rfl) ?_; simp only [Act.put, List.getElem_toArray, List.getElem_cons_zero, List.getElem_cons_succ, List.setIfInBounds_toArray, List.set_cons_zero, List.set_cons_succ]) | (refine wpS_take _ ?_ rfl (by rfl) ?_ ?_; rotate_left; (focus (intro w' hS'; (try dsimp only at hS'); (repeat (have hS1 := hS'.1; replace hS' := hS'.2)); go_simp; (try with_reducible rfl); done)); simp only [Act.put, List.getElem_toArray, List.getElem_cons_zero, List.getElem_cons_succ, List.setIfInBounds_toArray, List.set_cons_zero, List.set_cons_succ])))
  refine wpS_skip _ rfl (by rfl) HB5.out.drew ?_
  simp only [Act.put, List.getElem_toArray, List.getElem_cons_zero, List.getElem_cons_succ, List.setIfInBounds_toArray, List.set_cons_zero, List.set_cons_succ]
  (repeat (first | (refine wpS_pass _ rfl (by rfl) ?_; simp only [Act.put, List.getElem_toArray, List.getElem_cons_zero, List.getElem_cons_succ, List.setIfInBounds_toArray, List.set_cons_zero, List.set_cons_succ]) | (refine wpS_take _ ?_ rfl (by rfl) ?_ ?_; rotate_left; (focus (intro w' hS'; (try dsimp only at hS'); (repeat (have hS1 := hS'.1; replace hS' := hS'.2)); go_simp; (try with_reducible rfl); done)); simp only [Act.put, List.getElem_toArray, List.getElem_cons_zero, List.getElem_cons_succ, List.setIfInBounds_toArray, List.set_cons_zero, List.set_cons_succ])))
  refine wpS_skip _ rfl (by rfl) HB5.out.drew ?_
  simp only [Act.put, List.getElem_toArray, List.getElem_cons_zero, List.getElem_cons_succ, List.setIfInBounds_toArray, List.set_cons_zero, List.set_cons_succ]
  (repeat (first | (refine wpS_pass _ rfl (by rfl) ?_; simp only [Act.put, List.getElem_toArray, List.getElem_cons_zero, List.getElem_cons_succ, List.setIfInBounds_toArray, List.set_cons_zero, List.set_cons_succ]) | (refine wpS_take _ ?_ rfl (by rfl) ?_ ?_; rotate_left; (focus (intro w' hS'; (try dsimp only at hS'); (repeat (have hS1 := hS'.1; replace hS' := hS'.2)); go_simp; (try with_reducible rfl); done)); simp only [Act.put, List.getElem_toArray, List.getElem_cons_zero, List.getElem_cons_succ, List.setIfInBounds_toArray, List.set_cons_zero, List.set_cons_succ])))
  refine wpS_done ?_
  have HB7 : Hid (Below W2.heap.size W2 w5.drew) := Lib.hid HB5.out.drew
  generalize w5.drew = w7 at *
  have HR7 := Lib.hid (HFA.out _ HB7.out)
  have HIA7 := Lib.hid (HIA.out.below HB7.out)
  obtain ⟨W8, hW8⟩ : ∃ W, w7.alloc (.cells #[Value.int .i64 0, Value.int .i64 0, Value.int .i64 0, Value.int .i64 0, Value.slice none 0 0, Value.slice none 0 0, Value.slice none 0 0, Value.int .i64 0, Value.int .i64 0, Value.int .u8 0, Value.int .u8 0, Value.int .u8 0, Value.int .u8 0, Value.int .u8 0, Value.int .u8 0, Value.int .u8 0, Value.int .u8 0, Value.int .u8 0, Value.int .u8 0, Value.int .u8 0, Value.int .u8 0, Value.int .u8 0, Value.int .u8 0, Value.int .u8 0, Value.int .u8 0, Value.int .u8 0, Value.int .u8 0, Value.int .u8 0, Value.int .u8 0, Value.int .u8 0, Value.int .u8 0, Value.int .u8 0, Value.int .u8 0, Value.int .u8 0, Value.int .u8 0, Value.int .u8 0, Value.int .u8 0, Value.int .u8 0, Value.int .u8 0, Value.int .u8 0, Value.int .u8 0, Value.slice none 0 0] 28) = W := ⟨_, rfl⟩
  obtain ⟨q8, b8, s8⟩ := new_row hW8
  rw [← lt0_cells] at q8
  obtain ⟨g9, hg9⟩ : ∃ g, w7.heap.size = g := ⟨_, rfl⟩
  rw [hg9] at q8
  obtain ⟨W9, hW9, HTH, HR9, HB9, _, _⟩ := let_write (q := p) (m := a) q8 rfl HLA.out b8 b8.size (Nat.le_of_eq hg9)
  have HW9 := Lib.hid hW9
  have HB9' : Hid (Below w7.heap.size w7 W9) := HB9
  have HIA9 := Lib.hid (HIA7.out.below HB9'.out)
  have HRA9 := Lib.hid ((HB9'.out.block g (Array.getElem?_eq_some_iff.1 HR7.out).1).trans HR7.out)
  obtain ⟨k0, _⟩ := ltRow_of HRA9.out HLA.out
  clear q8 b8 s8 hW9 HB9
  have HTU : Hid (turnL a = (⟨a.kind, a.from_, a.to_, a.session, a.refs, [id1], a.haves, a.off, a.total, a.pack, a.data⟩ : Lt)) := Lib.hid (by unfold turnL; rw [if_neg (by have := HK.out; omega), if_neg (by have := HK.out; omega)])
  obtain ⟨WI, hWI⟩ : ∃ W, W9.alloc (.cells (b8s id1).toArray 25) = W := ⟨_, rfl⟩
  obtain ⟨qi, bi, si⟩ := new_row hWI
  have hWI' : W9.alloc (.cells #[Value.int .u8 1, Value.int .u8 0, Value.int .u8 0, Value.int .u8 0, Value.int .u8 0, Value.int .u8 0, Value.int .u8 0, Value.int .u8 0, Value.int .u8 0, Value.int .u8 0, Value.int .u8 0, Value.int .u8 0, Value.int .u8 0, Value.int .u8 0, Value.int .u8 0, Value.int .u8 0, Value.int .u8 0, Value.int .u8 0, Value.int .u8 0, Value.int .u8 0, Value.int .u8 0, Value.int .u8 0, Value.int .u8 0, Value.int .u8 0, Value.int .u8 0, Value.int .u8 0, Value.int .u8 0, Value.int .u8 0, Value.int .u8 0, Value.int .u8 0, Value.int .u8 0, Value.int .u8 0] 25) = WI := hWI
  have hri := (bi.block g9 (Array.getElem?_eq_some_iff.1 HR9.out).1).trans HR9.out
  have hrd := range_rd (range_of_row qi)
  have hgr := grown_set (w := WI) g9 5 (.slice (some ⟨W9.heap.size, 0, none⟩) 1 1)
  have hrt := row_wants hri (some ⟨W9.heap.size, 0, none⟩) 1 [id1]
  obtain ⟨_, _, _, _, _, c5, _⟩ := ltRow_of hri HLA.out
  have f5 := row_free hri 5
  have htt : total64 (⟨a.kind, a.from_, a.to_, a.session, a.refs, [id1], a.haves, a.off, a.total, a.pack, a.data⟩ : Lt) := HTA.out
  have hb9 : Below w7.heap.size w7 WI := ext_trans HB9'.out bi
  have hbt : Below w7.heap.size w7 (WI.setCell ⟨g9, 5, none⟩ (.slice (some ⟨W9.heap.size, 0, none⟩) 1 1)) := bel_grown hb9 hb9.size hgr (Nat.le_of_eq hg9)
  have hgl : g9 < W9.heap.size := (Array.getElem?_eq_some_iff.1 HR9.out).1
  have hit : LtIn (WI.setCell ⟨g9, 5, none⟩ (.slice (some ⟨W9.heap.size, 0, none⟩) 1 1)) (⟨a.kind, a.from_, a.to_, a.session, a.refs, [id1], a.haves, a.off, a.total, a.pack, a.data⟩ : Lt) (⟨p.rA, p.rc, some ⟨W9.heap.size, 0, none⟩, 1, p.hA, p.hc, p.dA, p.dc⟩ : LtP) := by
    have h := HIA7.out.below hbt
    have h1 : Rd (WI.setCell ⟨g9, 5, none⟩ (.slice (some ⟨W9.heap.size, 0, none⟩) 1 1)) (some ⟨W9.heap.size, 0, none⟩) (idc [id1]) := by
      have := hrd.setCell (p := ⟨g9, 5, none⟩) (fun ad e => by cases e; show W9.heap.size ≠ g9; omega) (.slice (some ⟨W9.heap.size, 0, none⟩) 1 1)
      simpa [idc] using this
    exact ⟨h.len, h.rok, fun x hx => (by rw [List.mem_singleton.1 hx]; rfl), h.hok, h.rr, ⟨h1, Nat.le_refl _, by show (1 : Nat) ≤ _; decide⟩, h.hr, h.dr⟩
  have hka := (hbt.block g (Array.getElem?_eq_some_iff.1 HR7.out).1).trans HR7.out
  obtain ⟨W10, hW10⟩ : ∃ W, WI.setCell ⟨g9, 5, none⟩ (.slice (some ⟨W9.heap.size, 0, none⟩) 1 1) = W := ⟨_, rfl⟩
  have hrt' : (WI.setCell ⟨g9, 5, none⟩ (.slice (some ⟨W9.heap.size, 0, none⟩) 1 1)).heap[g9]? = some (.cells (Lt.cells (⟨a.kind, a.from_, a.to_, a.session, a.refs, [id1], a.haves, a.off, a.total, a.pack, a.data⟩ : Lt) (⟨p.rA, p.rc, some ⟨W9.heap.size, 0, none⟩, 1, p.hA, p.hc, p.dA, p.dc⟩ : LtP)).toArray 28 (0, 0)) := hrt
  rw [hW10] at hrt' hbt hit hka
  have hrt := hrt'
  clear hgr qi bi si hri hrd hb9 hgl hrt' hWI
  have d1 : (a.kind == 1) = false := by rw [HK.out]; rfl
  have d2 : (a.kind == 2) = false := by rw [HK.out]; rfl
  have d3 : (a.kind == 3) = false := by rw [HK.out]; rfl
  have HFT := Lib.hid (turnL_bad a HR.out.1)
  rw [HTU.out] at HFT
  have HTT := Lib.hid htt
  have HRT := Lib.hid hrt
  have HIT := Lib.hid hit
  have HBT := Lib.hid hbt
  have HIQZ := Lib.hid (info_leta (⟨a.kind, a.from_, a.to_, a.session, a.refs, [id1], a.haves, a.off, a.total, a.pack, a.data⟩ : Lt) (⟨p.rA, p.rc, some ⟨W9.heap.size, 0, none⟩, 1, p.hA, p.hc, p.dA, p.dc⟩ : LtP) hit.len)
  have HKA := Lib.hid (hka : W10.heap[g]? = some (.cells (a.cells p).toArray 28 (0, 0)))
  clear htt hrt hit hbt hka
  go_wp2_with (first
    | ((with_reducible (refine wpList_load_row_w _ _ rfl _ rfl _ _ _ _ HR7.out Try.underlying28 rfl HIL.out ?_ ?_)); (focus (rfl)))
    | ((with_reducible (refine wpList_store_mid rfl _ _ _ rfl ?_ ?_ ?_ ?_ ?_ ?_ ?_ ?_ ?_)); (exact g9); (exact 0); (exact (a.cells p).toArray); (exact rfl); (exact rfl); (exact HTH.out); (exact HIL.out); (exact HOL.out); rw [HW9.out])
    | ((with_reducible (refine wpList_load_row_w _ _ rfl _ rfl _ _ _ _ HRT.out Try.underlying28 rfl HIQZ.out ?_ ?_)); (focus (rfl))))
  refine (write_bad (⟨a.kind, a.from_, a.to_, a.session, a.refs, [id1], a.haves, a.off, a.total, a.pack, a.data⟩ : Lt) (⟨p.rA, p.rc, some ⟨W9.heap.size, 0, none⟩, 1, p.hA, p.hc, p.dA, p.dc⟩ : LtP) W10 HIT.out HTT.out HFT.out).mono ?_
  rintro e w10 ⟨rfl, hb10⟩
  have HR10 := Lib.hid ((hb10.block g (Array.getElem?_eq_some_iff.1 HKA.out).1).trans HKA.out)
  have HB10 := Lib.hid (ext_trans HB7.out (ext_trans HBT.out hb10))
  have HIA10 := Lib.hid (HIA.out.below HB10.out)
  clear hb10
  go_wp2_with ((with_reducible (refine wpList_load_row_w _ _ rfl _ rfl _ _ _ _ HR10.out Try.underlying28 rfl HIL.out ?_ ?_)); (focus (rfl)))
  refine (lsame_any a a p p w10 HIA10.out HIA10.out).mono ?_
  rintro e w11 ⟨rfl, hb11⟩
  rw [sameL_self]
  go_wp2_with fail
  go_ret
  exact ⟨rfl, HBW.out _ (ext_trans HB10.out hb11)⟩

/-- WireOne -/
theorem wireOne_any (a b : Lt) (p q : LtP) (w : World) (ha : LtIn w a p) (hb : LtIn w b q) (hta : total64 a) (htb : total64 b) :
    Calls Try.prog 7 #[a.val p, b.val q] w fun e w' => e = .returned (.bool true) ∧ Below w.heap.size w w' := by
  cases ra : rightL a
  · exact wireOne_no a b p q w ha hb hta htb ra
  · cases rb : rightL b
    · rcases right_kind ra with k | k | k | k
      · exact wireOne_1f a b p q w ha hb hta htb ra rb k
      · exact wireOne_2f a b p q w ha hb hta htb ra rb k
      · exact wireOne_3f a b p q w ha hb hta htb ra rb k
      · exact wireOne_4f a b p q w ha hb hta htb ra rb k
    · rcases right_kind ra with k | k | k | k
      · exact wireOne_1t a b p q w ha hb hta htb ra rb k
      · exact wireOne_2t a b p q w ha hb hta htb ra rb k
      · exact wireOne_3t a b p q w ha hb hta htb ra rb k
      · exact wireOne_4t a b p q w ha hb hta htb ra rb k
end Go.Proofs.Ytfjfidhhmidflaa
