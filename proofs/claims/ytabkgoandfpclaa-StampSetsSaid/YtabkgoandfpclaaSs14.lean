
/- pollardref03.Sort, walked: by rising At, one of each (IsSort). Conditions: at most 1000000 operations. (Printed by wip/genSs14.py.) -/

import Derived.Test.YtabkgoandfpclaaSsB

import Derived.Test.YtabkgoandfpclaaBuild

namespace Go.Proofs.Ytabkgoandfpclaa

set_option linter.unusedVariables false

set_option linter.unusedSimpArgs false

set_option linter.unusedSectionVars false

open Go.RowKit

theorem at_cells (o : OpM) (j : Nat) (v : Value) (h : o.at_.cells[j]? = some v) : o.cells[1 + j]? = some v := by
  have hj := (List.getElem?_eq_some_iff.1 h).1
  have e : o.at_.cells.length = 2 := rfl
  rw [e] at hj
  rcases (by omega : j = 0 ∨ j = 1) with rfl | rfl
  · exact h
  · exact h
theorem rd_at {w : World} {b off : Nat} {os : List OpM} (hr : Rd w (some ⟨b, off, none⟩) (oc os)) (h : ∀ o ∈ os, o.data.length = 32) (i : Nat) (hi : i < os.length) : w.rangeAt b (off + i * 41 + 1) os[i].at_.cells := by
  intro j v hv
  have := rd_op hr h i hi (1 + j) v (at_cells _ j v hv)
  rw [← Nat.add_assoc] at this
  exact this
section

variable {P : Program} {ops : Array Oper} {rest : List Oper} {op : Oper} {a : Act} {w : World} {Q : Exit → Act → World → Prop}

theorem wpList_load_cs (ty : TypeId) (x : Operand) (g off : Nat) (cs : List Value) (hs : w.rangeAt g off cs) {d : TypeDesc} (hu : P.underlying ty = some d) (hd : d.isRow = true) (hi : (P.info? ty).map (·.size) = some cs.length)
    (hw : Region.wanted op (yielded ops a.tmps) = true) (ho : op.op = .load ty x) (hx : a.eval x = .pointer (some ⟨g, off, none⟩))
    (h : wpList P ops Q rest (a.put op.dst (.agg cs.toArray)) w) : wpList P ops Q (op :: rest) a w :=
  wpList_wanted hw fun _ hK => wp_load_mid ty x ho g off hx cs d hs hu hd hi (hK _ _ h)
end

def bestI : Option Nat → Int
  | none => -1
  | some k => (k : Int)
theorem info_opb (o : OpM) (h : o.data.length = 32) : (Try.prog.info? 33).map (fun i => (i.size, i.zero.isSome)) = some (o.cells.length, true) := by
  rw [o.cells_len h]
  have e : (Try.prog.info? 33).map (fun i => (i.size, i.zero.isSome)) = some (41, true) := by kernel_rfl
  exact e

set_option maxRecDepth 100000 in
set_option maxHeartbeats 8000000 in
theorem rsort_any (A : Option Addr) (c : Nat) (os : List OpM) (w : World) (hr : Rd w A (oc os)) (hin : ∀ o ∈ os, OpIn w o) (hn : os.length ≤ 1000000) :
    Calls Try.prog 35 #[.slice A os.length c] w fun e w' => ∃ (B : Option Addr) (d : Nat) (outs : List OpM), e = .returned (.slice B outs.length d) ∧ Rd w' B (oc outs) ∧ (∀ o ∈ outs, o ∈ os) ∧ IsSort os outs ∧ Below w.heap.size w w' := by
  have mixed : Try.prog.follows .mixedOrders = true := by kernel_rfl
  have hdl : ∀ o ∈ os, o.data.length = 32 := fun o ho => (hin o ho).len
  obtain ⟨n, hnn⟩ : ∃ n, os.length = n := ⟨_, rfl⟩
  obtain ⟨N, hN⟩ : ∃ N, w.heap.size = N := ⟨_, rfl⟩
  have hst : (w.alloc (.cells #[] 33)).ownsRow N 33 41 (.slice (some ⟨w.heap.size, 0, none⟩) 0 0) 0 [] := World.ownsRow_made w #[] 0 (hN ▸ Nat.le_refl _) (by unfold maxLen; omega) rfl
  have hb0 : Below N w (w.alloc (.cells #[] 33)) := (Below.refl _ _).alloc (hN ▸ Nat.le_refl _) _
  have HST := Lib.hid hst
  have HB0' := Lib.hid hb0
  have HN := Lib.hid hnn
  have HDL := Lib.hid hdl
  have HOV : Hid (∀ o ∈ os, ∃ A n c, o.ov = .slice A n c) := Lib.hid (fun o ho => by obtain ⟨A, c, h, _⟩ := (hin o ho).ov; exact ⟨A, _, c, h⟩)
  have HRD0 := Lib.hid hr
  have HW := Lib.hid hN
  rw [hnn] at hn
  rw [hnn, hN]
  clear hr hin hdl hnn hst hb0
  go_enter Try.func35, Try.ntmps35
  go_wp2_with fail
  clear hN
  go_loopg [3, 4, 5] n (fun gk_ s3 s4 s5 wr => ∃ (out : List OpM) (B : Option Addr) (d : Nat), s3 = .slice B out.length d ∧ (os.filter (behB out)).length ≤ gk_ ∧ Hid (wr.ownsRow N 33 41 (.slice B out.length d) out.length (oc out)) ∧ Hid (Below N w wr) ∧ Hid (OutI os out))
  case atStart => exact ⟨[], _, _, by first | rfl | (rw [HW.out]; rfl), (by have := List.length_filter_le (behB []) os; have := HN.out; omega), Lib.hid (by first | exact HST.out | (have h9 := HST.out; rw [HW.out] at h9; exact h9)), HB0', Lib.hid (OutI.start os)⟩
  case round =>
    obtain ⟨out, B, d, rfl, hgk, HOWN, HB0, HOI⟩ := hrel
    have HODL : Hid (∀ o ∈ out, o.data.length = 32) := Lib.hid (fun o ho => HDL.out o (HOI.out.mem o ho))
    have HOL : Hid (out.length ≤ n) := Lib.hid (by have := HOI.out.len; have := HN.out; omega)
    have HORD := Lib.hid (own_rd HOWN.out)
    have HS0 := Lib.hid (by have := HB0.out.size; have := HW.out; omega : N ≤ wr.heap.size)
    obtain ⟨m, hm⟩ : ∃ m, out.length = m := ⟨_, rfl⟩
    have HM := Lib.hid hm
    rw [hm] at HOWN ⊢
    clear hm
    go_wp2_with fail
    obtain ⟨w1, hw1⟩ : ∃ x, x = wr := ⟨_, rfl⟩
    subst hw1
    go_loopg [4, 5] n (fun g2 s4 s5 wr => ∃ (i : Nat) (b : Option Nat), s5 = .int .i64 i ∧ s4 = .int .i64 (bestI b) ∧ i ≤ n ∧ n - i ≤ g2 ∧ Hid (BestI os out i b) ∧ Hid (Below w1.heap.size w1 wr))
    case atStart => exact ⟨0, none, rfl, rfl, by omega, by omega, Lib.hid (BestI.start os out), Lib.hid (Below.refl _ _)⟩
    case round =>
      obtain ⟨i, b, rfl, rfl, hi, hg2, HBI, HBW⟩ := hrel
      by_cases hlt : i < n
      · have hltz : (i : Int) < (n : Int) := by omega
        have hi1 : i < os.length := by rw [HN.out]; exact hlt
        have HI2 := Lib.hid hi1
        obtain ⟨ba, oa, hA, hbl⟩ := rd_some HRD0.out HDL.out (by omega)
        subst hA
        have HRD : Hid (Rd w (some ⟨ba, oa, none⟩) (oc os)) := HRD0
        have hbr : Below w.heap.size w wr := by rw [HW.out]; exact HB0.out.trans (HBW.out.mono HS0.out)
        obtain ⟨o, ho⟩ : ∃ o, o = os[i]'hi1 := ⟨_, rfl⟩
        have RO := Lib.hid (rd_at (HRD.out.below hbr) HDL.out i hi1)
        rw [← ho] at RO
        have GL : Hid (ba < wr.heap.size) := Lib.hid (by have := hbr.size; omega)
        have HO := Lib.hid ho
        obtain ⟨q, hq⟩ : ∃ q, behB out (os[i]'hi1) = q := ⟨_, rfl⟩
        have HQ := Lib.hid hq
        clear hbl hbr ho hq
        by_cases hm0 : m = 0
        · have mz : ((m : Int) == 0) = true := by rw [hm0]; rfl
          have hq9 : q = true := by rw [← HQ.out, List.eq_nil_of_length_eq_zero (HM.out.trans hm0)]; rfl
          subst hq9
          clear hm0
          go_wp2_with fail
          refine wp_region_sched (fun w' => Below wr.heap.size wr w') [(true, 0), (true, 1), (true, 2), (true, 3), (true, 4), (true, 5), (true, 6), (true, 7), (true, 8), (true, 9), (true, 10), (true, 11), (true, 12), (true, 13), (true, 14), (true, 15), (false, 16), (true, 17), (true, 18), (true, 19)] (by kernel_rfl) (by kernel_rfl) rfl (by kernel_rfl) (Below.refl _ _).drew ?_
          iterate 16 (first | (refine wpS_pass _ rfl (by rfl) ?_; simp only [Act.put, List.getElem_toArray, List.getElem_cons_zero, List.getElem_cons_succ, List.setIfInBounds_toArray, List.set_cons_zero, List.set_cons_succ]) | (refine wpS_take _ ?_ rfl (by rfl) ?_ ?_; rotate_left; (focus (intro w' hS'; (try dsimp only at hS'); (repeat (have hS1 := hS'.1; replace hS' := hS'.2)); go_simp; (try with_reducible rfl); done)); simp only [Act.put, List.getElem_toArray, List.getElem_cons_zero, List.getElem_cons_succ, List.setIfInBounds_toArray, List.set_cons_zero, List.set_cons_succ]))
          refine wpS_skip _ rfl (by rfl) (Below.refl _ _).drew ?_
          simp only [Act.put, List.getElem_toArray, List.getElem_cons_zero, List.getElem_cons_succ, List.setIfInBounds_toArray, List.set_cons_zero, List.set_cons_succ]
          iterate 3 (first | (refine wpS_pass _ rfl (by rfl) ?_; simp only [Act.put, List.getElem_toArray, List.getElem_cons_zero, List.getElem_cons_succ, List.setIfInBounds_toArray, List.set_cons_zero, List.set_cons_succ]) | (refine wpS_take _ ?_ rfl (by rfl) ?_ ?_; rotate_left; (focus (intro w' hS'; (try dsimp only at hS'); (repeat (have hS1 := hS'.1; replace hS' := hS'.2)); go_simp; (try with_reducible rfl); done)); simp only [Act.put, List.getElem_toArray, List.getElem_cons_zero, List.getElem_cons_succ, List.setIfInBounds_toArray, List.set_cons_zero, List.set_cons_succ]))
          refine wpS_done ?_
          have HB6 : Hid (Below wr.heap.size wr wr.drew) := Lib.hid (Below.refl _ _).drew
          have HBW2 := Lib.hid HBW.out.drew
          generalize wr.drew = w6 at HB6 HBW2 ⊢
          rcases b with _ | kb
          · have hbm : bestI none = -1 := rfl
            rw [hbm]
            clear hbm
            go_wp2_with fail
            refine wp_region_sched (fun w' => Below w6.heap.size w6 w') [(true, 0), (true, 1), (true, 2), (true, 3), (true, 4), (true, 5), (true, 6), (true, 7), (true, 8), (true, 9), (true, 10), (true, 11), (true, 12), (true, 13), (true, 14), (false, 15), (true, 16), (true, 17), (true, 18)] (by kernel_rfl) (by kernel_rfl) rfl (by kernel_rfl) (Below.refl _ _).drew ?_
            iterate 15 (first | (refine wpS_pass _ rfl (by rfl) ?_; simp only [Act.put, List.getElem_toArray, List.getElem_cons_zero, List.getElem_cons_succ, List.setIfInBounds_toArray, List.set_cons_zero, List.set_cons_succ]) | (refine wpS_take _ ?_ rfl (by rfl) ?_ ?_; rotate_left; (focus (intro w' hS'; (try dsimp only at hS'); (repeat (have hS1 := hS'.1; replace hS' := hS'.2)); go_simp; (try with_reducible rfl); done)); simp only [Act.put, List.getElem_toArray, List.getElem_cons_zero, List.getElem_cons_succ, List.setIfInBounds_toArray, List.set_cons_zero, List.set_cons_succ]))
            refine wpS_skip _ rfl (by rfl) (Below.refl _ _).drew ?_
            simp only [Act.put, List.getElem_toArray, List.getElem_cons_zero, List.getElem_cons_succ, List.setIfInBounds_toArray, List.set_cons_zero, List.set_cons_succ]
            iterate 3 (first | (refine wpS_pass _ rfl (by rfl) ?_; simp only [Act.put, List.getElem_toArray, List.getElem_cons_zero, List.getElem_cons_succ, List.setIfInBounds_toArray, List.set_cons_zero, List.set_cons_succ]) | (refine wpS_take _ ?_ rfl (by rfl) ?_ ?_; rotate_left; (focus (intro w' hS'; (try dsimp only at hS'); (repeat (have hS1 := hS'.1; replace hS' := hS'.2)); go_simp; (try with_reducible rfl); done)); simp only [Act.put, List.getElem_toArray, List.getElem_cons_zero, List.getElem_cons_succ, List.setIfInBounds_toArray, List.set_cons_zero, List.set_cons_succ]))
            refine wpS_done ?_
            go_wp2_with fail
            go_roundg (n - (i + 1))
            case measure => omega
            case rel => exact ⟨i + 1, some i, by go_num, rfl, by omega, Nat.le_refl _, Lib.hid (HBI.out.first HI2.out HQ.out), Lib.hid HBW2.out.drew⟩
          · have hbm : bestI (some kb) = (kb : Int) := rfl
            rw [hbm]
            clear hbm
            obtain ⟨hkb, hkbi, hz1, hz2, hz3⟩ := HBI.out.yes kb rfl
            clear hz1 hz2 hz3
            have kbz : ¬ (kb : Int) < 0 := by omega
            have kbd : decide ((kb : Int) < 0) = false := decide_eq_false kbz
            have kb0 : (0 : Int) ≤ (kb : Int) := by omega
            have kbn : (kb : Int) < (n : Int) := by have := HN.out; omega
            obtain ⟨p, hp⟩ : ∃ p, p = os[kb]'hkb := ⟨_, rfl⟩
            have RP := Lib.hid (rd_at (HRD.out.below (by rw [HW.out]; exact HB0.out.trans (HBW2.out.mono HS0.out))) HDL.out kb hkb)
            rw [← hp] at RP
            have RO2 := Lib.hid (range_below RO.out GL.out (HB6.out))
            have HP := Lib.hid hp
            have HKB := Lib.hid hkb
            have GL2 : Hid (ba < w6.heap.size) := Lib.hid (by have := GL.out; have := (HB6.out).size; omega)
            have HC2 := Lib.hid (fun W => rcmp_any o.at_ p.at_ W)
            have hx2 : Hid (∃ y, cmpS o.at_ p.at_ = y) := Lib.hid ⟨_, rfl⟩
            obtain ⟨y, hy⟩ := hx2.out
            rw [hy] at HC2
            have HY := Lib.hid hy
            clear hp hkbi hx2 hy
            by_cases yz : y < 0
            · have yd : decide (y < 0) = true := decide_eq_true yz
              go_wp2_with fail
              refine wp_region_sched (fun w' => Below w6.heap.size w6 w') [(true, 0), (true, 1), (true, 2), (true, 3), (true, 4), (true, 5), (true, 6), (true, 7), (true, 8), (true, 9), (true, 10), (true, 11), (true, 12), (true, 13), (true, 14), (false, 15), (true, 16), (true, 17), (true, 18)] (by kernel_rfl) (by kernel_rfl) rfl (by kernel_rfl) (Below.refl _ _).drew ?_
              iterate 9 (first | (refine wpS_pass _ rfl (by rfl) ?_; simp only [Act.put, List.getElem_toArray, List.getElem_cons_zero, List.getElem_cons_succ, List.setIfInBounds_toArray, List.set_cons_zero, List.set_cons_succ]) | (refine wpS_take _ ?_ rfl (by rfl) ?_ ?_; rotate_left; (focus (intro w' hS'; (try dsimp only at hS'); (repeat (have hS1 := hS'.1; replace hS' := hS'.2)); go_simp; (try with_reducible rfl); done)); simp only [Act.put, List.getElem_toArray, List.getElem_cons_zero, List.getElem_cons_succ, List.setIfInBounds_toArray, List.set_cons_zero, List.set_cons_succ]))
              refine wpS_load_stm _ rfl (by rfl) _ _ rfl ba (oa + i * 41 + 1) rfl o.at_ _ (fun w' hS' => range_below RO2.out GL2.out hS') Try.underlying23 rfl info_stm ?_
              simp only [Act.put, List.getElem_toArray, List.getElem_cons_zero, List.getElem_cons_succ, List.setIfInBounds_toArray, List.set_cons_zero, List.set_cons_succ]
              iterate 4 (first | (refine wpS_pass _ rfl (by rfl) ?_; simp only [Act.put, List.getElem_toArray, List.getElem_cons_zero, List.getElem_cons_succ, List.setIfInBounds_toArray, List.set_cons_zero, List.set_cons_succ]) | (refine wpS_take _ ?_ rfl (by rfl) ?_ ?_; rotate_left; (focus (intro w' hS'; (try dsimp only at hS'); (repeat (have hS1 := hS'.1; replace hS' := hS'.2)); go_simp; (try with_reducible rfl); done)); simp only [Act.put, List.getElem_toArray, List.getElem_cons_zero, List.getElem_cons_succ, List.setIfInBounds_toArray, List.set_cons_zero, List.set_cons_succ]))
              refine wpS_load_stm _ rfl (by rfl) _ _ rfl ba (oa + kb * 41 + 1) rfl p.at_ _ (fun w' hS' => range_below RP.out GL2.out hS') Try.underlying23 rfl info_stm ?_
              simp only [Act.put, List.getElem_toArray, List.getElem_cons_zero, List.getElem_cons_succ, List.setIfInBounds_toArray, List.set_cons_zero, List.set_cons_succ]
              refine wpS_do _ rfl (by rfl) (fun K hK => ?_)
              go_simp
              refine (HC2.out _).mono ?_
              rintro e w8 ⟨rfl, hb9⟩
              have HB8 : Hid (Below w6.heap.size w6 w8) := Lib.hid ((Below.refl w6.heap.size w6).drew.trans hb9)
              refine hK.out _ _ HB8.out (fun hS => ?_)
              clear hK hS hb9
              iterate 3 (first | (refine wpS_pass _ rfl (by rfl) ?_; simp only [Act.put, List.getElem_toArray, List.getElem_cons_zero, List.getElem_cons_succ, List.setIfInBounds_toArray, List.set_cons_zero, List.set_cons_succ]) | (refine wpS_take _ ?_ rfl (by rfl) ?_ ?_; rotate_left; (focus (intro w' hS'; (try dsimp only at hS'); (repeat (have hS1 := hS'.1; replace hS' := hS'.2)); go_simp; (try with_reducible rfl); done)); simp only [Act.put, List.getElem_toArray, List.getElem_cons_zero, List.getElem_cons_succ, List.setIfInBounds_toArray, List.set_cons_zero, List.set_cons_succ]))
              refine wpS_done ?_
              go_wp2_with fail
              go_roundg (n - (i + 1))
              case measure => omega
              case rel => exact ⟨i + 1, some i, by go_num, rfl, by omega, Nat.le_refl _, Lib.hid (HBI.out.better HI2.out HKB.out HQ.out (by rw [← HO.out, ← HP.out, HY.out]; omega)), Lib.hid (HBW2.out.trans (HB8.out.mono HBW2.out.size))⟩
            · have yd : decide (y < 0) = false := decide_eq_false yz
              go_wp2_with fail
              refine wp_region_sched (fun w' => Below w6.heap.size w6 w') [(true, 0), (true, 1), (true, 2), (true, 3), (true, 4), (true, 5), (true, 6), (true, 7), (true, 8), (true, 9), (true, 10), (true, 11), (true, 12), (true, 13), (true, 14), (false, 15), (true, 16), (true, 17), (true, 18)] (by kernel_rfl) (by kernel_rfl) rfl (by kernel_rfl) (Below.refl _ _).drew ?_
              iterate 9 (first | (refine wpS_pass _ rfl (by rfl) ?_; simp only [Act.put, List.getElem_toArray, List.getElem_cons_zero, List.getElem_cons_succ, List.setIfInBounds_toArray, List.set_cons_zero, List.set_cons_succ]) | (refine wpS_take _ ?_ rfl (by rfl) ?_ ?_; rotate_left; (focus (intro w' hS'; (try dsimp only at hS'); (repeat (have hS1 := hS'.1; replace hS' := hS'.2)); go_simp; (try with_reducible rfl); done)); simp only [Act.put, List.getElem_toArray, List.getElem_cons_zero, List.getElem_cons_succ, List.setIfInBounds_toArray, List.set_cons_zero, List.set_cons_succ]))
              refine wpS_load_stm _ rfl (by rfl) _ _ rfl ba (oa + i * 41 + 1) rfl o.at_ _ (fun w' hS' => range_below RO2.out GL2.out hS') Try.underlying23 rfl info_stm ?_
              simp only [Act.put, List.getElem_toArray, List.getElem_cons_zero, List.getElem_cons_succ, List.setIfInBounds_toArray, List.set_cons_zero, List.set_cons_succ]
              iterate 4 (first | (refine wpS_pass _ rfl (by rfl) ?_; simp only [Act.put, List.getElem_toArray, List.getElem_cons_zero, List.getElem_cons_succ, List.setIfInBounds_toArray, List.set_cons_zero, List.set_cons_succ]) | (refine wpS_take _ ?_ rfl (by rfl) ?_ ?_; rotate_left; (focus (intro w' hS'; (try dsimp only at hS'); (repeat (have hS1 := hS'.1; replace hS' := hS'.2)); go_simp; (try with_reducible rfl); done)); simp only [Act.put, List.getElem_toArray, List.getElem_cons_zero, List.getElem_cons_succ, List.setIfInBounds_toArray, List.set_cons_zero, List.set_cons_succ]))
              refine wpS_load_stm _ rfl (by rfl) _ _ rfl ba (oa + kb * 41 + 1) rfl p.at_ _ (fun w' hS' => range_below RP.out GL2.out hS') Try.underlying23 rfl info_stm ?_
              simp only [Act.put, List.getElem_toArray, List.getElem_cons_zero, List.getElem_cons_succ, List.setIfInBounds_toArray, List.set_cons_zero, List.set_cons_succ]
              refine wpS_do _ rfl (by rfl) (fun K hK => ?_)
              go_simp
              refine (HC2.out _).mono ?_
              rintro e w8 ⟨rfl, hb9⟩
              have HB8 : Hid (Below w6.heap.size w6 w8) := Lib.hid ((Below.refl w6.heap.size w6).drew.trans hb9)
              refine hK.out _ _ HB8.out (fun hS => ?_)
              clear hK hS hb9
              iterate 3 (first | (refine wpS_pass _ rfl (by rfl) ?_; simp only [Act.put, List.getElem_toArray, List.getElem_cons_zero, List.getElem_cons_succ, List.setIfInBounds_toArray, List.set_cons_zero, List.set_cons_succ]) | (refine wpS_take _ ?_ rfl (by rfl) ?_ ?_; rotate_left; (focus (intro w' hS'; (try dsimp only at hS'); (repeat (have hS1 := hS'.1; replace hS' := hS'.2)); go_simp; (try with_reducible rfl); done)); simp only [Act.put, List.getElem_toArray, List.getElem_cons_zero, List.getElem_cons_succ, List.setIfInBounds_toArray, List.set_cons_zero, List.set_cons_succ]))
              refine wpS_done ?_
              go_wp2_with fail
              go_roundg (n - (i + 1))
              case measure => omega
              case rel => exact ⟨i + 1, some kb, by go_num, rfl, by omega, Nat.le_refl _, Lib.hid (HBI.out.keep HI2.out HKB.out (by rw [← HO.out, ← HP.out, HY.out]; omega)), Lib.hid (HBW2.out.trans (HB8.out.mono HBW2.out.size))⟩
        · have mz : ((m : Int) == 0) = false := by simpa using hm0
          obtain ⟨mp, rfl⟩ : ∃ k, m = k + 1 := ⟨m - 1, by omega⟩
          have mw : IntKind.i64.wrap (mp : Int) = (mp : Int) := by rw [IntKind.wrap_i64] <;> (have := HOL.out; have := HM.out; omega)
          have mq : (mp : Int) < (mp : Int) + 1 := by omega
          have hmp : mp < out.length := by rw [HM.out]; omega
          obtain ⟨bo, oo, hB, hbl⟩ := rd_some HORD.out HODL.out (by rw [HM.out]; omega)
          subst hB
          obtain ⟨l, hl⟩ : ∃ l, l = out[mp]'hmp := ⟨_, rfl⟩
          have RL := Lib.hid (rd_at (HORD.out.below HBW.out) HODL.out mp hmp)
          rw [← hl] at RL
          have GO : Hid (bo < wr.heap.size) := Lib.hid (by have := HBW.out.size; omega)
          have hbq : behB out (os[i]'HI2.out) = decide (0 < cmpS o.at_ l.at_) := by
            have e1 : out.getLast? = some l := by rw [List.getLast?_eq_getElem?, HM.out, hl, Nat.add_sub_cancel, List.getElem?_eq_getElem hmp]
            unfold behB
            rw [e1, HO.out]
          have HC1 := Lib.hid (fun W => rcmp_any o.at_ l.at_ W)
          obtain ⟨x, hx⟩ : ∃ x, cmpS o.at_ l.at_ = x := ⟨_, rfl⟩
          rw [hx] at HC1 hbq
          have HBQ := Lib.hid hbq
          clear hm0 hbl hl hbq hx
          by_cases xz : 0 < x
          · have xd : decide (0 < x) = true := decide_eq_true xz
            have hq9 : q = true := by rw [← HQ.out, HBQ.out, xd]
            subst hq9
            go_wp2_with fail
            refine wp_region_sched (fun w' => Below wr.heap.size wr w') [(true, 0), (true, 1), (true, 2), (true, 3), (true, 4), (true, 5), (true, 6), (true, 7), (true, 8), (true, 9), (true, 10), (true, 11), (true, 12), (true, 13), (true, 14), (true, 15), (false, 16), (true, 17), (true, 18), (true, 19)] (by kernel_rfl) (by kernel_rfl) rfl (by kernel_rfl) (Below.refl _ _).drew ?_
            iterate 8 (first | (refine wpS_pass _ rfl (by rfl) ?_; simp only [Act.put, List.getElem_toArray, List.getElem_cons_zero, List.getElem_cons_succ, List.setIfInBounds_toArray, List.set_cons_zero, List.set_cons_succ]) | (refine wpS_take _ ?_ rfl (by rfl) ?_ ?_; rotate_left; (focus (intro w' hS'; (try dsimp only at hS'); (repeat (have hS1 := hS'.1; replace hS' := hS'.2)); go_simp; (try with_reducible rfl); done)); simp only [Act.put, List.getElem_toArray, List.getElem_cons_zero, List.getElem_cons_succ, List.setIfInBounds_toArray, List.set_cons_zero, List.set_cons_succ]))
            refine wpS_load_stm _ rfl (by rfl) _ _ rfl ba (oa + i * 41 + 1) rfl o.at_ _ (fun w' hS' => range_below RO.out GL.out hS') Try.underlying23 rfl info_stm ?_
            simp only [Act.put, List.getElem_toArray, List.getElem_cons_zero, List.getElem_cons_succ, List.setIfInBounds_toArray, List.set_cons_zero, List.set_cons_succ]
            iterate 6 (first | (refine wpS_pass _ rfl (by rfl) ?_; simp only [Act.put, List.getElem_toArray, List.getElem_cons_zero, List.getElem_cons_succ, List.setIfInBounds_toArray, List.set_cons_zero, List.set_cons_succ]) | (refine wpS_take _ ?_ rfl (by rfl) ?_ ?_; rotate_left; (focus (intro w' hS'; (try dsimp only at hS'); (repeat (have hS1 := hS'.1; replace hS' := hS'.2)); go_simp; (try with_reducible rfl); done)); simp only [Act.put, List.getElem_toArray, List.getElem_cons_zero, List.getElem_cons_succ, List.setIfInBounds_toArray, List.set_cons_zero, List.set_cons_succ]))
            refine wpS_load_stm _ rfl (by rfl) _ _ rfl bo (oo + mp * 41 + 1) rfl l.at_ _ (fun w' hS' => range_below RL.out GO.out hS') Try.underlying23 rfl info_stm ?_
            simp only [Act.put, List.getElem_toArray, List.getElem_cons_zero, List.getElem_cons_succ, List.setIfInBounds_toArray, List.set_cons_zero, List.set_cons_succ]
            refine wpS_do _ rfl (by rfl) (fun K hK => ?_)
            go_simp
            refine (HC1.out _).mono ?_
            rintro e w6 ⟨rfl, hb9⟩
            have HB6 : Hid (Below wr.heap.size wr w6) := Lib.hid ((Below.refl wr.heap.size wr).drew.trans hb9)
            refine hK.out _ _ HB6.out (fun hS => ?_)
            clear hK hS hb9
            iterate 3 (first | (refine wpS_pass _ rfl (by rfl) ?_; simp only [Act.put, List.getElem_toArray, List.getElem_cons_zero, List.getElem_cons_succ, List.setIfInBounds_toArray, List.set_cons_zero, List.set_cons_succ]) | (refine wpS_take _ ?_ rfl (by rfl) ?_ ?_; rotate_left; (focus (intro w' hS'; (try dsimp only at hS'); (repeat (have hS1 := hS'.1; replace hS' := hS'.2)); go_simp; (try with_reducible rfl); done)); simp only [Act.put, List.getElem_toArray, List.getElem_cons_zero, List.getElem_cons_succ, List.setIfInBounds_toArray, List.set_cons_zero, List.set_cons_succ]))
            refine wpS_done ?_
            have HBW2 := Lib.hid (HBW.out.trans (HB6.out.mono HBW.out.size))
            rcases b with _ | kb
            · have hbm : bestI none = -1 := rfl
              rw [hbm]
              clear hbm
              go_wp2_with fail
              refine wp_region_sched (fun w' => Below w6.heap.size w6 w') [(true, 0), (true, 1), (true, 2), (true, 3), (true, 4), (true, 5), (true, 6), (true, 7), (true, 8), (true, 9), (true, 10), (true, 11), (true, 12), (true, 13), (true, 14), (false, 15), (true, 16), (true, 17), (true, 18)] (by kernel_rfl) (by kernel_rfl) rfl (by kernel_rfl) (Below.refl _ _).drew ?_
              iterate 15 (first | (refine wpS_pass _ rfl (by rfl) ?_; simp only [Act.put, List.getElem_toArray, List.getElem_cons_zero, List.getElem_cons_succ, List.setIfInBounds_toArray, List.set_cons_zero, List.set_cons_succ]) | (refine wpS_take _ ?_ rfl (by rfl) ?_ ?_; rotate_left; (focus (intro w' hS'; (try dsimp only at hS'); (repeat (have hS1 := hS'.1; replace hS' := hS'.2)); go_simp; (try with_reducible rfl); done)); simp only [Act.put, List.getElem_toArray, List.getElem_cons_zero, List.getElem_cons_succ, List.setIfInBounds_toArray, List.set_cons_zero, List.set_cons_succ]))
              refine wpS_skip _ rfl (by rfl) (Below.refl _ _).drew ?_
              simp only [Act.put, List.getElem_toArray, List.getElem_cons_zero, List.getElem_cons_succ, List.setIfInBounds_toArray, List.set_cons_zero, List.set_cons_succ]
              iterate 3 (first | (refine wpS_pass _ rfl (by rfl) ?_; simp only [Act.put, List.getElem_toArray, List.getElem_cons_zero, List.getElem_cons_succ, List.setIfInBounds_toArray, List.set_cons_zero, List.set_cons_succ]) | (refine wpS_take _ ?_ rfl (by rfl) ?_ ?_; rotate_left; (focus (intro w' hS'; (try dsimp only at hS'); (repeat (have hS1 := hS'.1; replace hS' := hS'.2)); go_simp; (try with_reducible rfl); done)); simp only [Act.put, List.getElem_toArray, List.getElem_cons_zero, List.getElem_cons_succ, List.setIfInBounds_toArray, List.set_cons_zero, List.set_cons_succ]))
              refine wpS_done ?_
              go_wp2_with fail
              go_roundg (n - (i + 1))
              case measure => omega
              case rel => exact ⟨i + 1, some i, by go_num, rfl, by omega, Nat.le_refl _, Lib.hid (HBI.out.first HI2.out HQ.out), Lib.hid HBW2.out.drew⟩
            · have hbm : bestI (some kb) = (kb : Int) := rfl
              rw [hbm]
              clear hbm
              obtain ⟨hkb, hkbi, hz1, hz2, hz3⟩ := HBI.out.yes kb rfl
              clear hz1 hz2 hz3
              have kbz : ¬ (kb : Int) < 0 := by omega
              have kbd : decide ((kb : Int) < 0) = false := decide_eq_false kbz
              have kb0 : (0 : Int) ≤ (kb : Int) := by omega
              have kbn : (kb : Int) < (n : Int) := by have := HN.out; omega
              obtain ⟨p, hp⟩ : ∃ p, p = os[kb]'hkb := ⟨_, rfl⟩
              have RP := Lib.hid (rd_at (HRD.out.below (by rw [HW.out]; exact HB0.out.trans (HBW2.out.mono HS0.out))) HDL.out kb hkb)
              rw [← hp] at RP
              have RO2 := Lib.hid (range_below RO.out GL.out (HB6.out))
              have HP := Lib.hid hp
              have HKB := Lib.hid hkb
              have GL2 : Hid (ba < w6.heap.size) := Lib.hid (by have := GL.out; have := (HB6.out).size; omega)
              have HC2 := Lib.hid (fun W => rcmp_any o.at_ p.at_ W)
              have hx2 : Hid (∃ y, cmpS o.at_ p.at_ = y) := Lib.hid ⟨_, rfl⟩
              obtain ⟨y, hy⟩ := hx2.out
              rw [hy] at HC2
              have HY := Lib.hid hy
              clear hp hkbi hx2 hy
              by_cases yz : y < 0
              · have yd : decide (y < 0) = true := decide_eq_true yz
                go_wp2_with fail
                refine wp_region_sched (fun w' => Below w6.heap.size w6 w') [(true, 0), (true, 1), (true, 2), (true, 3), (true, 4), (true, 5), (true, 6), (true, 7), (true, 8), (true, 9), (true, 10), (true, 11), (true, 12), (true, 13), (true, 14), (false, 15), (true, 16), (true, 17), (true, 18)] (by kernel_rfl) (by kernel_rfl) rfl (by kernel_rfl) (Below.refl _ _).drew ?_
                iterate 9 (first | (refine wpS_pass _ rfl (by rfl) ?_; simp only [Act.put, List.getElem_toArray, List.getElem_cons_zero, List.getElem_cons_succ, List.setIfInBounds_toArray, List.set_cons_zero, List.set_cons_succ]) | (refine wpS_take _ ?_ rfl (by rfl) ?_ ?_; rotate_left; (focus (intro w' hS'; (try dsimp only at hS'); (repeat (have hS1 := hS'.1; replace hS' := hS'.2)); go_simp; (try with_reducible rfl); done)); simp only [Act.put, List.getElem_toArray, List.getElem_cons_zero, List.getElem_cons_succ, List.setIfInBounds_toArray, List.set_cons_zero, List.set_cons_succ]))
                refine wpS_load_stm _ rfl (by rfl) _ _ rfl ba (oa + i * 41 + 1) rfl o.at_ _ (fun w' hS' => range_below RO2.out GL2.out hS') Try.underlying23 rfl info_stm ?_
                simp only [Act.put, List.getElem_toArray, List.getElem_cons_zero, List.getElem_cons_succ, List.setIfInBounds_toArray, List.set_cons_zero, List.set_cons_succ]
                iterate 4 (first | (refine wpS_pass _ rfl (by rfl) ?_; simp only [Act.put, List.getElem_toArray, List.getElem_cons_zero, List.getElem_cons_succ, List.setIfInBounds_toArray, List.set_cons_zero, List.set_cons_succ]) | (refine wpS_take _ ?_ rfl (by rfl) ?_ ?_; rotate_left; (focus (intro w' hS'; (try dsimp only at hS'); (repeat (have hS1 := hS'.1; replace hS' := hS'.2)); go_simp; (try with_reducible rfl); done)); simp only [Act.put, List.getElem_toArray, List.getElem_cons_zero, List.getElem_cons_succ, List.setIfInBounds_toArray, List.set_cons_zero, List.set_cons_succ]))
                refine wpS_load_stm _ rfl (by rfl) _ _ rfl ba (oa + kb * 41 + 1) rfl p.at_ _ (fun w' hS' => range_below RP.out GL2.out hS') Try.underlying23 rfl info_stm ?_
                simp only [Act.put, List.getElem_toArray, List.getElem_cons_zero, List.getElem_cons_succ, List.setIfInBounds_toArray, List.set_cons_zero, List.set_cons_succ]
                refine wpS_do _ rfl (by rfl) (fun K hK => ?_)
                go_simp
                refine (HC2.out _).mono ?_
                rintro e w8 ⟨rfl, hb9⟩
                have HB8 : Hid (Below w6.heap.size w6 w8) := Lib.hid ((Below.refl w6.heap.size w6).drew.trans hb9)
                refine hK.out _ _ HB8.out (fun hS => ?_)
                clear hK hS hb9
                iterate 3 (first | (refine wpS_pass _ rfl (by rfl) ?_; simp only [Act.put, List.getElem_toArray, List.getElem_cons_zero, List.getElem_cons_succ, List.setIfInBounds_toArray, List.set_cons_zero, List.set_cons_succ]) | (refine wpS_take _ ?_ rfl (by rfl) ?_ ?_; rotate_left; (focus (intro w' hS'; (try dsimp only at hS'); (repeat (have hS1 := hS'.1; replace hS' := hS'.2)); go_simp; (try with_reducible rfl); done)); simp only [Act.put, List.getElem_toArray, List.getElem_cons_zero, List.getElem_cons_succ, List.setIfInBounds_toArray, List.set_cons_zero, List.set_cons_succ]))
                refine wpS_done ?_
                go_wp2_with fail
                go_roundg (n - (i + 1))
                case measure => omega
                case rel => exact ⟨i + 1, some i, by go_num, rfl, by omega, Nat.le_refl _, Lib.hid (HBI.out.better HI2.out HKB.out HQ.out (by rw [← HO.out, ← HP.out, HY.out]; omega)), Lib.hid (HBW2.out.trans (HB8.out.mono HBW2.out.size))⟩
              · have yd : decide (y < 0) = false := decide_eq_false yz
                go_wp2_with fail
                refine wp_region_sched (fun w' => Below w6.heap.size w6 w') [(true, 0), (true, 1), (true, 2), (true, 3), (true, 4), (true, 5), (true, 6), (true, 7), (true, 8), (true, 9), (true, 10), (true, 11), (true, 12), (true, 13), (true, 14), (false, 15), (true, 16), (true, 17), (true, 18)] (by kernel_rfl) (by kernel_rfl) rfl (by kernel_rfl) (Below.refl _ _).drew ?_
                iterate 9 (first | (refine wpS_pass _ rfl (by rfl) ?_; simp only [Act.put, List.getElem_toArray, List.getElem_cons_zero, List.getElem_cons_succ, List.setIfInBounds_toArray, List.set_cons_zero, List.set_cons_succ]) | (refine wpS_take _ ?_ rfl (by rfl) ?_ ?_; rotate_left; (focus (intro w' hS'; (try dsimp only at hS'); (repeat (have hS1 := hS'.1; replace hS' := hS'.2)); go_simp; (try with_reducible rfl); done)); simp only [Act.put, List.getElem_toArray, List.getElem_cons_zero, List.getElem_cons_succ, List.setIfInBounds_toArray, List.set_cons_zero, List.set_cons_succ]))
                refine wpS_load_stm _ rfl (by rfl) _ _ rfl ba (oa + i * 41 + 1) rfl o.at_ _ (fun w' hS' => range_below RO2.out GL2.out hS') Try.underlying23 rfl info_stm ?_
                simp only [Act.put, List.getElem_toArray, List.getElem_cons_zero, List.getElem_cons_succ, List.setIfInBounds_toArray, List.set_cons_zero, List.set_cons_succ]
                iterate 4 (first | (refine wpS_pass _ rfl (by rfl) ?_; simp only [Act.put, List.getElem_toArray, List.getElem_cons_zero, List.getElem_cons_succ, List.setIfInBounds_toArray, List.set_cons_zero, List.set_cons_succ]) | (refine wpS_take _ ?_ rfl (by rfl) ?_ ?_; rotate_left; (focus (intro w' hS'; (try dsimp only at hS'); (repeat (have hS1 := hS'.1; replace hS' := hS'.2)); go_simp; (try with_reducible rfl); done)); simp only [Act.put, List.getElem_toArray, List.getElem_cons_zero, List.getElem_cons_succ, List.setIfInBounds_toArray, List.set_cons_zero, List.set_cons_succ]))
                refine wpS_load_stm _ rfl (by rfl) _ _ rfl ba (oa + kb * 41 + 1) rfl p.at_ _ (fun w' hS' => range_below RP.out GL2.out hS') Try.underlying23 rfl info_stm ?_
                simp only [Act.put, List.getElem_toArray, List.getElem_cons_zero, List.getElem_cons_succ, List.setIfInBounds_toArray, List.set_cons_zero, List.set_cons_succ]
                refine wpS_do _ rfl (by rfl) (fun K hK => ?_)
                go_simp
                refine (HC2.out _).mono ?_
                rintro e w8 ⟨rfl, hb9⟩
                have HB8 : Hid (Below w6.heap.size w6 w8) := Lib.hid ((Below.refl w6.heap.size w6).drew.trans hb9)
                refine hK.out _ _ HB8.out (fun hS => ?_)
                clear hK hS hb9
                iterate 3 (first | (refine wpS_pass _ rfl (by rfl) ?_; simp only [Act.put, List.getElem_toArray, List.getElem_cons_zero, List.getElem_cons_succ, List.setIfInBounds_toArray, List.set_cons_zero, List.set_cons_succ]) | (refine wpS_take _ ?_ rfl (by rfl) ?_ ?_; rotate_left; (focus (intro w' hS'; (try dsimp only at hS'); (repeat (have hS1 := hS'.1; replace hS' := hS'.2)); go_simp; (try with_reducible rfl); done)); simp only [Act.put, List.getElem_toArray, List.getElem_cons_zero, List.getElem_cons_succ, List.setIfInBounds_toArray, List.set_cons_zero, List.set_cons_succ]))
                refine wpS_done ?_
                go_wp2_with fail
                go_roundg (n - (i + 1))
                case measure => omega
                case rel => exact ⟨i + 1, some kb, by go_num, rfl, by omega, Nat.le_refl _, Lib.hid (HBI.out.keep HI2.out HKB.out (by rw [← HO.out, ← HP.out, HY.out]; omega)), Lib.hid (HBW2.out.trans (HB8.out.mono HBW2.out.size))⟩
          · have xd : decide (0 < x) = false := decide_eq_false xz
            have hq9 : q = false := by rw [← HQ.out, HBQ.out, xd]
            subst hq9
            go_wp2_with fail
            refine wp_region_sched (fun w' => Below wr.heap.size wr w') [(true, 0), (true, 1), (true, 2), (true, 3), (true, 4), (true, 5), (true, 6), (true, 7), (true, 8), (true, 9), (true, 10), (true, 11), (true, 12), (true, 13), (true, 14), (true, 15), (false, 16), (true, 17), (true, 18), (true, 19)] (by kernel_rfl) (by kernel_rfl) rfl (by kernel_rfl) (Below.refl _ _).drew ?_
            iterate 8 (first | (refine wpS_pass _ rfl (by rfl) ?_; simp only [Act.put, List.getElem_toArray, List.getElem_cons_zero, List.getElem_cons_succ, List.setIfInBounds_toArray, List.set_cons_zero, List.set_cons_succ]) | (refine wpS_take _ ?_ rfl (by rfl) ?_ ?_; rotate_left; (focus (intro w' hS'; (try dsimp only at hS'); (repeat (have hS1 := hS'.1; replace hS' := hS'.2)); go_simp; (try with_reducible rfl); done)); simp only [Act.put, List.getElem_toArray, List.getElem_cons_zero, List.getElem_cons_succ, List.setIfInBounds_toArray, List.set_cons_zero, List.set_cons_succ]))
            refine wpS_load_stm _ rfl (by rfl) _ _ rfl ba (oa + i * 41 + 1) rfl o.at_ _ (fun w' hS' => range_below RO.out GL.out hS') Try.underlying23 rfl info_stm ?_
            simp only [Act.put, List.getElem_toArray, List.getElem_cons_zero, List.getElem_cons_succ, List.setIfInBounds_toArray, List.set_cons_zero, List.set_cons_succ]
            iterate 6 (first | (refine wpS_pass _ rfl (by rfl) ?_; simp only [Act.put, List.getElem_toArray, List.getElem_cons_zero, List.getElem_cons_succ, List.setIfInBounds_toArray, List.set_cons_zero, List.set_cons_succ]) | (refine wpS_take _ ?_ rfl (by rfl) ?_ ?_; rotate_left; (focus (intro w' hS'; (try dsimp only at hS'); (repeat (have hS1 := hS'.1; replace hS' := hS'.2)); go_simp; (try with_reducible rfl); done)); simp only [Act.put, List.getElem_toArray, List.getElem_cons_zero, List.getElem_cons_succ, List.setIfInBounds_toArray, List.set_cons_zero, List.set_cons_succ]))
            refine wpS_load_stm _ rfl (by rfl) _ _ rfl bo (oo + mp * 41 + 1) rfl l.at_ _ (fun w' hS' => range_below RL.out GO.out hS') Try.underlying23 rfl info_stm ?_
            simp only [Act.put, List.getElem_toArray, List.getElem_cons_zero, List.getElem_cons_succ, List.setIfInBounds_toArray, List.set_cons_zero, List.set_cons_succ]
            refine wpS_do _ rfl (by rfl) (fun K hK => ?_)
            go_simp
            refine (HC1.out _).mono ?_
            rintro e w6 ⟨rfl, hb9⟩
            have HB6 : Hid (Below wr.heap.size wr w6) := Lib.hid ((Below.refl wr.heap.size wr).drew.trans hb9)
            refine hK.out _ _ HB6.out (fun hS => ?_)
            clear hK hS hb9
            iterate 3 (first | (refine wpS_pass _ rfl (by rfl) ?_; simp only [Act.put, List.getElem_toArray, List.getElem_cons_zero, List.getElem_cons_succ, List.setIfInBounds_toArray, List.set_cons_zero, List.set_cons_succ]) | (refine wpS_take _ ?_ rfl (by rfl) ?_ ?_; rotate_left; (focus (intro w' hS'; (try dsimp only at hS'); (repeat (have hS1 := hS'.1; replace hS' := hS'.2)); go_simp; (try with_reducible rfl); done)); simp only [Act.put, List.getElem_toArray, List.getElem_cons_zero, List.getElem_cons_succ, List.setIfInBounds_toArray, List.set_cons_zero, List.set_cons_succ]))
            refine wpS_done ?_
            have HBW2 := Lib.hid (HBW.out.trans (HB6.out.mono HBW.out.size))
            go_wp2_with fail
            refine wp_region_sched (fun w' => Below w6.heap.size w6 w') [(true, 0), (true, 1), (true, 2), (true, 3), (true, 4), (true, 5), (true, 6), (true, 7), (true, 8), (true, 9), (true, 10), (true, 11), (true, 12), (true, 13), (true, 14), (false, 15), (true, 16), (true, 17), (true, 18)] (by kernel_rfl) (by kernel_rfl) rfl (by kernel_rfl) (Below.refl _ _).drew ?_
            iterate 15 (first | (refine wpS_pass _ rfl (by rfl) ?_; simp only [Act.put, List.getElem_toArray, List.getElem_cons_zero, List.getElem_cons_succ, List.setIfInBounds_toArray, List.set_cons_zero, List.set_cons_succ]) | (refine wpS_take _ ?_ rfl (by rfl) ?_ ?_; rotate_left; (focus (intro w' hS'; (try dsimp only at hS'); (repeat (have hS1 := hS'.1; replace hS' := hS'.2)); go_simp; (try with_reducible rfl); done)); simp only [Act.put, List.getElem_toArray, List.getElem_cons_zero, List.getElem_cons_succ, List.setIfInBounds_toArray, List.set_cons_zero, List.set_cons_succ]))
            refine wpS_skip _ rfl (by rfl) (Below.refl _ _).drew ?_
            simp only [Act.put, List.getElem_toArray, List.getElem_cons_zero, List.getElem_cons_succ, List.setIfInBounds_toArray, List.set_cons_zero, List.set_cons_succ]
            iterate 3 (first | (refine wpS_pass _ rfl (by rfl) ?_; simp only [Act.put, List.getElem_toArray, List.getElem_cons_zero, List.getElem_cons_succ, List.setIfInBounds_toArray, List.set_cons_zero, List.set_cons_succ]) | (refine wpS_take _ ?_ rfl (by rfl) ?_ ?_; rotate_left; (focus (intro w' hS'; (try dsimp only at hS'); (repeat (have hS1 := hS'.1; replace hS' := hS'.2)); go_simp; (try with_reducible rfl); done)); simp only [Act.put, List.getElem_toArray, List.getElem_cons_zero, List.getElem_cons_succ, List.setIfInBounds_toArray, List.set_cons_zero, List.set_cons_succ]))
            refine wpS_done ?_
            go_wp2_with fail
            go_roundg (n - (i + 1))
            case measure => omega
            case rel => exact ⟨i + 1, b, by go_num, rfl, by omega, Nat.le_refl _, Lib.hid (HBI.out.skip HI2.out HQ.out), Lib.hid HBW2.out.drew⟩
      · have hltz : ¬ (i : Int) < (n : Int) := by omega
        have hiN : i = os.length := by rw [HN.out]; omega
        rw [hiN] at HBI
        clear hiN
        rcases b with _ | kb
        · have hbm : bestI none = -1 := rfl
          rw [hbm]
          clear hbm
          go_wp2_with fail
          go_ret
          exact ⟨B, d, out, by rw [HM.out]; rfl, HORD.out.below HBW.out, HOI.out.mem, HOI.out.done HBI.out, HB0.out.trans (HBW.out.mono HS0.out)⟩
        · have hbm : bestI (some kb) = (kb : Int) := rfl
          rw [hbm]
          clear hbm
          obtain ⟨hkb, hz0, hz1, hz2, hz3⟩ := HBI.out.yes kb rfl
          clear hz0 hz1 hz2 hz3
          have kbz : ¬ (kb : Int) < 0 := by omega
          have kb0 : (0 : Int) ≤ (kb : Int) := by omega
          have kbn : (kb : Int) < (n : Int) := by have := HN.out; omega
          obtain ⟨ba, oa, hA, hbl⟩ := rd_some HRD0.out HDL.out (by omega)
          subst hA
          have hbr : Below w.heap.size w wr := by rw [HW.out]; exact HB0.out.trans (HBW.out.mono HS0.out)
          have hps := HOI.out.push HBI.out hkb
          obtain ⟨p, hp⟩ : ∃ p, os[kb]'hkb = p := ⟨_, rfl⟩
          have RP := rd_op (HRD0.out.below hbr) HDL.out kb hkb
          have hpd := HDL.out _ (List.getElem_mem hkb)
          have hpo := HOV.out _ (List.getElem_mem hkb)
          rw [hp] at RP hpd hpo hps
          have HI := Lib.hid (info_opc p hpd)
          have HIB := Lib.hid (info_opb p hpd)
          have HPL := Lib.hid (p.cells_len hpd)
          have HP1 := Lib.hid (p.cells_one hpo)
          have HPS := Lib.hid hps
          have hown2 : wr.ownsRow N 33 41 (.slice B m d) m (oc out) := own_below (HOWN.out) HBW.out
          have HOW2 := Lib.hid hown2
          clear hbl hbr hpd hpo hps hp hown2
          go_wp2_with (first
            | ((with_reducible (refine wpList_load_cs 33 _ ba (oa + kb * 41) p.cells RP Try.underlying33 rfl HI.out ?_ rfl ?_ ?_)); (exact rfl); (exact rfl))
            | (refine wpList_build1 rfl _ 33 _ rfl p.cells rfl Try.underlying53 HIB.out (by rw [HPL.out]; omega) (by rw [HPL.out]; decide) ?_)
            | (at_builtin; refine wpList_append_rd _ rfl _ _ 53 rfl N 33 (.agg op0.cells.toArray) 41 128 Try.underlying53 info_op3 rfl (by decide) (.slice B m d) m _ rfl (HOW2.out.alloc _) _ 1 1 p.cells rfl (by rw [HPL.out]) (Rd.new wr p.cells _) HP1.out (by unfold maxLen; have := HOL.out; have := HM.out; omega) (by have := HOL.out; have := HM.out; omega) (by have := HB0.out.size; have := HBW.out.size; have := HS0.out; simp; omega) ?_; intro v9 w9 ho9 hg9 hvb9; obtain ⟨A9, c9, e9, _⟩ := own_slice ho9; subst e9))
          go_roundg ((os.filter (behB (out ++ [p]))).length)
          case measure => have := HPS.out.2; omega
          case rel =>
            refine ⟨out ++ [p], A9, c9, by rw [List.length_append, HM.out]; rfl, Nat.le_refl _, Lib.hid ?_, Lib.hid ?_, Lib.hid HPS.out.1⟩
            · have e1 : oc (out ++ [p]) = oc out ++ p.cells := by simp [oc]
              rw [e1, List.length_append, HM.out]
              exact ho9
            · have hb5 : Below N w (wr.alloc (.cells p.cells.toArray 33)) := (HB0.out.trans (HBW.out.mono HS0.out)).alloc (by have := HBW.out.size; have := HS0.out; omega) _
              exact below_grown_own hb5 (HOW2.out.alloc _) hg9 (by have := HBW.out.size; have := HS0.out; simp; omega)
end Go.Proofs.Ytabkgoandfpclaa
