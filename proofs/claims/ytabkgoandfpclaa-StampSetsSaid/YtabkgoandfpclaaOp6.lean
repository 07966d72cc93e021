
/- The document's Same of two operations. -/

import Derived.Test.YtabkgoandfpclaaOp5

namespace Go.Proofs.Ytabkgoandfpclaa

set_option linter.unusedVariables false

set_option linter.unusedSimpArgs false

open Go.RowKit

theorem neqin_stm (s t : Stm) (w : World) : (binOp .neq 23 s.val t.val).run Try.prog w = .ok (.bool (!decide (s = t))) w := neq_stm s t w

set_option maxRecDepth 100000 in
set_option maxHeartbeats 4000000 in
theorem opsameR_any (a b : OpM) (w : World) (ha : OpIn w a) (hb : OpIn w b) : Calls Try.prog 21 #[a.val, b.val] w fun e w' => e = .returned (.bool (sameO a b)) ∧ Below w.heap.size w w' := by
  obtain ⟨W1, W2, g, g', hg, hg', hW1, hW2, hra, hrb, hbel⟩ := two_rows a b ha hb
  have HLA := Lib.hid ha.len
  have HLB := Lib.hid hb.len
  have HID := Lib.hid (info_data a.data ha.len)
  have HIE := Lib.hid (info_data b.data hb.len)
  have HRA0 := Lib.hid hra
  have HRB0 := Lib.hid hrb
  have HLG := Lib.hid (Array.getElem?_eq_some_iff.1 hra).1
  have HLG' := Lib.hid (Array.getElem?_eq_some_iff.1 hrb).1
  have R := opRow_of hra ha.len
  have T := opRow_of hrb hb.len
  obtain ⟨A, c, hov, hrd, hcl, hcm⟩ := ha.ov
  obtain ⟨B, d, how, hre, hdl, hdm⟩ := hb.ov
  have HBEL := Lib.hid hbel
  have HGL : Hid (g ≤ W2.heap.size) := Lib.hid (by have := hbel.size; omega)
  have HRA := Lib.hid (hrd.below (hg ▸ hbel))
  have HRB := Lib.hid (hre.below (hg ▸ hbel))
  have HOV := Lib.hid hov
  have HOW := Lib.hid how
  obtain ⟨V, hV⟩ : ∃ V, sameO a b = V := ⟨_, rfl⟩
  have HV := Lib.hid hV
  have q4 := R.ov
  have q5 := T.ov
  rw [hov] at q4
  rw [how] at q5
  rw [hV]
  unfold OpM.val
  rw [hg]
  clear hra hrb hbel hrd hre ha hb hV hov how
  by_cases hl : a.os.length = b.os.length
  · have hn : ((a.os.length : Int) != (b.os.length : Int)) = false := by rw [hl]; simp
    have HLN := Lib.hid hl
    have hB0 := Below.refl W2.heap.size W2
    clear hl
    go_enter Try.func21, Try.ntmps21
    go_wp2_with fail
    clear hg hg' hW1 hW2 R T
    go_loopg [5] (a.os.length * 1) (fun gk_ s wr => ∃ k : Nat, k ≤ a.os.length ∧ gk_ = a.os.length - k ∧ s = .int .i64 (k : Int) ∧ Below W2.heap.size W2 wr ∧ Hid (∀ j (h1 : j < a.os.length) (h2 : j < b.os.length), j < k → a.os[j] = b.os[j]))
    case atStart => exact ⟨0, by omega, by omega, rfl, hB0, Lib.hid (fun j _ _ hj => absurd hj (Nat.not_lt_zero _))⟩
    case round =>
      clear hB0 hn q4 q5
      obtain ⟨k, hk, rfl, rfl, hbk, HOK⟩ := hrel
      have R := opRow_of ((hbk.block _ HLG.out).trans HRA0.out) HLA.out
      have T := opRow_of ((hbk.block _ HLG'.out).trans HRB0.out) HLB.out
      have q4 := R.ov
      have q5 := T.ov
      rw [HOV.out] at q4
      rw [HOW.out] at q5
      have HGW := Lib.hid (Nat.lt_of_lt_of_le HLG.out hbk.size)
      have HGW' := Lib.hid (Nat.lt_of_lt_of_le HLG'.out hbk.size)
      have HBK := Lib.hid (HBEL.out.trans (hbk.mono HGL.out))
      by_cases hlt : k < a.os.length
      · have hltp : k < b.os.length := by have := HLN.out; omega
        have hpa : 0 < (stc a.os).length := by rw [stc_length]; omega
        have hpb : 0 < (stc b.os).length := by rw [stc_length]; omega
        have ra := HRA.out.below hbk
        have rb := HRB.out.below hbk
        obtain ⟨x, off, hAe, _⟩ := ra.all hpa
        obtain ⟨y, off', hBe, _⟩ := rb.all hpb
        subst hAe hBe
        have RA := Lib.hid (rd_stm ra k hlt)
        have RB := Lib.hid (rd_stm rb k hltp)
        have GA := Lib.hid (ra.lt hpa)
        have GB := Lib.hid (rb.lt hpb)
        obtain ⟨s, hs⟩ : ∃ s, a.os[k] = s := ⟨_, rfl⟩
        obtain ⟨t, ht⟩ : ∃ t, b.os[k] = t := ⟨_, rfl⟩
        rw [hs] at RA
        rw [ht] at RB
        have HS := Lib.hid hs
        have HT := Lib.hid ht
        have i1 : (k : Int) < (a.os.length : Int) := by omega
        have i2 : (k : Int) < (b.os.length : Int) := by omega
        obtain ⟨q, hq⟩ : ∃ q, decide (s = t) = q := ⟨_, rfl⟩
        have HQ := Lib.hid hq
        have heq : ∀ w, (binOp .neq 23 s.val t.val).run Try.prog w = .ok (.bool (!q)) w := fun w => by rw [neq_stm, HQ.out]
        have hgd := fun b x y w => guard_stm b x y s t w
        clear ra rb hs ht hpa hpb hq R T
        go_wp2_with fail
        refine wp_region_sched (fun w' => Below wr.heap.size wr w' ∧ w'.cell? ⟨g, 40, none⟩ = some (.slice (some ⟨x, off, none⟩) a.os.length c) ∧ w'.cell? ⟨g', 40, none⟩ = some (.slice (some ⟨y, off', none⟩) b.os.length d)) [(true, 0), (true, 1), (true, 2), (true, 3), (true, 4), (true, 5), (true, 6), (true, 7), (true, 8), (true, 9), (true, 10)] (by kernel_rfl) (by kernel_rfl) rfl (by kernel_rfl) ⟨(Below.refl _ _).drew, q4, q5⟩ ?_
        (first | (refine wpS_pass _ rfl (by rfl) ?_; simp only [Act.put, List.getElem_toArray, List.getElem_cons_zero, List.getElem_cons_succ, List.setIfInBounds_toArray, List.set_cons_zero, List.set_cons_succ]) | (refine wpS_take _ ?_ rfl (by rfl) ?_ ?_; rotate_left; (focus (intro w' hS'; (try dsimp only at hS'); (repeat (have hS1 := hS'.1; replace hS' := hS'.2)); go_simp; (try with_reducible rfl); done)); simp only [Act.put, List.getElem_toArray, List.getElem_cons_zero, List.getElem_cons_succ, List.setIfInBounds_toArray, List.set_cons_zero, List.set_cons_succ]))
        (first | (refine wpS_pass _ rfl (by rfl) ?_; simp only [Act.put, List.getElem_toArray, List.getElem_cons_zero, List.getElem_cons_succ, List.setIfInBounds_toArray, List.set_cons_zero, List.set_cons_succ]) | (refine wpS_take _ ?_ rfl (by rfl) ?_ ?_; rotate_left; (focus (intro w' hS'; (try dsimp only at hS'); (repeat (have hS1 := hS'.1; replace hS' := hS'.2)); go_simp; (try with_reducible rfl); done)); simp only [Act.put, List.getElem_toArray, List.getElem_cons_zero, List.getElem_cons_succ, List.setIfInBounds_toArray, List.set_cons_zero, List.set_cons_succ]))
        (first | (refine wpS_pass _ rfl (by rfl) ?_; simp only [Act.put, List.getElem_toArray, List.getElem_cons_zero, List.getElem_cons_succ, List.setIfInBounds_toArray, List.set_cons_zero, List.set_cons_succ]) | (refine wpS_take _ ?_ rfl (by rfl) ?_ ?_; rotate_left; (focus (intro w' hS'; (try dsimp only at hS'); (repeat (have hS1 := hS'.1; replace hS' := hS'.2)); go_simp; (try with_reducible rfl); done)); simp only [Act.put, List.getElem_toArray, List.getElem_cons_zero, List.getElem_cons_succ, List.setIfInBounds_toArray, List.set_cons_zero, List.set_cons_succ]))
        (first | (refine wpS_pass _ rfl (by rfl) ?_; simp only [Act.put, List.getElem_toArray, List.getElem_cons_zero, List.getElem_cons_succ, List.setIfInBounds_toArray, List.set_cons_zero, List.set_cons_succ]) | (refine wpS_take _ ?_ rfl (by rfl) ?_ ?_; rotate_left; (focus (intro w' hS'; (try dsimp only at hS'); (repeat (have hS1 := hS'.1; replace hS' := hS'.2)); go_simp; (try with_reducible rfl); done)); simp only [Act.put, List.getElem_toArray, List.getElem_cons_zero, List.getElem_cons_succ, List.setIfInBounds_toArray, List.set_cons_zero, List.set_cons_succ]))
        refine wpS_load_stm _ rfl (by rfl) _ _ rfl x (off + k * 2) rfl s _ (fun w' hS' => range_below RA.out GA.out hS'.1) Try.underlying23 rfl info_stm ?_
        simp only [Act.put, List.getElem_toArray, List.getElem_cons_zero, List.getElem_cons_succ, List.setIfInBounds_toArray, List.set_cons_zero, List.set_cons_succ]
        (first | (refine wpS_pass _ rfl (by rfl) ?_; simp only [Act.put, List.getElem_toArray, List.getElem_cons_zero, List.getElem_cons_succ, List.setIfInBounds_toArray, List.set_cons_zero, List.set_cons_succ]) | (refine wpS_take _ ?_ rfl (by rfl) ?_ ?_; rotate_left; (focus (intro w' hS'; (try dsimp only at hS'); (repeat (have hS1 := hS'.1; replace hS' := hS'.2)); go_simp; (try with_reducible rfl); done)); simp only [Act.put, List.getElem_toArray, List.getElem_cons_zero, List.getElem_cons_succ, List.setIfInBounds_toArray, List.set_cons_zero, List.set_cons_succ]))
        (first | (refine wpS_pass _ rfl (by rfl) ?_; simp only [Act.put, List.getElem_toArray, List.getElem_cons_zero, List.getElem_cons_succ, List.setIfInBounds_toArray, List.set_cons_zero, List.set_cons_succ]) | (refine wpS_take _ ?_ rfl (by rfl) ?_ ?_; rotate_left; (focus (intro w' hS'; (try dsimp only at hS'); (repeat (have hS1 := hS'.1; replace hS' := hS'.2)); go_simp; (try with_reducible rfl); done)); simp only [Act.put, List.getElem_toArray, List.getElem_cons_zero, List.getElem_cons_succ, List.setIfInBounds_toArray, List.set_cons_zero, List.set_cons_succ]))
        (first | (refine wpS_pass _ rfl (by rfl) ?_; simp only [Act.put, List.getElem_toArray, List.getElem_cons_zero, List.getElem_cons_succ, List.setIfInBounds_toArray, List.set_cons_zero, List.set_cons_succ]) | (refine wpS_take _ ?_ rfl (by rfl) ?_ ?_; rotate_left; (focus (intro w' hS'; (try dsimp only at hS'); (repeat (have hS1 := hS'.1; replace hS' := hS'.2)); go_simp; (try with_reducible rfl); done)); simp only [Act.put, List.getElem_toArray, List.getElem_cons_zero, List.getElem_cons_succ, List.setIfInBounds_toArray, List.set_cons_zero, List.set_cons_succ]))
        (first | (refine wpS_pass _ rfl (by rfl) ?_; simp only [Act.put, List.getElem_toArray, List.getElem_cons_zero, List.getElem_cons_succ, List.setIfInBounds_toArray, List.set_cons_zero, List.set_cons_succ]) | (refine wpS_take _ ?_ rfl (by rfl) ?_ ?_; rotate_left; (focus (intro w' hS'; (try dsimp only at hS'); (repeat (have hS1 := hS'.1; replace hS' := hS'.2)); go_simp; (try with_reducible rfl); done)); simp only [Act.put, List.getElem_toArray, List.getElem_cons_zero, List.getElem_cons_succ, List.setIfInBounds_toArray, List.set_cons_zero, List.set_cons_succ]))
        refine wpS_load_stm _ rfl (by rfl) _ _ rfl y (off' + k * 2) rfl t _ (fun w' hS' => range_below RB.out GB.out hS'.1) Try.underlying23 rfl info_stm ?_
        simp only [Act.put, List.getElem_toArray, List.getElem_cons_zero, List.getElem_cons_succ, List.setIfInBounds_toArray, List.set_cons_zero, List.set_cons_succ]
        refine wpS_take _ _ rfl (by rfl) (fun w' hS' => exec_bin _ _ _ _ _ rfl _ _ _ rfl rfl (hgd _ _ _ w') (heq w')) ?_
        simp only [Act.put, List.getElem_toArray, List.getElem_cons_zero, List.getElem_cons_succ, List.setIfInBounds_toArray, List.set_cons_zero, List.set_cons_succ]
        refine wpS_done ?_
        clear heq hgd
        cases q
        · go_wp2_with fail
          go_ret
          exact ⟨ret_bool (by rw [← HV.out]; unfold sameO; rw [decide_eq_false (show ¬ a.os = b.os from fun e => (of_decide_eq_false HQ.out) (by rw [← HS.out, ← HT.out]; simp only [e]))]; simp), HBK.out.drew⟩
        · go_wp2_with fail
          go_roundg (a.os.length - (k + 1))
          case measure => omega
          case rel => exact ⟨k + 1, by omega, rfl, by first | rfl | exact congrArg (Value.int .i64) (by omega) | go_num, hbk.drew, Lib.hid (fun j h1 h2 hj => by
            rcases Nat.lt_or_ge j k with h | h
            · exact HOK.out j h1 h2 h
            · obtain rfl : j = k := by omega
              rw [HS.out, HT.out, of_decide_eq_true HQ.out])⟩
      · obtain rfl : k = a.os.length := by omega
        have hos : a.os = b.os := same_from HLN.out (fun j h1 h2 => HOK.out j h1 h2 h1)
        have q0 := R.kind
        have q1 := T.kind
        have q2 := R.name
        have q3 := T.name
        have e1 := fun w => eql_stm a.at_ b.at_ w
        have e2 := fun w => eql_stm a.node b.node w
        have e3 := fun w => eql_stm a.par b.par w
        have g1 := fun o x y w => guard_stm o x y a.at_ b.at_ w
        have g2 := fun o x y w => guard_stm o x y a.node b.node w
        have g3 := fun o x y w => guard_stm o x y a.par b.par w
        have e4 := fun w => eqin_data a.data b.data HLA.out HLB.out w
        obtain ⟨x1, hx1⟩ : ∃ x, decide (a.at_ = b.at_) = x := ⟨_, rfl⟩
        obtain ⟨x2, hx2⟩ : ∃ x, decide (a.node = b.node) = x := ⟨_, rfl⟩
        obtain ⟨x3, hx3⟩ : ∃ x, decide (a.par = b.par) = x := ⟨_, rfl⟩
        obtain ⟨x4, hx4⟩ : ∃ x, decide (a.data = b.data) = x := ⟨_, rfl⟩
        rw [hx1] at e1
        rw [hx2] at e2
        rw [hx3] at e3
        rw [hx4] at e4
        have X1 := Lib.hid hx1
        have X2 := Lib.hid hx2
        have X3 := Lib.hid hx3
        have X4 := Lib.hid hx4
        have X5 : Hid (decide (a.os = b.os) = true) := Lib.hid (decide_eq_true hos)
        clear hx1 hx2 hx3 hx4 hos
        go_wp2_with (first
          | ((with_reducible (refine wpList_load_stm 23 _ g 1 a.at_ R.at_ Try.underlying23 rfl info_stm ?_ rfl ?_ ?_)); (exact rfl); (exact rfl))
          | ((with_reducible (refine wpList_load_stm 23 _ g' 1 b.at_ T.at_ Try.underlying23 rfl info_stm ?_ rfl ?_ ?_)); (exact rfl); (exact rfl))
          | ((with_reducible (refine wpList_load_stm 23 _ g 3 a.node R.node Try.underlying23 rfl info_stm ?_ rfl ?_ ?_)); (exact rfl); (exact rfl))
          | ((with_reducible (refine wpList_load_stm 23 _ g' 3 b.node T.node Try.underlying23 rfl info_stm ?_ rfl ?_ ?_)); (exact rfl); (exact rfl))
          | ((with_reducible (refine wpList_load_stm 23 _ g 5 a.par R.par Try.underlying23 rfl info_stm ?_ rfl ?_ ?_)); (exact rfl); (exact rfl))
          | ((with_reducible (refine wpList_load_stm 23 _ g' 5 b.par T.par Try.underlying23 rfl info_stm ?_ rfl ?_ ?_)); (exact rfl); (exact rfl))
          | ((with_reducible (refine wpList_load_b8 30 _ g 8 a.data R.data Try.underlying30 rfl HID.out ?_ rfl ?_ ?_)); (exact rfl); (exact rfl))
          | ((with_reducible (refine wpList_load_b8 30 _ g' 8 b.data T.data Try.underlying30 rfl HIE.out ?_ rfl ?_ ?_)); (exact rfl); (exact rfl)))
        all_goals
          go_ret
          exact ⟨ret_bool (by rw [← HV.out]; unfold sameO; rw [X1.out, X2.out, X3.out, X4.out, X5.out]; simp_all), HBK.out⟩
  · have hn : ((a.os.length : Int) != (b.os.length : Int)) = true := by rw [bne_iff_ne]; omega
    go_enter Try.func21, Try.ntmps21
    go_wp2_with fail
    go_ret
    exact ⟨ret_bool (by rw [← HV.out]; unfold sameO; rw [decide_eq_false (show ¬ a.os = b.os from fun e => hl (by rw [e]))]; simp), HBEL.out⟩
end Go.Proofs.Ytabkgoandfpclaa
