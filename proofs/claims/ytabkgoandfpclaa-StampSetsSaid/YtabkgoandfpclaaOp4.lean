
/- Two operations, the same or not. -/

import Derived.Test.YtabkgoandfpclaaOp2

namespace Go.Proofs.Ytabkgoandfpclaa

set_option linter.unusedVariables false

set_option linter.unusedSimpArgs false

open Go.RowKit

theorem same_from {os ps : List Stm} (hl : os.length = ps.length) (h : ∀ j (h1 : j < os.length) (h2 : j < ps.length), os[j] = ps[j]) : os = ps := List.ext_getElem hl (fun i h1 h2 => h i h1 h2)
set_option maxRecDepth 100000 in
set_option maxHeartbeats 2000000 in
theorem equal_any (A B : Option Addr) (os ps : List Stm) (c d : Nat) (w : World) (ha : Rd w A (stc os)) (hb : Rd w B (stc ps)) (hca : os.length ≤ c) (hcb : ps.length ≤ d) (hc : c ≤ 9223372036854775807) (hd : d ≤ 9223372036854775807) :
    Calls Try.prog 42 #[.slice A os.length c, .slice B ps.length d] w fun e w' => e = .returned (.bool (decide (os = ps))) ∧ Below w.heap.size w w' := by
  have HA := Lib.hid ha
  have HB := Lib.hid hb
  clear ha hb
  by_cases hl : os.length = ps.length
  · have hn : ((os.length : Int) != (ps.length : Int)) = false := by rw [hl]; simp
    have HLN := Lib.hid hl
    have hB0 := Below.refl w.heap.size w
    clear hl
    go_enter Try.func42, Try.ntmps42
    go_wp2_with fail
    go_loopg [13] (os.length * 1) (fun gk_ s wr => ∃ k : Nat, k ≤ os.length ∧ gk_ = os.length - k ∧ s = .int .i64 (k : Int) ∧ Below w.heap.size w wr ∧ Hid (∀ j (h1 : j < os.length) (h2 : j < ps.length), j < k → os[j] = ps[j]))
    case atStart => exact ⟨0, by omega, by omega, rfl, hB0, Lib.hid (fun j _ _ hj => absurd hj (Nat.not_lt_zero _))⟩
    case round =>
      clear hB0 hn
      obtain ⟨k, hk, rfl, rfl, hbel, HOK⟩ := hrel
      by_cases hlt : k < os.length
      · have hltp : k < ps.length := by have := HLN.out; omega
        have hpa : 0 < (stc os).length := by rw [stc_length]; omega
        have hpb : 0 < (stc ps).length := by rw [stc_length]; omega
        have ra := HA.out.below hbel
        have rb := HB.out.below hbel
        obtain ⟨b, off, hAe, _⟩ := ra.all hpa
        obtain ⟨b', off', hBe, _⟩ := rb.all hpb
        subst hAe hBe
        have RA := Lib.hid (rd_stm ra k hlt)
        have RB := Lib.hid (rd_stm rb k hltp)
        have GA := Lib.hid (ra.lt hpa)
        have GB := Lib.hid (rb.lt hpb)
        obtain ⟨s, hs⟩ : ∃ s, os[k] = s := ⟨_, rfl⟩
        obtain ⟨t, ht⟩ : ∃ t, ps[k] = t := ⟨_, rfl⟩
        rw [hs] at RA
        rw [ht] at RB
        have HS := Lib.hid hs
        have HT := Lib.hid ht
        have i1 : (k : Int) < (os.length : Int) := by omega
        have i2 : (k : Int) < (ps.length : Int) := by omega
        obtain ⟨q, hq⟩ : ∃ q, decide (s = t) = q := ⟨_, rfl⟩
        have HQ := Lib.hid hq
        have heq : ∀ w, (binOp .neq 23 s.val t.val).run Try.prog w = .ok (.bool (!q)) w := fun w => by rw [neq_stm, HQ.out]
        have hgd := fun b x y w => guard_stm b x y s t w
        clear ra rb hs ht hpa hpb hq
        go_wp2_with fail
        refine wp_region_sched (fun w' => Below wr.heap.size wr w') [(true, 0), (true, 1), (true, 2), (true, 3), (true, 4), (true, 5), (true, 6), (true, 7), (true, 8)] (by kernel_rfl) (by kernel_rfl) rfl (by kernel_rfl) (Below.refl _ _).drew ?_
        (first | (refine wpS_pass _ rfl (by rfl) ?_; simp only [Act.put, List.getElem_toArray, List.getElem_cons_zero, List.getElem_cons_succ, List.setIfInBounds_toArray, List.set_cons_zero, List.set_cons_succ]) | (refine wpS_take _ ?_ rfl (by rfl) ?_ ?_; rotate_left; (focus (intro w' hS'; (try dsimp only at hS'); (repeat (have hS1 := hS'.1; replace hS' := hS'.2)); go_simp; (try with_reducible rfl); done)); simp only [Act.put, List.getElem_toArray, List.getElem_cons_zero, List.getElem_cons_succ, List.setIfInBounds_toArray, List.set_cons_zero, List.set_cons_succ]))
        (first | (refine wpS_pass _ rfl (by rfl) ?_; simp only [Act.put, List.getElem_toArray, List.getElem_cons_zero, List.getElem_cons_succ, List.setIfInBounds_toArray, List.set_cons_zero, List.set_cons_succ]) | (refine wpS_take _ ?_ rfl (by rfl) ?_ ?_; rotate_left; (focus (intro w' hS'; (try dsimp only at hS'); (repeat (have hS1 := hS'.1; replace hS' := hS'.2)); go_simp; (try with_reducible rfl); done)); simp only [Act.put, List.getElem_toArray, List.getElem_cons_zero, List.getElem_cons_succ, List.setIfInBounds_toArray, List.set_cons_zero, List.set_cons_succ]))
        (first | (refine wpS_pass _ rfl (by rfl) ?_; simp only [Act.put, List.getElem_toArray, List.getElem_cons_zero, List.getElem_cons_succ, List.setIfInBounds_toArray, List.set_cons_zero, List.set_cons_succ]) | (refine wpS_take _ ?_ rfl (by rfl) ?_ ?_; rotate_left; (focus (intro w' hS'; (try dsimp only at hS'); (repeat (have hS1 := hS'.1; replace hS' := hS'.2)); go_simp; (try with_reducible rfl); done)); simp only [Act.put, List.getElem_toArray, List.getElem_cons_zero, List.getElem_cons_succ, List.setIfInBounds_toArray, List.set_cons_zero, List.set_cons_succ]))
        refine wpS_load_stm _ rfl (by rfl) _ _ rfl b (off + k * 2) rfl s _ (fun w' hS' => range_below RA.out GA.out hS') Try.underlying23 rfl info_stm ?_
        simp only [Act.put, List.getElem_toArray, List.getElem_cons_zero, List.getElem_cons_succ, List.setIfInBounds_toArray, List.set_cons_zero, List.set_cons_succ]
        (first | (refine wpS_pass _ rfl (by rfl) ?_; simp only [Act.put, List.getElem_toArray, List.getElem_cons_zero, List.getElem_cons_succ, List.setIfInBounds_toArray, List.set_cons_zero, List.set_cons_succ]) | (refine wpS_take _ ?_ rfl (by rfl) ?_ ?_; rotate_left; (focus (intro w' hS'; (try dsimp only at hS'); (repeat (have hS1 := hS'.1; replace hS' := hS'.2)); go_simp; (try with_reducible rfl); done)); simp only [Act.put, List.getElem_toArray, List.getElem_cons_zero, List.getElem_cons_succ, List.setIfInBounds_toArray, List.set_cons_zero, List.set_cons_succ]))
        (first | (refine wpS_pass _ rfl (by rfl) ?_; simp only [Act.put, List.getElem_toArray, List.getElem_cons_zero, List.getElem_cons_succ, List.setIfInBounds_toArray, List.set_cons_zero, List.set_cons_succ]) | (refine wpS_take _ ?_ rfl (by rfl) ?_ ?_; rotate_left; (focus (intro w' hS'; (try dsimp only at hS'); (repeat (have hS1 := hS'.1; replace hS' := hS'.2)); go_simp; (try with_reducible rfl); done)); simp only [Act.put, List.getElem_toArray, List.getElem_cons_zero, List.getElem_cons_succ, List.setIfInBounds_toArray, List.set_cons_zero, List.set_cons_succ]))
        (first | (refine wpS_pass _ rfl (by rfl) ?_; simp only [Act.put, List.getElem_toArray, List.getElem_cons_zero, List.getElem_cons_succ, List.setIfInBounds_toArray, List.set_cons_zero, List.set_cons_succ]) | (refine wpS_take _ ?_ rfl (by rfl) ?_ ?_; rotate_left; (focus (intro w' hS'; (try dsimp only at hS'); (repeat (have hS1 := hS'.1; replace hS' := hS'.2)); go_simp; (try with_reducible rfl); done)); simp only [Act.put, List.getElem_toArray, List.getElem_cons_zero, List.getElem_cons_succ, List.setIfInBounds_toArray, List.set_cons_zero, List.set_cons_succ]))
        refine wpS_load_stm _ rfl (by rfl) _ _ rfl b' (off' + k * 2) rfl t _ (fun w' hS' => range_below RB.out GB.out hS') Try.underlying23 rfl info_stm ?_
        simp only [Act.put, List.getElem_toArray, List.getElem_cons_zero, List.getElem_cons_succ, List.setIfInBounds_toArray, List.set_cons_zero, List.set_cons_succ]
        refine wpS_take _ _ rfl (by rfl) (fun w' hS' => exec_bin _ _ _ _ _ rfl _ _ _ rfl rfl (hgd _ _ _ w') (heq w')) ?_
        simp only [Act.put, List.getElem_toArray, List.getElem_cons_zero, List.getElem_cons_succ, List.setIfInBounds_toArray, List.set_cons_zero, List.set_cons_succ]
        refine wpS_done ?_
        clear heq hgd
        cases q
        · go_wp2_with fail
          go_ret
          exact ⟨ret_bool (decide_eq_false (fun e => (of_decide_eq_false HQ.out) (by rw [← HS.out, ← HT.out]; simp only [e]))).symm, hbel.drew⟩
        · go_wp2_with fail
          go_roundg (os.length - (k + 1))
          case measure => omega
          case rel => exact ⟨k + 1, by omega, rfl, by first | rfl | exact congrArg (Value.int .i64) (by omega) | go_num, hbel.drew, Lib.hid (fun j h1 h2 hj => by
            rcases Nat.lt_or_ge j k with h | h
            · exact HOK.out j h1 h2 h
            · obtain rfl : j = k := by omega
              rw [HS.out, HT.out, of_decide_eq_true HQ.out])⟩
      · obtain rfl : k = os.length := by omega
        go_wp2_with fail
        go_ret
        exact ⟨ret_bool (decide_eq_true (same_from HLN.out (fun j h1 h2 => HOK.out j h1 h2 h1))).symm, hbel⟩
  · have hn : ((os.length : Int) != (ps.length : Int)) = true := by rw [bne_iff_ne]; omega
    go_enter Try.func42, Try.ntmps42
    go_wp2_with fail
    go_ret
    exact ⟨ret_bool (decide_eq_false (fun e => hl (by rw [e]))).symm, Below.refl _ _⟩
end Go.Proofs.Ytabkgoandfpclaa
