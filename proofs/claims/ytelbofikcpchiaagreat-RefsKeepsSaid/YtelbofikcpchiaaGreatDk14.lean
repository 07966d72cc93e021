
/- SameTexts; a disk's calls with what they keep; the document's example. -/

import Derived.Test.YtelbofikcpchiaaGreatDk13

import Derived.Test.YtelbofikcpchiaaGreatQD

namespace Go.Proofs.YtelbofikcpchiaaGreat

set_option linter.unusedVariables false

set_option linter.unusedSimpArgs false

set_option linter.unusedSectionVars false

open Go.RowKit

def sts (xs : List ByteArray) : List Value := xs.map Value.string
theorem sts_get (xs : List ByteArray) (k : Nat) (h : k < xs.length) : (sts xs)[k]? = some (.string xs[k]) := by simp [sts, h]

set_option maxRecDepth 100000 in
set_option maxHeartbeats 2000000 in
theorem texts_any (A B : Option Addr) (xs ys : List ByteArray) (c c' : Nat) (w : World) (ha : Rd w A (sts xs)) (hb : Rd w B (sts ys)) (hma : xs.length ≤ 9223372036854775807) (hmb : ys.length ≤ 9223372036854775807) :
    Calls Tryz.prog 58 #[.slice A xs.length c, .slice B ys.length c'] w fun e w' => e = .returned (.bool (decide (xs = ys))) ∧ Below w.heap.size w w' := by
  have HA := Lib.hid ha
  have HB := Lib.hid hb
  obtain ⟨n, hn⟩ : ∃ n, xs.length = n := ⟨_, rfl⟩
  obtain ⟨m, hm⟩ : ∃ n, ys.length = n := ⟨_, rfl⟩
  have HN := Lib.hid hn
  have HM := Lib.hid hm
  rw [hn] at hma
  rw [hm] at hmb
  rw [hn, hm]
  obtain ⟨q, hq⟩ : ∃ q, decide (xs = ys) = q := ⟨_, rfl⟩
  have HQ := Lib.hid hq
  rw [hq]
  clear ha hb hn hm hq
  by_cases hl : n = m
  · have HNM := Lib.hid hl
    subst hl
    have z0 : ((n : Int) != (n : Int)) = false := by simp
    go_enter Tryz.func58, Tryz.ntmps58
    go_wp2_with fail
    go_loopg [5] (n * 1) (fun gk_ i wr => ∃ (k : Nat), k ≤ n ∧ gk_ = n - k ∧ i = .int .i64 (k : Int) ∧ Hid (xs.take k = ys.take k) ∧ Hid (Below w.heap.size w wr))
    case atStart => exact ⟨0, by omega, by omega, rfl, Lib.hid rfl, Lib.hid (Below.refl _ _)⟩
    case round =>
    obtain ⟨k, hk, rfl, rfl, HE, HBW⟩ := hrel
    by_cases hlt : k < n
    · have i1 : (k : Int) < (n : Int) := by omega
      have k1 : k < xs.length := by rw [HN.out]; exact hlt
      have k2 : k < ys.length := by rw [HM.out]; exact hlt
      obtain ⟨b, o, hA1, hA2⟩ := (HA.out.below HBW.out) k _ (sts_get xs k k1)
      obtain ⟨b', o', hB1, hB2⟩ := (HB.out.below HBW.out) k _ (sts_get ys k k2)
      have hiff := take_eq_succ k1 k2 HE.out
      obtain ⟨x, hx⟩ : ∃ x, xs[k] = x := ⟨_, rfl⟩
      obtain ⟨y, hy⟩ : ∃ y, ys[k] = y := ⟨_, rfl⟩
      rw [hx] at hA2
      rw [hy] at hB2
      rw [hx, hy] at hiff
      have HIFF := Lib.hid hiff
      have HXA := Lib.hid hA1
      have HXB := Lib.hid hB1
      rw [hA1, hB1]
      clear hA1 hB1 hiff hx hy k1 k2
      by_cases hxy : x = y
      · have hne : ∀ w, (binOp .neq 9 (.string x) (.string y)).run Tryz.prog w = .ok (.bool false) w := fun w => by rw [bin_strne Tryz.underlying9, decide_eq_true hxy]; rfl
        have HT := Lib.hid (HIFF.out.2 hxy)
        clear hxy
        go_wp2_with fail
        refine wp_region_sched (fun w' => w'.cell? ⟨b, o + k, none⟩ = some (.string x) ∧ w'.cell? ⟨b', o' + k, none⟩ = some (.string y)) [(true, 0), (true, 1), (true, 2), (true, 3), (true, 4), (true, 5), (true, 6), (true, 7), (true, 8)] (by kernel_rfl) (by kernel_rfl) rfl (by kernel_rfl) ⟨hA2, hB2⟩ ?_
        (first | (refine wpS_pass _ rfl (by rfl) ?_; simp only [Act.put, List.getElem_toArray, List.getElem_cons_zero, List.getElem_cons_succ, List.setIfInBounds_toArray, List.set_cons_zero, List.set_cons_succ]) | (refine wpS_take _ ?_ rfl (by rfl) ?_ ?_; rotate_left; (focus (intro w' hS'; (try dsimp only at hS'); (repeat (have hS1 := hS'.1; replace hS' := hS'.2)); go_simp; (try with_reducible rfl); done)); simp only [Act.put, List.getElem_toArray, List.getElem_cons_zero, List.getElem_cons_succ, List.setIfInBounds_toArray, List.set_cons_zero, List.set_cons_succ]))
        (first | (refine wpS_pass _ rfl (by rfl) ?_; simp only [Act.put, List.getElem_toArray, List.getElem_cons_zero, List.getElem_cons_succ, List.setIfInBounds_toArray, List.set_cons_zero, List.set_cons_succ]) | (refine wpS_take _ ?_ rfl (by rfl) ?_ ?_; rotate_left; (focus (intro w' hS'; (try dsimp only at hS'); (repeat (have hS1 := hS'.1; replace hS' := hS'.2)); go_simp; (try with_reducible rfl); done)); simp only [Act.put, List.getElem_toArray, List.getElem_cons_zero, List.getElem_cons_succ, List.setIfInBounds_toArray, List.set_cons_zero, List.set_cons_succ]))
        (first | (refine wpS_pass _ rfl (by rfl) ?_; simp only [Act.put, List.getElem_toArray, List.getElem_cons_zero, List.getElem_cons_succ, List.setIfInBounds_toArray, List.set_cons_zero, List.set_cons_succ]) | (refine wpS_take _ ?_ rfl (by rfl) ?_ ?_; rotate_left; (focus (intro w' hS'; (try dsimp only at hS'); (repeat (have hS1 := hS'.1; replace hS' := hS'.2)); go_simp; (try with_reducible rfl); done)); simp only [Act.put, List.getElem_toArray, List.getElem_cons_zero, List.getElem_cons_succ, List.setIfInBounds_toArray, List.set_cons_zero, List.set_cons_succ]))
        (first | (refine wpS_pass _ rfl (by rfl) ?_; simp only [Act.put, List.getElem_toArray, List.getElem_cons_zero, List.getElem_cons_succ, List.setIfInBounds_toArray, List.set_cons_zero, List.set_cons_succ]) | (refine wpS_take _ ?_ rfl (by rfl) ?_ ?_; rotate_left; (focus (intro w' hS'; (try dsimp only at hS'); (repeat (have hS1 := hS'.1; replace hS' := hS'.2)); go_simp; (try with_reducible rfl); done)); simp only [Act.put, List.getElem_toArray, List.getElem_cons_zero, List.getElem_cons_succ, List.setIfInBounds_toArray, List.set_cons_zero, List.set_cons_succ]))
        (first | (refine wpS_pass _ rfl (by rfl) ?_; simp only [Act.put, List.getElem_toArray, List.getElem_cons_zero, List.getElem_cons_succ, List.setIfInBounds_toArray, List.set_cons_zero, List.set_cons_succ]) | (refine wpS_take _ ?_ rfl (by rfl) ?_ ?_; rotate_left; (focus (intro w' hS'; (try dsimp only at hS'); (repeat (have hS1 := hS'.1; replace hS' := hS'.2)); go_simp; (try with_reducible rfl); done)); simp only [Act.put, List.getElem_toArray, List.getElem_cons_zero, List.getElem_cons_succ, List.setIfInBounds_toArray, List.set_cons_zero, List.set_cons_succ]))
        (first | (refine wpS_pass _ rfl (by rfl) ?_; simp only [Act.put, List.getElem_toArray, List.getElem_cons_zero, List.getElem_cons_succ, List.setIfInBounds_toArray, List.set_cons_zero, List.set_cons_succ]) | (refine wpS_take _ ?_ rfl (by rfl) ?_ ?_; rotate_left; (focus (intro w' hS'; (try dsimp only at hS'); (repeat (have hS1 := hS'.1; replace hS' := hS'.2)); go_simp; (try with_reducible rfl); done)); simp only [Act.put, List.getElem_toArray, List.getElem_cons_zero, List.getElem_cons_succ, List.setIfInBounds_toArray, List.set_cons_zero, List.set_cons_succ]))
        (first | (refine wpS_pass _ rfl (by rfl) ?_; simp only [Act.put, List.getElem_toArray, List.getElem_cons_zero, List.getElem_cons_succ, List.setIfInBounds_toArray, List.set_cons_zero, List.set_cons_succ]) | (refine wpS_take _ ?_ rfl (by rfl) ?_ ?_; rotate_left; (focus (intro w' hS'; (try dsimp only at hS'); (repeat (have hS1 := hS'.1; replace hS' := hS'.2)); go_simp; (try with_reducible rfl); done)); simp only [Act.put, List.getElem_toArray, List.getElem_cons_zero, List.getElem_cons_succ, List.setIfInBounds_toArray, List.set_cons_zero, List.set_cons_succ]))
        (first | (refine wpS_pass _ rfl (by rfl) ?_; simp only [Act.put, List.getElem_toArray, List.getElem_cons_zero, List.getElem_cons_succ, List.setIfInBounds_toArray, List.set_cons_zero, List.set_cons_succ]) | (refine wpS_take _ ?_ rfl (by rfl) ?_ ?_; rotate_left; (focus (intro w' hS'; (try dsimp only at hS'); (repeat (have hS1 := hS'.1; replace hS' := hS'.2)); go_simp; (try with_reducible rfl); done)); simp only [Act.put, List.getElem_toArray, List.getElem_cons_zero, List.getElem_cons_succ, List.setIfInBounds_toArray, List.set_cons_zero, List.set_cons_succ]))
        refine wpS_take _ _ rfl (by rfl) (fun w' hS' => exec_bin _ _ _ _ _ rfl _ _ _ rfl rfl rfl (hne w')) ?_
        simp only [Act.put, List.getElem_toArray, List.getElem_cons_zero, List.getElem_cons_succ, List.setIfInBounds_toArray, List.set_cons_zero, List.set_cons_succ]
        refine wpS_done ?_
        clear hA2 hB2
        go_wp2_with fail
        rw [← HXA.out, ← HXB.out]
        go_roundg (n - (k + 1))
        case measure => omega
        case rel => exact ⟨k + 1, by omega, rfl, by first | rfl | exact congrArg (Value.int .i64) (by omega) | go_num, HT, Lib.hid HBW.out.drew⟩
      · have hne : ∀ w, (binOp .neq 9 (.string x) (.string y)).run Tryz.prog w = .ok (.bool true) w := fun w => by rw [bin_strne Tryz.underlying9, decide_eq_false hxy]; rfl
        have HT : Hid (q = false) := Lib.hid (by
          rw [← HQ.out, decide_eq_false_iff_not]
          intro e
          exact hxy (HIFF.out.1 (by rw [e])))
        clear hxy
        go_wp2_with fail
        refine wp_region_sched (fun w' => w'.cell? ⟨b, o + k, none⟩ = some (.string x) ∧ w'.cell? ⟨b', o' + k, none⟩ = some (.string y)) [(true, 0), (true, 1), (true, 2), (true, 3), (true, 4), (true, 5), (true, 6), (true, 7), (true, 8)] (by kernel_rfl) (by kernel_rfl) rfl (by kernel_rfl) ⟨hA2, hB2⟩ ?_
        (first | (refine wpS_pass _ rfl (by rfl) ?_; simp only [Act.put, List.getElem_toArray, List.getElem_cons_zero, List.getElem_cons_succ, List.setIfInBounds_toArray, List.set_cons_zero, List.set_cons_succ]) | (refine wpS_take _ ?_ rfl (by rfl) ?_ ?_; rotate_left; (focus (intro w' hS'; (try dsimp only at hS'); (repeat (have hS1 := hS'.1; replace hS' := hS'.2)); go_simp; (try with_reducible rfl); done)); simp only [Act.put, List.getElem_toArray, List.getElem_cons_zero, List.getElem_cons_succ, List.setIfInBounds_toArray, List.set_cons_zero, List.set_cons_succ]))
        (first | (refine wpS_pass _ rfl (by rfl) ?_; simp only [Act.put, List.getElem_toArray, List.getElem_cons_zero, List.getElem_cons_succ, List.setIfInBounds_toArray, List.set_cons_zero, List.set_cons_succ]) | (refine wpS_take _ ?_ rfl (by rfl) ?_ ?_; rotate_left; (focus (intro w' hS'; (try dsimp only at hS'); (repeat (have hS1 := hS'.1; replace hS' := hS'.2)); go_simp; (try with_reducible rfl); done)); simp only [Act.put, List.getElem_toArray, List.getElem_cons_zero, List.getElem_cons_succ, List.setIfInBounds_toArray, List.set_cons_zero, List.set_cons_succ]))
        (first | (refine wpS_pass _ rfl (by rfl) ?_; simp only [Act.put, List.getElem_toArray, List.getElem_cons_zero, List.getElem_cons_succ, List.setIfInBounds_toArray, List.set_cons_zero, List.set_cons_succ]) | (refine wpS_take _ ?_ rfl (by rfl) ?_ ?_; rotate_left; (focus (intro w' hS'; (try dsimp only at hS'); (repeat (have hS1 := hS'.1; replace hS' := hS'.2)); go_simp; (try with_reducible rfl); done)); simp only [Act.put, List.getElem_toArray, List.getElem_cons_zero, List.getElem_cons_succ, List.setIfInBounds_toArray, List.set_cons_zero, List.set_cons_succ]))
        (first | (refine wpS_pass _ rfl (by rfl) ?_; simp only [Act.put, List.getElem_toArray, List.getElem_cons_zero, List.getElem_cons_succ, List.setIfInBounds_toArray, List.set_cons_zero, List.set_cons_succ]) | (refine wpS_take _ ?_ rfl (by rfl) ?_ ?_; rotate_left; (focus (intro w' hS'; (try dsimp only at hS'); (repeat (have hS1 := hS'.1; replace hS' := hS'.2)); go_simp; (try with_reducible rfl); done)); simp only [Act.put, List.getElem_toArray, List.getElem_cons_zero, List.getElem_cons_succ, List.setIfInBounds_toArray, List.set_cons_zero, List.set_cons_succ]))
        (first | (refine wpS_pass _ rfl (by rfl) ?_; simp only [Act.put, List.getElem_toArray, List.getElem_cons_zero, List.getElem_cons_succ, List.setIfInBounds_toArray, List.set_cons_zero, List.set_cons_succ]) | (refine wpS_take _ ?_ rfl (by rfl) ?_ ?_; rotate_left; (focus (intro w' hS'; (try dsimp only at hS'); (repeat (have hS1 := hS'.1; replace hS' := hS'.2)); go_simp; (try with_reducible rfl); done)); simp only [Act.put, List.getElem_toArray, List.getElem_cons_zero, List.getElem_cons_succ, List.setIfInBounds_toArray, List.set_cons_zero, List.set_cons_succ]))
        (first | (refine wpS_pass _ rfl (by rfl) ?_; simp only [Act.put, List.getElem_toArray, List.getElem_cons_zero, List.getElem_cons_succ, List.setIfInBounds_toArray, List.set_cons_zero, List.set_cons_succ]) | (refine wpS_take _ ?_ rfl (by rfl) ?_ ?_; rotate_left; (focus (intro w' hS'; (try dsimp only at hS'); (repeat (have hS1 := hS'.1; replace hS' := hS'.2)); go_simp; (try with_reducible rfl); done)); simp only [Act.put, List.getElem_toArray, List.getElem_cons_zero, List.getElem_cons_succ, List.setIfInBounds_toArray, List.set_cons_zero, List.set_cons_succ]))
        (first | (refine wpS_pass _ rfl (by rfl) ?_; simp only [Act.put, List.getElem_toArray, List.getElem_cons_zero, List.getElem_cons_succ, List.setIfInBounds_toArray, List.set_cons_zero, List.set_cons_succ]) | (refine wpS_take _ ?_ rfl (by rfl) ?_ ?_; rotate_left; (focus (intro w' hS'; (try dsimp only at hS'); (repeat (have hS1 := hS'.1; replace hS' := hS'.2)); go_simp; (try with_reducible rfl); done)); simp only [Act.put, List.getElem_toArray, List.getElem_cons_zero, List.getElem_cons_succ, List.setIfInBounds_toArray, List.set_cons_zero, List.set_cons_succ]))
        (first | (refine wpS_pass _ rfl (by rfl) ?_; simp only [Act.put, List.getElem_toArray, List.getElem_cons_zero, List.getElem_cons_succ, List.setIfInBounds_toArray, List.set_cons_zero, List.set_cons_succ]) | (refine wpS_take _ ?_ rfl (by rfl) ?_ ?_; rotate_left; (focus (intro w' hS'; (try dsimp only at hS'); (repeat (have hS1 := hS'.1; replace hS' := hS'.2)); go_simp; (try with_reducible rfl); done)); simp only [Act.put, List.getElem_toArray, List.getElem_cons_zero, List.getElem_cons_succ, List.setIfInBounds_toArray, List.set_cons_zero, List.set_cons_succ]))
        refine wpS_take _ _ rfl (by rfl) (fun w' hS' => exec_bin _ _ _ _ _ rfl _ _ _ rfl rfl rfl (hne w')) ?_
        simp only [Act.put, List.getElem_toArray, List.getElem_cons_zero, List.getElem_cons_succ, List.setIfInBounds_toArray, List.set_cons_zero, List.set_cons_succ]
        refine wpS_done ?_
        go_wp2_with fail
        go_ret
        exact ⟨by rw [HT.out]; rfl, HBW.out.drew⟩
    · obtain rfl : k = n := by omega
      have HT : Hid (q = true) := Lib.hid (by
        have h := HE.out
        have h1 := HN.out
        have h2 := HM.out
        have e1 : xs.take k = xs := by rw [← h1, List.take_length]
        have e2 : ys.take k = ys := by rw [← h2, List.take_length]
        rw [e1, e2] at h
        rw [← HQ.out, decide_eq_true h])
      go_wp2_with fail
      go_ret
      exact ⟨by rw [HT.out]; rfl, HBW.out⟩
  · have z0 : ((n : Int) != (m : Int)) = true := by rw [bne_iff_ne]; omega
    have HT : Hid (q = false) := Lib.hid (by
      rw [← HQ.out, decide_eq_false_iff_not]
      intro e
      apply hl
      rw [← HN.out, ← HM.out, e])
    clear hl
    go_enter Tryz.func58, Tryz.ntmps58
    go_wp2_with fail
    go_ret
    exact ⟨by rw [HT.out]; rfl, Below.refl _ _⟩

section

variable {N g K L : Nat} {w : World} {m m' : DM} {d : DA} {e' : Int}

theorem create_st {S : ByteArray} (h : DiskIn N w g m d) (hf : Fit K L m) (hK : K < 999999) (hL : L ≤ 1099511627776) (hS : S.size ≤ maxLen) (he : createM m S.data.toList = (m', e')) :
    Calls Tryz.prog 19 #[.pointer (some ⟨g, 0, none⟩), .string S] w fun e w' => e = .returned (.int .i64 e') ∧ ∃ d', Aft N g w w' m' d d' ∧ Fit (K + 1) L m' := by
  have hc := create_any N g m d S hS w h (hf.bnd (by omega) hL) hf.ids
  have hf' := hf.create S.data.toList
  rw [he] at hc hf'
  exact hc.mono fun e w' ⟨h1, d', h2⟩ => ⟨h1, d', h2, hf'⟩
theorem sync_st {S : ByteArray} (h : DiskIn N w g m d) (hf : Fit K L m) (hK : K < 999999) (hL : L ≤ 1099511627776) (hS : S.size ≤ maxLen) (he : syncM m S.data.toList = (m', e')) :
    Calls Tryz.prog 21 #[.pointer (some ⟨g, 0, none⟩), .string S] w fun e w' => e = .returned (.int .i64 e') ∧ ∃ d', Aft N g w w' m' d d' ∧ Fit K L m' := by
  have hc := sync_any N g m d S hS w h (hf.bnd (by omega) hL) hf.ids
  have hf' := hf.sync S.data.toList
  rw [he] at hc hf'
  exact hc.mono fun e w' ⟨h1, d', h2⟩ => ⟨h1, d', h2, hf'⟩
theorem flush_st (h : DiskIn N w g m d) (hf : Fit K L m) (hK : K < 999999) (hL : L ≤ 1099511627776) (he : flushM m = (m', e')) :
    Calls Tryz.prog 22 #[.pointer (some ⟨g, 0, none⟩)] w fun e w' => e = .returned (.int .i64 e') ∧ ∃ d', Aft N g w w' m' d d' ∧ Fit K L m' := by
  have hc := flush_any N g m d w h (hf.bnd (by omega) hL)
  have hf' := hf.flush
  rw [he] at hc hf'
  exact hc.mono fun e w' ⟨h1, d', h2⟩ => ⟨h1, d', h2, hf'⟩
theorem remove_st {S : ByteArray} (h : DiskIn N w g m d) (hf : Fit K L m) (hK : K < 999999) (hL : L ≤ 1099511627776) (hS : S.size ≤ maxLen) (he : removeM m S.data.toList = (m', e')) :
    Calls Tryz.prog 73 #[.pointer (some ⟨g, 0, none⟩), .string S] w fun e w' => e = .returned (.int .i64 e') ∧ ∃ d', Aft N g w w' m' d d' ∧ Fit (K + 1) L m' := by
  have hc := remove_any N g m d S hS w h (hf.bnd (by omega) hL)
  have hf' := hf.remove S.data.toList
  rw [he] at hc hf'
  exact hc.mono fun e w' ⟨h1, d', h2⟩ => ⟨h1, d', h2, hf'⟩
theorem rename_st {S T : ByteArray} (h : DiskIn N w g m d) (hf : Fit K L m) (hK : K < 999999) (hL : L ≤ 1099511627776) (hS : S.size ≤ maxLen) (hT : T.size ≤ maxLen) (he : renameM m S.data.toList T.data.toList = (m', e')) :
    Calls Tryz.prog 74 #[.pointer (some ⟨g, 0, none⟩), .string S, .string T] w fun e w' => e = .returned (.int .i64 e') ∧ ∃ d', Aft N g w w' m' d d' ∧ Fit (K + 1) L m' := by
  have hc := rename_any N g m d S T hS hT w h (hf.bnd (by omega) hL)
  have hf' := hf.rename S.data.toList T.data.toList
  rw [he] at hc hf'
  exact hc.mono fun e w' ⟨h1, d', h2⟩ => ⟨h1, d', h2, hf'⟩
theorem append_st {S : ByteArray} {A : Option Addr} {bs : List UInt8} {n c : Nat} (h : DiskIn N w g m d) (hf : Fit K L m) (hK : K < 999999) (hL : L ≤ 1099511627776) (hS : S.size ≤ maxLen) (hn : n = bs.length) (hr : Rd w A (b8s bs)) (hA : bs ≠ [] → ∀ a, A = some a → ¬ foot g d a.block) (hl : bs.length ≤ 1099511627776) (he : appendM m S.data.toList bs = (m', e')) :
    Calls Tryz.prog 20 #[.pointer (some ⟨g, 0, none⟩), .string S, .slice A n c] w fun e w' => e = .returned (.int .i64 e') ∧ ∃ d', Aft N g w w' m' d d' ∧ Fit K (L + bs.length) m' := by
  have hc := append_any N g m d S hS A bs c w h (hf.bnd (by omega) hL) hf.ids hr hA hl
  have hf' := hf.append S.data.toList bs
  rw [he] at hc hf'
  rw [← hn] at hc
  exact hc.mono fun e w' ⟨h1, d', h2⟩ => ⟨h1, d', h2, hf'⟩
theorem crash_st {turns : Int} {Ak : Option Addr} {keep : List Int} {kl kc : Nat} (h : DiskIn N w g m d) (hf : Fit K L m) (hK : K < 999999) (hL : L ≤ 1099511627776) (hkl : keep.length = kl) (hkc : kl ≤ kc) (hkm : kl ≤ 9223372036854775807) (hrk : Rd w Ak (keep.map (Value.int .i64))) (hkf : keep ≠ [] → ∀ a, Ak = some a → a.block < w.heap.size ∧ ¬ foot g d a.block) (he : crashM m turns keep = m') :
    Calls Tryz.prog 25 #[.pointer (some ⟨g, 0, none⟩), .int .i64 turns, .slice Ak kl kc] w fun e w' => e = .returned (.tuple #[]) ∧ ∃ d', Aft N g w w' m' d d' ∧ Fit K L m' := by
  have hc := crash_any N g m d turns Ak keep kl kc hkl hkc hkm w h (hf.bnd (by omega) hL) hf.ids (by have := hf.st; omega) hrk hkf
  have hf' := hf.crash turns keep
  rw [he] at hc hf'
  exact hc.mono fun e w' ⟨h1, d', h2⟩ => ⟨h1, d', h2, hf'⟩
theorem fail_st {n : Int} (h : DiskIn N w g m d) (hf : Fit K L m) (hn : -9223372036854775808 ≤ n ∧ n ≤ 9223372036854775807) :
    Calls Tryz.prog 26 #[.pointer (some ⟨g, 0, none⟩), .int .i64 n] w fun e w' => e = .returned (.tuple #[]) ∧ ∃ d', Aft N g w w' (failM m n) d d' ∧ Fit K L (failM m n) :=
  (dfail_any N g m d n hn w h).mono fun e w' ⟨h1, h2⟩ => ⟨h1, d, h2, hf.fail n hn.2⟩
theorem read_st {S : ByteArray} {bs : List UInt8} (h : DiskIn N w g m d) (hf : Fit K L m) (hK : K < 999999) (hL : L ≤ 1099511627776) (hS : S.size ≤ maxLen) (he : readM m S.data.toList = (bs, e')) :
    Calls Tryz.prog 28 #[.pointer (some ⟨g, 0, none⟩), .string S] w fun e w' => ∃ v, e = .returned (.tuple #[v, .int .i64 e']) ∧ Own8 w.heap.size w w' v bs := by
  have hc := dread_any N g m d S hS w h (hf.bnd (by omega) hL) hf.ids
  rw [he] at hc
  exact hc
theorem names_st {ns : NM} (h : DiskIn N w g m d) (hf : Fit K L m) (hK : K < 999999) (hL : L ≤ 1099511627776) (he : m.now = ns) :
    Calls Tryz.prog 63 #[.pointer (some ⟨g, 0, none⟩)] w fun e w' => ∃ v, e = .returned v ∧ w'.ownsRow w.heap.size 9 1 v ns.length (namesC ns) ∧ Below w.heap.size w w' := by
  have hc := names_any N g m d w h (hf.bnd (by omega) hL)
  rw [he] at hc
  exact hc
theorem room_st {r : Nat} (h : DiskIn N w g m d) (hf : Fit K L m) (hK : K < 999999) (hL : L ≤ 1099511627776) (he : roomM m = r) :
    Calls Tryz.prog 50 #[.pointer (some ⟨g, 0, none⟩)] w fun e w' => e = .returned (.int .i64 (r : Int)) ∧ Below w.heap.size w w' := by
  have hc := room_any N g m d w h (hf.bnd (by omega) hL) hf.ids
  rw [he] at hc
  exact hc
/-- a fresh block is not the disk's -/
theorem fresh_foot (h : DiskIn N w g m d) {A : Option Addr} (hA : ∀ a, A = some a → w.heap.size ≤ a.block) : ∀ a, A = some a → ¬ foot g d a.block := fun a ha hf => by
  have h1 := hA a ha
  have h2 := h.foot_lt hf
  omega
end

theorem alive_plain : ∃ s1 s2 s3 s4 s5 s6 s7 s8 : DM, ∃ f0 f1, createM (newM 7) [97] = (s1, 0) ∧ appendM s1 [97] [97, 98, 99] = (s2, 0) ∧ syncM s2 [97] = (s3, 0) ∧ flushM s3 = (s4, 0) ∧ appendM s4 [97] [100, 101, 102, 103, 104] = (s4, 51) ∧
    appendM s4 [97] [100, 101] = (s5, 0) ∧ createM s5 [98] = (s6, 0) ∧ renameM s6 [97] [99] = (s7, 0) ∧ crashM s7 1 [1] = s8 ∧ readM s8 [97] = ([97, 98, 99, 100], 0) ∧ s8.now = [([97], f0), ([98], f1)] ∧ roomM s8 = 3 :=
  ⟨_, _, _, _, _, _, _, _, _, _, rfl, rfl, rfl, rfl, rfl, rfl, rfl, rfl, rfl, rfl, rfl, rfl⟩
end Go.Proofs.YtelbofikcpchiaaGreat
