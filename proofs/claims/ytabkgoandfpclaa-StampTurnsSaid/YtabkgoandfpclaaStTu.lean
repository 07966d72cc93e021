
/- StampTurns: the walk. -/

import Derived.Test.YtabkgoandfpclaaStPre2

import Derived.Test.YtabkgoandfpclaaStAl1

import Derived.Test.YtabkgoandfpclaaOp7

import Derived.Test.YtabkgoandfpclaaPut3

namespace Go.Proofs.Ytabkgoandfpclaa

set_option linter.unusedVariables false

set_option linter.unusedSimpArgs false

open Go.RowKit

theorem i64_and_mask (x : Int) (m : Nat) (hm : m < 9223372036854775808) : ∃ n : Nat, n ≤ m ∧ bits .and .i64 x (m : Int) = (n : Int) := by
  refine ⟨(BitVec.ofInt 64 x &&& BitVec.ofInt 64 (m : Int)).toNat, ?_, ?_⟩
  · rw [BitVec.toNat_and]
    refine Nat.le_trans Nat.and_le_right ?_
    rw [BitVec.ofInt_natCast, BitVec.toNat_ofNat]
    exact Nat.mod_le _ _
  · show IntKind.i64.wrap ((BitVec.ofInt 64 x &&& BitVec.ofInt 64 (m : Int)).toNat : Int) = _
    have h2 : (BitVec.ofInt 64 x &&& BitVec.ofInt 64 (m : Int)).toNat ≤ m := by
      rw [BitVec.toNat_and]
      refine Nat.le_trans Nat.and_le_right ?_
      rw [BitVec.ofInt_natCast, BitVec.toNat_ofNat]
      exact Nat.mod_le _ _
    exact IntWalk.i64_in _ (by omega)
theorem same_s (v u : Value) (xs ys : List UInt8) (w : World) (h : Sl w v xs) (k : Sl w u ys) (b : Bool) (he : decide (xs = ys) = b) :
    Calls Try.prog 23 #[v, u] w fun e w' => e = .returned (.bool b) ∧ Below w.heap.size w w' := by
  obtain ⟨A, m, c, rfl, rfl, _, _, hr⟩ := h
  obtain ⟨B, n, d, rfl, rfl, _, _, hs⟩ := k
  exact same_b b A B xs ys c d w hr hs (by omega) (by omega) he
theorem getOp_none (st : St) (h : (getOpM st).2 = none) : (getOpM st).1 = op0 := by
  unfold getOpM at h ⊢
  split at h
  · rename_i hk
    rw [if_pos hk]
    rw [getMove_raw] at h ⊢
    split at h
    · rename_i hc
      rw [if_pos hc]
      dsimp only at h
      rw [h] at hc
      simp at hc
    · rename_i hc
      rw [if_neg hc]
  · rename_i hk
    rw [if_neg hk]
    rw [getEdit_raw] at h ⊢
    split at h
    · rename_i hc
      rw [if_pos hc]
      dsimp only at h
      rw [h] at hc
      simp at hc
    · rename_i hc
      rw [if_neg hc]
theorem opB_len (o : OpM) (hl : o.data.length = 32) (hg : goodO o = true) : (opB o).length ≤ 2000 := by
  have h1 := (numB_len o.kind).2
  have h2 := stmB_len o.at_
  have h3 := stmB_len o.node
  have h4 := stmB_len o.par
  have h5 := (numB_len (o.os.length : Int)).2
  have h6 := stmsB_len o.os
  unfold opB
  by_cases k : o.kind = 1
  · rw [if_pos k]
    have := good_nm hg k
    have h7 : (textB o.name.data.toList).length ≤ 69 := by
      unfold textB
      rw [List.length_append, ← Lib.size_eq]
      have := (numB_len ((o.name.size : Nat) : Int)).2
      omega
    simp only [List.length_append]
    omega
  · rw [if_neg k]
    have := good_os hg k
    simp only [List.length_append, hl]
    omega

theorem opB_pos (o : OpM) : 1 ≤ (opB o).length := by
  have := (numB_len o.kind).1
  unfold opB
  simp only [List.length_append]
  omega
theorem remN (a b : Nat) (hb : 0 < b) (hs : a < 9223372036854775808) (w : World) : (binOp .rem 3 (.int .i64 (a : Int)) (.int .i64 (b : Int))).run Try.prog w = .ok (.int .i64 ((a % b : Nat) : Int)) w := by
  have h1 : Int.tmod (a : Int) (b : Int) = ((a % b : Nat) : Int) := by rw [Int.tmod_eq_emod_of_nonneg (by omega)]; omega
  have h2 : ((b : Int) == 0) = false := by simp; omega
  have h3 : a % b ≤ a := Nat.mod_le _ _
  have hw : IntKind.i64.wrap ((a % b : Nat) : Int) = ((a % b : Nat) : Int) := IntWalk.i64_in _ (by omega)
  simp [go_sem, h1, h2, hw]
  omega

set_option maxRecDepth 100000 in
set_option maxHeartbeats 8000000 in
theorem stampTurns_any (a b : OpM) (z : Int) (w : World) (ha : OpIn w a) (hb : OpIn w b) : Calls Try.prog 6 #[a.val, b.val, .int .i64 z] w fun e w' => e = .returned (.bool true) ∧ Below w.heap.size w w' := by
  obtain ⟨W1, W2, g, g', hg, hg', hW1, hW2, hra, hrb, hbel⟩ := two_rows a b ha hb
  have HIA : Hid ((Try.prog.info? 33).map (·.size) = some a.cells.toArray.size) := Lib.hid (by rw [List.size_toArray, a.cells_len ha.len]; exact info_op)
  have HIB : Hid ((Try.prog.info? 33).map (·.size) = some b.cells.toArray.size) := Lib.hid (by rw [List.size_toArray, b.cells_len hb.len]; exact info_op)
  have HIA2 : Hid ((Try.prog.info? 33).map (·.size) = some a.cells.length) := Lib.hid (by rw [a.cells_len ha.len]; exact info_op)
  have HIB2 : Hid ((Try.prog.info? 33).map (·.size) = some b.cells.length) := Lib.hid (by rw [b.cells_len hb.len]; exact info_op)
  have HAL := Lib.hid (Array.getElem?_eq_some_iff.1 hra).1
  have HBL := Lib.hid (Array.getElem?_eq_some_iff.1 hrb).1
  have HDA := Lib.hid ha.len
  have HDB := Lib.hid hb.len
  have HBEL := Lib.hid hbel
  have HGL : Hid (g ≤ W2.heap.size) := Lib.hid (by have := hbel.size; omega)
  have HR : Hid (∀ W, Below W2.heap.size W2 W → W.heap[g]? = some (.cells a.cells.toArray 33 (0, 0)) ∧ W.heap[g']? = some (.cells b.cells.toArray 33 (0, 0))) := Lib.hid (fun W h => ⟨(h.block _ (Array.getElem?_eq_some_iff.1 hra).1).trans hra, (h.block _ (Array.getElem?_eq_some_iff.1 hrb).1).trans hrb⟩)
  have HIN : Hid (∀ W, Below W2.heap.size W2 W → OpIn W a ∧ OpIn W b) := Lib.hid (fun W h => ⟨(ha.below (hg ▸ hbel)).below h, (hb.below (hg ▸ hbel)).below h⟩)
  obtain ⟨M, hM, hn⟩ : ∃ M : Nat, M ≤ 1048575 ∧ bits .and .i64 z 1048575 = (M : Int) := i64_and_mask z 1048575 (by decide)
  have HM := Lib.hid hM
  have HN := Lib.hid hn
  unfold OpM.val
  rw [hg]
  clear hra hrb hbel ha hb hM hn
  go_enter Try.func6, Try.ntmps6
  go_wp2_with fail
  clear hg hg' hW1 hW2
  refine (alive_any _).mono ?_
  rintro e w3 ⟨rfl, hb3⟩
  have HB3 : Hid (Below W2.heap.size W2 w3) := Lib.hid hb3
  obtain ⟨hr, _⟩ := HR.out _ hb3
  go_wp2_with ((with_reducible (refine wpList_load_op 33 _ g a hr Try.underlying33 rfl HIA.out ?_ rfl ?_ ?_)); (exact rfl); (exact rfl))
  clear hr
  refine (good_any' a w3 (HIN.out _ HB3.out).1).mono ?_
  rintro e w4 ⟨rfl, hb4⟩
  have HB4 := Lib.hid (HB3.out.trans (hb4.mono HB3.out.size))
  clear hb4 hb3
  cases hga : goodO a
  · obtain ⟨hr, _⟩ := HR.out _ HB4.out
    have HGA := Lib.hid hga
    clear hga
    go_wp2_with ((with_reducible (refine wpList_load_op 33 _ g a hr Try.underlying33 rfl HIA.out ?_ rfl ?_ ?_)); (exact rfl); (exact rfl))
    refine (put_any _ [] a w4 (Sl.nil _) (by simp) (HIN.out _ HB4.out).1).mono ?_
    rintro e w5 ⟨v5, rfl, ho5⟩
    have hz : [] ++ putB a = [] := by unfold putB; rw [HGA.out]; rfl
    rw [hz] at ho5
    have HB5 := Lib.hid (HB4.out.trans (ho5.bel.mono HB4.out.size))
    obtain ⟨X, n, d, rfl, hn, _, _, _⟩ := ho5.sl
    have hn0 : n = 0 := hn
    subst hn0
    clear ho5 hr hn hz
    go_wp2_with fail
    go_ret
    exact ⟨rfl, HBEL.out.trans (HB5.out.mono HGL.out)⟩
  · obtain ⟨_, hr⟩ := HR.out _ HB4.out
    have HGA := Lib.hid hga
    clear hga
    go_wp2_with ((with_reducible (refine wpList_load_op 33 _ g' b hr Try.underlying33 rfl HIB.out ?_ rfl ?_ ?_)); (exact rfl); (exact rfl))
    clear hr
    refine (good_any' b w4 (HIN.out _ HB4.out).2).mono ?_
    rintro e w5 ⟨rfl, hb5⟩
    have HB5 := Lib.hid (HB4.out.trans (hb5.mono HB4.out.size))
    clear hb5
    cases hgb : goodO b
    · obtain ⟨hr, _⟩ := HR.out _ HB5.out
      clear hgb
      go_wp2_with ((with_reducible (refine wpList_load_op 33 _ g a hr Try.underlying33 rfl HIA.out ?_ rfl ?_ ?_)); (exact rfl); (exact rfl))
      refine (put_any _ [] a w5 (Sl.nil _) (by simp) (HIN.out _ HB5.out).1).mono ?_
      rintro e w6 ⟨v6, rfl, ho6⟩
      have hz : [] ++ putB a = opB a := by unfold putB; rw [HGA.out]; rfl
      rw [hz] at ho6
      have HB6 := Lib.hid (HB5.out.trans (ho6.bel.mono HB5.out.size))
      obtain ⟨X, n, d, rfl, hn, _, _, _⟩ := ho6.sl
      have hnp : ((n : Int) == 0) = false := by have := opB_pos a; simp; omega
      obtain ⟨hr, _⟩ := HR.out _ HB6.out
      clear ho6 hn hz
      go_wp2_with ((with_reducible (refine wpList_load_op 33 _ g a hr Try.underlying33 rfl HIA.out ?_ rfl ?_ ?_)); (exact rfl); (exact rfl))
      refine (good_any' a w6 (HIN.out _ HB6.out).1).mono ?_
      rintro e w7 ⟨rfl, hb7⟩
      rw [HGA.out]
      have HB7 := Lib.hid (HB6.out.trans (hb7.mono HB6.out.size))
      clear hr hb7
      go_wp2_with fail
      go_ret
      exact ⟨rfl, HBEL.out.trans (HB7.out.mono HGL.out)⟩
    · have HGB := Lib.hid hgb
      clear hgb
      go_wp2_with fail
      have LA : ∀ W, Below W2.heap.size W2 W → W.rangeAt g 0 a.cells := fun W h => range_of_row (HR.out W h).1
      have LB : ∀ W, Below W2.heap.size W2 W → W.rangeAt g' 0 b.cells := fun W h => range_of_row (HR.out W h).2
      have HLA := Lib.hid LA
      have HLB := Lib.hid LB
      clear LA LB
      refine wp_region_sched (fun w' => Below W2.heap.size W2 w')
        [(true, 0), (true, 2), (false, 1), (false, 3), (true, 4), (true, 5)] (by kernel_rfl) (by kernel_rfl) rfl (by kernel_rfl) HB5.out.drew ?_
      refine wpS_load _ rfl (by rfl) _ _ rfl _ _ rfl a.cells _ HLA.out Try.underlying33 rfl HIA2.out ?_
      simp only [Act.put, List.getElem_toArray, List.getElem_cons_zero, List.getElem_cons_succ, List.setIfInBounds_toArray, List.set_cons_zero, List.set_cons_succ]
      refine wpS_load _ rfl (by rfl) _ _ rfl _ _ rfl b.cells _ HLB.out Try.underlying33 rfl HIB2.out ?_
      simp only [Act.put, List.getElem_toArray, List.getElem_cons_zero, List.getElem_cons_succ, List.setIfInBounds_toArray, List.set_cons_zero, List.set_cons_succ]
      refine wpS_do _ rfl (by rfl) (fun K hK => ?_)
      go_simp
      refine (put_any _ [] a _ (Sl.nil _) (by simp) (HIN.out _ HB5.out.drew).1).mono ?_
      rintro e w6 ⟨v6, rfl, ho6⟩
      have hz : [] ++ putB a = opB a := by unfold putB; rw [HGA.out]; rfl
      rw [hz] at ho6
      have HB6 := Lib.hid (HB5.out.drew.trans (ho6.bel.mono HB5.out.drew.size))
      have HX6 := Lib.hid ho6.sl
      clear ho6 hz
      refine hK.out _ _ HB6.out (fun hS => ?_)
      clear hK hS
      refine wpS_do _ rfl (by rfl) (fun K hK => ?_)
      go_simp
      refine (put_any _ [] b w6 (Sl.nil _) (by simp) (HIN.out _ HB6.out).2).mono ?_
      rintro e w7 ⟨v7, rfl, ho7⟩
      have hz : [] ++ putB b = opB b := by unfold putB; rw [HGB.out]; rfl
      rw [hz] at ho7
      have HB7 := Lib.hid (HB6.out.trans (ho7.bel.mono HB6.out.size))
      have HX7 := Lib.hid (HX6.out.below ho7.bel)
      have HY7 := Lib.hid ho7.sl
      clear ho7 hz
      refine hK.out _ _ HB7.out (fun hS => ?_)
      clear hK hS
      (repeat (first | (refine wpS_pass _ rfl (by rfl) ?_; simp only [Act.put, List.getElem_toArray, List.getElem_cons_zero, List.getElem_cons_succ, List.setIfInBounds_toArray, List.set_cons_zero, List.set_cons_succ]) | (refine wpS_take _ ?_ rfl (by rfl) ?_ ?_; rotate_left; (focus (intro w' hS'; (try dsimp only at hS'); (repeat (have hS1 := hS'.1; replace hS' := hS'.2)); go_simp; (try with_reducible rfl); done)); simp only [Act.put, List.getElem_toArray, List.getElem_cons_zero, List.getElem_cons_succ, List.setIfInBounds_toArray, List.set_cons_zero, List.set_cons_succ])))
      refine wpS_done ?_
      go_wp2_with fail
      have hsame := opB_same a b HDA.out HDB.out HGA.out HGB.out
      obtain ⟨X, n, d, hv6, hn, hnd, hdm, hrx⟩ := HX7.out
      subst hv6
      have hnp : ((n : Int) == 0) = false := by have := opB_pos a; simp; omega
      have HX8 := Lib.hid (show Sl w7 (.slice X n d) (opB a) from ⟨X, n, d, rfl, hn, hnd, hdm, hrx⟩)
      have HRX := Lib.hid hrx
      have HNN := Lib.hid hn
      have HSA := Lib.hid hsame
      clear hn hrx hsame
      refine wp_region_sched (fun w' => Below W2.heap.size W2 w' ∧ Below w7.heap.size w7 w')
        [(true, 0), (true, 1), (true, 3), (true, 4), (false, 2), (false, 5), (true, 6), (true, 7), (true, 8), (true, 9), (true, 10), (true, 11)] (by kernel_rfl) (by kernel_rfl) rfl (by kernel_rfl) ⟨HB7.out.drew, (Below.refl _ _).drew⟩ ?_
      (repeat (first | (refine wpS_pass _ rfl (by rfl) ?_; simp only [Act.put, List.getElem_toArray, List.getElem_cons_zero, List.getElem_cons_succ, List.setIfInBounds_toArray, List.set_cons_zero, List.set_cons_succ]) | (refine wpS_take _ ?_ rfl (by rfl) ?_ ?_; rotate_left; (focus (intro w' hS'; (try dsimp only at hS'); (repeat (have hS1 := hS'.1; replace hS' := hS'.2)); go_simp; (try with_reducible rfl); done)); simp only [Act.put, List.getElem_toArray, List.getElem_cons_zero, List.getElem_cons_succ, List.setIfInBounds_toArray, List.set_cons_zero, List.set_cons_succ])))
      refine wpS_load _ rfl (by rfl) _ _ rfl _ _ rfl a.cells _ (fun w' hS' => HLA.out w' hS'.1) Try.underlying33 rfl HIA2.out ?_
      simp only [Act.put, List.getElem_toArray, List.getElem_cons_zero, List.getElem_cons_succ, List.setIfInBounds_toArray, List.set_cons_zero, List.set_cons_succ]
      refine wpS_load _ rfl (by rfl) _ _ rfl _ _ rfl b.cells _ (fun w' hS' => HLB.out w' hS'.1) Try.underlying33 rfl HIB2.out ?_
      simp only [Act.put, List.getElem_toArray, List.getElem_cons_zero, List.getElem_cons_succ, List.setIfInBounds_toArray, List.set_cons_zero, List.set_cons_succ]
      refine wpS_do _ rfl (by rfl) (fun K hK => ?_)
      go_simp
      refine (same_s (.slice X n d) v7 _ _ _ (HX8.out.below (Below.refl _ _).drew) (HY7.out.below (Below.refl _ _).drew) (sameO a b) HSA.out).mono ?_
      rintro e w8 ⟨rfl, hb8⟩
      have hb78 : Below w7.heap.size w7 w8 := (Below.refl _ _).drew.trans hb8
      have HB8 := Lib.hid (HB7.out.trans (hb78.mono HB7.out.size))
      have HC8 := Lib.hid hb78
      clear hb78 hb8
      refine hK.out _ _ ⟨HB8.out, HC8.out⟩ (fun hS => ?_)
      clear hK hS
      refine wpS_do _ rfl (by rfl) (fun K hK => ?_)
      go_simp
      refine (opsame_any a b w8 (HIN.out _ HB8.out).1 (HIN.out _ HB8.out).2).mono ?_
      rintro e w9 ⟨rfl, hb9⟩
      have HB9 := Lib.hid (HB8.out.trans (hb9.mono HB8.out.size))
      have HC9 := Lib.hid (HC8.out.trans (hb9.mono HC8.out.size))
      clear hb9
      refine hK.out _ _ ⟨HB9.out, HC9.out⟩ (fun hS => ?_)
      clear hK hS
      have hbb : (sameO a b != sameO a b) = false := by cases sameO a b <;> rfl
      (repeat (first | (refine wpS_pass _ rfl (by rfl) ?_; simp only [Act.put, List.getElem_toArray, List.getElem_cons_zero, List.getElem_cons_succ, List.setIfInBounds_toArray, List.set_cons_zero, List.set_cons_succ]) | (refine wpS_take _ ?_ rfl (by rfl) ?_ ?_; rotate_left; (focus (intro w' hS'; (try dsimp only at hS'); (repeat (have hS1 := hS'.1; replace hS' := hS'.2)); go_simp; (try with_reducible rfl); done)); simp only [Act.put, List.getElem_toArray, List.getElem_cons_zero, List.getElem_cons_succ, List.setIfInBounds_toArray, List.set_cons_zero, List.set_cons_succ])))
      refine wpS_done ?_
      have hn0 : ¬ n = 0 := by have := opB_pos a; have := HNN.out; omega
      have HN0 := Lib.hid hn0
      have k0 : ((M % n : Nat) : Int) = (M : Int) % (n : Int) := Int.natCast_emod M n
      have k1 : 0 ≤ (M : Int) % (n : Int) := by omega
      have k3 : M % n < n := Nat.mod_lt _ (by omega)
      have K3 := Lib.hid k3
      have k2 : (M : Int) % (n : Int) ≤ (d : Int) := by omega
      have hn := HN.out
      clear k0 k3
      go_wp2_with fail
      clear hn k1 k2 hn0 hnp
      have htk : Rd w9 X (b8s ((opB a).take (M % n))) := by
        have := (HRX.out.below HC9.out).take (M % n)
        rwa [← b8s_take] at this
      have hlen : (opB a).length ≤ 2000 := opB_len a HDA.out HGA.out
      have hkn : M % n = ((opB a).take (M % n)).length := by rw [List.length_take]; have := HNN.out; have := K3.out; omega
      refine (read_any X ((opB a).take (M % n)) _ d w9 hkn htk (by rw [List.length_take]; omega)).mono ?_
      rintro e w10 ⟨r, rfl, hr1, hb10, hm10⟩
      have HB10 := Lib.hid (HB9.out.trans (hb10.mono HB9.out.size))
      have HM10 := Lib.hid hm10
      have HR10 : Hid (W2.heap.size ≤ r) := Lib.hid (Nat.le_trans HB9.out.size hr1)
      clear htk hlen hkn hr1 hb10 hm10
      go_wp2_with fail
      refine (get_any r _ w10 HM10.out).mono ?_
      rintro e w11 ⟨o, rfl, hin, heq, hm11, hg11⟩
      have hnone : (getOpM (some ((opB a).take (M % n)))).2 = none := getOp_take a HDA.out HGA.out (M % n) (by have := HNN.out; have := K3.out; omega)
      rw [getOp_none _ hnone] at heq
      rw [hnone] at hm11
      have HB11 := Lib.hid (bel_grown HB10.out HB10.out.size hg11 HR10.out)
      have HM11 := Lib.hid hm11
      have HIN11 := Lib.hid hin
      have hod := hin.len
      have HEQ := Lib.hid heq
      obtain ⟨Wa, W12, hWa0, hW12, HTH, HRS, HB12⟩ := row_place (w := w11) 33 op0.cells o.cells (by rw [o.cells_len hod]; rfl)
      have hWa : w11.alloc (.cells #[Value.int .i64 0, Value.int .i64 0, Value.int .i64 0, Value.int .i64 0, Value.int .i64 0, Value.int .i64 0, Value.int .i64 0, Value.string ⟨#[]⟩, Value.int .u8 0, Value.int .u8 0, Value.int .u8 0, Value.int .u8 0, Value.int .u8 0, Value.int .u8 0, Value.int .u8 0, Value.int .u8 0, Value.int .u8 0, Value.int .u8 0, Value.int .u8 0, Value.int .u8 0, Value.int .u8 0, Value.int .u8 0, Value.int .u8 0, Value.int .u8 0, Value.int .u8 0, Value.int .u8 0, Value.int .u8 0, Value.int .u8 0, Value.int .u8 0, Value.int .u8 0, Value.int .u8 0, Value.int .u8 0, Value.int .u8 0, Value.int .u8 0, Value.int .u8 0, Value.int .u8 0, Value.int .u8 0, Value.int .u8 0, Value.int .u8 0, Value.int .u8 0, Value.slice none 0 0] 33) = Wa := hWa0
      have HW12 := Lib.hid hW12
      have HSZ : Hid ((Try.prog.info? 33).map (·.size) = some o.cells.toArray.size) := Lib.hid (by rw [size_op _ hod]; exact info_op)
      have HON : Hid (o.cells.toArray.all (·.oneCell') = true) := Lib.hid (all_oneCell_toArray (o.cells_one (by obtain ⟨A, c, h1, _⟩ := hin.ov; exact ⟨A, _, c, h1⟩)))
      have HM12 := Lib.hid (hm11.below HB12.out)
      have HIN12 := Lib.hid (hin.below HB12.out)
      have HB12' := Lib.hid (HB11.out.trans (HB12.out.mono HB11.out.size))
      clear hg11 hnone hm11 hin hod heq hWa0 hW12
      go_wp2_with ((with_reducible (refine wpList_store_mid rfl _ _ _ rfl ?_ ?_ ?_ ?_ ?_ ?_ ?_ ?_ ?_)); (exact w11.heap.size); (exact 0); (exact o.cells.toArray); (exact rfl); (exact rfl); (exact HTH.out); (exact HSZ.out); (exact HON.out); rw [HW12.out])
      clear hWa
      refine (good_any r none W12 HM12.out).mono ?_
      rintro e w13 ⟨rfl, rfl⟩
      have hrow := HRS.out
      go_wp2_with ((with_reducible (refine wpList_load_op 33 _ w11.heap.size o hrow Try.underlying33 rfl HSZ.out ?_ rfl ?_ ?_)); (exact rfl); (exact rfl))
      refine (opsame_any o op0 W12 HIN12.out (opIn_plain _ op0 rfl (by decide) rfl rfl)).mono ?_
      rintro e w14 ⟨rfl, hb14⟩
      have hsm : sameO o op0 = true := by
        have h1 : sameO o op0 = sameO { o with ov := .slice none 0 0 } op0 := rfl
        rw [h1, HEQ.out]
        exact same_o1 op0
      rw [hsm]
      have HB14 := Lib.hid (HB12'.out.trans (hb14.mono HB12'.out.size))
      clear hb14 hsm hrow
      go_wp2_with fail
      go_ret
      exact ⟨rfl, HBEL.out.trans (HB14.out.mono HGL.out)⟩
end Go.Proofs.Ytabkgoandfpclaa
