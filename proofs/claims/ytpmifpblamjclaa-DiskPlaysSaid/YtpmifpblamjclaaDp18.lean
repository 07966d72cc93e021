
/- DiskPlays: a step of a disk; is a disk the document's? (Printed by wip/genDp18.py.) -/

import Derived.Test.YtpmifpblamjclaaDp17

namespace Go.Proofs.Ytpmifpblamjclaa

set_option linter.unusedVariables false

set_option linter.unusedSimpArgs false

set_option linter.unusedSectionVars false

open Go.RowKit

set_option maxRecDepth 100000 in
set_option maxHeartbeats 8000000 in
theorem does_any {N g K L : Nat} {w : World} {m : DM} {d : DA} (k : Nat) (hk : 1 ≤ k ∧ k ≤ 6) (S Z : ByteArray) (nI : Int) (Ab : Option Addr) (nb cb : Nat) (bs : List UInt8) (Kv : Value) (h : DiskIn N w g m d) (hf : Fit K L m) (hK : K < 999998) (hL : L ≤ 999999) (hS : S.size ≤ maxLen) (hZ : Z.size ≤ maxLen)
    (hnb : nb = bs.length ∧ nb ≤ 1000000) (hr : RdF (foot g d) w Ab (b8s bs)) (m' : DM) (e' : Int) (he : doM m k S.data.toList Z.data.toList bs = (m', e')) :
    Calls Try.prog 24 #[.pointer (some ⟨g, 0, none⟩), .agg #[.int .i64 (k : Int), .string S, .string Z, .int .i64 nI, .slice Ab nb cb, Kv]] w fun e w' => e = .returned (.int .i64 e') ∧ ∃ d', Aft N g w w' m' d d' ∧ Fit (K + 1) (L + bs.length) m' := by
  obtain ⟨g1, hg1⟩ : ∃ x, w.heap.size = x := ⟨_, rfl⟩
  obtain ⟨W1, hW1⟩ : ∃ W, w.alloc (.cells #[.int .i64 (k : Int), .string S, .string Z, .int .i64 nI, .slice Ab nb cb, Kv] 53) = W := ⟨_, rfl⟩
  obtain ⟨r1, b1, s1⟩ := new_row hW1
  rw [hg1] at r1
  have A1 := Lib.hid (Aft.below h b1)
  have HR : Hid (Rd W1 Ab (b8s bs)) := Lib.hid (hr.1.below b1)
  have HRF : Hid (bs ≠ [] → ∀ a, Ab = some a → ¬ foot g d a.block) := Lib.hid (fun hn a ha => hr.2 (fun e => hn (by have := congrArg List.length e; rw [b8s_length] at this; exact List.eq_nil_of_length_eq_zero this)) a ha)
  have HF := Lib.hid hf
  have HE := Lib.hid he
  have HNB := Lib.hid hnb
  have c0 : W1.cell? ⟨g1, 0, none⟩ = some (.int .i64 (k : Int)) := row_cell r1 0
  have c1 : W1.cell? ⟨g1, 1, none⟩ = some (.string S) := row_cell r1 1
  have c2 : W1.cell? ⟨g1, 2, none⟩ = some (.string Z) := row_cell r1 2
  have c4 : W1.cell? ⟨g1, 4, none⟩ = some (.slice Ab nb cb) := row_cell r1 4
  clear h hf hr he hnb b1 s1 r1
  obtain rfl | rfl | rfl | rfl | rfl | rfl : k = 1 ∨ k = 2 ∨ k = 3 ∨ k = 4 ∨ k = 5 ∨ k = 6 := by omega
  · have HQ : Hid (createM m S.data.toList = (m', e')) := Lib.hid HE.out
    replace c0 : W1.cell? ⟨g1, 0, none⟩ = some (.int .i64 1) := c0
    replace hW1 : w.alloc (.cells #[.int .i64 1, .string S, .string Z, .int .i64 nI, .slice Ab nb cb, Kv] 53) = W1 := hW1
    show Calls _ _ #[_, .agg #[.int .i64 1, _, _, _, _, _]] _ _
    go_enter Try.func24, Try.ntmps24
    go_wp2_with fail
    refine (create_st A1.out.disk HF.out (by omega) (by omega) hS HQ.out).mono ?_
    rintro e w2 ⟨rfl, d2, ha, hf2⟩
    have A2 := Lib.hid (A1.out.trans ha)
    have F2 := Lib.hid (hf2.mono (K' := K + 1) (L' := L + bs.length) (by omega) (by omega))
    clear ha hf2
    go_wp2_with fail
    go_ret
    exact ⟨rfl, d2, A2.out, F2.out⟩
  · have HQ : Hid (appendM m S.data.toList bs = (m', e')) := Lib.hid HE.out
    replace c0 : W1.cell? ⟨g1, 0, none⟩ = some (.int .i64 2) := c0
    replace hW1 : w.alloc (.cells #[.int .i64 2, .string S, .string Z, .int .i64 nI, .slice Ab nb cb, Kv] 53) = W1 := hW1
    show Calls _ _ #[_, .agg #[.int .i64 2, _, _, _, _, _]] _ _
    go_enter Try.func24, Try.ntmps24
    go_wp2_with fail
    refine (append_st A1.out.disk HF.out (by omega) (by omega) hS HNB.out.1 HR.out HRF.out (by have := HNB.out; omega) HQ.out).mono ?_
    rintro e w2 ⟨rfl, d2, ha, hf2⟩
    have A2 := Lib.hid (A1.out.trans ha)
    have F2 := Lib.hid (hf2.mono (K' := K + 1) (L' := L + bs.length) (by omega) (by omega))
    clear ha hf2
    go_wp2_with fail
    go_ret
    exact ⟨rfl, d2, A2.out, F2.out⟩
  · have HQ : Hid (syncM m S.data.toList = (m', e')) := Lib.hid HE.out
    replace c0 : W1.cell? ⟨g1, 0, none⟩ = some (.int .i64 3) := c0
    replace hW1 : w.alloc (.cells #[.int .i64 3, .string S, .string Z, .int .i64 nI, .slice Ab nb cb, Kv] 53) = W1 := hW1
    show Calls _ _ #[_, .agg #[.int .i64 3, _, _, _, _, _]] _ _
    go_enter Try.func24, Try.ntmps24
    go_wp2_with fail
    refine (sync_st A1.out.disk HF.out (by omega) (by omega) hS HQ.out).mono ?_
    rintro e w2 ⟨rfl, d2, ha, hf2⟩
    have A2 := Lib.hid (A1.out.trans ha)
    have F2 := Lib.hid (hf2.mono (K' := K + 1) (L' := L + bs.length) (by omega) (by omega))
    clear ha hf2
    go_wp2_with fail
    go_ret
    exact ⟨rfl, d2, A2.out, F2.out⟩
  · have HQ : Hid (renameM m S.data.toList Z.data.toList = (m', e')) := Lib.hid HE.out
    replace c0 : W1.cell? ⟨g1, 0, none⟩ = some (.int .i64 4) := c0
    replace hW1 : w.alloc (.cells #[.int .i64 4, .string S, .string Z, .int .i64 nI, .slice Ab nb cb, Kv] 53) = W1 := hW1
    show Calls _ _ #[_, .agg #[.int .i64 4, _, _, _, _, _]] _ _
    go_enter Try.func24, Try.ntmps24
    go_wp2_with fail
    refine (rename_st A1.out.disk HF.out (by omega) (by omega) hS hZ HQ.out).mono ?_
    rintro e w2 ⟨rfl, d2, ha, hf2⟩
    have A2 := Lib.hid (A1.out.trans ha)
    have F2 := Lib.hid (hf2.mono (K' := K + 1) (L' := L + bs.length) (by omega) (by omega))
    clear ha hf2
    go_wp2_with fail
    go_ret
    exact ⟨rfl, d2, A2.out, F2.out⟩
  · have HQ : Hid (removeM m S.data.toList = (m', e')) := Lib.hid HE.out
    replace c0 : W1.cell? ⟨g1, 0, none⟩ = some (.int .i64 5) := c0
    replace hW1 : w.alloc (.cells #[.int .i64 5, .string S, .string Z, .int .i64 nI, .slice Ab nb cb, Kv] 53) = W1 := hW1
    show Calls _ _ #[_, .agg #[.int .i64 5, _, _, _, _, _]] _ _
    go_enter Try.func24, Try.ntmps24
    go_wp2_with fail
    refine (remove_st A1.out.disk HF.out (by omega) (by omega) hS HQ.out).mono ?_
    rintro e w2 ⟨rfl, d2, ha, hf2⟩
    have A2 := Lib.hid (A1.out.trans ha)
    have F2 := Lib.hid (hf2.mono (K' := K + 1) (L' := L + bs.length) (by omega) (by omega))
    clear ha hf2
    go_wp2_with fail
    go_ret
    exact ⟨rfl, d2, A2.out, F2.out⟩
  · have HQ : Hid (flushM m = (m', e')) := Lib.hid HE.out
    replace c0 : W1.cell? ⟨g1, 0, none⟩ = some (.int .i64 6) := c0
    replace hW1 : w.alloc (.cells #[.int .i64 6, .string S, .string Z, .int .i64 nI, .slice Ab nb cb, Kv] 53) = W1 := hW1
    show Calls _ _ #[_, .agg #[.int .i64 6, _, _, _, _, _]] _ _
    go_enter Try.func24, Try.ntmps24
    go_wp2_with fail
    refine (flush_st A1.out.disk HF.out (by omega) (by omega) HQ.out).mono ?_
    rintro e w2 ⟨rfl, d2, ha, hf2⟩
    have A2 := Lib.hid (A1.out.trans ha)
    have F2 := Lib.hid (hf2.mono (K' := K + 1) (L' := L + bs.length) (by omega) (by omega))
    clear ha hf2
    go_wp2_with fail
    go_ret
    exact ⟨rfl, d2, A2.out, F2.out⟩

theorem info_nm2a {a b : Value} : (Try.prog.info? 98).map (·.size) = some (#[a, b] : Array Value).size := by kernel_rfl
theorem cells2n {a : ByteArray} {c : Int} : (#[.string a, .int .i64 c] : Array Value).all (·.oneCell') = true := by simp [Value.oneCell']
/-- a cell of a row of the call's own is written -/
theorem own_put {w : World} {N n c j : Nat} {A : Option Addr} {xs : List Value} (h : w.ownsRow N 5 1 (.slice A n c) n xs) (hl : xs.length = n) (hj : j < n) (v : Value) (hv : v.oneCell' = true) :
    ∃ gb ob, A = some ⟨gb, ob, none⟩ ∧ ∃ cu, w.cell? ⟨gb, ob + j, none⟩ = some cu ∧ w.frozen? ⟨gb, ob + j, none⟩ = false ∧ Hid (∃ zs : List Value, zs.length = n ∧ (w.setCell ⟨gb, ob + j, none⟩ v).ownsRow N 5 1 (.slice A n c) n zs) := by
  have h0 := h
  obtain ⟨h1, h2⟩ := h
  rcases h2 with ⟨e1, e2⟩ | ⟨g, cap, cur, e1, hb, hg, hn, hc, hs, ht⟩
  · omega
  · cases e1
    refine ⟨g, 0, rfl, cur[j]'(by omega), ?_, row_free hg _, Lib.hid ⟨xs.set j v, by rw [List.length_set, hl], ?_⟩⟩
    · rw [row_cell hg, Nat.zero_add]
      exact Array.getElem?_eq_getElem _
    · refine ⟨by rw [List.length_set, h1], .inr ⟨g, c, cur.setIfInBounds (0 + j) v, rfl, hb, row_set hg _ v, hn, hc, by simpa using hs, ?_⟩⟩
      rw [Nat.zero_add, Array.toList_setIfInBounds, ← ht, List.take_set]

set_option maxRecDepth 100000 in
set_option maxHeartbeats 16000000 in
theorem same_down {N g K L : Nat} {F : Nat → Prop} {w : World} {m : DM} {d : DA} {R : RA} (h : DiskIn N w g m d) (hr : RIn F w R m) (hf : Fit K L m) (hK : K ≤ 998) (hL : L ≤ 999999) (hdn : m.down = true) :
    Calls Try.prog 27 #[.pointer (some ⟨g, 0, none⟩), R.val m] w fun e w' => e = .returned (.bool true) ∧ Below w.heap.size w w' := by
  have HF := Lib.hid hf
  have HIR := Lib.hid hr
  have hnwk := hf.now
  obtain ⟨nf, hnf⟩ : ∃ n, m.files.length = n := ⟨_, rfl⟩
  obtain ⟨n, hn⟩ : ∃ n, m.now.length = n := ⟨_, rfl⟩
  have hnk : n ≤ 998 := by omega
  have HNF := Lib.hid hnf
  have HN := Lib.hid hn
  obtain ⟨na, hna⟩ : ∃ n, R.na = n := ⟨_, rfl⟩
  obtain ⟨fa, hfa⟩ : ∃ n, R.fa = n := ⟨_, rfl⟩
  have HNA := Lib.hid hna
  have HFA := Lib.hid hfa
  obtain ⟨fc, hfc⟩ : ∃ n, R.fc = n := ⟨_, rfl⟩
  obtain ⟨nc, hnc⟩ : ∃ n, R.nc = n := ⟨_, rfl⟩
  obtain ⟨v2, hv2⟩ : ∃ v, Value.slice R.sa m.sure.length R.sc = v := ⟨_, rfl⟩
  obtain ⟨v3, hv3⟩ : ∃ v, Value.slice R.ta m.turns.length R.tc = v := ⟨_, rfl⟩
  obtain ⟨mo, hmo⟩ : ∃ n, m.most = n := ⟨_, rfl⟩
  obtain ⟨fu, hfu⟩ : ∃ n, m.fuse = n := ⟨_, rfl⟩
  have HVAL : Hid (R.val m = .agg #[.slice fa nf fc, .slice na n nc, v2, v3, .int .i64 (mo : Int), .int .i64 (fu : Int), .bool true]) := Lib.hid (by
    unfold RA.val RA.row
    rw [hn, hnf, hfa, hna, hfc, hnc, hv2, hv3, hmo, hfu, hdn])
  have HDN := Lib.hid hdn
  rw [HVAL.out]
  obtain ⟨gm, hgm⟩ : ∃ g, w.heap.size = g := ⟨_, rfl⟩
  obtain ⟨W1, hW1⟩ : ∃ W, w.alloc (.cells #[.slice fa nf fc, .slice na n nc, v2, v3, .int .i64 (mo : Int), .int .i64 (fu : Int), .bool true] 50) = W := ⟨_, rfl⟩
  obtain ⟨r1, b1, s1⟩ := new_row hW1
  rw [hgm] at r1
  have B1 := Lib.hid b1
  have R1 := Lib.hid r1
  have D1 := Lib.hid (h.below b1)
  have I1 := Lib.hid (hr.below b1)
  have HNM := Lib.hid (names_st D1.out HF.out (by omega) (by omega) rfl)
  clear h hf hr hn hnf hna hfa hfc hnc hv2 hv3 hmo hfu hdn hnwk b1 r1 s1
  go_enter Try.func27, Try.ntmps27
  go_wp2_with fail
  try rw [hgm]
  clear hW1
  refine HNM.out.mono ?_
  rintro e w2 ⟨vn, rfl, hon, hbn⟩
  obtain ⟨An, cn, hvn, _⟩ := own_slice hon
  subst hvn
  rw [HN.out] at hon ⊢
  have ON2 : Hid (Rd w2 An (namesC m.now)) := Lib.hid (own_rd hon)
  have B2 : Hid (Below W1.heap.size W1 w2) := Lib.hid hbn
  have D2 := Lib.hid (D1.out.below hbn)
  have I2 := Lib.hid (I1.out.below hbn)
  have R2 : Hid (w2.heap[gm]? = some (.cells #[.slice fa nf fc, .slice na n nc, v2, v3, .int .i64 (mo : Int), .int .i64 (fu : Int), .bool true] 50 (0, 0))) := Lib.hid ((hbn.block _ (Array.getElem?_eq_some_iff.1 R1.out).1).trans R1.out)
  have HRNG : Hid (∀ W, Below w2.heap.size w2 W → W.rangeAt gm 0 [.slice fa nf fc, .slice na n nc, v2, v3, .int .i64 (mo : Int), .int .i64 (fu : Int), .bool true]) := Lib.hid (fun W hb => range_of_row (cs := [.slice fa nf fc, .slice na n nc, v2, v3, .int .i64 (mo : Int), .int .i64 (fu : Int), .bool true]) ((hb.block _ (Array.getElem?_eq_some_iff.1 R2.out).1).trans R2.out))
  clear hon hbn
  go_wp2_with fail
  have hdw := down_any N g m d w2.drew D2.out.drew
  rw [HDN.out] at hdw
  have HDW := Lib.hid hdw
  clear hdw
  refine wp_region_sched (fun w' => w'.cell? ⟨gm, 6, none⟩ = some (.bool true) ∧ w'.cell? ⟨gm, 1, none⟩ = some (.slice na n nc) ∧ w'.rangeAt gm 0 [.slice fa nf fc, .slice na n nc, v2, v3, .int .i64 (mo : Int), .int .i64 (fu : Int), .bool true]) [(true, 0), (true, 2), (true, 3), (false, 1), (true, 4), (true, 5), (true, 6), (true, 8), (false, 7), (false, 9), (true, 10), (true, 11), (true, 12), (true, 13), (true, 14), (true, 15), (true, 16), (true, 17), (true, 18), (true, 19)] (by kernel_rfl) (by kernel_rfl) rfl (by kernel_rfl) ⟨row_cell R2.out 6, row_cell R2.out 1, HRNG.out _ (Below.refl _ _).drew⟩ ?_
  (first | (refine wpS_pass _ rfl (by rfl) ?_; simp only [Act.put, List.getElem_toArray, List.getElem_cons_zero, List.getElem_cons_succ, List.setIfInBounds_toArray, List.set_cons_zero, List.set_cons_succ]) | (refine wpS_take _ ?_ rfl (by rfl) ?_ ?_; rotate_left; (focus (intro w' hS'; (try dsimp only at hS'); (repeat (have hS1 := hS'.1; replace hS' := hS'.2)); go_simp; (try with_reducible rfl); done)); simp only [Act.put, List.getElem_toArray, List.getElem_cons_zero, List.getElem_cons_succ, List.setIfInBounds_toArray, List.set_cons_zero, List.set_cons_succ]))
  (first | (refine wpS_pass _ rfl (by rfl) ?_; simp only [Act.put, List.getElem_toArray, List.getElem_cons_zero, List.getElem_cons_succ, List.setIfInBounds_toArray, List.set_cons_zero, List.set_cons_succ]) | (refine wpS_take _ ?_ rfl (by rfl) ?_ ?_; rotate_left; (focus (intro w' hS'; (try dsimp only at hS'); (repeat (have hS1 := hS'.1; replace hS' := hS'.2)); go_simp; (try with_reducible rfl); done)); simp only [Act.put, List.getElem_toArray, List.getElem_cons_zero, List.getElem_cons_succ, List.setIfInBounds_toArray, List.set_cons_zero, List.set_cons_succ]))
  (first | (refine wpS_pass _ rfl (by rfl) ?_; simp only [Act.put, List.getElem_toArray, List.getElem_cons_zero, List.getElem_cons_succ, List.setIfInBounds_toArray, List.set_cons_zero, List.set_cons_succ]) | (refine wpS_take _ ?_ rfl (by rfl) ?_ ?_; rotate_left; (focus (intro w' hS'; (try dsimp only at hS'); (repeat (have hS1 := hS'.1; replace hS' := hS'.2)); go_simp; (try with_reducible rfl); done)); simp only [Act.put, List.getElem_toArray, List.getElem_cons_zero, List.getElem_cons_succ, List.setIfInBounds_toArray, List.set_cons_zero, List.set_cons_succ]))
  refine wpS_do _ rfl (by rfl) (fun KK hK => ?_)
  go_simp
  refine HDW.out.mono ?_
  rintro e w3 ⟨rfl, rfl⟩
  dsimp only
  refine hK.out _ _ ⟨row_cell R2.out 6, row_cell R2.out 1, HRNG.out _ (Below.refl _ _).drew⟩ (fun hS' => ?_)
  clear hS' hK
  (first | (refine wpS_pass _ rfl (by rfl) ?_; simp only [Act.put, List.getElem_toArray, List.getElem_cons_zero, List.getElem_cons_succ, List.setIfInBounds_toArray, List.set_cons_zero, List.set_cons_succ]) | (refine wpS_take _ ?_ rfl (by rfl) ?_ ?_; rotate_left; (focus (intro w' hS'; (try dsimp only at hS'); (repeat (have hS1 := hS'.1; replace hS' := hS'.2)); go_simp; (try with_reducible rfl); done)); simp only [Act.put, List.getElem_toArray, List.getElem_cons_zero, List.getElem_cons_succ, List.setIfInBounds_toArray, List.set_cons_zero, List.set_cons_succ]))
  (first | (refine wpS_pass _ rfl (by rfl) ?_; simp only [Act.put, List.getElem_toArray, List.getElem_cons_zero, List.getElem_cons_succ, List.setIfInBounds_toArray, List.set_cons_zero, List.set_cons_succ]) | (refine wpS_take _ ?_ rfl (by rfl) ?_ ?_; rotate_left; (focus (intro w' hS'; (try dsimp only at hS'); (repeat (have hS1 := hS'.1; replace hS' := hS'.2)); go_simp; (try with_reducible rfl); done)); simp only [Act.put, List.getElem_toArray, List.getElem_cons_zero, List.getElem_cons_succ, List.setIfInBounds_toArray, List.set_cons_zero, List.set_cons_succ]))
  (first | (refine wpS_pass _ rfl (by rfl) ?_; simp only [Act.put, List.getElem_toArray, List.getElem_cons_zero, List.getElem_cons_succ, List.setIfInBounds_toArray, List.set_cons_zero, List.set_cons_succ]) | (refine wpS_take _ ?_ rfl (by rfl) ?_ ?_; rotate_left; (focus (intro w' hS'; (try dsimp only at hS'); (repeat (have hS1 := hS'.1; replace hS' := hS'.2)); go_simp; (try with_reducible rfl); done)); simp only [Act.put, List.getElem_toArray, List.getElem_cons_zero, List.getElem_cons_succ, List.setIfInBounds_toArray, List.set_cons_zero, List.set_cons_succ]))
  refine wpS_load _ rfl (by rfl) 50 _ rfl gm 0 rfl [.slice fa nf fc, .slice na n nc, v2, v3, .int .i64 (mo : Int), .int .i64 (fu : Int), .bool true] _ (fun w' hS => hS.2.2) Try.underlying50 rfl info_dk7 ?_
  simp only [Act.put, List.getElem_toArray, List.getElem_cons_zero, List.getElem_cons_succ, List.setIfInBounds_toArray, List.set_cons_zero, List.set_cons_succ]
  refine wpS_do _ rfl (by rfl) (fun KK hK => ?_)
  go_simp
  refine (room_st (r := roomM m) D2.out.drew HF.out (by omega) (by omega) rfl).mono ?_
  rintro e w4 ⟨rfl, hb4⟩
  dsimp only
  have B4 : Hid (Below w2.heap.size w2 w4) := Lib.hid ⟨hb4.os, hb4.tape, hb4.output, hb4.size, hb4.block⟩
  have hx4 := HRNG.out _ B4.out
  refine hK.out _ _ ⟨hx4 6 _ rfl, hx4 1 _ rfl, hx4⟩ (fun hS' => ?_)
  clear hS' hK hb4 hx4
  have hrm := rroom_any R m w4 (I2.out.below B4.out) HF.out (by omega) (by omega)
  rw [HVAL.out] at hrm
  have HRM := Lib.hid hrm
  clear hrm
  refine wpS_do _ rfl (by rfl) (fun KK hK => ?_)
  go_simp
  refine HRM.out.mono ?_
  rintro e w5 ⟨rfl, hb5⟩
  dsimp only
  have B5 : Hid (Below w2.heap.size w2 w5) := Lib.hid (B4.out.trans (hb5.mono B4.out.size))
  have hx5 := HRNG.out _ B5.out
  refine hK.out _ _ ⟨hx5 6 _ rfl, hx5 1 _ rfl, hx5⟩ (fun hS' => ?_)
  clear hS' hK hb5 hx5
  have zro : ((roomM m : Int) != (roomM m : Int)) = false := by simp
  have znn : ((n : Int) != (n : Int)) = false := by simp
  (repeat (first | (refine wpS_pass _ rfl (by rfl) ?_; simp only [Act.put, List.getElem_toArray, List.getElem_cons_zero, List.getElem_cons_succ, List.setIfInBounds_toArray, List.set_cons_zero, List.set_cons_succ]) | (refine wpS_take _ ?_ rfl (by rfl) ?_ ?_; rotate_left; (focus (intro w' hS'; (try dsimp only at hS'); (repeat (have hS1 := hS'.1; replace hS' := hS'.2)); go_simp; (try with_reducible rfl); done)); simp only [Act.put, List.getElem_toArray, List.getElem_cons_zero, List.getElem_cons_succ, List.setIfInBounds_toArray, List.set_cons_zero, List.set_cons_succ])))
  refine wpS_done ?_
  have D5 := Lib.hid (D2.out.below B5.out)
  have I5 := Lib.hid (I2.out.below B5.out)
  have ON5 := Lib.hid (ON2.out.below B5.out)
  have HRN5 : Hid (∀ W, Below w5.heap.size w5 W → W.heap[gm]? = some (.cells #[.slice fa nf fc, .slice na n nc, v2, v3, .int .i64 (mo : Int), .int .i64 (fu : Int), .bool true] 50 (0, 0))) := Lib.hid (fun W hb => by
    have hl := (Array.getElem?_eq_some_iff.1 R2.out).1
    have h1 := B5.out.size
    exact (hb.block _ (by omega)).trans ((B5.out.block _ hl).trans R2.out))
  have HBW5 : Hid (Below w.heap.size w w5) := Lib.hid (B1.out.trans ((B2.out.mono B1.out.size).trans (B5.out.mono (Nat.le_trans B1.out.size B2.out.size))))
  have x1 : w5.cell? ⟨gm, 1, none⟩ = some (.slice na n nc) := row_cell (HRN5.out _ (Below.refl _ _)) 1
  clear zro HDW HRM HNM B4 B5 B2 B1 R1 R2 D1 D2 I1 I2 ON2 HRNG
  go_wp2_with fail
  go_loopg [36] (n * 1) (fun gk_ iv wr => ∃ (i : Nat), i ≤ n ∧ gk_ = n - i ∧ iv = .int .i64 (i : Int) ∧ Hid (Below w5.heap.size w5 wr))
  case atStart => exact ⟨0, by omega, by omega, rfl, Lib.hid (Below.refl _ _)⟩
  case round =>
  clear x1
  obtain ⟨i, hi, rfl, rfl, HB⟩ := hrel
  by_cases hlt : i < n
  · have i1 : (i : Int) < (n : Int) := by omega
    have hil : i < m.now.length := by rw [HN.out]; exact hlt
    obtain ⟨⟨s, f⟩, hpe⟩ : ∃ p, m.now[i]? = some p := ⟨_, List.getElem?_eq_getElem hil⟩
    obtain ⟨bn, on_, hAn, hrown⟩ := nm_cell I5.out.rn.1 hpe
    obtain ⟨bs_, os_, hAs, hcs⟩ := ON5.out i (strV s) (by unfold namesC; rw [List.getElem?_map, hpe]; rfl)
    obtain ⟨X, hX, hXs⟩ : ∃ X : ByteArray, strV s = .string X ∧ X.data.toList = s := ⟨_, rfl, rfl⟩
    rw [hX] at hcs
    have hXm : X.size ≤ maxLen := by
      have h1 := HF.out.nl _ (List.mem_of_getElem? hpe)
      have h2 := size_toList X
      rw [hXs] at h2
      dsimp only at h1
      unfold maxLen
      omega
    have hrow2 : w5.rangeAt bn (on_ + i * 2) [.string X, .int .i64 (f : Int)] := by rw [← hX]; exact hrown
    have HRW : Hid (wr.rangeAt bn (on_ + i * 2) [.string X, .int .i64 (f : Int)]) := Lib.hid (range_below hrow2 (World.block_lt_of_cell? w5 _ (hrow2 0 _ rfl)) HB.out)
    have HCS : Hid (∀ W, Below w5.heap.size w5 W → W.cell? ⟨bs_, os_ + i, none⟩ = some (.string X)) := Lib.hid (fun W hb => cell_below hcs (World.block_lt_of_cell? w5 _ hcs) hb)
    have HNA2 : Hid (na = some ⟨bn, on_, none⟩) := Lib.hid (by rw [← HNA.out]; exact hAn)
    have HAS := Lib.hid hAs
    have hfnd := find_at HF.out.rn (List.mem_of_getElem? hpe)
    have HFND : Hid (findN m.now X.data.toList = some f) := Lib.hid (by rw [hXs]; exact hfnd)
    have HFL : Hid (f < m.files.length) := Lib.hid (HF.out.ids.now _ (List.mem_of_getElem? hpe))
    have hsame : (X.toList != X.toList) = false := by simp
    obtain ⟨gn, hgn⟩ : ∃ x, wr.heap.size = x := ⟨_, rfl⟩
    obtain ⟨WA, hWA⟩ : ∃ W, wr.alloc (.cells #[.string ⟨#[]⟩, .int .i64 0] 98) = W := ⟨_, rfl⟩
    obtain ⟨rA, bA, sA⟩ := new_row hWA
    rw [hgn] at rA
    obtain ⟨WB, hWB, TB, RB, GB⟩ := put_row (new := [.string X, .int .i64 (f : Int)]) rA rfl
    have HWB := Lib.hid hWB
    have BB : Hid (Below wr.heap.size wr WB) := Lib.hid (bel_grown bA bA.size GB.out (by omega))
    have BB5 : Hid (Below w5.heap.size w5 WB) := Lib.hid (HB.out.trans (BB.out.mono HB.out.size))
    have DB := Lib.hid (D5.out.below BB5.out)
    have HGN := Lib.hid hgn
    have HGL : Hid (gn < WB.heap.size) := Lib.hid (Array.getElem?_eq_some_iff.1 RB.out).1
    have cn0 : WB.cell? ⟨gn, 0, none⟩ = some (.string X) := row_cell RB.out 0
    rw [HNA2.out]
    clear hil hpe hAn hrown hAs hcs hX hrow2 hfnd rA bA sA hWB hXs
    go_wp2_with (first
      | ((with_reducible (refine wpList_load_cells 98 _ bn (on_ + i * 2) ([.string X, .int .i64 (f : Int)]) HRW.out Try.underlying98 rfl info_nm2 ?_ rfl ?_ ?_)); (exact rfl); (exact rfl))
      | ((with_reducible (refine wpList_store_mid rfl _ _ _ rfl ?_ ?_ ?_ ?_ ?_ ?_ ?_ ?_ ?_)); (exact gn); (exact 0); (exact ([.string X, .int .i64 (f : Int)]).toArray); (exact rfl); (exact rfl); (exact TB.out); (exact info_nm2a); (exact cells2n); rw [HWB.out]))
    try rw [hgn]
    clear hgn hWA
    refine (read_st (bs := []) (e' := 50) DB.out HF.out (by omega) (by omega) hXm (by simp [readM, findM, HDN.out])).mono ?_
    rintro e w6 ⟨v, rfl, ho⟩
    obtain ⟨Ar, nr, cr, rfl, _⟩ := ho.sliceN
    have B6 : Hid (Below WB.heap.size WB w6) := Lib.hid ho.bel
    have B56 : Hid (Below w5.heap.size w5 w6) := Lib.hid (BB5.out.trans (B6.out.mono BB5.out.size))
    have cn6 : w6.cell? ⟨gn, 0, none⟩ = some (.string X) := cell_below cn0 HGL.out B6.out
    have cs6 := HCS.out _ B56.out
    have x6 : w6.cell? ⟨gm, 6, none⟩ = some (.bool true) := row_cell (HRN5.out _ B56.out) 6
    rw [HAS.out]
    clear ho cn0
    go_wp2_with fail
    go_quiet (fail)
    go_wp2_with fail
    rw [← HAS.out, ← HNA2.out]
    go_roundg (n - (i + 1))
    case measure => omega
    case rel => exact ⟨i + 1, by omega, rfl, by first | rfl | exact congrArg (Value.int .i64) (by omega) | go_num, Lib.hid (below_drewN B56.out _)⟩
  · obtain rfl : i = n := by omega
    go_wp2_with fail
    go_ret
    exact ⟨rfl, HBW5.out.trans (HB.out.mono HBW5.out.size)⟩

set_option maxRecDepth 100000 in
set_option maxHeartbeats 16000000 in
theorem same_up {N g K L : Nat} {F : Nat → Prop} {w : World} {m : DM} {d : DA} {R : RA} (h : DiskIn N w g m d) (hr : RIn F w R m) (hf : Fit K L m) (hK : K ≤ 998) (hL : L ≤ 999999) (hdn : m.down = false) :
    Calls Try.prog 27 #[.pointer (some ⟨g, 0, none⟩), R.val m] w fun e w' => e = .returned (.bool true) ∧ Below w.heap.size w w' := by
  have HF := Lib.hid hf
  have HIR := Lib.hid hr
  have hnwk := hf.now
  obtain ⟨nf, hnf⟩ : ∃ n, m.files.length = n := ⟨_, rfl⟩
  obtain ⟨n, hn⟩ : ∃ n, m.now.length = n := ⟨_, rfl⟩
  have hnk : n ≤ 998 := by omega
  have HNF := Lib.hid hnf
  have HN := Lib.hid hn
  obtain ⟨na, hna⟩ : ∃ n, R.na = n := ⟨_, rfl⟩
  obtain ⟨fa, hfa⟩ : ∃ n, R.fa = n := ⟨_, rfl⟩
  have HNA := Lib.hid hna
  have HFA := Lib.hid hfa
  obtain ⟨fc, hfc⟩ : ∃ n, R.fc = n := ⟨_, rfl⟩
  obtain ⟨nc, hnc⟩ : ∃ n, R.nc = n := ⟨_, rfl⟩
  obtain ⟨v2, hv2⟩ : ∃ v, Value.slice R.sa m.sure.length R.sc = v := ⟨_, rfl⟩
  obtain ⟨v3, hv3⟩ : ∃ v, Value.slice R.ta m.turns.length R.tc = v := ⟨_, rfl⟩
  obtain ⟨mo, hmo⟩ : ∃ n, m.most = n := ⟨_, rfl⟩
  obtain ⟨fu, hfu⟩ : ∃ n, m.fuse = n := ⟨_, rfl⟩
  have HVAL : Hid (R.val m = .agg #[.slice fa nf fc, .slice na n nc, v2, v3, .int .i64 (mo : Int), .int .i64 (fu : Int), .bool false]) := Lib.hid (by
    unfold RA.val RA.row
    rw [hn, hnf, hfa, hna, hfc, hnc, hv2, hv3, hmo, hfu, hdn])
  have HDN := Lib.hid hdn
  rw [HVAL.out]
  obtain ⟨gm, hgm⟩ : ∃ g, w.heap.size = g := ⟨_, rfl⟩
  obtain ⟨W1, hW1⟩ : ∃ W, w.alloc (.cells #[.slice fa nf fc, .slice na n nc, v2, v3, .int .i64 (mo : Int), .int .i64 (fu : Int), .bool false] 50) = W := ⟨_, rfl⟩
  obtain ⟨r1, b1, s1⟩ := new_row hW1
  rw [hgm] at r1
  have B1 := Lib.hid b1
  have R1 := Lib.hid r1
  have D1 := Lib.hid (h.below b1)
  have I1 := Lib.hid (hr.below b1)
  have HNM := Lib.hid (names_st D1.out HF.out (by omega) (by omega) rfl)
  clear h hf hr hn hnf hna hfa hfc hnc hv2 hv3 hmo hfu hdn hnwk b1 r1 s1
  go_enter Try.func27, Try.ntmps27
  go_wp2_with fail
  try rw [hgm]
  clear hW1
  refine HNM.out.mono ?_
  rintro e w2 ⟨vn, rfl, hon, hbn⟩
  obtain ⟨An, cn, hvn, _⟩ := own_slice hon
  subst hvn
  rw [HN.out] at hon ⊢
  have ON2 : Hid (Rd w2 An (namesC m.now)) := Lib.hid (own_rd hon)
  have B2 : Hid (Below W1.heap.size W1 w2) := Lib.hid hbn
  have D2 := Lib.hid (D1.out.below hbn)
  have I2 := Lib.hid (I1.out.below hbn)
  have R2 : Hid (w2.heap[gm]? = some (.cells #[.slice fa nf fc, .slice na n nc, v2, v3, .int .i64 (mo : Int), .int .i64 (fu : Int), .bool false] 50 (0, 0))) := Lib.hid ((hbn.block _ (Array.getElem?_eq_some_iff.1 R1.out).1).trans R1.out)
  have HRNG : Hid (∀ W, Below w2.heap.size w2 W → W.rangeAt gm 0 [.slice fa nf fc, .slice na n nc, v2, v3, .int .i64 (mo : Int), .int .i64 (fu : Int), .bool false]) := Lib.hid (fun W hb => range_of_row (cs := [.slice fa nf fc, .slice na n nc, v2, v3, .int .i64 (mo : Int), .int .i64 (fu : Int), .bool false]) ((hb.block _ (Array.getElem?_eq_some_iff.1 R2.out).1).trans R2.out))
  clear hon hbn
  go_wp2_with fail
  have hdw := down_any N g m d w2.drew D2.out.drew
  rw [HDN.out] at hdw
  have HDW := Lib.hid hdw
  clear hdw
  refine wp_region_sched (fun w' => w'.cell? ⟨gm, 6, none⟩ = some (.bool false) ∧ w'.cell? ⟨gm, 1, none⟩ = some (.slice na n nc) ∧ w'.rangeAt gm 0 [.slice fa nf fc, .slice na n nc, v2, v3, .int .i64 (mo : Int), .int .i64 (fu : Int), .bool false]) [(true, 0), (true, 2), (true, 3), (false, 1), (true, 4), (true, 5), (true, 6), (true, 8), (false, 7), (false, 9), (true, 10), (true, 11), (true, 12), (true, 13), (true, 14), (true, 15), (true, 16), (true, 17), (true, 18), (true, 19)] (by kernel_rfl) (by kernel_rfl) rfl (by kernel_rfl) ⟨row_cell R2.out 6, row_cell R2.out 1, HRNG.out _ (Below.refl _ _).drew⟩ ?_
  (first | (refine wpS_pass _ rfl (by rfl) ?_; simp only [Act.put, List.getElem_toArray, List.getElem_cons_zero, List.getElem_cons_succ, List.setIfInBounds_toArray, List.set_cons_zero, List.set_cons_succ]) | (refine wpS_take _ ?_ rfl (by rfl) ?_ ?_; rotate_left; (focus (intro w' hS'; (try dsimp only at hS'); (repeat (have hS1 := hS'.1; replace hS' := hS'.2)); go_simp; (try with_reducible rfl); done)); simp only [Act.put, List.getElem_toArray, List.getElem_cons_zero, List.getElem_cons_succ, List.setIfInBounds_toArray, List.set_cons_zero, List.set_cons_succ]))
  (first | (refine wpS_pass _ rfl (by rfl) ?_; simp only [Act.put, List.getElem_toArray, List.getElem_cons_zero, List.getElem_cons_succ, List.setIfInBounds_toArray, List.set_cons_zero, List.set_cons_succ]) | (refine wpS_take _ ?_ rfl (by rfl) ?_ ?_; rotate_left; (focus (intro w' hS'; (try dsimp only at hS'); (repeat (have hS1 := hS'.1; replace hS' := hS'.2)); go_simp; (try with_reducible rfl); done)); simp only [Act.put, List.getElem_toArray, List.getElem_cons_zero, List.getElem_cons_succ, List.setIfInBounds_toArray, List.set_cons_zero, List.set_cons_succ]))
  (first | (refine wpS_pass _ rfl (by rfl) ?_; simp only [Act.put, List.getElem_toArray, List.getElem_cons_zero, List.getElem_cons_succ, List.setIfInBounds_toArray, List.set_cons_zero, List.set_cons_succ]) | (refine wpS_take _ ?_ rfl (by rfl) ?_ ?_; rotate_left; (focus (intro w' hS'; (try dsimp only at hS'); (repeat (have hS1 := hS'.1; replace hS' := hS'.2)); go_simp; (try with_reducible rfl); done)); simp only [Act.put, List.getElem_toArray, List.getElem_cons_zero, List.getElem_cons_succ, List.setIfInBounds_toArray, List.set_cons_zero, List.set_cons_succ]))
  refine wpS_do _ rfl (by rfl) (fun KK hK => ?_)
  go_simp
  refine HDW.out.mono ?_
  rintro e w3 ⟨rfl, rfl⟩
  dsimp only
  refine hK.out _ _ ⟨row_cell R2.out 6, row_cell R2.out 1, HRNG.out _ (Below.refl _ _).drew⟩ (fun hS' => ?_)
  clear hS' hK
  (first | (refine wpS_pass _ rfl (by rfl) ?_; simp only [Act.put, List.getElem_toArray, List.getElem_cons_zero, List.getElem_cons_succ, List.setIfInBounds_toArray, List.set_cons_zero, List.set_cons_succ]) | (refine wpS_take _ ?_ rfl (by rfl) ?_ ?_; rotate_left; (focus (intro w' hS'; (try dsimp only at hS'); (repeat (have hS1 := hS'.1; replace hS' := hS'.2)); go_simp; (try with_reducible rfl); done)); simp only [Act.put, List.getElem_toArray, List.getElem_cons_zero, List.getElem_cons_succ, List.setIfInBounds_toArray, List.set_cons_zero, List.set_cons_succ]))
  (first | (refine wpS_pass _ rfl (by rfl) ?_; simp only [Act.put, List.getElem_toArray, List.getElem_cons_zero, List.getElem_cons_succ, List.setIfInBounds_toArray, List.set_cons_zero, List.set_cons_succ]) | (refine wpS_take _ ?_ rfl (by rfl) ?_ ?_; rotate_left; (focus (intro w' hS'; (try dsimp only at hS'); (repeat (have hS1 := hS'.1; replace hS' := hS'.2)); go_simp; (try with_reducible rfl); done)); simp only [Act.put, List.getElem_toArray, List.getElem_cons_zero, List.getElem_cons_succ, List.setIfInBounds_toArray, List.set_cons_zero, List.set_cons_succ]))
  (first | (refine wpS_pass _ rfl (by rfl) ?_; simp only [Act.put, List.getElem_toArray, List.getElem_cons_zero, List.getElem_cons_succ, List.setIfInBounds_toArray, List.set_cons_zero, List.set_cons_succ]) | (refine wpS_take _ ?_ rfl (by rfl) ?_ ?_; rotate_left; (focus (intro w' hS'; (try dsimp only at hS'); (repeat (have hS1 := hS'.1; replace hS' := hS'.2)); go_simp; (try with_reducible rfl); done)); simp only [Act.put, List.getElem_toArray, List.getElem_cons_zero, List.getElem_cons_succ, List.setIfInBounds_toArray, List.set_cons_zero, List.set_cons_succ]))
  refine wpS_load _ rfl (by rfl) 50 _ rfl gm 0 rfl [.slice fa nf fc, .slice na n nc, v2, v3, .int .i64 (mo : Int), .int .i64 (fu : Int), .bool false] _ (fun w' hS => hS.2.2) Try.underlying50 rfl info_dk7 ?_
  simp only [Act.put, List.getElem_toArray, List.getElem_cons_zero, List.getElem_cons_succ, List.setIfInBounds_toArray, List.set_cons_zero, List.set_cons_succ]
  refine wpS_do _ rfl (by rfl) (fun KK hK => ?_)
  go_simp
  refine (room_st (r := roomM m) D2.out.drew HF.out (by omega) (by omega) rfl).mono ?_
  rintro e w4 ⟨rfl, hb4⟩
  dsimp only
  have B4 : Hid (Below w2.heap.size w2 w4) := Lib.hid ⟨hb4.os, hb4.tape, hb4.output, hb4.size, hb4.block⟩
  have hx4 := HRNG.out _ B4.out
  refine hK.out _ _ ⟨hx4 6 _ rfl, hx4 1 _ rfl, hx4⟩ (fun hS' => ?_)
  clear hS' hK hb4 hx4
  have hrm := rroom_any R m w4 (I2.out.below B4.out) HF.out (by omega) (by omega)
  rw [HVAL.out] at hrm
  have HRM := Lib.hid hrm
  clear hrm
  refine wpS_do _ rfl (by rfl) (fun KK hK => ?_)
  go_simp
  refine HRM.out.mono ?_
  rintro e w5 ⟨rfl, hb5⟩
  dsimp only
  have B5 : Hid (Below w2.heap.size w2 w5) := Lib.hid (B4.out.trans (hb5.mono B4.out.size))
  have hx5 := HRNG.out _ B5.out
  refine hK.out _ _ ⟨hx5 6 _ rfl, hx5 1 _ rfl, hx5⟩ (fun hS' => ?_)
  clear hS' hK hb5 hx5
  have zro : ((roomM m : Int) != (roomM m : Int)) = false := by simp
  have znn : ((n : Int) != (n : Int)) = false := by simp
  (repeat (first | (refine wpS_pass _ rfl (by rfl) ?_; simp only [Act.put, List.getElem_toArray, List.getElem_cons_zero, List.getElem_cons_succ, List.setIfInBounds_toArray, List.set_cons_zero, List.set_cons_succ]) | (refine wpS_take _ ?_ rfl (by rfl) ?_ ?_; rotate_left; (focus (intro w' hS'; (try dsimp only at hS'); (repeat (have hS1 := hS'.1; replace hS' := hS'.2)); go_simp; (try with_reducible rfl); done)); simp only [Act.put, List.getElem_toArray, List.getElem_cons_zero, List.getElem_cons_succ, List.setIfInBounds_toArray, List.set_cons_zero, List.set_cons_succ])))
  refine wpS_done ?_
  have D5 := Lib.hid (D2.out.below B5.out)
  have I5 := Lib.hid (I2.out.below B5.out)
  have ON5 := Lib.hid (ON2.out.below B5.out)
  have HRN5 : Hid (∀ W, Below w5.heap.size w5 W → W.heap[gm]? = some (.cells #[.slice fa nf fc, .slice na n nc, v2, v3, .int .i64 (mo : Int), .int .i64 (fu : Int), .bool false] 50 (0, 0))) := Lib.hid (fun W hb => by
    have hl := (Array.getElem?_eq_some_iff.1 R2.out).1
    have h1 := B5.out.size
    exact (hb.block _ (by omega)).trans ((B5.out.block _ hl).trans R2.out))
  have HBW5 : Hid (Below w.heap.size w w5) := Lib.hid (B1.out.trans ((B2.out.mono B1.out.size).trans (B5.out.mono (Nat.le_trans B1.out.size B2.out.size))))
  have x1 : w5.cell? ⟨gm, 1, none⟩ = some (.slice na n nc) := row_cell (HRN5.out _ (Below.refl _ _)) 1
  clear zro HDW HRM HNM B4 B5 B2 B1 R1 R2 D1 D2 I1 I2 ON2 HRNG
  go_wp2_with fail
  go_loopg [36] (n * 1) (fun gk_ iv wr => ∃ (i : Nat), i ≤ n ∧ gk_ = n - i ∧ iv = .int .i64 (i : Int) ∧ Hid (Below w5.heap.size w5 wr))
  case atStart => exact ⟨0, by omega, by omega, rfl, Lib.hid (Below.refl _ _)⟩
  case round =>
  clear x1
  obtain ⟨i, hi, rfl, rfl, HB⟩ := hrel
  by_cases hlt : i < n
  · have i1 : (i : Int) < (n : Int) := by omega
    have hil : i < m.now.length := by rw [HN.out]; exact hlt
    obtain ⟨⟨s, f⟩, hpe⟩ : ∃ p, m.now[i]? = some p := ⟨_, List.getElem?_eq_getElem hil⟩
    obtain ⟨bn, on_, hAn, hrown⟩ := nm_cell I5.out.rn.1 hpe
    obtain ⟨bs_, os_, hAs, hcs⟩ := ON5.out i (strV s) (by unfold namesC; rw [List.getElem?_map, hpe]; rfl)
    obtain ⟨X, hX, hXs⟩ : ∃ X : ByteArray, strV s = .string X ∧ X.data.toList = s := ⟨_, rfl, rfl⟩
    rw [hX] at hcs
    have hXm : X.size ≤ maxLen := by
      have h1 := HF.out.nl _ (List.mem_of_getElem? hpe)
      have h2 := size_toList X
      rw [hXs] at h2
      dsimp only at h1
      unfold maxLen
      omega
    have hrow2 : w5.rangeAt bn (on_ + i * 2) [.string X, .int .i64 (f : Int)] := by rw [← hX]; exact hrown
    have HRW : Hid (wr.rangeAt bn (on_ + i * 2) [.string X, .int .i64 (f : Int)]) := Lib.hid (range_below hrow2 (World.block_lt_of_cell? w5 _ (hrow2 0 _ rfl)) HB.out)
    have HCS : Hid (∀ W, Below w5.heap.size w5 W → W.cell? ⟨bs_, os_ + i, none⟩ = some (.string X)) := Lib.hid (fun W hb => cell_below hcs (World.block_lt_of_cell? w5 _ hcs) hb)
    have HNA2 : Hid (na = some ⟨bn, on_, none⟩) := Lib.hid (by rw [← HNA.out]; exact hAn)
    have HAS := Lib.hid hAs
    have hfnd := find_at HF.out.rn (List.mem_of_getElem? hpe)
    have HFND : Hid (findN m.now X.data.toList = some f) := Lib.hid (by rw [hXs]; exact hfnd)
    have HFL : Hid (f < m.files.length) := Lib.hid (HF.out.ids.now _ (List.mem_of_getElem? hpe))
    have hsame : (X.toList != X.toList) = false := by simp
    obtain ⟨gn, hgn⟩ : ∃ x, wr.heap.size = x := ⟨_, rfl⟩
    obtain ⟨WA, hWA⟩ : ∃ W, wr.alloc (.cells #[.string ⟨#[]⟩, .int .i64 0] 98) = W := ⟨_, rfl⟩
    obtain ⟨rA, bA, sA⟩ := new_row hWA
    rw [hgn] at rA
    obtain ⟨WB, hWB, TB, RB, GB⟩ := put_row (new := [.string X, .int .i64 (f : Int)]) rA rfl
    have HWB := Lib.hid hWB
    have BB : Hid (Below wr.heap.size wr WB) := Lib.hid (bel_grown bA bA.size GB.out (by omega))
    have BB5 : Hid (Below w5.heap.size w5 WB) := Lib.hid (HB.out.trans (BB.out.mono HB.out.size))
    have DB := Lib.hid (D5.out.below BB5.out)
    have HGN := Lib.hid hgn
    have HGL : Hid (gn < WB.heap.size) := Lib.hid (Array.getElem?_eq_some_iff.1 RB.out).1
    have cn0 : WB.cell? ⟨gn, 0, none⟩ = some (.string X) := row_cell RB.out 0
    rw [HNA2.out]
    clear hil hpe hAn hrown hAs hcs hX hrow2 hfnd rA bA sA hWB hXs
    go_wp2_with (first
      | ((with_reducible (refine wpList_load_cells 98 _ bn (on_ + i * 2) ([.string X, .int .i64 (f : Int)]) HRW.out Try.underlying98 rfl info_nm2 ?_ rfl ?_ ?_)); (exact rfl); (exact rfl))
      | ((with_reducible (refine wpList_store_mid rfl _ _ _ rfl ?_ ?_ ?_ ?_ ?_ ?_ ?_ ?_ ?_)); (exact gn); (exact 0); (exact ([.string X, .int .i64 (f : Int)]).toArray); (exact rfl); (exact rfl); (exact TB.out); (exact info_nm2a); (exact cells2n); rw [HWB.out]))
    try rw [hgn]
    clear hgn hWA
    obtain ⟨⟨⟨pA, pc, pbs⟩, sf⟩, hfp, hmem, hfm, _⟩ := I5.out.file HFL.out
    obtain ⟨bf, of_, hAf, hrowf⟩ := I5.out.fcell hfp
    have HRB5 : Hid (Rd w5 pA (b8s pbs)) := Lib.hid (I5.out.rb _ hmem).1.1
    have HFA2 : Hid (fa = some ⟨bf, of_, none⟩) := Lib.hid (by rw [← HFA.out]; exact hAf)
    obtain ⟨pn, hpn⟩ : ∃ x, pbs.length = x := ⟨_, rfl⟩
    have HPN := Lib.hid hpn
    have hpl : pn ≤ 999999 := by have h1 := (HF.out.fileM f).1; rw [hfm] at h1; have h2 : (filM (⟨pA, pc, pbs⟩, sf)).b.length = pn := hpn; omega
    have HCF : Hid (∀ W, Below w5.heap.size w5 W → W.cell? ⟨bf, of_ + f * 2, none⟩ = some (.slice pA pn pc)) := Lib.hid (fun W hb => by
      have h1 : w5.cell? ⟨bf, of_ + f * 2, none⟩ = some (.slice pA pn pc) := by rw [← hpn]; exact hrowf 0 _ rfl
      exact cell_below h1 (World.block_lt_of_cell? w5 _ h1) hb)
    have HRD : Hid (readM m X.data.toList = (pbs, 0)) := Lib.hid (by simp [readM, findM, HDN.out, HFND.out, hfm, filM])
    have jf : (f : Int) < (nf : Int) := by have h1 := HFL.out; have h2 := HNF.out; omega
    clear hfp hmem hfm hAf hrowf hpn
    refine (read_st DB.out HF.out (by omega) (by omega) hXm HRD.out).mono ?_
    rintro e w6 ⟨v, rfl, ho⟩
    obtain ⟨Ar, nr, cr, rfl, hnr, _, _, hrr, har⟩ := ho.sliceN
    have B6 : Hid (Below WB.heap.size WB w6) := Lib.hid ho.bel
    have B56 : Hid (Below w5.heap.size w5 w6) := Lib.hid (BB5.out.trans (B6.out.mono BB5.out.size))
    have cn6 : w6.cell? ⟨gn, 0, none⟩ = some (.string X) := cell_below cn0 HGL.out B6.out
    have r6n : Hid (w6.heap[gn]? = some (.cells #[.string X, .int .i64 (f : Int)] 98 (0, 0))) := Lib.hid ((B6.out.block _ HGL.out).trans RB.out)
    have cs6 := HCS.out _ B56.out
    have x6 : w6.cell? ⟨gm, 6, none⟩ = some (.bool false) := row_cell (HRN5.out _ B56.out) 6
    have hnr2 : nr = pn := by rw [hnr, HPN.out]
    subst hnr2
    have HRR := Lib.hid hrr
    have OW6 : Hid (w6.ownsRow WB.heap.size 5 1 (.slice Ar nr cr) nr (b8s pbs)) := Lib.hid (by have h1 := ho.own; rw [HPN.out] at h1; exact h1)
    rw [HAS.out]
    clear ho cn0 hnr hrr har
    go_wp2_with fail
    go_quiet (fail)
    have B57 : Hid (Below w5.heap.size w5 (w6.drewN nq)) := Lib.hid (below_drewN B56.out _)
    have OW7 : Hid ((w6.drewN nq).ownsRow WB.heap.size 5 1 (.slice Ar nr cr) nr (b8s pbs)) := Lib.hid (own_keep OW6.out (fun _ _ _ => rfl))
    have r7n : Hid ((w6.drewN nq).heap[gn]? = some (.cells #[.string X, .int .i64 (f : Int)] 98 (0, 0))) := Lib.hid r6n.out
    clear cs6 x6 cn6 B56 HRR OW6 r6n B6
    generalize w6.drewN nq = w7 at *
    have x0 : w7.cell? ⟨gm, 0, none⟩ = some (.slice (some ⟨bf, of_, none⟩) nf fc) := by rw [← HFA2.out]; exact row_cell (HRN5.out _ B57.out) 0
    have x6 : w7.cell? ⟨gm, 6, none⟩ = some (.bool false) := row_cell (HRN5.out _ B57.out) 6
    have cf := HCF.out _ B57.out
    have cn1 : w7.cell? ⟨gn, 1, none⟩ = some (.int .i64 (f : Int)) := row_cell r7n.out 1
    have HSB := Lib.hid (same_n true Ar pA pbs pbs cr pc w7 (own_rd OW7.out) (HRB5.out.below B57.out) nr nr HPN.out.symm HPN.out.symm (by rw [HPN.out]; omega) (by rw [HPN.out]; omega) (decide_eq_true rfl))
    go_wp2_with fail
    refine HSB.out.mono ?_
    rintro e w8 ⟨rfl, hb8⟩
    have B58 : Hid (Below w5.heap.size w5 w8) := Lib.hid (B57.out.trans (hb8.mono B57.out.size))
    have OW8 := Lib.hid (own_below OW7.out hb8)
    have HWL : Hid (w5.heap.size ≤ WB.heap.size) := Lib.hid BB5.out.size
    clear hb8 x0 x6 cf cn1 OW7 r7n B57
    go_wp2_with fail
    go_loopg [75] (nr * 1) (fun gk_ jv wx => ∃ (j : Nat), j ≤ nr ∧ gk_ = nr - j ∧ jv = .int .i64 (j : Int) ∧ Hid (Below w5.heap.size w5 wx) ∧ Hid (∃ zs : List Value, zs.length = nr ∧ wx.ownsRow WB.heap.size 5 1 (.slice Ar nr cr) nr zs))
    case atStart => exact ⟨0, by omega, by omega, rfl, B58, Lib.hid ⟨_, by rw [b8s_length, HPN.out], OW8.out⟩⟩
    case round =>
    obtain ⟨j, hj, rfl, rfl, HBX, HOX⟩ := hrel
    obtain ⟨w9, hw9⟩ : ∃ x, x = wr := ⟨_, rfl⟩
    by_cases hjl : j < nr
    · have j1 : (j : Int) < (nr : Int) := by omega
      obtain ⟨gb, ob, hAr, cu, hcu, hfz, HST⟩ : ∃ gb ob, Ar = some ⟨gb, ob, none⟩ ∧ ∃ cu, wr.cell? ⟨gb, ob + j, none⟩ = some cu ∧ wr.frozen? ⟨gb, ob + j, none⟩ = false ∧ Hid (∃ zs : List Value, zs.length = nr ∧ (wr.setCell ⟨gb, ob + j, none⟩ (.int .u8 99)).ownsRow WB.heap.size 5 1 (.slice Ar nr cr) nr zs) := by
        obtain ⟨zs, hzl, hoz⟩ := HOX.out
        exact own_put hoz hzl hjl (.int .u8 99) rfl
      have HBX2 : Hid (Below w5.heap.size w5 (wr.setCell ⟨gb, ob + j, none⟩ (.int .u8 99))) := Lib.hid (bel_grown HBX.out HBX.out.size (grown_set gb _ _) (by
        obtain ⟨zs, hzl, hoz⟩ := HOX.out
        have h1 := (own_slice hoz)
        obtain ⟨A2, c2, e2, _, _, h2, _⟩ := h1
        cases e2
        have h3 := (h2 _ hAr).1
        have h4 := HWL.out
        dsimp only at h3
        omega))
      have HAR := Lib.hid hAr
      rw [hAr]
      clear HOX hAr
      go_wp2_with fail
      rw [← HAR.out]
      go_roundg (nr - (j + 1))
      case measure => omega
      case rel => exact ⟨j + 1, by omega, rfl, by first | rfl | exact congrArg (Value.int .i64) (by omega) | go_num, HBX2, HST⟩
    · obtain rfl : j = nr := by omega
      go_wp2_with fail
      rw [← HAS.out, ← HNA2.out]
      go_roundg (n - (i + 1))
      case measure => omega
      case rel => exact ⟨i + 1, by omega, rfl, by first | rfl | exact congrArg (Value.int .i64) (by omega) | go_num, HBX⟩
  · obtain rfl : i = n := by omega
    go_wp2_with fail
    go_ret
    exact ⟨rfl, HBW5.out.trans (HB.out.mono HBW5.out.size)⟩
end Go.Proofs.Ytpmifpblamjclaa
