
/- The document's rising. -/

import Derived.Test.YtfjfidhhmidflaaLet2

import Derived.Test.YtfjfidhhmidflaaLet3

namespace Go.Proofs.Ytfjfidhhmidflaa

set_option linter.unusedVariables false

set_option linter.unusedSimpArgs false

open Go.RowKit

theorem cmpB_to_zeros (i : List UInt8) (h : i.length = 32) : ¬ cmpB i zeros32 < 0 := by
  have h1 := cmpB_swap zeros32 i
  by_cases e : i = zeros32
  · subst e; rw [cmpB_self]; omega
  · have := (cmpB_zeros i h).2 e
    omega

set_option maxRecDepth 100000 in
set_option maxHeartbeats 2000000 in
theorem rrising_any (A : Option Addr) (ids : List (List UInt8)) (c : Nat) (w : World) (hr : Rd w A (idc ids)) (ho : iOk ids) (hc : ids.length ≤ c) (hm : c ≤ 9223372036854775807) :
    Calls Try.prog 26 #[.slice A ids.length c] w fun e w' => e = .returned (.bool (risingB zeros32 ids)) ∧ Below w.heap.size w w' := by
  have HR := Lib.hid hr
  have HO := Lib.hid ho
  obtain ⟨V, hV⟩ : ∃ V, risingB zeros32 ids = V := ⟨_, rfl⟩
  have HV : Hid (risingB zeros32 (ids.drop 0) = V) := Lib.hid hV
  have HB0 := Lib.hid (Below.refl w.heap.size w)
  rw [hV]
  clear hr ho hV
  go_enter Try.func26, Try.ntmps26
  go_wp2_with fail
  go_loopg [3] (ids.length * 1) (fun gk_ s wr => ∃ (k : Nat) (last : List UInt8), k ≤ ids.length ∧ gk_ = ids.length - k ∧ s = .int .i64 (k : Int) ∧ Hid (last.length = 32) ∧ Hid ((k = 0 → last = zeros32) ∧ ∀ (j : Nat) (h : j < ids.length), k = j + 1 → ids[j] = last) ∧ Hid (Below w.heap.size w wr) ∧ Hid (risingB last (ids.drop k) = V))
  case atStart => exact ⟨0, zeros32, by omega, by omega, rfl, Lib.hid rfl, Lib.hid ⟨fun _ => rfl, fun j h e => by omega⟩, HB0, HV⟩
  case round =>
    clear HB0 HV
    obtain ⟨k, last, hk, rfl, rfl, HLL, HLS, HB1, HV⟩ := hrel
    by_cases hlt : k < ids.length
    · have hpos : 0 < (idc ids).length := by rw [idc_length HO.out]; omega
      have hrd := HR.out.below HB1.out
      obtain ⟨b, off, hA, _⟩ := hrd.all hpos
      subst hA
      have RS := Lib.hid (rd_id hrd HO.out k hlt)
      have hsl := iOk_get HO.out k hlt
      have hst := risingB_drop last ids k hlt
      obtain ⟨s, hs⟩ : ∃ s, ids[k] = s := ⟨_, rfl⟩
      rw [hs] at RS hsl hst
      have HKS := Lib.hid hs
      have HST := Lib.hid (hst.symm.trans HV.out)
      have HIS := Lib.hid (info_arr32 s hsl)
      have HSL := Lib.hid hsl
      have HRD := Lib.hid hrd
      have GL := Lib.hid (hrd.lt hpos)
      have i1 : (k : Int) < (ids.length : Int) := by omega
      have i2 : (ids.length : Int) ≤ (c : Int) := by omega
      obtain ⟨q, hq⟩ : ∃ q, decide (s = zeros32) = q := ⟨_, rfl⟩
      have HQ := Lib.hid hq
      have heq : ∀ w, (binOp .eql 24 (.agg (b8s s).toArray) (.agg #[Value.int .u8 0, Value.int .u8 0, Value.int .u8 0, Value.int .u8 0, Value.int .u8 0, Value.int .u8 0, Value.int .u8 0, Value.int .u8 0, Value.int .u8 0, Value.int .u8 0, Value.int .u8 0, Value.int .u8 0, Value.int .u8 0, Value.int .u8 0, Value.int .u8 0, Value.int .u8 0, Value.int .u8 0, Value.int .u8 0, Value.int .u8 0, Value.int .u8 0, Value.int .u8 0, Value.int .u8 0, Value.int .u8 0, Value.int .u8 0, Value.int .u8 0, Value.int .u8 0, Value.int .u8 0, Value.int .u8 0, Value.int .u8 0, Value.int .u8 0, Value.int .u8 0, Value.int .u8 0])).run Try.prog w = .ok (.bool q) w := fun w => by
        have := eql_id 24 Try.underlying24 s zeros32 HSL.out rfl w
        rw [zeros32_cells] at this
        rw [this, HQ.out]
      have hgd : ∀ b x y w, (eqGuard b 24 x y (.agg (b8s s).toArray) (.agg #[Value.int .u8 0, Value.int .u8 0, Value.int .u8 0, Value.int .u8 0, Value.int .u8 0, Value.int .u8 0, Value.int .u8 0, Value.int .u8 0, Value.int .u8 0, Value.int .u8 0, Value.int .u8 0, Value.int .u8 0, Value.int .u8 0, Value.int .u8 0, Value.int .u8 0, Value.int .u8 0, Value.int .u8 0, Value.int .u8 0, Value.int .u8 0, Value.int .u8 0, Value.int .u8 0, Value.int .u8 0, Value.int .u8 0, Value.int .u8 0, Value.int .u8 0, Value.int .u8 0, Value.int .u8 0, Value.int .u8 0, Value.int .u8 0, Value.int .u8 0, Value.int .u8 0, Value.int .u8 0])).run Try.prog w = .ok () w := fun b x y w => guard_arr b 24 x y _ _ w (by kernel_rfl)
      clear hrd hpos hsl hs hst hq
      go_wp2_with fail
      refine wp_region_sched (fun w' => Below wr.heap.size wr w') [(true, 0), (true, 1), (true, 2), (true, 3), (true, 4), (true, 5), (true, 6), (true, 7), (true, 8), (true, 9), (true, 10), (true, 11), (true, 12), (true, 13), (true, 14), (true, 15), (true, 16), (true, 17), (true, 18), (false, 19), (true, 20), (true, 21), (true, 22)] (by kernel_rfl) (by kernel_rfl) rfl (by kernel_rfl) (Below.refl _ _).drew ?_
      (first | (refine wpS_pass _ rfl (by rfl) ?_; simp only [Act.put, List.getElem_toArray, List.getElem_cons_zero, List.getElem_cons_succ, List.setIfInBounds_toArray, List.set_cons_zero, List.set_cons_succ]) | (refine wpS_take _ ?_ rfl (by rfl) ?_ ?_; rotate_left; (focus (intro w' hS'; (try dsimp only at hS'); (repeat (have hS1 := hS'.1; replace hS' := hS'.2)); go_simp; (try with_reducible rfl); done)); simp only [Act.put, List.getElem_toArray, List.getElem_cons_zero, List.getElem_cons_succ, List.setIfInBounds_toArray, List.set_cons_zero, List.set_cons_succ]))
      (first | (refine wpS_pass _ rfl (by rfl) ?_; simp only [Act.put, List.getElem_toArray, List.getElem_cons_zero, List.getElem_cons_succ, List.setIfInBounds_toArray, List.set_cons_zero, List.set_cons_succ]) | (refine wpS_take _ ?_ rfl (by rfl) ?_ ?_; rotate_left; (focus (intro w' hS'; (try dsimp only at hS'); (repeat (have hS1 := hS'.1; replace hS' := hS'.2)); go_simp; (try with_reducible rfl); done)); simp only [Act.put, List.getElem_toArray, List.getElem_cons_zero, List.getElem_cons_succ, List.setIfInBounds_toArray, List.set_cons_zero, List.set_cons_succ]))
      (first | (refine wpS_pass _ rfl (by rfl) ?_; simp only [Act.put, List.getElem_toArray, List.getElem_cons_zero, List.getElem_cons_succ, List.setIfInBounds_toArray, List.set_cons_zero, List.set_cons_succ]) | (refine wpS_take _ ?_ rfl (by rfl) ?_ ?_; rotate_left; (focus (intro w' hS'; (try dsimp only at hS'); (repeat (have hS1 := hS'.1; replace hS' := hS'.2)); go_simp; (try with_reducible rfl); done)); simp only [Act.put, List.getElem_toArray, List.getElem_cons_zero, List.getElem_cons_succ, List.setIfInBounds_toArray, List.set_cons_zero, List.set_cons_succ]))
      refine wpS_load _ rfl (by rfl) _ _ rfl b (off + k * 32) rfl (b8s s) _ (fun w' hS' => range_below RS.out GL.out hS') Try.underlying24 rfl HIS.out ?_
      simp only [Act.put, List.getElem_toArray, List.getElem_cons_zero, List.getElem_cons_succ, List.setIfInBounds_toArray, List.set_cons_zero, List.set_cons_succ]
      (first | (refine wpS_pass _ rfl (by rfl) ?_; simp only [Act.put, List.getElem_toArray, List.getElem_cons_zero, List.getElem_cons_succ, List.setIfInBounds_toArray, List.set_cons_zero, List.set_cons_succ]) | (refine wpS_take _ ?_ rfl (by rfl) ?_ ?_; rotate_left; (focus (intro w' hS'; (try dsimp only at hS'); (repeat (have hS1 := hS'.1; replace hS' := hS'.2)); go_simp; (try with_reducible rfl); done)); simp only [Act.put, List.getElem_toArray, List.getElem_cons_zero, List.getElem_cons_succ, List.setIfInBounds_toArray, List.set_cons_zero, List.set_cons_succ]))
      refine wpS_take _ _ rfl (by rfl) (fun w' hS' => exec_bin _ _ _ _ _ rfl _ _ _ rfl rfl (hgd _ _ _ w') (heq w')) ?_
      simp only [Act.put, List.getElem_toArray, List.getElem_cons_zero, List.getElem_cons_succ, List.setIfInBounds_toArray, List.set_cons_zero, List.set_cons_succ]
      clear heq hgd
      cases q
      · by_cases hk0 : k = 0
        · have d3 : decide ((0 : Int) < (k : Int)) = false := decide_eq_false (by omega)
          (repeat (first | (refine wpS_pass _ rfl (by rfl) ?_; simp only [Act.put, List.getElem_toArray, List.getElem_cons_zero, List.getElem_cons_succ, List.setIfInBounds_toArray, List.set_cons_zero, List.set_cons_succ]) | (refine wpS_take _ ?_ rfl (by rfl) ?_ ?_; rotate_left; (focus (intro w' hS'; (try dsimp only at hS'); (repeat (have hS1 := hS'.1; replace hS' := hS'.2)); go_simp; (try with_reducible rfl); done)); simp only [Act.put, List.getElem_toArray, List.getElem_cons_zero, List.getElem_cons_succ, List.setIfInBounds_toArray, List.set_cons_zero, List.set_cons_succ])))
          refine wpS_skip _ rfl (by rfl) (Below.refl _ _).drew ?_
          simp only [Act.put, List.getElem_toArray, List.getElem_cons_zero, List.getElem_cons_succ, List.setIfInBounds_toArray, List.set_cons_zero, List.set_cons_succ]
          (repeat (first | (refine wpS_pass _ rfl (by rfl) ?_; simp only [Act.put, List.getElem_toArray, List.getElem_cons_zero, List.getElem_cons_succ, List.setIfInBounds_toArray, List.set_cons_zero, List.set_cons_succ]) | (refine wpS_take _ ?_ rfl (by rfl) ?_ ?_; rotate_left; (focus (intro w' hS'; (try dsimp only at hS'); (repeat (have hS1 := hS'.1; replace hS' := hS'.2)); go_simp; (try with_reducible rfl); done)); simp only [Act.put, List.getElem_toArray, List.getElem_cons_zero, List.getElem_cons_succ, List.setIfInBounds_toArray, List.set_cons_zero, List.set_cons_succ])))
          refine wpS_done ?_
          go_wp2_with fail
          go_roundg (ids.length - (k + 1))
          case measure => omega
          case rel => exact ⟨k + 1, s, by omega, rfl, by first | rfl | exact congrArg (Value.int .i64) (by omega) | go_num, HSL, Lib.hid ⟨fun e => by omega, fun j h e => by cases (show k = j by omega); exact HKS.out⟩, Lib.hid HB1.out.drew, Lib.hid (by rw [← HST.out, HLS.out.1 hk0, decide_eq_true ((cmpB_zeros s HSL.out).2 (of_decide_eq_false HQ.out)), Bool.true_and])⟩
        · have d3 : decide ((0 : Int) < (k : Int)) = true := decide_eq_true (by omega)
          have d3n : 0 < k := by omega
          have d3m : decide (0 < k) = true := decide_eq_true d3n
          obtain ⟨j, hj⟩ : ∃ j, k = j + 1 := ⟨k - 1, by omega⟩
          have hjl : j < ids.length := by omega
          have RP := Lib.hid (rd_id HRD.out HO.out j hjl)
          rw [HLS.out.2 j hjl hj] at RP
          have HIP := Lib.hid (info_arr32 last HLL.out)
          have hsub := fun w => bin_sub (P := Try.prog) (t := 3) (k : Int) 1 (j : Int) w (by omega) (by omega) (by omega)
          have l1 : (j : Int) < (ids.length : Int) := by omega
          clear hj
          (first | (refine wpS_pass _ rfl (by rfl) ?_; simp only [Act.put, List.getElem_toArray, List.getElem_cons_zero, List.getElem_cons_succ, List.setIfInBounds_toArray, List.set_cons_zero, List.set_cons_succ]) | (refine wpS_take _ ?_ rfl (by rfl) ?_ ?_; rotate_left; (focus (intro w' hS'; (try dsimp only at hS'); (repeat (have hS1 := hS'.1; replace hS' := hS'.2)); go_simp; (try with_reducible rfl); done)); simp only [Act.put, List.getElem_toArray, List.getElem_cons_zero, List.getElem_cons_succ, List.setIfInBounds_toArray, List.set_cons_zero, List.set_cons_succ]))
          (first | (refine wpS_pass _ rfl (by rfl) ?_; simp only [Act.put, List.getElem_toArray, List.getElem_cons_zero, List.getElem_cons_succ, List.setIfInBounds_toArray, List.set_cons_zero, List.set_cons_succ]) | (refine wpS_take _ ?_ rfl (by rfl) ?_ ?_; rotate_left; (focus (intro w' hS'; (try dsimp only at hS'); (repeat (have hS1 := hS'.1; replace hS' := hS'.2)); go_simp; (try with_reducible rfl); done)); simp only [Act.put, List.getElem_toArray, List.getElem_cons_zero, List.getElem_cons_succ, List.setIfInBounds_toArray, List.set_cons_zero, List.set_cons_succ]))
          (first | (refine wpS_pass _ rfl (by rfl) ?_; simp only [Act.put, List.getElem_toArray, List.getElem_cons_zero, List.getElem_cons_succ, List.setIfInBounds_toArray, List.set_cons_zero, List.set_cons_succ]) | (refine wpS_take _ ?_ rfl (by rfl) ?_ ?_; rotate_left; (focus (intro w' hS'; (try dsimp only at hS'); (repeat (have hS1 := hS'.1; replace hS' := hS'.2)); go_simp; (try with_reducible rfl); done)); simp only [Act.put, List.getElem_toArray, List.getElem_cons_zero, List.getElem_cons_succ, List.setIfInBounds_toArray, List.set_cons_zero, List.set_cons_succ]))
          (first | (refine wpS_pass _ rfl (by rfl) ?_; simp only [Act.put, List.getElem_toArray, List.getElem_cons_zero, List.getElem_cons_succ, List.setIfInBounds_toArray, List.set_cons_zero, List.set_cons_succ]) | (refine wpS_take _ ?_ rfl (by rfl) ?_ ?_; rotate_left; (focus (intro w' hS'; (try dsimp only at hS'); (repeat (have hS1 := hS'.1; replace hS' := hS'.2)); go_simp; (try with_reducible rfl); done)); simp only [Act.put, List.getElem_toArray, List.getElem_cons_zero, List.getElem_cons_succ, List.setIfInBounds_toArray, List.set_cons_zero, List.set_cons_succ]))
          (first | (refine wpS_pass _ rfl (by rfl) ?_; simp only [Act.put, List.getElem_toArray, List.getElem_cons_zero, List.getElem_cons_succ, List.setIfInBounds_toArray, List.set_cons_zero, List.set_cons_succ]) | (refine wpS_take _ ?_ rfl (by rfl) ?_ ?_; rotate_left; (focus (intro w' hS'; (try dsimp only at hS'); (repeat (have hS1 := hS'.1; replace hS' := hS'.2)); go_simp; (try with_reducible rfl); done)); simp only [Act.put, List.getElem_toArray, List.getElem_cons_zero, List.getElem_cons_succ, List.setIfInBounds_toArray, List.set_cons_zero, List.set_cons_succ]))
          (first | (refine wpS_pass _ rfl (by rfl) ?_; simp only [Act.put, List.getElem_toArray, List.getElem_cons_zero, List.getElem_cons_succ, List.setIfInBounds_toArray, List.set_cons_zero, List.set_cons_succ]) | (refine wpS_take _ ?_ rfl (by rfl) ?_ ?_; rotate_left; (focus (intro w' hS'; (try dsimp only at hS'); (repeat (have hS1 := hS'.1; replace hS' := hS'.2)); go_simp; (try with_reducible rfl); done)); simp only [Act.put, List.getElem_toArray, List.getElem_cons_zero, List.getElem_cons_succ, List.setIfInBounds_toArray, List.set_cons_zero, List.set_cons_succ]))
          refine wpS_take _ _ rfl (by rfl) (fun w' hS' => exec_bin _ _ _ _ _ rfl _ _ _ rfl rfl rfl (hsub w')) ?_
          simp only [Act.put, List.getElem_toArray, List.getElem_cons_zero, List.getElem_cons_succ, List.setIfInBounds_toArray, List.set_cons_zero, List.set_cons_succ]
          clear hsub
          (first | (refine wpS_pass _ rfl (by rfl) ?_; simp only [Act.put, List.getElem_toArray, List.getElem_cons_zero, List.getElem_cons_succ, List.setIfInBounds_toArray, List.set_cons_zero, List.set_cons_succ]) | (refine wpS_take _ ?_ rfl (by rfl) ?_ ?_; rotate_left; (focus (intro w' hS'; (try dsimp only at hS'); (repeat (have hS1 := hS'.1; replace hS' := hS'.2)); go_simp; (try with_reducible rfl); done)); simp only [Act.put, List.getElem_toArray, List.getElem_cons_zero, List.getElem_cons_succ, List.setIfInBounds_toArray, List.set_cons_zero, List.set_cons_succ]))
          refine wpS_load _ rfl (by rfl) _ _ rfl b (off + j * 32) rfl (b8s last) _ (fun w' hS' => range_below RP.out GL.out hS') Try.underlying24 rfl HIP.out ?_
          simp only [Act.put, List.getElem_toArray, List.getElem_cons_zero, List.getElem_cons_succ, List.setIfInBounds_toArray, List.set_cons_zero, List.set_cons_succ]
          (first | (refine wpS_pass _ rfl (by rfl) ?_; simp only [Act.put, List.getElem_toArray, List.getElem_cons_zero, List.getElem_cons_succ, List.setIfInBounds_toArray, List.set_cons_zero, List.set_cons_succ]) | (refine wpS_take _ ?_ rfl (by rfl) ?_ ?_; rotate_left; (focus (intro w' hS'; (try dsimp only at hS'); (repeat (have hS1 := hS'.1; replace hS' := hS'.2)); go_simp; (try with_reducible rfl); done)); simp only [Act.put, List.getElem_toArray, List.getElem_cons_zero, List.getElem_cons_succ, List.setIfInBounds_toArray, List.set_cons_zero, List.set_cons_succ]))
          (first | (refine wpS_pass _ rfl (by rfl) ?_; simp only [Act.put, List.getElem_toArray, List.getElem_cons_zero, List.getElem_cons_succ, List.setIfInBounds_toArray, List.set_cons_zero, List.set_cons_succ]) | (refine wpS_take _ ?_ rfl (by rfl) ?_ ?_; rotate_left; (focus (intro w' hS'; (try dsimp only at hS'); (repeat (have hS1 := hS'.1; replace hS' := hS'.2)); go_simp; (try with_reducible rfl); done)); simp only [Act.put, List.getElem_toArray, List.getElem_cons_zero, List.getElem_cons_succ, List.setIfInBounds_toArray, List.set_cons_zero, List.set_cons_succ]))
          (first | (refine wpS_pass _ rfl (by rfl) ?_; simp only [Act.put, List.getElem_toArray, List.getElem_cons_zero, List.getElem_cons_succ, List.setIfInBounds_toArray, List.set_cons_zero, List.set_cons_succ]) | (refine wpS_take _ ?_ rfl (by rfl) ?_ ?_; rotate_left; (focus (intro w' hS'; (try dsimp only at hS'); (repeat (have hS1 := hS'.1; replace hS' := hS'.2)); go_simp; (try with_reducible rfl); done)); simp only [Act.put, List.getElem_toArray, List.getElem_cons_zero, List.getElem_cons_succ, List.setIfInBounds_toArray, List.set_cons_zero, List.set_cons_succ]))
          refine wpS_load _ rfl (by rfl) _ _ rfl b (off + k * 32) rfl (b8s s) _ (fun w' hS' => range_below RS.out GL.out hS') Try.underlying24 rfl HIS.out ?_
          simp only [Act.put, List.getElem_toArray, List.getElem_cons_zero, List.getElem_cons_succ, List.setIfInBounds_toArray, List.set_cons_zero, List.set_cons_succ]
          refine wpS_do _ rfl (by rfl) (fun K hK => ?_)
          go_simp
          refine (ridcmp_any last s HLL.out HSL.out _).mono ?_
          rintro e w4 ⟨rfl, hb4⟩
          have hb54 : Below wr.heap.size wr w4 := (Below.refl _ _).drew.trans hb4
          refine hK.out _ _ hb54 (fun hS => ?_)
          clear hK hS
          have HBW := Lib.hid (HB1.out.trans (hb54.mono HB1.out.size))
          rcases cmpB_cases last s with h1 | h1 | h1
          · rw [h1]
            have HC := Lib.hid h1
            clear h1
            (repeat (first | (refine wpS_pass _ rfl (by rfl) ?_; simp only [Act.put, List.getElem_toArray, List.getElem_cons_zero, List.getElem_cons_succ, List.setIfInBounds_toArray, List.set_cons_zero, List.set_cons_succ]) | (refine wpS_take _ ?_ rfl (by rfl) ?_ ?_; rotate_left; (focus (intro w' hS'; (try dsimp only at hS'); (repeat (have hS1 := hS'.1; replace hS' := hS'.2)); go_simp; (try with_reducible rfl); done)); simp only [Act.put, List.getElem_toArray, List.getElem_cons_zero, List.getElem_cons_succ, List.setIfInBounds_toArray, List.set_cons_zero, List.set_cons_succ])))
            refine wpS_done ?_
            go_wp2_with fail
            go_roundg (ids.length - (k + 1))
            case measure => omega
            case rel => exact ⟨k + 1, s, by omega, rfl, by first | rfl | exact congrArg (Value.int .i64) (by omega) | go_num, HSL, Lib.hid ⟨fun e => by omega, fun j h e => by cases (show k = j by omega); exact HKS.out⟩, HBW, Lib.hid (by rw [← HST.out, HC.out]; rfl)⟩
          · rw [h1]
            have HC := Lib.hid h1
            clear h1
            (repeat (first | (refine wpS_pass _ rfl (by rfl) ?_; simp only [Act.put, List.getElem_toArray, List.getElem_cons_zero, List.getElem_cons_succ, List.setIfInBounds_toArray, List.set_cons_zero, List.set_cons_succ]) | (refine wpS_take _ ?_ rfl (by rfl) ?_ ?_; rotate_left; (focus (intro w' hS'; (try dsimp only at hS'); (repeat (have hS1 := hS'.1; replace hS' := hS'.2)); go_simp; (try with_reducible rfl); done)); simp only [Act.put, List.getElem_toArray, List.getElem_cons_zero, List.getElem_cons_succ, List.setIfInBounds_toArray, List.set_cons_zero, List.set_cons_succ])))
            refine wpS_done ?_
            go_wp2_with fail
            go_ret
            exact ⟨ret_bool (by rw [← HST.out, HC.out]; rfl), HBW.out⟩
          · rw [h1]
            have HC := Lib.hid h1
            clear h1
            (repeat (first | (refine wpS_pass _ rfl (by rfl) ?_; simp only [Act.put, List.getElem_toArray, List.getElem_cons_zero, List.getElem_cons_succ, List.setIfInBounds_toArray, List.set_cons_zero, List.set_cons_succ]) | (refine wpS_take _ ?_ rfl (by rfl) ?_ ?_; rotate_left; (focus (intro w' hS'; (try dsimp only at hS'); (repeat (have hS1 := hS'.1; replace hS' := hS'.2)); go_simp; (try with_reducible rfl); done)); simp only [Act.put, List.getElem_toArray, List.getElem_cons_zero, List.getElem_cons_succ, List.setIfInBounds_toArray, List.set_cons_zero, List.set_cons_succ])))
            refine wpS_done ?_
            go_wp2_with fail
            go_ret
            exact ⟨ret_bool (by rw [← HST.out, HC.out]; rfl), HBW.out⟩
      · (repeat (first | (refine wpS_pass _ rfl (by rfl) ?_; simp only [Act.put, List.getElem_toArray, List.getElem_cons_zero, List.getElem_cons_succ, List.setIfInBounds_toArray, List.set_cons_zero, List.set_cons_succ]) | (refine wpS_take _ ?_ rfl (by rfl) ?_ ?_; rotate_left; (focus (intro w' hS'; (try dsimp only at hS'); (repeat (have hS1 := hS'.1; replace hS' := hS'.2)); go_simp; (try with_reducible rfl); done)); simp only [Act.put, List.getElem_toArray, List.getElem_cons_zero, List.getElem_cons_succ, List.setIfInBounds_toArray, List.set_cons_zero, List.set_cons_succ])))
        refine wpS_skip _ rfl (by rfl) (Below.refl _ _).drew ?_
        simp only [Act.put, List.getElem_toArray, List.getElem_cons_zero, List.getElem_cons_succ, List.setIfInBounds_toArray, List.set_cons_zero, List.set_cons_succ]
        (repeat (first | (refine wpS_pass _ rfl (by rfl) ?_; simp only [Act.put, List.getElem_toArray, List.getElem_cons_zero, List.getElem_cons_succ, List.setIfInBounds_toArray, List.set_cons_zero, List.set_cons_succ]) | (refine wpS_take _ ?_ rfl (by rfl) ?_ ?_; rotate_left; (focus (intro w' hS'; (try dsimp only at hS'); (repeat (have hS1 := hS'.1; replace hS' := hS'.2)); go_simp; (try with_reducible rfl); done)); simp only [Act.put, List.getElem_toArray, List.getElem_cons_zero, List.getElem_cons_succ, List.setIfInBounds_toArray, List.set_cons_zero, List.set_cons_succ])))
        refine wpS_done ?_
        go_wp2_with fail
        go_ret
        exact ⟨ret_bool (by rw [← HST.out, of_decide_eq_true HQ.out, decide_eq_false (cmpB_to_zeros last HLL.out), Bool.false_and]), HB1.out.drew⟩
    · obtain rfl : k = ids.length := by omega
      go_wp2_with fail
      go_ret
      exact ⟨ret_bool (by rw [← HV.out, List.drop_length]; rfl), HB1.out⟩
end Go.Proofs.Ytfjfidhhmidflaa
