
/- What the document's blocked and Known make. -/

import Derived.Test.YtkiggfahcakdeaaShaRefM

namespace Go.Proofs.Ytkiggfahcakdeaa

set_option linter.unusedVariables false

set_option linter.unusedSimpArgs false

open Go.RowKit

set_option maxRecDepth 100000 in
set_option maxHeartbeats 1000000 in
theorem blocked_any (A : Option Addr) (bs : List UInt8) (c : Nat) (w : World) (hr : Rd w A (b8s bs)) (hm : bs.length ≤ 1099511627776) :
    Calls Try.prog 38 #[.slice A bs.length c] w fun e w' => ∃ v, e = .returned v ∧ Own8 w.heap.size w w' v (padded bs) := by
  obtain ⟨N, hN⟩ : ∃ N, N = w.heap.size := ⟨_, rfl⟩
  have HN := Lib.hid hN
  have HR := Lib.hid hr
  clear hr
  go_enter Try.func38, Try.ntmps38
  rw [← hN]
  clear hN
  go_wp2
  go_loopw [3, 4] (fun v i wr => ∃ (k : Nat) (zs : List UInt8), k ≤ bs.length ∧ i = .int .i64 k ∧ zs = bs.take k ∧ Own8 N w wr v zs) (fun _ i _ => bs.length - (intOf i).toNat)
  case atStart =>
    have := HN.out
    subst this
    exact ⟨0, [], by omega, rfl, by simp, Own8.start w⟩
  case round =>
    obtain ⟨k, zs, hk, rfl, hzs, hown⟩ := hrel
    have Hzs := Lib.hid hzs
    have hl1 : zs.length ≤ k := by rw [hzs, List.length_take]; omega
    clear hzs
    by_cases hlt : k < bs.length
    · have hr : Rd wr A (b8s bs) := by
        have := HN.out
        subst this
        exact HR.out.below hown.bel
      obtain ⟨b, o, rfl, hc⟩ := hr.byte k hlt
      go_wp2_with (at_builtin; refine wpList_append_u8 rfl _ _ rfl bs[k] rfl rfl rfl hown (by omega) ?_; intro v1 w1 hown1)
      go_roundw
      case rel => exact ⟨k + 1, _, by omega, by go_num, by rw [Hzs.out, List.take_succ_eq_append_getElem hlt], hown1⟩
      case measure => simp [intOf]; omega
    have hz : zs = bs := by
      have := Hzs.out
      rw [this, List.take_of_length_le (by omega)]
    subst hz
    clear Hzs hl1 HR
    go_wp2_with (at_builtin; refine wpList_append_u8 rfl _ _ rfl 128 rfl rfl rfl hown (by omega) ?_; intro v1 w1 hown1)
    have HL0 : Hid ((zs ++ [128]).length = zs.length + 1 + 0) := Lib.hid (by simp)
    have HZ0 : Hid (zs ++ [128] = zs ++ [128] ++ List.replicate 0 0) := Lib.hid (by simp)
    clear hown
    go_loopg [3] (zPad zs.length) (fun gk_ v wx => ∃ (j : Nat) (us : List UInt8), gk_ = zPad zs.length - j ∧ j ≤ zPad zs.length ∧ Hid (us = zs ++ [128] ++ List.replicate j 0) ∧ Own8 N w wx v us ∧ Hid (us.length = zs.length + 1 + j))
    case atStart => exact ⟨0, _, by omega, by omega, HZ0, hown1, HL0⟩
    case round =>
      clear HL0 HZ0 hown1
      obtain ⟨j, us, rfl, hj, HZ, hown, HL⟩ := hrel
      obtain ⟨A6, c6, hs6, hc6, hm6, hr6, hb6⟩ := hown.slice
      subst hs6
      by_cases hlt2 : j < zPad zs.length
      · have hne : (((us.length : Int) % 64) != 56) = true := by
          have := HL.out
          rw [bne_iff_ne]; rw [this]; unfold zPad at hlt2; omega
        have hl6 : us.length + 1 ≤ 140737488355328 := by have := HL.out; unfold zPad at hlt2; omega
        have hl7 : us.length ≤ 140737488355328 := by omega
        go_wp2_with (at_builtin; refine wpList_append_u8 rfl _ _ rfl 0 rfl rfl rfl hown hl6 ?_; intro v1 w1 hown1)
        go_roundg (zPad zs.length - (j + 1))
        case measure => omega
        case rel => exact ⟨j + 1, _, rfl, by omega, Lib.hid (by rw [HZ.out, List.replicate_succ', List.append_assoc]), hown1, Lib.hid (by have := HL.out; rw [List.length_append, this]; rfl)⟩
      · obtain rfl : j = zPad zs.length := by omega
        have hne : (((us.length : Int) % 64) != 56) = false := by
          have := HL.out
          rw [bne_eq_false_iff_eq]; rw [this]; unfold zPad; omega
        have hzl : us.length ≤ 140737488355328 := by have := HL.out; rw [this]; unfold zPad; omega
        have hz0 : us = zs ++ [128] ++ List.replicate (zPad zs.length) 0 ++ (len8 (8 * zs.length)).take 0 := by rw [HZ.out]; simp
        have HZ0 := Lib.hid hz0
        have hb64 := bits64 zs.length (by omega)
        clear hz0
        go_wp2_with fail
        go_loopg [3, 6] 8 (fun gk_ v i wx => ∃ (k : Nat) (xs : List UInt8), gk_ = 8 - k ∧ k ≤ 8 ∧ i = .int .i64 (k : Int) ∧ Hid (xs = zs ++ [128] ++ List.replicate (zPad zs.length) 0 ++ (len8 (8 * zs.length)).take k) ∧ Own8 N w wx v xs ∧ Hid (xs.length = zs.length + 1 + zPad zs.length + k))
        case atStart => exact ⟨0, us, by omega, by omega, rfl, HZ0, hown, HL⟩
        case round =>
          clear HZ HZ0 hown HL hne hb64
          obtain ⟨k, xs, rfl, hk, rfl, HZ, hown, HL⟩ := hrel
          obtain ⟨A7, c7, hs7, hc7, hm7, hr7, hb7⟩ := hown.slice
          subst hs7
          by_cases hlt3 : k < 8
          · have e1 : IntKind.i64.wrap (8 * (k : Int)) = 8 * (k : Int) := wrap64_in _ (by omega) (by omega)
            have hl6 : xs.length + 1 ≤ 140737488355328 := by have := HL.out; unfold zPad at this; omega
            have HLB : Hid (Value.int .u8 (8 * (zs.length : Int) / 2 ^ (56 - 8 * k) % 256) = .int .u8 ((UInt8.ofNat (8 * zs.length / 2 ^ (56 - 8 * k))).toNat : Int)) := Lib.hid (by
              rw [UInt8.toNat_ofNat', Int.natCast_emod, Int.natCast_ediv, Int.natCast_mul, Int.natCast_pow]; rfl)
            go_wp2_with (at_builtin; refine wpList_append_u8 rfl _ _ rfl (UInt8.ofNat (8 * zs.length / 2 ^ (56 - 8 * k))) rfl rfl HLB.out hown hl6 ?_; intro v7 w7 hown7)
            go_roundg (8 - (k + 1))
            case measure => omega
            case rel => exact ⟨k + 1, _, rfl, by omega, by go_num, Lib.hid (by rw [HZ.out, len8_succ _ _ hlt3, List.append_assoc]), hown7, Lib.hid (by have := HL.out; rw [List.length_append, this]; rfl)⟩
          · obtain rfl : k = 8 := by omega
            go_wp2_with fail
            go_ret
            have hT : xs = padded zs := by
              rw [HZ.out, List.take_of_length_le (show (len8 (8 * zs.length)).length ≤ 8 by simp [len8])]; simp [padded, padOf]
            rw [hT] at hown
            have hl := congrArg List.length hT
            rw [hl]
            have := HN.out
            subst this
            exact ⟨_, rfl, hown⟩

theorem rd_new_at (w : World) (cs : List Value) (t : TypeId) (B : Nat) (h : w.heap.size = B) : Rd (w.alloc (.cells cs.toArray t)) (some ⟨B, 0, none⟩) cs := by subst h; exact Rd.new w cs t
theorem w32s_K0 : (w32s K0).toArray.size = 64 := rfl
theorem info_tab : (Try.prog.info? 39).map (·.size) = some 2 := by kernel_rfl
set_option maxRecDepth 100000 in
set_option maxHeartbeats 1000000 in
theorem known_any (w : World) : Calls Try.prog 21 #[] w fun e w' => ∃ a b, e = .returned (.agg #[.slice (some a) 8 8, .slice (some b) 64 64]) ∧ Below w.heap.size w w' ∧ Rd w' (some a) (w32s H0.list) ∧ Rd w' (some b) (w32s K0) := by
  go_enter Try.func21, Try.ntmps21
  go_wp2
  refine bodyPost_ret (results_row1 rfl _ _ _ _ _ _ _ rfl ((Below.heap_alloc _ _ _ (by simp; omega)).trans ((Below.heap_alloc _ _ _ (by simp)).trans (heap_alloc_new w _))) Try.underlying39 rfl info_tab) rfl ?_
  refine ⟨_, _, rfl, ((((Below.refl _ _).alloc (Nat.le_refl _) _).alloc (by simp) _).alloc (by simp; omega) _), ?_, ?_⟩
  · exact (rd_new_at _ (w32s H0.list) _ _ (by simp)).alloc _
  · exact rd_new_at _ (w32s K0) _ _ (by simp)
end Go.Proofs.Ytkiggfahcakdeaa
