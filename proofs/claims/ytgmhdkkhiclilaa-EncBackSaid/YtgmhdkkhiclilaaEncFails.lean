/- reading, and EncFails: the walks. -/
import Derived.Test.YtgmhdkkhiclilaaEncRead3
import Derived.Test.YtgmhdkkhiclilaaIds
import Derived.Test.YtgmhdkkhiclilaaEncTurns
namespace Go.Proofs.Ytgmhdkkhiclilaa
set_option linter.unusedVariables false
set_option linter.unusedSimpArgs false
open Go.RowKit

theorem reads1 : getNum (some [172, 2, 1, 97]) 1000 = (300, some [1, 97]) := by decide +kernel
theorem reads2 : getText (some [1, 97]) 1 = ([97], some []) := by decide +kernel

set_option maxHeartbeats 1000000 in
theorem reading_any (w : World) : Calls Try.prog 25 #[] w fun e w' => e = .returned (.bool true) ∧ Below w.heap.size w w' := by
  go_enter Try.func25, Try.ntmps25
  go_wp2_with fail
  refine (read_any _ [172, 2, 1, 97] 4 4 _ rfl (rd_lit w [172, 2, 1, 97]) (by decide)).mono ?_
  rintro e w1 ⟨g, rfl, hg, hb, hm⟩
  have hb1 : Below w.heap.size w w1 := ((Below.refl _ _).alloc (Nat.le_refl _) _).trans (hb.mono (by simp))
  have hg1 : w.heap.size ≤ g := Nat.le_trans (by simp) hg
  clear hb hg
  go_wp2_with fail
  refine (rdnum_any g _ 1000 w1 hm).mono ?_
  rintro e w2 ⟨rfl, h2, hg2⟩
  rw [reads1] at h2 ⊢
  have hb2 := bel_grown hb1 hb1.size hg2 hg1
  go_wp2_with fail
  refine (rdtext_any g _ 1 w2 h2).mono ?_
  rintro e w3 ⟨rfl, h3, hg3⟩
  rw [reads2] at h3 ⊢
  have hb3 := bel_grown hb2 hb2.size hg3 hg1
  go_wp2_with fail
  refine (done_any g _ w3 h3).mono ?_
  rintro e w4 ⟨rfl, rfl⟩
  have hd : doneS (some []) = true := rfl
  rw [hd]
  go_wp2_with fail
  refine (good_any g _ w3 h3).mono ?_
  rintro e w4 ⟨rfl, rfl⟩
  go_wp2_with fail
  go_ret
  exact ⟨rfl, hb3⟩

theorem getId_none : getId none = (zero32, none) := rfl
theorem zero32_lit : (b8s zero32).toArray = #[.int .u8 0, .int .u8 0, .int .u8 0, .int .u8 0, .int .u8 0, .int .u8 0, .int .u8 0, .int .u8 0, .int .u8 0, .int .u8 0, .int .u8 0, .int .u8 0, .int .u8 0, .int .u8 0, .int .u8 0, .int .u8 0, .int .u8 0, .int .u8 0, .int .u8 0, .int .u8 0, .int .u8 0, .int .u8 0, .int .u8 0, .int .u8 0, .int .u8 0, .int .u8 0, .int .u8 0, .int .u8 0, .int .u8 0, .int .u8 0, .int .u8 0, .int .u8 0] := rfl

set_option maxRecDepth 100000 in
set_option maxHeartbeats 2000000 in
theorem encFails_any (A B : Option Addr) (bs : List UInt8) (zs : List Int) (c c' : Nat) (at_ : Int) (w : World) (hr : Rd w A (b8s bs)) (hz : Rd w B (zs.map (Value.int .i64))) (hm : bs.length ≤ maxLen) (hm' : zs.length ≤ maxLen) :
    Calls Try.prog 8 #[.slice A bs.length c, .int .i64 at_, .slice B zs.length c'] w fun e w' => e = .returned (.bool true) ∧ Below w.heap.size w w' := by
  unfold maxLen at hm hm'
  by_cases h1 : 500 < bs.length
  · have hz1 : (500 : Int) < bs.length := by omega
    go_enter Try.func8, Try.ntmps8
    go_wp2_with fail
    refine (reading_any w).mono ?_
    rintro e w1 ⟨rfl, hb⟩
    go_wp2_with fail
    go_ret
    exact ⟨rfl, hb⟩
  by_cases h2 : 50 < zs.length
  · have hz1 : ¬ (500 : Int) < bs.length := by omega
    have hz2 : (50 : Int) < zs.length := by omega
    go_enter Try.func8, Try.ntmps8
    go_wp2_with fail
    refine (reading_any w).mono ?_
    rintro e w1 ⟨rfl, hb⟩
    go_wp2_with fail
    go_ret
    exact ⟨rfl, hb⟩
  obtain ⟨x1, hx1, ex1⟩ : ∃ n : Nat, n ≤ 63 ∧ bits .and .i64 at_ 63 = (n : Int) := i64_and_mask at_ 63 (by omega)
  have hd1 : ¬ (500 : Int) < bs.length := by omega
  have hd2 : ¬ (50 : Int) < zs.length := by omega
  obtain ⟨N, hN⟩ : ∃ N, N = w.heap.size := ⟨_, rfl⟩
  have HN := Lib.hid hN
  rw [← hN]
  clear hN
  go_enter Try.func8, Try.ntmps8
  go_wp2_with fail
  refine (reading_any w).mono ?_
  rintro e w1 ⟨rfl, hb⟩
  go_wp2_with fail
  refine (read_any A bs _ c w1 rfl (hr.below hb) (by omega)).mono ?_
  rintro e w2 ⟨g, rfl, hg, hb2, hM⟩
  have hbel := hb.trans (hb2.mono hb.size)
  have hgN : N ≤ g := by rw [HN.out]; exact Nat.le_trans hb.size hg
  rw [← HN.out] at hbel
  clear hb hb2 hg
  go_wp2_with fail
  clear ex1
  go_loopw [8] (fun i wr => ∃ (k : Nat) (st : St), k ≤ x1 ∧ i = .int .i64 k ∧ RdrM wr g st ∧ Below N w wr) (fun i _ => x1 - (intOf i).toNat)
  case atStart => exact ⟨0, some bs, by omega, rfl, hM, hbel⟩
  case round =>
    clear hM hbel
    obtain ⟨k, st, hk, rfl, hM, hbel⟩ := hrel
    have hsz : N ≤ wr.heap.size := Nat.le_trans (by rw [HN.out]; exact Nat.le_refl _) hbel.size
    have tail : True := trivial
    by_cases hgo : k < x1 ∧ 0 < leftS st
    · obtain ⟨hk1, hl⟩ := hgo
      have hl' : (0 : Int) < (leftS st : Int) := by omega
      go_wp2_with fail
      refine (left_any g st wr hM).mono ?_
      rintro e w' ⟨rfl, rfl⟩
      go_wp2_with fail
      refine (rdnum_any g st _ wr hM).mono ?_
      rintro e w3 ⟨rfl, h3, hg3⟩
      go_wp2_with fail
      go_roundw
      case rel => exact ⟨k + 1, _, by omega, by go_num, h3, bel_grown hbel hsz hg3 hgN⟩
      case measure => simp [intOf]; omega
    · have Hz := Lib.hid hz
      have Hm' := Lib.hid hm'
      clear hz hm'
      rcases Nat.lt_or_ge k x1 with hk1 | hk1
      case' inl =>
        have hl' : ¬ (0 : Int) < (leftS st : Int) := by omega
        go_wp2_with fail
        refine (left_any g st wr hM).mono ?_
        rintro e w' ⟨rfl, rfl⟩
        go_wp2_with fail
      case' inr =>
        go_wp2_with fail
      all_goals
        refine (fail_any g st wr hM).mono ?_
        rintro e w3 ⟨rfl, h3, hg3⟩
        have hb3 := bel_grown hbel hsz hg3 hgN
        have hsz3 := hb3.size
        go_wp2_with fail
        clear hM hbel hsz hg3 hgo hk1
        have Hr := Lib.hid hr
        clear hr tail hk
        have hguard : Program.eqGuardType Try.prog Try.prog.depth 32 = false := by kernel_rfl
        have hne : ∀ w : World, (binOp .neq 32 (.agg (b8s zero32).toArray) (.agg (b8s zero32).toArray)).run Try.prog w = .ok (.bool false) w := by
          intro w
          rw [run_neq_ids (P := Try.prog) (t := 32) (e := 5) (n := 32) Try.underlying32 Try.underlying5 (by kernel_rfl) (by kernel_rfl) (by kernel_rfl) zero32 zero32 rfl rfl w]
          simp
        rw [zero32_lit] at hne
        go_loopw [10, 41] (fun _ i wr => ∃ (k : Nat), k ≤ zs.length ∧ i = .int .i64 k ∧ RdrM wr g none ∧ Below N w wr) (fun _ i _ => zs.length - (intOf i).toNat)
        case atStart => exact ⟨0, by omega, rfl, h3, hb3⟩
        case round =>
          clear h3 hb3 hsz3
          obtain ⟨k, hk, rfl, h3, hb3⟩ := hrel
          have hsz3 : N ≤ wr.heap.size := Nat.le_trans (by rw [HN.out]; exact Nat.le_refl _) hb3.size
          by_cases hlt : k < zs.length
          · have hbw : Below w.heap.size w wr := by rw [← HN.out]; exact hb3
            obtain ⟨b, o, rfl, hc⟩ := (Hz.out.below hbw).at_ k (by rw [List.length_map]; exact hlt)
            rw [List.getElem_map] at hc
            obtain ⟨n, hn, en⟩ : ∃ n : Nat, n ≤ 3 ∧ bits .and .i64 zs[k] 3 = (n : Int) := i64_and_mask zs[k] 3 (by decide)
            match n, hn with
            | 0, _ =>
              go_wp2_with fail
              refine (rdnum_any g none _ wr h3).mono ?_
              rintro e w4 ⟨rfl, h4, hg4⟩
              have e0 : getNum none 4611686018427387904 = (0, none) := rfl
              rw [e0] at h4 ⊢
              have hb4 := bel_grown hb3 hsz3 hg4 hgN
              go_wp2_with fail
              refine (good_any g none w4 h4).mono ?_
              rintro e w' ⟨rfl, rfl⟩
              go_wp2_with fail
              refine (done_any g none w4 h4).mono ?_
              rintro e w' ⟨rfl, rfl⟩
              have hd : doneS none = false := rfl
              rw [hd]
              go_wp2_with fail
              refine (left_any g none w4 h4).mono ?_
              rintro e w' ⟨rfl, rfl⟩
              have hd : leftS none = 0 := rfl
              rw [hd]
              go_wp2_with fail
              go_roundw
              case rel => exact ⟨k + 1, by omega, by go_num, h4, hb4⟩
              case measure => simp [intOf]; omega
            | 1, _ =>
              go_wp2_with fail
              refine (rdtext_any g none _ wr h3).mono ?_
              rintro e w4 ⟨rfl, h4, hg4⟩
              have e0 : getText none 100 = ([], none) := rfl
              rw [e0] at h4 ⊢
              have hb4 := bel_grown hb3 hsz3 hg4 hgN
              go_wp2_with fail
              refine (good_any g none w4 h4).mono ?_
              rintro e w' ⟨rfl, rfl⟩
              go_wp2_with fail
              refine (done_any g none w4 h4).mono ?_
              rintro e w' ⟨rfl, rfl⟩
              have hd : doneS none = false := rfl
              rw [hd]
              go_wp2_with fail
              refine (left_any g none w4 h4).mono ?_
              rintro e w' ⟨rfl, rfl⟩
              have hd : leftS none = 0 := rfl
              rw [hd]
              go_wp2_with fail
              go_roundw
              case rel => exact ⟨k + 1, by omega, by go_num, h4, hb4⟩
              case measure => simp [intOf]; omega
            | 2, _ =>
              go_wp2_with fail
              refine (rdid_any g none wr h3).mono ?_
              rintro e w4 ⟨rfl, h4, hg4⟩
              rw [getId_none] at h4 ⊢
              rw [zero32_lit]
              have hb4 := bel_grown hb3 hsz3 hg4 hgN
              go_wp2_with fail
              refine (good_any g none w4 h4).mono ?_
              rintro e w' ⟨rfl, rfl⟩
              go_wp2_with fail
              refine (done_any g none w4 h4).mono ?_
              rintro e w' ⟨rfl, rfl⟩
              have hd : doneS none = false := rfl
              rw [hd]
              go_wp2_with fail
              refine (left_any g none w4 h4).mono ?_
              rintro e w' ⟨rfl, rfl⟩
              have hd : leftS none = 0 := rfl
              rw [hd]
              go_wp2_with fail
              go_roundw
              case rel => exact ⟨k + 1, by omega, by go_num, h4, hb4⟩
              case measure => simp [intOf]; omega
            | 3, _ =>
              go_wp2_with fail
              refine (rdfour_any g none wr h3).mono ?_
              rintro e w4 ⟨rfl, h4, hg4⟩
              have e0 : getFour none = (0, none) := rfl
              rw [e0] at h4 ⊢
              have hb4 := bel_grown hb3 hsz3 hg4 hgN
              go_wp2_with fail
              refine (good_any g none w4 h4).mono ?_
              rintro e w' ⟨rfl, rfl⟩
              go_wp2_with fail
              refine (done_any g none w4 h4).mono ?_
              rintro e w' ⟨rfl, rfl⟩
              have hd : doneS none = false := rfl
              rw [hd]
              go_wp2_with fail
              refine (left_any g none w4 h4).mono ?_
              rintro e w' ⟨rfl, rfl⟩
              have hd : leftS none = 0 := rfl
              rw [hd]
              go_wp2_with fail
              go_roundw
              case rel => exact ⟨k + 1, by omega, by go_num, h4, hb4⟩
              case measure => simp [intOf]; omega
          · go_wp2_with fail
            refine (good_any g none wr h3).mono ?_
            rintro e w' ⟨rfl, rfl⟩
            go_wp2_with fail
            go_ret
            exact ⟨rfl, by rw [HN.out] at hb3 ⊢; exact hb3⟩
end Go.Proofs.Ytgmhdkkhiclilaa
