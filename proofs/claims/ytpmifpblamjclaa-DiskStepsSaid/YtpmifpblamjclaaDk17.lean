
/- DiskSteps. (Printed by wip/genDk17.py.) -/

import Derived.Test.YtpmifpblamjclaaDk16

namespace Go.Proofs.Ytpmifpblamjclaa

set_option linter.unusedVariables false

set_option linter.unusedSimpArgs false

set_option linter.unusedSectionVars false

open Go.RowKit

def sst (f j : Nat) : DM := ⟨List.replicate j ⟨[], 0⟩, firstN j, [], tsN 0 j, 1000, f + 1 - j, false⟩
def dst (f : Nat) : DM := ⟨List.replicate f ⟨[], 0⟩, firstN f, [], tsN 0 f, 1000, 0, true⟩
def stM (f i : Nat) : DM := if i ≤ f then sst f i else dst f
theorem sst_start (f : Nat) (hf : f ≤ 15) : failM (newM 1000) ((f + 1 : Nat) : Int) = stM f 0 := by
  have : ∀ f, f < 16 → failM (newM 1000) ((f + 1 : Nat) : Int) = stM f 0 := by decide +kernel
  exact this f (by omega)
theorem sst_create {f i : Nat} (hi : i < f) (hf : f ≤ 15) : createM (stM f i) (nm i) = (stM f (i + 1), 0) := by
  have : ∀ f, f < 16 → ∀ i, i < f → createM (stM f i) (nm i) = (stM f (i + 1), 0) := by decide +kernel
  exact this f (by omega) i hi
theorem dst_create {f i : Nat} (hi : f ≤ i) (hf : f ≤ 15) (h20 : i < 20) : createM (stM f i) (nm i) = (stM f (i + 1), 50) := by
  have : ∀ f, f < 16 → ∀ i, i < 20 → f ≤ i → createM (stM f i) (nm i) = (stM f (i + 1), 50) := by decide +kernel
  exact this f (by omega) i h20 hi
theorem sst_wrong {f i : Nat} (hi : i < f) (hf : f ≤ 15) : removeM (stM f i) [110, 111, 110, 101] = (stM f i, 4) ∧ createM (stM f i) [] = (stM f i, 1) ∧ appendM (stM f i) [110, 111, 110, 101] [] = (stM f i, 4) ∧ renameM (stM f i) [110, 111, 110, 101] [120] = (stM f i, 4) := by
  have : ∀ f, f < 16 → ∀ i, i < f → removeM (stM f i) [110, 111, 110, 101] = (stM f i, 4) ∧ createM (stM f i) [] = (stM f i, 1) ∧ appendM (stM f i) [110, 111, 110, 101] [] = (stM f i, 4) ∧ renameM (stM f i) [110, 111, 110, 101] [120] = (stM f i, 4) := by decide +kernel
  exact this f (by omega) i hi
theorem dst_down {f i : Nat} (hi : f < i) : (stM f i).down = true ∧ flushM (stM f i) = (stM f i, 50) := by
  have e : stM f i = dst f := by unfold stM; rw [if_neg (by omega)]
  rw [e]
  exact ⟨rfl, rfl⟩
theorem dst_crash (f : Nat) (hf : f ≤ 15) : crashM (stM f 20) 99 [] = cst 1000 f f := by
  have : ∀ f, f < 16 → crashM (stM f 20) 99 [] = cst 1000 f f := by decide +kernel
  exact this f (by omega)
theorem cst_z (f : Nat) (hf : f ≤ 15) : ∃ m', createM (cst 1000 f f) [122] = (m', 0) := by
  have : ∀ f, f < 16 → (createM (cst 1000 f f) [122]).2 = 0 := by decide +kernel
  exact ⟨_, Prod.ext rfl (this f (by omega))⟩

set_option maxRecDepth 1000000 in
set_option maxHeartbeats 16000000 in
theorem steps_any (fail : Int) (A : Option Addr) (zs : List Int) (zn c : Nat) (hzn : zs.length = zn) (hzl : zn ≤ 9223372036854775807) (w : World) (hr : Rd w A (zs.map (Value.int .i64))) : Calls Try.prog 8 #[.int .i64 fail, .slice A zn c] w fun e w' => e = .returned (.bool true) ∧ Below w.heap.size w w' := by
  have HR := Lib.hid hr
  have HZN := Lib.hid hzn
  clear hr hzn
  obtain ⟨f, hf, hfa⟩ : ∃ n : Nat, n ≤ 15 ∧ bits .and .i64 fail 15 = (n : Int) := i64_and_mask fail 15 (by decide)
  obtain ⟨fl, hfl⟩ : ∃ fl, fl = f + 1 := ⟨_, rfl⟩
  have hw1 : IntKind.i64.wrap (1 + (f : Int)) = (fl : Int) := by rw [IntKind.wrap_i64]; omega
  have hw2 : IntKind.i64.wrap ((fl : Int) - 1) = (f : Int) := by rw [IntKind.wrap_i64]; omega
  have HNW := Lib.hid (new_any 1000 (by omega) w)
  have HFL := Lib.hid hfl
  clear hfl
  go_enter Try.func8, Try.ntmps8
  go_wp2_with fail
  refine HNW.out.mono ?_
  rintro e w1 ⟨g, d0, rfl, hd0, hb0⟩
  have A0 := Lib.hid (Aft.refl hd0)
  have B0 := Lib.hid hb0
  clear hd0 hb0
  go_wp2_with fail
  refine (alive_any _).mono ?_
  rintro e w2 ⟨rfl, hb⟩
  have A1 := Lib.hid (A0.out.then hb)
  have F1 : Hid (Fit 0 0 (newM 1000)) := Lib.hid (fit_new 1000 (by omega))
  clear hb
  go_wp2_with fail
  refine (fail_st A1.out.disk F1.out (by have := HFL.out; omega)).mono ?_
  rintro e w3 ⟨rfl, d3, ha, hf3⟩
  have A3 : Hid (Aft w.heap.size g w1 w3 (stM f 0) d0 d3) := Lib.hid (by have := A1.out.trans ha; rw [HFL.out, sst_start f hf] at this; exact this)
  have F3 : Hid (Fit (1 * 0) 0 (stM f 0)) := Lib.hid (by rw [HFL.out, sst_start f hf] at hf3; exact hf3)
  clear ha hf3 A1 F1
  go_wp2_with fail
  go_loopg [6, 7] (20 * 1) (fun gk_ jv iv wr => ∃ (i j : Nat) (d : DA), i ≤ 20 ∧ gk_ = 20 - i ∧ jv = .int .i64 (j : Int) ∧ iv = .int .i64 (i : Int) ∧ j = min i f ∧ Hid (Aft w.heap.size g w1 wr (stM f i) d0 d) ∧ Hid (Fit (1 * i) 0 (stM f i)))
  case atStart => exact ⟨0, 0, d3, by omega, by omega, rfl, rfl, by omega, A3, F3⟩
  case round =>
  clear A3 F3
  obtain ⟨i, j, d, hi, rfl, rfl, rfl, hj, HA, HF⟩ := hrel
  by_cases hlt : i < 20
  · have i1 : (i : Int) < 20 := by omega
    obtain ⟨x, hx⟩ : ∃ x : UInt8, UInt8.ofNat (97 + i) = x := ⟨_, rfl⟩
    have hw8 := u8_wrap (i := i) (by omega)
    rw [hx] at hw8
    have hnm : Hid ((⟨#[x]⟩ : ByteArray).data.toList = nm i) := Lib.hid (by rw [← hx]; rfl)
    have hsz : Hid ((⟨#[x]⟩ : ByteArray).size ≤ maxLen) := Lib.hid (by show 1 ≤ maxLen; unfold maxLen; omega)
    clear hx
    by_cases hif : i < f
    · obtain rfl : j = i := by omega
      clear hj
      have i2 : (j : Int) < (f : Int) := by omega
      have HW := Lib.hid (sst_wrong hif hf)
      by_cases hil : j < zn
      · have i3 : (j : Int) < (zn : Int) := by omega
        have hjl : j < zs.length := by rw [HZN.out]; exact hil
        have B1 := B0.out.trans (HA.out.bel A0.out.disk B0.out.size)
        obtain ⟨b, o, hAe, hcell⟩ := (HR.out.below B1) j (.int .i64 zs[j]) (by simp [hjl])
        obtain ⟨z, hz⟩ : ∃ z, zs[j] = z := ⟨_, rfl⟩
        rw [hz] at hcell
        obtain ⟨q, hq, hqa⟩ : ∃ n : Nat, n ≤ 3 ∧ bits .and .i64 z 3 = (n : Int) := i64_and_mask z 3 (by decide)
        have HAE := Lib.hid hAe
        rw [hAe]
        clear hAe B1 hz
        obtain rfl | rfl | rfl | rfl : q = 0 ∨ q = 1 ∨ q = 2 ∨ q = 3 := by omega
        · go_wp2_with fail
          refine (remove_st (m := stM f j) HA.out.disk HF.out (by omega) (by omega) (by decide) HW.out.1).mono ?_
          rintro e w5 ⟨rfl, d5, ha, _⟩
          replace HA := Lib.hid (HA.out.trans ha)
          clear ha hcell
          obtain ⟨wr, hwr⟩ : ∃ x, x = w5 := ⟨_, rfl⟩
          subst hwr
          clear d
          obtain ⟨d, hd⟩ : ∃ x, x = d5 := ⟨_, rfl⟩
          subst hd
          have hst := str_one wr x
          have A2 := Lib.hid (Aft.below HA.out.disk ((Below.refl _ wr).alloc (Nat.le_refl _) (.cells #[.int .u8 (x.toNat : Int)] 5)))
          go_wp2_with fail
          refine (create_st (m' := stM f (j + 1)) (e' := 0) A2.out.disk HF.out (by omega) (by omega) hsz.out (by rw [hnm.out]; exact sst_create hif hf)).mono ?_
          rintro e w7 ⟨rfl, d7, ha, hf7⟩
          have A7 := Lib.hid ((HA.out.trans A2.out).trans ha)
          have F7 := Lib.hid (hf7.mono (K' := 1 * (j + 1)) (by omega) (Nat.le_refl _))
          clear ha hf7 A2 hst HA HF
          go_wp2_with fail
          rw [← HAE.out]
          go_roundg (20 - (j + 1))
          case measure => omega
          case rel => exact ⟨j + 1, j + 1, d7, by omega, rfl, by first | rfl | exact congrArg (Value.int .i64) (by omega) | go_num, by first | rfl | exact congrArg (Value.int .i64) (by omega) | go_num, by omega, A7, F7⟩
        · go_wp2_with fail
          refine (create_st HA.out.disk HF.out (by omega) (by omega) (by decide) HW.out.2.1).mono ?_
          rintro e w5 ⟨rfl, d5, ha, _⟩
          replace HA := Lib.hid (HA.out.trans ha)
          clear ha hcell
          obtain ⟨wr, hwr⟩ : ∃ x, x = w5 := ⟨_, rfl⟩
          subst hwr
          clear d
          obtain ⟨d, hd⟩ : ∃ x, x = d5 := ⟨_, rfl⟩
          subst hd
          have hst := str_one wr x
          have A2 := Lib.hid (Aft.below HA.out.disk ((Below.refl _ wr).alloc (Nat.le_refl _) (.cells #[.int .u8 (x.toNat : Int)] 5)))
          go_wp2_with fail
          refine (create_st (m' := stM f (j + 1)) (e' := 0) A2.out.disk HF.out (by omega) (by omega) hsz.out (by rw [hnm.out]; exact sst_create hif hf)).mono ?_
          rintro e w7 ⟨rfl, d7, ha, hf7⟩
          have A7 := Lib.hid ((HA.out.trans A2.out).trans ha)
          have F7 := Lib.hid (hf7.mono (K' := 1 * (j + 1)) (by omega) (Nat.le_refl _))
          clear ha hf7 A2 hst HA HF
          go_wp2_with fail
          rw [← HAE.out]
          go_roundg (20 - (j + 1))
          case measure => omega
          case rel => exact ⟨j + 1, j + 1, d7, by omega, rfl, by first | rfl | exact congrArg (Value.int .i64) (by omega) | go_num, by first | rfl | exact congrArg (Value.int .i64) (by omega) | go_num, by omega, A7, F7⟩
        · go_wp2_with fail
          refine (append_st (bs := []) (A := none) HA.out.disk HF.out (by omega) (by omega) (by decide) rfl Rd.nil (fun a ha => by cases ha) (by decide) HW.out.2.2.1).mono ?_
          rintro e w5 ⟨rfl, d5, ha, _⟩
          replace HA := Lib.hid (HA.out.trans ha)
          clear ha hcell
          obtain ⟨wr, hwr⟩ : ∃ x, x = w5 := ⟨_, rfl⟩
          subst hwr
          clear d
          obtain ⟨d, hd⟩ : ∃ x, x = d5 := ⟨_, rfl⟩
          subst hd
          have hst := str_one wr x
          have A2 := Lib.hid (Aft.below HA.out.disk ((Below.refl _ wr).alloc (Nat.le_refl _) (.cells #[.int .u8 (x.toNat : Int)] 5)))
          go_wp2_with fail
          refine (create_st (m' := stM f (j + 1)) (e' := 0) A2.out.disk HF.out (by omega) (by omega) hsz.out (by rw [hnm.out]; exact sst_create hif hf)).mono ?_
          rintro e w7 ⟨rfl, d7, ha, hf7⟩
          have A7 := Lib.hid ((HA.out.trans A2.out).trans ha)
          have F7 := Lib.hid (hf7.mono (K' := 1 * (j + 1)) (by omega) (Nat.le_refl _))
          clear ha hf7 A2 hst HA HF
          go_wp2_with fail
          rw [← HAE.out]
          go_roundg (20 - (j + 1))
          case measure => omega
          case rel => exact ⟨j + 1, j + 1, d7, by omega, rfl, by first | rfl | exact congrArg (Value.int .i64) (by omega) | go_num, by first | rfl | exact congrArg (Value.int .i64) (by omega) | go_num, by omega, A7, F7⟩
        · go_wp2_with fail
          refine (rename_st HA.out.disk HF.out (by omega) (by omega) (by decide) (by decide) HW.out.2.2.2).mono ?_
          rintro e w5 ⟨rfl, d5, ha, _⟩
          replace HA := Lib.hid (HA.out.trans ha)
          clear ha hcell
          obtain ⟨wr, hwr⟩ : ∃ x, x = w5 := ⟨_, rfl⟩
          subst hwr
          clear d
          obtain ⟨d, hd⟩ : ∃ x, x = d5 := ⟨_, rfl⟩
          subst hd
          have hst := str_one wr x
          have A2 := Lib.hid (Aft.below HA.out.disk ((Below.refl _ wr).alloc (Nat.le_refl _) (.cells #[.int .u8 (x.toNat : Int)] 5)))
          go_wp2_with fail
          refine (create_st (m' := stM f (j + 1)) (e' := 0) A2.out.disk HF.out (by omega) (by omega) hsz.out (by rw [hnm.out]; exact sst_create hif hf)).mono ?_
          rintro e w7 ⟨rfl, d7, ha, hf7⟩
          have A7 := Lib.hid ((HA.out.trans A2.out).trans ha)
          have F7 := Lib.hid (hf7.mono (K' := 1 * (j + 1)) (by omega) (Nat.le_refl _))
          clear ha hf7 A2 hst HA HF
          go_wp2_with fail
          rw [← HAE.out]
          go_roundg (20 - (j + 1))
          case measure => omega
          case rel => exact ⟨j + 1, j + 1, d7, by omega, rfl, by first | rfl | exact congrArg (Value.int .i64) (by omega) | go_num, by first | rfl | exact congrArg (Value.int .i64) (by omega) | go_num, by omega, A7, F7⟩
      · have i3 : ¬ ((j : Int) < (zn : Int)) := by omega
        have hst := str_one wr x
        have A2 := Lib.hid (Aft.below HA.out.disk ((Below.refl _ wr).alloc (Nat.le_refl _) (.cells #[.int .u8 (x.toNat : Int)] 5)))
        go_wp2_with fail
        refine (create_st (m' := stM f (j + 1)) (e' := 0) A2.out.disk HF.out (by omega) (by omega) hsz.out (by rw [hnm.out]; exact sst_create hif hf)).mono ?_
        rintro e w7 ⟨rfl, d7, ha, hf7⟩
        have A7 := Lib.hid ((HA.out.trans A2.out).trans ha)
        have F7 := Lib.hid (hf7.mono (K' := 1 * (j + 1)) (by omega) (Nat.le_refl _))
        clear ha hf7 A2 hst HA HF
        go_wp2_with fail
        go_roundg (20 - (j + 1))
        case measure => omega
        case rel => exact ⟨j + 1, j + 1, d7, by omega, rfl, by first | rfl | exact congrArg (Value.int .i64) (by omega) | go_num, by first | rfl | exact congrArg (Value.int .i64) (by omega) | go_num, by omega, A7, F7⟩
    · obtain rfl : j = f := by omega
      have i2 : ¬ ((j : Int) < (j : Int)) := by omega
      clear hj
      by_cases hil : i < zn
      · have i3 : (i : Int) < (zn : Int) := by omega
        have hst := str_one wr x
        have A2 := Lib.hid (Aft.below HA.out.disk ((Below.refl _ wr).alloc (Nat.le_refl _) (.cells #[.int .u8 (x.toNat : Int)] 5)))
        go_wp2_with fail
        refine (create_st (m' := stM j (i + 1)) (e' := 50) A2.out.disk HF.out (by omega) (by omega) hsz.out (by rw [hnm.out]; exact dst_create (by omega) hf hlt)).mono ?_
        rintro e w7 ⟨rfl, d7, ha, hf7⟩
        have A7 := Lib.hid ((HA.out.trans A2.out).trans ha)
        have F7 := Lib.hid (hf7.mono (K' := 1 * (i + 1)) (by omega) (Nat.le_refl _))
        clear ha hf7 A2 hst HA HF
        have HDW := Lib.hid (dst_down (f := j) (i := i + 1) (by omega))
        have HDN : Hid (Calls Try.prog 29 #[.pointer (some ⟨g, 0, none⟩)] w7 fun e w' => e = .returned (.bool true) ∧ w' = w7) := Lib.hid (by have := down_any _ g _ _ w7 A7.out.disk; rw [HDW.out.1] at this; exact this)
        go_wp2_with fail
        refine HDN.out.mono ?_
        rintro e w8 ⟨rfl, rfl⟩
        go_wp2_with fail
        refine (flush_st A7.out.disk F7.out (by omega) (by omega) HDW.out.2).mono ?_
        rintro e w9 ⟨rfl, d9, ha, hf9⟩
        have A9 := Lib.hid (A7.out.trans ha)
        have F9 := Lib.hid hf9
        clear ha hf9 A7 F7 HDN
        go_wp2_with fail
        go_roundg (20 - (i + 1))
        case measure => omega
        case rel => exact ⟨i + 1, j, d9, by omega, rfl, rfl, by first | rfl | exact congrArg (Value.int .i64) (by omega) | go_num, by omega, A9, F9⟩
      · have i3 : ¬ ((i : Int) < (zn : Int)) := by omega
        have hst := str_one wr x
        have A2 := Lib.hid (Aft.below HA.out.disk ((Below.refl _ wr).alloc (Nat.le_refl _) (.cells #[.int .u8 (x.toNat : Int)] 5)))
        go_wp2_with fail
        refine (create_st (m' := stM j (i + 1)) (e' := 50) A2.out.disk HF.out (by omega) (by omega) hsz.out (by rw [hnm.out]; exact dst_create (by omega) hf hlt)).mono ?_
        rintro e w7 ⟨rfl, d7, ha, hf7⟩
        have A7 := Lib.hid ((HA.out.trans A2.out).trans ha)
        have F7 := Lib.hid (hf7.mono (K' := 1 * (i + 1)) (by omega) (Nat.le_refl _))
        clear ha hf7 A2 hst HA HF
        have HDW := Lib.hid (dst_down (f := j) (i := i + 1) (by omega))
        have HDN : Hid (Calls Try.prog 29 #[.pointer (some ⟨g, 0, none⟩)] w7 fun e w' => e = .returned (.bool true) ∧ w' = w7) := Lib.hid (by have := down_any _ g _ _ w7 A7.out.disk; rw [HDW.out.1] at this; exact this)
        go_wp2_with fail
        refine HDN.out.mono ?_
        rintro e w8 ⟨rfl, rfl⟩
        go_wp2_with fail
        refine (flush_st A7.out.disk F7.out (by omega) (by omega) HDW.out.2).mono ?_
        rintro e w9 ⟨rfl, d9, ha, hf9⟩
        have A9 := Lib.hid (A7.out.trans ha)
        have F9 := Lib.hid hf9
        clear ha hf9 A7 F7 HDN
        go_wp2_with fail
        go_roundg (20 - (i + 1))
        case measure => omega
        case rel => exact ⟨i + 1, j, d9, by omega, rfl, rfl, by first | rfl | exact congrArg (Value.int .i64) (by omega) | go_num, by omega, A9, F9⟩
  · obtain rfl : i = 20 := by omega
    obtain rfl : j = f := by omega
    clear hj
    have i1 : ¬ ((20 : Int) < 20) := by omega
    have z0 : ((j : Int) != (j : Int)) = false := by simp
    have z1 : ((j : Int) == (j : Int)) = true := by simp
    obtain ⟨mz, hmz⟩ := cst_z j hf
    have HMZ := Lib.hid hmz
    clear hmz
    go_wp2_with fail
    refine (crash_st (keep := []) (Ak := none) HA.out.disk HF.out (by omega) (by omega) rfl (Nat.le_refl _) (Nat.zero_le _) Rd.nil (fun a ha => by cases ha) (dst_crash j hf)).mono ?_
    rintro e w5 ⟨rfl, d5, ha, hf5⟩
    have A5 := Lib.hid (HA.out.trans ha)
    have F5 := Lib.hid hf5
    clear ha hf5 HA HF
    have HDN : Hid (Calls Try.prog 29 #[.pointer (some ⟨g, 0, none⟩)] w5 fun e w' => e = .returned (.bool false) ∧ w' = w5) := Lib.hid (down_any _ g _ _ w5 A5.out.disk)
    go_wp2_with fail
    refine HDN.out.mono ?_
    rintro e w6 ⟨rfl, rfl⟩
    go_wp2_with fail
    refine (names_st A5.out.disk F5.out (by omega) (by omega) rfl).mono ?_
    rintro e w7 ⟨v, rfl, ho, hb⟩
    obtain ⟨An, cn, rfl, hcn, _⟩ := own_slice ho
    have e6 : (cst 1000 j j).now.length = j := firstN_len j
    have A6 := Lib.hid (A5.out.then hb)
    rw [e6]
    clear ho hb hcn e6 HDN
    go_wp2_with fail
    refine (create_st A6.out.disk F5.out (by omega) (by omega) (by decide) HMZ.out).mono ?_
    rintro e w8 ⟨rfl, d8, ha, hf8⟩
    have A8 := Lib.hid (A6.out.trans ha)
    clear ha hf8
    go_wp2_with fail
    go_ret
    exact ⟨rfl, B0.out.trans (A8.out.bel A0.out.disk B0.out.size)⟩
end Go.Proofs.Ytpmifpblamjclaa
