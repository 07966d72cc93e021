
/- DiskTurns. (Printed by wip/genDk16.py.) -/

import Derived.Test.YtpmifpblamjclaaDk15

namespace Go.Proofs.Ytpmifpblamjclaa

set_option linter.unusedVariables false

set_option linter.unusedSimpArgs false

set_option linter.unusedSectionVars false

open Go.RowKit

theorem i64_and_mask (x : Int) (m : Nat) (hm : m < 9223372036854775808) : ∃ n : Nat, n ≤ m ∧ bits .and .i64 x (m : Int) = (n : Int) := by
  refine ⟨(BitVec.ofInt 64 x &&& BitVec.ofInt 64 (m : Int)).toNat, ?_, ?_⟩
  · rw [BitVec.toNat_and]
    refine Nat.le_trans Nat.and_le_right ?_
    rw [BitVec.ofInt_natCast, BitVec.toNat_ofNat]
    exact Nat.mod_le _ _
  · show IntKind.i64.wrap ((BitVec.ofInt 64 x &&& BitVec.ofInt 64 (m : Int)).toNat : Int) = _
    have h1 : (BitVec.ofInt 64 x &&& BitVec.ofInt 64 (m : Int)).toNat ≤ m := by
      rw [BitVec.toNat_and]
      refine Nat.le_trans Nat.and_le_right ?_
      rw [BitVec.ofInt_natCast, BitVec.toNat_ofNat]
      exact Nat.mod_le _ _
    exact IntWalk.i64_in _ (by omega)

/-- the i-th name of a run -/
def nm (i : Nat) : List UInt8 := [UInt8.ofNat (97 + i)]
def firstN (n : Nat) : NM := (List.range n).map fun i => (nm i, i)
def tsN (a n : Nat) : List TM := (List.range' a n).map fun i => ⟨[], nm i, i⟩
def tst (mo s i : Nat) : DM := ⟨List.replicate i ⟨[], 0⟩, firstN i, firstN s, tsN s (i - s), mo, 0, false⟩
def cst (mo i n : Nat) : DM := ⟨List.replicate i ⟨[], 0⟩, firstN n, firstN n, [], mo, 0, false⟩
def crashK (m : DM) (k : Nat) (keep : List Int) : DM :=
  cutM ((m.turns.take k).foldl doN m.sure) keep { m with down := false, fuse := 0, sure := (m.turns.take k).foldl doN m.sure, now := (m.turns.take k).foldl doN m.sure, turns := [] }
theorem crashK_eq (m : DM) (turns : Int) (keep : List Int) : crashM m turns keep = crashK m (min (max turns 0) m.turns.length).toNat keep := rfl
theorem tst_create {s i : Nat} (hs : s ≤ i) (hi : i < 15) : createM (tst 100 s i) (nm i) = (tst 100 s (i + 1), 0) := by
  have : ∀ i, i < 15 → ∀ s, s < i + 1 → createM (tst 100 s i) (nm i) = (tst 100 s (i + 1), 0) := by decide +kernel
  exact this i hi s (by omega)
theorem tst_flush {s i : Nat} (hs : s ≤ i) (hi : i ≤ 15) : flushM (tst 100 s i) = (tst 100 i i, 0) := by
  have : ∀ i, i < 16 → ∀ s, s < i + 1 → flushM (tst 100 s i) = (tst 100 i i, 0) := by decide +kernel
  exact this i (by omega) s (by omega)
theorem tst_crash {s i k : Nat} (hs : s ≤ i) (hi : i ≤ 15) (turns : Int) (hk : min (max turns 0) ((i - s : Nat) : Int) = (k : Int)) : crashM (tst 100 s i) turns [] = cst 100 i (s + k) := by
  have h : ∀ i, i < 16 → ∀ s, s < i + 1 → ∀ k, k < i - s + 1 → crashK (tst 100 s i) k [] = cst 100 i (s + k) := by decide +kernel
  rw [crashK_eq]
  have e : (tst 100 s i).turns.length = i - s := by simp [tst, tsN]
  rw [e, hk, Int.toNat_natCast]
  exact h i (by omega) s (by omega) k (by omega)
theorem cst_crash {i n : Nat} (hn : n ≤ i) (hi : i ≤ 15) (turns : Int) : crashM (cst 100 i n) turns [] = cst 100 i n := by
  have h : ∀ i, i < 16 → ∀ n, n < i + 1 → crashK (cst 100 i n) 0 [] = cst 100 i n := by decide +kernel
  rw [crashK_eq]
  have e : (min (max turns 0) ((cst 100 i n).turns.length : Int)).toNat = 0 := by simp only [cst, List.length_nil]; omega
  rw [e]
  exact h i (by omega) n (by omega)
theorem firstN_at {n j : Nat} (h : j < n) : (namesC (firstN n))[j]? = some (.string ⟨#[UInt8.ofNat (97 + j)]⟩) := by
  simp [namesC, firstN, h, strV, nm]
theorem firstN_len (n : Nat) : (firstN n).length = n := by simp [firstN]
theorem u8_wrap {i : Nat} (h : i < 100) : IntKind.u8.wrap (97 + (i : Int)) = ((UInt8.ofNat (97 + i)).toNat : Int) := by
  have e : (UInt8.ofNat (97 + i)).toNat = 97 + i := by rw [UInt8.toNat_ofNat']; omega
  rw [e, IntKind.wrap_u8]
  omega
/-- 'string([]byte{c})' -/
theorem str_one (w : World) (x : UInt8) : (convert 27 9 (.slice (some ⟨w.heap.size, 0, none⟩) 1 1)).run Try.prog (w.alloc (.cells #[.int .u8 (x.toNat : Int)] 5)) = .ok (.string ⟨#[x]⟩) (w.alloc (.cells #[.int .u8 (x.toNat : Int)] 5)) :=
  run_str_of_bytes (P := Try.prog) (A := some ⟨w.heap.size, 0, none⟩) (bs := [x]) 1 1 rfl Try.underlying27 Try.underlying5 Try.underlying9 (Rd.new w (b8s [x]) 5)

set_option maxRecDepth 1000000 in
set_option maxHeartbeats 8000000 in
theorem turns_any (count sure turns : Int) (ht : -9223372036854775808 ≤ turns ∧ turns ≤ 9223372036854775807) (w : World) : Calls Try.prog 3 #[.int .i64 count, .int .i64 sure, .int .i64 turns] w fun e w' => e = .returned (.bool true) ∧ Below w.heap.size w w' := by
  obtain ⟨c, hc, hca⟩ : ∃ n : Nat, n ≤ 15 ∧ bits .and .i64 count 15 = (n : Int) := i64_and_mask count 15 (by decide)
  obtain ⟨u, hu, hua⟩ : ∃ n : Nat, n ≤ 15 ∧ bits .and .i64 sure 15 = (n : Int) := i64_and_mask sure 15 (by decide)
  have HNW := Lib.hid (new_any 100 (by omega) w)
  go_enter Try.func3, Try.ntmps3
  go_wp2_with fail
  refine HNW.out.mono ?_
  rintro e w1 ⟨g, d0, rfl, hd0, hb0⟩
  have A0 := Lib.hid (Aft.refl hd0)
  have B0 := Lib.hid hb0
  clear hd0 hb0
  go_wp2_with fail
  refine (alive_any _).mono ?_
  rintro e w2 ⟨rfl, hb⟩
  have A1 : Hid (Aft w.heap.size g w1 w2 (tst 100 0 0) d0 d0) := Lib.hid (A0.out.then hb)
  have F1 : Hid (Fit 0 0 (tst 100 0 0)) := Lib.hid (fit_new 100 (by omega))
  clear hb
  go_wp2_with fail
  go_loopg [8] (c * 1) (fun gk_ iv wr => ∃ (i s : Nat) (d : DA), i ≤ c ∧ gk_ = c - i ∧ iv = .int .i64 (i : Int) ∧ s = (if 1 ≤ u ∧ u ≤ i then u else 0) ∧ Hid (Aft w.heap.size g w1 wr (tst 100 s i) d0 d) ∧ Hid (Fit (2 * i) 0 (tst 100 s i)))
  case atStart => exact ⟨0, 0, d0, by omega, by omega, rfl, by rw [if_neg (by omega)], A1, F1⟩
  case round =>
  clear A1 F1
  obtain ⟨i, s, d, hi, rfl, rfl, hs, HA, HF⟩ := hrel
  have hsi : s ≤ i := by split at hs <;> omega
  by_cases hlt : i < c
  · have i1 : (i : Int) < (c : Int) := by omega
    obtain ⟨x, hx⟩ : ∃ x : UInt8, UInt8.ofNat (97 + i) = x := ⟨_, rfl⟩
    have hw8 := u8_wrap (i := i) (by omega)
    rw [hx] at hw8
    have hcr : Hid (createM (tst 100 s i) (⟨#[x]⟩ : ByteArray).data.toList = (tst 100 s (i + 1), 0)) := Lib.hid (by rw [← hx]; exact tst_create hsi (by omega))
    have hsz : Hid ((⟨#[x]⟩ : ByteArray).size ≤ maxLen) := Lib.hid (by show 1 ≤ maxLen; unfold maxLen; omega)
    have hst := str_one wr x
    have A2 := Lib.hid (Aft.below HA.out.disk ((Below.refl _ wr).alloc (Nat.le_refl _) (.cells #[.int .u8 (x.toNat : Int)] 5)))
    clear hx
    go_wp2_with fail
    refine (create_st A2.out.disk HF.out (by omega) (by omega) hsz.out hcr.out).mono ?_
    rintro e w3 ⟨rfl, d3, ha, hf⟩
    have A3 := Lib.hid ((HA.out.trans A2.out).trans ha)
    have F3 := Lib.hid hf
    clear ha hf A2 hst hcr hsz hw8
    by_cases hiu : i + 1 = u
    · have z1 : ((i : Int) + 1 == (u : Int)) = true := by rw [beq_iff_eq]; omega
      go_wp2_with fail
      refine (flush_st A3.out.disk F3.out (by omega) (by omega) (tst_flush (by omega) (by omega))).mono ?_
      rintro e w4 ⟨rfl, d4, ha, hf⟩
      have A4 := Lib.hid (A3.out.trans ha)
      have F4 := Lib.hid (hf.mono (K' := 2 * (i + 1)) (by omega) (Nat.le_refl _))
      clear ha hf A3 F3
      go_wp2_with fail
      go_roundg (c - (i + 1))
      case measure => omega
      case rel => exact ⟨i + 1, i + 1, d4, by omega, rfl, by first | rfl | exact congrArg (Value.int .i64) (by omega) | go_num, by rw [if_pos (by omega)]; omega, A4, F4⟩
    · have z1 : ((i : Int) + 1 == (u : Int)) = false := by rw [beq_eq_false_iff_ne]; omega
      have F4 := Lib.hid (F3.out.mono (K' := 2 * (i + 1)) (by omega) (Nat.le_refl _))
      clear F3
      go_wp2_with fail
      go_roundg (c - (i + 1))
      case measure => omega
      case rel => exact ⟨i + 1, s, d3, by omega, rfl, by first | rfl | exact congrArg (Value.int .i64) (by omega) | go_num, by rw [hs]; split <;> split <;> omega, A3, F4⟩
  · obtain rfl : i = c := by omega
    have hmx := fun (w : World) => run_max2c (P := Try.prog) w #[3, 3] 3 .i64 .i64 turns 0
    by_cases huc : u ≤ i
    · have i2 : ¬ ((i : Int) < (u : Int)) := by omega
      have hsu : s = u := by rw [hs]; split <;> omega
      clear hs hi
      subst hsu
      obtain ⟨k, hk⟩ : ∃ k : Nat, min (max turns 0) ((i - s : Nat) : Int) = (k : Int) := ⟨(min (max turns 0) ((i - s : Nat) : Int)).toNat, by omega⟩
      have HCR := Lib.hid (tst_crash hsi hc turns hk)
      obtain ⟨n, hn⟩ : ∃ n, s + k = n := ⟨_, rfl⟩
      rw [hn] at HCR
      have hni : n ≤ i := by omega
      have hmn : ∀ w : World, (Builtin.min_ #[3, 3] 3 #[.int .i64 (max turns 0), .int .i64 ((i : Int) - (s : Int))]).run Try.prog w = .ok (.int .i64 (k : Int)) w := fun w => by rw [run_min2c]; exact congrArg (fun x => Result.ok (Value.int .i64 x) w) (by omega)
      have hw1 : IntKind.i64.wrap ((i : Int) - (s : Int)) = (i : Int) - (s : Int) := by rw [IntKind.wrap_i64]; omega
      have hw2 : IntKind.i64.wrap ((s : Int) + (k : Int)) = (n : Int) := by rw [IntKind.wrap_i64]; omega
      have HK := Lib.hid hk
      clear hn hk
      go_wp2_with fail
      refine (crash_st (keep := []) (Ak := none) HA.out.disk HF.out (by omega) (by omega) rfl (Nat.le_refl _) (Nat.zero_le _) Rd.nil (fun a ha => by cases ha) HCR.out).mono ?_
      rintro e w5 ⟨rfl, d5, ha, hf⟩
      have A5 := Lib.hid (HA.out.trans ha)
      have F5 := Lib.hid hf
      clear ha hf HA HF hmn
      go_wp2_with fail
      refine (names_st A5.out.disk F5.out (by omega) (by omega) rfl).mono ?_
      rintro e w6 ⟨v, rfl, ho, hb⟩
      obtain ⟨An, cn, rfl, hcn, _⟩ := own_slice ho
      have e6 : (cst 100 i n).now.length = n := firstN_len n
      have HRN : Hid (Rd w6 An (namesC (firstN n))) := Lib.hid (own_rd ho)
      have A6 := Lib.hid (A5.out.then hb)
      rw [e6]
      clear ho hb hcn e6
      have z2 : ((n : Int) != (n : Int)) = false := by simp
      
      go_wp2_with fail
      go_loopg [68] (n * 1) (fun gk_ iv wr => ∃ (j : Nat), j ≤ n ∧ gk_ = n - j ∧ iv = .int .i64 (j : Int) ∧ Hid (Below w6.heap.size w6 wr))
      case atStart => exact ⟨0, by omega, by omega, rfl, Lib.hid (Below.refl _ _)⟩
      case round =>
      obtain ⟨j, hj, rfl, rfl, HBW⟩ := hrel
      by_cases hjn : j < n
      · have i2 : (j : Int) < (n : Int) := by omega
        have hrd := HRN.out.below HBW.out
        obtain ⟨b, o, hAn, hcell⟩ := hrd j _ (firstN_at hjn)
        obtain ⟨x, hx⟩ : ∃ x : UInt8, UInt8.ofNat (97 + j) = x := ⟨_, rfl⟩
        have hw8 := u8_wrap (i := j) (by omega)
        rw [hx] at hw8 hcell
        have hst := str_one wr x
        have hne : ∀ w, (binOp .neq 9 (.string ⟨#[x]⟩) (.string ⟨#[x]⟩)).run Try.prog w = .ok (.bool false) w := fun w => by rw [bin_strne Try.underlying9, decide_eq_true rfl]; rfl
        have HAN := Lib.hid hAn
        rw [hAn]
        clear hrd hAn hx
        go_wp2_with fail
        rw [← HAN.out]
        go_roundg (n - (j + 1))
        case measure => omega
        case rel => exact ⟨j + 1, by omega, rfl, by first | rfl | exact congrArg (Value.int .i64) (by omega) | go_num, Lib.hid (HBW.out.alloc (by have := HBW.out.size; omega) _)⟩
      · obtain rfl : j = n := by omega
        have A7 := Lib.hid (A6.out.then HBW.out)
        go_wp2_with fail
        refine (crash_st (keep := []) (Ak := none) A7.out.disk F5.out (by omega) (by omega) rfl (Nat.le_refl _) (Nat.zero_le _) Rd.nil (fun a ha => by cases ha) (cst_crash hni hc turns)).mono ?_
        rintro e w8 ⟨rfl, d8, ha, hf⟩
        have A8 := Lib.hid (A7.out.trans ha)
        have F8 := Lib.hid hf
        clear ha hf
        go_wp2_with fail
        refine (names_st A8.out.disk F8.out (by omega) (by omega) rfl).mono ?_
        rintro e w9 ⟨v, rfl, ho, hb⟩
        obtain ⟨An', cn', rfl, hcn, _⟩ := own_slice ho
        have e6 : (cst 100 i j).now.length = j := firstN_len j
        have A9 := Lib.hid (A8.out.then hb)
        rw [e6]
        clear ho hb hcn e6
        have z3 : ((j : Int) == (j : Int)) = true := by simp
        go_wp2_with fail
        go_ret
        exact ⟨rfl, B0.out.trans (A9.out.bel A0.out.disk B0.out.size)⟩
    · have i2 : (i : Int) < (u : Int) := by omega
      have hsu : s = 0 := by rw [hs]; rw [if_neg (by omega)]
      clear hs hi
      subst hsu
      obtain ⟨k, hk⟩ : ∃ k : Nat, min (max turns 0) ((i - 0 : Nat) : Int) = (k : Int) := ⟨(min (max turns 0) ((i - 0 : Nat) : Int)).toNat, by omega⟩
      have HCR := Lib.hid (tst_crash hsi hc turns hk)
      obtain ⟨n, hn⟩ : ∃ n, 0 + k = n := ⟨_, rfl⟩
      rw [hn] at HCR
      have hni : n ≤ i := by omega
      have hmn : ∀ w : World, (Builtin.min_ #[3, 3] 3 #[.int .i64 (max turns 0), .int .i64 (i : Int)]).run Try.prog w = .ok (.int .i64 (k : Int)) w := fun w => by rw [run_min2c]; exact congrArg (fun x => Result.ok (Value.int .i64 x) w) (by omega)
      have hkn : n = k := by omega
      clear hn
      have hn : True := trivial
      subst hkn
      have hw2 : IntKind.i64.wrap (n : Int) = (n : Int) := by rw [IntKind.wrap_i64]; omega
      have hw1 : IntKind.i64.wrap (i : Int) = (i : Int) := by rw [IntKind.wrap_i64]; omega
      have HK := Lib.hid hk
      clear hn hk
      go_wp2_with fail
      refine (crash_st (keep := []) (Ak := none) HA.out.disk HF.out (by omega) (by omega) rfl (Nat.le_refl _) (Nat.zero_le _) Rd.nil (fun a ha => by cases ha) HCR.out).mono ?_
      rintro e w5 ⟨rfl, d5, ha, hf⟩
      have A5 := Lib.hid (HA.out.trans ha)
      have F5 := Lib.hid hf
      clear ha hf HA HF hmn
      go_wp2_with fail
      refine (names_st A5.out.disk F5.out (by omega) (by omega) rfl).mono ?_
      rintro e w6 ⟨v, rfl, ho, hb⟩
      obtain ⟨An, cn, rfl, hcn, _⟩ := own_slice ho
      have e6 : (cst 100 i n).now.length = n := firstN_len n
      have HRN : Hid (Rd w6 An (namesC (firstN n))) := Lib.hid (own_rd ho)
      have A6 := Lib.hid (A5.out.then hb)
      rw [e6]
      clear ho hb hcn e6
      have z2 : ((n : Int) != (n : Int)) = false := by simp
      
      go_wp2_with fail
      go_loopg [68] (n * 1) (fun gk_ iv wr => ∃ (j : Nat), j ≤ n ∧ gk_ = n - j ∧ iv = .int .i64 (j : Int) ∧ Hid (Below w6.heap.size w6 wr))
      case atStart => exact ⟨0, by omega, by omega, rfl, Lib.hid (Below.refl _ _)⟩
      case round =>
      obtain ⟨j, hj, rfl, rfl, HBW⟩ := hrel
      by_cases hjn : j < n
      · have i2 : (j : Int) < (n : Int) := by omega
        have hrd := HRN.out.below HBW.out
        obtain ⟨b, o, hAn, hcell⟩ := hrd j _ (firstN_at hjn)
        obtain ⟨x, hx⟩ : ∃ x : UInt8, UInt8.ofNat (97 + j) = x := ⟨_, rfl⟩
        have hw8 := u8_wrap (i := j) (by omega)
        rw [hx] at hw8 hcell
        have hst := str_one wr x
        have hne : ∀ w, (binOp .neq 9 (.string ⟨#[x]⟩) (.string ⟨#[x]⟩)).run Try.prog w = .ok (.bool false) w := fun w => by rw [bin_strne Try.underlying9, decide_eq_true rfl]; rfl
        have HAN := Lib.hid hAn
        rw [hAn]
        clear hrd hAn hx
        go_wp2_with fail
        rw [← HAN.out]
        go_roundg (n - (j + 1))
        case measure => omega
        case rel => exact ⟨j + 1, by omega, rfl, by first | rfl | exact congrArg (Value.int .i64) (by omega) | go_num, Lib.hid (HBW.out.alloc (by have := HBW.out.size; omega) _)⟩
      · obtain rfl : j = n := by omega
        have A7 := Lib.hid (A6.out.then HBW.out)
        go_wp2_with fail
        refine (crash_st (keep := []) (Ak := none) A7.out.disk F5.out (by omega) (by omega) rfl (Nat.le_refl _) (Nat.zero_le _) Rd.nil (fun a ha => by cases ha) (cst_crash hni hc turns)).mono ?_
        rintro e w8 ⟨rfl, d8, ha, hf⟩
        have A8 := Lib.hid (A7.out.trans ha)
        have F8 := Lib.hid hf
        clear ha hf
        go_wp2_with fail
        refine (names_st A8.out.disk F8.out (by omega) (by omega) rfl).mono ?_
        rintro e w9 ⟨v, rfl, ho, hb⟩
        obtain ⟨An', cn', rfl, hcn, _⟩ := own_slice ho
        have e6 : (cst 100 i j).now.length = j := firstN_len j
        have A9 := Lib.hid (A8.out.then hb)
        rw [e6]
        clear ho hb hcn e6
        have z3 : ((j : Int) == (j : Int)) = true := by simp
        go_wp2_with fail
        go_ret
        exact ⟨rfl, B0.out.trans (A9.out.bel A0.out.disk B0.out.size)⟩
end Go.Proofs.Ytpmifpblamjclaa
