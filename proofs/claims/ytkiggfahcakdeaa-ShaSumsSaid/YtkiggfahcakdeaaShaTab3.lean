
/- What the document's above, root and Tables make. -/

import Derived.Test.YtkiggfahcakdeaaShaTab2

namespace Go.Proofs.Ytkiggfahcakdeaa

set_option linter.unusedVariables false

set_option linter.unusedSimpArgs false

open Go.RowKit

theorem words_n (x : Nat) (hx : x < 18446744073709551616) (w : World) : Calls Try.prog 57 #[.int .u64 (x : Int)] w fun e w' => ∃ A n c, e = .returned (.slice A n c) ∧ n = 4 ∧ Hid (Rd w' A (cellsI .u64 (digs 4 x))) ∧ Below w.heap.size w w' := by
  refine (words_any x hx w).mono ?_
  rintro e w' ⟨v, rfl, h⟩
  obtain ⟨A, n, c, rfl, hn, _, _, hr⟩ := h.slice
  rw [digs_len] at hn
  exact ⟨A, n, c, rfl, hn, Lib.hid hr, h.bel⟩
theorem mul_n (A B : Option Addr) (a b : List Nat) (na nb ca cb : Nat) (w : World) (hA : Rd w A (cellsI .u64 a)) (hB : Rd w B (cellsI .u64 b)) (hna : na = a.length) (hnb : nb = b.length) (hla : a.length ≤ 100) (hlb : b.length ≤ 100)
    (da : ∀ d ∈ a, d < 65536) (db : ∀ d ∈ b, d < 65536) :
    Calls Try.prog 58 #[.slice A na ca, .slice B nb cb] w fun e w' => ∃ A' n c l, e = .returned (.slice A' n c) ∧ n = na + nb ∧ Hid (l.length = na + nb) ∧ Hid (∀ d ∈ l, d < 65536) ∧ Hid (valU l = valU a * valU b) ∧ Hid (Rd w' A' (cellsI .u64 l)) ∧ Below w.heap.size w w' := by
  refine (mul_any A B a b na nb ca cb w hA hB hna hnb hla hlb da db).mono ?_
  rintro e w' ⟨v, l, rfl, h, hd, hv⟩
  obtain ⟨A', n, c, rfl, hn, _, _, hr⟩ := h.slice
  refine ⟨A', n, c, l, rfl, by rw [hn, hd.1, hna, hnb], Lib.hid (by rw [hd.1, hna, hnb]), Lib.hid (fun d hdl => ?_), Lib.hid hv, Lib.hid hr, h.bel⟩
  obtain ⟨j, hj, rfl⟩ := List.getElem_of_mem hdl
  exact hd.2.1 j hj

def aboveB (x n p : Nat) : Bool := decide (p * 65536 ^ (2 * n) < x ^ n)
theorem valU_drop (l : List Nat) (j : Nat) (h : j < l.length) : valU (l.drop j) = l[j] + 65536 * valU (l.drop (j + 1)) := by
  rw [List.drop_eq_getElem_cons h]; rfl
theorem valU_split (l : List Nat) (m : Nat) (h : m ≤ l.length) : valU l = valU (l.take m) + 65536 ^ m * valU (l.drop m) := by
  have := valU_append (l.take m) (l.drop m)
  rw [List.take_append_drop, List.length_take, Nat.min_eq_left h] at this
  exact this
theorem valU_lt (l : List Nat) (h : ∀ d ∈ l, d < 65536) : valU l < 65536 ^ l.length := by
  induction l with
  | nil => simp [valU]
  | cons d l ih =>
    have h1 := ih fun x hx => h x (by simp [hx])
    have h2 := h d (by simp)
    simp only [valU, List.length_cons, Nat.pow_succ]
    have : 65536 ^ l.length * 65536 = 65536 * 65536 ^ l.length := Nat.mul_comm _ _
    rw [this]
    have := Nat.mul_le_mul_left 65536 (show valU l + 1 ≤ 65536 ^ l.length from h1)
    omega
theorem valU_mono (l : List Nat) (i j : Nat) (h : i ≤ j) : valU (l.drop j) ≤ valU (l.drop i) := by
  induction j with
  | zero => rw [show i = 0 by omega]; exact Nat.le_refl _
  | succ j ih =>
    by_cases e : i = j + 1
    · rw [e]; exact Nat.le_refl _
    · refine Nat.le_trans ?_ (ih (by omega))
      by_cases hj : j < l.length
      · rw [valU_drop l j hj]; omega
      · rw [List.drop_of_length_le (by omega), List.drop_of_length_le (by omega)]; exact Nat.le_refl _
theorem above_end (l : List Nat) (x n p m : Nat) (hm : m = 2 * n) (hl : m ≤ l.length) (hd : ∀ d ∈ l, d < 65536) (hv : valU l = x ^ n) :
    aboveB x n p = (decide (p < valU (l.drop m)) || (decide (valU (l.drop m) = p) && decide (valU (l.take m) ≠ 0))) := by
  subst hm
  have h1 := valU_split l (2 * n) hl
  have h2 := valU_lt (l.take (2 * n)) fun d h => hd d (List.mem_of_mem_take h)
  rw [List.length_take, Nat.min_eq_left hl] at h2
  unfold aboveB
  rw [← hv, h1, Bool.eq_iff_iff]
  simp only [decide_eq_true_eq, Bool.or_eq_true, Bool.and_eq_true]
  generalize 65536 ^ (2 * n) = P at *
  generalize valU (l.take (2 * n)) = r at *
  generalize valU (l.drop (2 * n)) = q at *
  constructor
  · intro h
    rcases Nat.lt_trichotomy p q with h3 | h3 | h3
    · exact .inl h3
    · subst h3; rw [Nat.mul_comm] at h; exact .inr ⟨rfl, by omega⟩
    · exfalso
      have : P * (q + 1) ≤ P * p := Nat.mul_le_mul_left P h3
      rw [Nat.mul_comm p P, Nat.mul_add, Nat.mul_one] at *
      omega
  · rintro (h | ⟨rfl, h⟩)
    · have : P * (p + 1) ≤ P * q := Nat.mul_le_mul_left P h
      rw [Nat.mul_comm p P]
      rw [Nat.mul_add, Nat.mul_one] at this
      omega
    · rw [Nat.mul_comm]; omega

set_option maxRecDepth 100000 in
set_option maxHeartbeats 2000000 in
theorem above_any (x n p : Nat) (hx : x < 137438953472) (hn : n = 2 ∨ n = 3) (hp : p ≤ 1000) (w : World) :
    Calls Try.prog 48 #[.int .u64 (x : Int), .int .i64 (n : Int), .int .i64 (p : Int)] w fun e w' => e = .returned (.bool (aboveB x n p)) ∧ Below w.heap.size w w' := by
  have hxv : valU (digs 4 x) = x := by rw [digs_val]; exact Nat.mod_eq_of_lt (by omega)
  have hdd := digs_lt 4 x
  have HXV := Lib.hid hxv
  have HDD := Lib.hid hdd
  have hn2 : 2 ≤ n ∧ n ≤ 3 := by omega
  obtain ⟨hn2, hn3⟩ := hn2
  clear hxv hdd hn
  go_enter Try.func48, Try.ntmps48
  go_wp2_with fail
  refine (words_n x (by omega) w).mono ?_
  rintro e w1 ⟨A, m, c, rfl, hm, HR, hb1⟩
  have HL0 : Hid (m = (digs 4 x).length) := Lib.hid (by rw [digs_len]; exact hm)
  have HV0 : Hid (valU (digs 4 x) = x ^ 1) := Lib.hid (by rw [Nat.pow_one]; exact HXV.out)
  have hm1 : m = 4 * 1 := hm
  have HM1 := Lib.hid hm1
  clear hm hm1
  go_wp2_with fail
  go_loopg [7, 8] 5 (fun gk_ s7 s8 wr => ∃ (k : Nat) (A : Option Addr) (m c : Nat) (l : List Nat), 1 ≤ k ∧ k ≤ n ∧ gk_ = 6 - k ∧ s8 = .int .i64 (k : Int) ∧ s7 = .slice A m c ∧ Hid (m = 4 * k) ∧ Hid (m = l.length) ∧ Hid (∀ d ∈ l, d < 65536) ∧ Hid (valU l = x ^ k) ∧ Hid (Rd wr A (cellsI .u64 l)) ∧ Below w.heap.size w wr)
  case atStart => exact ⟨1, A, m, c, digs 4 x, by omega, by omega, by omega, rfl, rfl, HM1, HL0, HDD, HV0, HR, hb1⟩
  case round =>
    clear HM1 HL0 HV0 HR hb1
    obtain ⟨k, A, m, c, l, hk1, hk, rfl, rfl, rfl, HM, HL, HD, HV, HR, hbel⟩ := hrel
    by_cases hlt : k < n
    · have hkI : (k : Int) < (n : Int) := by omega
      go_wp2_with fail
      refine (words_n x (by omega) _).mono ?_
      rintro e w2 ⟨A2, m2, c2, rfl, hm2, HR2, hb2⟩
      have HR1 := Lib.hid (HR.out.below hb2)
      have HM2 := Lib.hid hm2
      have hb3 := ext_trans hbel hb2
      clear hm2 hb2 HR hbel
      go_wp2_with fail
      refine (mul_n A A2 l (digs 4 x) m m2 c c2 w2 HR1.out HR2.out HL.out (by rw [digs_len]; exact HM2.out) (by rw [← HL.out, HM.out]; omega) (by rw [digs_len]; omega) HD.out HDD.out).mono ?_
      rintro e w3 ⟨A3, m3, c3, l3, rfl, hm3, HL3, HD3, HV3, HR3, hb4⟩
      have HM3 : Hid (m3 = 4 * (k + 1)) := Lib.hid (by rw [hm3, HM.out, HM2.out]; omega)
      have HL3b : Hid (m3 = l3.length) := Lib.hid (by rw [hm3, HL3.out])
      have HV3b : Hid (valU l3 = x ^ (k + 1)) := Lib.hid (by rw [HV3.out, HV.out, HXV.out, Nat.pow_succ])
      have hb5 := ext_trans hb3 hb4
      clear hm3 hb3 hb4
      go_wp2_with fail
      go_roundg (6 - (k + 1))
      case measure => omega
      case rel => exact ⟨k + 1, A3, m3, c3, l3, by omega, by omega, rfl, by go_num, rfl, HM3, HL3b, HD3, HV3b, HR3, hb5⟩
    · obtain rfl : k = n := by omega
      have hm12 : m ≤ 12 := by have := HM.out; omega
      have hq : valU (l.drop (2 * k)) ≤ 65535 := by
        have h1 := valU_split l (2 * k) (by have := HL.out; have := HM.out; omega)
        have h2 : x ^ k < 65536 * 65536 ^ (2 * k) := by
          rcases (by omega : k = 2 ∨ k = 3) with rfl | rfl
          · have := Nat.pow_lt_pow_left hx (show (2 : Nat) ≠ 0 by decide)
            exact Nat.lt_of_lt_of_le this (by decide)
          · have := Nat.pow_lt_pow_left hx (show (3 : Nat) ≠ 0 by decide)
            exact Nat.lt_of_lt_of_le this (by decide)
        rw [← HV.out, h1] at h2
        generalize 65536 ^ (2 * k) = P at *
        generalize valU (l.drop (2 * k)) = q at *
        rcases Nat.lt_or_ge q 65536 with h | h
        · omega
        · have := Nat.mul_le_mul_left P h
          rw [Nat.mul_comm P 65536] at this
          omega
      have HQ := Lib.hid hq
      have hkI : ¬ (k : Int) < (k : Int) := by omega
      have e0 : IntKind.i64.wrap (2 * (k : Int)) = 2 * (k : Int) := wrap64_in _ (by omega) (by omega)
      obtain ⟨wq, rfl⟩ : ∃ wq : World, wq = wr := ⟨_, rfl⟩
      have HQ0 : Hid (valU (l.drop (max m (2 * k))) = 0) := Lib.hid (by rw [List.drop_of_length_le (by rw [← HL.out]; omega)]; rfl)
      have HR0 : Hid (decide (valU ((l.take (2 * k)).drop m) ≠ 0) = false) := Lib.hid (by
        rw [List.drop_of_length_le (by rw [List.length_take, ← HL.out]; omega)]; rfl)
      clear hq
      go_wp2_with fail
      go_loopg [9, 10, 11] m (fun gk_ s9 s10 s11 wr => ∃ (j q : Nat) (r : Bool), j ≤ m ∧ gk_ = j * 1 ∧ s11 = .int .i64 ((j : Int) - 1) ∧ s9 = .int .u64 (q : Int) ∧ Hid (q = valU (l.drop (max j (2 * k)))) ∧ q ≤ 65535 ∧ s10 = .bool r ∧ Hid (r = decide (valU ((l.take (2 * k)).drop j) ≠ 0)) ∧ wr = wq)
      case atStart => exact ⟨m, 0, false, by omega, by omega, rfl, rfl, Lib.hid HQ0.out.symm, by omega, rfl, Lib.hid HR0.out.symm, rfl⟩
      case round =>
        clear HQ0 HR0
        obtain ⟨j, q, r, hj, rfl, rfl, rfl, HQJ, hq, rfl, HRJ, rfl⟩ := hrel
        by_cases hj0 : j = 0
        · subst hj0
          have hend := above_end l x k p (2 * k) rfl (by rw [← HL.out, HM.out]; omega) HD.out HV.out
          have hqq := HQJ.out
          rw [show max 0 (2 * k) = 2 * k by omega] at hqq
          have hrr := HRJ.out
          rw [List.drop_zero] at hrr
          rw [← hqq, ← hrr] at hend
          have HEND := Lib.hid hend
          have hpI : IntKind.u64.wrap (p : Int) = (p : Int) := by simp [IntKind.wrap, IntKind.signed, IntKind.bits]; omega
          clear hend hqq hrr
          go_wp2_with fail
          all_goals
            go_ret
            refine ⟨ret_bool ?_, hbel⟩
            rw [HEND.out]
            by_cases hqp : q = p
            · have hqp2 : (q : Int) = (p : Int) := by omega
              first
                | exact absurd hqp2 ‹¬ (q : Int) = (p : Int)›
                | (simp [hqp]; done)
                | (exfalso; omega)
            · have hqp2 : ¬ (q : Int) = (p : Int) := by omega
              first
                | exact absurd ‹(q : Int) = (p : Int)› hqp2
                | (simp [hqp]; done)
                | (simp [hqp]; omega)
        · obtain ⟨i, rfl⟩ : ∃ i, j = i + 1 := ⟨j - 1, by omega⟩
          have hil : i < l.length := by rw [← HL.out]; omega
          obtain ⟨b, o, rfl, hcell⟩ := HR.out.nat i hil
          have hdi := HD.out _ (List.getElem_mem hil)
          have hdr := valU_drop l i hil
          obtain ⟨d, hd⟩ : ∃ d, l[i] = d := ⟨_, rfl⟩
          rw [hd] at hcell hdi hdr
          have hiI : (i : Int) < (m : Int) := by omega
          by_cases hge : 2 * k ≤ i
          · have hqn : q * 65536 + d = valU (l.drop (max i (2 * k))) := by
              rw [show max i (2 * k) = i by omega, hdr, HQJ.out, show max (i + 1) (2 * k) = i + 1 by omega]; omega
            have hqb : q * 65536 + d ≤ 65535 := by
              rw [hqn, show max i (2 * k) = i by omega]
              exact Nat.le_trans (valU_mono l (2 * k) i hge) HQ.out
            have hrn : r = decide (valU ((l.take (2 * k)).drop i) ≠ 0) := by
              rw [HRJ.out, List.drop_of_length_le (by rw [List.length_take]; omega), List.drop_of_length_le (by rw [List.length_take]; omega)]
            have HQN := Lib.hid hqn
            have HRN := Lib.hid hrn
            have hgeI : 2 * (k : Int) ≤ (i : Int) := by omega
            clear hqn hrn hdr hd
            go_wp2_with fail
            go_roundg (i * 1)
            case measure => omega
            case rel => exact ⟨i, q * 65536 + d, r, by omega, rfl, rfl, congrArg (Value.int .u64) (by omega), HQN, hqb, rfl, HRN, rfl⟩
          · have hqn : q = valU (l.drop (max i (2 * k))) := by
              rw [HQJ.out, show max i (2 * k) = 2 * k by omega, show max (i + 1) (2 * k) = 2 * k by omega]
            have hit : i < (l.take (2 * k)).length := by rw [List.length_take]; omega
            have hdt := valU_drop (l.take (2 * k)) i hit
            rw [List.getElem_take, hd] at hdt
            have HQN := Lib.hid hqn
            have hgeI : ¬ 2 * (k : Int) ≤ (i : Int) := by omega
            by_cases hd0 : d = 0
            · have hrn : r = decide (valU ((l.take (2 * k)).drop i) ≠ 0) := by
                rw [HRJ.out, hdt, hd0, decide_eq_decide]; omega
              have HRN := Lib.hid hrn
              have hz : ((d : Int) != 0) = false := by rw [bne_eq_false_iff_eq]; omega
              clear hqn hrn hdr hd hdt hd0
              go_wp2_with fail
              go_roundg (i * 1)
              case measure => omega
              case rel => exact ⟨i, q, r, by omega, rfl, rfl, rfl, HQN, hq, rfl, HRN, rfl⟩
            · have hrn : true = decide (valU ((l.take (2 * k)).drop i) ≠ 0) := by
                rw [hdt, eq_comm, decide_eq_true_eq]; omega
              have HRN := Lib.hid hrn
              have hz : ((d : Int) != 0) = true := by rw [bne_iff_ne]; omega
              clear hqn hrn hdr hd hdt hd0
              go_wp2_with fail
              go_roundg (i * 1)
              case measure => omega
              case rel => exact ⟨i, q, true, by omega, rfl, rfl, rfl, HQN, hq, rfl, HRN, rfl⟩
end Go.Proofs.Ytkiggfahcakdeaa
