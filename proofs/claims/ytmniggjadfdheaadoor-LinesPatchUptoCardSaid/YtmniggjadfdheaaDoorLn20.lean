
/- LinesDiff's walk. -/

import Derived.Test.YtmniggjadfdheaaDoorLn19

namespace Go.Proofs.YtmniggjadfdheaaDoor

set_option linter.unusedVariables false

set_option linter.unusedSimpArgs false

set_option linter.unusedSectionVars false

open Go.RowKit

set_option maxRecDepth 100000 in
set_option maxHeartbeats 8000000 in
theorem linesDiff_any (A B : Option Addr) (a b : List ByteArray) (c c' : Nat) (w : World) (ha : Rd w A (sts a)) (hb : Rd w B (sts b)) (hac : a.length ≤ c) (hcm : c ≤ maxLen) (hbc : b.length ≤ c') (hcm' : c' ≤ maxLen) :
    Calls Tryd.prog 3 #[.slice A a.length c, .slice B b.length c'] w fun e w' => e = .returned (.bool true) ∧ Below w.heap.size w w' := by
  have HA := Lib.hid ha
  have HB := Lib.hid hb
  have HC := Lib.hid (And.intro hac (And.intro hcm (And.intro hbc hcm')))
  obtain ⟨n, hn⟩ : ∃ n, a.length = n := ⟨_, rfl⟩
  obtain ⟨m, hm⟩ : ∃ m, b.length = m := ⟨_, rfl⟩
  have HN := Lib.hid hn
  have HM := Lib.hid hm
  rw [hn, hm]
  have hmx : n ≤ 9223372036854775807 ∧ m ≤ 9223372036854775807 := by
    unfold maxLen at hcm hcm'; omega
  obtain ⟨hmn, hmm⟩ := hmx
  clear ha hb hac hcm hbc hcm' hn hm
  by_cases h1 : 60 < n
  · have i1 : (60 : Int) < (n : Int) := by omega
    go_enter Tryd.func3, Tryd.ntmps3
    go_wp2_with (refine (alive_any _).mono ?_; rintro e w1 ⟨rfl, hb1⟩)
    go_ret
    exact ⟨rfl, hb1⟩
  have j1 : ¬ ((60 : Int) < (n : Int)) := by omega
  by_cases h2 : 60 < m
  · have i1 : (60 : Int) < (m : Int) := by omega
    go_enter Tryd.func3, Tryd.ntmps3
    go_wp2_with (refine (alive_any _).mono ?_; rintro e w1 ⟨rfl, hb1⟩)
    go_ret
    exact ⟨rfl, hb1⟩
  have j2 : ¬ ((60 : Int) < (m : Int)) := by omega
  have HSM : Hid (n ≤ 60 ∧ m ≤ 60) := Lib.hid (by omega)
  clear h1 h2
  have LA : Hid (a.length ≤ 1000) := Lib.hid (by rw [HN.out]; have := HSM.out; omega)
  have LB : Hid (b.length ≤ 1000) := Lib.hid (by rw [HM.out]; have := HSM.out; omega)
  have LN : Hid (([] : List ByteArray).length ≤ 1000) := Lib.hid (by decide)
  have LA1 : Hid (a.length ≤ 9223372036854775807 ∧ b.length ≤ 9223372036854775807) := Lib.hid (by have h1 := LA.out; have h2 := LB.out; omega)
  have HD1 := Lib.hid (diffS_ok a b)
  have HL1 := Lib.hid (diff_len a b)
  have HPO : Hid (patchP a (diffS a b) = (b, 0)) := Lib.hid (by
    obtain ⟨h1, h2, _, h4, _⟩ := diffS_ok a b
    rw [patchP_ok h4 h1, h2])
  obtain ⟨s1, hs1⟩ : ∃ s, diffS a b = s := ⟨_, rfl⟩
  obtain ⟨L, hL⟩ : ∃ L, levL a b = L := ⟨_, rfl⟩
  rw [hs1] at HD1 HL1 HPO
  rw [hL] at HD1
  have M1 : Hid (s1.length ≤ 1000000) := Lib.hid (by have := HL1.out; have := HSM.out; have := HN.out; have := HM.out; omega)
  have D1 : Hid (∀ (A' B' : Option Addr) (c c' : Nat) w', Rd w' A' (sts a) → Rd w' B' (sts b) → Calls Tryd.prog 10 #[.slice A' n c, .slice B' m c'] w' fun e w'' => ∃ A' c', EdOut w' w'' e s1 A' c') := Lib.hid (fun A' B' c c' w' h1 h2 => by
    have := diff_c A' B' a b c c' w' h1 h2 LA.out LB.out
    rw [HN.out, HM.out, hs1] at this; exact this)
  have DL : Hid (∀ w', Below w.heap.size w w' → Calls Tryd.prog 14 #[.slice A n c, .slice B m c'] w' fun e w'' => e = .returned (.int .i64 (L : Int)) ∧ Below w'.heap.size w' w'') := Lib.hid (fun w' h => by
    have := least_any A B a b c c' w' (HA.out.below h) (HB.out.below h) LA.out LB.out
    rw [HN.out, HM.out, hL] at this; exact this)
  have DP : Hid (∀ (A' : Option Addr) (cc : Nat) w', Below w.heap.size w w' → Rd w' A' (edc s1) → Calls Tryd.prog 11 #[.slice A n c, .slice A' s1.length cc] w' fun e w'' => PatOut w' w'' e (b, 0)) := Lib.hid (fun A' cc w' h hr => by
    have := patch_any A A' a s1 c cc w' (HA.out.below h) hr HC.out.1 HC.out.2.1 M1.out
    rw [HN.out, HPO.out] at this; exact this)
  have DT : Hid (∀ (A' : Option Addr) (cc : Nat) w', Below w.heap.size w w' → Rd w' A' (sts b) → Calls Tryd.prog 12 #[.slice A' m cc, .slice B m c'] w' fun e w'' => e = .returned (.bool true) ∧ Below w'.heap.size w' w'') := Lib.hid (fun A' cc w' h hr => by
    have := texts_any A' B b b cc c' w' hr (HB.out.below h) LA1.out.2 LA1.out.2
    rw [HM.out, decide_eq_true rfl] at this; exact this)
  have DTa : Hid (∀ (A' : Option Addr) (cc : Nat) w', Below w.heap.size w w' → Rd w' A' (sts a) → Calls Tryd.prog 12 #[.slice A n c, .slice A' n cc] w' fun e w'' => e = .returned (.bool true) ∧ Below w'.heap.size w' w'') := Lib.hid (fun A' cc w' h hr => by
    have := texts_any A A' a a c cc w' (HA.out.below h) hr LA1.out.1 LA1.out.1
    rw [HN.out, decide_eq_true rfl] at this; exact this)
  have DTb : Hid (∀ (A' : Option Addr) (cc : Nat) w', Below w.heap.size w w' → Rd w' A' (sts b) → Calls Tryd.prog 12 #[.slice B m c', .slice A' m cc] w' fun e w'' => e = .returned (.bool true) ∧ Below w'.heap.size w' w'') := Lib.hid (fun A' cc w' h hr => by
    have := texts_any B A' b b c' cc w' (HB.out.below h) hr LA1.out.2 LA1.out.2
    rw [HM.out, decide_eq_true rfl] at this; exact this)
  clear hs1 hL
  have hsn : n ≤ 60 := HSM.out.1
  have hsm : m ≤ 60 := HSM.out.2
  go_enter Tryd.func3, Tryd.ntmps3
  go_wp2_with fail
  refine (alive_any _).mono ?_
  rintro e w1 ⟨rfl, hb1⟩
  have B1 := Lib.hid hb1
  clear hb1
  obtain ⟨W6, hW6⟩ : ∃ W, w1.alloc (.cells #[] 9) = W := ⟨_, rfl⟩
  obtain ⟨r6, b6, s6⟩ := new_row hW6
  have HO6 : Hid (W6.ownsRow w1.heap.size 9 1 (.slice (some ⟨w1.heap.size, 0, none⟩) 0 0) 0 []) := Lib.hid (by
    rw [← hW6]; exact own_new w1 w1.heap.size 9 1 0 [] (Nat.le_refl _) rfl (by decide))
  have HBX : Hid (Below w1.heap.size w1 W6) := Lib.hid b6
  have HR6 : Hid (Rd W6 A (sts a)) := Lib.hid (HA.out.below (ext_trans B1.out b6))
  have HBA := Lib.hid HBX.out.size
  have HLA : Hid ((sts a).length = n * 1) := Lib.hid (by rw [sts_len, HN.out, Nat.mul_one])
  have HLB : Hid ((sts b).length = m * 1) := Lib.hid (by rw [sts_len, HM.out, Nat.mul_one])
  clear r6 b6 s6
  go_wp2_with (first
    | (at_builtin; refine wpList_append_rd _ rfl _ _ 22 rfl w1.heap.size 9 _ 1 16 Tryd.underlying22 info_str rfl (by decide) (.slice (some ⟨w1.heap.size, 0, none⟩) 0 0) 0 _ rfl HO6.out A n c (sts a) rfl HLA.out HR6.out (sts_one _) (by unfold maxLen; omega) (by omega) HBA.out ?_; intro v7 w7 ho7 hg7 hvb7; (simp only [Nat.zero_add, List.nil_append] at ho7); obtain ⟨A7, c7, e7, _⟩ := own_slice ho7; subst e7; have HB7 := Lib.hid (bel_own HBX.out rfl HO6.out hg7); have HX7 := Lib.hid (own_rd ho7); obtain ⟨W8, hW8⟩ : ∃ W, w7.alloc (.cells #[] 9) = W := ⟨_, rfl⟩; obtain ⟨r8, b8, s8⟩ := new_row hW8; have HO8 : Hid (W8.ownsRow w7.heap.size 9 1 (.slice (some ⟨w7.heap.size, 0, none⟩) 0 0) 0 []) := Lib.hid (by rw [← hW8]; exact own_new w7 w7.heap.size 9 1 0 [] (Nat.le_refl _) rfl (by decide)); have HBX8 := Lib.hid b8; have HR8 : Hid (Rd W8 B (sts b)) := Lib.hid (HB.out.below (ext_trans B1.out (ext_trans HB7.out b8))); have HBA8 := Lib.hid HBX8.out.size; clear ho7 hg7 hvb7 r8 b8 s8)
    | (at_builtin; refine wpList_append_rd _ rfl _ _ 22 rfl w7.heap.size 9 _ 1 16 Tryd.underlying22 info_str rfl (by decide) (.slice (some ⟨w7.heap.size, 0, none⟩) 0 0) 0 _ rfl HO8.out B m c' (sts b) rfl HLB.out HR8.out (sts_one _) (by unfold maxLen; omega) (by omega) HBA8.out ?_; intro v9 w9 ho9 hg9 hvb9; (simp only [Nat.zero_add, List.nil_append] at ho9); obtain ⟨A9, c9, e9, _⟩ := own_slice ho9; subst e9; have HB9 := Lib.hid (bel_own HBX8.out rfl HO8.out hg9); have HX9 := Lib.hid (HX7.out.below HB9.out); have HY9 := Lib.hid (own_rd ho9); clear ho9 hg9 hvb9))
  clear hW6 hW8
  have G9 : Hid (Below w.heap.size w w9) := Lib.hid (ext_trans B1.out (ext_trans HB7.out HB9.out))
  refine (D1.out A B c c' w9 (HA.out.below G9.out) (HB.out.below G9.out)).mono ?_
  rintro e w2 ⟨A2, c2, h2⟩
  obtain ⟨rfl, r2, k2, n2, b2⟩ := h2
  have R2 := Lib.hid r2
  have X2 := Lib.hid (HX9.out.below b2)
  have Y2 := Lib.hid (HY9.out.below b2)
  have B2 : Hid (Below w.heap.size w w2) := Lib.hid (ext_trans G9.out b2)
  clear r2 k2 n2 b2
  go_wp2_with fail
  refine (DP.out A2 c2 w2 B2.out R2.out).mono ?_
  rintro e w4 ⟨A4, n4, c4, rfl, hn4, hnc4, hc4, hr4, hb4⟩
  replace hn4 : n4 = m := hn4.trans HM.out
  rw [hn4]
  have P4 : Hid (Rd w4 A4 (sts b)) := Lib.hid hr4
  have R4 := Lib.hid (R2.out.below hb4)
  have X4 := Lib.hid (X2.out.below hb4)
  have Y4 := Lib.hid (Y2.out.below hb4)
  have B4 : Hid (Below w.heap.size w w4) := Lib.hid (ext_trans B2.out hb4)
  clear hnc4 hc4 hr4 hb4 hn4
  go_wp2_with fail
  refine (DT.out A4 c4 w4 B4.out P4.out).mono ?_
  rintro e w5 ⟨rfl, hb5⟩
  have R5 := Lib.hid (R4.out.below hb5)
  have X5 := Lib.hid (X4.out.below hb5)
  have Y5 := Lib.hid (Y4.out.below hb5)
  have B5 : Hid (Below w.heap.size w w5) := Lib.hid (ext_trans B4.out hb5)
  clear hb5
  go_wp2_with fail
  refine (cost_any A2 s1 c2 w5 R5.out M1.out).mono ?_
  rintro e w6 ⟨rfl, hb6⟩
  rw [HD1.out.2.2.1]
  have R6 := Lib.hid (R5.out.below hb6)
  have X6 := Lib.hid (X5.out.below hb6)
  have Y6 := Lib.hid (Y5.out.below hb6)
  have B6 : Hid (Below w.heap.size w w6) := Lib.hid (ext_trans B5.out hb6)
  clear hb6
  go_wp2_with fail
  refine (DL.out w6 B6.out).mono ?_
  rintro e w10 ⟨rfl, hb10⟩
  have R10 := Lib.hid (R6.out.below hb10)
  have X10 := Lib.hid (X6.out.below hb10)
  have Y10 := Lib.hid (Y6.out.below hb10)
  have B10 : Hid (Below w.heap.size w w10) := Lib.hid (ext_trans B6.out hb10)
  clear hb10
  go_wp2_with fail
  refine (D1.out A7 A9 c7 c9 w10 X10.out Y10.out).mono ?_
  rintro e w11 ⟨A11, c11, h11⟩
  obtain ⟨rfl, r11, k11, n11, b11⟩ := h11
  have Q11 := Lib.hid r11
  have R11 := Lib.hid (R10.out.below b11)
  have X11 := Lib.hid (X10.out.below b11)
  have Y11 := Lib.hid (Y10.out.below b11)
  have B11 : Hid (Below w.heap.size w w11) := Lib.hid (ext_trans B10.out b11)
  clear r11 k11 n11 b11
  go_wp2_with fail
  refine (as_any A2 s1 c2 w11 R11.out M1.out).mono ?_
  rintro e w12 ⟨A12, c12, rfl, r12, b12⟩
  have S12 := Lib.hid r12
  have Q12 := Lib.hid (Q11.out.below b12)
  have R12 := Lib.hid (R11.out.below b12)
  have X12 := Lib.hid (X11.out.below b12)
  have Y12 := Lib.hid (Y11.out.below b12)
  have B12 : Hid (Below w.heap.size w w12) := Lib.hid (ext_trans B11.out b12)
  clear r12 b12
  go_wp2_with fail
  refine (sameS_any A11 A12 s1 c11 c12 w12 Q12.out S12.out M1.out).mono ?_
  rintro e w13 ⟨rfl, hb13⟩
  have R13 := Lib.hid (R12.out.below hb13)
  have X13 := Lib.hid (X12.out.below hb13)
  have Y13 := Lib.hid (Y12.out.below hb13)
  have B13 : Hid (Below w.heap.size w w13) := Lib.hid (ext_trans B12.out hb13)
  clear hb13
  obtain ⟨q, hq⟩ : ∃ q, s1.length = q := ⟨_, rfl⟩
  have HQ := Lib.hid hq
  have hqm : q ≤ 1000000 := by rw [← hq]; exact M1.out
  rw [hq]
  clear hq
  go_wp2_with fail
  go_loopg [63] (q * 1) (fun gk_ i wr => ∃ (k : Nat), k ≤ q ∧ gk_ = q - k ∧ i = .int .i64 (k : Int) ∧ Hid (Below w13.heap.size w13 wr))
  case atStart => exact ⟨0, by omega, by omega, rfl, Lib.hid (Below.refl _ _)⟩
  case round =>
  obtain ⟨k, hk, rfl, rfl, HBW⟩ := hrel
  by_cases hlt : k < q
  · have x1 : (k : Int) < (q : Int) := by omega
    have hlt' : k < s1.length := by rw [HQ.out]; exact hlt
    have hrd := R13.out.below HBW.out
    obtain ⟨b_, off, hA, _⟩ := hrd.all (by rw [edc_len]; omega)
    rw [hA] at hrd
    have HAA := Lib.hid hA
    clear hA
    have a0 : wr.cell? ⟨b_, off + k * 2, none⟩ = some (.int .i64 s1[k].kind) := rd_ed hrd k hlt' 0 _ rfl
    by_cases hk0 : k = 0
    · subst hk0
      clear hrd a0 hlt'
      rw [HAA.out]
      go_wp2_with fail
      rw [← HAA.out]
      go_roundg (q - (0 + 1))
      case measure => omega
      case rel => exact ⟨0 + 1, by omega, rfl, by first | rfl | exact congrArg (Value.int .i64) (by omega) | go_num, Lib.hid HBW.out⟩
    · obtain ⟨j, rfl⟩ : ∃ j, k = j + 1 := ⟨k - 1, by omega⟩
      have hlj : j < s1.length := by omega
      have a1 : wr.cell? ⟨b_, off + j * 2, none⟩ = some (.int .i64 s1[j].kind) := rd_ed hrd j hlj 0 _ rfl
      have hna := HD1.out.2.2.2.2 j _ _ (List.getElem?_eq_getElem hlj) (List.getElem?_eq_getElem hlt')
      obtain ⟨kd, he⟩ : ∃ e, s1[j + 1].kind = e := ⟨_, rfl⟩
      obtain ⟨kj, hj⟩ : ∃ e, s1[j].kind = e := ⟨_, rfl⟩
      rw [he] at a0 hna
      rw [hj] at a1 hna
      have y1 : (0 : Int) < (j : Int) + 1 := by omega
      have y2 : (j : Int) + 1 < (q : Int) := by omega
      have y3 : (j : Int) < (q : Int) := by omega
      have hw1 : IntKind.i64.wrap (j : Int) = (j : Int) := by rw [IntKind.wrap_i64]; omega
      clear hrd he hj hlj hlt' hk0
      rw [HAA.out]
      by_cases hk2 : kj = 2
      · have z1 : (kj == 2) = true := by rw [beq_iff_eq]; exact hk2
        have z2 : (kd == 1) = false := by rw [beq_eq_false_iff_ne]; exact hna hk2
        clear hna hk2
        go_wp2_with fail
        rw [← HAA.out]
        clear a0 a1 z1 z2
        go_roundg (q - (j + 1 + 1))
        case measure => omega
        case rel => exact ⟨j + 1 + 1, by omega, rfl, by first | rfl | exact congrArg (Value.int .i64) (by omega) | go_num, Lib.hid HBW.out⟩
      · have z1 : (kj == 2) = false := by rw [beq_eq_false_iff_ne]; exact hk2
        clear hna hk2
        go_wp2_with fail
        rw [← HAA.out]
        clear a0 a1 z1
        go_roundg (q - (j + 1 + 1))
        case measure => omega
        case rel => exact ⟨j + 1 + 1, by omega, rfl, by first | rfl | exact congrArg (Value.int .i64) (by omega) | go_num, Lib.hid HBW.out⟩
  · obtain rfl : k = q := by omega
    clear hlt hk
    have X14 := Lib.hid (X13.out.below HBW.out)
    have Y14 := Lib.hid (Y13.out.below HBW.out)
    have B14 : Hid (Below w.heap.size w wr) := Lib.hid (ext_trans B13.out HBW.out)
    go_wp2_with fail
    refine (DTa.out A7 c7 wr B14.out X14.out).mono ?_
    rintro e w15 ⟨rfl, hb15⟩
    have Y15 := Lib.hid (Y14.out.below hb15)
    have B15 : Hid (Below w.heap.size w w15) := Lib.hid (ext_trans B14.out hb15)
    clear hb15
    go_wp2_with fail
    refine (DTb.out A9 c9 w15 B15.out Y15.out).mono ?_
    rintro e w16 ⟨rfl, hb16⟩
    have B16 : Hid (Below w.heap.size w w16) := Lib.hid (ext_trans B15.out hb16)
    clear hb16
    go_wp2_with fail
    go_ret
    exact ⟨rfl, B16.out⟩
end Go.Proofs.YtmniggjadfdheaaDoor
