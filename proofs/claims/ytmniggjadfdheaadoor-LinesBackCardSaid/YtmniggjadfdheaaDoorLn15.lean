
/- LinesBack's walk. -/

import Derived.Test.YtmniggjadfdheaaDoorLn14

namespace Go.Proofs.YtmniggjadfdheaaDoor

set_option linter.unusedVariables false

set_option linter.unusedSimpArgs false

set_option linter.unusedSectionVars false

open Go.RowKit

set_option maxRecDepth 100000 in
set_option maxHeartbeats 8000000 in
theorem linesBack_any (A B : Option Addr) (a b : List ByteArray) (c c' : Nat) (w : World) (ha : Rd w A (sts a)) (hb : Rd w B (sts b)) (hac : a.length ≤ c) (hcm : c ≤ maxLen) (hbc : b.length ≤ c') (hcm' : c' ≤ maxLen) :
    Calls Tryd.prog 5 #[.slice A a.length c, .slice B b.length c'] w fun e w' => e = .returned (.bool true) ∧ Below w.heap.size w w' := by
  have HA := Lib.hid ha
  have HB := Lib.hid hb
  have HC := Lib.hid (And.intro hac (And.intro hcm (And.intro hbc hcm')))
  obtain ⟨n, hn⟩ : ∃ n, a.length = n := ⟨_, rfl⟩
  obtain ⟨m, hm⟩ : ∃ m, b.length = m := ⟨_, rfl⟩
  have HN := Lib.hid hn
  have HM := Lib.hid hm
  rw [hn, hm]
  have hmx : n ≤ 9223372036854775807 ∧ m ≤ 9223372036854775807 := by
    unfold maxLen at hcm hcm'; omega
  obtain ⟨hmn, hmm⟩ := hmx
  clear ha hb hac hcm hbc hcm' hn hm
  by_cases h1 : 60 < n
  · have i1 : (60 : Int) < (n : Int) := by omega
    go_enter Tryd.func5, Tryd.ntmps5
    go_wp2_with (refine (alive_any _).mono ?_; rintro e w1 ⟨rfl, hb1⟩)
    go_ret
    exact ⟨rfl, hb1⟩
  have j1 : ¬ ((60 : Int) < (n : Int)) := by omega
  by_cases h2 : 60 < m
  · have i1 : (60 : Int) < (m : Int) := by omega
    go_enter Tryd.func5, Tryd.ntmps5
    go_wp2_with (refine (alive_any _).mono ?_; rintro e w1 ⟨rfl, hb1⟩)
    go_ret
    exact ⟨rfl, hb1⟩
  have j2 : ¬ ((60 : Int) < (m : Int)) := by omega
  have HSM : Hid (n ≤ 60 ∧ m ≤ 60) := Lib.hid (by omega)
  clear h1 h2
  have LA : Hid (a.length ≤ 1000) := Lib.hid (by rw [HN.out]; have := HSM.out; omega)
  have LB : Hid (b.length ≤ 1000) := Lib.hid (by rw [HM.out]; have := HSM.out; omega)
  have LN : Hid (([] : List ByteArray).length ≤ 1000) := Lib.hid (by decide)
  have HBK := Lib.hid (back_ok a b)
  have HD1 := Lib.hid (diffS_ok a b)
  have HD2 := Lib.hid (diffS_ok b a)
  have HL1 := Lib.hid (diff_len a b)
  have HL2 := Lib.hid (diff_len b a)
  have HL3 := Lib.hid (diff_len a a)
  have HL4 := Lib.hid (diff_len [] a)
  have HL5 := Lib.hid (diff_len a [])
  have HSW := Lib.hid (levL_swap b a)
  have HLE := Lib.hid (levL_le a b)
  have HSF := Lib.hid (diff_self a)
  have HC4 : Hid (costE (diffS [] a) = n) := Lib.hid (by rw [(diffS_ok [] a).2.2.1, levL_nil1, HN.out])
  have HC5 : Hid (costE (diffS a []) = n) := Lib.hid (by rw [(diffS_ok a []).2.2.1, levL_nil2, HN.out])
  obtain ⟨s1, hs1⟩ : ∃ s, diffS a b = s := ⟨_, rfl⟩
  obtain ⟨s2, hs2⟩ : ∃ s, diffS b a = s := ⟨_, rfl⟩
  obtain ⟨s3, hs3⟩ : ∃ s, diffS a a = s := ⟨_, rfl⟩
  obtain ⟨s4, hs4⟩ : ∃ s, diffS [] a = s := ⟨_, rfl⟩
  obtain ⟨s5, hs5⟩ : ∃ s, diffS a [] = s := ⟨_, rfl⟩
  obtain ⟨L, hL⟩ : ∃ L, levL a b = L := ⟨_, rfl⟩
  rw [hs1] at HBK HD1 HL1
  rw [hs2] at HD2 HL2
  rw [hs3] at HL3 HSF
  rw [hs4] at HC4 HL4
  rw [hs5] at HC5 HL5
  rw [hL] at HBK HD1 HLE HSW
  rw [HSW.out] at HD2
  have M1 : Hid (s1.length ≤ 1000000) := Lib.hid (by have := HL1.out; have := HSM.out; have := HN.out; have := HM.out; omega)
  have M2 : Hid (s2.length ≤ 1000000) := Lib.hid (by have := HL2.out; have := HSM.out; have := HN.out; have := HM.out; omega)
  have M3 : Hid (s3.length ≤ 1000000) := Lib.hid (by have := HL3.out; have := HSM.out; have := HN.out; have := HM.out; omega)
  have M4 : Hid (s4.length ≤ 1000000) := Lib.hid (by have := HL4.out; have := HSM.out; have := HN.out; simp at *; omega)
  have M5 : Hid (s5.length ≤ 1000000) := Lib.hid (by have := HL5.out; have := HSM.out; have := HN.out; simp at *; omega)
  have M6 : Hid ((backP s1).length ≤ 1000000) := Lib.hid (by have := M1.out; unfold backP; rw [tidyP_len, List.length_map]; exact this)
  have M7 : (L : Int) ≤ (n : Int) + (m : Int) := by have := HLE.out; have := HN.out; have := HM.out; omega
  have D1 : Hid (∀ w', Below w.heap.size w w' → Calls Tryd.prog 10 #[.slice A n c, .slice B m c'] w' fun e w'' => ∃ A' c', EdOut w' w'' e s1 A' c') := Lib.hid (fun w' h => by
    have := diff_c A B a b c c' w' (HA.out.below h) (HB.out.below h) LA.out LB.out
    rw [HN.out, HM.out, hs1] at this; exact this)
  have D2 : Hid (∀ w', Below w.heap.size w w' → Calls Tryd.prog 10 #[.slice B m c', .slice A n c] w' fun e w'' => ∃ A' c', EdOut w' w'' e s2 A' c') := Lib.hid (fun w' h => by
    have := diff_c B A b a c' c w' (HB.out.below h) (HA.out.below h) LB.out LA.out
    rw [HN.out, HM.out, hs2] at this; exact this)
  have D3 : Hid (∀ w', Below w.heap.size w w' → Calls Tryd.prog 10 #[.slice A n c, .slice A n c] w' fun e w'' => ∃ A' c', EdOut w' w'' e s3 A' c') := Lib.hid (fun w' h => by
    have := diff_c A A a a c c w' (HA.out.below h) (HA.out.below h) LA.out LA.out
    rw [HN.out, hs3] at this; exact this)
  have D4 : Hid (∀ w', Below w.heap.size w w' → Calls Tryd.prog 10 #[.slice none 0 0, .slice A n c] w' fun e w'' => ∃ A' c', EdOut w' w'' e s4 A' c') := Lib.hid (fun w' h => by
    have := diff_c none A [] a 0 c w' Rd.nil (HA.out.below h) LN.out LA.out
    rw [HN.out, hs4] at this; exact this)
  have D5 : Hid (∀ w', Below w.heap.size w w' → Calls Tryd.prog 10 #[.slice A n c, .slice none 0 0] w' fun e w'' => ∃ A' c', EdOut w' w'' e s5 A' c') := Lib.hid (fun w' h => by
    have := diff_c A none a [] c 0 w' (HA.out.below h) Rd.nil LA.out LN.out
    rw [HN.out, hs5] at this; exact this)
  have DP : Hid (∀ (A' : Option Addr) (cc : Nat) w', Below w.heap.size w w' → Rd w' A' (edc (backP s1)) → Calls Tryd.prog 11 #[.slice B m c', .slice A' (backP s1).length cc] w' fun e w'' => PatOut w' w'' e (a, 0)) := Lib.hid (fun A' cc w' h hr => by
    have := patch_any B A' b (backP s1) c' cc w' (HB.out.below h) hr HC.out.2.2.1 HC.out.2.2.2 M6.out
    rw [HM.out, HBK.out.1] at this; exact this)
  have DT : Hid (∀ (A' : Option Addr) (cc : Nat) w', Below w.heap.size w w' → Rd w' A' (sts a) → Calls Tryd.prog 12 #[.slice A' n cc, .slice A n c] w' fun e w'' => e = .returned (.bool true) ∧ Below w'.heap.size w' w'') := Lib.hid (fun A' cc w' h hr => by
    have hl : a.length ≤ 9223372036854775807 := by have := LA.out; omega
    have := texts_any A' A a a cc c w' hr (HA.out.below h) hl hl
    rw [HN.out, decide_eq_true rfl] at this; exact this)
  clear hs1 hs2 hs3 hs4 hs5 hL
  go_enter Tryd.func5, Tryd.ntmps5
  go_wp2_with fail
  refine (alive_any _).mono ?_
  rintro e w1 ⟨rfl, hb1⟩
  have B1 := Lib.hid hb1
  clear hb1
  go_wp2_with fail
  refine (D1.out w1 B1.out).mono ?_
  rintro e w2 ⟨A2, c2, h2⟩
  obtain ⟨rfl, r2, k2, n2, b2⟩ := h2
  have R2 := Lib.hid r2
  have N2 := Lib.hid n2
  have B2 : Hid (Below w.heap.size w w2) := Lib.hid (ext_trans B1.out b2)
  clear r2 k2 n2 b2
  go_wp2_with fail
  refine (back_c A2 s1 c2 w2 R2.out M1.out N2.out).mono ?_
  rintro e w3 ⟨A3, c3, h3⟩
  obtain ⟨rfl, r3, k3, n3, b3⟩ := h3
  have R3 := Lib.hid r3
  have S3 := Lib.hid (R2.out.below b3)
  have B3 : Hid (Below w.heap.size w w3) := Lib.hid (ext_trans B2.out b3)
  clear r3 k3 n3 b3
  go_wp2_with fail
  refine (DP.out A3 c3 w3 B3.out R3.out).mono ?_
  rintro e w4 ⟨A4, n4, c4, rfl, hn4, hnc4, hc4, hr4, hb4⟩
  replace hn4 : n4 = n := hn4.trans HN.out
  subst hn4
  have P4 : Hid (Rd w4 A4 (sts a)) := Lib.hid hr4
  have R4 := Lib.hid (R3.out.below hb4)
  have S4 := Lib.hid (S3.out.below hb4)
  have B4 : Hid (Below w.heap.size w w4) := Lib.hid (ext_trans B3.out hb4)
  clear hnc4 hc4 hr4 hb4
  go_wp2_with fail
  refine (DT.out A4 c4 w4 B4.out P4.out).mono ?_
  rintro e w5 ⟨rfl, hb5⟩
  have R5 := Lib.hid (R4.out.below hb5)
  have S5 := Lib.hid (S4.out.below hb5)
  have B5 : Hid (Below w.heap.size w w5) := Lib.hid (ext_trans B4.out hb5)
  clear hb5
  go_wp2_with fail
  refine (cost_any A3 (backP s1) c3 w5 R5.out M6.out).mono ?_
  rintro e w6 ⟨rfl, hb6⟩
  rw [HBK.out.2]
  have S6 := Lib.hid (S5.out.below hb6)
  have B6 : Hid (Below w.heap.size w w6) := Lib.hid (ext_trans B5.out hb6)
  clear hb6
  go_wp2_with fail
  refine (cost_any A2 s1 c2 w6 S6.out M1.out).mono ?_
  rintro e w7 ⟨rfl, hb7⟩
  rw [HD1.out.2.2.1]
  have S7 := Lib.hid (S6.out.below hb7)
  have B7 : Hid (Below w.heap.size w w7) := Lib.hid (ext_trans B6.out hb7)
  clear hb7
  go_wp2_with fail
  refine (D2.out w7 B7.out).mono ?_
  rintro e w8 ⟨A8, c8, h8⟩
  obtain ⟨rfl, r8, k8, n8, b8⟩ := h8
  have R8 := Lib.hid r8
  have S8 := Lib.hid (S7.out.below b8)
  have B8 : Hid (Below w.heap.size w w8) := Lib.hid (ext_trans B7.out b8)
  clear r8 k8 n8 b8
  go_wp2_with fail
  refine (cost_any A8 s2 c8 w8 R8.out M2.out).mono ?_
  rintro e w9 ⟨rfl, hb9⟩
  rw [HD2.out.2.2.1]
  have S9 := Lib.hid (S8.out.below hb9)
  have B9 : Hid (Below w.heap.size w w9) := Lib.hid (ext_trans B8.out hb9)
  clear hb9
  go_wp2_with fail
  refine (cost_any A2 s1 c2 w9 S9.out M1.out).mono ?_
  rintro e w10 ⟨rfl, hb10⟩
  rw [HD1.out.2.2.1]
  have S10 := Lib.hid (S9.out.below hb10)
  have B10 : Hid (Below w.heap.size w w10) := Lib.hid (ext_trans B9.out hb10)
  clear hb10
  go_wp2_with fail
  refine (D3.out w10 B10.out).mono ?_
  rintro e w11 ⟨A11, c11, h11⟩
  obtain ⟨rfl, r11, k11, n11, b11⟩ := h11
  have R11 := Lib.hid r11
  have S11 := Lib.hid (S10.out.below b11)
  have B11 : Hid (Below w.heap.size w w11) := Lib.hid (ext_trans B10.out b11)
  obtain ⟨q, hq⟩ : ∃ q, s3.length = q := ⟨_, rfl⟩
  have HQ := Lib.hid hq
  have hqm : q ≤ 1000000 := by rw [← hq]; exact M3.out
  rw [hq]
  clear r11 k11 n11 b11 hq
  go_wp2_with fail
  go_loopg [60] (q * 1) (fun gk_ i wr => ∃ (k : Nat), k ≤ q ∧ gk_ = q - k ∧ i = .int .i64 (k : Int) ∧ Hid (Below w11.heap.size w11 wr))
  case atStart => exact ⟨0, by omega, by omega, rfl, Lib.hid (Below.refl _ _)⟩
  case round =>
  obtain ⟨k, hk, rfl, rfl, HBW⟩ := hrel
  by_cases hlt : k < q
  · have x1 : (k : Int) < (q : Int) := by omega
    have hlt' : k < s3.length := by rw [HQ.out]; exact hlt
    have hrd := R11.out.below HBW.out
    obtain ⟨b_, off, hA, _⟩ := hrd.all (by rw [edc_len]; omega)
    rw [hA] at hrd
    have HAA := Lib.hid hA
    clear hA
    have RS := rd_ed hrd k hlt'
    have hz : s3[k].kind = 0 := HSF.out _ (List.getElem_mem hlt')
    obtain ⟨⟨kd, ln_⟩, he⟩ : ∃ e, s3[k] = e := ⟨_, rfl⟩
    rw [he] at RS hz
    replace hz : kd = 0 := hz
    subst hz
    have HRS : Hid (wr.rangeAt b_ (off + k * 2) [.int .i64 0, .string ln_]) := Lib.hid RS
    obtain ⟨W5, hW5⟩ : ∃ W, wr.alloc (.cells #[.int .i64 0, .string ln_] 36) = W := ⟨_, rfl⟩
    obtain ⟨r5, b5, s5_⟩ := new_row hW5
    have c0 : W5.cell? ⟨wr.heap.size, 0, none⟩ = some (.int .i64 0) := row_cell r5 0
    have HBW5 := Lib.hid (ext_trans HBW.out b5)
    clear hrd RS he b5 s5_ hlt' r5
    rw [HAA.out]
    go_wp2_with ((with_reducible (refine wpList_load_cells 36 _ b_ (off + k * 2) ([.int .i64 0, .string ln_]) HRS.out Tryd.underlying36 rfl info_ed ?_ rfl ?_ ?_)); (exact rfl); (exact rfl))
    rw [← HAA.out]
    clear hW5 c0
    go_roundg (q - (k + 1))
    case measure => omega
    case rel => exact ⟨k + 1, by omega, rfl, by first | rfl | exact congrArg (Value.int .i64) (by omega) | go_num, HBW5⟩
  · obtain rfl : k = q := by omega
    clear hlt hk
    have B12 : Hid (Below w.heap.size w wr) := Lib.hid (ext_trans B11.out HBW.out)
    have S12 := Lib.hid (S11.out.below HBW.out)
    go_wp2_with fail
    refine (D4.out wr B12.out).mono ?_
    rintro e w13 ⟨A13, c13, h13⟩
    obtain ⟨rfl, r13, k13, n13, b13⟩ := h13
    have R13 := Lib.hid r13
    have S13 := Lib.hid (S12.out.below b13)
    have B13 : Hid (Below w.heap.size w w13) := Lib.hid (ext_trans B12.out b13)
    clear r13 k13 n13 b13
    go_wp2_with fail
    refine (cost_any A13 s4 c13 w13 R13.out M4.out).mono ?_
    rintro e w14 ⟨rfl, hb14⟩
    rw [HC4.out]
    have S14 := Lib.hid (S13.out.below hb14)
    have B14 : Hid (Below w.heap.size w w14) := Lib.hid (ext_trans B13.out hb14)
    clear hb14
    go_wp2_with fail
    refine (D5.out w14 B14.out).mono ?_
    rintro e w15 ⟨A15, c15, h15⟩
    obtain ⟨rfl, r15, k15, n15, b15⟩ := h15
    have R15 := Lib.hid r15
    have S15 := Lib.hid (S14.out.below b15)
    have B15 : Hid (Below w.heap.size w w15) := Lib.hid (ext_trans B14.out b15)
    clear r15 k15 n15 b15
    go_wp2_with fail
    refine (cost_any A15 s5 c15 w15 R15.out M5.out).mono ?_
    rintro e w16 ⟨rfl, hb16⟩
    rw [HC5.out]
    have S16 := Lib.hid (S15.out.below hb16)
    have B16 : Hid (Below w.heap.size w w16) := Lib.hid (ext_trans B15.out hb16)
    clear hb16
    go_wp2_with fail
    refine (cost_any A2 s1 c2 w16 S16.out M1.out).mono ?_
    rintro e w17 ⟨rfl, hb17⟩
    rw [HD1.out.2.2.1]
    have B17 : Hid (Below w.heap.size w w17) := Lib.hid (ext_trans B16.out hb17)
    clear hb17
    go_wp2_with fail
    go_ret
    exact ⟨rfl, B17.out⟩
end Go.Proofs.YtmniggjadfdheaaDoor
