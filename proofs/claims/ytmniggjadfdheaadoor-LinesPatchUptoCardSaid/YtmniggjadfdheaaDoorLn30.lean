
/- LinesPatch' walk. -/

import Derived.Test.YtmniggjadfdheaaDoorLn29

import Derived.Test.YtmniggjadfdheaaDoorLn27

import Derived.Test.YtmniggjadfdheaaDoorLn20

namespace Go.Proofs.YtmniggjadfdheaaDoor

set_option linter.unusedVariables false

set_option linter.unusedSimpArgs false

set_option linter.unusedSectionVars false

open Go.RowKit

set_option maxRecDepth 100000 in
set_option maxHeartbeats 8000000 in
theorem linesPatch_any (A B : Option Addr) (a : List ByteArray) (s : List EdM) (c c' : Nat) (w : World) (ha : Rd w A (sts a)) (hb : Rd w B (edc s)) (hac : a.length ≤ c) (hcm : c ≤ maxLen) (hnn : B = none → s = [] ∧ c' = 0) (hsl : s.length ≤ 9223372036854775807) (hlen : (textB s).length ≤ 140737488355328) :
    Calls Tryd.prog 4 #[.slice A a.length c, .slice B s.length c'] w fun e w' => e = .returned (.bool true) ∧ Below w.heap.size w w' := by
  have HA := Lib.hid ha
  have HB := Lib.hid hb
  obtain ⟨n, hn⟩ : ∃ n, a.length = n := ⟨_, rfl⟩
  obtain ⟨m, hm⟩ : ∃ m, s.length = m := ⟨_, rfl⟩
  have HN := Lib.hid hn
  have HM := Lib.hid hm
  have HC : Hid (a.length ≤ c ∧ c ≤ maxLen ∧ (textB s).length ≤ 140737488355328) := Lib.hid ⟨hac, hcm, hlen⟩
  have HNN := Lib.hid hnn
  rw [hn] at hac ⊢
  rw [hm] at hsl ⊢
  have hmx : n ≤ 9223372036854775807 ∧ m ≤ 9223372036854775807 := by
    unfold maxLen at hcm; omega
  obtain ⟨hmn, hmm⟩ := hmx
  clear ha hb hac hcm hn hm hnn hsl hlen
  by_cases h1 : 2000 < m
  · have i1 : (2000 : Int) < (m : Int) := by omega
    go_enter Tryd.func4, Tryd.ntmps4
    go_wp2_with (refine (alive_any _).mono ?_; rintro e w1 ⟨rfl, hb1⟩)
    go_ret
    exact ⟨rfl, hb1⟩
  have j1 : ¬ ((2000 : Int) < (m : Int)) := by omega
  by_cases h2 : 2000 < n
  · have i1 : (2000 : Int) < (n : Int) := by omega
    go_enter Tryd.func4, Tryd.ntmps4
    go_wp2_with (refine (alive_any _).mono ?_; rintro e w1 ⟨rfl, hb1⟩)
    go_ret
    exact ⟨rfl, hb1⟩
  have j2 : ¬ ((2000 : Int) < (n : Int)) := by omega
  have HSM : Hid (n ≤ 2000 ∧ m ≤ 2000) := Lib.hid (by omega)
  clear h1 h2
  have LM : Hid (s.length ≤ 1000000) := Lib.hid (by rw [HM.out]; have := HSM.out; omega)
  have LN : Hid (a.length ≤ 1000000) := Lib.hid (by rw [HN.out]; have := HSM.out; omega)
  obtain ⟨r, hr⟩ : ∃ r, patchP a s = r := ⟨_, rfl⟩
  obtain ⟨p, hp⟩ : ∃ p, r.1.length = p := ⟨_, rfl⟩
  obtain ⟨z, hz⟩ : ∃ z, r.2 = z := ⟨_, rfl⟩
  obtain ⟨T, hT⟩ : ∃ T : ByteArray, (⟨(textB s).toArray⟩ : ByteArray) = T := ⟨_, rfl⟩
  obtain ⟨u, hu⟩ : ∃ u, backP s = u := ⟨_, rfl⟩
  have hul : u.length = s.length := by rw [← hu]; unfold backP; rw [tidyP_len, List.length_map]
  obtain ⟨k, hk⟩ : ∃ k, costE s = k := ⟨_, rfl⟩
  have HP := Lib.hid hp
  have HZ := Lib.hid hz
  have DP : Hid (∀ w', Below w.heap.size w w' → Calls Tryd.prog 11 #[.slice A n c, .slice B m c'] w' fun e w'' => PatOut w' w'' e r) := Lib.hid (fun w' h => by
    have := patch_any A B a s c c' w' (HA.out.below h) (HB.out.below h) HC.out.1 HC.out.2.1 LM.out
    rw [HN.out, HM.out, hr] at this; exact this)
  have DA : Hid (∀ w', Below w.heap.size w w' → Calls Tryd.prog 16 #[.slice B m c'] w' fun e w'' => ∃ A' c', e = .returned (.slice A' m c') ∧ Rd w'' A' (edc s) ∧ Below w'.heap.size w' w'') := Lib.hid (fun w' h => by
    have := as_any B s c' w' (HB.out.below h) LM.out
    rw [HM.out] at this; exact this)
  have DRP : Hid (∀ (A' : Option Addr) (cc : Nat) w', Below w.heap.size w w' → Rd w' A' (edc s) → Calls Tryd.prog 17 #[.slice A n c, .slice A' m cc] w' fun e w'' => PatOut w' w'' e r) := Lib.hid (fun A' cc w' h hh => by
    have := rpatch_any A A' a s c cc w' (HA.out.below h) hh LN.out LM.out
    rw [HN.out, HM.out, hr] at this; exact this)
  have DT : Hid (∀ (A' B' : Option Addr) (cc cc' : Nat) w', p ≤ cc → cc ≤ maxLen → Rd w' A' (sts r.1) → Rd w' B' (sts r.1) → Calls Tryd.prog 12 #[.slice A' p cc, .slice B' p cc'] w' fun e w'' => e = .returned (.bool true) ∧ Below w'.heap.size w' w'') := Lib.hid (fun A' B' cc cc' w' h1 h2 h3 h4 => by
    have := texts_any A' B' r.1 r.1 cc cc' w' h3 h4 (by unfold maxLen at h2; rw [hp]; omega) (by unfold maxLen at h2; rw [hp]; omega)
    rw [hp, decide_eq_true rfl] at this; exact this)
  have DX : Hid (∀ w', Below w.heap.size w w' → Calls Tryd.prog 18 #[.slice B m c'] w' fun e w'' => e = .returned (.string T) ∧ Below w'.heap.size w' w'') := Lib.hid (fun w' h => by
    have := text_any' B s c' w' (HB.out.below h) LM.out HC.out.2.2
    rw [HM.out, hT] at this; exact this)
  have DRX : Hid (∀ (A' : Option Addr) (cc : Nat) w', Rd w' A' (edc s) → Calls Tryd.prog 19 #[.slice A' m cc] w' fun e w'' => e = .returned (.string T) ∧ Below w'.heap.size w' w'') := Lib.hid (fun A' cc w' h => by
    have := rtext_any A' s cc w' h LM.out HC.out.2.2
    rw [HM.out, hT] at this; exact this)
  have DC : Hid (∀ w', Below w.heap.size w w' → Calls Tryd.prog 13 #[.slice B m c'] w' fun e w'' => e = .returned (.int .i64 (k : Int)) ∧ Below w'.heap.size w' w'') := Lib.hid (fun w' h => by
    have := cost_any B s c' w' (HB.out.below h) LM.out
    rw [HM.out, hk] at this; exact this)
  have DRC : Hid (∀ (A' : Option Addr) (cc : Nat) w', Rd w' A' (edc s) → Calls Tryd.prog 20 #[.slice A' m cc] w' fun e w'' => e = .returned (.int .i64 (k : Int)) ∧ Below w'.heap.size w' w'') := Lib.hid (fun A' cc w' h => by
    have := rcost_any A' s cc w' h LM.out
    rw [HM.out, hk] at this; exact this)
  have DB : Hid (∀ w', Below w.heap.size w w' → Calls Tryd.prog 21 #[.slice B m c'] w' fun e w'' => ∃ A' c', e = .returned (.slice A' m c') ∧ Rd w'' A' (edc u) ∧ Below w'.heap.size w' w'') := Lib.hid (fun w' h => by
    have := back_c B s c' w' (HB.out.below h) LM.out HNN.out
    rw [HM.out, hu] at this
    refine this.mono fun e w'' ⟨A', cc, ho⟩ => ⟨A', cc, ?_, ho.rd, ho.bel⟩
    rw [ho.ret, hul, HM.out])
  have DRB : Hid (∀ (A' : Option Addr) (cc : Nat) w', Rd w' A' (edc s) → Calls Tryd.prog 22 #[.slice A' m cc] w' fun e w'' => ∃ A' c', e = .returned (.slice A' m c') ∧ Rd w'' A' (edc u) ∧ Below w'.heap.size w' w'') := Lib.hid (fun A' cc w' h => by
    have := rback_any A' s cc w' h LM.out
    rw [HM.out, hu, hul, HM.out] at this; exact this)
  have DS : Hid (∀ (A' B' : Option Addr) (cc cc' : Nat) w', Rd w' A' (edc u) → Rd w' B' (edc u) → Calls Tryd.prog 15 #[.slice A' m cc, .slice B' m cc'] w' fun e w'' => e = .returned (.bool true) ∧ Below w'.heap.size w' w'') := Lib.hid (fun A' B' cc cc' w' h1 h2 => by
    have := sameS_any A' B' u cc cc' w' h1 h2 (by rw [hul]; exact LM.out)
    rw [hul, HM.out] at this; exact this)
  clear hr hp hz hT hu hul hk
  go_enter Tryd.func4, Tryd.ntmps4
  go_wp2_with fail
  refine (alive_any _).mono ?_
  rintro e w1 ⟨rfl, hb1⟩
  have B1 := Lib.hid hb1
  clear hb1
  go_wp2_with fail
  refine (DP.out w1 B1.out).mono ?_
  rintro e w2 ⟨A2, n2, c2, rfl, hn2, hnc2, hc2, hr2, hb2⟩
  replace hn2 : n2 = p := hn2.trans HP.out
  subst hn2
  have P2 := Lib.hid hr2
  have K2 : Hid (n2 ≤ c2 ∧ c2 ≤ maxLen) := Lib.hid ⟨hnc2, hc2⟩
  have B2 : Hid (Below w.heap.size w w2) := Lib.hid (ext_trans B1.out hb2)
  clear hnc2 hc2 hr2 hb2
  go_wp2_with fail
  refine (DA.out w2 B2.out).mono ?_
  rintro e w3 ⟨A3, c3, rfl, hr3, hb3⟩
  have P3 := Lib.hid (P2.out.below hb3)
  have S3 := Lib.hid hr3
  have B3 : Hid (Below w.heap.size w w3) := Lib.hid (ext_trans B2.out hb3)
  clear hr3 hb3
  go_wp2_with fail
  refine (DRP.out A3 c3 w3 B3.out S3.out).mono ?_
  rintro e w4 ⟨A4, n4, c4, rfl, hn4, hnc4, hc4, hr4, hb4⟩
  replace hn4 : n4 = n2 := hn4.trans HP.out
  subst hn4
  have P4 := Lib.hid (P3.out.below hb4)
  have Q4 := Lib.hid hr4
  have B4 : Hid (Below w.heap.size w w4) := Lib.hid (ext_trans B3.out hb4)
  clear hnc4 hc4 hr4 hb4
  rw [HZ.out]
  go_wp2_with fail
  refine (DT.out A2 A4 c2 c4 w4 K2.out.1 K2.out.2 P4.out Q4.out).mono ?_
  rintro e w5 ⟨rfl, hb5⟩
  have B5 : Hid (Below w.heap.size w w5) := Lib.hid (ext_trans B4.out hb5)
  clear hb5
  go_wp2_with fail
  refine (DX.out w5 B5.out).mono ?_
  rintro e w6 ⟨rfl, hb6⟩
  have B6 : Hid (Below w.heap.size w w6) := Lib.hid (ext_trans B5.out hb6)
  clear hb6
  go_wp2_with fail
  refine (DA.out w6 B6.out).mono ?_
  rintro e w7 ⟨A7, c7, rfl, hr7, hb7⟩
  have B7 : Hid (Below w.heap.size w w7) := Lib.hid (ext_trans B6.out hb7)
  have S7 := Lib.hid hr7
  clear hr7 hb7
  go_wp2_with fail
  refine (DRX.out A7 c7 w7 S7.out).mono ?_
  rintro e w8 ⟨rfl, hb8⟩
  have B8 : Hid (Below w.heap.size w w8) := Lib.hid (ext_trans B7.out hb8)
  clear hb8
  have hTT : (T.toList == T.toList) = true := beq_self_eq_true _
  go_wp2_with fail
  refine (DC.out w8 B8.out).mono ?_
  rintro e w9 ⟨rfl, hb9⟩
  have B9 : Hid (Below w.heap.size w w9) := Lib.hid (ext_trans B8.out hb9)
  clear hb9
  go_wp2_with fail
  refine (DA.out w9 B9.out).mono ?_
  rintro e w10 ⟨A10, c10, rfl, hr10, hb10⟩
  have B10 : Hid (Below w.heap.size w w10) := Lib.hid (ext_trans B9.out hb10)
  have S10 := Lib.hid hr10
  clear hr10 hb10
  go_wp2_with fail
  refine (DRC.out A10 c10 w10 S10.out).mono ?_
  rintro e w11 ⟨rfl, hb11⟩
  have B11 : Hid (Below w.heap.size w w11) := Lib.hid (ext_trans B10.out hb11)
  clear hb11
  go_wp2_with fail
  refine (DB.out w11 B11.out).mono ?_
  rintro e w12 ⟨A12, c12, rfl, hr12, hb12⟩
  have B12 : Hid (Below w.heap.size w w12) := Lib.hid (ext_trans B11.out hb12)
  have U12 := Lib.hid hr12
  clear hr12 hb12
  go_wp2_with fail
  refine (DA.out w12 B12.out).mono ?_
  rintro e w13 ⟨A13, c13, rfl, hr13, hb13⟩
  have B13 : Hid (Below w.heap.size w w13) := Lib.hid (ext_trans B12.out hb13)
  have U13 := Lib.hid (U12.out.below hb13)
  have S13 := Lib.hid hr13
  clear hr13 hb13
  go_wp2_with fail
  refine (DRB.out A13 c13 w13 S13.out).mono ?_
  rintro e w14 ⟨A14, c14, rfl, hr14, hb14⟩
  have B14 : Hid (Below w.heap.size w w14) := Lib.hid (ext_trans B13.out hb14)
  have U14 := Lib.hid (U13.out.below hb14)
  have V14 := Lib.hid hr14
  clear hr14 hb14
  go_wp2_with fail
  refine (DS.out A12 A14 c12 c14 w14 U14.out V14.out).mono ?_
  rintro e w15 ⟨rfl, hb15⟩
  have B15 : Hid (Below w.heap.size w w15) := Lib.hid (ext_trans B14.out hb15)
  clear hb15
  go_wp2_with fail
  go_ret
  exact ⟨rfl, B15.out⟩
end Go.Proofs.YtmniggjadfdheaaDoor
