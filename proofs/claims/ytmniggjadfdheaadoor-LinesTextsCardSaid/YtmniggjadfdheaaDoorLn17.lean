
/- LinesParts' walk. -/

import Derived.Test.YtmniggjadfdheaaDoorLn16

namespace Go.Proofs.YtmniggjadfdheaaDoor

set_option linter.unusedVariables false

set_option linter.unusedSimpArgs false

set_option linter.unusedSectionVars false

open Go.RowKit

set_option maxRecDepth 100000 in
set_option maxHeartbeats 8000000 in
theorem linesParts_any (A B : Option Addr) (a t : List ByteArray) (c c' : Nat) (w : World) (ha : Rd w A (sts a)) (hb : Rd w B (sts t)) (hac : a.length ≤ c) (hcm : c ≤ maxLen) (hbc : t.length ≤ c') (hcm' : c' ≤ maxLen) :
    Calls Tryd.prog 6 #[.slice A a.length c, .slice B t.length c'] w fun e w' => e = .returned (.bool true) ∧ Below w.heap.size w w' := by
  have HA := Lib.hid ha
  have HB := Lib.hid hb
  obtain ⟨n, hn⟩ : ∃ n, a.length = n := ⟨_, rfl⟩
  obtain ⟨m, hm⟩ : ∃ m, t.length = m := ⟨_, rfl⟩
  have HN := Lib.hid hn
  have HM := Lib.hid hm
  rw [hn, hm]
  have hmx : n ≤ 9223372036854775807 ∧ m ≤ 9223372036854775807 := by
    unfold maxLen at hcm hcm'; omega
  obtain ⟨hmn, hmm⟩ := hmx
  clear ha hb hac hcm hbc hcm' hn hm
  by_cases h1 : 40 < n
  · have i1 : (40 : Int) < (n : Int) := by omega
    go_enter Tryd.func6, Tryd.ntmps6
    go_wp2_with (refine (alive_any _).mono ?_; rintro e w1 ⟨rfl, hb1⟩)
    go_ret
    exact ⟨rfl, hb1⟩
  have j1 : ¬ ((40 : Int) < (n : Int)) := by omega
  by_cases h2 : 40 < m
  · have i1 : (40 : Int) < (m : Int) := by omega
    go_enter Tryd.func6, Tryd.ntmps6
    go_wp2_with (refine (alive_any _).mono ?_; rintro e w1 ⟨rfl, hb1⟩)
    go_ret
    exact ⟨rfl, hb1⟩
  have j2 : ¬ ((40 : Int) < (m : Int)) := by omega
  have hsn : n ≤ 40 := by omega
  have hsm : m ≤ 40 := by omega
  clear h1 h2 hmn hmm
  go_enter Tryd.func6, Tryd.ntmps6
  go_wp2_with fail
  refine (alive_any _).mono ?_
  rintro e w1 ⟨rfl, hb1⟩
  have B1 := Lib.hid hb1
  clear hb1
  obtain ⟨W2, hW2⟩ : ∃ W, w1.alloc (.cells #[] 9) = W := ⟨_, rfl⟩
  obtain ⟨r2, b2, s2⟩ := new_row hW2
  have O2 : Hid (W2.ownsRow w1.heap.size 9 1 (.slice (some ⟨w1.heap.size, 0, none⟩) 0 0) 0 (sts (bOf a t 0))) := Lib.hid (by
    rw [← hW2]; exact own_new w1 w1.heap.size 9 1 0 [] (Nat.le_refl _) rfl (by decide))
  have HB2 := Lib.hid b2
  clear r2 b2 s2
  go_wp2_with fail
  clear hW2
  go_loopg [5, 25] (n * 1) (fun gk_ so i wr => ∃ (k : Nat) (Ao : Option Addr) (no co : Nat), k ≤ n ∧ gk_ = n - k ∧ no ≤ 2 * k ∧ i = .int .i64 (k : Int) ∧ so = .slice Ao no co ∧ Hid (no = (bOf a t k).length) ∧ Hid (wr.ownsRow w1.heap.size 9 1 (.slice Ao no co) no (sts (bOf a t k))) ∧ Hid (Below w1.heap.size w1 wr))
  case atStart => exact ⟨0, _, 0, 0, by omega, by omega, by omega, rfl, rfl, Lib.hid rfl, O2, HB2⟩
  case round =>
  obtain ⟨k, Ao, no, co, hk, rfl, hno, rfl, rfl, HNO, HO, HBW⟩ := hrel
  by_cases hlt : k < n
  · have i1 : (k : Int) < (n : Int) := by omega
    have hlt' : k < a.length := by rw [HN.out]; exact hlt
    have HBG : Hid (Below w.heap.size w wr) := Lib.hid (ext_trans B1.out HBW.out)
    obtain ⟨bA, oA, hA1, hA2⟩ := (HA.out.below HBG.out) k _ (sts_get a k hlt')
    obtain ⟨x, hx⟩ : ∃ x, a[k] = x := ⟨_, rfl⟩
    rw [hx] at hA2
    have HX : Hid (a[k]? = some x) := Lib.hid (by rw [List.getElem?_eq_getElem hlt', hx])
    have HAA := Lib.hid hA1
    rw [hA1]
    clear hA1 hx hlt'
    by_cases hkm : k < m
    · have i2 : (k : Int) < (m : Int) := by omega
      have hkm' : k < t.length := by rw [HM.out]; exact hkm
      obtain ⟨bB, oB, hB1, hB2⟩ := (HB.out.below HBG.out) k _ (sts_get t k hkm')
      obtain ⟨y, hy⟩ : ∃ y, t[k] = y := ⟨_, rfl⟩
      rw [hy] at hB2
      have HY : Hid (t[k]? = some y) := Lib.hid (by rw [List.getElem?_eq_getElem hkm', hy])
      have HBB := Lib.hid hB1
      rw [hB1]
      clear hB1 hy hkm'
      have HBH := Lib.hid (bOf_hit HX.out HY.out)
      obtain ⟨W6, hW6⟩ : ∃ W, wr.alloc (.cells #[.string y] 9) = W := ⟨_, rfl⟩
      obtain ⟨r6, b6, s6⟩ := new_row hW6
      have HO6 := Lib.hid (own_below HO.out b6)
      have HR6 : Hid (Rd W6 (some ⟨wr.heap.size, 0, none⟩) (sts [y])) := Lib.hid (range_rd (range_of_row (cs := sts [y]) r6))
      have HBX : Hid (Below w1.heap.size w1 W6) := Lib.hid (ext_trans HBW.out b6)
      have HBA := Lib.hid HBX.out.size
      clear r6 b6 s6
      go_wp2_with (first
        | (at_builtin; refine wpList_append_rd _ rfl _ _ 22 rfl w1.heap.size 9 _ 1 16 Tryd.underlying22 info_str rfl (by decide) (.slice Ao no co) no _ rfl HO6.out _ 1 1 (sts [y]) rfl rfl HR6.out (sts_one _) (by unfold maxLen; omega) (by omega) HBA.out ?_; intro v7 w7 ho7 hg7 hvb7; obtain ⟨A7, c7, e7, _⟩ := own_slice ho7; subst e7; have HB7 := Lib.hid (bel_own HBX.out rfl HO6.out hg7); obtain ⟨W8, hW8⟩ : ∃ W, w7.alloc (.cells #[.string x] 9) = W := ⟨_, rfl⟩; obtain ⟨r8, b8, s8⟩ := new_row hW8; have HO8 := Lib.hid (own_below ho7 b8); have HR8 : Hid (Rd W8 (some ⟨w7.heap.size, 0, none⟩) (sts [x])) := Lib.hid (range_rd (range_of_row (cs := sts [x]) r8)); have HBX8 : Hid (Below w1.heap.size w1 W8) := Lib.hid (ext_trans HB7.out b8); have HBA8 := Lib.hid HBX8.out.size; clear ho7 hg7 hvb7 r8 b8 s8)
        | (at_builtin; refine wpList_append_rd _ rfl _ _ 22 rfl w1.heap.size 9 _ 1 16 Tryd.underlying22 info_str rfl (by decide) (.slice A7 (no + 1) c7) (no + 1) _ rfl HO8.out _ 1 1 (sts [x]) rfl rfl HR8.out (sts_one _) (by unfold maxLen; omega) (by omega) HBA8.out ?_; intro v9 w9 ho9 hg9 hvb9; obtain ⟨A9, c9, e9, _⟩ := own_slice ho9; subst e9; have HO9 := Lib.hid ho9; have HB9 := Lib.hid (bel_own HBX8.out rfl HO8.out hg9); clear ho9 hg9 hvb9))
      have HOF : Hid (w9.ownsRow w1.heap.size 9 1 (.slice A9 (no + 1 + 1) c9) (no + 1 + 1) (sts (bOf a t (k + 1)))) := Lib.hid (by rw [HBH.out, sts_app, sts_app]; exact HO9.out)
      rw [← HAA.out, ← HBB.out]
      clear hA2 hB2 hW6 hW8
      go_roundg (n - (k + 1))
      case measure => omega
      case rel => exact ⟨k + 1, A9, no + 1 + 1, c9, by omega, rfl, by omega, by first | rfl | exact congrArg (Value.int .i64) (by omega) | go_num, rfl, Lib.hid (by rw [HBH.out]; simp; exact HNO.out), HOF, HB9⟩
    · have i2 : ¬ ((k : Int) < (m : Int)) := by omega
      have HY : Hid (t[k]? = none) := Lib.hid (List.getElem?_eq_none (by rw [HM.out]; omega))
      have HBH := Lib.hid (bOf_miss HX.out HY.out)
      obtain ⟨W6, hW6⟩ : ∃ W, wr.alloc (.cells #[.string x] 9) = W := ⟨_, rfl⟩
      obtain ⟨r6, b6, s6⟩ := new_row hW6
      have HO6 := Lib.hid (own_below HO.out b6)
      have HR6 : Hid (Rd W6 (some ⟨wr.heap.size, 0, none⟩) (sts [x])) := Lib.hid (range_rd (range_of_row (cs := sts [x]) r6))
      have HBX : Hid (Below w1.heap.size w1 W6) := Lib.hid (ext_trans HBW.out b6)
      have HBA := Lib.hid HBX.out.size
      clear r6 b6 s6
      go_wp2_with (at_builtin; refine wpList_append_rd _ rfl _ _ 22 rfl w1.heap.size 9 _ 1 16 Tryd.underlying22 info_str rfl (by decide) (.slice Ao no co) no _ rfl HO6.out _ 1 1 (sts [x]) rfl rfl HR6.out (sts_one _) (by unfold maxLen; omega) (by omega) HBA.out ?_; intro v9 w9 ho9 hg9 hvb9; obtain ⟨A9, c9, e9, _⟩ := own_slice ho9; subst e9; have HO9 := Lib.hid ho9; have HB9 := Lib.hid (bel_own HBX.out rfl HO6.out hg9); clear ho9 hg9 hvb9)
      have HOF : Hid (w9.ownsRow w1.heap.size 9 1 (.slice A9 (no + 1) c9) (no + 1) (sts (bOf a t (k + 1)))) := Lib.hid (by rw [HBH.out, sts_app]; exact HO9.out)
      rw [← HAA.out]
      clear hA2 hW6
      go_roundg (n - (k + 1))
      case measure => omega
      case rel => exact ⟨k + 1, A9, no + 1, c9, by omega, rfl, by omega, by first | rfl | exact congrArg (Value.int .i64) (by omega) | go_num, rfl, Lib.hid (by rw [HBH.out]; simp; exact HNO.out), HOF, HB9⟩
  · obtain rfl : k = n := by omega
    clear hlt hk
    obtain ⟨b, hbO⟩ : ∃ b, bOf a t k = b := ⟨_, rfl⟩
    have HBO : Hid (b = bOf a t a.length) := Lib.hid (by rw [← hbO, HN.out])
    have HRB : Hid (Rd wr Ao (sts b)) := Lib.hid (by rw [← hbO]; exact own_rd HO.out)
    have HLB : Hid (b.length = no) := Lib.hid (by rw [← hbO]; exact HNO.out.symm)
    obtain ⟨P1, P2, P3, P4⟩ := parts_ok a t b HBO.out
    have HBG : Hid (Below w.heap.size w wr) := Lib.hid (ext_trans B1.out HBW.out)
    have HDF := Lib.hid (diff_c A Ao a b c co wr (HA.out.below HBG.out) HRB.out (by rw [HN.out]; omega) (by rw [HLB.out]; omega))
    rw [HN.out, HLB.out] at HDF
    obtain ⟨s, hs⟩ : ∃ s, diffS a b = s := ⟨_, rfl⟩
    rw [hs] at P1 P2 P3 P4 HDF
    obtain ⟨q, hq⟩ : ∃ q, nK 2 s = q := ⟨_, rfl⟩
    rw [hq, HN.out, HLB.out] at P2
    rw [hq] at P3
    rw [HLB.out] at P4
    have K1 := Lib.hid P1
    have K3 := Lib.hid P3
    have K4 := Lib.hid P4
    have KQ := Lib.hid hq
    have z1 : ((q : Int) == (no : Int) - (k : Int)) = true := by rw [beq_iff_eq]; omega
    have K2 := Lib.hid P2
    clear P1 P2 P3 P4 hs hq hbO
    go_wp2_with fail
    refine HDF.out.mono ?_
    rintro e w3 ⟨A3, c3, h3⟩
    obtain ⟨rfl, r3, k3, n3, b3⟩ := h3
    have R3 := Lib.hid r3
    have B3 : Hid (Below w.heap.size w w3) := Lib.hid (ext_trans HBG.out b3)
    rw [K4.out]
    clear r3 k3 n3 b3
    go_wp2_with fail
    go_loopg [9, 51] (no * 1) (fun gk_ v i wr => ∃ (j p : Nat), j ≤ no ∧ gk_ = no - j ∧ p ≤ j ∧ v = .int .i64 (p : Int) ∧ i = .int .i64 (j : Int) ∧ Hid (p = nK 2 (s.take j)) ∧ Hid (Below w3.heap.size w3 wr))
    case atStart => exact ⟨0, 0, by omega, by omega, by omega, rfl, rfl, Lib.hid rfl, Lib.hid (Below.refl _ _)⟩
    case round =>
    obtain ⟨j, p, hj, rfl, hp, rfl, rfl, HP, HBW2⟩ := hrel
    by_cases hjt : j < no
    · have x1 : (j : Int) < (no : Int) := by omega
      have hlt' : j < s.length := by rw [K4.out]; exact hjt
      have hrd := R3.out.below HBW2.out
      obtain ⟨b_, off, hA, _⟩ := hrd.all (by rw [edc_len]; omega)
      rw [hA] at hrd
      have HAA := Lib.hid hA
      clear hA
      have RS := rd_ed hrd j hlt'
      have hz : ¬ s[j].kind = 1 := K1.out _ (List.getElem_mem hlt')
      obtain ⟨⟨kd, ln_⟩, he⟩ : ∃ e, s[j] = e := ⟨_, rfl⟩
      rw [he] at RS hz
      replace hz : ¬ kd = 1 := hz
      have HT := Lib.hid (nK_take (k := 2) (show s[j]? = some (⟨kd, ln_⟩ : EdM) by rw [List.getElem?_eq_getElem hlt', he]))
      have z5 : (kd == 1) = false := by rw [beq_eq_false_iff_ne]; exact hz
      have HRS : Hid (wr.rangeAt b_ (off + j * 2) [.int .i64 kd, .string ln_]) := Lib.hid RS
      obtain ⟨W5, hW5⟩ : ∃ W, wr.alloc (.cells #[.int .i64 kd, .string ln_] 36) = W := ⟨_, rfl⟩
      obtain ⟨r5, b5, s5_⟩ := new_row hW5
      have c0 : W5.cell? ⟨wr.heap.size, 0, none⟩ = some (.int .i64 kd) := row_cell r5 0
      have HBW5 := Lib.hid (ext_trans HBW2.out b5)
      clear hrd RS he b5 s5_ hlt' r5 hz
      rw [HAA.out]
      by_cases hk2 : kd = 2
      · have z6 : (kd == 2) = true := by rw [beq_iff_eq]; exact hk2
        have HC : Hid (p + 1 = nK 2 (s.take (j + 1))) := Lib.hid (by rw [HT.out, if_pos hk2, HP.out])
        clear hk2
        go_wp2_with ((with_reducible (refine wpList_load_cells 36 _ b_ (off + j * 2) ([.int .i64 kd, .string ln_]) HRS.out Tryd.underlying36 rfl info_ed ?_ rfl ?_ ?_)); (exact rfl); (exact rfl))
        rw [← HAA.out]
        clear hW5 c0 z5 z6
        go_roundg (no - (j + 1))
        case measure => omega
        case rel => exact ⟨j + 1, p + 1, by omega, rfl, by omega, by first | rfl | exact congrArg (Value.int .i64) (by omega) | go_num, by first | rfl | exact congrArg (Value.int .i64) (by omega) | go_num, HC, HBW5⟩
      · have z6 : (kd == 2) = false := by rw [beq_eq_false_iff_ne]; exact hk2
        have HC : Hid (p = nK 2 (s.take (j + 1))) := Lib.hid (by rw [HT.out, if_neg hk2, HP.out]; rfl)
        clear hk2
        go_wp2_with ((with_reducible (refine wpList_load_cells 36 _ b_ (off + j * 2) ([.int .i64 kd, .string ln_]) HRS.out Tryd.underlying36 rfl info_ed ?_ rfl ?_ ?_)); (exact rfl); (exact rfl))
        rw [← HAA.out]
        clear hW5 c0 z5 z6
        go_roundg (no - (j + 1))
        case measure => omega
        case rel => exact ⟨j + 1, p, by omega, rfl, by omega, rfl, by first | rfl | exact congrArg (Value.int .i64) (by omega) | go_num, HC, HBW5⟩
    · obtain rfl : j = no := by omega
      have hpq : p = q := by
        have h := HP.out
        rw [← K4.out, List.take_length, KQ.out] at h
        exact h
      subst hpq
      clear hjt hj
      have R4 := Lib.hid (R3.out.below HBW2.out)
      have B4 : Hid (Below w.heap.size w wr) := Lib.hid (ext_trans B3.out HBW2.out)
      have HCC := Lib.hid (cost_any A3 s c3 wr R4.out (by rw [K4.out]; omega))
      rw [K4.out, K3.out] at HCC
      go_wp2_with fail
      refine HCC.out.mono ?_
      rintro e w5 ⟨rfl, hb5⟩
      have B5 : Hid (Below w.heap.size w w5) := Lib.hid (ext_trans B4.out hb5)
      clear hb5
      go_wp2_with fail
      go_ret
      exact ⟨rfl, B5.out⟩
end Go.Proofs.YtmniggjadfdheaaDoor
