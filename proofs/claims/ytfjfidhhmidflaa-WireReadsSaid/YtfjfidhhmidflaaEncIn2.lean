
/- The document's GetNum. -/

import Derived.Test.YtfjfidhhmidflaaEncIn

import Derived.Test.YtfjfidhhmidflaaEncRead2

namespace Go.Proofs.Ytfjfidhhmidflaa

set_option linter.unusedVariables false

set_option linter.unusedSimpArgs false

open Go.RowKit

theorem in_drop {w : World} {b o n c k : Nat} {bs : List UInt8} (h : Rd w (some ⟨b, o, none⟩) (b8s bs)) (hn : n = bs.length) (hk : k + 1 ≤ n) (h2 : n ≤ c) (h3 : c ≤ maxLen) :
    InV w (.agg #[.slice (if c = k + 1 then some ⟨b, o, none⟩ else some ⟨b, o + (k + 1), none⟩) (n - (k + 1)) (c - (k + 1)), .bool false]) (some (bs.drop (k + 1))) := by
  have hd := Rd.drop (k := k + 1) (size := 1) (cap := c) h (by rw [b8s_length]; omega)
  refine ⟨_, _, _, rfl, by rw [List.length_drop]; omega, by omega, by omega, ?_⟩
  simpa [b8s, Addr.add] using hd

theorem minpow (k : Nat) (h : k < 8) : 128 ^ min k 8 * 128 = 128 ^ min (k + 1) 8 := by
  rw [Nat.min_eq_left (by omega), Nat.min_eq_left (by omega), Nat.pow_succ]
theorem minpow8 (k : Nat) (h : ¬ k < 8) : 128 ^ min k 8 = 128 ^ min (k + 1) 8 := by
  rw [Nat.min_eq_right (by omega), Nat.min_eq_right (by omega)]
theorem minpow_le (k : Nat) : 128 ^ min k 8 ≤ 72057594037927936 := pow128_le _ (by omega)

set_option maxRecDepth 100000 in
set_option maxHeartbeats 2000000 in
theorem igetnum_any (st : St) (v : Value) (most : Int) (w : World) (h : InV w v st) :
    Calls Try.prog 50 #[v, .int .i64 most] w fun e w' => ∃ u, e = .returned (.tuple #[.int .i64 ((getNum st most).1 : Int), u]) ∧ InV w' u (getNum st most).2 ∧ Below w.heap.size w w' := by
  have hst := numFrom_start most st
  generalize getNum st most = R at *
  have HR := Lib.hid hst
  clear hst
  cases st with
  | none =>
    cases h
    obtain ⟨W1, hW1, hb, hc, hbel, hsz⟩ := in_entry w (.slice none 0 0) (.bool true)
    have cb0 : W1.cell? ⟨w.heap.size, 0, none⟩ = some (.slice none 0 0) := row_cell hb 0
    have cb1 : W1.cell? ⟨w.heap.size, 1, none⟩ = some (.bool true) := row_cell hb 1
    have HC := Lib.hid hc
    have Hsz := Lib.hid hsz
    clear hb hc hsz
    go_enter Try.func50, Try.ntmps50
    go_wp2_with fail
    clear hW1
    go_loop [6, 7, 8, 9] (fun a u i l => a = .int .i64 0 ∧ u = .int .i64 1 ∧ i = .int .i64 0) (fun _ _ _ _ => 0)
    case atStart => exact ⟨rfl, rfl, rfl⟩
    case round =>
      obtain ⟨rfl, rfl, rfl⟩ := hrel
      go_wp2_with fail
      refine (failed_any _).mono ?_
      rintro e w1 ⟨rfl, hbl⟩
      have hc := (hbl.block _ (by rw [Hsz.out]; omega)).trans HC.out
      have f0 := row_free hc 0
      have f1 := row_free hc 1
      have c0 : w1.cell? ⟨w.heap.size + 1, 0, none⟩ = some (.slice none 0 0) := row_cell hc 0
      have c1 : w1.cell? ⟨w.heap.size + 1, 1, none⟩ = some (.bool false) := row_cell hc 1
      have Hc := Lib.hid hc
      clear hc
      go_wp2_with fail
      have hs1 : w.heap.size ≤ W1.heap.size := by rw [Hsz.out]; omega
      have : R = (0, none) := by rw [← HR.out]; rfl
      subst this
      exact bodyPost_ret (results_tmp_row rfl _ _ _ _ _ _ _ rfl (row_set2 Hc.out _ _) Try.underlying86 rfl info_in) rfl ⟨_, rfl, rfl, bel_set2 (hbel.trans (hbl.mono hs1)) (Nat.le_trans hs1 hbl.size) (by omega) _ _⟩
  | some bs =>
    obtain ⟨A, n, c, rfl, hn, h2, h3, h4⟩ := h
    obtain ⟨W1, hW1, hb, hc, hbel, hsz⟩ := in_entry w (.slice A n c) (.bool false)
    have cb0 : W1.cell? ⟨w.heap.size, 0, none⟩ = some (.slice A n c) := row_cell hb 0
    have cb1 : W1.cell? ⟨w.heap.size, 1, none⟩ = some (.bool false) := row_cell hb 1
    have HC := Lib.hid hc
    have Hsz := Lib.hid hsz
    have Hn := Lib.hid hn
    have H4 := Lib.hid h4
    clear hb hc hsz hn h4
    go_enter Try.func50, Try.ntmps50
    go_wp2_with fail
    clear hW1
    go_loop [6, 7, 8, 9] (fun a u i l => ∃ (k acc U : Nat), k ≤ bs.length ∧ k ≤ 9 ∧ a = .int .i64 (acc : Int) ∧ u = .int .i64 (U : Int) ∧ i = .int .i64 (k : Int) ∧ Hid (acc < 128 ^ k) ∧ acc < 9223372036854775808 ∧ Hid (U = 128 ^ min k 8) ∧ U ≤ 72057594037927936 ∧ Hid (numFrom most k acc (some (bs.drop k)) = R)) (fun _ _ i _ => 9 - (intOf i).toNat)
    case atStart => exact ⟨0, 0, 1, by omega, by omega, rfl, rfl, rfl, by show 0 < 128 ^ 0; decide, by omega, by show 1 = 128 ^ min 0 8; decide, by omega, HR.out⟩
    case round =>
      obtain ⟨k, acc, U, hk, hk9, rfl, rfl, rfl, hacc, hacc2, hU, hU2, hR⟩ := hrel
      by_cases hlt : k < bs.length
      · by_cases hlt9 : k < 9
        · have hn := Hn.out
          have hlt' : k < n := by omega
          clear hn
          obtain ⟨b, o, rfl, hcell⟩ := (H4.out.below hbel).byte k hlt
          have hdrop : bs.drop k = bs[k] :: bs.drop (k + 1) := List.drop_eq_getElem_cons hlt
          have hR' := hR.out
          rw [hdrop] at hR'
          have hmore := numFrom_more most k acc hlt9 bs[k] (bs.drop (k + 1))
          have hbad := numFrom_bad most k acc hlt9 bs[k] (bs.drop (k + 1))
          have hgood := numFrom_good most k acc hlt9 bs[k] (bs.drop (k + 1))
          have hV1 := acc_le k acc bs[k] hlt9 hacc.out
          have hV2 := acc_lt k acc bs[k] hacc.out
          have hUk : 128 ^ k = U := by rw [hU.out, Nat.min_eq_left (by omega)]
          rw [hUk] at hmore hbad hgood hV1 hV2
          have hc8 := bs[k].toNat_lt
          generalize bs[k] = x at *
          have hx : x.toNat % 128 ≤ 127 := by omega
          have e1 : ((x.toNat : Int) % 128) = ((x.toNat % 128 : Nat) : Int) := by omega
          have hm : x.toNat % 128 * U < 9223372036854775808 := by omega
          have e2 : ((x.toNat % 128 : Nat) : Int) * (U : Int) = ((x.toNat % 128 * U : Nat) : Int) := by simp
          have hbig : k = 8 → 64 < x.toNat % 128 → 4611686018427387904 < acc + x.toNat % 128 * U := by
            intro h8 h64
            have : U = 72057594037927936 := by rw [hU.out, h8]; decide
            subst this
            omega
          have hH1 := Lib.hid hmore
          have hH2 := Lib.hid hbad
          have hH3 := Lib.hid hgood
          have hH4 := Lib.hid hbig
          have hH5 := Lib.hid hV2
          have hH6 := Lib.hid hR'
          clear hmore hbad hgood hbig hV2 hR' hdrop hR hacc HR
          generalize x.toNat % 128 = m at *
          generalize m * U = M at *
          by_cases h8 : k = 8
          · subst h8
            by_cases hm64 : 64 < m
            · have hm64' : (64 : Int) < (m : Int) := by omega
              have hRR : R = (0, none) := by
                rw [← hH6.out]
                by_cases hx8 : 128 ≤ x.toNat
                · rw [hH1.out hx8]; exact numFrom_end _ _ _
                · exact hH2.out (by omega) (.inl (hH4.out rfl hm64))
              have HRR := Lib.hid hRR
              clear hRR
              go_wp2_with fail
              refine (failed_any _).mono ?_
              rintro e w1 ⟨rfl, hbl⟩
              have hc := (hbl.block _ (by rw [Hsz.out]; omega)).trans HC.out
              have f0 := row_free hc 0
              have f1 := row_free hc 1
              have c0 : w1.cell? ⟨w.heap.size + 1, 0, none⟩ = some (.slice none 0 0) := row_cell hc 0
              have c1 : w1.cell? ⟨w.heap.size + 1, 1, none⟩ = some (.bool false) := row_cell hc 1
              have Hc := Lib.hid hc
              clear hc
              go_wp2_with fail
              have hs1 : w.heap.size ≤ W1.heap.size := by rw [Hsz.out]; omega
              have : R = (0, none) := HRR.out
              subst this
              exact bodyPost_ret (results_tmp_row rfl _ _ _ _ _ _ _ rfl (row_set2 Hc.out _ _) Try.underlying86 rfl info_in) rfl ⟨_, rfl, rfl, bel_set2 (hbel.trans (hbl.mono hs1)) (Nat.le_trans hs1 hbl.size) (by omega) _ _⟩
            · have hm64' : ¬ (64 : Int) < (m : Int) := by omega
              by_cases hx8 : 128 ≤ x.toNat
              · have hx8' : ¬ (x.toNat : Int) < 128 := by omega
                go_wp2_with fail
                go_round
                case rel => exact ⟨9, acc + M, U, by omega, by omega, by go_num, by go_num, by go_num, hH5, hV1, by show _ = _; rw [hU.out]; decide, by omega, by show _ = _; rw [← hH1.out hx8]; exact hH6.out⟩
                case measure => simp [intOf]
              · have hx8' : (x.toNat : Int) < 128 := by omega
                have e9 : IntKind.i64.wrap (8 + 1) = 9 := rfl
                have e9' : IntKind.i64.wrap 9 = 9 := rfl
                go_wp2_with fail
                all_goals first
                  | (
                      refine (failed_any _).mono ?_
                      rintro e w1 ⟨rfl, hbl⟩
                      have hc := (hbl.block _ (by rw [Hsz.out]; omega)).trans HC.out
                      have f0 := row_free hc 0
                      have f1 := row_free hc 1
                      have c0 : w1.cell? ⟨w.heap.size + 1, 0, none⟩ = some (.slice none 0 0) := row_cell hc 0
                      have c1 : w1.cell? ⟨w.heap.size + 1, 1, none⟩ = some (.bool false) := row_cell hc 1
                      have Hc := Lib.hid hc
                      clear hc
                      go_wp2_with fail
                      have hs1 : w.heap.size ≤ W1.heap.size := by rw [Hsz.out]; omega
                      have : R = (0, none) := by rw [← hH6.out]; exact hH2.out (by omega) (by omega)
                      subst this
                      exact bodyPost_ret (results_tmp_row rfl _ _ _ _ _ _ _ rfl (row_set2 Hc.out _ _) Try.underlying86 rfl info_in) rfl ⟨_, rfl, rfl, bel_set2 (hbel.trans (hbl.mono hs1)) (Nat.le_trans hs1 hbl.size) (by omega) _ _⟩)
                  | (
                      have hs1 : w.heap.size ≤ W1.heap.size := by rw [Hsz.out]; omega
                      have hk1 : 9 ≤ n := by omega
                      have hki : (9 : Int) ≤ (n : Int) := by omega
                      have hk2 : 1 ≤ n := by omega
                      have hk3 : (1 : Int) ≤ (n : Int) := by omega
                      have ew1 : IntKind.i64.wrap 1 = 1 := rfl

                      refine wp_region_sched (fun w' => w'.cell? ⟨w.heap.size, 0, none⟩ = some (.slice (some ⟨b, o, none⟩) n c)) [(true, 0), (true, 1), (true, 2), (true, 3), (true, 4), (true, 5), (true, 6), (true, 7), (false, 8)] (by kernel_rfl) (by kernel_rfl) rfl (by kernel_rfl) cb0 ?_
                      (repeat (first | (refine wpS_pass _ rfl (by rfl) ?_; simp only [Act.put, List.getElem_toArray, List.getElem_cons_zero, List.getElem_cons_succ, List.setIfInBounds_toArray, List.set_cons_zero, List.set_cons_succ]) | (refine wpS_take _ ?_ rfl (by rfl) ?_ ?_; rotate_left; (focus (intro w' hS'; (try dsimp only at hS'); (repeat (have hS1 := hS'.1; replace hS' := hS'.2)); go_simp; (try with_reducible rfl); done)); simp only [Act.put, List.getElem_toArray, List.getElem_cons_zero, List.getElem_cons_succ, List.setIfInBounds_toArray, List.set_cons_zero, List.set_cons_succ])))
                      (skip
                       obtain ⟨A', hA'⟩ : ∃ A', (if c = 9 then some (⟨b, o, none⟩ : Addr) else some ⟨b, o + 9, none⟩) = A' := ⟨_, rfl⟩
                       rw [hA']
                       have HA := Lib.hid hA'
                       clear hA'
                       refine wpS_do _ rfl (by rfl) (fun K hK => ?_)
                       have hc := HC.out
                       have f0 : W1.frozen? ⟨w.heap.size + 1, 0, none⟩ = false := row_free hc 0
                       have f1 : W1.frozen? ⟨w.heap.size + 1, 1, none⟩ = false := row_free hc 1
                       have c0 : W1.cell? ⟨w.heap.size + 1, 0, none⟩ = some (.slice none 0 0) := row_cell hc 0
                       have c1 : W1.cell? ⟨w.heap.size + 1, 1, none⟩ = some (.bool false) := row_cell hc 1
                       clear hc
                       go_simp
                       refine hK.out _ _ (by rw [set2_far _ _ _ _ _ (by simp)]; exact cb0) (fun hS => ?_)
                       clear hS hK f0 f1 c0 c1
                       refine wpS_done ?_
                       go_wp2_with fail
                       have hR := hH6.out
                       rw [hH3.out (by omega) (by omega)] at hR
                       subst hR
                       have hbl := (bel_set2 hbel hs1 (g := w.heap.size + 1) (by omega) (.slice A' (n - 9) (c - 9)) (.bool false)).drew
                       refine bodyPost_ret (results_tmp_row rfl _ _ _ _ _ _ _ rfl (row_set2d HC.out _ _) Try.underlying86 rfl info_in) rfl ?_
                       refine ⟨.agg #[.slice A' (n - 9) (c - 9), .bool false], by show Ending.returned (.tuple #[.int .i64 ((acc : Int) + (M : Int)), _]) = .returned (.tuple #[.int .i64 ((acc + M : Nat) : Int), _]); rw [Int.natCast_add], ?_, hbl⟩
                       have hI := in_drop (k := 8) (H4.out.below hbl) Hn.out (by omega) h2 h3
                       simp only [Nat.reduceAdd] at hI
                       rw [HA.out] at hI
                       exact hI))
          · have h8' : ¬ (k : Int) = 8 := by omega
            by_cases hx8 : 128 ≤ x.toNat
            · have hx8' : ¬ (x.toNat : Int) < 128 := by omega
              have hU7 : U ≤ 562949953421312 := by
                have := hU.out
                have h7 : 128 ^ min k 8 ≤ 128 ^ 7 := Nat.pow_le_pow_right (by decide) (by omega)
                have h77 : (128 : Nat) ^ 7 = 562949953421312 := by decide
                omega
              have hmin := minpow k (by omega)
              have hk8i : (k : Int) < 8 := by omega
              have HM := Lib.hid hmin
              clear hmin
              go_wp2_with fail
              go_round
              case rel => exact ⟨k + 1, acc + M, U * 128, by omega, by omega, by go_num, by go_num, by go_num, hH5, hV1, by show _ = _; rw [← HM.out, hU.out], by omega, by show _ = _; rw [← hH1.out hx8]; exact hH6.out⟩
              case measure => simp [intOf]; omega
            · have hx8' : (x.toNat : Int) < 128 := by omega
              go_wp2_with fail
              all_goals first
                | (
                    refine (failed_any _).mono ?_
                    rintro e w1 ⟨rfl, hbl⟩
                    have hc := (hbl.block _ (by rw [Hsz.out]; omega)).trans HC.out
                    have f0 := row_free hc 0
                    have f1 := row_free hc 1
                    have c0 : w1.cell? ⟨w.heap.size + 1, 0, none⟩ = some (.slice none 0 0) := row_cell hc 0
                    have c1 : w1.cell? ⟨w.heap.size + 1, 1, none⟩ = some (.bool false) := row_cell hc 1
                    have Hc := Lib.hid hc
                    clear hc
                    go_wp2_with fail
                    have hs1 : w.heap.size ≤ W1.heap.size := by rw [Hsz.out]; omega
                    have : R = (0, none) := by rw [← hH6.out]; exact hH2.out (by omega) (by omega)
                    subst this
                    exact bodyPost_ret (results_tmp_row rfl _ _ _ _ _ _ _ rfl (row_set2 Hc.out _ _) Try.underlying86 rfl info_in) rfl ⟨_, rfl, rfl, bel_set2 (hbel.trans (hbl.mono hs1)) (Nat.le_trans hs1 hbl.size) (by omega) _ _⟩)
                | (
                    have hs1 : w.heap.size ≤ W1.heap.size := by rw [Hsz.out]; omega
                    have hk1 : k + 1 ≤ n := by omega
                    have hki : (k : Int) + 1 ≤ (n : Int) := by omega
                    have hk2 : 1 ≤ n := by omega
                    have hk3 : (1 : Int) ≤ (n : Int) := by omega
                    have ew1 : IntKind.i64.wrap 1 = 1 := rfl
                    have ewk : IntKind.i64.wrap ((k : Int) + 1) = (k : Int) + 1 := by rw [IntKind.wrap_i64]; omega
                    have ewn : ((k : Int) + 1).toNat = k + 1 := by omega
                    have ewp : 0 ≤ (k : Int) + 1 := by omega
                    refine wp_region_sched (fun w' => w'.cell? ⟨w.heap.size, 0, none⟩ = some (.slice (some ⟨b, o, none⟩) n c)) [(true, 0), (true, 1), (true, 2), (true, 3), (true, 4), (true, 5), (true, 6), (true, 7), (false, 8)] (by kernel_rfl) (by kernel_rfl) rfl (by kernel_rfl) cb0 ?_
                    (repeat (first | (refine wpS_pass _ rfl (by rfl) ?_; simp only [Act.put, List.getElem_toArray, List.getElem_cons_zero, List.getElem_cons_succ, List.setIfInBounds_toArray, List.set_cons_zero, List.set_cons_succ]) | (refine wpS_take _ ?_ rfl (by rfl) ?_ ?_; rotate_left; (focus (intro w' hS'; (try dsimp only at hS'); (repeat (have hS1 := hS'.1; replace hS' := hS'.2)); go_simp; (try with_reducible rfl); done)); simp only [Act.put, List.getElem_toArray, List.getElem_cons_zero, List.getElem_cons_succ, List.setIfInBounds_toArray, List.set_cons_zero, List.set_cons_succ])))
                    first
                      | (obtain ⟨A', hA'⟩ : ∃ A', (if c = k + 1 then some (⟨b, o, none⟩ : Addr) else some ⟨b, o + (k + 1), none⟩) = A' := ⟨_, rfl⟩
                         rw [hA']
                         have HA := Lib.hid hA'
                         clear hA'
                         refine wpS_do _ rfl (by rfl) (fun K hK => ?_)
                         have hc := HC.out
                         have f0 : W1.frozen? ⟨w.heap.size + 1, 0, none⟩ = false := row_free hc 0
                         have f1 : W1.frozen? ⟨w.heap.size + 1, 1, none⟩ = false := row_free hc 1
                         have c0 : W1.cell? ⟨w.heap.size + 1, 0, none⟩ = some (.slice none 0 0) := row_cell hc 0
                         have c1 : W1.cell? ⟨w.heap.size + 1, 1, none⟩ = some (.bool false) := row_cell hc 1
                         clear hc
                         go_simp
                         refine hK.out _ _ (by rw [set2_far _ _ _ _ _ (by simp)]; exact cb0) (fun hS => ?_)
                         clear hS hK f0 f1 c0 c1
                         refine wpS_done ?_
                         go_wp2_with fail
                         have hR := hH6.out
                         rw [hH3.out (by omega) (by omega)] at hR
                         subst hR
                         have hbl := (bel_set2 hbel hs1 (g := w.heap.size + 1) (by omega) (.slice A' (n - (k + 1)) (c - (k + 1))) (.bool false)).drew
                         refine bodyPost_ret (results_tmp_row rfl _ _ _ _ _ _ _ rfl (row_set2d HC.out _ _) Try.underlying86 rfl info_in) rfl ?_
                         refine ⟨.agg #[.slice A' (n - (k + 1)) (c - (k + 1)), .bool false], by show Ending.returned (.tuple #[.int .i64 ((acc : Int) + (M : Int)), _]) = .returned (.tuple #[.int .i64 ((acc + M : Nat) : Int), _]); rw [Int.natCast_add], ?_, hbl⟩
                         have hI := in_drop (k := k) (H4.out.below hbl) Hn.out (by omega) h2 h3
                         rw [HA.out] at hI
                         exact hI)
                      | (obtain rfl : k = 0 := by assumption
                         obtain ⟨A', hA'⟩ : ∃ A', (if c = 1 then some (⟨b, o, none⟩ : Addr) else some ⟨b, o + 1, none⟩) = A' := ⟨_, rfl⟩
                         rw [hA']
                         have HA := Lib.hid hA'
                         clear hA'
                         refine wpS_do _ rfl (by rfl) (fun K hK => ?_)
                         have hc := HC.out
                         have f0 : W1.frozen? ⟨w.heap.size + 1, 0, none⟩ = false := row_free hc 0
                         have f1 : W1.frozen? ⟨w.heap.size + 1, 1, none⟩ = false := row_free hc 1
                         have c0 : W1.cell? ⟨w.heap.size + 1, 0, none⟩ = some (.slice none 0 0) := row_cell hc 0
                         have c1 : W1.cell? ⟨w.heap.size + 1, 1, none⟩ = some (.bool false) := row_cell hc 1
                         clear hc
                         go_simp
                         refine hK.out _ _ (by rw [set2_far _ _ _ _ _ (by simp)]; exact cb0) (fun hS => ?_)
                         clear hS hK f0 f1 c0 c1
                         refine wpS_done ?_
                         go_wp2_with fail
                         have hR := hH6.out
                         rw [hH3.out (by omega) (by omega)] at hR
                         subst hR
                         have hbl := (bel_set2 hbel hs1 (g := w.heap.size + 1) (by omega) (.slice A' (n - 1) (c - 1)) (.bool false)).drew
                         refine bodyPost_ret (results_tmp_row rfl _ _ _ _ _ _ _ rfl (row_set2d HC.out _ _) Try.underlying86 rfl info_in) rfl ?_
                         refine ⟨.agg #[.slice A' (n - 1) (c - 1), .bool false], by show Ending.returned (.tuple #[.int .i64 ((acc : Int) + (M : Int)), _]) = .returned (.tuple #[.int .i64 ((acc + M : Nat) : Int), _]); rw [Int.natCast_add], ?_, hbl⟩
                         have hI := in_drop (k := 0) (H4.out.below hbl) Hn.out (by omega) h2 h3
                         simp only [Nat.zero_add] at hI
                         rw [HA.out] at hI
                         exact hI))
        · have : k = 9 := by omega
          subst this
          have hR' := hR.out
          rw [numFrom_end] at hR'
          have HR' := Lib.hid hR'
          clear hR hR' hU hacc HR
          have hn := Hn.out
          have hlt' : 9 < n := by omega
          clear hn
          go_wp2_with fail
          refine (failed_any _).mono ?_
          rintro e w1 ⟨rfl, hbl⟩
          have hc := (hbl.block _ (by rw [Hsz.out]; omega)).trans HC.out
          have f0 := row_free hc 0
          have f1 := row_free hc 1
          have c0 : w1.cell? ⟨w.heap.size + 1, 0, none⟩ = some (.slice none 0 0) := row_cell hc 0
          have c1 : w1.cell? ⟨w.heap.size + 1, 1, none⟩ = some (.bool false) := row_cell hc 1
          have Hc := Lib.hid hc
          clear hc
          go_wp2_with fail
          have hs1 : w.heap.size ≤ W1.heap.size := by rw [Hsz.out]; omega
          have : R = (0, none) := by rw [← HR'.out]
          subst this
          exact bodyPost_ret (results_tmp_row rfl _ _ _ _ _ _ _ rfl (row_set2 Hc.out _ _) Try.underlying86 rfl info_in) rfl ⟨_, rfl, rfl, bel_set2 (hbel.trans (hbl.mono hs1)) (Nat.le_trans hs1 hbl.size) (by omega) _ _⟩
      · have hn := Hn.out
        have hlt' : ¬ k < n := by omega
        have hR' := hR.out
        have hk0 : k = bs.length := by omega
        have hR2 : (0, none) = R := by
          rw [← hR', List.drop_of_length_le (by omega)]
          by_cases h9 : k < 9
          · exact (numFrom_none most k acc h9 (some []) (by intro b hb; cases hb; simp)).symm
          · obtain rfl : k = 9 := by omega
            exact (numFrom_end _ _ _).symm
        have HR' := Lib.hid hR2
        clear hR hR' hU hacc HR hn hk0 hR2
        go_wp2_with fail
        refine (failed_any _).mono ?_
        rintro e w1 ⟨rfl, hbl⟩
        have hc := (hbl.block _ (by rw [Hsz.out]; omega)).trans HC.out
        have f0 := row_free hc 0
        have f1 := row_free hc 1
        have c0 : w1.cell? ⟨w.heap.size + 1, 0, none⟩ = some (.slice none 0 0) := row_cell hc 0
        have c1 : w1.cell? ⟨w.heap.size + 1, 1, none⟩ = some (.bool false) := row_cell hc 1
        have Hc := Lib.hid hc
        clear hc
        go_wp2_with fail
        have hs1 : w.heap.size ≤ W1.heap.size := by rw [Hsz.out]; omega
        have : R = (0, none) := by rw [← HR'.out]
        subst this
        exact bodyPost_ret (results_tmp_row rfl _ _ _ _ _ _ _ rfl (row_set2 Hc.out _ _) Try.underlying86 rfl info_in) rfl ⟨_, rfl, rfl, bel_set2 (hbel.trans (hbl.mono hs1)) (Nat.le_trans hs1 hbl.size) (by omega) _ _⟩
end Go.Proofs.Ytfjfidhhmidflaa
