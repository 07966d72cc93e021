
/- The law's as, same. -/

import Derived.Test.YtmniggjadfdheaaDoorLn14

namespace Go.Proofs.YtmniggjadfdheaaDoor

set_option linter.unusedVariables false

set_option linter.unusedSimpArgs false

set_option linter.unusedSectionVars false

open Go.RowKit

theorem info_red2 : (Tryd.prog.info? 58).map (fun i => (i.zero, i.size, i.bytes)) = some (some (.agg #[.int .i64 0, .string ⟨#[]⟩]), 2, 24) := by kernel_rfl
theorem info_red {a b : Value} : (Tryd.prog.info? 58).map (·.size) = some ([a, b] : List Value).length := by kernel_rfl
theorem red_built (k : Int) (l : ByteArray) : Tryd.prog.built 58 [(0, .int .i64 k), (1, .string l)] = some #[.int .i64 k, .string l] := by kernel_rfl

set_option maxRecDepth 100000 in
set_option maxHeartbeats 4000000 in
theorem as_any (A : Option Addr) (s : List EdM) (c : Nat) (w : World) (hr : Rd w A (edc s)) (hl : s.length ≤ 1000000) :
    Calls Tryd.prog 16 #[.slice A s.length c] w fun e w' => ∃ A' c', e = .returned (.slice A' s.length c') ∧ Rd w' A' (edc s) ∧ Below w.heap.size w w' := by
  have HR := Lib.hid hr
  obtain ⟨n, hn⟩ : ∃ n, s.length = n := ⟨_, rfl⟩
  have HN := Lib.hid hn
  rw [hn] at hl ⊢
  obtain ⟨W2, hW2⟩ : ∃ W, w.alloc (.cells #[] 58) = W := ⟨_, rfl⟩
  obtain ⟨r2, b2, s2⟩ := new_row hW2
  have O2 : Hid (W2.ownsRow w.heap.size 58 2 (.slice (some ⟨w.heap.size, 0, none⟩) 0 0) 0 (edc (s.take 0))) := Lib.hid (by
    rw [← hW2]; exact own_new w w.heap.size 58 2 0 [] (Nat.le_refl _) rfl (by decide))
  have HB2 := Lib.hid b2
  clear hr hn r2 b2 s2
  go_enter Tryd.func16, Tryd.ntmps16
  go_wp2_with fail
  clear hW2
  go_loopg [3, 9] (n * 1) (fun gk_ so i wr => ∃ (k : Nat) (Ao : Option Addr) (co : Nat), k ≤ n ∧ gk_ = n - k ∧ so = .slice Ao k co ∧ i = .int .i64 (k : Int) ∧ Hid (wr.ownsRow w.heap.size 58 2 (.slice Ao k co) k (edc (s.take k))) ∧ Hid (Below w.heap.size w wr))
  case atStart => exact ⟨0, _, 0, by omega, by omega, rfl, rfl, O2, HB2⟩
  case round =>
  obtain ⟨k, Ao, co, hk, rfl, rfl, rfl, HO, HBW⟩ := hrel
  by_cases hlt : k < n
  · have i1 : (k : Int) < (n : Int) := by omega
    have hlt' : k < s.length := by rw [HN.out]; exact hlt
    have hrd := HR.out.below HBW.out
    obtain ⟨b, off, hA, _⟩ := hrd.all (by rw [edc_len]; omega)
    rw [hA] at hrd
    have HA := Lib.hid hA
    clear hA
    have RS := rd_ed hrd k hlt'
    obtain ⟨⟨kd, ln_⟩, he⟩ : ∃ e, s[k] = e := ⟨_, rfl⟩
    rw [he] at RS
    have HTK : Hid (edc (s.take (k + 1)) = edc (s.take k) ++ [.int .i64 kd, .string ln_]) := Lib.hid (by
      rw [List.take_succ_eq_append_getElem hlt', he, edc_app, edc_one])
    have HRS : Hid (wr.rangeAt b (off + k * 2) [.int .i64 kd, .string ln_]) := Lib.hid RS
    obtain ⟨W5, hW5⟩ : ∃ W, wr.alloc (.cells #[.int .i64 kd, .string ln_] 36) = W := ⟨_, rfl⟩
    obtain ⟨r5, b5, s5⟩ := new_row hW5
    have c0 : W5.cell? ⟨wr.heap.size, 0, none⟩ = some (.int .i64 kd) := row_cell r5 0
    have c1_ : W5.cell? ⟨wr.heap.size, 1, none⟩ = some (.string ln_) := row_cell r5 1
    have HO5 := Lib.hid (own_below HO.out b5)
    have HBW5 := Lib.hid (ext_trans HBW.out b5)
    have HBE1 := Lib.hid (red_built kd ln_)
    obtain ⟨X1, hX1⟩ : ∃ W, W5.alloc (.cells #[.int .i64 kd, .string ln_] 58) = W := ⟨_, rfl⟩
    obtain ⟨rX1, bX1, sX1⟩ := new_row hX1
    have HOX1 := Lib.hid (own_below HO5.out bX1)
    have HRX1 : Hid (Rd X1 (some ⟨W5.heap.size, 0, none⟩) [.int .i64 kd, .string ln_]) := Lib.hid (range_rd (range_of_row (cs := [.int .i64 kd, .string ln_]) rX1))
    have HBX1 := Lib.hid (ext_trans HBW5.out bX1)
    have HBA1 := Lib.hid HBX1.out.size
    clear rX1 bX1 sX1 hrd RS he b5 s5 hlt'
    rw [HA.out]
    go_wp2_with (first
      | ((with_reducible (refine wpList_load_cells 36 _ b (off + k * 2) ([.int .i64 kd, .string ln_]) HRS.out Tryd.underlying36 rfl info_ed ?_ rfl ?_ ?_)); (exact rfl); (exact rfl))
      | ((with_reducible (refine wpList_built ?_ _ #[(0, .tmp 15), (1, .tmp 17)] ?_ _ ?_ _ HBE1.out ?_)); (exact rfl); (exact rfl); (exact rfl))
      | (at_builtin; refine wpList_append_rd _ rfl _ _ 33 rfl w.heap.size 58 _ 2 24 Tryd.underlying33 info_red2 rfl (by decide) (.slice Ao k co) k _ rfl HOX1.out _ 1 1 [.int .i64 kd, .string ln_] rfl rfl HRX1.out (edc_cell [⟨kd, ln_⟩]) (by unfold maxLen; omega) (by omega) HBA1.out ?_; intro v8 w8 ho8 hg8 hvb8; obtain ⟨A8, c8, e8, _⟩ := own_slice ho8; subst e8; have HO8 := Lib.hid ho8; have HB8 := Lib.hid (bel_own HBX1.out rfl HOX1.out hg8); clear ho8 hg8 hvb8))
    rw [← HA.out]
    clear hW5 r5 c0 c1_ hX1
    go_roundg (n - (k + 1))
    case measure => omega
    case rel => exact ⟨k + 1, A8, c8, by omega, rfl, rfl, by first | rfl | exact congrArg (Value.int .i64) (by omega) | go_num, Lib.hid (by rw [HTK.out]; exact HO8.out), HB8⟩
  · obtain rfl : k = n := by omega
    clear hlt hk
    go_wp2_with fail
    go_ret
    refine ⟨Ao, co, rfl, ?_, HBW.out⟩
    have h := own_rd HO.out
    rw [← HN.out, List.take_length] at h
    exact h

set_option maxRecDepth 100000 in
set_option maxHeartbeats 4000000 in
theorem sameS_any (A B : Option Addr) (s : List EdM) (c c' : Nat) (w : World) (ha : Rd w A (edc s)) (hb : Rd w B (edc s)) (hl : s.length ≤ 1000000) :
    Calls Tryd.prog 15 #[.slice A s.length c, .slice B s.length c'] w fun e w' => e = .returned (.bool true) ∧ Below w.heap.size w w' := by
  have HR := Lib.hid ha
  have HR' := Lib.hid hb
  obtain ⟨n, hn⟩ : ∃ n, s.length = n := ⟨_, rfl⟩
  have HN := Lib.hid hn
  rw [hn] at hl ⊢
  have z0 : ((n : Int) != (n : Int)) = false := by simp
  clear ha hb hn
  go_enter Tryd.func15, Tryd.ntmps15
  go_wp2_with fail
  go_loopg [13] (n * 1) (fun gk_ i wr => ∃ (k : Nat), k ≤ n ∧ gk_ = n - k ∧ i = .int .i64 (k : Int) ∧ Hid (Below w.heap.size w wr))
  case atStart => exact ⟨0, by omega, by omega, rfl, Lib.hid (Below.refl _ _)⟩
  case round =>
  obtain ⟨k, hk, rfl, rfl, HBW⟩ := hrel
  by_cases hlt : k < n
  · have i1 : (k : Int) < (n : Int) := by omega
    have hlt' : k < s.length := by rw [HN.out]; exact hlt
    have hrd := HR.out.below HBW.out
    have hrd' := HR'.out.below HBW.out
    obtain ⟨b, off, hA, _⟩ := hrd.all (by rw [edc_len]; omega)
    obtain ⟨b', off', hB, _⟩ := hrd'.all (by rw [edc_len]; omega)
    rw [hA] at hrd
    rw [hB] at hrd'
    have HA := Lib.hid hA
    have HB := Lib.hid hB
    clear hA hB
    have RS := rd_ed hrd k hlt'
    have RS' := rd_ed hrd' k hlt'
    obtain ⟨⟨kd, ln_⟩, he⟩ : ∃ e, s[k] = e := ⟨_, rfl⟩
    rw [he] at RS RS'
    have a0 : wr.cell? ⟨b, off + k * 2, none⟩ = some (.int .i64 kd) := RS 0 _ rfl
    have a1 : wr.cell? ⟨b, off + k * 2 + 1, none⟩ = some (.string ln_) := RS 1 _ rfl
    have b0 : wr.cell? ⟨b', off' + k * 2, none⟩ = some (.int .i64 kd) := RS' 0 _ rfl
    have b1 : wr.cell? ⟨b', off' + k * 2 + 1, none⟩ = some (.string ln_) := RS' 1 _ rfl
    have z1 : (kd != kd) = false := by simp
    have hne : ∀ w, (binOp .neq 9 (.string ln_) (.string ln_)).run Tryd.prog w = .ok (.bool false) w := fun w => by rw [bin_strne Tryd.underlying9, decide_eq_true rfl]; rfl
    clear hrd hrd' RS RS' he hlt'
    rw [HA.out, HB.out]
    go_wp2_with fail
    refine wp_region_sched (fun w' => w'.cell? ⟨b, off + k * 2, none⟩ = some (.int .i64 kd) ∧ w'.cell? ⟨b, off + k * 2 + 1, none⟩ = some (.string ln_) ∧ w'.cell? ⟨b', off' + k * 2, none⟩ = some (.int .i64 kd) ∧ w'.cell? ⟨b', off' + k * 2 + 1, none⟩ = some (.string ln_)) [(true, 0), (true, 1), (true, 2), (true, 3), (true, 4), (true, 5), (true, 6), (true, 7), (true, 8), (true, 9), (true, 10), (true, 11), (true, 12), (true, 13), (true, 14), (true, 15), (true, 16), (true, 17), (true, 18), (true, 19), (true, 20), (true, 21), (true, 22), (true, 23)] (by kernel_rfl) (by kernel_rfl) rfl (by kernel_rfl) ⟨a0, a1, b0, b1⟩ ?_
    (first | (refine wpS_pass _ rfl (by rfl) ?_; simp only [Act.put, List.getElem_toArray, List.getElem_cons_zero, List.getElem_cons_succ, List.setIfInBounds_toArray, List.set_cons_zero, List.set_cons_succ]) | (refine wpS_take _ ?_ rfl (by rfl) ?_ ?_; rotate_left; (focus (intro w' hS'; (try dsimp only at hS'); (repeat (have hS1 := hS'.1; replace hS' := hS'.2)); go_simp; (try with_reducible rfl); done)); simp only [Act.put, List.getElem_toArray, List.getElem_cons_zero, List.getElem_cons_succ, List.setIfInBounds_toArray, List.set_cons_zero, List.set_cons_succ]))
    (first | (refine wpS_pass _ rfl (by rfl) ?_; simp only [Act.put, List.getElem_toArray, List.getElem_cons_zero, List.getElem_cons_succ, List.setIfInBounds_toArray, List.set_cons_zero, List.set_cons_succ]) | (refine wpS_take _ ?_ rfl (by rfl) ?_ ?_; rotate_left; (focus (intro w' hS'; (try dsimp only at hS'); (repeat (have hS1 := hS'.1; replace hS' := hS'.2)); go_simp; (try with_reducible rfl); done)); simp only [Act.put, List.getElem_toArray, List.getElem_cons_zero, List.getElem_cons_succ, List.setIfInBounds_toArray, List.set_cons_zero, List.set_cons_succ]))
    (first | (refine wpS_pass _ rfl (by rfl) ?_; simp only [Act.put, List.getElem_toArray, List.getElem_cons_zero, List.getElem_cons_succ, List.setIfInBounds_toArray, List.set_cons_zero, List.set_cons_succ]) | (refine wpS_take _ ?_ rfl (by rfl) ?_ ?_; rotate_left; (focus (intro w' hS'; (try dsimp only at hS'); (repeat (have hS1 := hS'.1; replace hS' := hS'.2)); go_simp; (try with_reducible rfl); done)); simp only [Act.put, List.getElem_toArray, List.getElem_cons_zero, List.getElem_cons_succ, List.setIfInBounds_toArray, List.set_cons_zero, List.set_cons_succ]))
    (first | (refine wpS_pass _ rfl (by rfl) ?_; simp only [Act.put, List.getElem_toArray, List.getElem_cons_zero, List.getElem_cons_succ, List.setIfInBounds_toArray, List.set_cons_zero, List.set_cons_succ]) | (refine wpS_take _ ?_ rfl (by rfl) ?_ ?_; rotate_left; (focus (intro w' hS'; (try dsimp only at hS'); (repeat (have hS1 := hS'.1; replace hS' := hS'.2)); go_simp; (try with_reducible rfl); done)); simp only [Act.put, List.getElem_toArray, List.getElem_cons_zero, List.getElem_cons_succ, List.setIfInBounds_toArray, List.set_cons_zero, List.set_cons_succ]))
    (first | (refine wpS_pass _ rfl (by rfl) ?_; simp only [Act.put, List.getElem_toArray, List.getElem_cons_zero, List.getElem_cons_succ, List.setIfInBounds_toArray, List.set_cons_zero, List.set_cons_succ]) | (refine wpS_take _ ?_ rfl (by rfl) ?_ ?_; rotate_left; (focus (intro w' hS'; (try dsimp only at hS'); (repeat (have hS1 := hS'.1; replace hS' := hS'.2)); go_simp; (try with_reducible rfl); done)); simp only [Act.put, List.getElem_toArray, List.getElem_cons_zero, List.getElem_cons_succ, List.setIfInBounds_toArray, List.set_cons_zero, List.set_cons_succ]))
    (first | (refine wpS_pass _ rfl (by rfl) ?_; simp only [Act.put, List.getElem_toArray, List.getElem_cons_zero, List.getElem_cons_succ, List.setIfInBounds_toArray, List.set_cons_zero, List.set_cons_succ]) | (refine wpS_take _ ?_ rfl (by rfl) ?_ ?_; rotate_left; (focus (intro w' hS'; (try dsimp only at hS'); (repeat (have hS1 := hS'.1; replace hS' := hS'.2)); go_simp; (try with_reducible rfl); done)); simp only [Act.put, List.getElem_toArray, List.getElem_cons_zero, List.getElem_cons_succ, List.setIfInBounds_toArray, List.set_cons_zero, List.set_cons_succ]))
    (first | (refine wpS_pass _ rfl (by rfl) ?_; simp only [Act.put, List.getElem_toArray, List.getElem_cons_zero, List.getElem_cons_succ, List.setIfInBounds_toArray, List.set_cons_zero, List.set_cons_succ]) | (refine wpS_take _ ?_ rfl (by rfl) ?_ ?_; rotate_left; (focus (intro w' hS'; (try dsimp only at hS'); (repeat (have hS1 := hS'.1; replace hS' := hS'.2)); go_simp; (try with_reducible rfl); done)); simp only [Act.put, List.getElem_toArray, List.getElem_cons_zero, List.getElem_cons_succ, List.setIfInBounds_toArray, List.set_cons_zero, List.set_cons_succ]))
    (first | (refine wpS_pass _ rfl (by rfl) ?_; simp only [Act.put, List.getElem_toArray, List.getElem_cons_zero, List.getElem_cons_succ, List.setIfInBounds_toArray, List.set_cons_zero, List.set_cons_succ]) | (refine wpS_take _ ?_ rfl (by rfl) ?_ ?_; rotate_left; (focus (intro w' hS'; (try dsimp only at hS'); (repeat (have hS1 := hS'.1; replace hS' := hS'.2)); go_simp; (try with_reducible rfl); done)); simp only [Act.put, List.getElem_toArray, List.getElem_cons_zero, List.getElem_cons_succ, List.setIfInBounds_toArray, List.set_cons_zero, List.set_cons_succ]))
    (first | (refine wpS_pass _ rfl (by rfl) ?_; simp only [Act.put, List.getElem_toArray, List.getElem_cons_zero, List.getElem_cons_succ, List.setIfInBounds_toArray, List.set_cons_zero, List.set_cons_succ]) | (refine wpS_take _ ?_ rfl (by rfl) ?_ ?_; rotate_left; (focus (intro w' hS'; (try dsimp only at hS'); (repeat (have hS1 := hS'.1; replace hS' := hS'.2)); go_simp; (try with_reducible rfl); done)); simp only [Act.put, List.getElem_toArray, List.getElem_cons_zero, List.getElem_cons_succ, List.setIfInBounds_toArray, List.set_cons_zero, List.set_cons_succ]))
    (first | (refine wpS_pass _ rfl (by rfl) ?_; simp only [Act.put, List.getElem_toArray, List.getElem_cons_zero, List.getElem_cons_succ, List.setIfInBounds_toArray, List.set_cons_zero, List.set_cons_succ]) | (refine wpS_take _ ?_ rfl (by rfl) ?_ ?_; rotate_left; (focus (intro w' hS'; (try dsimp only at hS'); (repeat (have hS1 := hS'.1; replace hS' := hS'.2)); go_simp; (try with_reducible rfl); done)); simp only [Act.put, List.getElem_toArray, List.getElem_cons_zero, List.getElem_cons_succ, List.setIfInBounds_toArray, List.set_cons_zero, List.set_cons_succ]))
    (first | (refine wpS_pass _ rfl (by rfl) ?_; simp only [Act.put, List.getElem_toArray, List.getElem_cons_zero, List.getElem_cons_succ, List.setIfInBounds_toArray, List.set_cons_zero, List.set_cons_succ]) | (refine wpS_take _ ?_ rfl (by rfl) ?_ ?_; rotate_left; (focus (intro w' hS'; (try dsimp only at hS'); (repeat (have hS1 := hS'.1; replace hS' := hS'.2)); go_simp; (try with_reducible rfl); done)); simp only [Act.put, List.getElem_toArray, List.getElem_cons_zero, List.getElem_cons_succ, List.setIfInBounds_toArray, List.set_cons_zero, List.set_cons_succ]))
    (first | (refine wpS_pass _ rfl (by rfl) ?_; simp only [Act.put, List.getElem_toArray, List.getElem_cons_zero, List.getElem_cons_succ, List.setIfInBounds_toArray, List.set_cons_zero, List.set_cons_succ]) | (refine wpS_take _ ?_ rfl (by rfl) ?_ ?_; rotate_left; (focus (intro w' hS'; (try dsimp only at hS'); (repeat (have hS1 := hS'.1; replace hS' := hS'.2)); go_simp; (try with_reducible rfl); done)); simp only [Act.put, List.getElem_toArray, List.getElem_cons_zero, List.getElem_cons_succ, List.setIfInBounds_toArray, List.set_cons_zero, List.set_cons_succ]))
    (first | (refine wpS_pass _ rfl (by rfl) ?_; simp only [Act.put, List.getElem_toArray, List.getElem_cons_zero, List.getElem_cons_succ, List.setIfInBounds_toArray, List.set_cons_zero, List.set_cons_succ]) | (refine wpS_take _ ?_ rfl (by rfl) ?_ ?_; rotate_left; (focus (intro w' hS'; (try dsimp only at hS'); (repeat (have hS1 := hS'.1; replace hS' := hS'.2)); go_simp; (try with_reducible rfl); done)); simp only [Act.put, List.getElem_toArray, List.getElem_cons_zero, List.getElem_cons_succ, List.setIfInBounds_toArray, List.set_cons_zero, List.set_cons_succ]))
    (first | (refine wpS_pass _ rfl (by rfl) ?_; simp only [Act.put, List.getElem_toArray, List.getElem_cons_zero, List.getElem_cons_succ, List.setIfInBounds_toArray, List.set_cons_zero, List.set_cons_succ]) | (refine wpS_take _ ?_ rfl (by rfl) ?_ ?_; rotate_left; (focus (intro w' hS'; (try dsimp only at hS'); (repeat (have hS1 := hS'.1; replace hS' := hS'.2)); go_simp; (try with_reducible rfl); done)); simp only [Act.put, List.getElem_toArray, List.getElem_cons_zero, List.getElem_cons_succ, List.setIfInBounds_toArray, List.set_cons_zero, List.set_cons_succ]))
    (first | (refine wpS_pass _ rfl (by rfl) ?_; simp only [Act.put, List.getElem_toArray, List.getElem_cons_zero, List.getElem_cons_succ, List.setIfInBounds_toArray, List.set_cons_zero, List.set_cons_succ]) | (refine wpS_take _ ?_ rfl (by rfl) ?_ ?_; rotate_left; (focus (intro w' hS'; (try dsimp only at hS'); (repeat (have hS1 := hS'.1; replace hS' := hS'.2)); go_simp; (try with_reducible rfl); done)); simp only [Act.put, List.getElem_toArray, List.getElem_cons_zero, List.getElem_cons_succ, List.setIfInBounds_toArray, List.set_cons_zero, List.set_cons_succ]))
    (first | (refine wpS_pass _ rfl (by rfl) ?_; simp only [Act.put, List.getElem_toArray, List.getElem_cons_zero, List.getElem_cons_succ, List.setIfInBounds_toArray, List.set_cons_zero, List.set_cons_succ]) | (refine wpS_take _ ?_ rfl (by rfl) ?_ ?_; rotate_left; (focus (intro w' hS'; (try dsimp only at hS'); (repeat (have hS1 := hS'.1; replace hS' := hS'.2)); go_simp; (try with_reducible rfl); done)); simp only [Act.put, List.getElem_toArray, List.getElem_cons_zero, List.getElem_cons_succ, List.setIfInBounds_toArray, List.set_cons_zero, List.set_cons_succ]))
    (first | (refine wpS_pass _ rfl (by rfl) ?_; simp only [Act.put, List.getElem_toArray, List.getElem_cons_zero, List.getElem_cons_succ, List.setIfInBounds_toArray, List.set_cons_zero, List.set_cons_succ]) | (refine wpS_take _ ?_ rfl (by rfl) ?_ ?_; rotate_left; (focus (intro w' hS'; (try dsimp only at hS'); (repeat (have hS1 := hS'.1; replace hS' := hS'.2)); go_simp; (try with_reducible rfl); done)); simp only [Act.put, List.getElem_toArray, List.getElem_cons_zero, List.getElem_cons_succ, List.setIfInBounds_toArray, List.set_cons_zero, List.set_cons_succ]))
    (first | (refine wpS_pass _ rfl (by rfl) ?_; simp only [Act.put, List.getElem_toArray, List.getElem_cons_zero, List.getElem_cons_succ, List.setIfInBounds_toArray, List.set_cons_zero, List.set_cons_succ]) | (refine wpS_take _ ?_ rfl (by rfl) ?_ ?_; rotate_left; (focus (intro w' hS'; (try dsimp only at hS'); (repeat (have hS1 := hS'.1; replace hS' := hS'.2)); go_simp; (try with_reducible rfl); done)); simp only [Act.put, List.getElem_toArray, List.getElem_cons_zero, List.getElem_cons_succ, List.setIfInBounds_toArray, List.set_cons_zero, List.set_cons_succ]))
    (first | (refine wpS_pass _ rfl (by rfl) ?_; simp only [Act.put, List.getElem_toArray, List.getElem_cons_zero, List.getElem_cons_succ, List.setIfInBounds_toArray, List.set_cons_zero, List.set_cons_succ]) | (refine wpS_take _ ?_ rfl (by rfl) ?_ ?_; rotate_left; (focus (intro w' hS'; (try dsimp only at hS'); (repeat (have hS1 := hS'.1; replace hS' := hS'.2)); go_simp; (try with_reducible rfl); done)); simp only [Act.put, List.getElem_toArray, List.getElem_cons_zero, List.getElem_cons_succ, List.setIfInBounds_toArray, List.set_cons_zero, List.set_cons_succ]))
    (first | (refine wpS_pass _ rfl (by rfl) ?_; simp only [Act.put, List.getElem_toArray, List.getElem_cons_zero, List.getElem_cons_succ, List.setIfInBounds_toArray, List.set_cons_zero, List.set_cons_succ]) | (refine wpS_take _ ?_ rfl (by rfl) ?_ ?_; rotate_left; (focus (intro w' hS'; (try dsimp only at hS'); (repeat (have hS1 := hS'.1; replace hS' := hS'.2)); go_simp; (try with_reducible rfl); done)); simp only [Act.put, List.getElem_toArray, List.getElem_cons_zero, List.getElem_cons_succ, List.setIfInBounds_toArray, List.set_cons_zero, List.set_cons_succ]))
    (first | (refine wpS_pass _ rfl (by rfl) ?_; simp only [Act.put, List.getElem_toArray, List.getElem_cons_zero, List.getElem_cons_succ, List.setIfInBounds_toArray, List.set_cons_zero, List.set_cons_succ]) | (refine wpS_take _ ?_ rfl (by rfl) ?_ ?_; rotate_left; (focus (intro w' hS'; (try dsimp only at hS'); (repeat (have hS1 := hS'.1; replace hS' := hS'.2)); go_simp; (try with_reducible rfl); done)); simp only [Act.put, List.getElem_toArray, List.getElem_cons_zero, List.getElem_cons_succ, List.setIfInBounds_toArray, List.set_cons_zero, List.set_cons_succ]))
    (first | (refine wpS_pass _ rfl (by rfl) ?_; simp only [Act.put, List.getElem_toArray, List.getElem_cons_zero, List.getElem_cons_succ, List.setIfInBounds_toArray, List.set_cons_zero, List.set_cons_succ]) | (refine wpS_take _ ?_ rfl (by rfl) ?_ ?_; rotate_left; (focus (intro w' hS'; (try dsimp only at hS'); (repeat (have hS1 := hS'.1; replace hS' := hS'.2)); go_simp; (try with_reducible rfl); done)); simp only [Act.put, List.getElem_toArray, List.getElem_cons_zero, List.getElem_cons_succ, List.setIfInBounds_toArray, List.set_cons_zero, List.set_cons_succ]))
    refine wpS_take _ _ rfl (by rfl) (fun w' hS' => exec_bin _ _ _ _ _ rfl _ _ _ rfl rfl rfl (hne w')) ?_
    simp only [Act.put, List.getElem_toArray, List.getElem_cons_zero, List.getElem_cons_succ, List.setIfInBounds_toArray, List.set_cons_zero, List.set_cons_succ]
    (repeat (first | (refine wpS_pass _ rfl (by rfl) ?_; simp only [Act.put, List.getElem_toArray, List.getElem_cons_zero, List.getElem_cons_succ, List.setIfInBounds_toArray, List.set_cons_zero, List.set_cons_succ]) | (refine wpS_take _ ?_ rfl (by rfl) ?_ ?_; rotate_left; (focus (intro w' hS'; (try dsimp only at hS'); (repeat (have hS1 := hS'.1; replace hS' := hS'.2)); go_simp; (try with_reducible rfl); done)); simp only [Act.put, List.getElem_toArray, List.getElem_cons_zero, List.getElem_cons_succ, List.setIfInBounds_toArray, List.set_cons_zero, List.set_cons_succ])))
    refine wpS_done ?_
    clear a0 a1 b0 b1
    go_wp2_with fail
    rw [← HA.out, ← HB.out]
    go_roundg (n - (k + 1))
    case measure => omega
    case rel => exact ⟨k + 1, by omega, rfl, by first | rfl | exact congrArg (Value.int .i64) (by omega) | go_num, Lib.hid HBW.out.drew⟩
  · obtain rfl : k = n := by omega
    clear hlt hk
    go_wp2_with fail
    go_ret
    exact ⟨rfl, HBW.out⟩
end Go.Proofs.YtmniggjadfdheaaDoor
