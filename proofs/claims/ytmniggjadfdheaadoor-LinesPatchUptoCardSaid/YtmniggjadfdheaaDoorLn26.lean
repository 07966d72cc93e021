
/- The document's Patch. (Printed by wip/genLn26.py.) -/

import Derived.Test.YtmniggjadfdheaaDoorLn21

namespace Go.Proofs.YtmniggjadfdheaaDoor

set_option linter.unusedVariables false

set_option linter.unusedSimpArgs false

set_option linter.unusedSectionVars false

open Go.RowKit

set_option maxRecDepth 100000 in
set_option maxHeartbeats 8000000 in
theorem rpatch_any (A B : Option Addr) (a : List ByteArray) (s : List EdM) (c c' : Nat) (w : World) (ha : Rd w A (sts a)) (hr : Rd w B (edc s)) (hla : a.length ≤ 1000000) (hl : s.length ≤ 1000000) :
    Calls Tryd.prog 17 #[.slice A a.length c, .slice B s.length c'] w fun e w' => PatOut w w' e (patchP a s) := by
  have HR := Lib.hid hr
  have HAA := Lib.hid ha
  obtain ⟨n, hn⟩ : ∃ n, s.length = n := ⟨_, rfl⟩
  have HN := Lib.hid hn
  obtain ⟨m, hm⟩ : ∃ m, a.length = m := ⟨_, rfl⟩
  have HM := Lib.hid hm
  rw [hn] at hl ⊢
  rw [hm] at hla ⊢
  obtain ⟨q, hq⟩ : ∃ q, patchP a s = q := ⟨_, rfl⟩
  have HQQ : Hid (patchG (a.drop 0) (s.drop 0) [] = q) := Lib.hid hq
  rw [hq]
  obtain ⟨W2, hW2⟩ : ∃ W, w.alloc (.cells #[] 9) = W := ⟨_, rfl⟩
  obtain ⟨r2, b2, s2⟩ := new_row hW2
  have O2 : Hid (W2.ownsRow w.heap.size 9 1 (.slice (some ⟨w.heap.size, 0, none⟩) 0 0) 0 (sts [])) := Lib.hid (by
    rw [← hW2]; exact own_new w w.heap.size 9 1 0 [] (Nat.le_refl _) rfl (by decide))
  have HB2 := Lib.hid b2
  clear r2 b2 s2 hr hn ha hq hm
  go_enter Tryd.func17, Tryd.ntmps17
  go_wp2_with fail
  clear hW2
  go_loopg [6, 7, 8] (n * 1) (fun gk_ so sp i wr => ∃ (k p : Nat) (Ao : Option Addr) (no co : Nat) (out : List ByteArray), k ≤ n ∧ gk_ = n - k ∧ no ≤ k ∧ p ≤ m ∧ i = .int .i64 (k : Int) ∧ sp = .int .i64 (p : Int) ∧ so = .slice Ao no co ∧ Hid (patchG (a.drop p) (s.drop k) out = q) ∧ Hid (wr.ownsRow w.heap.size 9 1 (.slice Ao no co) no (sts out)) ∧ Hid (Below w.heap.size w wr))
  case atStart => exact ⟨0, 0, _, 0, 0, [], by omega, by omega, by omega, by omega, rfl, rfl, rfl, HQQ, O2, HB2⟩
  case round =>
  obtain ⟨k, p, Ao, no, co, out, hk, rfl, hno, hp, rfl, rfl, rfl, HG, HO, HBW⟩ := hrel
  by_cases hlt : k < n
  · have i1 : (k : Int) < (n : Int) := by omega
    have hlt' : k < s.length := by rw [HN.out]; exact hlt
    have hrd := HR.out.below HBW.out
    obtain ⟨b, off, hA, _⟩ := hrd.all (by rw [edc_len]; omega)
    rw [hA] at hrd
    have HA := Lib.hid hA
    clear hA
    have RS := rd_ed hrd k hlt'
    obtain ⟨⟨kd, ln_⟩, he⟩ : ∃ e, s[k] = e := ⟨_, rfl⟩
    rw [he] at RS
    have HE : Hid (s[k]? = some (⟨kd, ln_⟩ : EdM)) := Lib.hid (by rw [List.getElem?_eq_getElem hlt', he])
    have HRS : Hid (wr.rangeAt b (off + k * 2) [.int .i64 kd, .string ln_]) := Lib.hid RS
    obtain ⟨W5, hW5⟩ : ∃ W, wr.alloc (.cells #[.int .i64 kd, .string ln_] 58) = W := ⟨_, rfl⟩
    obtain ⟨r5, b5, s5⟩ := new_row hW5
    have c0 : W5.cell? ⟨wr.heap.size, 0, none⟩ = some (.int .i64 kd) := row_cell r5 0
    have c1_ : W5.cell? ⟨wr.heap.size, 1, none⟩ = some (.string ln_) := row_cell r5 1
    have HB5 := Lib.hid b5
    clear hrd RS he b5 s5 hlt' r5
    rw [HA.out]
    have HBE := Lib.hid (ext_trans HBW.out HB5.out)
    have HDR : Hid (s.drop k = ⟨kd, ln_⟩ :: s.drop (k + 1)) := Lib.hid (drop_of HE.out)
    have HRA5 := Lib.hid (HAA.out.below HBE.out)
    have HOA := Lib.hid (own_below HO.out HB5.out)
    by_cases hlo : kd < 0
    · have HQ_ : Hid (q = ([], 1)) := Lib.hid (by have h := HG.out; rw [HDR.out, patchG_cons5 (by omega) (by omega) (by omega)] at h; exact h.symm)
      go_wp2_with ((with_reducible (refine wpList_load_cells 58 _ b (off + k * 2) ([.int .i64 kd, .string ln_]) HRS.out Tryd.underlying58 rfl info_red ?_ rfl ?_ ?_)); (exact rfl); (exact rfl))
      have HQ : Hid (q = ([], 1)) := HQ_
      go_ret2
      refine ⟨none, 0, 0, ?_, ?_, Nat.le_refl _, Nat.zero_le _, ?_, HBE.out⟩
      · rw [HQ.out]; rfl
      · rw [HQ.out]; rfl
      · rw [HQ.out]; exact Rd.nil
    by_cases hhi : 2 < kd
    · have HQ_ : Hid (q = ([], 1)) := Lib.hid (by have h := HG.out; rw [HDR.out, patchG_cons5 (by omega) (by omega) (by omega)] at h; exact h.symm)
      go_wp2_with ((with_reducible (refine wpList_load_cells 58 _ b (off + k * 2) ([.int .i64 kd, .string ln_]) HRS.out Tryd.underlying58 rfl info_red ?_ rfl ?_ ?_)); (exact rfl); (exact rfl))
      have HQ : Hid (q = ([], 1)) := HQ_
      go_ret2
      refine ⟨none, 0, 0, ?_, ?_, Nat.le_refl _, Nat.zero_le _, ?_, HBE.out⟩
      · rw [HQ.out]; rfl
      · rw [HQ.out]; rfl
      · rw [HQ.out]; exact Rd.nil
    by_cases h2 : kd = 2
    · subst h2
      clear hlo hhi
      have HOQ := HOA
      have HBQ := HBE
      obtain ⟨WQ, hWQ⟩ : ∃ W, W = W5 := ⟨_, rfl⟩
      subst hWQ
      obtain ⟨W6, hW6⟩ : ∃ W, WQ.alloc (.cells #[.string ln_] 9) = W := ⟨_, rfl⟩
      obtain ⟨r6, b6, s6⟩ := new_row hW6
      have HO6 : Hid (W6.ownsRow w.heap.size 9 1 (.slice Ao no co) no (sts out)) := Lib.hid (own_below HOQ.out b6)
      have HR6 : Hid (Rd W6 (some ⟨WQ.heap.size, 0, none⟩) (sts [ln_])) := Lib.hid (range_rd (range_of_row (cs := sts [ln_]) r6))
      have HBX : Hid (Below w.heap.size w W6) := Lib.hid (ext_trans HBQ.out b6)
      have HBA := Lib.hid HBX.out.size
      clear r6 b6 s6
      go_wp2_with (first
        | ((with_reducible (refine wpList_load_cells 58 _ b (off + k * 2) ([.int .i64 2, .string ln_]) HRS.out Tryd.underlying58 rfl info_red ?_ rfl ?_ ?_)); (exact rfl); (exact rfl))
        | (at_builtin; refine wpList_append_rd _ rfl _ _ 22 rfl w.heap.size 9 _ 1 16 Tryd.underlying22 info_str rfl (by decide) (.slice Ao no co) no _ rfl HO6.out _ 1 1 (sts [ln_]) rfl rfl HR6.out (sts_one _) (by unfold maxLen; omega) (by omega) HBA.out ?_; intro v7 w7 ho7 hg7 hvb7; obtain ⟨A7, c7, e7, _⟩ := own_slice ho7; subst e7; have HO7 := Lib.hid ho7; have HB7 := Lib.hid (bel_own HBX.out rfl HO6.out hg7); clear ho7 hg7 hvb7))
      have HGN : Hid (patchG (a.drop p) (s.drop (k + 1)) (out ++ [ln_]) = q) := Lib.hid (by have h := HG.out; rw [HDR.out, patchG_cons4 rfl] at h; exact h)
      rw [← HA.out]
      clear hW5 c0 c1_ hW6
      go_roundg (n - (k + 1))
      case measure => omega
      case rel => exact ⟨k + 1, p, A7, no + 1, c7, out ++ [ln_], by omega, rfl, by omega, by omega, by first | rfl | exact congrArg (Value.int .i64) (by omega) | go_num, by first | rfl | exact congrArg (Value.int .i64) (by omega) | go_num, rfl, HGN, Lib.hid (by rw [sts_app]; exact HO7.out), HB7⟩
    by_cases h0 : kd = 0
    · subst h0
      clear hlo hhi h2
      by_cases hpm : p < m
      · have j1 : (p : Int) < (m : Int) := by omega
        have j2 : decide (m ≤ p) = false := decide_eq_false (by omega)
        have hp' : p < a.length := by rw [HM.out]; exact hpm
        obtain ⟨bA, oA, hA1, hA2⟩ := HRA5.out p _ (sts_get a p hp')
        obtain ⟨x, hx_⟩ : ∃ x, a[p] = x := ⟨_, rfl⟩
        rw [hx_] at hA2
        have HDA : Hid (a.drop p = x :: a.drop (p + 1)) := Lib.hid (by rw [← hx_, List.drop_eq_getElem_cons])
        have HA1 := Lib.hid hA1
        rw [hA1]
        have hne := fun w => bin_strne (P := Tryd.prog) Tryd.underlying9 x ln_ w
        clear hA1 hx_ hp'
        by_cases hx : x = ln_
        · have z6 : (!decide (x = ln_)) = false := by rw [decide_eq_true hx]; rfl
          have HX := Lib.hid hx
          clear hx
          go_wp2_with ((with_reducible (refine wpList_load_cells 58 _ b (off + k * 2) ([.int .i64 0, .string ln_]) HRS.out Tryd.underlying58 rfl info_red ?_ rfl ?_ ?_)); (exact rfl); (exact rfl))
          refine wp_region_sched (fun w' => w'.cell? ⟨wr.heap.size, 1, none⟩ = some (.string ln_) ∧ w'.cell? ⟨bA, oA + p, none⟩ = some (.string x)) [(true, 0), (true, 1), (true, 2), (true, 3), (true, 4), (true, 5), (true, 6), (true, 7), (true, 8), (true, 9), (true, 10), (true, 11), (true, 12)] (by kernel_rfl) (by kernel_rfl) rfl (by kernel_rfl) ⟨c1_, hA2⟩ ?_
          (first | (refine wpS_pass _ rfl (by rfl) ?_; simp only [Act.put, List.getElem_toArray, List.getElem_cons_zero, List.getElem_cons_succ, List.setIfInBounds_toArray, List.set_cons_zero, List.set_cons_succ]) | (refine wpS_take _ ?_ rfl (by rfl) ?_ ?_; rotate_left; (focus (intro w' hS'; (try dsimp only at hS'); (repeat (have hS1 := hS'.1; replace hS' := hS'.2)); go_simp; (try with_reducible rfl); done)); simp only [Act.put, List.getElem_toArray, List.getElem_cons_zero, List.getElem_cons_succ, List.setIfInBounds_toArray, List.set_cons_zero, List.set_cons_succ]))
          (first | (refine wpS_pass _ rfl (by rfl) ?_; simp only [Act.put, List.getElem_toArray, List.getElem_cons_zero, List.getElem_cons_succ, List.setIfInBounds_toArray, List.set_cons_zero, List.set_cons_succ]) | (refine wpS_take _ ?_ rfl (by rfl) ?_ ?_; rotate_left; (focus (intro w' hS'; (try dsimp only at hS'); (repeat (have hS1 := hS'.1; replace hS' := hS'.2)); go_simp; (try with_reducible rfl); done)); simp only [Act.put, List.getElem_toArray, List.getElem_cons_zero, List.getElem_cons_succ, List.setIfInBounds_toArray, List.set_cons_zero, List.set_cons_succ]))
          (first | (refine wpS_pass _ rfl (by rfl) ?_; simp only [Act.put, List.getElem_toArray, List.getElem_cons_zero, List.getElem_cons_succ, List.setIfInBounds_toArray, List.set_cons_zero, List.set_cons_succ]) | (refine wpS_take _ ?_ rfl (by rfl) ?_ ?_; rotate_left; (focus (intro w' hS'; (try dsimp only at hS'); (repeat (have hS1 := hS'.1; replace hS' := hS'.2)); go_simp; (try with_reducible rfl); done)); simp only [Act.put, List.getElem_toArray, List.getElem_cons_zero, List.getElem_cons_succ, List.setIfInBounds_toArray, List.set_cons_zero, List.set_cons_succ]))
          (first | (refine wpS_pass _ rfl (by rfl) ?_; simp only [Act.put, List.getElem_toArray, List.getElem_cons_zero, List.getElem_cons_succ, List.setIfInBounds_toArray, List.set_cons_zero, List.set_cons_succ]) | (refine wpS_take _ ?_ rfl (by rfl) ?_ ?_; rotate_left; (focus (intro w' hS'; (try dsimp only at hS'); (repeat (have hS1 := hS'.1; replace hS' := hS'.2)); go_simp; (try with_reducible rfl); done)); simp only [Act.put, List.getElem_toArray, List.getElem_cons_zero, List.getElem_cons_succ, List.setIfInBounds_toArray, List.set_cons_zero, List.set_cons_succ]))
          (first | (refine wpS_pass _ rfl (by rfl) ?_; simp only [Act.put, List.getElem_toArray, List.getElem_cons_zero, List.getElem_cons_succ, List.setIfInBounds_toArray, List.set_cons_zero, List.set_cons_succ]) | (refine wpS_take _ ?_ rfl (by rfl) ?_ ?_; rotate_left; (focus (intro w' hS'; (try dsimp only at hS'); (repeat (have hS1 := hS'.1; replace hS' := hS'.2)); go_simp; (try with_reducible rfl); done)); simp only [Act.put, List.getElem_toArray, List.getElem_cons_zero, List.getElem_cons_succ, List.setIfInBounds_toArray, List.set_cons_zero, List.set_cons_succ]))
          (first | (refine wpS_pass _ rfl (by rfl) ?_; simp only [Act.put, List.getElem_toArray, List.getElem_cons_zero, List.getElem_cons_succ, List.setIfInBounds_toArray, List.set_cons_zero, List.set_cons_succ]) | (refine wpS_take _ ?_ rfl (by rfl) ?_ ?_; rotate_left; (focus (intro w' hS'; (try dsimp only at hS'); (repeat (have hS1 := hS'.1; replace hS' := hS'.2)); go_simp; (try with_reducible rfl); done)); simp only [Act.put, List.getElem_toArray, List.getElem_cons_zero, List.getElem_cons_succ, List.setIfInBounds_toArray, List.set_cons_zero, List.set_cons_succ]))
          (first | (refine wpS_pass _ rfl (by rfl) ?_; simp only [Act.put, List.getElem_toArray, List.getElem_cons_zero, List.getElem_cons_succ, List.setIfInBounds_toArray, List.set_cons_zero, List.set_cons_succ]) | (refine wpS_take _ ?_ rfl (by rfl) ?_ ?_; rotate_left; (focus (intro w' hS'; (try dsimp only at hS'); (repeat (have hS1 := hS'.1; replace hS' := hS'.2)); go_simp; (try with_reducible rfl); done)); simp only [Act.put, List.getElem_toArray, List.getElem_cons_zero, List.getElem_cons_succ, List.setIfInBounds_toArray, List.set_cons_zero, List.set_cons_succ]))
          (first | (refine wpS_pass _ rfl (by rfl) ?_; simp only [Act.put, List.getElem_toArray, List.getElem_cons_zero, List.getElem_cons_succ, List.setIfInBounds_toArray, List.set_cons_zero, List.set_cons_succ]) | (refine wpS_take _ ?_ rfl (by rfl) ?_ ?_; rotate_left; (focus (intro w' hS'; (try dsimp only at hS'); (repeat (have hS1 := hS'.1; replace hS' := hS'.2)); go_simp; (try with_reducible rfl); done)); simp only [Act.put, List.getElem_toArray, List.getElem_cons_zero, List.getElem_cons_succ, List.setIfInBounds_toArray, List.set_cons_zero, List.set_cons_succ]))
          (first | (refine wpS_pass _ rfl (by rfl) ?_; simp only [Act.put, List.getElem_toArray, List.getElem_cons_zero, List.getElem_cons_succ, List.setIfInBounds_toArray, List.set_cons_zero, List.set_cons_succ]) | (refine wpS_take _ ?_ rfl (by rfl) ?_ ?_; rotate_left; (focus (intro w' hS'; (try dsimp only at hS'); (repeat (have hS1 := hS'.1; replace hS' := hS'.2)); go_simp; (try with_reducible rfl); done)); simp only [Act.put, List.getElem_toArray, List.getElem_cons_zero, List.getElem_cons_succ, List.setIfInBounds_toArray, List.set_cons_zero, List.set_cons_succ]))
          (first | (refine wpS_pass _ rfl (by rfl) ?_; simp only [Act.put, List.getElem_toArray, List.getElem_cons_zero, List.getElem_cons_succ, List.setIfInBounds_toArray, List.set_cons_zero, List.set_cons_succ]) | (refine wpS_take _ ?_ rfl (by rfl) ?_ ?_; rotate_left; (focus (intro w' hS'; (try dsimp only at hS'); (repeat (have hS1 := hS'.1; replace hS' := hS'.2)); go_simp; (try with_reducible rfl); done)); simp only [Act.put, List.getElem_toArray, List.getElem_cons_zero, List.getElem_cons_succ, List.setIfInBounds_toArray, List.set_cons_zero, List.set_cons_succ]))
          (first | (refine wpS_pass _ rfl (by rfl) ?_; simp only [Act.put, List.getElem_toArray, List.getElem_cons_zero, List.getElem_cons_succ, List.setIfInBounds_toArray, List.set_cons_zero, List.set_cons_succ]) | (refine wpS_take _ ?_ rfl (by rfl) ?_ ?_; rotate_left; (focus (intro w' hS'; (try dsimp only at hS'); (repeat (have hS1 := hS'.1; replace hS' := hS'.2)); go_simp; (try with_reducible rfl); done)); simp only [Act.put, List.getElem_toArray, List.getElem_cons_zero, List.getElem_cons_succ, List.setIfInBounds_toArray, List.set_cons_zero, List.set_cons_succ]))
          refine wpS_take _ _ rfl (by rfl) (fun w' hS' => exec_bin _ _ _ _ _ rfl _ _ _ rfl rfl rfl (hne w')) ?_
          simp only [Act.put, List.getElem_toArray, List.getElem_cons_zero, List.getElem_cons_succ, List.setIfInBounds_toArray, List.set_cons_zero, List.set_cons_succ]
          (repeat (first | (refine wpS_pass _ rfl (by rfl) ?_; simp only [Act.put, List.getElem_toArray, List.getElem_cons_zero, List.getElem_cons_succ, List.setIfInBounds_toArray, List.set_cons_zero, List.set_cons_succ]) | (refine wpS_take _ ?_ rfl (by rfl) ?_ ?_; rotate_left; (focus (intro w' hS'; (try dsimp only at hS'); (repeat (have hS1 := hS'.1; replace hS' := hS'.2)); go_simp; (try with_reducible rfl); done)); simp only [Act.put, List.getElem_toArray, List.getElem_cons_zero, List.getElem_cons_succ, List.setIfInBounds_toArray, List.set_cons_zero, List.set_cons_succ])))
          refine wpS_done ?_
          have c0' : W5.drew.cell? ⟨wr.heap.size, 0, none⟩ = some (.int .i64 0) := c0
          have c1' : W5.drew.cell? ⟨wr.heap.size, 1, none⟩ = some (.string ln_) := c1_
          have HOQ : Hid (W5.drew.ownsRow w.heap.size 9 1 (.slice Ao no co) no (sts out)) := Lib.hid (own_below HOA.out (Below.refl _ _).drew)
          have HBQ : Hid (Below w.heap.size w W5.drew) := Lib.hid HBE.out.drew
          generalize W5.drew = WQ at *
          clear z6 hne hA2
          obtain ⟨W6, hW6⟩ : ∃ W, WQ.alloc (.cells #[.string ln_] 9) = W := ⟨_, rfl⟩
          obtain ⟨r6, b6, s6⟩ := new_row hW6
          have HO6 : Hid (W6.ownsRow w.heap.size 9 1 (.slice Ao no co) no (sts out)) := Lib.hid (own_below HOQ.out b6)
          have HR6 : Hid (Rd W6 (some ⟨WQ.heap.size, 0, none⟩) (sts [ln_])) := Lib.hid (range_rd (range_of_row (cs := sts [ln_]) r6))
          have HBX : Hid (Below w.heap.size w W6) := Lib.hid (ext_trans HBQ.out b6)
          have HBA := Lib.hid HBX.out.size
          clear r6 b6 s6
          go_wp2_with (first
            | ((with_reducible (refine wpList_load_cells 58 _ b (off + k * 2) ([.int .i64 0, .string ln_]) HRS.out Tryd.underlying58 rfl info_red ?_ rfl ?_ ?_)); (exact rfl); (exact rfl))
            | (at_builtin; refine wpList_append_rd _ rfl _ _ 22 rfl w.heap.size 9 _ 1 16 Tryd.underlying22 info_str rfl (by decide) (.slice Ao no co) no _ rfl HO6.out _ 1 1 (sts [ln_]) rfl rfl HR6.out (sts_one _) (by unfold maxLen; omega) (by omega) HBA.out ?_; intro v7 w7 ho7 hg7 hvb7; obtain ⟨A7, c7, e7, _⟩ := own_slice ho7; subst e7; have HO7 := Lib.hid ho7; have HB7 := Lib.hid (bel_own HBX.out rfl HO6.out hg7); clear ho7 hg7 hvb7))
          have HGN : Hid (patchG (a.drop (p + 1)) (s.drop (k + 1)) (out ++ [ln_]) = q) := Lib.hid (by have h := HG.out; rw [HDR.out, HDA.out, HX.out, patchG_cons2 rfl] at h; exact h)
          rw [← HA1.out, ← HA.out]
          clear hW5 c0 c1_ hW6 c0' c1'
          go_roundg (n - (k + 1))
          case measure => omega
          case rel => exact ⟨k + 1, p + 1, A7, no + 1, c7, out ++ [ln_], by omega, rfl, by omega, by omega, by first | rfl | exact congrArg (Value.int .i64) (by omega) | go_num, by first | rfl | exact congrArg (Value.int .i64) (by omega) | go_num, rfl, HGN, Lib.hid (by rw [sts_app]; exact HO7.out), HB7⟩
        · have z6 : (!decide (x = ln_)) = true := by rw [decide_eq_false hx]; rfl
          have HQ_ : Hid (q = ([], 70)) := Lib.hid (by have h := HG.out; rw [HDR.out, HDA.out, patchG_cons1 (by simp) hx] at h; exact h.symm)
          clear hx
          go_wp2_with ((with_reducible (refine wpList_load_cells 58 _ b (off + k * 2) ([.int .i64 0, .string ln_]) HRS.out Tryd.underlying58 rfl info_red ?_ rfl ?_ ?_)); (exact rfl); (exact rfl))
          refine wp_region_sched (fun w' => w'.cell? ⟨wr.heap.size, 1, none⟩ = some (.string ln_) ∧ w'.cell? ⟨bA, oA + p, none⟩ = some (.string x)) [(true, 0), (true, 1), (true, 2), (true, 3), (true, 4), (true, 5), (true, 6), (true, 7), (true, 8), (true, 9), (true, 10), (true, 11), (true, 12)] (by kernel_rfl) (by kernel_rfl) rfl (by kernel_rfl) ⟨c1_, hA2⟩ ?_
          (first | (refine wpS_pass _ rfl (by rfl) ?_; simp only [Act.put, List.getElem_toArray, List.getElem_cons_zero, List.getElem_cons_succ, List.setIfInBounds_toArray, List.set_cons_zero, List.set_cons_succ]) | (refine wpS_take _ ?_ rfl (by rfl) ?_ ?_; rotate_left; (focus (intro w' hS'; (try dsimp only at hS'); (repeat (have hS1 := hS'.1; replace hS' := hS'.2)); go_simp; (try with_reducible rfl); done)); simp only [Act.put, List.getElem_toArray, List.getElem_cons_zero, List.getElem_cons_succ, List.setIfInBounds_toArray, List.set_cons_zero, List.set_cons_succ]))
          (first | (refine wpS_pass _ rfl (by rfl) ?_; simp only [Act.put, List.getElem_toArray, List.getElem_cons_zero, List.getElem_cons_succ, List.setIfInBounds_toArray, List.set_cons_zero, List.set_cons_succ]) | (refine wpS_take _ ?_ rfl (by rfl) ?_ ?_; rotate_left; (focus (intro w' hS'; (try dsimp only at hS'); (repeat (have hS1 := hS'.1; replace hS' := hS'.2)); go_simp; (try with_reducible rfl); done)); simp only [Act.put, List.getElem_toArray, List.getElem_cons_zero, List.getElem_cons_succ, List.setIfInBounds_toArray, List.set_cons_zero, List.set_cons_succ]))
          (first | (refine wpS_pass _ rfl (by rfl) ?_; simp only [Act.put, List.getElem_toArray, List.getElem_cons_zero, List.getElem_cons_succ, List.setIfInBounds_toArray, List.set_cons_zero, List.set_cons_succ]) | (refine wpS_take _ ?_ rfl (by rfl) ?_ ?_; rotate_left; (focus (intro w' hS'; (try dsimp only at hS'); (repeat (have hS1 := hS'.1; replace hS' := hS'.2)); go_simp; (try with_reducible rfl); done)); simp only [Act.put, List.getElem_toArray, List.getElem_cons_zero, List.getElem_cons_succ, List.setIfInBounds_toArray, List.set_cons_zero, List.set_cons_succ]))
          (first | (refine wpS_pass _ rfl (by rfl) ?_; simp only [Act.put, List.getElem_toArray, List.getElem_cons_zero, List.getElem_cons_succ, List.setIfInBounds_toArray, List.set_cons_zero, List.set_cons_succ]) | (refine wpS_take _ ?_ rfl (by rfl) ?_ ?_; rotate_left; (focus (intro w' hS'; (try dsimp only at hS'); (repeat (have hS1 := hS'.1; replace hS' := hS'.2)); go_simp; (try with_reducible rfl); done)); simp only [Act.put, List.getElem_toArray, List.getElem_cons_zero, List.getElem_cons_succ, List.setIfInBounds_toArray, List.set_cons_zero, List.set_cons_succ]))
          (first | (refine wpS_pass _ rfl (by rfl) ?_; simp only [Act.put, List.getElem_toArray, List.getElem_cons_zero, List.getElem_cons_succ, List.setIfInBounds_toArray, List.set_cons_zero, List.set_cons_succ]) | (refine wpS_take _ ?_ rfl (by rfl) ?_ ?_; rotate_left; (focus (intro w' hS'; (try dsimp only at hS'); (repeat (have hS1 := hS'.1; replace hS' := hS'.2)); go_simp; (try with_reducible rfl); done)); simp only [Act.put, List.getElem_toArray, List.getElem_cons_zero, List.getElem_cons_succ, List.setIfInBounds_toArray, List.set_cons_zero, List.set_cons_succ]))
          (first | (refine wpS_pass _ rfl (by rfl) ?_; simp only [Act.put, List.getElem_toArray, List.getElem_cons_zero, List.getElem_cons_succ, List.setIfInBounds_toArray, List.set_cons_zero, List.set_cons_succ]) | (refine wpS_take _ ?_ rfl (by rfl) ?_ ?_; rotate_left; (focus (intro w' hS'; (try dsimp only at hS'); (repeat (have hS1 := hS'.1; replace hS' := hS'.2)); go_simp; (try with_reducible rfl); done)); simp only [Act.put, List.getElem_toArray, List.getElem_cons_zero, List.getElem_cons_succ, List.setIfInBounds_toArray, List.set_cons_zero, List.set_cons_succ]))
          (first | (refine wpS_pass _ rfl (by rfl) ?_; simp only [Act.put, List.getElem_toArray, List.getElem_cons_zero, List.getElem_cons_succ, List.setIfInBounds_toArray, List.set_cons_zero, List.set_cons_succ]) | (refine wpS_take _ ?_ rfl (by rfl) ?_ ?_; rotate_left; (focus (intro w' hS'; (try dsimp only at hS'); (repeat (have hS1 := hS'.1; replace hS' := hS'.2)); go_simp; (try with_reducible rfl); done)); simp only [Act.put, List.getElem_toArray, List.getElem_cons_zero, List.getElem_cons_succ, List.setIfInBounds_toArray, List.set_cons_zero, List.set_cons_succ]))
          (first | (refine wpS_pass _ rfl (by rfl) ?_; simp only [Act.put, List.getElem_toArray, List.getElem_cons_zero, List.getElem_cons_succ, List.setIfInBounds_toArray, List.set_cons_zero, List.set_cons_succ]) | (refine wpS_take _ ?_ rfl (by rfl) ?_ ?_; rotate_left; (focus (intro w' hS'; (try dsimp only at hS'); (repeat (have hS1 := hS'.1; replace hS' := hS'.2)); go_simp; (try with_reducible rfl); done)); simp only [Act.put, List.getElem_toArray, List.getElem_cons_zero, List.getElem_cons_succ, List.setIfInBounds_toArray, List.set_cons_zero, List.set_cons_succ]))
          (first | (refine wpS_pass _ rfl (by rfl) ?_; simp only [Act.put, List.getElem_toArray, List.getElem_cons_zero, List.getElem_cons_succ, List.setIfInBounds_toArray, List.set_cons_zero, List.set_cons_succ]) | (refine wpS_take _ ?_ rfl (by rfl) ?_ ?_; rotate_left; (focus (intro w' hS'; (try dsimp only at hS'); (repeat (have hS1 := hS'.1; replace hS' := hS'.2)); go_simp; (try with_reducible rfl); done)); simp only [Act.put, List.getElem_toArray, List.getElem_cons_zero, List.getElem_cons_succ, List.setIfInBounds_toArray, List.set_cons_zero, List.set_cons_succ]))
          (first | (refine wpS_pass _ rfl (by rfl) ?_; simp only [Act.put, List.getElem_toArray, List.getElem_cons_zero, List.getElem_cons_succ, List.setIfInBounds_toArray, List.set_cons_zero, List.set_cons_succ]) | (refine wpS_take _ ?_ rfl (by rfl) ?_ ?_; rotate_left; (focus (intro w' hS'; (try dsimp only at hS'); (repeat (have hS1 := hS'.1; replace hS' := hS'.2)); go_simp; (try with_reducible rfl); done)); simp only [Act.put, List.getElem_toArray, List.getElem_cons_zero, List.getElem_cons_succ, List.setIfInBounds_toArray, List.set_cons_zero, List.set_cons_succ]))
          (first | (refine wpS_pass _ rfl (by rfl) ?_; simp only [Act.put, List.getElem_toArray, List.getElem_cons_zero, List.getElem_cons_succ, List.setIfInBounds_toArray, List.set_cons_zero, List.set_cons_succ]) | (refine wpS_take _ ?_ rfl (by rfl) ?_ ?_; rotate_left; (focus (intro w' hS'; (try dsimp only at hS'); (repeat (have hS1 := hS'.1; replace hS' := hS'.2)); go_simp; (try with_reducible rfl); done)); simp only [Act.put, List.getElem_toArray, List.getElem_cons_zero, List.getElem_cons_succ, List.setIfInBounds_toArray, List.set_cons_zero, List.set_cons_succ]))
          refine wpS_take _ _ rfl (by rfl) (fun w' hS' => exec_bin _ _ _ _ _ rfl _ _ _ rfl rfl rfl (hne w')) ?_
          simp only [Act.put, List.getElem_toArray, List.getElem_cons_zero, List.getElem_cons_succ, List.setIfInBounds_toArray, List.set_cons_zero, List.set_cons_succ]
          (repeat (first | (refine wpS_pass _ rfl (by rfl) ?_; simp only [Act.put, List.getElem_toArray, List.getElem_cons_zero, List.getElem_cons_succ, List.setIfInBounds_toArray, List.set_cons_zero, List.set_cons_succ]) | (refine wpS_take _ ?_ rfl (by rfl) ?_ ?_; rotate_left; (focus (intro w' hS'; (try dsimp only at hS'); (repeat (have hS1 := hS'.1; replace hS' := hS'.2)); go_simp; (try with_reducible rfl); done)); simp only [Act.put, List.getElem_toArray, List.getElem_cons_zero, List.getElem_cons_succ, List.setIfInBounds_toArray, List.set_cons_zero, List.set_cons_succ])))
          refine wpS_done ?_
          have HBE : Hid (Below w.heap.size w W5.drew) := Lib.hid HBE.out.drew
          go_wp2_with fail
          have HQ : Hid (q = ([], 70)) := HQ_
          go_ret2
          refine ⟨none, 0, 0, ?_, ?_, Nat.le_refl _, Nat.zero_le _, ?_, HBE.out⟩
          · rw [HQ.out]; rfl
          · rw [HQ.out]; rfl
          · rw [HQ.out]; exact Rd.nil
      · have j1 : (m : Int) ≤ (p : Int) := by omega
        have HDA : Hid (a.drop p = []) := Lib.hid (List.drop_eq_nil_of_le (by rw [HM.out]; omega))
        have HQ_ : Hid (q = ([], 70)) := Lib.hid (by have h := HG.out; rw [HDR.out, HDA.out, patchG_cons0 (by simp)] at h; exact h.symm)
        go_wp2_with ((with_reducible (refine wpList_load_cells 58 _ b (off + k * 2) ([.int .i64 0, .string ln_]) HRS.out Tryd.underlying58 rfl info_red ?_ rfl ?_ ?_)); (exact rfl); (exact rfl))
        refine wp_region_sched (fun w' => w'.cell? ⟨wr.heap.size, 1, none⟩ = some (.string ln_)) [(true, 0), (true, 1), (true, 2), (true, 3), (true, 4), (true, 5), (true, 6), (true, 7), (true, 8), (true, 9), (true, 10), (true, 11), (true, 12)] (by kernel_rfl) (by kernel_rfl) rfl (by kernel_rfl) c1_ ?_
        (repeat (first | (refine wpS_pass _ rfl (by rfl) ?_; simp only [Act.put, List.getElem_toArray, List.getElem_cons_zero, List.getElem_cons_succ, List.setIfInBounds_toArray, List.set_cons_zero, List.set_cons_succ]) | (refine wpS_take _ ?_ rfl (by rfl) ?_ ?_; rotate_left; (focus (intro w' hS'; (try dsimp only at hS'); (repeat (have hS1 := hS'.1; replace hS' := hS'.2)); go_simp; (try with_reducible rfl); done)); simp only [Act.put, List.getElem_toArray, List.getElem_cons_zero, List.getElem_cons_succ, List.setIfInBounds_toArray, List.set_cons_zero, List.set_cons_succ])))
        refine wpS_done ?_
        have HBE : Hid (Below w.heap.size w W5.drew) := Lib.hid HBE.out.drew
        go_wp2_with fail
        have HQ : Hid (q = ([], 70)) := HQ_
        go_ret2
        refine ⟨none, 0, 0, ?_, ?_, Nat.le_refl _, Nat.zero_le _, ?_, HBE.out⟩
        · rw [HQ.out]; rfl
        · rw [HQ.out]; rfl
        · rw [HQ.out]; exact Rd.nil
    · obtain rfl : kd = 1 := by omega
      clear hlo hhi h2 h0
      by_cases hpm : p < m
      · have j1 : (p : Int) < (m : Int) := by omega
        have j2 : decide (m ≤ p) = false := decide_eq_false (by omega)
        have hp' : p < a.length := by rw [HM.out]; exact hpm
        obtain ⟨bA, oA, hA1, hA2⟩ := HRA5.out p _ (sts_get a p hp')
        obtain ⟨x, hx_⟩ : ∃ x, a[p] = x := ⟨_, rfl⟩
        rw [hx_] at hA2
        have HDA : Hid (a.drop p = x :: a.drop (p + 1)) := Lib.hid (by rw [← hx_, List.drop_eq_getElem_cons])
        have HA1 := Lib.hid hA1
        rw [hA1]
        have hne := fun w => bin_strne (P := Tryd.prog) Tryd.underlying9 x ln_ w
        clear hA1 hx_ hp'
        by_cases hx : x = ln_
        · have z6 : (!decide (x = ln_)) = false := by rw [decide_eq_true hx]; rfl
          have HX := Lib.hid hx
          clear hx
          go_wp2_with ((with_reducible (refine wpList_load_cells 58 _ b (off + k * 2) ([.int .i64 1, .string ln_]) HRS.out Tryd.underlying58 rfl info_red ?_ rfl ?_ ?_)); (exact rfl); (exact rfl))
          refine wp_region_sched (fun w' => w'.cell? ⟨wr.heap.size, 1, none⟩ = some (.string ln_) ∧ w'.cell? ⟨bA, oA + p, none⟩ = some (.string x)) [(true, 0), (true, 1), (true, 2), (true, 3), (true, 4), (true, 5), (true, 6), (true, 7), (true, 8), (true, 9), (true, 10), (true, 11), (true, 12)] (by kernel_rfl) (by kernel_rfl) rfl (by kernel_rfl) ⟨c1_, hA2⟩ ?_
          (first | (refine wpS_pass _ rfl (by rfl) ?_; simp only [Act.put, List.getElem_toArray, List.getElem_cons_zero, List.getElem_cons_succ, List.setIfInBounds_toArray, List.set_cons_zero, List.set_cons_succ]) | (refine wpS_take _ ?_ rfl (by rfl) ?_ ?_; rotate_left; (focus (intro w' hS'; (try dsimp only at hS'); (repeat (have hS1 := hS'.1; replace hS' := hS'.2)); go_simp; (try with_reducible rfl); done)); simp only [Act.put, List.getElem_toArray, List.getElem_cons_zero, List.getElem_cons_succ, List.setIfInBounds_toArray, List.set_cons_zero, List.set_cons_succ]))
          (first | (refine wpS_pass _ rfl (by rfl) ?_; simp only [Act.put, List.getElem_toArray, List.getElem_cons_zero, List.getElem_cons_succ, List.setIfInBounds_toArray, List.set_cons_zero, List.set_cons_succ]) | (refine wpS_take _ ?_ rfl (by rfl) ?_ ?_; rotate_left; (focus (intro w' hS'; (try dsimp only at hS'); (repeat (have hS1 := hS'.1; replace hS' := hS'.2)); go_simp; (try with_reducible rfl); done)); simp only [Act.put, List.getElem_toArray, List.getElem_cons_zero, List.getElem_cons_succ, List.setIfInBounds_toArray, List.set_cons_zero, List.set_cons_succ]))
          (first | (refine wpS_pass _ rfl (by rfl) ?_; simp only [Act.put, List.getElem_toArray, List.getElem_cons_zero, List.getElem_cons_succ, List.setIfInBounds_toArray, List.set_cons_zero, List.set_cons_succ]) | (refine wpS_take _ ?_ rfl (by rfl) ?_ ?_; rotate_left; (focus (intro w' hS'; (try dsimp only at hS'); (repeat (have hS1 := hS'.1; replace hS' := hS'.2)); go_simp; (try with_reducible rfl); done)); simp only [Act.put, List.getElem_toArray, List.getElem_cons_zero, List.getElem_cons_succ, List.setIfInBounds_toArray, List.set_cons_zero, List.set_cons_succ]))
          (first | (refine wpS_pass _ rfl (by rfl) ?_; simp only [Act.put, List.getElem_toArray, List.getElem_cons_zero, List.getElem_cons_succ, List.setIfInBounds_toArray, List.set_cons_zero, List.set_cons_succ]) | (refine wpS_take _ ?_ rfl (by rfl) ?_ ?_; rotate_left; (focus (intro w' hS'; (try dsimp only at hS'); (repeat (have hS1 := hS'.1; replace hS' := hS'.2)); go_simp; (try with_reducible rfl); done)); simp only [Act.put, List.getElem_toArray, List.getElem_cons_zero, List.getElem_cons_succ, List.setIfInBounds_toArray, List.set_cons_zero, List.set_cons_succ]))
          (first | (refine wpS_pass _ rfl (by rfl) ?_; simp only [Act.put, List.getElem_toArray, List.getElem_cons_zero, List.getElem_cons_succ, List.setIfInBounds_toArray, List.set_cons_zero, List.set_cons_succ]) | (refine wpS_take _ ?_ rfl (by rfl) ?_ ?_; rotate_left; (focus (intro w' hS'; (try dsimp only at hS'); (repeat (have hS1 := hS'.1; replace hS' := hS'.2)); go_simp; (try with_reducible rfl); done)); simp only [Act.put, List.getElem_toArray, List.getElem_cons_zero, List.getElem_cons_succ, List.setIfInBounds_toArray, List.set_cons_zero, List.set_cons_succ]))
          (first | (refine wpS_pass _ rfl (by rfl) ?_; simp only [Act.put, List.getElem_toArray, List.getElem_cons_zero, List.getElem_cons_succ, List.setIfInBounds_toArray, List.set_cons_zero, List.set_cons_succ]) | (refine wpS_take _ ?_ rfl (by rfl) ?_ ?_; rotate_left; (focus (intro w' hS'; (try dsimp only at hS'); (repeat (have hS1 := hS'.1; replace hS' := hS'.2)); go_simp; (try with_reducible rfl); done)); simp only [Act.put, List.getElem_toArray, List.getElem_cons_zero, List.getElem_cons_succ, List.setIfInBounds_toArray, List.set_cons_zero, List.set_cons_succ]))
          (first | (refine wpS_pass _ rfl (by rfl) ?_; simp only [Act.put, List.getElem_toArray, List.getElem_cons_zero, List.getElem_cons_succ, List.setIfInBounds_toArray, List.set_cons_zero, List.set_cons_succ]) | (refine wpS_take _ ?_ rfl (by rfl) ?_ ?_; rotate_left; (focus (intro w' hS'; (try dsimp only at hS'); (repeat (have hS1 := hS'.1; replace hS' := hS'.2)); go_simp; (try with_reducible rfl); done)); simp only [Act.put, List.getElem_toArray, List.getElem_cons_zero, List.getElem_cons_succ, List.setIfInBounds_toArray, List.set_cons_zero, List.set_cons_succ]))
          (first | (refine wpS_pass _ rfl (by rfl) ?_; simp only [Act.put, List.getElem_toArray, List.getElem_cons_zero, List.getElem_cons_succ, List.setIfInBounds_toArray, List.set_cons_zero, List.set_cons_succ]) | (refine wpS_take _ ?_ rfl (by rfl) ?_ ?_; rotate_left; (focus (intro w' hS'; (try dsimp only at hS'); (repeat (have hS1 := hS'.1; replace hS' := hS'.2)); go_simp; (try with_reducible rfl); done)); simp only [Act.put, List.getElem_toArray, List.getElem_cons_zero, List.getElem_cons_succ, List.setIfInBounds_toArray, List.set_cons_zero, List.set_cons_succ]))
          (first | (refine wpS_pass _ rfl (by rfl) ?_; simp only [Act.put, List.getElem_toArray, List.getElem_cons_zero, List.getElem_cons_succ, List.setIfInBounds_toArray, List.set_cons_zero, List.set_cons_succ]) | (refine wpS_take _ ?_ rfl (by rfl) ?_ ?_; rotate_left; (focus (intro w' hS'; (try dsimp only at hS'); (repeat (have hS1 := hS'.1; replace hS' := hS'.2)); go_simp; (try with_reducible rfl); done)); simp only [Act.put, List.getElem_toArray, List.getElem_cons_zero, List.getElem_cons_succ, List.setIfInBounds_toArray, List.set_cons_zero, List.set_cons_succ]))
          (first | (refine wpS_pass _ rfl (by rfl) ?_; simp only [Act.put, List.getElem_toArray, List.getElem_cons_zero, List.getElem_cons_succ, List.setIfInBounds_toArray, List.set_cons_zero, List.set_cons_succ]) | (refine wpS_take _ ?_ rfl (by rfl) ?_ ?_; rotate_left; (focus (intro w' hS'; (try dsimp only at hS'); (repeat (have hS1 := hS'.1; replace hS' := hS'.2)); go_simp; (try with_reducible rfl); done)); simp only [Act.put, List.getElem_toArray, List.getElem_cons_zero, List.getElem_cons_succ, List.setIfInBounds_toArray, List.set_cons_zero, List.set_cons_succ]))
          (first | (refine wpS_pass _ rfl (by rfl) ?_; simp only [Act.put, List.getElem_toArray, List.getElem_cons_zero, List.getElem_cons_succ, List.setIfInBounds_toArray, List.set_cons_zero, List.set_cons_succ]) | (refine wpS_take _ ?_ rfl (by rfl) ?_ ?_; rotate_left; (focus (intro w' hS'; (try dsimp only at hS'); (repeat (have hS1 := hS'.1; replace hS' := hS'.2)); go_simp; (try with_reducible rfl); done)); simp only [Act.put, List.getElem_toArray, List.getElem_cons_zero, List.getElem_cons_succ, List.setIfInBounds_toArray, List.set_cons_zero, List.set_cons_succ]))
          refine wpS_take _ _ rfl (by rfl) (fun w' hS' => exec_bin _ _ _ _ _ rfl _ _ _ rfl rfl rfl (hne w')) ?_
          simp only [Act.put, List.getElem_toArray, List.getElem_cons_zero, List.getElem_cons_succ, List.setIfInBounds_toArray, List.set_cons_zero, List.set_cons_succ]
          (repeat (first | (refine wpS_pass _ rfl (by rfl) ?_; simp only [Act.put, List.getElem_toArray, List.getElem_cons_zero, List.getElem_cons_succ, List.setIfInBounds_toArray, List.set_cons_zero, List.set_cons_succ]) | (refine wpS_take _ ?_ rfl (by rfl) ?_ ?_; rotate_left; (focus (intro w' hS'; (try dsimp only at hS'); (repeat (have hS1 := hS'.1; replace hS' := hS'.2)); go_simp; (try with_reducible rfl); done)); simp only [Act.put, List.getElem_toArray, List.getElem_cons_zero, List.getElem_cons_succ, List.setIfInBounds_toArray, List.set_cons_zero, List.set_cons_succ])))
          refine wpS_done ?_
          have c0' : W5.drew.cell? ⟨wr.heap.size, 0, none⟩ = some (.int .i64 1) := c0
          have c1' : W5.drew.cell? ⟨wr.heap.size, 1, none⟩ = some (.string ln_) := c1_
          have HOQ : Hid (W5.drew.ownsRow w.heap.size 9 1 (.slice Ao no co) no (sts out)) := Lib.hid (own_below HOA.out (Below.refl _ _).drew)
          have HBQ : Hid (Below w.heap.size w W5.drew) := Lib.hid HBE.out.drew
          generalize W5.drew = WQ at *
          clear z6 hne hA2
          go_wp2_with fail
          have HGN : Hid (patchG (a.drop (p + 1)) (s.drop (k + 1)) out = q) := Lib.hid (by have h := HG.out; rw [HDR.out, HDA.out, HX.out, patchG_cons3 rfl] at h; exact h)
          rw [← HA1.out, ← HA.out]
          clear hW5 c0 c1_ c0' c1'
          go_roundg (n - (k + 1))
          case measure => omega
          case rel => exact ⟨k + 1, p + 1, Ao, no, co, out, by omega, rfl, by omega, by omega, by first | rfl | exact congrArg (Value.int .i64) (by omega) | go_num, by first | rfl | exact congrArg (Value.int .i64) (by omega) | go_num, rfl, HGN, HOQ, HBQ⟩
        · have z6 : (!decide (x = ln_)) = true := by rw [decide_eq_false hx]; rfl
          have HQ_ : Hid (q = ([], 70)) := Lib.hid (by have h := HG.out; rw [HDR.out, HDA.out, patchG_cons1 (by simp) hx] at h; exact h.symm)
          clear hx
          go_wp2_with ((with_reducible (refine wpList_load_cells 58 _ b (off + k * 2) ([.int .i64 1, .string ln_]) HRS.out Tryd.underlying58 rfl info_red ?_ rfl ?_ ?_)); (exact rfl); (exact rfl))
          refine wp_region_sched (fun w' => w'.cell? ⟨wr.heap.size, 1, none⟩ = some (.string ln_) ∧ w'.cell? ⟨bA, oA + p, none⟩ = some (.string x)) [(true, 0), (true, 1), (true, 2), (true, 3), (true, 4), (true, 5), (true, 6), (true, 7), (true, 8), (true, 9), (true, 10), (true, 11), (true, 12)] (by kernel_rfl) (by kernel_rfl) rfl (by kernel_rfl) ⟨c1_, hA2⟩ ?_
          (first | (refine wpS_pass _ rfl (by rfl) ?_; simp only [Act.put, List.getElem_toArray, List.getElem_cons_zero, List.getElem_cons_succ, List.setIfInBounds_toArray, List.set_cons_zero, List.set_cons_succ]) | (refine wpS_take _ ?_ rfl (by rfl) ?_ ?_; rotate_left; (focus (intro w' hS'; (try dsimp only at hS'); (repeat (have hS1 := hS'.1; replace hS' := hS'.2)); go_simp; (try with_reducible rfl); done)); simp only [Act.put, List.getElem_toArray, List.getElem_cons_zero, List.getElem_cons_succ, List.setIfInBounds_toArray, List.set_cons_zero, List.set_cons_succ]))
          (first | (refine wpS_pass _ rfl (by rfl) ?_; simp only [Act.put, List.getElem_toArray, List.getElem_cons_zero, List.getElem_cons_succ, List.setIfInBounds_toArray, List.set_cons_zero, List.set_cons_succ]) | (refine wpS_take _ ?_ rfl (by rfl) ?_ ?_; rotate_left; (focus (intro w' hS'; (try dsimp only at hS'); (repeat (have hS1 := hS'.1; replace hS' := hS'.2)); go_simp; (try with_reducible rfl); done)); simp only [Act.put, List.getElem_toArray, List.getElem_cons_zero, List.getElem_cons_succ, List.setIfInBounds_toArray, List.set_cons_zero, List.set_cons_succ]))
          (first | (refine wpS_pass _ rfl (by rfl) ?_; simp only [Act.put, List.getElem_toArray, List.getElem_cons_zero, List.getElem_cons_succ, List.setIfInBounds_toArray, List.set_cons_zero, List.set_cons_succ]) | (refine wpS_take _ ?_ rfl (by rfl) ?_ ?_; rotate_left; (focus (intro w' hS'; (try dsimp only at hS'); (repeat (have hS1 := hS'.1; replace hS' := hS'.2)); go_simp; (try with_reducible rfl); done)); simp only [Act.put, List.getElem_toArray, List.getElem_cons_zero, List.getElem_cons_succ, List.setIfInBounds_toArray, List.set_cons_zero, List.set_cons_succ]))
          (first | (refine wpS_pass _ rfl (by rfl) ?_; simp only [Act.put, List.getElem_toArray, List.getElem_cons_zero, List.getElem_cons_succ, List.setIfInBounds_toArray, List.set_cons_zero, List.set_cons_succ]) | (refine wpS_take _ ?_ rfl (by rfl) ?_ ?_; rotate_left; (focus (intro w' hS'; (try dsimp only at hS'); (repeat (have hS1 := hS'.1; replace hS' := hS'.2)); go_simp; (try with_reducible rfl); done)); simp only [Act.put, List.getElem_toArray, List.getElem_cons_zero, List.getElem_cons_succ, List.setIfInBounds_toArray, List.set_cons_zero, List.set_cons_succ]))
          (first | (refine wpS_pass _ rfl (by rfl) ?_; simp only [Act.put, List.getElem_toArray, List.getElem_cons_zero, List.getElem_cons_succ, List.setIfInBounds_toArray, List.set_cons_zero, List.set_cons_succ]) | (refine wpS_take _ ?_ rfl (by rfl) ?_ ?_; rotate_left; (focus (intro w' hS'; (try dsimp only at hS'); (repeat (have hS1 := hS'.1; replace hS' := hS'.2)); go_simp; (try with_reducible rfl); done)); simp only [Act.put, List.getElem_toArray, List.getElem_cons_zero, List.getElem_cons_succ, List.setIfInBounds_toArray, List.set_cons_zero, List.set_cons_succ]))
          (first | (refine wpS_pass _ rfl (by rfl) ?_; simp only [Act.put, List.getElem_toArray, List.getElem_cons_zero, List.getElem_cons_succ, List.setIfInBounds_toArray, List.set_cons_zero, List.set_cons_succ]) | (refine wpS_take _ ?_ rfl (by rfl) ?_ ?_; rotate_left; (focus (intro w' hS'; (try dsimp only at hS'); (repeat (have hS1 := hS'.1; replace hS' := hS'.2)); go_simp; (try with_reducible rfl); done)); simp only [Act.put, List.getElem_toArray, List.getElem_cons_zero, List.getElem_cons_succ, List.setIfInBounds_toArray, List.set_cons_zero, List.set_cons_succ]))
          (first | (refine wpS_pass _ rfl (by rfl) ?_; simp only [Act.put, List.getElem_toArray, List.getElem_cons_zero, List.getElem_cons_succ, List.setIfInBounds_toArray, List.set_cons_zero, List.set_cons_succ]) | (refine wpS_take _ ?_ rfl (by rfl) ?_ ?_; rotate_left; (focus (intro w' hS'; (try dsimp only at hS'); (repeat (have hS1 := hS'.1; replace hS' := hS'.2)); go_simp; (try with_reducible rfl); done)); simp only [Act.put, List.getElem_toArray, List.getElem_cons_zero, List.getElem_cons_succ, List.setIfInBounds_toArray, List.set_cons_zero, List.set_cons_succ]))
          (first | (refine wpS_pass _ rfl (by rfl) ?_; simp only [Act.put, List.getElem_toArray, List.getElem_cons_zero, List.getElem_cons_succ, List.setIfInBounds_toArray, List.set_cons_zero, List.set_cons_succ]) | (refine wpS_take _ ?_ rfl (by rfl) ?_ ?_; rotate_left; (focus (intro w' hS'; (try dsimp only at hS'); (repeat (have hS1 := hS'.1; replace hS' := hS'.2)); go_simp; (try with_reducible rfl); done)); simp only [Act.put, List.getElem_toArray, List.getElem_cons_zero, List.getElem_cons_succ, List.setIfInBounds_toArray, List.set_cons_zero, List.set_cons_succ]))
          (first | (refine wpS_pass _ rfl (by rfl) ?_; simp only [Act.put, List.getElem_toArray, List.getElem_cons_zero, List.getElem_cons_succ, List.setIfInBounds_toArray, List.set_cons_zero, List.set_cons_succ]) | (refine wpS_take _ ?_ rfl (by rfl) ?_ ?_; rotate_left; (focus (intro w' hS'; (try dsimp only at hS'); (repeat (have hS1 := hS'.1; replace hS' := hS'.2)); go_simp; (try with_reducible rfl); done)); simp only [Act.put, List.getElem_toArray, List.getElem_cons_zero, List.getElem_cons_succ, List.setIfInBounds_toArray, List.set_cons_zero, List.set_cons_succ]))
          (first | (refine wpS_pass _ rfl (by rfl) ?_; simp only [Act.put, List.getElem_toArray, List.getElem_cons_zero, List.getElem_cons_succ, List.setIfInBounds_toArray, List.set_cons_zero, List.set_cons_succ]) | (refine wpS_take _ ?_ rfl (by rfl) ?_ ?_; rotate_left; (focus (intro w' hS'; (try dsimp only at hS'); (repeat (have hS1 := hS'.1; replace hS' := hS'.2)); go_simp; (try with_reducible rfl); done)); simp only [Act.put, List.getElem_toArray, List.getElem_cons_zero, List.getElem_cons_succ, List.setIfInBounds_toArray, List.set_cons_zero, List.set_cons_succ]))
          (first | (refine wpS_pass _ rfl (by rfl) ?_; simp only [Act.put, List.getElem_toArray, List.getElem_cons_zero, List.getElem_cons_succ, List.setIfInBounds_toArray, List.set_cons_zero, List.set_cons_succ]) | (refine wpS_take _ ?_ rfl (by rfl) ?_ ?_; rotate_left; (focus (intro w' hS'; (try dsimp only at hS'); (repeat (have hS1 := hS'.1; replace hS' := hS'.2)); go_simp; (try with_reducible rfl); done)); simp only [Act.put, List.getElem_toArray, List.getElem_cons_zero, List.getElem_cons_succ, List.setIfInBounds_toArray, List.set_cons_zero, List.set_cons_succ]))
          refine wpS_take _ _ rfl (by rfl) (fun w' hS' => exec_bin _ _ _ _ _ rfl _ _ _ rfl rfl rfl (hne w')) ?_
          simp only [Act.put, List.getElem_toArray, List.getElem_cons_zero, List.getElem_cons_succ, List.setIfInBounds_toArray, List.set_cons_zero, List.set_cons_succ]
          (repeat (first | (refine wpS_pass _ rfl (by rfl) ?_; simp only [Act.put, List.getElem_toArray, List.getElem_cons_zero, List.getElem_cons_succ, List.setIfInBounds_toArray, List.set_cons_zero, List.set_cons_succ]) | (refine wpS_take _ ?_ rfl (by rfl) ?_ ?_; rotate_left; (focus (intro w' hS'; (try dsimp only at hS'); (repeat (have hS1 := hS'.1; replace hS' := hS'.2)); go_simp; (try with_reducible rfl); done)); simp only [Act.put, List.getElem_toArray, List.getElem_cons_zero, List.getElem_cons_succ, List.setIfInBounds_toArray, List.set_cons_zero, List.set_cons_succ])))
          refine wpS_done ?_
          have HBE : Hid (Below w.heap.size w W5.drew) := Lib.hid HBE.out.drew
          go_wp2_with fail
          have HQ : Hid (q = ([], 70)) := HQ_
          go_ret2
          refine ⟨none, 0, 0, ?_, ?_, Nat.le_refl _, Nat.zero_le _, ?_, HBE.out⟩
          · rw [HQ.out]; rfl
          · rw [HQ.out]; rfl
          · rw [HQ.out]; exact Rd.nil
      · have j1 : (m : Int) ≤ (p : Int) := by omega
        have HDA : Hid (a.drop p = []) := Lib.hid (List.drop_eq_nil_of_le (by rw [HM.out]; omega))
        have HQ_ : Hid (q = ([], 70)) := Lib.hid (by have h := HG.out; rw [HDR.out, HDA.out, patchG_cons0 (by simp)] at h; exact h.symm)
        go_wp2_with ((with_reducible (refine wpList_load_cells 58 _ b (off + k * 2) ([.int .i64 1, .string ln_]) HRS.out Tryd.underlying58 rfl info_red ?_ rfl ?_ ?_)); (exact rfl); (exact rfl))
        refine wp_region_sched (fun w' => w'.cell? ⟨wr.heap.size, 1, none⟩ = some (.string ln_)) [(true, 0), (true, 1), (true, 2), (true, 3), (true, 4), (true, 5), (true, 6), (true, 7), (true, 8), (true, 9), (true, 10), (true, 11), (true, 12)] (by kernel_rfl) (by kernel_rfl) rfl (by kernel_rfl) c1_ ?_
        (repeat (first | (refine wpS_pass _ rfl (by rfl) ?_; simp only [Act.put, List.getElem_toArray, List.getElem_cons_zero, List.getElem_cons_succ, List.setIfInBounds_toArray, List.set_cons_zero, List.set_cons_succ]) | (refine wpS_take _ ?_ rfl (by rfl) ?_ ?_; rotate_left; (focus (intro w' hS'; (try dsimp only at hS'); (repeat (have hS1 := hS'.1; replace hS' := hS'.2)); go_simp; (try with_reducible rfl); done)); simp only [Act.put, List.getElem_toArray, List.getElem_cons_zero, List.getElem_cons_succ, List.setIfInBounds_toArray, List.set_cons_zero, List.set_cons_succ])))
        refine wpS_done ?_
        have HBE : Hid (Below w.heap.size w W5.drew) := Lib.hid HBE.out.drew
        go_wp2_with fail
        have HQ : Hid (q = ([], 70)) := HQ_
        go_ret2
        refine ⟨none, 0, 0, ?_, ?_, Nat.le_refl _, Nat.zero_le _, ?_, HBE.out⟩
        · rw [HQ.out]; rfl
        · rw [HQ.out]; rfl
        · rw [HQ.out]; exact Rd.nil
  · obtain rfl : k = n := by omega
    clear hlt hk
    have HGE : Hid (patchG (a.drop p) [] out = q) := Lib.hid (by have h := HG.out; rw [← HN.out, List.drop_length] at h; exact h)
    by_cases hpm : p < m
    · have j1 : (p : Int) < (m : Int) := by omega
      have HBE := HBW
      have HQ_ : Hid (q = ([], 70)) := Lib.hid (by have h := HGE.out; rw [patchG_nil, if_neg (by intro e; have := congrArg List.length e; rw [List.length_drop, HM.out] at this; simp at this; omega)] at h; exact h.symm)
      go_wp2_with fail
      have HQ : Hid (q = ([], 70)) := HQ_
      go_ret2
      refine ⟨none, 0, 0, ?_, ?_, Nat.le_refl _, Nat.zero_le _, ?_, HBE.out⟩
      · rw [HQ.out]; rfl
      · rw [HQ.out]; rfl
      · rw [HQ.out]; exact Rd.nil
    · have j1 : ¬ ((p : Int) < (m : Int)) := by omega
      go_wp2_with fail
      go_ret2
      obtain ⟨B7, c7, e7, d1, d2, _⟩ := own_slice HO.out
      cases e7
      have hq : q = (out, 0) := by have h := HGE.out; rw [patchG_nil, if_pos (List.drop_eq_nil_of_le (by rw [HM.out]; omega))] at h; exact h.symm
      have hl7 : no = out.length := by have h := HO.out.1; rw [sts_len] at h; omega
      rw [hq]
      exact ⟨_, _, _, rfl, hl7, d1, d2, own_rd HO.out, HBW.out⟩
end Go.Proofs.YtmniggjadfdheaaDoor
