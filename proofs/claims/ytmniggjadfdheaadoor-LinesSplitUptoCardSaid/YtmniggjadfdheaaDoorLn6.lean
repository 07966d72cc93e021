
/- Cost, Patch. (Printed by wip/genLn6.py.) -/

import Derived.Test.YtmniggjadfdheaaDoorLn5

namespace Go.Proofs.YtmniggjadfdheaaDoor

set_option linter.unusedVariables false

set_option linter.unusedSimpArgs false

set_option linter.unusedSectionVars false

open Go.RowKit

theorem bin_strne {P : Program} {t : TypeId} (ht : P.underlying t = some .string) (x y : ByteArray) (w : World) : (binOp .neq t (.string x) (.string y)).run P w = .ok (.bool (!decide (x = y))) w := by
  have h : (x.toList != y.toList) = !(x.toList == y.toList) := rfl
  simp [binOp, Op.stringOp, go_sem, run_underlying ht, h, names_eq]
theorem info_str : (Tryd.prog.info? 9).map (fun i => (i.zero, i.size, i.bytes)) = some (some (.string ⟨#[]⟩), 1, 16) := by kernel_rfl
theorem sts_one (xs : List ByteArray) : ∀ u ∈ sts xs, u.oneCell' = true := by
  intro u hu
  obtain ⟨_, _, rfl⟩ := List.mem_map.1 hu
  rfl
theorem sts_len (xs : List ByteArray) : (sts xs).length = xs.length := by simp [sts]
theorem sts_app (xs ys : List ByteArray) : sts (xs ++ ys) = sts xs ++ sts ys := by simp [sts]
theorem costE_cons (e : EdM) (s : List EdM) : costE (e :: s) = (if chgB e then 1 else 0) + costE s := by
  unfold costE
  rw [List.filter_cons]
  split <;> simp <;> omega
theorem costE_take (s : List EdM) (k : Nat) (h : k < s.length) : costE (s.take (k + 1)) = costE (s.take k) + (if chgB s[k] then 1 else 0) := by
  rw [List.take_succ_eq_append_getElem h, costE_app, costE_cons]
  rfl
theorem costE_take' {s : List EdM} {k : Nat} {e : EdM} (h : s[k]? = some e) : costE (s.take (k + 1)) = costE (s.take k) + (if chgB e then 1 else 0) := by
  obtain ⟨h1, h2⟩ := List.getElem?_eq_some_iff.1 h
  rw [costE_take s k h1, h2]
theorem drop_of {s : List EdM} {k : Nat} {e : EdM} (h : s[k]? = some e) : s.drop k = e :: s.drop (k + 1) := by
  obtain ⟨h1, h2⟩ := List.getElem?_eq_some_iff.1 h
  rw [← h2, List.drop_eq_getElem_cons]
theorem costE_le (s : List EdM) (k : Nat) : costE (s.take k) ≤ k := by
  unfold costE
  have h1 := List.length_filter_le (chgB (α := ByteArray)) (s.take k)
  have h2 := List.length_take_le k s
  omega

set_option maxRecDepth 100000 in
set_option maxHeartbeats 4000000 in
theorem cost_any (A : Option Addr) (s : List EdM) (c : Nat) (w : World) (hr : Rd w A (edc s)) (hl : s.length ≤ 1000000) :
    Calls Tryd.prog 13 #[.slice A s.length c] w fun e w' => e = .returned (.int .i64 (costE s : Int)) ∧ Below w.heap.size w w' := by
  have HR := Lib.hid hr
  obtain ⟨n, hn⟩ : ∃ n, s.length = n := ⟨_, rfl⟩
  have HN := Lib.hid hn
  rw [hn] at hl ⊢
  clear hr hn
  go_enter Tryd.func13, Tryd.ntmps13
  go_wp2_with fail
  go_loopg [3, 8] (n * 1) (fun gk_ v i wr => ∃ (k m : Nat), k ≤ n ∧ gk_ = n - k ∧ m ≤ k ∧ v = .int .i64 (m : Int) ∧ i = .int .i64 (k : Int) ∧ Hid (m = costE (s.take k)) ∧ Hid (Below w.heap.size w wr))
  case atStart => exact ⟨0, 0, by omega, by omega, by omega, rfl, rfl, Lib.hid rfl, Lib.hid (Below.refl _ _)⟩
  case round =>
  obtain ⟨k, m, hk, rfl, hm, rfl, rfl, HM, HBW⟩ := hrel
  by_cases hlt : k < n
  · have i1 : (k : Int) < (n : Int) := by omega
    have hlt' : k < s.length := by rw [HN.out]; exact hlt
    have hrd := HR.out.below HBW.out
    obtain ⟨b, off, hA, _⟩ := hrd.all (by rw [edc_len]; omega)
    rw [hA] at hrd
    have HA := Lib.hid hA
    clear hA
    have RS := rd_ed hrd k hlt'
    obtain ⟨⟨kd, ln_⟩, he⟩ : ∃ e, s[k] = e := ⟨_, rfl⟩
    rw [he] at RS
    have HE : Hid (s[k]? = some (⟨kd, ln_⟩ : EdM)) := Lib.hid (by rw [List.getElem?_eq_getElem hlt', he])
    have HRS : Hid (wr.rangeAt b (off + k * 2) [.int .i64 kd, .string ln_]) := Lib.hid RS
    obtain ⟨W5, hW5⟩ : ∃ W, wr.alloc (.cells #[.int .i64 kd, .string ln_] 36) = W := ⟨_, rfl⟩
    obtain ⟨r5, b5, s5⟩ := new_row hW5
    have c0 : W5.cell? ⟨wr.heap.size, 0, none⟩ = some (.int .i64 kd) := row_cell r5 0
    have c1_ : W5.cell? ⟨wr.heap.size, 1, none⟩ = some (.string ln_) := row_cell r5 1
    have HB5 := Lib.hid b5
    clear hrd RS he b5 s5 hlt'
    rw [HA.out]
    have HBW5 := Lib.hid (ext_trans HBW.out HB5.out)
    have HST : Hid (costE (s.take (k + 1)) = m + if chgB (⟨kd, ln_⟩ : EdM) then 1 else 0) := Lib.hid (by rw [costE_take' HE.out, HM.out])
    by_cases h1 : kd = 1
    · have z1 : (kd == 1) = true := by rw [beq_iff_eq]; exact h1
      have HC : Hid (m + 1 = costE (s.take (k + 1))) := Lib.hid (by rw [HST.out, if_pos (by simp [chgB, h1])])
      clear h1
      go_wp2_with ((with_reducible (refine wpList_load_cells 36 _ b (off + k * 2) ([.int .i64 kd, .string ln_]) HRS.out Tryd.underlying36 rfl info_ed ?_ rfl ?_ ?_)); (exact rfl); (exact rfl))
      rw [← HA.out]
      clear hW5 r5 c0 c1_ z1
      go_roundg (n - (k + 1))
      case measure => omega
      case rel => exact ⟨k + 1, m + 1, by omega, rfl, by omega, by first | rfl | exact congrArg (Value.int .i64) (by omega) | go_num, by first | rfl | exact congrArg (Value.int .i64) (by omega) | go_num, HC, HBW5⟩
    · have z1 : (kd == 1) = false := by rw [beq_eq_false_iff_ne]; exact h1
      by_cases h2 : kd = 2
      · have z2 : (kd == 2) = true := by rw [beq_iff_eq]; exact h2
        have HC : Hid (m + 1 = costE (s.take (k + 1))) := Lib.hid (by rw [HST.out, if_pos (by simp [chgB, h2])])
        clear h1 h2
        go_wp2_with ((with_reducible (refine wpList_load_cells 36 _ b (off + k * 2) ([.int .i64 kd, .string ln_]) HRS.out Tryd.underlying36 rfl info_ed ?_ rfl ?_ ?_)); (exact rfl); (exact rfl))
        rw [← HA.out]
        clear hW5 r5 c0 c1_ z1 z2
        go_roundg (n - (k + 1))
        case measure => omega
        case rel => exact ⟨k + 1, m + 1, by omega, rfl, by omega, by first | rfl | exact congrArg (Value.int .i64) (by omega) | go_num, by first | rfl | exact congrArg (Value.int .i64) (by omega) | go_num, HC, HBW5⟩
      · have z2 : (kd == 2) = false := by rw [beq_eq_false_iff_ne]; exact h2
        have HC : Hid (m = costE (s.take (k + 1))) := Lib.hid (by rw [HST.out, if_neg (by simp [chgB, h1, h2])]; rfl)
        clear h1 h2
        go_wp2_with ((with_reducible (refine wpList_load_cells 36 _ b (off + k * 2) ([.int .i64 kd, .string ln_]) HRS.out Tryd.underlying36 rfl info_ed ?_ rfl ?_ ?_)); (exact rfl); (exact rfl))
        rw [← HA.out]
        clear hW5 r5 c0 c1_ z1 z2
        go_roundg (n - (k + 1))
        case measure => omega
        case rel => exact ⟨k + 1, m, by omega, rfl, by omega, rfl, by first | rfl | exact congrArg (Value.int .i64) (by omega) | go_num, HC, HBW5⟩
  · obtain rfl : k = n := by omega
    clear hlt hk
    go_wp2_with fail
    go_ret
    refine ⟨?_, HBW.out⟩
    have h := HM.out
    rw [← HN.out, List.take_length] at h
    rw [← h]
    rfl

/-- what a Patch answers -/
def PatOut (w w' : World) (e : Ending) (r : List ByteArray × Int) : Prop := ∃ A n c, e = .returned (.tuple #[.slice A n c, .int .i64 r.2]) ∧ n = r.1.length ∧ n ≤ c ∧ c ≤ maxLen ∧ Rd w' A (sts r.1) ∧ Below w.heap.size w w'
theorem patchG_nil (x : List ByteArray) (out : List ByteArray) : patchG x ([] : List EdM) out = if x = [] then (out, 0) else ([], 70) := rfl
theorem patchG_cons0 {kd : Int} {l : ByteArray} {s : List EdM} {out : List ByteArray} (h : kd = 0 ∨ kd = 1) : patchG [] ((⟨kd, l⟩ : EdM) :: s) out = ([], 70) := by
  simp only [patchG]; rw [if_pos h]
theorem patchG_cons1 {kd : Int} {l x : ByteArray} {a : List ByteArray} {s : List EdM} {out : List ByteArray} (h : kd = 0 ∨ kd = 1) (hx : ¬ x = l) : patchG (x :: a) ((⟨kd, l⟩ : EdM) :: s) out = ([], 70) := by
  simp only [patchG]; rw [if_pos h, if_pos hx]
theorem patchG_cons2 {l : ByteArray} {a : List ByteArray} {s : List EdM} {out : List ByteArray} {kd : Int} (h : kd = 0) : patchG (l :: a) ((⟨kd, l⟩ : EdM) :: s) out = patchG a s (out ++ [l]) := by
  subst h; simp [patchG]
theorem patchG_cons3 {l : ByteArray} {a : List ByteArray} {s : List EdM} {out : List ByteArray} {kd : Int} (h : kd = 1) : patchG (l :: a) ((⟨kd, l⟩ : EdM) :: s) out = patchG a s out := by
  subst h; simp [patchG]
theorem patchG_cons4 {l : ByteArray} {a : List ByteArray} {s : List EdM} {out : List ByteArray} {kd : Int} (h : kd = 2) : patchG a ((⟨kd, l⟩ : EdM) :: s) out = patchG a s (out ++ [l]) := by
  subst h; simp [patchG]
theorem patchG_cons5 {l : ByteArray} {a : List ByteArray} {s : List EdM} {out : List ByteArray} {kd : Int} (h0 : ¬ kd = 0) (h1 : ¬ kd = 1) (h2 : ¬ kd = 2) : patchG a ((⟨kd, l⟩ : EdM) :: s) out = ([], 1) := by
  simp [patchG, h0, h1, h2]

set_option maxRecDepth 100000 in
set_option maxHeartbeats 8000000 in
theorem patch_any (A B : Option Addr) (a : List ByteArray) (s : List EdM) (c c' : Nat) (w : World) (ha : Rd w A (sts a)) (hr : Rd w B (edc s)) (hla : a.length ≤ c) (hca : c ≤ maxLen) (hl : s.length ≤ 1000000) :
    Calls Tryd.prog 11 #[.slice A a.length c, .slice B s.length c'] w fun e w' => PatOut w w' e (patchP a s) := by
  unfold maxLen at hca
  have HR := Lib.hid hr
  have HAA := Lib.hid ha
  obtain ⟨n, hn⟩ : ∃ n, s.length = n := ⟨_, rfl⟩
  have HN := Lib.hid hn
  rw [hn] at hl ⊢
  obtain ⟨q, hq⟩ : ∃ q, patchP a s = q := ⟨_, rfl⟩
  have HQQ : Hid (patchG a (s.drop 0) [] = q) := Lib.hid hq
  rw [hq]
  clear hr hn ha hq
  go_enter Tryd.func11, Tryd.ntmps11
  go_wp2_with fail
  go_loopg [0, 6, 11] (n * 1) (fun gk_ sa so i wr => ∃ (k m : Nat) (A1 : Option Addr) (c1 : Nat) (Ao : Option Addr) (no co : Nat) (ar out : List ByteArray), k ≤ n ∧ gk_ = n - k ∧ no ≤ k ∧ i = .int .i64 (k : Int) ∧ sa = .slice A1 m c1 ∧ so = .slice Ao no co ∧ Hid (m = ar.length) ∧ Hid (m ≤ c1 ∧ c1 ≤ 9223372036854775807) ∧ Hid (patchG ar (s.drop k) out = q) ∧ Hid (Rd w A1 (sts ar)) ∧ Hid (wr.ownsRow w.heap.size 9 1 (.slice Ao no co) no (sts out)) ∧ Hid (Below w.heap.size w wr))
  case atStart => exact ⟨0, a.length, A, c, none, 0, 0, a, [], by omega, by omega, by omega, rfl, rfl, rfl, Lib.hid rfl, Lib.hid ⟨hla, by omega⟩, HQQ, HAA, Lib.hid (World.ownsRow_nil _ _ _ _), Lib.hid (Below.refl _ _)⟩
  case round =>
  clear hla hca
  obtain ⟨k, m, A1, c1, Ao, no, co, ar, out, hk, rfl, hno, rfl, rfl, rfl, HLN, HLN2, HG, HRA, HO, HBW⟩ := hrel
  by_cases hlt : k < n
  · have i1 : (k : Int) < (n : Int) := by omega
    have hlt' : k < s.length := by rw [HN.out]; exact hlt
    have hrd := HR.out.below HBW.out
    obtain ⟨b, off, hA, _⟩ := hrd.all (by rw [edc_len]; omega)
    rw [hA] at hrd
    have HA := Lib.hid hA
    clear hA
    have RS := rd_ed hrd k hlt'
    obtain ⟨⟨kd, ln_⟩, he⟩ : ∃ e, s[k] = e := ⟨_, rfl⟩
    rw [he] at RS
    have HE : Hid (s[k]? = some (⟨kd, ln_⟩ : EdM)) := Lib.hid (by rw [List.getElem?_eq_getElem hlt', he])
    have HRS : Hid (wr.rangeAt b (off + k * 2) [.int .i64 kd, .string ln_]) := Lib.hid RS
    obtain ⟨W5, hW5⟩ : ∃ W, wr.alloc (.cells #[.int .i64 kd, .string ln_] 36) = W := ⟨_, rfl⟩
    obtain ⟨r5, b5, s5⟩ := new_row hW5
    have c0 : W5.cell? ⟨wr.heap.size, 0, none⟩ = some (.int .i64 kd) := row_cell r5 0
    have c1_ : W5.cell? ⟨wr.heap.size, 1, none⟩ = some (.string ln_) := row_cell r5 1
    have HB5 := Lib.hid b5
    clear hrd RS he b5 s5 hlt'
    rw [HA.out]
    have HBE := Lib.hid (ext_trans HBW.out HB5.out)
    have HDR : Hid (s.drop k = ⟨kd, ln_⟩ :: s.drop (k + 1)) := Lib.hid (drop_of HE.out)
    have HRA5 := Lib.hid (HRA.out.below HBE.out)
    have HOA := Lib.hid (own_below HO.out HB5.out)
    by_cases h01 : kd = 0 ∨ kd = 1
    · have H01 := Lib.hid h01
      clear h01
      by_cases h0 : kd = 0
      · have z0 : (kd == 0) = true := by rw [beq_iff_eq]; exact h0
        have z9 : (kd != 1) = true := by simp [h0]
        have HKD : Hid (kd = 0) := Lib.hid h0
        clear h0
        cases ar with
        | nil =>
          have hm0 : m = 0 := HLN.out
          subst hm0
          have HQ_ : Hid (q = ([], 70)) := Lib.hid (by have h := HG.out; rw [HDR.out, patchG_cons0 H01.out] at h; exact h.symm)
          go_wp2_with ((with_reducible (refine wpList_load_cells 36 _ b (off + k * 2) ([.int .i64 kd, .string ln_]) HRS.out Tryd.underlying36 rfl info_ed ?_ rfl ?_ ?_)); (exact rfl); (exact rfl))
          refine wp_region_sched (fun w' => w'.cell? ⟨wr.heap.size, 1, none⟩ = some (.string ln_)) [(true, 0), (true, 1), (true, 2), (true, 3), (true, 4), (true, 5), (true, 6), (true, 7), (true, 8), (true, 9), (true, 10)] (by kernel_rfl) (by kernel_rfl) rfl (by kernel_rfl) c1_ ?_
          (repeat (first | (refine wpS_pass _ rfl (by rfl) ?_; simp only [Act.put, List.getElem_toArray, List.getElem_cons_zero, List.getElem_cons_succ, List.setIfInBounds_toArray, List.set_cons_zero, List.set_cons_succ]) | (refine wpS_take _ ?_ rfl (by rfl) ?_ ?_; rotate_left; (focus (intro w' hS'; (try dsimp only at hS'); (repeat (have hS1 := hS'.1; replace hS' := hS'.2)); go_simp; (try with_reducible rfl); done)); simp only [Act.put, List.getElem_toArray, List.getElem_cons_zero, List.getElem_cons_succ, List.setIfInBounds_toArray, List.set_cons_zero, List.set_cons_succ])))
          refine wpS_done ?_
          have HBE : Hid (Below w.heap.size w W5.drew) := Lib.hid HBE.out.drew
          go_wp2_with fail
          have HQ : Hid (q = ([], 70)) := HQ_
          go_ret2
          refine ⟨none, 0, 0, ?_, ?_, Nat.le_refl _, Nat.zero_le _, ?_, HBE.out⟩
          · rw [HQ.out]; rfl
          · rw [HQ.out]; rfl
          · rw [HQ.out]; exact Rd.nil
        | cons x r =>
          have hm1 : m = r.length + 1 := HLN.out
          subst hm1
          obtain ⟨bA, oA, hA1, hA2⟩ := HRA5.out.at_ 0 (by simp [sts])
          have hA3 : W5.cell? ⟨bA, oA, none⟩ = some (.string x) := hA2
          have HRX := Lib.hid (HRA5.out)
          have HL2 := Lib.hid HLN2.out
          subst hA1
          have hcc := HLN2.out
          have z5 : ((r.length : Int) + 1 == 0) = false := by rw [beq_eq_false_iff_ne]; omega
          have j1 : (0 : Int) < (r.length : Int) + 1 := by omega
          have hne := fun w => bin_strne (P := Tryd.prog) Tryd.underlying9 x ln_ w
          clear hA2
          by_cases hx : x = ln_
          · have z6 : (!decide (x = ln_)) = false := by rw [decide_eq_true hx]; rfl
            have HX := Lib.hid hx
            clear hx
            go_wp2_with ((with_reducible (refine wpList_load_cells 36 _ b (off + k * 2) ([.int .i64 kd, .string ln_]) HRS.out Tryd.underlying36 rfl info_ed ?_ rfl ?_ ?_)); (exact rfl); (exact rfl))
            refine wp_region_sched (fun w' => w'.cell? ⟨wr.heap.size, 1, none⟩ = some (.string ln_) ∧ w'.cell? ⟨bA, oA, none⟩ = some (.string x)) [(true, 0), (true, 1), (true, 2), (true, 3), (true, 4), (true, 5), (true, 6), (true, 7), (true, 8), (true, 9), (true, 10)] (by kernel_rfl) (by kernel_rfl) rfl (by kernel_rfl) ⟨c1_, hA3⟩ ?_
            (first | (refine wpS_pass _ rfl (by rfl) ?_; simp only [Act.put, List.getElem_toArray, List.getElem_cons_zero, List.getElem_cons_succ, List.setIfInBounds_toArray, List.set_cons_zero, List.set_cons_succ]) | (refine wpS_take _ ?_ rfl (by rfl) ?_ ?_; rotate_left; (focus (intro w' hS'; (try dsimp only at hS'); (repeat (have hS1 := hS'.1; replace hS' := hS'.2)); go_simp; (try with_reducible rfl); done)); simp only [Act.put, List.getElem_toArray, List.getElem_cons_zero, List.getElem_cons_succ, List.setIfInBounds_toArray, List.set_cons_zero, List.set_cons_succ]))
            (first | (refine wpS_pass _ rfl (by rfl) ?_; simp only [Act.put, List.getElem_toArray, List.getElem_cons_zero, List.getElem_cons_succ, List.setIfInBounds_toArray, List.set_cons_zero, List.set_cons_succ]) | (refine wpS_take _ ?_ rfl (by rfl) ?_ ?_; rotate_left; (focus (intro w' hS'; (try dsimp only at hS'); (repeat (have hS1 := hS'.1; replace hS' := hS'.2)); go_simp; (try with_reducible rfl); done)); simp only [Act.put, List.getElem_toArray, List.getElem_cons_zero, List.getElem_cons_succ, List.setIfInBounds_toArray, List.set_cons_zero, List.set_cons_succ]))
            (first | (refine wpS_pass _ rfl (by rfl) ?_; simp only [Act.put, List.getElem_toArray, List.getElem_cons_zero, List.getElem_cons_succ, List.setIfInBounds_toArray, List.set_cons_zero, List.set_cons_succ]) | (refine wpS_take _ ?_ rfl (by rfl) ?_ ?_; rotate_left; (focus (intro w' hS'; (try dsimp only at hS'); (repeat (have hS1 := hS'.1; replace hS' := hS'.2)); go_simp; (try with_reducible rfl); done)); simp only [Act.put, List.getElem_toArray, List.getElem_cons_zero, List.getElem_cons_succ, List.setIfInBounds_toArray, List.set_cons_zero, List.set_cons_succ]))
            (first | (refine wpS_pass _ rfl (by rfl) ?_; simp only [Act.put, List.getElem_toArray, List.getElem_cons_zero, List.getElem_cons_succ, List.setIfInBounds_toArray, List.set_cons_zero, List.set_cons_succ]) | (refine wpS_take _ ?_ rfl (by rfl) ?_ ?_; rotate_left; (focus (intro w' hS'; (try dsimp only at hS'); (repeat (have hS1 := hS'.1; replace hS' := hS'.2)); go_simp; (try with_reducible rfl); done)); simp only [Act.put, List.getElem_toArray, List.getElem_cons_zero, List.getElem_cons_succ, List.setIfInBounds_toArray, List.set_cons_zero, List.set_cons_succ]))
            (first | (refine wpS_pass _ rfl (by rfl) ?_; simp only [Act.put, List.getElem_toArray, List.getElem_cons_zero, List.getElem_cons_succ, List.setIfInBounds_toArray, List.set_cons_zero, List.set_cons_succ]) | (refine wpS_take _ ?_ rfl (by rfl) ?_ ?_; rotate_left; (focus (intro w' hS'; (try dsimp only at hS'); (repeat (have hS1 := hS'.1; replace hS' := hS'.2)); go_simp; (try with_reducible rfl); done)); simp only [Act.put, List.getElem_toArray, List.getElem_cons_zero, List.getElem_cons_succ, List.setIfInBounds_toArray, List.set_cons_zero, List.set_cons_succ]))
            (first | (refine wpS_pass _ rfl (by rfl) ?_; simp only [Act.put, List.getElem_toArray, List.getElem_cons_zero, List.getElem_cons_succ, List.setIfInBounds_toArray, List.set_cons_zero, List.set_cons_succ]) | (refine wpS_take _ ?_ rfl (by rfl) ?_ ?_; rotate_left; (focus (intro w' hS'; (try dsimp only at hS'); (repeat (have hS1 := hS'.1; replace hS' := hS'.2)); go_simp; (try with_reducible rfl); done)); simp only [Act.put, List.getElem_toArray, List.getElem_cons_zero, List.getElem_cons_succ, List.setIfInBounds_toArray, List.set_cons_zero, List.set_cons_succ]))
            (first | (refine wpS_pass _ rfl (by rfl) ?_; simp only [Act.put, List.getElem_toArray, List.getElem_cons_zero, List.getElem_cons_succ, List.setIfInBounds_toArray, List.set_cons_zero, List.set_cons_succ]) | (refine wpS_take _ ?_ rfl (by rfl) ?_ ?_; rotate_left; (focus (intro w' hS'; (try dsimp only at hS'); (repeat (have hS1 := hS'.1; replace hS' := hS'.2)); go_simp; (try with_reducible rfl); done)); simp only [Act.put, List.getElem_toArray, List.getElem_cons_zero, List.getElem_cons_succ, List.setIfInBounds_toArray, List.set_cons_zero, List.set_cons_succ]))
            (first | (refine wpS_pass _ rfl (by rfl) ?_; simp only [Act.put, List.getElem_toArray, List.getElem_cons_zero, List.getElem_cons_succ, List.setIfInBounds_toArray, List.set_cons_zero, List.set_cons_succ]) | (refine wpS_take _ ?_ rfl (by rfl) ?_ ?_; rotate_left; (focus (intro w' hS'; (try dsimp only at hS'); (repeat (have hS1 := hS'.1; replace hS' := hS'.2)); go_simp; (try with_reducible rfl); done)); simp only [Act.put, List.getElem_toArray, List.getElem_cons_zero, List.getElem_cons_succ, List.setIfInBounds_toArray, List.set_cons_zero, List.set_cons_succ]))
            (first | (refine wpS_pass _ rfl (by rfl) ?_; simp only [Act.put, List.getElem_toArray, List.getElem_cons_zero, List.getElem_cons_succ, List.setIfInBounds_toArray, List.set_cons_zero, List.set_cons_succ]) | (refine wpS_take _ ?_ rfl (by rfl) ?_ ?_; rotate_left; (focus (intro w' hS'; (try dsimp only at hS'); (repeat (have hS1 := hS'.1; replace hS' := hS'.2)); go_simp; (try with_reducible rfl); done)); simp only [Act.put, List.getElem_toArray, List.getElem_cons_zero, List.getElem_cons_succ, List.setIfInBounds_toArray, List.set_cons_zero, List.set_cons_succ]))
            refine wpS_take _ _ rfl (by rfl) (fun w' hS' => exec_bin _ _ _ _ _ rfl _ _ _ rfl rfl rfl (hne w')) ?_
            simp only [Act.put, List.getElem_toArray, List.getElem_cons_zero, List.getElem_cons_succ, List.setIfInBounds_toArray, List.set_cons_zero, List.set_cons_succ]
            (repeat (first | (refine wpS_pass _ rfl (by rfl) ?_; simp only [Act.put, List.getElem_toArray, List.getElem_cons_zero, List.getElem_cons_succ, List.setIfInBounds_toArray, List.set_cons_zero, List.set_cons_succ]) | (refine wpS_take _ ?_ rfl (by rfl) ?_ ?_; rotate_left; (focus (intro w' hS'; (try dsimp only at hS'); (repeat (have hS1 := hS'.1; replace hS' := hS'.2)); go_simp; (try with_reducible rfl); done)); simp only [Act.put, List.getElem_toArray, List.getElem_cons_zero, List.getElem_cons_succ, List.setIfInBounds_toArray, List.set_cons_zero, List.set_cons_succ])))
            refine wpS_done ?_
            have c0' : W5.drew.cell? ⟨wr.heap.size, 0, none⟩ = some (.int .i64 kd) := c0
            have c1' : W5.drew.cell? ⟨wr.heap.size, 1, none⟩ = some (.string ln_) := c1_
            have HOQ : Hid (W5.drew.ownsRow w.heap.size 9 1 (.slice Ao no co) no (sts out)) := Lib.hid (own_below HOA.out (Below.refl _ _).drew)
            have HBQ : Hid (Below w.heap.size w W5.drew) := Lib.hid HBE.out.drew
            obtain ⟨A2, hA2⟩ : ∃ y, (if c1 = 1 then some (⟨bA, oA, none⟩ : Addr) else some ⟨bA, oA + 1, none⟩) = y := ⟨_, rfl⟩
            have HRAQ : Hid (Rd w A2 (sts r)) := Lib.hid (by
              have h := HRA.out.drop (k := 1) (size := 1) (cap := c1) (by rw [sts_len]; simp; omega)
              have e1 : (sts (x :: r)).drop (1 * 1) = sts r := rfl
              rw [e1] at h
              rw [← hA2]
              exact h)
            generalize W5.drew = WQ at *
            obtain ⟨W6, hW6⟩ : ∃ W, WQ.alloc (.cells #[.string ln_] 9) = W := ⟨_, rfl⟩
            obtain ⟨r6, b6, s6⟩ := new_row hW6
            have HO6 : Hid (W6.ownsRow w.heap.size 9 1 (.slice Ao no co) no (sts out)) := Lib.hid (own_below HOQ.out b6)
            have HR6 : Hid (Rd W6 (some ⟨WQ.heap.size, 0, none⟩) (sts [ln_])) := Lib.hid (range_rd (range_of_row (cs := sts [ln_]) r6))
            have HBX : Hid (Below w.heap.size w W6) := Lib.hid (ext_trans HBQ.out b6)
            have HBA := Lib.hid HBX.out.size
            clear r6 b6 s6
            go_wp2_with (first
              | ((with_reducible (refine wpList_load_cells 36 _ b (off + k * 2) ([.int .i64 kd, .string ln_]) HRS.out Tryd.underlying36 rfl info_ed ?_ rfl ?_ ?_)); (exact rfl); (exact rfl))
              | (at_builtin; refine wpList_append_rd _ rfl _ _ 22 rfl w.heap.size 9 _ 1 16 Tryd.underlying22 info_str rfl (by decide) (.slice Ao no co) no _ rfl HO6.out _ 1 1 (sts [ln_]) rfl rfl HR6.out (sts_one _) (by unfold maxLen; omega) (by omega) HBA.out ?_; intro v7 w7 ho7 hg7 hvb7; obtain ⟨A7, c7, e7, _⟩ := own_slice ho7; subst e7; have HO7 := Lib.hid ho7; have HB7 := Lib.hid (bel_own HBX.out rfl HO6.out hg7); clear ho7 hg7 hvb7))
            have HGN : Hid (patchG r (s.drop (k + 1)) (out ++ [ln_]) = q) := Lib.hid (by have h := HG.out; rw [HDR.out, HX.out, patchG_cons2 HKD.out] at h; exact h)
            rw [← HA.out]
            clear hW5 r5 c0 c1_ hA2 hW6 c0' c1' z5 z6 hne hA3 z0 z9
            go_roundg (n - (k + 1))
            case measure => omega
            case rel => exact ⟨k + 1, r.length, A2, (c1 - 1), A7, (no + 1), c7, r, (out ++ [ln_]), by omega, rfl, by omega, by first | rfl | exact congrArg (Value.int .i64) (by omega) | go_num, rfl, rfl, Lib.hid rfl, Lib.hid (by omega), HGN, HRAQ, Lib.hid (by rw [sts_app]; exact HO7.out), HB7⟩
          · have z6 : (!decide (x = ln_)) = true := by rw [decide_eq_false hx]; rfl
            have HQ_ : Hid (q = ([], 70)) := Lib.hid (by have h := HG.out; rw [HDR.out, patchG_cons1 H01.out hx] at h; exact h.symm)
            clear hx
            go_wp2_with ((with_reducible (refine wpList_load_cells 36 _ b (off + k * 2) ([.int .i64 kd, .string ln_]) HRS.out Tryd.underlying36 rfl info_ed ?_ rfl ?_ ?_)); (exact rfl); (exact rfl))
            refine wp_region_sched (fun w' => w'.cell? ⟨wr.heap.size, 1, none⟩ = some (.string ln_) ∧ w'.cell? ⟨bA, oA, none⟩ = some (.string x)) [(true, 0), (true, 1), (true, 2), (true, 3), (true, 4), (true, 5), (true, 6), (true, 7), (true, 8), (true, 9), (true, 10)] (by kernel_rfl) (by kernel_rfl) rfl (by kernel_rfl) ⟨c1_, hA3⟩ ?_
            (first | (refine wpS_pass _ rfl (by rfl) ?_; simp only [Act.put, List.getElem_toArray, List.getElem_cons_zero, List.getElem_cons_succ, List.setIfInBounds_toArray, List.set_cons_zero, List.set_cons_succ]) | (refine wpS_take _ ?_ rfl (by rfl) ?_ ?_; rotate_left; (focus (intro w' hS'; (try dsimp only at hS'); (repeat (have hS1 := hS'.1; replace hS' := hS'.2)); go_simp; (try with_reducible rfl); done)); simp only [Act.put, List.getElem_toArray, List.getElem_cons_zero, List.getElem_cons_succ, List.setIfInBounds_toArray, List.set_cons_zero, List.set_cons_succ]))
            (first | (refine wpS_pass _ rfl (by rfl) ?_; simp only [Act.put, List.getElem_toArray, List.getElem_cons_zero, List.getElem_cons_succ, List.setIfInBounds_toArray, List.set_cons_zero, List.set_cons_succ]) | (refine wpS_take _ ?_ rfl (by rfl) ?_ ?_; rotate_left; (focus (intro w' hS'; (try dsimp only at hS'); (repeat (have hS1 := hS'.1; replace hS' := hS'.2)); go_simp; (try with_reducible rfl); done)); simp only [Act.put, List.getElem_toArray, List.getElem_cons_zero, List.getElem_cons_succ, List.setIfInBounds_toArray, List.set_cons_zero, List.set_cons_succ]))
            (first | (refine wpS_pass _ rfl (by rfl) ?_; simp only [Act.put, List.getElem_toArray, List.getElem_cons_zero, List.getElem_cons_succ, List.setIfInBounds_toArray, List.set_cons_zero, List.set_cons_succ]) | (refine wpS_take _ ?_ rfl (by rfl) ?_ ?_; rotate_left; (focus (intro w' hS'; (try dsimp only at hS'); (repeat (have hS1 := hS'.1; replace hS' := hS'.2)); go_simp; (try with_reducible rfl); done)); simp only [Act.put, List.getElem_toArray, List.getElem_cons_zero, List.getElem_cons_succ, List.setIfInBounds_toArray, List.set_cons_zero, List.set_cons_succ]))
            (first | (refine wpS_pass _ rfl (by rfl) ?_; simp only [Act.put, List.getElem_toArray, List.getElem_cons_zero, List.getElem_cons_succ, List.setIfInBounds_toArray, List.set_cons_zero, List.set_cons_succ]) | (refine wpS_take _ ?_ rfl (by rfl) ?_ ?_; rotate_left; (focus (intro w' hS'; (try dsimp only at hS'); (repeat (have hS1 := hS'.1; replace hS' := hS'.2)); go_simp; (try with_reducible rfl); done)); simp only [Act.put, List.getElem_toArray, List.getElem_cons_zero, List.getElem_cons_succ, List.setIfInBounds_toArray, List.set_cons_zero, List.set_cons_succ]))
            (first | (refine wpS_pass _ rfl (by rfl) ?_; simp only [Act.put, List.getElem_toArray, List.getElem_cons_zero, List.getElem_cons_succ, List.setIfInBounds_toArray, List.set_cons_zero, List.set_cons_succ]) | (refine wpS_take _ ?_ rfl (by rfl) ?_ ?_; rotate_left; (focus (intro w' hS'; (try dsimp only at hS'); (repeat (have hS1 := hS'.1; replace hS' := hS'.2)); go_simp; (try with_reducible rfl); done)); simp only [Act.put, List.getElem_toArray, List.getElem_cons_zero, List.getElem_cons_succ, List.setIfInBounds_toArray, List.set_cons_zero, List.set_cons_succ]))
            (first | (refine wpS_pass _ rfl (by rfl) ?_; simp only [Act.put, List.getElem_toArray, List.getElem_cons_zero, List.getElem_cons_succ, List.setIfInBounds_toArray, List.set_cons_zero, List.set_cons_succ]) | (refine wpS_take _ ?_ rfl (by rfl) ?_ ?_; rotate_left; (focus (intro w' hS'; (try dsimp only at hS'); (repeat (have hS1 := hS'.1; replace hS' := hS'.2)); go_simp; (try with_reducible rfl); done)); simp only [Act.put, List.getElem_toArray, List.getElem_cons_zero, List.getElem_cons_succ, List.setIfInBounds_toArray, List.set_cons_zero, List.set_cons_succ]))
            (first | (refine wpS_pass _ rfl (by rfl) ?_; simp only [Act.put, List.getElem_toArray, List.getElem_cons_zero, List.getElem_cons_succ, List.setIfInBounds_toArray, List.set_cons_zero, List.set_cons_succ]) | (refine wpS_take _ ?_ rfl (by rfl) ?_ ?_; rotate_left; (focus (intro w' hS'; (try dsimp only at hS'); (repeat (have hS1 := hS'.1; replace hS' := hS'.2)); go_simp; (try with_reducible rfl); done)); simp only [Act.put, List.getElem_toArray, List.getElem_cons_zero, List.getElem_cons_succ, List.setIfInBounds_toArray, List.set_cons_zero, List.set_cons_succ]))
            (first | (refine wpS_pass _ rfl (by rfl) ?_; simp only [Act.put, List.getElem_toArray, List.getElem_cons_zero, List.getElem_cons_succ, List.setIfInBounds_toArray, List.set_cons_zero, List.set_cons_succ]) | (refine wpS_take _ ?_ rfl (by rfl) ?_ ?_; rotate_left; (focus (intro w' hS'; (try dsimp only at hS'); (repeat (have hS1 := hS'.1; replace hS' := hS'.2)); go_simp; (try with_reducible rfl); done)); simp only [Act.put, List.getElem_toArray, List.getElem_cons_zero, List.getElem_cons_succ, List.setIfInBounds_toArray, List.set_cons_zero, List.set_cons_succ]))
            (first | (refine wpS_pass _ rfl (by rfl) ?_; simp only [Act.put, List.getElem_toArray, List.getElem_cons_zero, List.getElem_cons_succ, List.setIfInBounds_toArray, List.set_cons_zero, List.set_cons_succ]) | (refine wpS_take _ ?_ rfl (by rfl) ?_ ?_; rotate_left; (focus (intro w' hS'; (try dsimp only at hS'); (repeat (have hS1 := hS'.1; replace hS' := hS'.2)); go_simp; (try with_reducible rfl); done)); simp only [Act.put, List.getElem_toArray, List.getElem_cons_zero, List.getElem_cons_succ, List.setIfInBounds_toArray, List.set_cons_zero, List.set_cons_succ]))
            refine wpS_take _ _ rfl (by rfl) (fun w' hS' => exec_bin _ _ _ _ _ rfl _ _ _ rfl rfl rfl (hne w')) ?_
            simp only [Act.put, List.getElem_toArray, List.getElem_cons_zero, List.getElem_cons_succ, List.setIfInBounds_toArray, List.set_cons_zero, List.set_cons_succ]
            (repeat (first | (refine wpS_pass _ rfl (by rfl) ?_; simp only [Act.put, List.getElem_toArray, List.getElem_cons_zero, List.getElem_cons_succ, List.setIfInBounds_toArray, List.set_cons_zero, List.set_cons_succ]) | (refine wpS_take _ ?_ rfl (by rfl) ?_ ?_; rotate_left; (focus (intro w' hS'; (try dsimp only at hS'); (repeat (have hS1 := hS'.1; replace hS' := hS'.2)); go_simp; (try with_reducible rfl); done)); simp only [Act.put, List.getElem_toArray, List.getElem_cons_zero, List.getElem_cons_succ, List.setIfInBounds_toArray, List.set_cons_zero, List.set_cons_succ])))
            refine wpS_done ?_
            have HBE : Hid (Below w.heap.size w W5.drew) := Lib.hid HBE.out.drew
            go_wp2_with fail
            have HQ : Hid (q = ([], 70)) := HQ_
            go_ret2
            refine ⟨none, 0, 0, ?_, ?_, Nat.le_refl _, Nat.zero_le _, ?_, HBE.out⟩
            · rw [HQ.out]; rfl
            · rw [HQ.out]; rfl
            · rw [HQ.out]; exact Rd.nil
      · have h1 : kd = 1 := by rcases H01.out with h | h; exact absurd h h0; exact h
        have z0 : (kd == 0) = false := by rw [beq_eq_false_iff_ne]; exact h0
        have z1 : (kd == 1) = true := by rw [beq_iff_eq]; exact h1
        have z9 : (kd != 1) = false := by simp [h1]
        have HKD : Hid (kd = 1) := Lib.hid h1
        clear h0 h1
        cases ar with
        | nil =>
          have hm0 : m = 0 := HLN.out
          subst hm0
          have HQ_ : Hid (q = ([], 70)) := Lib.hid (by have h := HG.out; rw [HDR.out, patchG_cons0 H01.out] at h; exact h.symm)
          go_wp2_with ((with_reducible (refine wpList_load_cells 36 _ b (off + k * 2) ([.int .i64 kd, .string ln_]) HRS.out Tryd.underlying36 rfl info_ed ?_ rfl ?_ ?_)); (exact rfl); (exact rfl))
          refine wp_region_sched (fun w' => w'.cell? ⟨wr.heap.size, 1, none⟩ = some (.string ln_)) [(true, 0), (true, 1), (true, 2), (true, 3), (true, 4), (true, 5), (true, 6), (true, 7), (true, 8), (true, 9), (true, 10)] (by kernel_rfl) (by kernel_rfl) rfl (by kernel_rfl) c1_ ?_
          (repeat (first | (refine wpS_pass _ rfl (by rfl) ?_; simp only [Act.put, List.getElem_toArray, List.getElem_cons_zero, List.getElem_cons_succ, List.setIfInBounds_toArray, List.set_cons_zero, List.set_cons_succ]) | (refine wpS_take _ ?_ rfl (by rfl) ?_ ?_; rotate_left; (focus (intro w' hS'; (try dsimp only at hS'); (repeat (have hS1 := hS'.1; replace hS' := hS'.2)); go_simp; (try with_reducible rfl); done)); simp only [Act.put, List.getElem_toArray, List.getElem_cons_zero, List.getElem_cons_succ, List.setIfInBounds_toArray, List.set_cons_zero, List.set_cons_succ])))
          refine wpS_done ?_
          have HBE : Hid (Below w.heap.size w W5.drew) := Lib.hid HBE.out.drew
          go_wp2_with fail
          have HQ : Hid (q = ([], 70)) := HQ_
          go_ret2
          refine ⟨none, 0, 0, ?_, ?_, Nat.le_refl _, Nat.zero_le _, ?_, HBE.out⟩
          · rw [HQ.out]; rfl
          · rw [HQ.out]; rfl
          · rw [HQ.out]; exact Rd.nil
        | cons x r =>
          have hm1 : m = r.length + 1 := HLN.out
          subst hm1
          obtain ⟨bA, oA, hA1, hA2⟩ := HRA5.out.at_ 0 (by simp [sts])
          have hA3 : W5.cell? ⟨bA, oA, none⟩ = some (.string x) := hA2
          have HRX := Lib.hid (HRA5.out)
          have HL2 := Lib.hid HLN2.out
          subst hA1
          have hcc := HLN2.out
          have z5 : ((r.length : Int) + 1 == 0) = false := by rw [beq_eq_false_iff_ne]; omega
          have j1 : (0 : Int) < (r.length : Int) + 1 := by omega
          have hne := fun w => bin_strne (P := Tryd.prog) Tryd.underlying9 x ln_ w
          clear hA2
          by_cases hx : x = ln_
          · have z6 : (!decide (x = ln_)) = false := by rw [decide_eq_true hx]; rfl
            have HX := Lib.hid hx
            clear hx
            go_wp2_with ((with_reducible (refine wpList_load_cells 36 _ b (off + k * 2) ([.int .i64 kd, .string ln_]) HRS.out Tryd.underlying36 rfl info_ed ?_ rfl ?_ ?_)); (exact rfl); (exact rfl))
            refine wp_region_sched (fun w' => w'.cell? ⟨wr.heap.size, 1, none⟩ = some (.string ln_) ∧ w'.cell? ⟨bA, oA, none⟩ = some (.string x)) [(true, 0), (true, 1), (true, 2), (true, 3), (true, 4), (true, 5), (true, 6), (true, 7), (true, 8), (true, 9), (true, 10)] (by kernel_rfl) (by kernel_rfl) rfl (by kernel_rfl) ⟨c1_, hA3⟩ ?_
            (first | (refine wpS_pass _ rfl (by rfl) ?_; simp only [Act.put, List.getElem_toArray, List.getElem_cons_zero, List.getElem_cons_succ, List.setIfInBounds_toArray, List.set_cons_zero, List.set_cons_succ]) | (refine wpS_take _ ?_ rfl (by rfl) ?_ ?_; rotate_left; (focus (intro w' hS'; (try dsimp only at hS'); (repeat (have hS1 := hS'.1; replace hS' := hS'.2)); go_simp; (try with_reducible rfl); done)); simp only [Act.put, List.getElem_toArray, List.getElem_cons_zero, List.getElem_cons_succ, List.setIfInBounds_toArray, List.set_cons_zero, List.set_cons_succ]))
            (first | (refine wpS_pass _ rfl (by rfl) ?_; simp only [Act.put, List.getElem_toArray, List.getElem_cons_zero, List.getElem_cons_succ, List.setIfInBounds_toArray, List.set_cons_zero, List.set_cons_succ]) | (refine wpS_take _ ?_ rfl (by rfl) ?_ ?_; rotate_left; (focus (intro w' hS'; (try dsimp only at hS'); (repeat (have hS1 := hS'.1; replace hS' := hS'.2)); go_simp; (try with_reducible rfl); done)); simp only [Act.put, List.getElem_toArray, List.getElem_cons_zero, List.getElem_cons_succ, List.setIfInBounds_toArray, List.set_cons_zero, List.set_cons_succ]))
            (first | (refine wpS_pass _ rfl (by rfl) ?_; simp only [Act.put, List.getElem_toArray, List.getElem_cons_zero, List.getElem_cons_succ, List.setIfInBounds_toArray, List.set_cons_zero, List.set_cons_succ]) | (refine wpS_take _ ?_ rfl (by rfl) ?_ ?_; rotate_left; (focus (intro w' hS'; (try dsimp only at hS'); (repeat (have hS1 := hS'.1; replace hS' := hS'.2)); go_simp; (try with_reducible rfl); done)); simp only [Act.put, List.getElem_toArray, List.getElem_cons_zero, List.getElem_cons_succ, List.setIfInBounds_toArray, List.set_cons_zero, List.set_cons_succ]))
            (first | (refine wpS_pass _ rfl (by rfl) ?_; simp only [Act.put, List.getElem_toArray, List.getElem_cons_zero, List.getElem_cons_succ, List.setIfInBounds_toArray, List.set_cons_zero, List.set_cons_succ]) | (refine wpS_take _ ?_ rfl (by rfl) ?_ ?_; rotate_left; (focus (intro w' hS'; (try dsimp only at hS'); (repeat (have hS1 := hS'.1; replace hS' := hS'.2)); go_simp; (try with_reducible rfl); done)); simp only [Act.put, List.getElem_toArray, List.getElem_cons_zero, List.getElem_cons_succ, List.setIfInBounds_toArray, List.set_cons_zero, List.set_cons_succ]))
            (first | (refine wpS_pass _ rfl (by rfl) ?_; simp only [Act.put, List.getElem_toArray, List.getElem_cons_zero, List.getElem_cons_succ, List.setIfInBounds_toArray, List.set_cons_zero, List.set_cons_succ]) | (refine wpS_take _ ?_ rfl (by rfl) ?_ ?_; rotate_left; (focus (intro w' hS'; (try dsimp only at hS'); (repeat (have hS1 := hS'.1; replace hS' := hS'.2)); go_simp; (try with_reducible rfl); done)); simp only [Act.put, List.getElem_toArray, List.getElem_cons_zero, List.getElem_cons_succ, List.setIfInBounds_toArray, List.set_cons_zero, List.set_cons_succ]))
            (first | (refine wpS_pass _ rfl (by rfl) ?_; simp only [Act.put, List.getElem_toArray, List.getElem_cons_zero, List.getElem_cons_succ, List.setIfInBounds_toArray, List.set_cons_zero, List.set_cons_succ]) | (refine wpS_take _ ?_ rfl (by rfl) ?_ ?_; rotate_left; (focus (intro w' hS'; (try dsimp only at hS'); (repeat (have hS1 := hS'.1; replace hS' := hS'.2)); go_simp; (try with_reducible rfl); done)); simp only [Act.put, List.getElem_toArray, List.getElem_cons_zero, List.getElem_cons_succ, List.setIfInBounds_toArray, List.set_cons_zero, List.set_cons_succ]))
            (first | (refine wpS_pass _ rfl (by rfl) ?_; simp only [Act.put, List.getElem_toArray, List.getElem_cons_zero, List.getElem_cons_succ, List.setIfInBounds_toArray, List.set_cons_zero, List.set_cons_succ]) | (refine wpS_take _ ?_ rfl (by rfl) ?_ ?_; rotate_left; (focus (intro w' hS'; (try dsimp only at hS'); (repeat (have hS1 := hS'.1; replace hS' := hS'.2)); go_simp; (try with_reducible rfl); done)); simp only [Act.put, List.getElem_toArray, List.getElem_cons_zero, List.getElem_cons_succ, List.setIfInBounds_toArray, List.set_cons_zero, List.set_cons_succ]))
            (first | (refine wpS_pass _ rfl (by rfl) ?_; simp only [Act.put, List.getElem_toArray, List.getElem_cons_zero, List.getElem_cons_succ, List.setIfInBounds_toArray, List.set_cons_zero, List.set_cons_succ]) | (refine wpS_take _ ?_ rfl (by rfl) ?_ ?_; rotate_left; (focus (intro w' hS'; (try dsimp only at hS'); (repeat (have hS1 := hS'.1; replace hS' := hS'.2)); go_simp; (try with_reducible rfl); done)); simp only [Act.put, List.getElem_toArray, List.getElem_cons_zero, List.getElem_cons_succ, List.setIfInBounds_toArray, List.set_cons_zero, List.set_cons_succ]))
            (first | (refine wpS_pass _ rfl (by rfl) ?_; simp only [Act.put, List.getElem_toArray, List.getElem_cons_zero, List.getElem_cons_succ, List.setIfInBounds_toArray, List.set_cons_zero, List.set_cons_succ]) | (refine wpS_take _ ?_ rfl (by rfl) ?_ ?_; rotate_left; (focus (intro w' hS'; (try dsimp only at hS'); (repeat (have hS1 := hS'.1; replace hS' := hS'.2)); go_simp; (try with_reducible rfl); done)); simp only [Act.put, List.getElem_toArray, List.getElem_cons_zero, List.getElem_cons_succ, List.setIfInBounds_toArray, List.set_cons_zero, List.set_cons_succ]))
            refine wpS_take _ _ rfl (by rfl) (fun w' hS' => exec_bin _ _ _ _ _ rfl _ _ _ rfl rfl rfl (hne w')) ?_
            simp only [Act.put, List.getElem_toArray, List.getElem_cons_zero, List.getElem_cons_succ, List.setIfInBounds_toArray, List.set_cons_zero, List.set_cons_succ]
            (repeat (first | (refine wpS_pass _ rfl (by rfl) ?_; simp only [Act.put, List.getElem_toArray, List.getElem_cons_zero, List.getElem_cons_succ, List.setIfInBounds_toArray, List.set_cons_zero, List.set_cons_succ]) | (refine wpS_take _ ?_ rfl (by rfl) ?_ ?_; rotate_left; (focus (intro w' hS'; (try dsimp only at hS'); (repeat (have hS1 := hS'.1; replace hS' := hS'.2)); go_simp; (try with_reducible rfl); done)); simp only [Act.put, List.getElem_toArray, List.getElem_cons_zero, List.getElem_cons_succ, List.setIfInBounds_toArray, List.set_cons_zero, List.set_cons_succ])))
            refine wpS_done ?_
            have c0' : W5.drew.cell? ⟨wr.heap.size, 0, none⟩ = some (.int .i64 kd) := c0
            have c1' : W5.drew.cell? ⟨wr.heap.size, 1, none⟩ = some (.string ln_) := c1_
            have HOQ : Hid (W5.drew.ownsRow w.heap.size 9 1 (.slice Ao no co) no (sts out)) := Lib.hid (own_below HOA.out (Below.refl _ _).drew)
            have HBQ : Hid (Below w.heap.size w W5.drew) := Lib.hid HBE.out.drew
            obtain ⟨A2, hA2⟩ : ∃ y, (if c1 = 1 then some (⟨bA, oA, none⟩ : Addr) else some ⟨bA, oA + 1, none⟩) = y := ⟨_, rfl⟩
            have HRAQ : Hid (Rd w A2 (sts r)) := Lib.hid (by
              have h := HRA.out.drop (k := 1) (size := 1) (cap := c1) (by rw [sts_len]; simp; omega)
              have e1 : (sts (x :: r)).drop (1 * 1) = sts r := rfl
              rw [e1] at h
              rw [← hA2]
              exact h)
            generalize W5.drew = WQ at *
            go_wp2_with fail
            have HGN : Hid (patchG r (s.drop (k + 1)) out = q) := Lib.hid (by have h := HG.out; rw [HDR.out, HX.out, patchG_cons3 HKD.out] at h; exact h)
            rw [← HA.out]
            clear hW5 r5 c0 c1_ hA2 c0' c1' z5 z6 hne hA3 z0 z1 z9
            go_roundg (n - (k + 1))
            case measure => omega
            case rel => exact ⟨k + 1, r.length, A2, (c1 - 1), Ao, no, co, r, out, by omega, rfl, by omega, by first | rfl | exact congrArg (Value.int .i64) (by omega) | go_num, rfl, rfl, Lib.hid rfl, Lib.hid (by omega), HGN, HRAQ, HOQ, HBQ⟩
          · have z6 : (!decide (x = ln_)) = true := by rw [decide_eq_false hx]; rfl
            have HQ_ : Hid (q = ([], 70)) := Lib.hid (by have h := HG.out; rw [HDR.out, patchG_cons1 H01.out hx] at h; exact h.symm)
            clear hx
            go_wp2_with ((with_reducible (refine wpList_load_cells 36 _ b (off + k * 2) ([.int .i64 kd, .string ln_]) HRS.out Tryd.underlying36 rfl info_ed ?_ rfl ?_ ?_)); (exact rfl); (exact rfl))
            refine wp_region_sched (fun w' => w'.cell? ⟨wr.heap.size, 1, none⟩ = some (.string ln_) ∧ w'.cell? ⟨bA, oA, none⟩ = some (.string x)) [(true, 0), (true, 1), (true, 2), (true, 3), (true, 4), (true, 5), (true, 6), (true, 7), (true, 8), (true, 9), (true, 10)] (by kernel_rfl) (by kernel_rfl) rfl (by kernel_rfl) ⟨c1_, hA3⟩ ?_
            (first | (refine wpS_pass _ rfl (by rfl) ?_; simp only [Act.put, List.getElem_toArray, List.getElem_cons_zero, List.getElem_cons_succ, List.setIfInBounds_toArray, List.set_cons_zero, List.set_cons_succ]) | (refine wpS_take _ ?_ rfl (by rfl) ?_ ?_; rotate_left; (focus (intro w' hS'; (try dsimp only at hS'); (repeat (have hS1 := hS'.1; replace hS' := hS'.2)); go_simp; (try with_reducible rfl); done)); simp only [Act.put, List.getElem_toArray, List.getElem_cons_zero, List.getElem_cons_succ, List.setIfInBounds_toArray, List.set_cons_zero, List.set_cons_succ]))
            (first | (refine wpS_pass _ rfl (by rfl) ?_; simp only [Act.put, List.getElem_toArray, List.getElem_cons_zero, List.getElem_cons_succ, List.setIfInBounds_toArray, List.set_cons_zero, List.set_cons_succ]) | (refine wpS_take _ ?_ rfl (by rfl) ?_ ?_; rotate_left; (focus (intro w' hS'; (try dsimp only at hS'); (repeat (have hS1 := hS'.1; replace hS' := hS'.2)); go_simp; (try with_reducible rfl); done)); simp only [Act.put, List.getElem_toArray, List.getElem_cons_zero, List.getElem_cons_succ, List.setIfInBounds_toArray, List.set_cons_zero, List.set_cons_succ]))
            (first | (refine wpS_pass _ rfl (by rfl) ?_; simp only [Act.put, List.getElem_toArray, List.getElem_cons_zero, List.getElem_cons_succ, List.setIfInBounds_toArray, List.set_cons_zero, List.set_cons_succ]) | (refine wpS_take _ ?_ rfl (by rfl) ?_ ?_; rotate_left; (focus (intro w' hS'; (try dsimp only at hS'); (repeat (have hS1 := hS'.1; replace hS' := hS'.2)); go_simp; (try with_reducible rfl); done)); simp only [Act.put, List.getElem_toArray, List.getElem_cons_zero, List.getElem_cons_succ, List.setIfInBounds_toArray, List.set_cons_zero, List.set_cons_succ]))
            (first | (refine wpS_pass _ rfl (by rfl) ?_; simp only [Act.put, List.getElem_toArray, List.getElem_cons_zero, List.getElem_cons_succ, List.setIfInBounds_toArray, List.set_cons_zero, List.set_cons_succ]) | (refine wpS_take _ ?_ rfl (by rfl) ?_ ?_; rotate_left; (focus (intro w' hS'; (try dsimp only at hS'); (repeat (have hS1 := hS'.1; replace hS' := hS'.2)); go_simp; (try with_reducible rfl); done)); simp only [Act.put, List.getElem_toArray, List.getElem_cons_zero, List.getElem_cons_succ, List.setIfInBounds_toArray, List.set_cons_zero, List.set_cons_succ]))
            (first | (refine wpS_pass _ rfl (by rfl) ?_; simp only [Act.put, List.getElem_toArray, List.getElem_cons_zero, List.getElem_cons_succ, List.setIfInBounds_toArray, List.set_cons_zero, List.set_cons_succ]) | (refine wpS_take _ ?_ rfl (by rfl) ?_ ?_; rotate_left; (focus (intro w' hS'; (try dsimp only at hS'); (repeat (have hS1 := hS'.1; replace hS' := hS'.2)); go_simp; (try with_reducible rfl); done)); simp only [Act.put, List.getElem_toArray, List.getElem_cons_zero, List.getElem_cons_succ, List.setIfInBounds_toArray, List.set_cons_zero, List.set_cons_succ]))
            (first | (refine wpS_pass _ rfl (by rfl) ?_; simp only [Act.put, List.getElem_toArray, List.getElem_cons_zero, List.getElem_cons_succ, List.setIfInBounds_toArray, List.set_cons_zero, List.set_cons_succ]) | (refine wpS_take _ ?_ rfl (by rfl) ?_ ?_; rotate_left; (focus (intro w' hS'; (try dsimp only at hS'); (repeat (have hS1 := hS'.1; replace hS' := hS'.2)); go_simp; (try with_reducible rfl); done)); simp only [Act.put, List.getElem_toArray, List.getElem_cons_zero, List.getElem_cons_succ, List.setIfInBounds_toArray, List.set_cons_zero, List.set_cons_succ]))
            (first | (refine wpS_pass _ rfl (by rfl) ?_; simp only [Act.put, List.getElem_toArray, List.getElem_cons_zero, List.getElem_cons_succ, List.setIfInBounds_toArray, List.set_cons_zero, List.set_cons_succ]) | (refine wpS_take _ ?_ rfl (by rfl) ?_ ?_; rotate_left; (focus (intro w' hS'; (try dsimp only at hS'); (repeat (have hS1 := hS'.1; replace hS' := hS'.2)); go_simp; (try with_reducible rfl); done)); simp only [Act.put, List.getElem_toArray, List.getElem_cons_zero, List.getElem_cons_succ, List.setIfInBounds_toArray, List.set_cons_zero, List.set_cons_succ]))
            (first | (refine wpS_pass _ rfl (by rfl) ?_; simp only [Act.put, List.getElem_toArray, List.getElem_cons_zero, List.getElem_cons_succ, List.setIfInBounds_toArray, List.set_cons_zero, List.set_cons_succ]) | (refine wpS_take _ ?_ rfl (by rfl) ?_ ?_; rotate_left; (focus (intro w' hS'; (try dsimp only at hS'); (repeat (have hS1 := hS'.1; replace hS' := hS'.2)); go_simp; (try with_reducible rfl); done)); simp only [Act.put, List.getElem_toArray, List.getElem_cons_zero, List.getElem_cons_succ, List.setIfInBounds_toArray, List.set_cons_zero, List.set_cons_succ]))
            (first | (refine wpS_pass _ rfl (by rfl) ?_; simp only [Act.put, List.getElem_toArray, List.getElem_cons_zero, List.getElem_cons_succ, List.setIfInBounds_toArray, List.set_cons_zero, List.set_cons_succ]) | (refine wpS_take _ ?_ rfl (by rfl) ?_ ?_; rotate_left; (focus (intro w' hS'; (try dsimp only at hS'); (repeat (have hS1 := hS'.1; replace hS' := hS'.2)); go_simp; (try with_reducible rfl); done)); simp only [Act.put, List.getElem_toArray, List.getElem_cons_zero, List.getElem_cons_succ, List.setIfInBounds_toArray, List.set_cons_zero, List.set_cons_succ]))
            refine wpS_take _ _ rfl (by rfl) (fun w' hS' => exec_bin _ _ _ _ _ rfl _ _ _ rfl rfl rfl (hne w')) ?_
            simp only [Act.put, List.getElem_toArray, List.getElem_cons_zero, List.getElem_cons_succ, List.setIfInBounds_toArray, List.set_cons_zero, List.set_cons_succ]
            (repeat (first | (refine wpS_pass _ rfl (by rfl) ?_; simp only [Act.put, List.getElem_toArray, List.getElem_cons_zero, List.getElem_cons_succ, List.setIfInBounds_toArray, List.set_cons_zero, List.set_cons_succ]) | (refine wpS_take _ ?_ rfl (by rfl) ?_ ?_; rotate_left; (focus (intro w' hS'; (try dsimp only at hS'); (repeat (have hS1 := hS'.1; replace hS' := hS'.2)); go_simp; (try with_reducible rfl); done)); simp only [Act.put, List.getElem_toArray, List.getElem_cons_zero, List.getElem_cons_succ, List.setIfInBounds_toArray, List.set_cons_zero, List.set_cons_succ])))
            refine wpS_done ?_
            have HBE : Hid (Below w.heap.size w W5.drew) := Lib.hid HBE.out.drew
            go_wp2_with fail
            have HQ : Hid (q = ([], 70)) := HQ_
            go_ret2
            refine ⟨none, 0, 0, ?_, ?_, Nat.le_refl _, Nat.zero_le _, ?_, HBE.out⟩
            · rw [HQ.out]; rfl
            · rw [HQ.out]; rfl
            · rw [HQ.out]; exact Rd.nil
    · have h0 : ¬ kd = 0 := fun e => h01 (.inl e)
      have h1 : ¬ kd = 1 := fun e => h01 (.inr e)
      have z0 : (kd == 0) = false := by rw [beq_eq_false_iff_ne]; exact h0
      have z1 : (kd == 1) = false := by rw [beq_eq_false_iff_ne]; exact h1
      have z9 : (kd != 1) = true := by rw [bne_iff_ne]; exact h1
      clear h01
      by_cases h2 : kd = 2
      · have z2 : (kd == 2) = true := by rw [beq_iff_eq]; exact h2
        have HGN : Hid (patchG ar (s.drop (k + 1)) (out ++ [ln_]) = q) := Lib.hid (by have h := HG.out; rw [HDR.out, patchG_cons4 h2] at h; exact h)
        clear h0 h1 h2
        have HOQ := HOA
        have HBQ := HBE
        have HRAQ := HRA
        obtain ⟨WQ, hWQ⟩ : ∃ W, W = W5 := ⟨_, rfl⟩
        subst hWQ
        obtain ⟨W6, hW6⟩ : ∃ W, WQ.alloc (.cells #[.string ln_] 9) = W := ⟨_, rfl⟩
        obtain ⟨r6, b6, s6⟩ := new_row hW6
        have HO6 : Hid (W6.ownsRow w.heap.size 9 1 (.slice Ao no co) no (sts out)) := Lib.hid (own_below HOQ.out b6)
        have HR6 : Hid (Rd W6 (some ⟨WQ.heap.size, 0, none⟩) (sts [ln_])) := Lib.hid (range_rd (range_of_row (cs := sts [ln_]) r6))
        have HBX : Hid (Below w.heap.size w W6) := Lib.hid (ext_trans HBQ.out b6)
        have HBA := Lib.hid HBX.out.size
        clear r6 b6 s6
        go_wp2_with (first
          | ((with_reducible (refine wpList_load_cells 36 _ b (off + k * 2) ([.int .i64 kd, .string ln_]) HRS.out Tryd.underlying36 rfl info_ed ?_ rfl ?_ ?_)); (exact rfl); (exact rfl))
          | (at_builtin; refine wpList_append_rd _ rfl _ _ 22 rfl w.heap.size 9 _ 1 16 Tryd.underlying22 info_str rfl (by decide) (.slice Ao no co) no _ rfl HO6.out _ 1 1 (sts [ln_]) rfl rfl HR6.out (sts_one _) (by unfold maxLen; omega) (by omega) HBA.out ?_; intro v7 w7 ho7 hg7 hvb7; obtain ⟨A7, c7, e7, _⟩ := own_slice ho7; subst e7; have HO7 := Lib.hid ho7; have HB7 := Lib.hid (bel_own HBX.out rfl HO6.out hg7); clear ho7 hg7 hvb7))
        rw [← HA.out]
        clear hW5 r5 c0 c1_ hW6 z0 z1 z2 z9
        go_roundg (n - (k + 1))
        case measure => omega
        case rel => exact ⟨k + 1, m, A1, c1, A7, (no + 1), c7, ar, (out ++ [ln_]), by omega, rfl, by omega, by first | rfl | exact congrArg (Value.int .i64) (by omega) | go_num, rfl, rfl, Lib.hid HLN.out, Lib.hid HLN2.out, HGN, HRAQ, Lib.hid (by rw [sts_app]; exact HO7.out), HB7⟩
      · have z2 : (kd == 2) = false := by rw [beq_eq_false_iff_ne]; exact h2
        have HQ_ : Hid (q = ([], 1)) := Lib.hid (by have h := HG.out; rw [HDR.out, patchG_cons5 h0 h1 h2] at h; exact h.symm)
        clear h0 h1 h2
        go_wp2_with ((with_reducible (refine wpList_load_cells 36 _ b (off + k * 2) ([.int .i64 kd, .string ln_]) HRS.out Tryd.underlying36 rfl info_ed ?_ rfl ?_ ?_)); (exact rfl); (exact rfl))
        have HQ : Hid (q = ([], 1)) := HQ_
        go_ret2
        refine ⟨none, 0, 0, ?_, ?_, Nat.le_refl _, Nat.zero_le _, ?_, HBE.out⟩
        · rw [HQ.out]; rfl
        · rw [HQ.out]; rfl
        · rw [HQ.out]; exact Rd.nil
  · obtain rfl : k = n := by omega
    clear hlt hk
    have HGE : Hid (patchG ar [] out = q) := Lib.hid (by have h := HG.out; rw [← HN.out, List.drop_length] at h; exact h)
    cases ar with
    | nil =>
      have hm0 : m = 0 := HLN.out
      subst hm0
      go_wp2_with fail
      go_ret2
      obtain ⟨B7, c7, e7, d1, d2, _⟩ := own_slice HO.out
      cases e7
      have hq : q = (out, 0) := by have h := HGE.out; rw [patchG_nil, if_pos rfl] at h; exact h.symm
      have hl7 : no = out.length := by have h := HO.out.1; rw [sts_len] at h; omega
      rw [hq]
      exact ⟨_, _, _, rfl, hl7, d1, d2, own_rd HO.out, HBW.out⟩
    | cons x r =>
      have hm1 : m = r.length + 1 := HLN.out
      subst hm1
      have j1 : (0 : Int) < (r.length : Int) + 1 := by omega
      have HBE := HBW
      have HQ_ : Hid (q = ([], 70)) := Lib.hid (by have h := HGE.out; rw [patchG_nil, if_neg (by simp)] at h; exact h.symm)
      go_wp2_with fail
      have HQ : Hid (q = ([], 70)) := HQ_
      go_ret2
      refine ⟨none, 0, 0, ?_, ?_, Nat.le_refl _, Nat.zero_le _, ?_, HBE.out⟩
      · rw [HQ.out]; rfl
      · rw [HQ.out]; rfl
      · rw [HQ.out]; exact Rd.nil
end Go.Proofs.YtmniggjadfdheaaDoor
