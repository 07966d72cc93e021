
/- ShaSums: the walk. -/

import Derived.Test.YtkiggfahcakdeaaShaTab5

import Derived.Test.YtkiggfahcakdeaaShaRefD

import Derived.Test.YtkiggfahcakdeaaShaParts

namespace Go.Proofs.Ytkiggfahcakdeaa

set_option linter.unusedVariables false

set_option linter.unusedSimpArgs false

open Go.RowKit

/-- the document's sum by a table that was found -/
theorem refsum_found (A1 A2 : Option Addr) (c1 c2 : Nat) (A : Option Addr) (bs V : List UInt8) (hV : shaL bs = V) (n c : Nat) (hn : n = bs.length) (w : World) (h1 : Rd w A1 (w32s H0.list)) (h2 : Rd w A2 (w32s K0)) (hr : Rd w A (b8s bs)) (hm : bs.length ≤ 1099511627776) :
    Calls Try.prog 20 #[.agg #[.slice A1 8 c1, .slice A2 64 c2], .slice A n c] w fun e w' => e = .returned (.agg (b8s V).toArray) ∧ Below w.heap.size w w' := by
  subst hn
  subst hV
  exact refsum_any A1 A2 c1 c2 H0 K0 rfl A bs c w h1 h2 hr hm

set_option maxRecDepth 100000 in
set_option maxHeartbeats 2000000 in
theorem shaSums_any (A0 : Option Addr) (b : List UInt8) (c0 : Nat) (w : World) (h0 : Rd w A0 (b8s b)) (k0 : b.length ≤ c0) (m0 : c0 ≤ 9223372036854775807) :
    Calls Try.prog 6 #[.slice A0 b.length c0] w fun e w' => e = .returned (.bool true) ∧ Below w.heap.size w w' := by
  have H0' := Lib.hid h0
  clear h0
  by_cases hs : b.length ≤ 5000
  · have e0 : decide ((5000 : Int) < (b.length : Int)) = false := by rw [decide_eq_false_iff_not]; omega
    have e1 : ¬ (5000 : Int) < (b.length : Int) := by omega
    go_enter Try.func6, Try.ntmps6
    go_wp2_with fail
    refine (alive_any w).mono ?_
    rintro e w1 ⟨rfl, hb1⟩
    go_wp2_with fail
    refine (tables_any _).mono ?_
    rintro e w2 ⟨A1, A2, c1, c2, rfl, hb2, hr1, hr2⟩
    obtain ⟨W8, hW8⟩ : ∃ W8, w2.alloc (.cells #[.slice A1 8 c1, .slice A2 64 c2] 39) = W8 := ⟨_, rfl⟩
    have hrow : W8.heap[w2.heap.size]? = some (.cells #[.slice A1 8 c1, .slice A2 64 c2] 39 (0, 0)) := by rw [← hW8]; exact heap_alloc_new w2 _
    have hbA : Below w2.heap.size w2 W8 := by rw [← hW8]; exact (Below.refl _ _).alloc (Nat.le_refl _) _
    have hb2' := ext_trans hb1 hb2
    have HROW := Lib.hid hrow
    have HL8 := Lib.hid (Array.getElem?_eq_some_iff.1 hrow).1
    have HB8 := Lib.hid (ext_trans hb2' hbA)
    have HK1 := Lib.hid (hr1.below hbA)
    have HK2 := Lib.hid (hr2.below hbA)
    have HR8 := Lib.hid (H0'.out.below HB8.out)
    have HW8 := Lib.hid hW8
    obtain ⟨V, hV⟩ : ∃ V, shaL b = V := ⟨_, rfl⟩
    have hVl : V.length = 32 := by rw [← hV]; rfl
    have HVL := Lib.hid hVl
    have HV := Lib.hid hV
    clear hW8 hrow hbA hb2' hb1 hb2 hr1 hr2 hV hVl
    obtain ⟨T, hT⟩ : ∃ T : ByteArray, (⟨b.toArray⟩ : ByteArray) = T := ⟨_, rfl⟩
    have hcv : ∀ w', Rd w' A0 (b8s b) → (convert 32 9 (.slice A0 b.length c0)).run Try.prog w' = .ok (.string T) w' := fun w' h => by
      rw [← hT]
      exact run_str_of_bytes b.length c0 rfl Try.underlying32 Try.underlying5 Try.underlying9 h
    have HCV := Lib.hid hcv
    clear hcv hT
    have hm5 : b.length ≤ 140737488355328 := by omega
    have hm6 : b.length ≤ 1099511627776 := by omega
    clear hs e0 e1
    go_wp2_with fail
    rw [HW8.out, HCV.out _ HR8.out]
    simp only [Result.andThen]
    rw [Oper.upon_value]
    have heq := fun w => eq_ids_self V HVL.out w
    have t0 : W8.cell? ⟨w2.heap.size, 0, none⟩ = some (.slice A1 8 c1) := by rw [row_cell HROW.out]; rfl
    have t1 : W8.cell? ⟨w2.heap.size, 1, none⟩ = some (.slice A2 64 c2) := by rw [row_cell HROW.out]; rfl
    go_wp2_with fail
    refine wp_region_sched (fun w' => w'.cell? ⟨w2.heap.size, 0, none⟩ = some (.slice A1 8 c1) ∧ w'.cell? ⟨w2.heap.size, 1, none⟩ = some (.slice A2 64 c2) ∧ Rd w' A0 (b8s b))
      [(true, 0), (true, 2), (true, 3), (false, 1), (false, 4), (true, 5), (true, 6), (true, 7), (true, 8), (true, 9), (true, 10), (true, 11), (true, 12)] (by kernel_rfl) (by kernel_rfl) rfl (by kernel_rfl) ⟨t0, t1, HR8.out⟩ ?_
    (repeat (first | (refine wpS_pass _ rfl (by rfl) ?_; simp only [Act.put, List.getElem_toArray, List.getElem_cons_zero, List.getElem_cons_succ, List.setIfInBounds_toArray, List.set_cons_zero, List.set_cons_succ]) | (refine wpS_take _ ?_ rfl (by rfl) ?_ ?_; rotate_left; (focus (intro w' hS'; (try dsimp only at hS'); (repeat (have hS1 := hS'.1; replace hS' := hS'.2)); go_simp; (try with_reducible rfl); done)); simp only [Act.put, List.getElem_toArray, List.getElem_cons_zero, List.getElem_cons_succ, List.setIfInBounds_toArray, List.set_cons_zero, List.set_cons_succ])))
    refine wpS_do _ rfl (by rfl) (fun K hK => ?_)
    go_simp
    refine (sum_v A0 b V HV.out b.length c0 rfl _ HR8.out.drew hm5 k0 m0).mono ?_
    rintro e w4 ⟨rfl, hb4⟩
    have hb34 : Below W8.heap.size W8 w4 := (Below.refl _ _).drew.trans hb4
    have c0' : w4.cell? ⟨w2.heap.size, 0, none⟩ = some (.slice A1 8 c1) := by rw [row_cell ((hb34.block _ HL8.out).trans HROW.out)]; rfl
    have c1' : w4.cell? ⟨w2.heap.size, 1, none⟩ = some (.slice A2 64 c2) := by rw [row_cell ((hb34.block _ HL8.out).trans HROW.out)]; rfl
    refine hK.out _ _ ⟨c0', c1', HR8.out.below hb34⟩ (fun hS => ?_)
    clear hK hS c0' c1'
    refine wpS_do _ rfl (by rfl) (fun K hK => ?_)
    go_simp
    refine (refsum_found A1 A2 c1 c2 A0 b V HV.out b.length c0 rfl w4 (HK1.out.below hb34) (HK2.out.below hb34) (HR8.out.below hb34) hm6).mono ?_
    rintro e w5 ⟨rfl, hb5⟩
    have hb35 := hb34.trans (hb5.mono hb34.size)
    have c0' : w5.cell? ⟨w2.heap.size, 0, none⟩ = some (.slice A1 8 c1) := by rw [row_cell ((hb35.block _ HL8.out).trans HROW.out)]; rfl
    have c1' : w5.cell? ⟨w2.heap.size, 1, none⟩ = some (.slice A2 64 c2) := by rw [row_cell ((hb35.block _ HL8.out).trans HROW.out)]; rfl
    refine hK.out _ _ ⟨c0', c1', HR8.out.below hb35⟩ (fun hS => ?_)
    clear hK hS c0' c1'
    (first | (refine wpS_pass _ rfl (by rfl) ?_; simp only [Act.put, List.getElem_toArray, List.getElem_cons_zero, List.getElem_cons_succ, List.setIfInBounds_toArray, List.set_cons_zero, List.set_cons_succ]) | (refine wpS_take _ ?_ rfl (by rfl) ?_ ?_; rotate_left; (focus (intro w' hS'; (try dsimp only at hS'); (repeat (have hS1 := hS'.1; replace hS' := hS'.2)); go_simp; (try with_reducible rfl); done)); simp only [Act.put, List.getElem_toArray, List.getElem_cons_zero, List.getElem_cons_succ, List.setIfInBounds_toArray, List.set_cons_zero, List.set_cons_succ]))
    (first | (refine wpS_pass _ rfl (by rfl) ?_; simp only [Act.put, List.getElem_toArray, List.getElem_cons_zero, List.getElem_cons_succ, List.setIfInBounds_toArray, List.set_cons_zero, List.set_cons_succ]) | (refine wpS_take _ ?_ rfl (by rfl) ?_ ?_; rotate_left; (focus (intro w' hS'; (try dsimp only at hS'); (repeat (have hS1 := hS'.1; replace hS' := hS'.2)); go_simp; (try with_reducible rfl); done)); simp only [Act.put, List.getElem_toArray, List.getElem_cons_zero, List.getElem_cons_succ, List.setIfInBounds_toArray, List.set_cons_zero, List.set_cons_succ]))
    (first | (refine wpS_pass _ rfl (by rfl) ?_; simp only [Act.put, List.getElem_toArray, List.getElem_cons_zero, List.getElem_cons_succ, List.setIfInBounds_toArray, List.set_cons_zero, List.set_cons_succ]) | (refine wpS_take _ ?_ rfl (by rfl) ?_ ?_; rotate_left; (focus (intro w' hS'; (try dsimp only at hS'); (repeat (have hS1 := hS'.1; replace hS' := hS'.2)); go_simp; (try with_reducible rfl); done)); simp only [Act.put, List.getElem_toArray, List.getElem_cons_zero, List.getElem_cons_succ, List.setIfInBounds_toArray, List.set_cons_zero, List.set_cons_succ]))
    refine wpS_take _ (.string T) rfl (by rfl) (fun w' hS' => exec_conv _ _ _ rfl _ _ rfl (HCV.out w' hS'.2.2)) ?_
    simp only [Act.put, List.getElem_toArray, List.getElem_cons_zero, List.getElem_cons_succ, List.setIfInBounds_toArray, List.set_cons_zero, List.set_cons_succ]
    have hts : ∀ w', (binOp .eql 9 (.string T) (.string T)).run Try.prog w' = .ok (.bool true) w' := fun w' => by simp [binOp, Op.stringOp]
    (repeat (first | (refine wpS_pass _ rfl (by rfl) ?_; simp only [Act.put, List.getElem_toArray, List.getElem_cons_zero, List.getElem_cons_succ, List.setIfInBounds_toArray, List.set_cons_zero, List.set_cons_succ]) | (refine wpS_take _ ?_ rfl (by rfl) ?_ ?_; rotate_left; (focus (intro w' hS'; (try dsimp only at hS'); (repeat (have hS1 := hS'.1; replace hS' := hS'.2)); go_simp; (try with_reducible rfl); done)); simp only [Act.put, List.getElem_toArray, List.getElem_cons_zero, List.getElem_cons_succ, List.setIfInBounds_toArray, List.set_cons_zero, List.set_cons_succ])))
    refine wpS_done ?_
    clear hts heq
    go_wp2_with fail
    go_ret
    exact ⟨rfl, ext_trans HB8.out hb35⟩
  · have e1 : (5000 : Int) < (b.length : Int) := by omega
    go_enter Try.func6, Try.ntmps6
    go_wp2_with fail
    refine (alive_any w).mono ?_
    rintro e w1 ⟨rfl, hb1⟩
    go_wp2_with fail
    go_ret
    exact ⟨rfl, hb1⟩
end Go.Proofs.Ytkiggfahcakdeaa
