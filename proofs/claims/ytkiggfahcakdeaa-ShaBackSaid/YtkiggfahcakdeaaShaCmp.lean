/- Cmp, the program's and the document's, and ShaCmp: the walks. -/
import Derived.Test.YtkiggfahcakdeaaShaHexL
namespace Go.Proofs.Ytkiggfahcakdeaa
set_option linter.unusedVariables false
set_option linter.unusedSimpArgs false
open Go.RowKit

/-! ### plain -/
abbrev cmpB := Lib.compareBytes
theorem cmpB_self (a : List UInt8) : cmpB a a = 0 := by
  induction a with
  | nil => rfl
  | cons x r ih =>
    have : ¬ x < x := by simp
    simp only [Lib.compareBytes, if_neg this]
    exact ih
theorem cmpB_cases (a b : List UInt8) : cmpB a b = -1 ∨ cmpB a b = 0 ∨ cmpB a b = 1 := by
  induction a generalizing b with
  | nil => cases b <;> simp [Lib.compareBytes]
  | cons x r ih =>
    cases b with
    | nil => simp [Lib.compareBytes]
    | cons y s =>
      simp only [cmpB, Lib.compareBytes]
      split
      · simp
      · split
        · simp
        · exact ih s
theorem cmpB_swap (a b : List UInt8) : cmpB b a = -cmpB a b := by
  induction a generalizing b with
  | nil => cases b <;> simp [Lib.compareBytes]
  | cons x r ih =>
    cases b with
    | nil => simp [Lib.compareBytes]
    | cons y s =>
      have h := ih s
      simp only [cmpB, Lib.compareBytes] at h ⊢
      by_cases h1 : x < y
      · have h2 : ¬ y < x := fun h2 => absurd (UInt8.lt_trans h1 h2) (by simp)
        simp [h1, h2]
      · by_cases h2 : y < x
        · simp [h1, h2]
        · simp [h1, h2, h]
theorem cmpB_zero (a b : List UInt8) (hl : a.length = b.length) : cmpB a b = 0 ↔ a = b := by
  induction a generalizing b with
  | nil => cases b with
    | nil => simp [Lib.compareBytes]
    | cons y s => simp at hl
  | cons x r ih =>
    cases b with
    | nil => simp at hl
    | cons y s =>
      have h := ih s (by simpa using hl)
      simp only [cmpB, Lib.compareBytes] at h ⊢
      by_cases h1 : x < y
      · have : x ≠ y := fun e => absurd h1 (by rw [e]; simp)
        simp [h1, this]
      · by_cases h2 : y < x
        · have : x ≠ y := fun e => absurd h2 (by rw [e]; simp)
          simp [h1, h2, this]
        · have : x = y := UInt8.le_antisymm (UInt8.not_lt.1 h2) (UInt8.not_lt.1 h1)
          simp [h1, h2, this, h]
theorem bytesLess_cmp (a b : List UInt8) : Op.bytesLess a b = decide (cmpB a b < 0) := by
  induction a generalizing b with
  | nil => cases b <;> simp [Lib.compareBytes, Op.bytesLess]
  | cons x r ih =>
    cases b with
    | nil => simp [Lib.compareBytes, Op.bytesLess]
    | cons y s =>
      have h := ih s
      simp only [cmpB, Lib.compareBytes, Op.bytesLess] at h ⊢
      by_cases h1 : x < y
      · simp [h1]
      · by_cases h2 : y < x
        · have : x ≠ y := fun e => absurd h2 (by rw [e]; simp)
          simp [h1, h2, this]
        · have : x = y := UInt8.le_antisymm (UInt8.not_lt.1 h2) (UInt8.not_lt.1 h1)
          simp [h1, h2, this, h]
theorem dg_lt (m n : Nat) (hm : m < 16) (hn : n < 16) : dg m < dg n ↔ m < n := by
  have : ∀ m < 16, ∀ n < 16, decide (dg m < dg n) = decide (m < n) := by decide +kernel
  have h := this m hm n hn
  rwa [decide_eq_decide] at h
theorem cmp_hex (a b : List UInt8) (hl : a.length = b.length) : cmpB (hexL a) (hexL b) = cmpB a b := by
  induction a generalizing b with
  | nil => cases b with
    | nil => rfl
    | cons y s => simp at hl
  | cons x r ih =>
    cases b with
    | nil => simp at hl
    | cons y s =>
      have h := ih s (by simpa using hl)
      have hx := x.toNat_lt
      have hy := y.toNat_lt
      have l1 := dg_lt (x.toNat / 16) (y.toNat / 16) (by omega) (by omega)
      have l2 := dg_lt (y.toNat / 16) (x.toNat / 16) (by omega) (by omega)
      have l3 := dg_lt (x.toNat % 16) (y.toNat % 16) (by omega) (by omega)
      have l4 := dg_lt (y.toNat % 16) (x.toNat % 16) (by omega) (by omega)
      simp only [cmpB, hexL, Lib.compareBytes] at h ⊢
      rw [h]
      simp only [l1, l2, l3, l4, UInt8.lt_iff_toNat_lt]
      by_cases h1 : x.toNat < y.toNat
      · rw [if_pos h1]
        by_cases h2 : x.toNat / 16 < y.toNat / 16
        · rw [if_pos h2]
        · rw [if_neg h2, if_neg (by omega), if_pos (by omega)]
      · rw [if_neg h1]
        by_cases h3 : y.toNat < x.toNat
        · rw [if_pos h3, if_neg (by omega)]
          by_cases h2 : y.toNat / 16 < x.toNat / 16
          · rw [if_pos h2]
          · rw [if_neg h2, if_neg (by omega), if_pos (by omega)]
        · rw [if_neg h3, if_neg (by omega), if_neg (by omega), if_neg (by omega), if_neg (by omega)]
theorem cmpB_drop (a b : List UInt8) (k : Nat) (ha : k ≤ a.length) (hb : k ≤ b.length) (h : a.take k = b.take k) : cmpB a b = cmpB (a.drop k) (b.drop k) := by
  induction k generalizing a b with
  | zero => rfl
  | succ k ih =>
    cases a with
    | nil => simp at ha
    | cons x r =>
      cases b with
      | nil => simp at hb
      | cons y s =>
        simp only [List.take_succ_cons, List.cons.injEq] at h
        obtain ⟨rfl, h2⟩ := h
        have := ih r s (by simpa using ha) (by simpa using hb) h2
        have hx : ¬ x < x := by simp
        simp only [List.drop_succ_cons]
        rw [← this]
        simp only [cmpB, Lib.compareBytes, if_neg hx]
theorem cmpB_at (a b : List UInt8) (k : Nat) (ha : k < a.length) (hb : k < b.length) (h : a.take k = b.take k) : (a[k] < b[k] → cmpB a b = -1) ∧ (b[k] < a[k] → cmpB a b = 1) := by
  have h1 := cmpB_drop a b k (by omega) (by omega) h
  rw [List.drop_eq_getElem_cons ha, List.drop_eq_getElem_cons hb] at h1
  constructor
  · intro hl
    rw [h1]
    simp only [cmpB, Lib.compareBytes, if_pos hl]
  · intro hl
    have hn : ¬ a[k] < b[k] := fun h2 => absurd (UInt8.lt_trans h2 hl) (by simp)
    rw [h1]
    simp only [cmpB, Lib.compareBytes, if_neg hn, if_pos hl]

/-! ### walks -/
theorem two_box (w : World) (t : TypeId) (a b : List UInt8) : ∃ Wa Wb, w.alloc (.cells (b8s a).toArray t) = Wa ∧ Wa.alloc (.cells (b8s b).toArray t) = Wb ∧ Wa.heap.size = w.heap.size + 1 ∧ Wb.heap.size = w.heap.size + 1 + 1 ∧
    Hid (Wb.heap[w.heap.size]? = some (.cells (b8s a).toArray t (0, 0))) ∧ Hid (Wb.heap[w.heap.size + 1]? = some (.cells (b8s b).toArray t (0, 0))) ∧ Hid (Below w.heap.size w Wb) :=
  ⟨_, _, rfl, rfl, by simp, by simp, Lib.hid (heap_alloc2_old w _ _), Lib.hid (heap_alloc2_new w _ _), Lib.hid ((((Below.refl _ _).alloc (Nat.le_refl _) _).alloc (by simp) _))⟩

set_option maxRecDepth 100000 in
set_option maxHeartbeats 1000000 in
theorem cmp_any (a b : List UInt8) (ha : a.length = 32) (hb : b.length = 32) (w : World) :
    Calls Try.prog 15 #[.agg (b8s a).toArray, .agg (b8s b).toArray] w fun e w' => e = .returned (.int .i64 (cmpB a b)) ∧ Below w.heap.size w w' := by
  obtain ⟨Wa, Wb, hWa, hWb, hsa, hsb, HA, HB, HBEL⟩ := two_box w 23 a b
  go_enter Try.func15, Try.ntmps15
  go_wp2_with fail
  clear hWa hWb
  refine wp_region_sched (fun w' => True) [(true, 0), (true, 1), (false, 2), (true, 3)] (by kernel_rfl) (by kernel_rfl) rfl (by kernel_rfl) trivial ?_
  (repeat (first | (refine wpS_pass _ rfl (by rfl) ?_; simp only [Act.put, List.getElem_toArray, List.getElem_cons_zero, List.getElem_cons_succ, List.setIfInBounds_toArray, List.set_cons_zero, List.set_cons_succ]) | (refine wpS_take _ ?_ rfl (by rfl) ?_ ?_; rotate_left; (focus (intro w' hS'; (try dsimp only at hS'); (repeat (have hS1 := hS'.1; replace hS' := hS'.2)); go_simp; (try with_reducible rfl); done)); simp only [Act.put, List.getElem_toArray, List.getElem_cons_zero, List.getElem_cons_succ, List.setIfInBounds_toArray, List.set_cons_zero, List.set_cons_succ])))
  refine wpS_do _ rfl (by rfl) (fun K hK => ?_)
  go_simp
  refine (compare_any _ _ a b 32 32 32 32 Wb.drew ha.symm hb.symm (range_rd (range_of_row HA.out)).drew (range_rd (range_of_row HB.out)).drew (fun h => by cases h) (fun h => by cases h)).mono ?_
  rintro e w' ⟨rfl, rfl⟩
  refine hK.out _ _ trivial (fun hS => ?_)
  clear hK hS
  (repeat (first | (refine wpS_pass _ rfl (by rfl) ?_; simp only [Act.put, List.getElem_toArray, List.getElem_cons_zero, List.getElem_cons_succ, List.setIfInBounds_toArray, List.set_cons_zero, List.set_cons_succ]) | (refine wpS_take _ ?_ rfl (by rfl) ?_ ?_; rotate_left; (focus (intro w' hS'; (try dsimp only at hS'); (repeat (have hS1 := hS'.1; replace hS' := hS'.2)); go_simp; (try with_reducible rfl); done)); simp only [Act.put, List.getElem_toArray, List.getElem_cons_zero, List.getElem_cons_succ, List.setIfInBounds_toArray, List.set_cons_zero, List.set_cons_succ])))
  refine wpS_done ?_
  go_wp2_with fail
  go_ret
  exact ⟨rfl, HBEL.out.drew⟩

set_option maxRecDepth 100000 in
set_option maxHeartbeats 1000000 in
theorem rcmp_any (a b : List UInt8) (ha : a.length = 32) (hb : b.length = 32) (w : World) :
    Calls Try.prog 16 #[.agg (b8s a).toArray, .agg (b8s b).toArray] w fun e w' => e = .returned (.int .i64 (cmpB a b)) ∧ Below w.heap.size w w' := by
  obtain ⟨Wa, Wb, hWa, hWb, hsa, hsb, HA, HB, HBEL⟩ := two_box w 22 a b
  go_enter Try.func16, Try.ntmps16
  go_wp2_with fail
  clear hWa hWb
  go_loopg [5] 32 (fun gk s5 wr => ∃ (k : Nat), k ≤ 32 ∧ gk = 32 - k ∧ s5 = .int .i64 k ∧ Hid (a.take k = b.take k) ∧ Below Wb.heap.size Wb wr)
  case atStart => exact ⟨0, by omega, by omega, rfl, Lib.hid rfl, Below.refl _ _⟩
  case round =>
    obtain ⟨k, hk, rfl, rfl, HT, hbel⟩ := hrel
    by_cases hlt : k < 32
    · have hka : k < a.length := by omega
      have hkb : k < b.length := by omega
      have hAw := (hbel.block _ (by omega)).trans HA.out
      have hBw := (hbel.block _ (by omega)).trans HB.out
      have ca : wr.cell? ⟨w.heap.size, k, none⟩ = some (.int .u8 (a[k].toNat : Int)) := by
        rw [row_cell hAw, List.getElem?_toArray]; exact b8s_get _ _ hka
      have cb : wr.cell? ⟨w.heap.size + 1, k, none⟩ = some (.int .u8 (b[k].toNat : Int)) := by
        rw [row_cell hBw, List.getElem?_toArray]; exact b8s_get _ _ hkb
      have hat := cmpB_at a b k hka hkb HT.out
      have hts := take_eq_succ hka hkb HT.out
      rw [UInt8.lt_iff_toNat_lt, UInt8.lt_iff_toNat_lt] at hat
      have HAT := Lib.hid hat
      have HTS := Lib.hid hts
      clear hAw hBw hat hts
      rcases Nat.lt_trichotomy a[k].toNat b[k].toNat with h | h | h
      · have hc := HAT.out.1 h
        have hi : (a[k].toNat : Int) < (b[k].toNat : Int) := by omega
        have HC := Lib.hid hc
        clear hc
        go_wp2_with fail
        go_quiet (fail)
        go_wp2_with fail
        go_ret
        exact ⟨ret_i64 HC.out.symm, below_drewN (HBEL.out.trans (hbel.mono (by omega))) _⟩
      · have hi : ¬ (a[k].toNat : Int) < (b[k].toNat : Int) := by omega
        have hi2 : ¬ (b[k].toNat : Int) < (a[k].toNat : Int) := by omega
        have HT2 := Lib.hid (HTS.out.2 (UInt8.toNat_inj.1 h))
        clear h
        go_wp2_with fail
        go_quiet (fail)
        go_wp2_with fail
        go_quiet (fail)
        go_wp2_with fail
        go_roundg (32 - (k + 1))
        case measure => omega
        case rel => exact ⟨k + 1, by omega, rfl, by go_num, HT2, below_drewN hbel _⟩
      · have hc := HAT.out.2 h
        have hi : ¬ (a[k].toNat : Int) < (b[k].toNat : Int) := by omega
        have hi2 : (b[k].toNat : Int) < (a[k].toNat : Int) := by omega
        have HC := Lib.hid hc
        clear hc
        go_wp2_with fail
        go_quiet (fail)
        go_wp2_with fail
        go_quiet (fail)
        go_wp2_with fail
        go_ret
        exact ⟨ret_i64 HC.out.symm, below_drewN (below_drewN (HBEL.out.trans (hbel.mono (by omega))) _) _⟩
    · obtain rfl : k = 32 := by omega
      have he : a = b := by
        have := HT.out
        rwa [← ha, List.take_length, ha, ← hb, List.take_length] at this
      have hc : cmpB a b = 0 := by rw [he]; exact cmpB_self b
      have HC := Lib.hid hc
      clear hc
      go_wp2_with fail
      go_ret
      exact ⟨ret_i64 HC.out.symm, HBEL.out.trans (hbel.mono (by omega))⟩

def idOf (n : UInt8) : List UInt8 := n :: List.replicate 31 0
set_option maxRecDepth 100000 in
set_option maxHeartbeats 4000000 in
theorem shaCmp_any (a b : List UInt8) (ha : a.length = 32) (hb : b.length = 32) (w : World) :
    Calls Try.prog 5 #[.agg (b8s a).toArray, .agg (b8s b).toArray] w fun e w' => e = .returned (.bool true) ∧ Below w.heap.size w w' := by
  obtain ⟨Wa, Wb, hWa, hWb, hsa, hsb, HA, HB, HBEL⟩ := two_box w 23 a b
  have HIA : Hid ((Try.prog.info? 23).map (·.size) = some (b8s a).toArray.size) := Lib.hid (info_of_arr a ha info_id)
  have HIB : Hid ((Try.prog.info? 23).map (·.size) = some (b8s b).toArray.size) := Lib.hid (info_of_arr b hb info_id)
  have HJA : Hid ((Try.prog.info? 23).map (·.size) = some (b8s a).length) := Lib.hid (by rw [b8s_length, ha]; exact info_id)
  have HJB : Hid ((Try.prog.info? 23).map (·.size) = some (b8s b).length) := Lib.hid (by rw [b8s_length, hb]; exact info_id)
  have hcc := cmpB_cases a b
  have hsw := cmpB_swap a b
  have hz := cmpB_zero a b (by omega)
  have hless : Op.bytesLess (⟨(hexL a).toArray⟩ : ByteArray).toList (⟨(hexL b).toArray⟩ : ByteArray).toList = decide (cmpB a b < 0) := by
    rw [ByteArray.toList_eq, ByteArray.toList_eq, bytesLess_cmp, cmp_hex a b (by omega)]
  have hless2 : Op.bytesLess (hexL a) (hexL b) = decide (cmpB a b < 0) := by
    rw [bytesLess_cmp, cmp_hex a b (by omega)]
  have h12 : cmpB (idOf 1) (idOf 2) = -1 := by decide +kernel
  have hc12 := fun w => cmp_any (idOf 1) (idOf 2) rfl rfl w
  rw [h12] at hc12
  have HC12 := Lib.hid hc12
  have hcab := fun w => cmp_any a b ha hb w
  have hrab := fun w => rcmp_any a b ha hb w
  have hcba := fun w => cmp_any b a hb ha w
  rw [hsw] at hcba
  have hguard : Program.eqGuardType Try.prog Try.prog.depth 23 = false := by kernel_rfl
  have heq : ∀ w : World, (binOp .eql 23 (.agg (b8s a).toArray) (.agg (b8s b).toArray)).run Try.prog w = .ok (.bool (decide (cmpB a b = 0))) w := by
    intro w
    rw [run_eql_ids (P := Try.prog) (t := 23) (e := 5) (n := 32) Try.underlying23 Try.underlying5 (by kernel_rfl) (by kernel_rfl) (by kernel_rfl) a b ha hb w]
    congr 2
    rw [decide_eq_decide]
    exact hz.symm
  clear h12 hc12 hsw hz
  obtain ⟨c, hc⟩ : ∃ c, cmpB a b = c := ⟨_, rfl⟩
  rw [hc] at hcc hless hless2 hcab hrab hcba heq
  clear hc
  have HCAB := Lib.hid hcab
  have HRAB := Lib.hid hrab
  have HCBA := Lib.hid hcba
  clear hcab hrab hcba
  go_enter Try.func5, Try.ntmps5
  go_wp2_with fail
  clear hWa hWb
  refine (hexing_any _).mono ?_
  rintro e w1 ⟨rfl, hb1⟩
  go_wp2_with fail
  refine (HC12.out w1).mono ?_
  rintro e w2 ⟨rfl, hb2⟩
  have hb02 := ext_trans hb1 hb2
  have hA2 := (hb02.block _ (by omega)).trans HA.out
  have hB2 := (hb02.block _ (by omega)).trans HB.out
  have HA2 := Lib.hid hA2
  have HB2 := Lib.hid hB2
  clear hA2 hB2 hb1 hb2
  go_wp2_with (first
    | ((with_reducible (refine wpList_load_row rfl _ _ rfl _ rfl _ _ _ _ HA2.out Try.underlying23 rfl ?_ ?_)); (focus (exact HIA.out)))
    | ((with_reducible (refine wpList_load_row rfl _ _ rfl _ rfl _ _ _ _ HB2.out Try.underlying23 rfl ?_ ?_)); (focus (exact HIB.out))))
  refine (HCAB.out w2).mono ?_
  rintro e w3 ⟨rfl, hb3⟩
  have hb03 := ext_trans hb02 hb3
  have ra := (range_rd (range_of_row HA.out)).below hb03
  have rb := (range_rd (range_of_row HB.out)).below hb03
  have HRA := Lib.hid ra
  have HRB := Lib.hid rb
  have HB03 := Lib.hid hb03
  clear ra rb hb02 hb03 hb3
  go_wp2_with fail
  have HRA0 := Lib.hid (range_rd (range_of_row HA.out))
  have HRB0 := Lib.hid (range_rd (range_of_row HB.out))
  have Hw3 : Hid (Below Wb.heap.size Wb w3.drew) := Lib.hid HB03.out.drew
  have hleg : c = -1 ∨ c = 0 ∨ c = 1 := hcc
  clear hcc
  rcases hleg with rfl | rfl | rfl
  all_goals
    simp only [show decide ((-1 : Int) < 0) = true from rfl, show decide ((0 : Int) < 0) = false from rfl, show decide ((1 : Int) < 0) = false from rfl, show decide ((-1 : Int) = 0) = false from rfl, show decide ((0 : Int) = 0) = true from rfl, show decide ((1 : Int) = 0) = false from rfl] at hless hless2 heq
    refine wp_region_sched (fun w' => (w'.rangeAt w.heap.size 0 (b8s a) ∧ w'.rangeAt (w.heap.size + 1) 0 (b8s b)) ∧ Below Wb.heap.size Wb w') [(true, 0), (true, 1), (true, 2), (false, 3), (true, 4), (true, 5), (true, 6), (true, 7), (true, 8), (true, 10), (false, 9), (false, 11), (true, 12), (true, 13), (true, 14), (true, 15), (true, 16), (true, 17), (true, 18), (true, 19), (true, 20), (true, 21), (true, 22), (true, 23), (true, 24), (true, 25), (true, 27), (true, 28), (false, 26), (true, 29), (true, 30), (true, 31)]
      (by kernel_rfl) (by kernel_rfl) rfl (by kernel_rfl) ⟨⟨rd_range HRA.out.drew, rd_range HRB.out.drew⟩, HB03.out.drew⟩ ?_
    (first | (refine wpS_pass _ rfl (by rfl) ?_; simp only [Act.put, List.getElem_toArray, List.getElem_cons_zero, List.getElem_cons_succ, List.setIfInBounds_toArray, List.set_cons_zero, List.set_cons_succ]) | (refine wpS_take _ ?_ rfl (by rfl) ?_ ?_; rotate_left; (focus (intro w' hS'; (try dsimp only at hS'); (repeat (have hS1 := hS'.1; replace hS' := hS'.2)); go_simp; (try with_reducible rfl); done)); simp only [Act.put, List.getElem_toArray, List.getElem_cons_zero, List.getElem_cons_succ, List.setIfInBounds_toArray, List.set_cons_zero, List.set_cons_succ]))
    refine wpS_load _ rfl (by rfl) _ _ rfl _ _ rfl (b8s a) _ (fun w' hS' => hS'.1.1) Try.underlying23 rfl HJA.out ?_
    simp only [Act.put, List.getElem_toArray, List.getElem_cons_zero, List.getElem_cons_succ, List.setIfInBounds_toArray, List.set_cons_zero, List.set_cons_succ]
    refine wpS_load _ rfl (by rfl) _ _ rfl _ _ rfl (b8s b) _ (fun w' hS' => hS'.1.2) Try.underlying23 rfl HJB.out ?_
    simp only [Act.put, List.getElem_toArray, List.getElem_cons_zero, List.getElem_cons_succ, List.setIfInBounds_toArray, List.set_cons_zero, List.set_cons_succ]
    refine wpS_do _ rfl (by rfl) (fun K hK => ?_)
    go_simp
    refine (HRAB.out w3.drew).mono ?_
    rintro e w4 ⟨rfl, hb'⟩
    have hbn := ext_trans Hw3.out hb'
    refine hK.out _ _ ⟨⟨rd_range (HRA0.out.below hbn), rd_range (HRB0.out.below hbn)⟩, hbn⟩ (fun hS => ?_)
    have Hw4 := Lib.hid hbn
    clear hK hS hbn hb'
    (first | (refine wpS_pass _ rfl (by rfl) ?_; simp only [Act.put, List.getElem_toArray, List.getElem_cons_zero, List.getElem_cons_succ, List.setIfInBounds_toArray, List.set_cons_zero, List.set_cons_succ]) | (refine wpS_take _ ?_ rfl (by rfl) ?_ ?_; rotate_left; (focus (intro w' hS'; (try dsimp only at hS'); (repeat (have hS1 := hS'.1; replace hS' := hS'.2)); go_simp; (try with_reducible rfl); done)); simp only [Act.put, List.getElem_toArray, List.getElem_cons_zero, List.getElem_cons_succ, List.setIfInBounds_toArray, List.set_cons_zero, List.set_cons_succ]))
    (first | (refine wpS_pass _ rfl (by rfl) ?_; simp only [Act.put, List.getElem_toArray, List.getElem_cons_zero, List.getElem_cons_succ, List.setIfInBounds_toArray, List.set_cons_zero, List.set_cons_succ]) | (refine wpS_take _ ?_ rfl (by rfl) ?_ ?_; rotate_left; (focus (intro w' hS'; (try dsimp only at hS'); (repeat (have hS1 := hS'.1; replace hS' := hS'.2)); go_simp; (try with_reducible rfl); done)); simp only [Act.put, List.getElem_toArray, List.getElem_cons_zero, List.getElem_cons_succ, List.setIfInBounds_toArray, List.set_cons_zero, List.set_cons_succ]))
    (first | (refine wpS_pass _ rfl (by rfl) ?_; simp only [Act.put, List.getElem_toArray, List.getElem_cons_zero, List.getElem_cons_succ, List.setIfInBounds_toArray, List.set_cons_zero, List.set_cons_succ]) | (refine wpS_take _ ?_ rfl (by rfl) ?_ ?_; rotate_left; (focus (intro w' hS'; (try dsimp only at hS'); (repeat (have hS1 := hS'.1; replace hS' := hS'.2)); go_simp; (try with_reducible rfl); done)); simp only [Act.put, List.getElem_toArray, List.getElem_cons_zero, List.getElem_cons_succ, List.setIfInBounds_toArray, List.set_cons_zero, List.set_cons_succ]))
    (first | (refine wpS_pass _ rfl (by rfl) ?_; simp only [Act.put, List.getElem_toArray, List.getElem_cons_zero, List.getElem_cons_succ, List.setIfInBounds_toArray, List.set_cons_zero, List.set_cons_succ]) | (refine wpS_take _ ?_ rfl (by rfl) ?_ ?_; rotate_left; (focus (intro w' hS'; (try dsimp only at hS'); (repeat (have hS1 := hS'.1; replace hS' := hS'.2)); go_simp; (try with_reducible rfl); done)); simp only [Act.put, List.getElem_toArray, List.getElem_cons_zero, List.getElem_cons_succ, List.setIfInBounds_toArray, List.set_cons_zero, List.set_cons_succ]))
    refine wpS_load _ rfl (by rfl) _ _ rfl _ _ rfl (b8s a) _ (fun w' hS' => hS'.1.1) Try.underlying23 rfl HJA.out ?_
    simp only [Act.put, List.getElem_toArray, List.getElem_cons_zero, List.getElem_cons_succ, List.setIfInBounds_toArray, List.set_cons_zero, List.set_cons_succ]
    refine wpS_load _ rfl (by rfl) _ _ rfl _ _ rfl (b8s b) _ (fun w' hS' => hS'.1.2) Try.underlying23 rfl HJB.out ?_
    simp only [Act.put, List.getElem_toArray, List.getElem_cons_zero, List.getElem_cons_succ, List.setIfInBounds_toArray, List.set_cons_zero, List.set_cons_succ]
    refine wpS_do _ rfl (by rfl) (fun K hK => ?_)
    go_simp
    refine (hex_any a ha w4).mono ?_
    rintro e w5 ⟨rfl, hb'⟩
    have hbn := ext_trans Hw4.out hb'
    refine hK.out _ _ ⟨⟨rd_range (HRA0.out.below hbn), rd_range (HRB0.out.below hbn)⟩, hbn⟩ (fun hS => ?_)
    have Hw5 := Lib.hid hbn
    clear hK hS hbn hb'
    refine wpS_do _ rfl (by rfl) (fun K hK => ?_)
    go_simp
    refine (hex_any b hb w5).mono ?_
    rintro e w6 ⟨rfl, hb'⟩
    have hbn := ext_trans Hw5.out hb'
    refine hK.out _ _ ⟨⟨rd_range (HRA0.out.below hbn), rd_range (HRB0.out.below hbn)⟩, hbn⟩ (fun hS => ?_)
    have Hw6 := Lib.hid hbn
    clear hK hS hbn hb'
    (repeat (first | (refine wpS_pass _ rfl (by rfl) ?_; simp only [Act.put, List.getElem_toArray, List.getElem_cons_zero, List.getElem_cons_succ, List.setIfInBounds_toArray, List.set_cons_zero, List.set_cons_succ]) | (refine wpS_take _ ?_ rfl (by rfl) ?_ ?_; rotate_left; (focus (intro w' hS'; (try dsimp only at hS'); (repeat (have hS1 := hS'.1; replace hS' := hS'.2)); go_simp; (try with_reducible rfl); done)); simp only [Act.put, List.getElem_toArray, List.getElem_cons_zero, List.getElem_cons_succ, List.setIfInBounds_toArray, List.set_cons_zero, List.set_cons_succ])))
    refine wpS_load _ rfl (by rfl) _ _ rfl _ _ rfl (b8s a) _ (fun w' hS' => hS'.1.1) Try.underlying23 rfl HJA.out ?_
    simp only [Act.put, List.getElem_toArray, List.getElem_cons_zero, List.getElem_cons_succ, List.setIfInBounds_toArray, List.set_cons_zero, List.set_cons_succ]
    refine wpS_load _ rfl (by rfl) _ _ rfl _ _ rfl (b8s b) _ (fun w' hS' => hS'.1.2) Try.underlying23 rfl HJB.out ?_
    simp only [Act.put, List.getElem_toArray, List.getElem_cons_zero, List.getElem_cons_succ, List.setIfInBounds_toArray, List.set_cons_zero, List.set_cons_succ]
    (repeat (first | (refine wpS_pass _ rfl (by rfl) ?_; simp only [Act.put, List.getElem_toArray, List.getElem_cons_zero, List.getElem_cons_succ, List.setIfInBounds_toArray, List.set_cons_zero, List.set_cons_succ]) | (refine wpS_take _ ?_ rfl (by rfl) ?_ ?_; rotate_left; (focus (intro w' hS'; (try dsimp only at hS'); (repeat (have hS1 := hS'.1; replace hS' := hS'.2)); go_simp; (try with_reducible rfl); done)); simp only [Act.put, List.getElem_toArray, List.getElem_cons_zero, List.getElem_cons_succ, List.setIfInBounds_toArray, List.set_cons_zero, List.set_cons_succ])))
    refine wpS_load _ rfl (by rfl) _ _ rfl _ _ rfl (b8s b) _ (fun w' hS' => hS'.1.2) Try.underlying23 rfl HJB.out ?_
    simp only [Act.put, List.getElem_toArray, List.getElem_cons_zero, List.getElem_cons_succ, List.setIfInBounds_toArray, List.set_cons_zero, List.set_cons_succ]
    refine wpS_load _ rfl (by rfl) _ _ rfl _ _ rfl (b8s a) _ (fun w' hS' => hS'.1.1) Try.underlying23 rfl HJA.out ?_
    simp only [Act.put, List.getElem_toArray, List.getElem_cons_zero, List.getElem_cons_succ, List.setIfInBounds_toArray, List.set_cons_zero, List.set_cons_succ]
    (repeat (first | (refine wpS_pass _ rfl (by rfl) ?_; simp only [Act.put, List.getElem_toArray, List.getElem_cons_zero, List.getElem_cons_succ, List.setIfInBounds_toArray, List.set_cons_zero, List.set_cons_succ]) | (refine wpS_take _ ?_ rfl (by rfl) ?_ ?_; rotate_left; (focus (intro w' hS'; (try dsimp only at hS'); (repeat (have hS1 := hS'.1; replace hS' := hS'.2)); go_simp; (try with_reducible rfl); done)); simp only [Act.put, List.getElem_toArray, List.getElem_cons_zero, List.getElem_cons_succ, List.setIfInBounds_toArray, List.set_cons_zero, List.set_cons_succ])))
    refine wpS_do _ rfl (by rfl) (fun K hK => ?_)
    go_simp
    refine (HCBA.out w6).mono ?_
    rintro e w7 ⟨rfl, hb'⟩
    have hbn := ext_trans Hw6.out hb'
    refine hK.out _ _ ⟨⟨rd_range (HRA0.out.below hbn), rd_range (HRB0.out.below hbn)⟩, hbn⟩ (fun hS => ?_)
    have Hw7 := Lib.hid hbn
    clear hK hS hbn hb'
    (repeat (first | (refine wpS_pass _ rfl (by rfl) ?_; simp only [Act.put, List.getElem_toArray, List.getElem_cons_zero, List.getElem_cons_succ, List.setIfInBounds_toArray, List.set_cons_zero, List.set_cons_succ]) | (refine wpS_take _ ?_ rfl (by rfl) ?_ ?_; rotate_left; (focus (intro w' hS'; (try dsimp only at hS'); (repeat (have hS1 := hS'.1; replace hS' := hS'.2)); go_simp; (try with_reducible rfl); done)); simp only [Act.put, List.getElem_toArray, List.getElem_cons_zero, List.getElem_cons_succ, List.setIfInBounds_toArray, List.set_cons_zero, List.set_cons_succ])))
    refine wpS_done ?_
    go_wp2_with fail
    go_ret
    exact ⟨rfl, ext_trans HBEL.out Hw7.out⟩
end Go.Proofs.Ytkiggfahcakdeaa
