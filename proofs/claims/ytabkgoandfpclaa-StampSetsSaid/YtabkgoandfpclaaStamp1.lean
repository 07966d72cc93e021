
/- Stamps: their order, whether they are right; the document's. -/

import Derived.Test.YtabkgoandfpclaaRowK

import Derived.Test.YtabkgoandfpclaaSched

import Derived.Test.YtabkgoandfpclaaIds

import Derived.Deep.CutBlock

import Derived.Deep.DeepCutAuto

namespace Go.Proofs.Ytabkgoandfpclaa

set_option linter.unusedVariables false

set_option linter.unusedSimpArgs false

open Go.RowKit

structure Stm where
  t : Int
  r : Int
deriving DecidableEq
def Stm.val (s : Stm) : Value := .agg #[.int .i64 s.t, .int .i64 s.r]
/-- within the kinds' bounds -/
def Stm.wf (s : Stm) : Prop := (-9223372036854775808 ≤ s.t ∧ s.t ≤ 9223372036854775807) ∧ (-9223372036854775808 ≤ s.r ∧ s.r ≤ 9223372036854775807)
def cmpI (a b : Int) : Int := if a < b then -1 else if b < a then 1 else 0
def cmpS (a b : Stm) : Int := if cmpI a.t b.t = 0 then cmpI a.r b.r else cmpI a.t b.t
def rightB (s : Stm) : Bool := decide (1 ≤ s.t) && decide (s.t ≤ 1099511627776) && decide (1 ≤ s.r) && decide (s.r ≤ 65536)
def fixedB (s : Stm) : Bool := decide (s.t = 0) && (decide (s.r = 0) || decide (s.r = 1))

theorem ret_i {k : IntKind} {a b : Int} (h : a = b) : Ending.returned (.int k a) = .returned (.int k b) := by rw [h]

theorem compare64_any (a b : Int) (w : World) : Calls Try.prog 37 #[.int .i64 a, .int .i64 b] w fun e w' => w = w' ∧ e = .returned (.int .i64 (cmpI a b)) := by
  unfold cmpI
  have hn : ∀ (x : Int) (w : World), Calls Try.prog 67 #[.int .i64 x] w fun e w' => w = w' ∧ e = .returned (.bool false) := by
    intro x w
    have hz : (x != x) = false := by simp
    go_enter Try.func67, Try.ntmps67
    go_wp2
    go_ret
    exact ⟨rfl, rfl⟩
  have HN := Lib.hid hn
  clear hn
  go_enter Try.func37, Try.ntmps37
  go_wp2_with fail
  refine (HN.out a w).mono ?_
  rintro e w' ⟨rfl, rfl⟩
  go_wp2_with fail
  refine (HN.out b w).mono ?_
  rintro e w' ⟨rfl, rfl⟩
  by_cases h1 : a < b
  · go_wp2
    go_ret
    exact ⟨rfl, by simp [h1]⟩
  · by_cases h2 : b < a
    · go_wp2
      go_ret
      exact ⟨rfl, by simp [h1, h2]⟩
    · go_wp2
      go_ret
      exact ⟨rfl, by simp [h1, h2]⟩
theorem compareInt_any (a b : Int) (w : World) : Calls Try.prog 38 #[.int .i64 a, .int .i64 b] w fun e w' => w = w' ∧ e = .returned (.int .i64 (cmpI a b)) := by
  unfold cmpI
  have hn : ∀ (x : Int) (w : World), Calls Try.prog 68 #[.int .i64 x] w fun e w' => w = w' ∧ e = .returned (.bool false) := by
    intro x w
    have hz : (x != x) = false := by simp
    go_enter Try.func68, Try.ntmps68
    go_wp2
    go_ret
    exact ⟨rfl, rfl⟩
  have HN := Lib.hid hn
  clear hn
  go_enter Try.func38, Try.ntmps38
  go_wp2_with fail
  refine (HN.out a w).mono ?_
  rintro e w' ⟨rfl, rfl⟩
  go_wp2_with fail
  refine (HN.out b w).mono ?_
  rintro e w' ⟨rfl, rfl⟩
  by_cases h1 : a < b
  · go_wp2
    go_ret
    exact ⟨rfl, by simp [h1]⟩
  · by_cases h2 : b < a
    · go_wp2
      go_ret
      exact ⟨rfl, by simp [h1, h2]⟩
    · go_wp2
      go_ret
      exact ⟨rfl, by simp [h1, h2]⟩

theorem right_any (s : Stm) (w : World) : Calls Try.prog 14 #[s.val] w fun e w' => e = .returned (.bool (rightB s)) ∧ Below w.heap.size w w' := by
  obtain ⟨t, r⟩ := s
  unfold Stm.val
  go_enter Try.func14, Try.ntmps14
  go_wp2
  all_goals
    go_ret
    refine ⟨ret_bool ?_, (Below.refl _ _).alloc (Nat.le_refl _) _⟩
    simp_all [rightB]
    try (intros; omega)
theorem fixed_any (s : Stm) (w : World) : Calls Try.prog 70 #[s.val] w fun e w' => e = .returned (.bool (fixedB s)) ∧ Below w.heap.size w w' := by
  obtain ⟨t, r⟩ := s
  unfold Stm.val
  go_enter Try.func70, Try.ntmps70
  go_wp2
  all_goals
    go_ret
    refine ⟨ret_bool ?_, (Below.refl _ _).alloc (Nat.le_refl _) _⟩
    rw [Bool.eq_iff_iff]
    simp_all [fixedB]
theorem rright_any (s : Stm) (w : World) : Calls Try.prog 15 #[s.val] w fun e w' => e = .returned (.bool (rightB s)) ∧ Below w.heap.size w w' := by
  obtain ⟨t, r⟩ := s
  unfold Stm.val
  go_enter Try.func15, Try.ntmps15
  go_wp2
  all_goals
    go_ret
    refine ⟨ret_bool ?_, (Below.refl _ _).alloc (Nat.le_refl _) _⟩
    simp_all [rightB]
    try omega
theorem rcmp_any (a b : Stm) (w : World) : Calls Try.prog 13 #[a.val, b.val] w fun e w' => e = .returned (.int .i64 (cmpS a b)) ∧ Below w.heap.size w w' := by
  obtain ⟨t, r⟩ := a
  obtain ⟨t', r'⟩ := b
  unfold Stm.val
  go_enter Try.func13, Try.ntmps13
  go_wp2
  all_goals
    go_ret
    refine ⟨ret_i ?_, ((Below.refl _ _).alloc (Nat.le_refl _) _).alloc (by simp) _⟩
    simp_all [cmpS, cmpI]
    try omega

set_option maxRecDepth 100000 in
theorem or_any (b o : Nat) (x y : Int) (c : Nat) (w : World) (h0 : w.cell? ⟨b, o, none⟩ = some (.int .i64 x)) (h1 : w.cell? ⟨b, o + 1, none⟩ = some (.int .i64 y)) :
    Calls Try.prog 36 #[.slice (some ⟨b, o, none⟩) 2 c] w fun e w' => w = w' ∧ e = .returned (.int .i64 (if x = 0 then y else x)) := by
  go_enter Try.func36, Try.ntmps36
  go_wp2_with fail
  go_loopg [8] 2 (fun gk_ i wr => ∃ k : Nat, k ≤ 2 ∧ gk_ = 2 - k ∧ i = .int .i64 (k : Int) ∧ wr = w ∧ (k = 1 → x = 0) ∧ (k = 2 → x = 0 ∧ y = 0))
  case atStart => exact ⟨0, by omega, by omega, rfl, rfl, by omega, by omega⟩
  case round =>
    obtain ⟨k, hk, rfl, rfl, rfl, hx1, hx2⟩ := hrel
    rcases (by omega : k = 0 ∨ k = 1 ∨ k = 2) with rfl | rfl | rfl
    · by_cases hx : x = 0
      · subst hx
        have hz : ((0 : Int) != 0) = false := rfl
        go_wp2_with fail
        go_roundg 1
        case measure => omega
        case rel => exact ⟨1, by omega, rfl, rfl, rfl, by simp, by simp⟩
      · have hz : (x != 0) = true := by simpa using hx
        go_wp2_with fail
        go_ret
        exact ⟨rfl, rfl⟩
    · have hx := hx1 rfl
      subst hx
      by_cases hy : y = 0
      · subst hy
        have hz : ((0 : Int) != 0) = false := rfl
        go_wp2_with fail
        go_roundg 0
        case measure => omega
        case rel => exact ⟨2, by omega, rfl, rfl, rfl, by simp, by simp⟩
      · have hz : (y != 0) = true := by simpa using hy
        go_wp2_with fail
        go_ret
        exact ⟨rfl, rfl⟩
    · obtain ⟨hx, hy⟩ := hx2 rfl
      subst hx hy
      go_wp2_with fail
      go_ret
      exact ⟨rfl, rfl⟩

set_option maxRecDepth 100000 in
theorem cmp_any (a b : Stm) (w : World) : Calls Try.prog 12 #[a.val, b.val] w fun e w' => e = .returned (.int .i64 (cmpS a b)) ∧ Below w.heap.size w w' := by
  obtain ⟨t, r⟩ := a
  obtain ⟨t', r'⟩ := b
  unfold Stm.val
  obtain ⟨W1, hW1⟩ : ∃ W1, (w.alloc (.cells #[.int .i64 t, .int .i64 r] 23)).alloc (.cells #[.int .i64 t', .int .i64 r'] 23) = W1 := ⟨_, rfl⟩
  have hb : Below w.heap.size w W1 := by rw [← hW1]; exact ((Below.refl _ _).alloc (Nat.le_refl _) _).alloc (by simp) _
  have ha0 : W1.heap[w.heap.size]? = some (.cells #[.int .i64 t, .int .i64 r] 23 (0, 0)) := by rw [← hW1]; exact (Below.heap_alloc _ _ _ (by simp)).trans (heap_alloc_new w _)
  have hb0 : W1.heap[w.heap.size + 1]? = some (.cells #[.int .i64 t', .int .i64 r'] 23 (0, 0)) := by
    rw [← hW1]
    have := heap_alloc_new (w.alloc (.cells #[.int .i64 t, .int .i64 r] 23)) (.cells #[.int .i64 t', .int .i64 r'] 23 (0, 0))
    rwa [show (w.alloc (.cells #[.int .i64 t, .int .i64 r] 23)).heap.size = w.heap.size + 1 by simp] at this
  have c0 : W1.cell? ⟨w.heap.size, 0, none⟩ = some (.int .i64 t) := by rw [row_cell ha0]; rfl
  have c1 : W1.cell? ⟨w.heap.size, 1, none⟩ = some (.int .i64 r) := by rw [row_cell ha0]; rfl
  have c2 : W1.cell? ⟨w.heap.size + 1, 0, none⟩ = some (.int .i64 t') := by rw [row_cell hb0]; rfl
  have c3 : W1.cell? ⟨w.heap.size + 1, 1, none⟩ = some (.int .i64 r') := by rw [row_cell hb0]; rfl
  have hs1 : W1.heap.size = w.heap.size + 2 := by rw [← hW1]; simp
  have HS1 := Lib.hid hs1
  have HB := Lib.hid hb
  clear hs1 hb ha0 hb0
  go_enter Try.func12, Try.ntmps12
  go_wp2_with fail
  clear hW1
  refine wp_region_sched (fun w' => w'.cell? ⟨w.heap.size, 0, none⟩ = some (.int .i64 t) ∧ w'.cell? ⟨w.heap.size, 1, none⟩ = some (.int .i64 r) ∧ w'.cell? ⟨w.heap.size + 1, 0, none⟩ = some (.int .i64 t') ∧ w'.cell? ⟨w.heap.size + 1, 1, none⟩ = some (.int .i64 r'))
    [(true, 0), (true, 1), (true, 2), (true, 3), (true, 5), (true, 6), (true, 7), (true, 8), (false, 4), (false, 9), (false, 10), (false, 11), (true, 12)] (by kernel_rfl) (by kernel_rfl) rfl (by kernel_rfl) ⟨c0, c1, c2, c3⟩ ?_
  (repeat (first | (refine wpS_pass _ rfl (by rfl) ?_; simp only [Act.put, List.getElem_toArray, List.getElem_cons_zero, List.getElem_cons_succ, List.setIfInBounds_toArray, List.set_cons_zero, List.set_cons_succ]) | (refine wpS_take _ ?_ rfl (by rfl) ?_ ?_; rotate_left; (focus (intro w' hS'; (try dsimp only at hS'); (repeat (have hS1 := hS'.1; replace hS' := hS'.2)); go_simp; (try with_reducible rfl); done)); simp only [Act.put, List.getElem_toArray, List.getElem_cons_zero, List.getElem_cons_succ, List.setIfInBounds_toArray, List.set_cons_zero, List.set_cons_succ])))
  refine wpS_do _ rfl (by rfl) (fun K hK => ?_)
  go_simp
  refine (compare64_any t t' _).mono ?_
  rintro e w' ⟨rfl, rfl⟩
  refine hK.out _ _ ⟨c0, c1, c2, c3⟩ (fun hS => ?_)
  clear hK hS
  refine wpS_do _ rfl (by rfl) (fun K hK => ?_)
  go_simp
  refine (compareInt_any r r' _).mono ?_
  rintro e w' ⟨rfl, rfl⟩
  refine hK.out _ _ ⟨c0, c1, c2, c3⟩ (fun hS => ?_)
  clear hK hS
  refine wpS_do _ rfl (by rfl) (fun K hK => ?_)
  go_simp
  have hal : ∀ (ob : Obj) (k j : Nat), k < W1.heap.size → (W1.alloc ob).drew.cell? ⟨k, j, none⟩ = W1.cell? ⟨k, j, none⟩ := fun ob k j h => World.cell?_of_block (w := W1) (w' := W1.alloc ob) (a := ⟨k, j, none⟩) (Below.heap_alloc W1 ob k h)
  have l0 : w.heap.size < W1.heap.size := by have := HS1.out; omega
  have l1 : w.heap.size + 1 < W1.heap.size := by have := HS1.out; omega
  have hS3 : ∀ (ob : Obj), (W1.alloc ob).drew.cell? ⟨w.heap.size, 0, none⟩ = some (.int .i64 t) ∧ (W1.alloc ob).drew.cell? ⟨w.heap.size, 1, none⟩ = some (.int .i64 r) ∧ (W1.alloc ob).drew.cell? ⟨w.heap.size + 1, 0, none⟩ = some (.int .i64 t') ∧ (W1.alloc ob).drew.cell? ⟨w.heap.size + 1, 1, none⟩ = some (.int .i64 r') := fun ob =>
    ⟨(hal ob _ _ l0).trans c0, (hal ob _ _ l0).trans c1, (hal ob _ _ l1).trans c2, (hal ob _ _ l1).trans c3⟩
  have HS3 := Lib.hid hS3
  refine hK.out _ _ (HS3.out _) (fun hS => ?_)
  clear hK hS hS3 hal c0 c1 c2 c3 l0 l1
  refine wpS_do _ rfl (by rfl) (fun K hK => ?_)
  go_simp
  refine (or_any W1.heap.size 0 (cmpI t t') (cmpI r r') 2 _ (by rw [cell_of_row _ W1.heap.size 0 _ _ (0, 0) (show (W1.alloc _).drew.heap[W1.heap.size]? = _ from heap_alloc_new W1 _)]; rfl) (by rw [cell_of_row _ W1.heap.size 1 _ _ (0, 0) (show (W1.alloc _).drew.heap[W1.heap.size]? = _ from heap_alloc_new W1 _)]; rfl)).mono ?_
  rintro e w' ⟨rfl, rfl⟩
  refine hK.out _ _ (HS3.out _) (fun hS => ?_)
  clear hK hS
  (repeat (first | (refine wpS_pass _ rfl (by rfl) ?_; simp only [Act.put, List.getElem_toArray, List.getElem_cons_zero, List.getElem_cons_succ, List.setIfInBounds_toArray, List.set_cons_zero, List.set_cons_succ]) | (refine wpS_take _ ?_ rfl (by rfl) ?_ ?_; rotate_left; (focus (intro w' hS'; (try dsimp only at hS'); (repeat (have hS1 := hS'.1; replace hS' := hS'.2)); go_simp; (try with_reducible rfl); done)); simp only [Act.put, List.getElem_toArray, List.getElem_cons_zero, List.getElem_cons_succ, List.setIfInBounds_toArray, List.set_cons_zero, List.set_cons_succ])))
  refine wpS_done ?_
  go_wp2_with fail
  all_goals
    go_ret
    refine ⟨ret_i ?_, (HB.out.alloc HB.out.size _).drew⟩
    simp_all [cmpS]
end Go.Proofs.Ytabkgoandfpclaa
