
/- stamp.Cmp and the closures of stamp.Sort: what they answer; the world behind is the old one, grown (Grew). Operations as elements of a row. No condition. (Printed in part by wip/genSs7.py.) -/

import Derived.Test.YtabkgoandfpclaaOp5

import Derived.Test.YtabkgoandfpclaaGet2

import Derived.Test.YtabkgoandfpclaaSs6

namespace Go.Proofs.Ytabkgoandfpclaa

set_option linter.unusedVariables false

set_option linter.unusedSimpArgs false

open Go.Shelf Go.RowKit Go.Lib Go.Sort Go.Proofs

/-- the old world, draws and blocks behind it -/
def Grew (w w' : World) : Prop := ∃ q os, w' = grow (w.drewN q) os
theorem Grew.refl (w : World) : Grew w w := ⟨0, #[], by rw [grow_empty]; rfl⟩
theorem Grew.drew {w w' : World} (h : Grew w w') : Grew w w'.drew := by
  obtain ⟨q, os, rfl⟩ := h
  exact ⟨q + 1, os, rfl⟩
theorem Grew.alloc {w w' : World} (h : Grew w w') (o : Obj) : Grew w (w'.alloc o) := by
  obtain ⟨q, os, rfl⟩ := h
  exact ⟨q, os ++ #[o], by rw [alloc_eq_grow, grow_grow]⟩
theorem Grew.alloc2 {w w' : World} (h : Grew w w') (o : Obj) : Grew w (w'.alloc o) := h.alloc o
theorem Grew.trans {a b c : World} (h : Grew a b) (k : Grew b c) : Grew a c := by
  obtain ⟨q, os, rfl⟩ := h
  obtain ⟨r, ps, rfl⟩ := k
  exact ⟨q + r, os ++ ps, by show grow (grow ((a.drewN q).drewN r) os) ps = _; rw [grow_grow, World.drewN_drewN]⟩
theorem Grew.below {w w' : World} (h : Grew w w') : Below w.heap.size w w' := by
  obtain ⟨q, os, rfl⟩ := h
  refine ⟨rfl, rfl, rfl, ?_, fun k hk => ?_⟩
  · show w.heap.size ≤ (w.heap ++ os).size
    simp
  · show (w.heap ++ os)[k]? = w.heap[k]?
    rw [Array.getElem?_append_left hk]

set_option maxRecDepth 100000 in
theorem cmp_grew (a b : Stm) (w : World) : Calls Try.prog 12 #[a.val, b.val] w fun e w' => e = .returned (.int .i64 (cmpS a b)) ∧ Grew w w' := by
  obtain ⟨t, r⟩ := a
  obtain ⟨t', r'⟩ := b
  unfold Stm.val
  obtain ⟨W1, hW1⟩ : ∃ W1, (w.alloc (.cells #[.int .i64 t, .int .i64 r] 23)).alloc (.cells #[.int .i64 t', .int .i64 r'] 23) = W1 := ⟨_, rfl⟩
  have hb : Grew w W1 := by rw [← hW1]; exact ((Grew.refl _).alloc _).alloc _
  have ha0 : W1.heap[w.heap.size]? = some (.cells #[.int .i64 t, .int .i64 r] 23 (0, 0)) := by rw [← hW1]; exact (Below.heap_alloc _ _ _ (by simp)).trans (heap_alloc_new w _)
  have hb0 : W1.heap[w.heap.size + 1]? = some (.cells #[.int .i64 t', .int .i64 r'] 23 (0, 0)) := by
    rw [← hW1]
    have := heap_alloc_new (w.alloc (.cells #[.int .i64 t, .int .i64 r] 23)) (.cells #[.int .i64 t', .int .i64 r'] 23 (0, 0))
    rwa [show (w.alloc (.cells #[.int .i64 t, .int .i64 r] 23)).heap.size = w.heap.size + 1 by simp] at this
  have c0 : W1.cell? ⟨w.heap.size, 0, none⟩ = some (.int .i64 t) := by rw [row_cell ha0]; rfl
  have c1 : W1.cell? ⟨w.heap.size, 1, none⟩ = some (.int .i64 r) := by rw [row_cell ha0]; rfl
  have c2 : W1.cell? ⟨w.heap.size + 1, 0, none⟩ = some (.int .i64 t') := by rw [row_cell hb0]; rfl
  have c3 : W1.cell? ⟨w.heap.size + 1, 1, none⟩ = some (.int .i64 r') := by rw [row_cell hb0]; rfl
  have hs1 : W1.heap.size = w.heap.size + 2 := by rw [← hW1]; simp
  have HS1 := Lib.hid hs1
  have HB := Lib.hid hb
  clear hs1 hb ha0 hb0
  go_enter Try.func12, Try.ntmps12
  go_wp2_with fail
  clear hW1
  refine wp_region_sched (fun w' => w'.cell? ⟨w.heap.size, 0, none⟩ = some (.int .i64 t) ∧ w'.cell? ⟨w.heap.size, 1, none⟩ = some (.int .i64 r) ∧ w'.cell? ⟨w.heap.size + 1, 0, none⟩ = some (.int .i64 t') ∧ w'.cell? ⟨w.heap.size + 1, 1, none⟩ = some (.int .i64 r'))
    [(true, 0), (true, 1), (true, 2), (true, 3), (true, 5), (true, 6), (true, 7), (true, 8), (false, 4), (false, 9), (false, 10), (false, 11), (true, 12)] (by kernel_rfl) (by kernel_rfl) rfl (by kernel_rfl) ⟨c0, c1, c2, c3⟩ ?_
  (repeat (first | (refine wpS_pass _ rfl (by rfl) ?_; simp only [Act.put, List.getElem_toArray, List.getElem_cons_zero, List.getElem_cons_succ, List.setIfInBounds_toArray, List.set_cons_zero, List.set_cons_succ]) | (refine wpS_take _ ?_ rfl (by rfl) ?_ ?_; rotate_left; (focus (intro w' hS'; (try dsimp only at hS'); (repeat (have hS1 := hS'.1; replace hS' := hS'.2)); go_simp; (try with_reducible rfl); done)); simp only [Act.put, List.getElem_toArray, List.getElem_cons_zero, List.getElem_cons_succ, List.setIfInBounds_toArray, List.set_cons_zero, List.set_cons_succ])))
  refine wpS_do _ rfl (by rfl) (fun K hK => ?_)
  go_simp
  refine (compare64_any t t' _).mono ?_
  rintro e w' ⟨rfl, rfl⟩
  refine hK.out _ _ ⟨c0, c1, c2, c3⟩ (fun hS => ?_)
  clear hK hS
  refine wpS_do _ rfl (by rfl) (fun K hK => ?_)
  go_simp
  refine (compareInt_any r r' _).mono ?_
  rintro e w' ⟨rfl, rfl⟩
  refine hK.out _ _ ⟨c0, c1, c2, c3⟩ (fun hS => ?_)
  clear hK hS
  refine wpS_do _ rfl (by rfl) (fun K hK => ?_)
  go_simp
  have hal : ∀ (ob : Obj) (k j : Nat), k < W1.heap.size → (W1.alloc ob).drew.cell? ⟨k, j, none⟩ = W1.cell? ⟨k, j, none⟩ := fun ob k j h => World.cell?_of_block (w := W1) (w' := W1.alloc ob) (a := ⟨k, j, none⟩) (Below.heap_alloc W1 ob k h)
  have l0 : w.heap.size < W1.heap.size := by have := HS1.out; omega
  have l1 : w.heap.size + 1 < W1.heap.size := by have := HS1.out; omega
  have hS3 : ∀ (ob : Obj), (W1.alloc ob).drew.cell? ⟨w.heap.size, 0, none⟩ = some (.int .i64 t) ∧ (W1.alloc ob).drew.cell? ⟨w.heap.size, 1, none⟩ = some (.int .i64 r) ∧ (W1.alloc ob).drew.cell? ⟨w.heap.size + 1, 0, none⟩ = some (.int .i64 t') ∧ (W1.alloc ob).drew.cell? ⟨w.heap.size + 1, 1, none⟩ = some (.int .i64 r') := fun ob =>
    ⟨(hal ob _ _ l0).trans c0, (hal ob _ _ l0).trans c1, (hal ob _ _ l1).trans c2, (hal ob _ _ l1).trans c3⟩
  have HS3 := Lib.hid hS3
  refine hK.out _ _ (HS3.out _) (fun hS => ?_)
  clear hK hS hS3 hal c0 c1 c2 c3 l0 l1
  refine wpS_do _ rfl (by rfl) (fun K hK => ?_)
  go_simp
  refine (or_any W1.heap.size 0 (cmpI t t') (cmpI r r') 2 _ (by rw [cell_of_row _ W1.heap.size 0 _ _ (0, 0) (show (W1.alloc _).drew.heap[W1.heap.size]? = _ from heap_alloc_new W1 _)]; rfl) (by rw [cell_of_row _ W1.heap.size 1 _ _ (0, 0) (show (W1.alloc _).drew.heap[W1.heap.size]? = _ from heap_alloc_new W1 _)]; rfl)).mono ?_
  rintro e w' ⟨rfl, rfl⟩
  refine hK.out _ _ (HS3.out _) (fun hS => ?_)
  clear hK hS
  (repeat (first | (refine wpS_pass _ rfl (by rfl) ?_; simp only [Act.put, List.getElem_toArray, List.getElem_cons_zero, List.getElem_cons_succ, List.setIfInBounds_toArray, List.set_cons_zero, List.set_cons_succ]) | (refine wpS_take _ ?_ rfl (by rfl) ?_ ?_; rotate_left; (focus (intro w' hS'; (try dsimp only at hS'); (repeat (have hS1 := hS'.1; replace hS' := hS'.2)); go_simp; (try with_reducible rfl); done)); simp only [Act.put, List.getElem_toArray, List.getElem_cons_zero, List.getElem_cons_succ, List.setIfInBounds_toArray, List.set_cons_zero, List.set_cons_succ])))
  refine wpS_done ?_
  go_wp2_with fail
  all_goals
    go_ret
    refine ⟨ret_i ?_, HB.out.drew.alloc2 _⟩
    simp_all [cmpS]

/-- an operation as an element of a row: 32 bytes, a slice -/
def OpE : Type := {o : OpM // o.data.length = 32 ∧ ∃ A n c, o.ov = .slice A n c}
instance : Inhabited OpE := ⟨⟨op0, rfl, _, _, _, rfl⟩⟩
def encE (x : OpE) : List Value := x.1.cells
theorem encE_len (x : OpE) : (encE x).length = 41 := x.1.cells_len x.2.1
theorem encE_one (x : OpE) : ∀ v ∈ encE x, v.oneCell' = true := x.1.cells_one x.2.2
def cfE (x y : OpE) : Int := cmpS x.1.at_ y.1.at_

theorem two_boxes {w : World} (a b : OpM) (ha : a.data.length = 32) (hb : b.data.length = 32) : ∃ (W2 : World) (g g' : Nat), w.heap.size = g ∧ (w.alloc (.cells a.cells.toArray 33)).heap.size = g' ∧ (w.alloc (.cells a.cells.toArray 33)).alloc (.cells b.cells.toArray 33) = W2 ∧ W2.rangeAt g 1 a.at_.cells ∧ W2.rangeAt g' 1 b.at_.cells ∧ Grew w W2 :=
  ⟨_, _, _, rfl, rfl, rfl, (opRow_of ((Below.heap_alloc _ _ _ (by simp)).trans (heap_alloc_new w _)) ha).at_, (opRow_of (heap_alloc_new _ _) hb).at_, ((Grew.refl _).alloc _).alloc _⟩

set_option maxRecDepth 100000 in
set_option maxHeartbeats 4000000 in
theorem sortCmp_any (a b : OpM) (ha : a.data.length = 32) (hb : b.data.length = 32) (w : World) : Calls Try.prog 64 #[a.val, b.val] w fun e w' => e = .returned (.int .i64 (cmpS a.at_ b.at_)) ∧ Grew w w' := by
  obtain ⟨W2, g, g', hg, hg', hW2, R, T, hgr⟩ := two_boxes (w := w) a b ha hb
  have HGR := Lib.hid hgr
  have s1 := a.at_.val_cells
  clear s1
  unfold OpM.val
  clear hgr ha hb
  go_enter Try.func64, Try.ntmps64
  go_wp2_with (first
    | ((with_reducible (refine wpList_load_stm 23 _ g 1 a.at_ R Try.underlying23 rfl info_stm ?_ rfl ?_ ?_)); (exact rfl); (exact rfl))
    | ((with_reducible (refine wpList_load_stm 23 _ g' 1 b.at_ T Try.underlying23 rfl info_stm ?_ rfl ?_ ?_)); (exact rfl); (exact rfl)))
  refine (cmp_grew a.at_ b.at_ W2).mono ?_
  rintro e w3 ⟨rfl, hg3⟩
  have HG3 := Lib.hid (HGR.out.trans hg3)
  clear hg3 R T
  go_wp2_with fail
  go_ret
  exact ⟨rfl, HG3.out⟩

set_option maxRecDepth 100000 in
set_option maxHeartbeats 4000000 in
theorem sortEq_any (a b : OpM) (ha : a.data.length = 32) (hb : b.data.length = 32) (w : World) : Calls Try.prog 66 #[a.val, b.val] w fun e w' => e = .returned (.bool (decide (a.at_ = b.at_))) ∧ Grew w w' := by
  obtain ⟨W2, g, g', hg, hg', hW2, R, T, hgr⟩ := two_boxes (w := w) a b ha hb
  have HGR := Lib.hid hgr
  have e1 := fun w => eql_stm a.at_ b.at_ w
  have g1 := fun o x y w => guard_stm o x y a.at_ b.at_ w
  unfold OpM.val
  clear hgr ha hb
  go_enter Try.func66, Try.ntmps66
  go_wp2_with (first
    | ((with_reducible (refine wpList_load_stm 23 _ g 1 a.at_ R Try.underlying23 rfl info_stm ?_ rfl ?_ ?_)); (exact rfl); (exact rfl))
    | ((with_reducible (refine wpList_load_stm 23 _ g' 1 b.at_ T Try.underlying23 rfl info_stm ?_ rfl ?_ ?_)); (exact rfl); (exact rfl)))
  go_ret
  exact ⟨rfl, HGR.out⟩

theorem cmpLaysE (blk off size : Nat) (w : World) : CmpLays Try.prog 64 #[] encE 41 cfE blk off size w := fun m os dk _ x y => by
  have h := sortCmp_any x.1 y.1 x.2.1 y.2.1 (sortWorldK encE 41 w blk off m dk os)
  exact h.mono fun e w' ⟨h1, q, os', h2⟩ => ⟨h1, q, os', h2⟩
/-- the closure of CompactFunc, in whatever world -/
theorem eqLaysE (x y : OpE) (w : World) : Calls Try.prog 66 (#[.agg (encE x).toArray, .agg (encE y).toArray] ++ #[]) w fun e w' => e = .returned (.bool (decide (x.1.at_ = y.1.at_))) ∧ ∃ q os, w' = grow (w.drewN q) os := by
  have h := sortEq_any x.1 y.1 x.2.1 y.2.1 w
  exact h.mono fun e w' ⟨h1, q, os', h2⟩ => ⟨h1, q, os', h2⟩
end Go.Proofs.Ytabkgoandfpclaa
