
/- Maps of ints, as functions; down. -/

import Derived.Test.YtmniggjadfdheaaDoorProg

import Derived.Test.YtmniggjadfdheaaDoorGen

import Derived.Test.YtmniggjadfdheaaDoorExec

import Derived.Test.YtmniggjadfdheaaDoorLnS

import Derived.Maps.OwnOps

import Derived.Maps.Ext

import Derived.Maps.RangeWalk

import Derived.Maps.OwnSet

namespace Go.Proofs.YtmniggjadfdheaaDoor

set_option linter.unusedVariables false

set_option linter.unusedSimpArgs false

set_option linter.unusedSectionVars false

open Go.RowKit

open Go.Maps (Keyed)

theorem keyed_int : Keyed Tryd.prog 3 := Maps.int_keyed Tryd.underlying3
abbrev MapD := DataW Unit
def ownsD (w : World) (b n : Nat) (D : MapD) : Prop := w.ownsMap Tryd.prog 3 (plainElem Tryd.prog 3) b n D
/-- in 64 bits -/
def i64B (k : Int) : Prop := -9223372036854775808 ≤ k ∧ k ≤ 9223372036854775807
theorem i64_wf {k : Int} (h : i64B k) : (Lit.int .i64 k).wf = true := by
  unfold i64B at h
  simp [Lit.wf, IntKind.min, IntKind.max, IntKind.signed, IntKind.bits]
  omega
/-- the map reads as f -/
def readsF (D : MapD) (f : Int → Int) : Prop := ∀ k, i64B k → D.atKey (.int .i64 k) (.lit (.int .i64 0)) = .lit (.int .i64 (f k))
structure MapF (w : World) (b n : Nat) (f : Int → Int) : Prop where
  ex : ∃ D, ownsD w b n D ∧ readsF D f
theorem MapF.kept {w w' : World} {b n : Nat} {f : Int → Int} {row : Option Nat} (h : MapF w b n f) (hg : w.grownBy w' row) (hne : some b ≠ row) : MapF w' b n f := by
  obtain ⟨D, h1, h2⟩ := h.ex
  exact ⟨D, h1.kept hg hne, h2⟩
theorem MapF.lt {w : World} {b n : Nat} {f : Int → Int} (h : MapF w b n f) : b < w.heap.size := by
  obtain ⟨D, h1, h2⟩ := h.ex
  exact h1.lt
theorem MapF.below {w w' : World} {b n : Nat} {f : Int → Int} (h : MapF w b n f) (hb : Below w.heap.size w w') : MapF w' b n f :=
  h.kept (row := none) ⟨hb.os, hb.tape, hb.output, hb.size, fun i hi _ => hb.block i hi⟩ (by simp)
theorem MapF.look {w : World} {b n : Nat} {f : Int → Int} (h : MapF w b n f) {k : Int} (hk : i64B k) : (Instr.lookup 54 (.map (some b)) (.int .i64 k) false).run Tryd.prog w = .ok (.int .i64 (f k)) w := by
  obtain ⟨D, h1, h2⟩ := h.ex
  obtain ⟨c, hr, ha, _⟩ := World.ownsMap.lookup_int (w := w) h1 keyed_int Tryd.underlying54 Tryd.underlying3 (by kernel_rfl) (Maps.keyOf_int_mk Tryd.underlying3 (i64_wf hk))
  rw [h2 k hk] at ha
  cases ha
  exact hr
theorem key_lit (k : Int) : WideAt.IsKeyLit (.int .i64 k) := trivial
theorem readsF.put {D : MapD} {f : Int → Int} (h : readsF D f) (hm : Maps.IsMap D) (k x : Int) : readsF (D.put (.int .i64 k) (.lit (.int .i64 x))) (fun j => if j = k then x else f j) := fun j hj => by
  show _ = DataW.lit (.int .i64 (if j = k then x else f j))
  by_cases e : j = k
  · subst e
    rw [Maps.atKey_put_same hm (key_lit _), if_pos rfl]
  · rw [Maps.atKey_put_other (by simpa using e), if_neg e]
    exact h j hj
theorem readsF.same {D : MapD} {f g : Int → Int} (h : readsF D f) (e : ∀ k, f k = g k) : readsF D g := fun k hk => by rw [h k hk, e k]
theorem readsF_empty : readsF (.map []) (fun _ => 0) := fun k _ => rfl

theorem exec_lookup {P : Program} {a : Act} {o : Oper} {w : World} (T : TypeId) (x i : Operand) (ho : o.op = .lookup T x i false) (X I V : Value) (hx : a.eval x = X) (hi : a.eval i = I) (h : (Instr.lookup T X I false).run P w = .ok V w) : (execOp a.eval o).run P w = .ok (.value V) w := by
  simp [execOp, ho, hx, hi, h]

set_option maxRecDepth 100000 in
set_option maxHeartbeats 2000000 in
theorem down_any (b n : Nat) (f : Int → Int) (k d : Int) (w : World) (h : MapF w b n f) (hk : -1000000 ≤ k ∧ k ≤ 1000000) (hd : -1000000 ≤ d ∧ d ≤ 1000000) (hf : ∀ j, -1000000 ≤ f j ∧ f j ≤ 1000000) :
    Calls Tryd.prog 28 #[.map (some b), .int .i64 k, .int .i64 d] w fun e w' => e = .returned (.tuple #[.bool (dnB f d k), .int .i64 (dnX f d k)]) ∧ ∃ n, w' = w.drewN n := by
  have h1 := h.look (k := k - 1) (by unfold i64B; omega)
  have h2 := h.look (k := k + 1) (by unfold i64B; omega)
  have H := Lib.hid h
  have f1 := hf (k - 1)
  have f2 := hf (k + 1)
  have e1 : IntKind.i64.wrap (k + 1) = k + 1 := by rw [IntKind.wrap_i64]; omega
  have e2 : IntKind.i64.wrap (k - 1) = k - 1 := by rw [IntKind.wrap_i64]; omega
  have e3 : IntKind.i64.wrap (f (k - 1) + 1) = f (k - 1) + 1 := by rw [IntKind.wrap_i64]; omega
  clear h hf
  have hadd := fun w => bin_add (P := Tryd.prog) (t := 3) k 1 (k + 1) w rfl (by omega) (by omega)
  have hsub := fun w => bin_sub (P := Tryd.prog) (t := 3) k 1 (k - 1) w rfl (by omega) (by omega)
  have hadd2 := fun w => bin_add (P := Tryd.prog) (t := 3) (f (k - 1)) 1 (f (k - 1) + 1) w rfl (by omega) (by omega)
  have HD : Hid (MapF w.drew b n f) := Lib.hid (H.out.below (Below.refl _ _).drew)
  by_cases cA : k = -d
  · have HB : dnB f d k = true := by unfold dnB; simp [cA]
    have HX : dnX f d k = f (k + 1) := by unfold dnX; rw [HB]; rfl
    rw [HB, HX]
    clear HB HX
    have z1 : (k == -d) = true := by rw [beq_iff_eq]; exact cA
    clear cA
    go_enter Tryd.func28, Tryd.ntmps28
    go_wp2
    refine wp_region_sched (fun w' => MapF w' b n f) [(true, 0), (true, 1), (true, 2), (true, 3), (true, 4), (true, 5)] (by kernel_rfl) (by kernel_rfl) rfl (by kernel_rfl) HD.out ?_
    (first | (refine wpS_pass _ rfl (by rfl) ?_; simp only [Act.put, List.getElem_toArray, List.getElem_cons_zero, List.getElem_cons_succ, List.setIfInBounds_toArray, List.set_cons_zero, List.set_cons_succ]) | (refine wpS_take _ ?_ rfl (by rfl) ?_ ?_; rotate_left; (focus (intro w' hS'; (try dsimp only at hS'); (repeat (have hS1 := hS'.1; replace hS' := hS'.2)); go_simp; (try with_reducible rfl); done)); simp only [Act.put, List.getElem_toArray, List.getElem_cons_zero, List.getElem_cons_succ, List.setIfInBounds_toArray, List.set_cons_zero, List.set_cons_succ]))
    (first | (refine wpS_pass _ rfl (by rfl) ?_; simp only [Act.put, List.getElem_toArray, List.getElem_cons_zero, List.getElem_cons_succ, List.setIfInBounds_toArray, List.set_cons_zero, List.set_cons_succ]) | (refine wpS_take _ ?_ rfl (by rfl) ?_ ?_; rotate_left; (focus (intro w' hS'; (try dsimp only at hS'); (repeat (have hS1 := hS'.1; replace hS' := hS'.2)); go_simp; (try with_reducible rfl); done)); simp only [Act.put, List.getElem_toArray, List.getElem_cons_zero, List.getElem_cons_succ, List.setIfInBounds_toArray, List.set_cons_zero, List.set_cons_succ]))
    refine wpS_take _ _ rfl (by rfl) (fun w' hS' => exec_bin _ _ _ _ _ rfl _ _ _ rfl rfl rfl (hadd w')) ?_
    simp only [Act.put, List.getElem_toArray, List.getElem_cons_zero, List.getElem_cons_succ, List.setIfInBounds_toArray, List.set_cons_zero, List.set_cons_succ]
    refine wpS_take _ _ rfl (by rfl) (fun w' hS' => exec_lookup _ _ _ rfl _ _ _ rfl rfl (hS'.look (by unfold i64B; omega))) ?_
    simp only [Act.put, List.getElem_toArray, List.getElem_cons_zero, List.getElem_cons_succ, List.setIfInBounds_toArray, List.set_cons_zero, List.set_cons_succ]
    (repeat (first | (refine wpS_pass _ rfl (by rfl) ?_; simp only [Act.put, List.getElem_toArray, List.getElem_cons_zero, List.getElem_cons_succ, List.setIfInBounds_toArray, List.set_cons_zero, List.set_cons_succ]) | (refine wpS_take _ ?_ rfl (by rfl) ?_ ?_; rotate_left; (focus (intro w' hS'; (try dsimp only at hS'); (repeat (have hS1 := hS'.1; replace hS' := hS'.2)); go_simp; (try with_reducible rfl); done)); simp only [Act.put, List.getElem_toArray, List.getElem_cons_zero, List.getElem_cons_succ, List.setIfInBounds_toArray, List.set_cons_zero, List.set_cons_succ])))
    refine wpS_done ?_
    go_wp2_with fail
    go_ret2
    exact ⟨rfl, 1, rfl⟩
  have z1 : (k == -d) = false := by rw [beq_eq_false_iff_ne]; exact cA
  by_cases cB : k = d
  · have HB : dnB f d k = false := by unfold dnB; rw [decide_eq_false cA]; simp [cB]
    have HX : dnX f d k = f (k - 1) + 1 := by unfold dnX; rw [HB]; rfl
    rw [HB, HX]
    clear HB HX
    have z2 : (k != d) = false := by rw [bne_eq_false_iff_eq]; exact cB
    clear cA cB
    go_enter Tryd.func28, Tryd.ntmps28
    go_wp2
    refine wp_region_sched (fun w' => MapF w' b n f) [(true, 0), (true, 1), (true, 2), (true, 3), (true, 4), (true, 5), (true, 6)] (by kernel_rfl) (by kernel_rfl) rfl (by kernel_rfl) HD.out ?_
    (first | (refine wpS_pass _ rfl (by rfl) ?_; simp only [Act.put, List.getElem_toArray, List.getElem_cons_zero, List.getElem_cons_succ, List.setIfInBounds_toArray, List.set_cons_zero, List.set_cons_succ]) | (refine wpS_take _ ?_ rfl (by rfl) ?_ ?_; rotate_left; (focus (intro w' hS'; (try dsimp only at hS'); (repeat (have hS1 := hS'.1; replace hS' := hS'.2)); go_simp; (try with_reducible rfl); done)); simp only [Act.put, List.getElem_toArray, List.getElem_cons_zero, List.getElem_cons_succ, List.setIfInBounds_toArray, List.set_cons_zero, List.set_cons_succ]))
    (first | (refine wpS_pass _ rfl (by rfl) ?_; simp only [Act.put, List.getElem_toArray, List.getElem_cons_zero, List.getElem_cons_succ, List.setIfInBounds_toArray, List.set_cons_zero, List.set_cons_succ]) | (refine wpS_take _ ?_ rfl (by rfl) ?_ ?_; rotate_left; (focus (intro w' hS'; (try dsimp only at hS'); (repeat (have hS1 := hS'.1; replace hS' := hS'.2)); go_simp; (try with_reducible rfl); done)); simp only [Act.put, List.getElem_toArray, List.getElem_cons_zero, List.getElem_cons_succ, List.setIfInBounds_toArray, List.set_cons_zero, List.set_cons_succ]))
    refine wpS_take _ _ rfl (by rfl) (fun w' hS' => exec_bin _ _ _ _ _ rfl _ _ _ rfl rfl rfl (hsub w')) ?_
    simp only [Act.put, List.getElem_toArray, List.getElem_cons_zero, List.getElem_cons_succ, List.setIfInBounds_toArray, List.set_cons_zero, List.set_cons_succ]
    refine wpS_take _ _ rfl (by rfl) (fun w' hS' => exec_lookup _ _ _ rfl _ _ _ rfl rfl (hS'.look (by unfold i64B; omega))) ?_
    simp only [Act.put, List.getElem_toArray, List.getElem_cons_zero, List.getElem_cons_succ, List.setIfInBounds_toArray, List.set_cons_zero, List.set_cons_succ]
    refine wpS_take _ _ rfl (by rfl) (fun w' hS' => exec_bin _ _ _ _ _ rfl _ _ _ rfl rfl rfl (hadd2 w')) ?_
    simp only [Act.put, List.getElem_toArray, List.getElem_cons_zero, List.getElem_cons_succ, List.setIfInBounds_toArray, List.set_cons_zero, List.set_cons_succ]
    (repeat (first | (refine wpS_pass _ rfl (by rfl) ?_; simp only [Act.put, List.getElem_toArray, List.getElem_cons_zero, List.getElem_cons_succ, List.setIfInBounds_toArray, List.set_cons_zero, List.set_cons_succ]) | (refine wpS_take _ ?_ rfl (by rfl) ?_ ?_; rotate_left; (focus (intro w' hS'; (try dsimp only at hS'); (repeat (have hS1 := hS'.1; replace hS' := hS'.2)); go_simp; (try with_reducible rfl); done)); simp only [Act.put, List.getElem_toArray, List.getElem_cons_zero, List.getElem_cons_succ, List.setIfInBounds_toArray, List.set_cons_zero, List.set_cons_succ])))
    refine wpS_done ?_
    go_wp2_with fail
    go_ret2
    exact ⟨rfl, 1, rfl⟩
  have z2 : (k != d) = true := by rw [bne_iff_ne]; exact cB
  by_cases cC : f (k - 1) < f (k + 1)
  · have HB : dnB f d k = true := by unfold dnB; simp [cA, cB, cC]
    have HX : dnX f d k = f (k + 1) := by unfold dnX; rw [HB]; rfl
    rw [HB, HX]
    clear HB HX
    clear cA cB
    go_enter Tryd.func28, Tryd.ntmps28
    go_wp2
    refine wp_region_sched (fun w' => MapF w' b n f) [(true, 0), (true, 1), (true, 2), (true, 3), (true, 4), (true, 5)] (by kernel_rfl) (by kernel_rfl) rfl (by kernel_rfl) HD.out ?_
    (first | (refine wpS_pass _ rfl (by rfl) ?_; simp only [Act.put, List.getElem_toArray, List.getElem_cons_zero, List.getElem_cons_succ, List.setIfInBounds_toArray, List.set_cons_zero, List.set_cons_succ]) | (refine wpS_take _ ?_ rfl (by rfl) ?_ ?_; rotate_left; (focus (intro w' hS'; (try dsimp only at hS'); (repeat (have hS1 := hS'.1; replace hS' := hS'.2)); go_simp; (try with_reducible rfl); done)); simp only [Act.put, List.getElem_toArray, List.getElem_cons_zero, List.getElem_cons_succ, List.setIfInBounds_toArray, List.set_cons_zero, List.set_cons_succ]))
    (first | (refine wpS_pass _ rfl (by rfl) ?_; simp only [Act.put, List.getElem_toArray, List.getElem_cons_zero, List.getElem_cons_succ, List.setIfInBounds_toArray, List.set_cons_zero, List.set_cons_succ]) | (refine wpS_take _ ?_ rfl (by rfl) ?_ ?_; rotate_left; (focus (intro w' hS'; (try dsimp only at hS'); (repeat (have hS1 := hS'.1; replace hS' := hS'.2)); go_simp; (try with_reducible rfl); done)); simp only [Act.put, List.getElem_toArray, List.getElem_cons_zero, List.getElem_cons_succ, List.setIfInBounds_toArray, List.set_cons_zero, List.set_cons_succ]))
    refine wpS_take _ _ rfl (by rfl) (fun w' hS' => exec_bin _ _ _ _ _ rfl _ _ _ rfl rfl rfl (hadd w')) ?_
    simp only [Act.put, List.getElem_toArray, List.getElem_cons_zero, List.getElem_cons_succ, List.setIfInBounds_toArray, List.set_cons_zero, List.set_cons_succ]
    refine wpS_take _ _ rfl (by rfl) (fun w' hS' => exec_lookup _ _ _ rfl _ _ _ rfl rfl (hS'.look (by unfold i64B; omega))) ?_
    simp only [Act.put, List.getElem_toArray, List.getElem_cons_zero, List.getElem_cons_succ, List.setIfInBounds_toArray, List.set_cons_zero, List.set_cons_succ]
    (repeat (first | (refine wpS_pass _ rfl (by rfl) ?_; simp only [Act.put, List.getElem_toArray, List.getElem_cons_zero, List.getElem_cons_succ, List.setIfInBounds_toArray, List.set_cons_zero, List.set_cons_succ]) | (refine wpS_take _ ?_ rfl (by rfl) ?_ ?_; rotate_left; (focus (intro w' hS'; (try dsimp only at hS'); (repeat (have hS1 := hS'.1; replace hS' := hS'.2)); go_simp; (try with_reducible rfl); done)); simp only [Act.put, List.getElem_toArray, List.getElem_cons_zero, List.getElem_cons_succ, List.setIfInBounds_toArray, List.set_cons_zero, List.set_cons_succ])))
    refine wpS_done ?_
    go_wp2_with fail
    go_ret2
    exact ⟨rfl, 1, rfl⟩
  · have HB : dnB f d k = false := by unfold dnB; simp [cA, cB, cC]
    have HX : dnX f d k = f (k - 1) + 1 := by unfold dnX; rw [HB]; rfl
    rw [HB, HX]
    clear HB HX
    clear cA cB
    go_enter Tryd.func28, Tryd.ntmps28
    go_wp2
    refine wp_region_sched (fun w' => MapF w' b n f) [(true, 0), (true, 1), (true, 2), (true, 3), (true, 4), (true, 5), (true, 6)] (by kernel_rfl) (by kernel_rfl) rfl (by kernel_rfl) HD.out ?_
    (first | (refine wpS_pass _ rfl (by rfl) ?_; simp only [Act.put, List.getElem_toArray, List.getElem_cons_zero, List.getElem_cons_succ, List.setIfInBounds_toArray, List.set_cons_zero, List.set_cons_succ]) | (refine wpS_take _ ?_ rfl (by rfl) ?_ ?_; rotate_left; (focus (intro w' hS'; (try dsimp only at hS'); (repeat (have hS1 := hS'.1; replace hS' := hS'.2)); go_simp; (try with_reducible rfl); done)); simp only [Act.put, List.getElem_toArray, List.getElem_cons_zero, List.getElem_cons_succ, List.setIfInBounds_toArray, List.set_cons_zero, List.set_cons_succ]))
    (first | (refine wpS_pass _ rfl (by rfl) ?_; simp only [Act.put, List.getElem_toArray, List.getElem_cons_zero, List.getElem_cons_succ, List.setIfInBounds_toArray, List.set_cons_zero, List.set_cons_succ]) | (refine wpS_take _ ?_ rfl (by rfl) ?_ ?_; rotate_left; (focus (intro w' hS'; (try dsimp only at hS'); (repeat (have hS1 := hS'.1; replace hS' := hS'.2)); go_simp; (try with_reducible rfl); done)); simp only [Act.put, List.getElem_toArray, List.getElem_cons_zero, List.getElem_cons_succ, List.setIfInBounds_toArray, List.set_cons_zero, List.set_cons_succ]))
    refine wpS_take _ _ rfl (by rfl) (fun w' hS' => exec_bin _ _ _ _ _ rfl _ _ _ rfl rfl rfl (hsub w')) ?_
    simp only [Act.put, List.getElem_toArray, List.getElem_cons_zero, List.getElem_cons_succ, List.setIfInBounds_toArray, List.set_cons_zero, List.set_cons_succ]
    refine wpS_take _ _ rfl (by rfl) (fun w' hS' => exec_lookup _ _ _ rfl _ _ _ rfl rfl (hS'.look (by unfold i64B; omega))) ?_
    simp only [Act.put, List.getElem_toArray, List.getElem_cons_zero, List.getElem_cons_succ, List.setIfInBounds_toArray, List.set_cons_zero, List.set_cons_succ]
    refine wpS_take _ _ rfl (by rfl) (fun w' hS' => exec_bin _ _ _ _ _ rfl _ _ _ rfl rfl rfl (hadd2 w')) ?_
    simp only [Act.put, List.getElem_toArray, List.getElem_cons_zero, List.getElem_cons_succ, List.setIfInBounds_toArray, List.set_cons_zero, List.set_cons_succ]
    (repeat (first | (refine wpS_pass _ rfl (by rfl) ?_; simp only [Act.put, List.getElem_toArray, List.getElem_cons_zero, List.getElem_cons_succ, List.setIfInBounds_toArray, List.set_cons_zero, List.set_cons_succ]) | (refine wpS_take _ ?_ rfl (by rfl) ?_ ?_; rotate_left; (focus (intro w' hS'; (try dsimp only at hS'); (repeat (have hS1 := hS'.1; replace hS' := hS'.2)); go_simp; (try with_reducible rfl); done)); simp only [Act.put, List.getElem_toArray, List.getElem_cons_zero, List.getElem_cons_succ, List.setIfInBounds_toArray, List.set_cons_zero, List.set_cons_succ])))
    refine wpS_done ?_
    go_wp2_with fail
    go_ret2
    exact ⟨rfl, 1, rfl⟩
end Go.Proofs.YtmniggjadfdheaaDoor
