
/- stamp.Same. -/

import Derived.Test.YtabkgoandfpclaaOp4

namespace Go.Proofs.Ytabkgoandfpclaa

set_option linter.unusedVariables false

set_option linter.unusedSimpArgs false

open Go.RowKit

def sameO (a b : OpM) : Bool := (a.kind == b.kind) && decide (a.at_ = b.at_) && decide (a.node = b.node) && decide (a.par = b.par) && (a.name.toList == b.name.toList) && decide (a.data = b.data) && decide (a.os = b.os)

theorem eql_data (d e : List UInt8) (h : d.length = 32) (h' : e.length = 32) (w : World) : (binOp .eql 30 (.agg (b8s d).toArray) (.agg (b8s e).toArray)).run Try.prog w = .ok (.bool (decide (d = e))) w :=
  run_eql_ids (P := Try.prog) (t := 30) (e := 5) (n := 32) Try.underlying30 Try.underlying5 (by kernel_rfl) (by kernel_rfl) (by kernel_rfl) d e h h' w
theorem eqin_data (d e : List UInt8) (h : d.length = 32) (h' : e.length = 32) (w : World) : (Op.equalIn 10000 30 (.agg (b8s d).toArray) (.agg (b8s e).toArray)).run Try.prog w = .ok (decide (d = e)) w := by
  obtain ⟨i, hi⟩ := Option.isSome_iff_exists.1 (show (Try.prog.info? 5).isSome = true by kernel_rfl)
  exact run_eq_bytes (P := Try.prog) (t := 30) (e := 5) (n := 32) 9998 d e w Try.underlying30 Try.underlying5 hi (by kernel_rfl) (by kernel_rfl) h h'

/-- two operations in rows of their own -/
theorem two_rows {w : World} (a b : OpM) (ha : OpIn w a) (hb : OpIn w b) : ∃ (W1 W2 : World) (g g' : Nat), w.heap.size = g ∧ W1.heap.size = g' ∧ w.alloc (.cells a.cells.toArray 33) = W1 ∧ W1.alloc (.cells b.cells.toArray 33) = W2 ∧
    W2.heap[g]? = some (.cells a.cells.toArray 33 (0, 0)) ∧ W2.heap[g']? = some (.cells b.cells.toArray 33 (0, 0)) ∧ Below g w W2 := by
  refine ⟨_, _, _, _, rfl, rfl, rfl, rfl, ?_, heap_alloc_new _ _, ?_⟩
  · exact (Below.heap_alloc _ _ _ (by simp)).trans (heap_alloc_new w _)
  · exact ((Below.refl _ _).alloc (Nat.le_refl _) _).alloc (by simp) _

set_option maxRecDepth 100000 in
set_option maxHeartbeats 4000000 in
theorem opsame_any (a b : OpM) (w : World) (ha : OpIn w a) (hb : OpIn w b) : Calls Try.prog 20 #[a.val, b.val] w fun e w' => e = .returned (.bool (sameO a b)) ∧ Below w.heap.size w w' := by
  obtain ⟨W1, W2, g, g', hg, hg', hW1, hW2, hra, hrb, hbel⟩ := two_rows a b ha hb
  have HID := Lib.hid (info_data a.data ha.len)
  have HIE := Lib.hid (info_data b.data hb.len)
  have R := opRow_of hra ha.len
  have T := opRow_of hrb hb.len
  obtain ⟨A, c, hov, hrd, hcl, hcm⟩ := ha.ov
  obtain ⟨B, d, how, hre, hdl, hdm⟩ := hb.ov
  have HBEL := Lib.hid hbel
  have HGL : Hid (g ≤ W2.heap.size) := Lib.hid (by have := hbel.size; omega)
  have HRA := Lib.hid (hrd.below (hg ▸ hbel))
  have HRB := Lib.hid (hre.below (hg ▸ hbel))
  obtain ⟨V, hV⟩ : ∃ V, sameO a b = V := ⟨_, rfl⟩
  have HV := Lib.hid hV
  have q0 := R.kind
  have q1 := T.kind
  have q2 := R.name
  have q3 := T.name
  have q4 := R.ov
  have q5 := T.ov
  rw [hov] at q4
  rw [how] at q5
  have e1 := fun w => eql_stm a.at_ b.at_ w
  have e2 := fun w => eql_stm a.node b.node w
  have e3 := fun w => eql_stm a.par b.par w
  have g1 := fun o x y w => guard_stm o x y a.at_ b.at_ w
  have g2 := fun o x y w => guard_stm o x y a.node b.node w
  have g3 := fun o x y w => guard_stm o x y a.par b.par w
  have e4 := fun w => eqin_data a.data b.data ha.len hb.len w
  obtain ⟨x1, hx1⟩ : ∃ x, decide (a.at_ = b.at_) = x := ⟨_, rfl⟩
  obtain ⟨x2, hx2⟩ : ∃ x, decide (a.node = b.node) = x := ⟨_, rfl⟩
  obtain ⟨x3, hx3⟩ : ∃ x, decide (a.par = b.par) = x := ⟨_, rfl⟩
  obtain ⟨x4, hx4⟩ : ∃ x, decide (a.data = b.data) = x := ⟨_, rfl⟩
  rw [hx1] at e1
  rw [hx2] at e2
  rw [hx3] at e3
  rw [hx4] at e4
  have X1 := Lib.hid hx1
  have X2 := Lib.hid hx2
  have X3 := Lib.hid hx3
  have X4 := Lib.hid hx4
  rw [hV]
  unfold OpM.val
  rw [hg]
  clear hra hrb hbel hrd hre ha hb hV hov how hx1 hx2 hx3 hx4
  go_enter Try.func20, Try.ntmps20
  go_wp2_with (first
    | ((with_reducible (refine wpList_load_stm 23 _ g 1 a.at_ R.at_ Try.underlying23 rfl info_stm ?_ rfl ?_ ?_)); (exact rfl); (exact rfl))
    | ((with_reducible (refine wpList_load_stm 23 _ g' 1 b.at_ T.at_ Try.underlying23 rfl info_stm ?_ rfl ?_ ?_)); (exact rfl); (exact rfl))
    | ((with_reducible (refine wpList_load_stm 23 _ g 3 a.node R.node Try.underlying23 rfl info_stm ?_ rfl ?_ ?_)); (exact rfl); (exact rfl))
    | ((with_reducible (refine wpList_load_stm 23 _ g' 3 b.node T.node Try.underlying23 rfl info_stm ?_ rfl ?_ ?_)); (exact rfl); (exact rfl))
    | ((with_reducible (refine wpList_load_stm 23 _ g 5 a.par R.par Try.underlying23 rfl info_stm ?_ rfl ?_ ?_)); (exact rfl); (exact rfl))
    | ((with_reducible (refine wpList_load_stm 23 _ g' 5 b.par T.par Try.underlying23 rfl info_stm ?_ rfl ?_ ?_)); (exact rfl); (exact rfl))
    | ((with_reducible (refine wpList_load_b8 30 _ g 8 a.data R.data Try.underlying30 rfl HID.out ?_ rfl ?_ ?_)); (exact rfl); (exact rfl))
    | ((with_reducible (refine wpList_load_b8 30 _ g' 8 b.data T.data Try.underlying30 rfl HIE.out ?_ rfl ?_ ?_)); (exact rfl); (exact rfl)))
  all_goals first
    | (refine (equal_any A B a.os b.os c d W2 HRA.out HRB.out hcl hdl hcm hdm).mono ?_
       rintro e w3 ⟨rfl, hb3⟩
       go_wp2_with fail
       go_ret
       exact ⟨ret_bool (by rw [← HV.out]; unfold sameO; rw [X1.out, X2.out, X3.out, X4.out]; simp_all), HBEL.out.trans (hb3.mono HGL.out)⟩)
    | (go_ret
       exact ⟨ret_bool (by rw [← HV.out]; unfold sameO; rw [X1.out, X2.out, X3.out, X4.out]; simp_all), HBEL.out⟩)
end Go.Proofs.Ytabkgoandfpclaa
