
/- A stamp's bytes; the writers on a slice value. -/

import Derived.Test.YtabkgoandfpclaaOp2

import Derived.Test.YtabkgoandfpclaaEncText

import Derived.Test.YtabkgoandfpclaaClone

import Derived.Test.YtabkgoandfpclaaEncOrder

namespace Go.Proofs.Ytabkgoandfpclaa

set_option linter.unusedVariables false

set_option linter.unusedSimpArgs false

open Go.RowKit

/-- bytes behind a slice value -/
def Sl (w : World) (v : Value) (bs : List UInt8) : Prop := ∃ A n c, v = .slice A n c ∧ n = bs.length ∧ n ≤ c ∧ c ≤ maxLen ∧ Rd w A (b8s bs)
theorem Sl.nil (w : World) : Sl w (.slice none 0 0) [] := ⟨_, _, _, rfl, rfl, Nat.le_refl _, by unfold maxLen; omega, Rd.nil⟩
theorem Own8.sl {N : Nat} {w0 w : World} {v : Value} {zs : List UInt8} (h : Own8 N w0 w v zs) : Sl w v zs := by
  obtain ⟨A, n, c, h1, h2, h3, h4, h5, _⟩ := h.sliceN
  exact ⟨A, n, c, h1, h2, h3, h4, h5⟩
theorem Sl.below {w w' : World} {v : Value} {bs : List UInt8} (h : Sl w v bs) (hb : Below w.heap.size w w') : Sl w' v bs := by
  obtain ⟨A, n, c, h1, h2, h3, h4, h5⟩ := h
  exact ⟨A, n, c, h1, h2, h3, h4, h5.below hb⟩
theorem num_s (v : Value) (bs : List UInt8) (n : Int) (w : World) (h : Sl w v bs) (hm : bs.length ≤ 1099511627776) :
    Calls Try.prog 45 #[v, .int .i64 n] w fun e w' => ∃ v, e = .returned v ∧ Own8 w.heap.size w w' v (bs ++ numB (clampN n)) := by
  obtain ⟨A, m, c, rfl, rfl, _, _, hr⟩ := h
  exact num_any A bs c n w hr (by omega)
theorem text_s (v : Value) (bs : List UInt8) (s : ByteArray) (w : World) (h : Sl w v bs) (hm : bs.length ≤ 1099511627776) (hs : s.size ≤ 1099511627776) :
    Calls Try.prog 46 #[v, .string s] w fun e w' => ∃ v, e = .returned v ∧ Own8 w.heap.size w w' v (bs ++ textB s.data.toList) := by
  obtain ⟨A, m, c, rfl, rfl, _, _, hr⟩ := h
  exact text_any A bs c s w hr (by omega)
theorem id_s (v : Value) (bs id : List UInt8) (w : World) (h : Sl w v bs) (hid : id.length = 32) (hm : bs.length ≤ 1099511627776) :
    Calls Try.prog 47 #[v, .agg (b8s id).toArray] w fun e w' => ∃ v, e = .returned v ∧ Own8 w.heap.size w w' v (bs ++ id) := by
  obtain ⟨A, m, c, rfl, rfl, _, _, hr⟩ := h
  exact id_any A bs id c w hid hr (by omega)
theorem clone_s (v : Value) (bs : List UInt8) (w : World) (h : Sl w v bs) (hm : bs.length ≤ 1099511627776) :
    Calls Try.prog 43 #[v] w fun e w' => ∃ v, e = .returned v ∧ Own8 w.heap.size w w' v bs := by
  obtain ⟨A, m, c, rfl, rfl, _, _, hr⟩ := h
  exact clone_any A bs c w hr (by omega)

def stmB (s : Stm) : List UInt8 := numB (clampN s.t) ++ numB (clampN s.r)
theorem stmB_len (s : Stm) : (stmB s).length ≤ 18 := by
  unfold stmB
  rw [List.length_append]
  have h1 := (numB_len s.t).2
  have h2 := (numB_len s.r).2
  omega

set_option maxRecDepth 100000 in
set_option maxHeartbeats 1000000 in
theorem puts_any (v : Value) (bs : List UInt8) (s : Stm) (w : World) (h : Sl w v bs) (hm : bs.length ≤ 1099511620000) :
    Calls Try.prog 44 #[v, s.val] w fun e w' => ∃ v', e = .returned v' ∧ Own8 w.heap.size w w' v' (bs ++ stmB s) := by
  obtain ⟨W1, hW1⟩ : ∃ W1, w.alloc (.cells s.cells.toArray 23) = W1 := ⟨_, rfl⟩
  have hrow : W1.heap[w.heap.size]? = some (.cells s.cells.toArray 23 (0, 0)) := by rw [← hW1]; exact heap_alloc_new w _
  have hb1 : Below w.heap.size w W1 := by rw [← hW1]; exact (Below.refl _ _).alloc (Nat.le_refl _) _
  have c0 : W1.cell? ⟨w.heap.size, 0, none⟩ = some (.int .i64 s.t) := by rw [row_cell hrow]; rfl
  have c1 : W1.cell? ⟨w.heap.size, 1, none⟩ = some (.int .i64 s.r) := by rw [row_cell hrow]; rfl
  have HL := Lib.hid (Array.getElem?_eq_some_iff.1 hrow).1
  have HB := Lib.hid hb1
  have HS := Lib.hid (h.below hb1)
  rw [Stm.val_cells]
  clear hrow hb1 h
  go_enter Try.func44, Try.ntmps44
  go_wp2_with fail
  clear hW1
  refine wp_region_sched (fun w' => w'.cell? ⟨w.heap.size, 0, none⟩ = some (.int .i64 s.t) ∧ w'.cell? ⟨w.heap.size, 1, none⟩ = some (.int .i64 s.r))
    [(true, 0), (true, 1), (true, 2), (true, 4), (true, 5), (false, 3), (false, 6), (true, 7)] (by kernel_rfl) (by kernel_rfl) rfl (by kernel_rfl) ⟨c0, c1⟩ ?_
  (repeat (first | (refine wpS_pass _ rfl (by rfl) ?_; simp only [Act.put, List.getElem_toArray, List.getElem_cons_zero, List.getElem_cons_succ, List.setIfInBounds_toArray, List.set_cons_zero, List.set_cons_succ]) | (refine wpS_take _ ?_ rfl (by rfl) ?_ ?_; rotate_left; (focus (intro w' hS'; (try dsimp only at hS'); (repeat (have hS1 := hS'.1; replace hS' := hS'.2)); go_simp; (try with_reducible rfl); done)); simp only [Act.put, List.getElem_toArray, List.getElem_cons_zero, List.getElem_cons_succ, List.setIfInBounds_toArray, List.set_cons_zero, List.set_cons_succ])))
  refine wpS_do _ rfl (by rfl) (fun K hK => ?_)
  go_simp
  refine (num_s v bs s.t _ (HS.out.below (Below.refl _ _).drew) (by omega)).mono ?_
  rintro e w2 ⟨v2, rfl, ho2⟩
  have hb12 : Below W1.heap.size W1 w2 := (Below.refl _ _).drew.trans ho2.bel
  refine hK.out _ _ ⟨cell_below c0 HL.out hb12, cell_below c1 HL.out hb12⟩ (fun hS => ?_)
  clear hK hS
  refine wpS_do _ rfl (by rfl) (fun K hK => ?_)
  go_simp
  refine (num_s v2 _ s.r _ ho2.sl (by have := (numB_len s.t).2; rw [List.length_append]; omega)).mono ?_
  rintro e w3 ⟨v3, rfl, ho3⟩
  have hb13 := hb12.trans (ho3.bel.mono hb12.size)
  refine hK.out _ _ ⟨cell_below c0 HL.out hb13, cell_below c1 HL.out hb13⟩ (fun hS => ?_)
  clear hK hS
  (repeat (first | (refine wpS_pass _ rfl (by rfl) ?_; simp only [Act.put, List.getElem_toArray, List.getElem_cons_zero, List.getElem_cons_succ, List.setIfInBounds_toArray, List.set_cons_zero, List.set_cons_succ]) | (refine wpS_take _ ?_ rfl (by rfl) ?_ ?_; rotate_left; (focus (intro w' hS'; (try dsimp only at hS'); (repeat (have hS1 := hS'.1; replace hS' := hS'.2)); go_simp; (try with_reducible rfl); done)); simp only [Act.put, List.getElem_toArray, List.getElem_cons_zero, List.getElem_cons_succ, List.setIfInBounds_toArray, List.set_cons_zero, List.set_cons_succ])))
  refine wpS_done ?_
  go_wp2_with fail
  go_ret
  refine ⟨v3, rfl, ?_⟩
  have := Own8.trans (HB.out.trans (hb12.mono HB.out.size)) (HB.out.trans (hb12.mono HB.out.size)).size ho3
  rw [List.append_assoc] at this
  exact this
end Go.Proofs.Ytabkgoandfpclaa
