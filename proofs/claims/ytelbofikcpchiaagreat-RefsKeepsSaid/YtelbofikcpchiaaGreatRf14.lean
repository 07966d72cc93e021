
/- Refs: Do. -/

import Derived.Test.YtelbofikcpchiaaGreatRf13

namespace Go.Proofs.YtelbofikcpchiaaGreat

set_option linter.unusedVariables false

set_option linter.unusedSimpArgs false

set_option linter.unusedSectionVars false

open Go.RowKit

set_option maxRecDepth 100000 in
set_option maxHeartbeats 8000000 in
/-- a turn that is wrong: nothing is done -/
theorem do_bad {N gr g : Nat} {w : World} {r : RfM} {q : QA} (h : RfIn N w gr g r q) (hk : RfOk r) (A : Option Addr) (n c : Nat) (t : TxM) (hn : t.us.length = n) (ht : TxOk t) (hr : Rd w A (upsC t.us)) {z : Int} (hz : checkR r t = z) (h0 : z ≠ 0) :
    Calls Tryz.prog 10 #[.pointer (some ⟨gr, 0, none⟩), .agg (txC A n c t).toArray] w fun e w' => e = .returned (.int .i64 z) ∧ Below w.heap.size w w' := by
  obtain ⟨g1, hg⟩ : ∃ g, w.heap.size = g := ⟨_, rfl⟩
  obtain ⟨W1, hW1⟩ : ∃ W, w.alloc (.cells (txC A n c t).toArray 28) = W := ⟨_, rfl⟩
  obtain ⟨r1, b1, s1⟩ := new_row hW1
  rw [hg] at r1
  have HB1 := Lib.hid b1
  have HRG := Lib.hid (range_of_row r1)
  have HIL := Lib.hid (info_txl (A := A) (n := n) (c := c) ht.al)
  have HCK := Lib.hid (check_any (h.below b1) hk A n c t hn ht (hr.below b1))
  rw [hz] at HCK
  obtain ⟨lt, hlt⟩ : ∃ l, txC A n c t = l := ⟨_, rfl⟩
  rw [hlt] at hW1 HRG HIL HCK ⊢
  have z0 : ¬ z = 0 := h0
  clear h hk hn ht b1 s1 r1 hlt hr hz h0
  go_enter Tryz.func10, Tryz.ntmps10
  go_wp2_with (first
    | ((with_reducible (refine wpList_load_cells 28 _ g1 0 (lt) HRG.out Tryz.underlying28 rfl HIL.out ?_ rfl ?_ ?_)); (exact rfl); (exact rfl)))
  refine HCK.out.mono ?_
  rintro e w2 ⟨rfl, hb2⟩
  have HB2 := Lib.hid (HB1.out.trans (hb2.mono HB1.out.size))
  clear hb2 hW1
  go_wp2_with fail
  go_ret
  exact ⟨rfl, by first | exact HB2.out | (rw [← hg]; exact HB2.out)⟩

set_option maxRecDepth 100000 in
set_option maxHeartbeats 8000000 in
/-- a turn that says nothing: nothing is done -/
theorem do_empty {N gr g : Nat} {w : World} {r : RfM} {q : QA} (h : RfIn N w gr g r q) (hk : RfOk r) (A : Option Addr) (n c : Nat) (t : TxM) (hn : t.us.length = n) (ht : TxOk t) (hr : Rd w A (upsC t.us)) (hz : checkR r t = 0) (he : emptyT t = true) :
    Calls Tryz.prog 10 #[.pointer (some ⟨gr, 0, none⟩), .agg (txC A n c t).toArray] w fun e w' => e = .returned (.int .i64 0) ∧ Below w.heap.size w w' := by
  obtain ⟨g1, hg⟩ : ∃ g, w.heap.size = g := ⟨_, rfl⟩
  obtain ⟨W1, hW1⟩ : ∃ W, w.alloc (.cells (txC A n c t).toArray 28) = W := ⟨_, rfl⟩
  obtain ⟨r1, b1, s1⟩ := new_row hW1
  rw [hg] at r1
  have HB1 := Lib.hid b1
  have HR1 := Lib.hid r1
  have HRG := Lib.hid (range_of_row r1)
  have HIL := Lib.hid (info_txl (A := A) (n := n) (c := c) ht.al)
  have HIA := Lib.hid (info_txa (A := A) (n := n) (c := c) ht.al)
  have HCK := Lib.hid (check_any (h.below b1) hk A n c t hn ht (hr.below b1))
  have HEM : Hid (∀ W, _) := Lib.hid (fun W => empty_any A n c t hn (by have := ht.ul; omega) ht.al W)
  rw [hz] at HCK
  obtain ⟨lt, hlt⟩ : ∃ l, txC A n c t = l := ⟨_, rfl⟩
  rw [hlt, he] at HEM
  rw [hlt] at hW1 HRG HIL HCK HIA HR1 ⊢
  clear h hk hn ht b1 s1 r1 hlt hr hz he
  go_enter Tryz.func10, Tryz.ntmps10
  go_wp2_with (first
    | ((with_reducible (refine wpList_load_cells 28 _ g1 0 (lt) HRG.out Tryz.underlying28 rfl HIL.out ?_ rfl ?_ ?_)); (exact rfl); (exact rfl)))
  refine HCK.out.mono ?_
  rintro e w2 ⟨rfl, hb2⟩
  have HB2 := Lib.hid (HB1.out.trans (hb2.mono HB1.out.size))
  have HR2 := Lib.hid ((hb2.block _ (Array.getElem?_eq_some_iff.1 HR1.out).1).trans HR1.out)
  clear hb2 hW1
  go_wp2_with ((with_reducible (refine wpList_load_row_w _ _ rfl _ rfl _ _ _ _ HR2.out Tryz.underlying28 rfl HIA.out ?_ ?_)); (focus (rfl)))
  refine (HEM.out w2).mono ?_
  rintro e w3 ⟨rfl, hb3⟩
  have HB3 := Lib.hid (HB2.out.trans (hb3.mono HB2.out.size))
  clear hb3
  go_wp2_with fail
  go_ret
  exact ⟨rfl, by first | exact HB3.out | (rw [← hg]; exact HB3.out)⟩
end Go.Proofs.YtelbofikcpchiaaGreat
