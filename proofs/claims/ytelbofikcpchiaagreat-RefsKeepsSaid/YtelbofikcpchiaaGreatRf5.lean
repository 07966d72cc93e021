
/- Refs: empty, Head, check. -/

import Derived.Test.YtelbofikcpchiaaGreatRf4

namespace Go.Proofs.YtelbofikcpchiaaGreat

set_option linter.unusedVariables false

set_option linter.unusedSimpArgs false

set_option linter.unusedSectionVars false

open Go.RowKit

theorem z32_lit : (b8s Z32).toArray = #[Value.int .u8 0, Value.int .u8 0, Value.int .u8 0, Value.int .u8 0, Value.int .u8 0, Value.int .u8 0, Value.int .u8 0, Value.int .u8 0, Value.int .u8 0, Value.int .u8 0, Value.int .u8 0, Value.int .u8 0, Value.int .u8 0, Value.int .u8 0, Value.int .u8 0, Value.int .u8 0, Value.int .u8 0, Value.int .u8 0, Value.int .u8 0, Value.int .u8 0, Value.int .u8 0, Value.int .u8 0, Value.int .u8 0, Value.int .u8 0, Value.int .u8 0, Value.int .u8 0, Value.int .u8 0, Value.int .u8 0, Value.int .u8 0, Value.int .u8 0, Value.int .u8 0, Value.int .u8 0] := rfl
theorem z32_list : b8s Z32 = [Value.int .u8 0, Value.int .u8 0, Value.int .u8 0, Value.int .u8 0, Value.int .u8 0, Value.int .u8 0, Value.int .u8 0, Value.int .u8 0, Value.int .u8 0, Value.int .u8 0, Value.int .u8 0, Value.int .u8 0, Value.int .u8 0, Value.int .u8 0, Value.int .u8 0, Value.int .u8 0, Value.int .u8 0, Value.int .u8 0, Value.int .u8 0, Value.int .u8 0, Value.int .u8 0, Value.int .u8 0, Value.int .u8 0, Value.int .u8 0, Value.int .u8 0, Value.int .u8 0, Value.int .u8 0, Value.int .u8 0, Value.int .u8 0, Value.int .u8 0, Value.int .u8 0, Value.int .u8 0] := rfl
theorem id_eql (d e : List UInt8) (h : d.length = 32) (h' : e.length = 32) (w : World) : (binOp .eql 24 (.agg (b8s d).toArray) (.agg (b8s e).toArray)).run Tryz.prog w = .ok (.bool (decide (d = e))) w :=
  run_eql_ids (P := Tryz.prog) (t := 24) (e := 5) (n := 32) Tryz.underlying24 Tryz.underlying5 (by kernel_rfl) (by kernel_rfl) (by kernel_rfl) d e h h' w
theorem id_neq (d e : List UInt8) (h : d.length = 32) (h' : e.length = 32) (w : World) : (binOp .neq 24 (.agg (b8s d).toArray) (.agg (b8s e).toArray)).run Tryz.prog w = .ok (.bool (!decide (d = e))) w :=
  run_neq_ids (P := Tryz.prog) (t := 24) (e := 5) (n := 32) Tryz.underlying24 Tryz.underlying5 (by kernel_rfl) (by kernel_rfl) (by kernel_rfl) d e h h' w
theorem id_guard : Program.eqGuardType Tryz.prog Tryz.prog.depth 24 = false := by kernel_rfl

/-- a turn's cells -/
def txC (A : Option Addr) (n c : Nat) (t : TxM) : List Value := .slice A n c :: strV t.head :: b8s t.at_
structure TxOk (t : TxM) : Prop where
  al : t.at_.length = 32
  us : ∀ u ∈ t.us, upOk u
  hd : t.head.length ≤ 140737488355328
  ul : t.us.length ≤ 1000000
theorem txC_len {A : Option Addr} {n c : Nat} {t : TxM} (h : t.at_.length = 32) : (txC A n c t).length = 34 := by simp [txC, b8s_length, h]
theorem txC_one (A : Option Addr) (n c : Nat) (t : TxM) : ∀ v ∈ txC A n c t, v.oneCell' = true := by
  intro v hv
  simp only [txC, List.mem_cons] at hv
  rcases hv with rfl | rfl | hv
  · rfl
  · rfl
  · exact b8s_one' _ v hv
theorem info_txl {A : Option Addr} {n c : Nat} {t : TxM} (h : t.at_.length = 32) : (Tryz.prog.info? 28).map (·.size) = some (txC A n c t).length := by
  rw [txC_len h]
  kernel_rfl
theorem info_txa {A : Option Addr} {n c : Nat} {t : TxM} (h : t.at_.length = 32) : (Tryz.prog.info? 28).map (·.size) = some (txC A n c t).toArray.size := by
  rw [List.size_toArray, txC_len h]
  kernel_rfl
theorem info_upl {u : UpM} (h : upOk u) : (Tryz.prog.info? 31).map (·.size) = some (upC u).length := by
  rw [upC_len h]
  kernel_rfl
theorem info_upa {u : UpM} (h : upOk u) : (Tryz.prog.info? 31).map (·.size) = some (upC u).toArray.size := by
  rw [List.size_toArray, upC_len h]
  kernel_rfl
section

variable {w : World} {g : Nat} {A : Option Addr} {n c : Nat} {t : TxM} {u : UpM}

theorem tx_cells (h : w.heap[g]? = some (.cells (txC A n c t).toArray 28 (0, 0))) : w.cell? ⟨g, 0, none⟩ = some (.slice A n c) ∧ w.cell? ⟨g, 1, none⟩ = some (strV t.head) ∧ w.rangeAt g 2 (b8s t.at_) := by
  refine ⟨by rw [row_cell h 0]; rfl, by rw [row_cell h 1]; rfl, fun j v hv => ?_⟩
  rw [row_cell h]
  simp only [txC, List.getElem?_toArray]
  rw [show 2 + j = (j + 1) + 1 by omega, List.getElem?_cons_succ, List.getElem?_cons_succ]
  exact hv
theorem up_cells (h : w.heap[g]? = some (.cells (upC u).toArray 31 (0, 0))) (hk : upOk u) : w.cell? ⟨g, 0, none⟩ = some (strV u.name) ∧ w.rangeAt g 1 (b8s u.old) ∧ w.rangeAt g 33 (b8s u.new) := by
  have hl : (b8s u.old).length = 32 := by rw [b8s_length, hk.1]
  refine ⟨by rw [row_cell h 0]; rfl, fun j v hv => ?_, fun j v hv => ?_⟩
  · rw [row_cell h]
    have hj := (List.getElem?_eq_some_iff.1 hv).1
    simp only [upC, List.getElem?_toArray]
    rw [show 1 + j = j + 1 by omega, List.getElem?_cons_succ, List.getElem?_append_left hj]
    exact hv
  · rw [row_cell h]
    simp only [upC, List.getElem?_toArray]
    rw [show 33 + j = (32 + j) + 1 by omega, List.getElem?_cons_succ, List.getElem?_append_right (by omega), hl, show 32 + j - 32 = j by omega]
    exact hv
end

set_option maxRecDepth 100000 in
set_option maxHeartbeats 2000000 in
theorem empty_any (A : Option Addr) (n c : Nat) (t : TxM) (hn : t.us.length = n) (hnl : n ≤ 1000000) (ht : t.at_.length = 32) (w : World) :
    Calls Tryz.prog 33 #[.agg (txC A n c t).toArray] w fun e w' => e = .returned (.bool (emptyT t)) ∧ Below w.heap.size w w' := by
  obtain ⟨g, hg⟩ : ∃ g, w.heap.size = g := ⟨_, rfl⟩
  obtain ⟨W1, hW1⟩ : ∃ W, w.alloc (.cells (txC A n c t).toArray 28) = W := ⟨_, rfl⟩
  obtain ⟨r1, b1, s1⟩ := new_row hW1
  rw [hg] at r1
  obtain ⟨c0, c1, c2⟩ := tx_cells r1
  have HB1 := Lib.hid b1
  have HC2 := Lib.hid c2
  obtain ⟨X, hX, hXs⟩ : ∃ X : ByteArray, strV t.head = .string X ∧ X.data.toList = t.head := ⟨_, rfl, rfl⟩
  rw [hX] at c1
  have hem : X.toList.isEmpty = decide (t.head = []) := by
    rw [tl_data, hXs]
    cases t.head <;> rfl
  have HIA := Lib.hid (info_idl t.at_ ht)
  have hz := id_eql t.at_ Z32 ht rfl
  have hgd := id_guard
  obtain ⟨lt, hlt⟩ : ∃ l, txC A n c t = l := ⟨_, rfl⟩
  have he : emptyT t = (decide (n = 0) && decide (t.head = []) && decide (t.at_ = Z32)) := by
    unfold emptyT
    rw [show decide (t.us = []) = decide (n = 0) by rw [← hn, decide_eq_decide]; exact List.length_eq_zero_iff.symm]
  rw [he]
  obtain ⟨qh, hqh⟩ : ∃ q, decide (t.head = []) = q := ⟨_, rfl⟩
  obtain ⟨qa, hqa⟩ : ∃ q, decide (t.at_ = Z32) = q := ⟨_, rfl⟩
  rw [hqh] at hem ⊢
  rw [hqa] at hz ⊢
  rw [z32_lit] at hz
  obtain ⟨ia, hia⟩ : ∃ ia, b8s t.at_ = ia := ⟨_, rfl⟩
  rw [hia] at hz HC2 HIA
  rw [hlt] at hW1 ⊢
  clear hlt he hqh hqa hX hXs b1 r1 s1 c2 hia hn
  by_cases h0 : n = 0
  · subst h0
    replace c0 : W1.cell? ⟨g, 0, none⟩ = some (.slice A 0 c) := c0
    cases qh with
    | true =>
      go_enter Tryz.func33, Tryz.ntmps33
      go_wp2_with ((with_reducible (refine wpList_load_cells 24 _ g 2 ia HC2.out Tryz.underlying24 rfl HIA.out ?_ rfl ?_ ?_)); (exact rfl); (exact rfl))
      go_ret
      exact ⟨by cases qa <;> rfl, by first | exact HB1.out | (rw [← hg]; exact HB1.out)⟩
    | false =>
      go_enter Tryz.func33, Tryz.ntmps33
      go_wp2_with fail
      go_ret
      exact ⟨rfl, by first | exact HB1.out | (rw [← hg]; exact HB1.out)⟩
  · have z0 : ((n : Int) == 0) = false := by rw [beq_eq_false_iff_ne]; omega
    go_enter Tryz.func33, Tryz.ntmps33
    go_wp2_with fail
    go_ret
    exact ⟨by rw [decide_eq_false h0]; rfl, by first | exact HB1.out | (rw [← hg]; exact HB1.out)⟩
end Go.Proofs.YtelbofikcpchiaaGreat
