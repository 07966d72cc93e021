
/- Hex and Parse, the program's and the document's. -/

import Derived.Test.YtkiggfahcakdeaaShaHexM

import Derived.Test.YtkiggfahcakdeaaRowK

import Derived.Deep.LoopGhost

namespace Go.Proofs.Ytkiggfahcakdeaa

set_option linter.unusedVariables false

set_option linter.unusedSimpArgs false

open Go.RowKit

/-! ### digits -/

theorem ret_i64 {k : IntKind} {a b : Int} (h : a = b) : Ending.returned (.int k a) = .returned (.int k b) := by rw [h]
def digS : ByteArray := ⟨#[48, 49, 50, 51, 52, 53, 54, 55, 56, 57, 97, 98, 99, 100, 101, 102]⟩
theorem index_str {P : Program} {t : TypeId} {s : ByteArray} {c : UInt8} (n : Nat) (k : IntKind) (w : World) (h : P.underlying t = some .string) (hs : s[n]? = some c) : (Instr.index t (.string s) (.int k (n : Int))).run P w = .ok (.int .u8 (c.toNat : Int)) w := by
  simp [Instr.index, asIntOf, run_underlying h, hs]
theorem index_dig (n : Nat) (h : n < 16) (k : IntKind) (w : World) : (Instr.index 9 (.string digS) (.int k (n : Int))).run Try.prog w = .ok (.int .u8 ((dg n).toNat : Int)) w := by
  refine index_str n k w Try.underlying9 ?_
  have : ∀ n < 16, digS[n]? = some (dg n) := by decide +kernel
  exact this n h
theorem dig_at (n : Nat) (h : n < 16) (h' : n < (⟨#[48, 49, 50, 51, 52, 53, 54, 55, 56, 57, 97, 98, 99, 100, 101, 102]⟩ : ByteArray).size) : (⟨#[48, 49, 50, 51, 52, 53, 54, 55, 56, 57, 97, 98, 99, 100, 101, 102]⟩ : ByteArray)[n]'h' = dg n := dg_get n h
/-- an array's element -/
theorem index_arr {P : Program} {t e : TypeId} {N : Nat} {l : List UInt8} (n : Nat) (k : IntKind) (w : World) (ht : P.underlying t = some (.array N e)) (hi : (P.info? e).map (·.size) = some 1) (hk : P.plainKey e = true) (hl : l.length = N) (hn : n < l.length) :
    (Instr.index t (.agg (b8s l).toArray) (.int k (n : Int))).run P w = .ok (.int .u8 (l[n].toNat : Int)) w := by
  obtain ⟨j, hj, hjs⟩ := Option.map_eq_some_iff.1 hi
  have h1 := run_part_plain (P := P) w (e := e) (xs := (b8s l).toArray) (off := n * 1) (v := .int .u8 (l[n].toNat : Int)) hk (by rw [Nat.mul_one]; simp [b8s, hn])
  have h2 : (n : Int) < (N : Int) := by omega
  simp only [Nat.mul_one] at h1
  have h3 : ¬ N ≤ n := by omega
  simp [Instr.index, asIntOf, run_underlying ht, h2, h3, sizeOf, typeInfo, hj, hjs, h1]

set_option maxRecDepth 100000 in
theorem unhex_any (c : UInt8) (w : World) : Calls Try.prog 30 #[.int .u8 (c.toNat : Int)] w fun e w' => w = w' ∧ e = .returned (.int .i64 (ud c)) := by
  have hlt := c.toNat_lt
  by_cases h1 : 48 ≤ c.toNat ∧ c.toNat ≤ 57
  · have hu : ud c = c.toNat - 48 := by unfold ud; rw [if_pos h1]
    obtain ⟨h2, h3⟩ := h1
    have h2' : (48 : Int) ≤ (c.toNat : Int) := by omega
    have h3' : (c.toNat : Int) ≤ 57 := by omega
    have HU := Lib.hid hu
    clear hu
    go_enter Try.func30, Try.ntmps30
    go_wp2
    go_ret
    exact ⟨rfl, ret_i64 (by rw [HU.out])⟩
  · have hn : ¬ (48 ≤ c.toNat ∧ c.toNat ≤ 57) := h1
    by_cases h4 : 97 ≤ c.toNat ∧ c.toNat ≤ 102
    · have hu : ud c = c.toNat - 87 := by unfold ud; rw [if_neg h1, if_pos h4]
      obtain ⟨h2, h3⟩ := h4
      have h2' : (97 : Int) ≤ (c.toNat : Int) := by omega
      have h3' : (c.toNat : Int) ≤ 102 := by omega
      have h4' : (48 : Int) ≤ (c.toNat : Int) := by omega
      have h5' : ¬ (c.toNat : Int) ≤ 57 := by omega
      have HU := Lib.hid hu
      clear hu h1 hn
      go_enter Try.func30, Try.ntmps30
      go_wp2
      go_ret
      exact ⟨rfl, ret_i64 (by rw [HU.out]; omega)⟩
    · have hu : ud c = -1 := by unfold ud; rw [if_neg h1, if_neg h4]
      rw [hu]
      have h5 : c.toNat < 48 ∨ (57 < c.toNat ∧ c.toNat < 97) ∨ 102 < c.toNat := by omega
      clear h1 hn h4 hu
      rcases h5 with h5 | ⟨h5, h6⟩ | h5
      · have e1 : ¬ (48 : Int) ≤ (c.toNat : Int) := by omega
        have e2 : ¬ (97 : Int) ≤ (c.toNat : Int) := by omega
        go_enter Try.func30, Try.ntmps30
        go_wp2
        go_ret
        exact ⟨rfl, rfl⟩
      · have e1 : (48 : Int) ≤ (c.toNat : Int) := by omega
        have e2 : ¬ (c.toNat : Int) ≤ 57 := by omega
        have e3 : ¬ (97 : Int) ≤ (c.toNat : Int) := by omega
        go_enter Try.func30, Try.ntmps30
        go_wp2
        go_ret
        exact ⟨rfl, rfl⟩
      · have e1 : (48 : Int) ≤ (c.toNat : Int) := by omega
        have e2 : ¬ (c.toNat : Int) ≤ 57 := by omega
        have e3 : (97 : Int) ≤ (c.toNat : Int) := by omega
        have e4 : ¬ (c.toNat : Int) ≤ 102 := by omega
        go_enter Try.func30, Try.ntmps30
        go_wp2
        go_ret
        exact ⟨rfl, rfl⟩

/-! ### Hex -/

theorem info_id : (Try.prog.info? 23).map (·.size) = some 32 := by kernel_rfl
theorem info_arr : (Try.prog.info? 22).map (·.size) = some 32 := by kernel_rfl
theorem u8_nib (c : UInt8) : ((c.toNat : Int) / 2 ^ 4 = ((c.toNat / 16 : Nat) : Int)) ∧ bits .and .u8 (c.toNat : Int) 15 = ((c.toNat % 16 : Nat) : Int) := by
  have hlt := c.toNat_lt
  refine ⟨by omega, ?_⟩
  have h : (15 : Int) = ((15 : Nat) : Int) := rfl
  have hb : ∀ x, x < 256 → x &&& 15 = x % 16 := by decide +kernel
  rw [h, u8_and_nat _ _ hlt (by omega), hb _ hlt]

set_option maxRecDepth 100000 in
set_option maxHeartbeats 1000000 in
theorem hex_any (id : List UInt8) (hid : id.length = 32) (w : World) :
    Calls Try.prog 11 #[.agg (b8s id).toArray] w fun e w' => e = .returned (.string ⟨(hexL id).toArray⟩) ∧ Below w.heap.size w w' := by
  obtain ⟨W0, hW0⟩ : ∃ W0 : World, w.alloc (.cells (b8s id).toArray 23) = W0 := ⟨_, rfl⟩
  have hnew : W0.heap[w.heap.size]? = some (.cells (b8s id).toArray 23 (0, 0)) := by rw [← hW0]; exact heap_alloc_new w _
  have hB : Below w.heap.size w W0 := by rw [← hW0]; exact (Below.refl _ _).alloc (Nat.le_refl _) _
  have hbld := Lib.fresh_isBuilder 55 5 W0
  have hnew1 : (W0.alloc (.cells #[.pointer none, .slice none 0 0] 55)).heap[w.heap.size]? = _ := (heap_alloc_old W0 _ (Array.getElem?_eq_some_iff.1 hnew).1).trans hnew
  have hb1 : Below W0.heap.size W0 (W0.alloc (.cells #[.pointer none, .slice none 0 0] 55)) := (Below.refl _ _).alloc (Nat.le_refl _) _
  have hinf : (Try.prog.info? 23).map (·.size) = some (b8s id).toArray.size := by
    have e : (b8s id).toArray.size = 32 := by simp [b8s, hid]
    rw [e]; exact info_id
  have HN := Lib.hid hnew1
  have HB := Lib.hid hB
  have HBL := Lib.hid hbld
  have HB1 := Lib.hid hb1
  have Hinf := Lib.hid hinf
  clear hnew hB hbld hnew1 hb1 hinf
  go_enter Try.func11, Try.ntmps11
  go_wp2_with (refine wpList_load_row rfl _ _ rfl _ rfl _ _ _ _ HN.out Try.underlying23 rfl Hinf.out ?_)
  clear hW0
  go_loopg [7] 32 (fun gk i wr => ∃ (k : Nat), k ≤ 32 ∧ gk = 32 - k ∧ i = .int .i64 k ∧ Hid (Lib.IsBuilder 55 5 W0.heap.size W0.heap.size (b8s (hexL (id.take k))) wr) ∧ Below W0.heap.size W0 wr)
  case atStart => exact ⟨0, by omega, by omega, rfl, HBL, HB1.out⟩
  case round =>
    clear HBL HB1 HN
    obtain ⟨k, hk, rfl, rfl, HBL, hbel⟩ := hrel
    by_cases hlt : k < 32
    · have hkl : k < id.length := by omega
      have hix := fun w => index_arr (P := Try.prog) (t := 23) (e := 5) (N := 32) (l := id) k .i64 w Try.underlying23 (by kernel_rfl) (by kernel_rfl) hid hkl
      have htk := hexL_take id k hkl
      obtain ⟨hn1, hn2⟩ := u8_nib id[k]
      have hl16 : id[k].toNat / 16 < 16 := by have := id[k].toNat_lt; omega
      have hm16 : id[k].toNat % 16 < 16 := by omega
      have hd1 := fun w => index_dig (id[k].toNat / 16) hl16 .u8 w
      have hd2 := fun w => index_dig (id[k].toNat % 16) hm16 .u8 w
      have HTK := Lib.hid htk
      clear htk
      have hsz := hbel.size
      have hll : (b8s (hexL (id.take k))).length + 2 ≤ 140737488355328 := by
        rw [b8s_length, hexL_len, List.length_take]; omega
      have Hll := Lib.hid hll
      clear hll
      go_wp2_with fail
      refine (writeByte_any W0.heap.size W0.heap.size _ _ wr HBL.out (by have := Hll.out; omega) hsz).mono ?_
      rintro e w1 ⟨rfl, h1, hb1⟩
      rw [dig_at _ hl16] at h1 ⊢
      have H1 := Lib.hid h1
      have hb1' := hbel.trans hb1
      clear h1 hb1
      go_wp2_with fail
      refine (writeByte_any W0.heap.size W0.heap.size _ _ w1 (.inr H1.out) (by have := Hll.out; rw [List.length_append]; simp; omega) hb1'.size).mono ?_
      rintro e w2 ⟨rfl, h2, hb2⟩
      rw [dig_at _ hm16] at h2 ⊢
      have hb2' := hb1'.trans hb2
      have H2 : Hid (Lib.IsBuilder 55 5 W0.heap.size W0.heap.size (b8s (hexL (id.take (k + 1)))) w2) := Lib.hid (by
        rw [HTK.out, b8s_append]
        rw [List.append_assoc] at h2
        exact .inr h2)
      clear h2 hb2
      go_wp2_with fail
      go_roundg (32 - (k + 1))
      case measure => omega
      case rel => exact ⟨k + 1, by omega, rfl, by go_num, H2, hb2'⟩
    obtain rfl : k = 32 := by omega
    rw [← hid, List.take_length] at HBL
    go_wp2_with fail
    refine (string_any W0.heap.size W0.heap.size _ wr HBL.out (by intro h; have := congrArg List.length h; rw [hexL_len, hid] at this; simp at this)).mono ?_
    rintro e w1 ⟨rfl, hb1⟩
    go_wp2_with fail
    go_ret
    exact ⟨rfl, ext_trans HB.out (hbel.trans hb1)⟩

theorem exec_index {P : Program} {a : Act} {o : Oper} {w : World} (T : TypeId) (x i : Operand) (ho : o.op = .index T x i) (X I V : Value) (hx : a.eval x = X) (hi : a.eval i = I) (h : (Instr.index T X I).run P w = .ok V w) : (execOp a.eval o).run P w = .ok (.value V) w := by
  simp [execOp, ho, hx, hi, h]
theorem exec_bin {P : Program} {a : Act} {o : Oper} {w : World} (b : BinOp) (T U : TypeId) (x y : Operand) (ho : o.op = .binOp b T x y U) (X Y V : Value) (hx : a.eval x = X) (hy : a.eval y = Y) (hg : (eqGuard b T x y X Y).run P w = .ok () w) (h : (binOp b T X Y).run P w = .ok V w) : (execOp a.eval o).run P w = .ok (.value V) w := by
  simp [execOp, ho, hx, hy, h, hg]
theorem quo16 (c : UInt8) (w : World) : (binOp .quo 5 (.int .u8 (c.toNat : Int)) (.int .u8 16)).run Try.prog w = .ok (.int .u8 ((c.toNat / 16 : Nat) : Int)) w := by
  refine of256 (p := fun c => (binOp .quo 5 (.int .u8 (c.toNat : Int)) (.int .u8 16)).run Try.prog w = .ok (.int .u8 ((c.toNat / 16 : Nat) : Int)) w) ?_ c
  intro n hn
  have hlt : (UInt8.ofNat n).toNat < 256 := (UInt8.ofNat n).toNat_lt
  generalize (UInt8.ofNat n).toNat = m at *
  have h1 : Int.tdiv (m : Int) 16 = ((m / 16 : Nat) : Int) := by rw [Int.tdiv_eq_ediv_of_nonneg (by omega)]; omega
  have h2 : IntKind.u8.wrap ((m / 16 : Nat) : Int) = ((m / 16 : Nat) : Int) := by
    have : m / 16 < 16 := by omega
    simp [IntKind.wrap, IntKind.signed, IntKind.bits]; omega
  have h3 : ((m / 16 : Nat) : Int) = (m : Int) / 16 := by omega
  rw [h3] at h2
  simp [binOp, go_sem, h1, h2, h3]
theorem rem16 (c : UInt8) (w : World) : (binOp .rem 5 (.int .u8 (c.toNat : Int)) (.int .u8 16)).run Try.prog w = .ok (.int .u8 ((c.toNat % 16 : Nat) : Int)) w := by
  have hlt := c.toNat_lt
  generalize c.toNat = m at *
  have h1 : Int.tmod (m : Int) 16 = ((m % 16 : Nat) : Int) := by rw [Int.tmod_eq_emod_of_nonneg (by omega)]; omega
  have h2 : IntKind.u8.wrap ((m % 16 : Nat) : Int) = ((m % 16 : Nat) : Int) := by
    have : m % 16 < 16 := by omega
    simp [IntKind.wrap, IntKind.signed, IntKind.bits]; omega
  simp [binOp, go_sem, h1, h2]
theorem Own8.appended2 {N : Nat} {w0 w1 w2 : World} {v v2 : Value} {xs ys : List UInt8} (h : Own8 N w0 w1 v xs) (o : Obj) (m : Nat) (h2 : w2.ownsRow N 5 1 v2 (xs.length + m) (b8s xs ++ b8s ys)) (hm : m = ys.length)
    (hg : (w1.alloc o).grownBy w2 v.ownBlock) : Own8 N w0 w2 v2 (xs ++ ys) :=
  (h.later ((Below.refl _ _).alloc (Nat.le_refl _) o)).appended h2 hm hg

set_option maxRecDepth 100000 in
set_option maxHeartbeats 1000000 in
theorem rhex_any (id : List UInt8) (hid : id.length = 32) (w : World) :
    Calls Try.prog 12 #[.agg (b8s id).toArray] w fun e w' => e = .returned (.string ⟨(hexL id).toArray⟩) ∧ Below w.heap.size w w' := by
  obtain ⟨W0, hW0⟩ : ∃ W0 : World, w.alloc (.cells (b8s id).toArray 22) = W0 := ⟨_, rfl⟩
  have hnew : W0.heap[w.heap.size]? = some (.cells (b8s id).toArray 22 (0, 0)) := by rw [← hW0]; exact heap_alloc_new w _
  have hB : Below w.heap.size w W0 := by rw [← hW0]; exact (Below.refl _ _).alloc (Nat.le_refl _) _
  have hst := Own8.start W0
  have HN := Lib.hid hnew
  have HB := Lib.hid hB
  have HST := Lib.hid hst
  have hlt0 := (Array.getElem?_eq_some_iff.1 hnew).1
  clear hnew hB hst
  go_enter Try.func12, Try.ntmps12
  go_wp2_with fail
  clear hW0
  go_loopg [3, 4] 32 (fun gk v i wr => ∃ (k : Nat), k ≤ 32 ∧ gk = 32 - k ∧ i = .int .i64 k ∧ Own8 W0.heap.size W0 wr v (hexL (id.take k)))
  case atStart => exact ⟨0, by omega, by omega, rfl, HST.out⟩
  case round =>
    clear HST
    obtain ⟨k, hk, rfl, rfl, hown⟩ := hrel
    have hll : (hexL (id.take k)).length + 2 ≤ 140737488355328 := by
      rw [hexL_len, List.length_take]; omega
    by_cases hlt : k < 32
    · have hkl : k < id.length := by omega
      have htk := hexL_take id k hkl
      have hl16 : id[k].toNat / 16 < 16 := by have := id[k].toNat_lt; omega
      have hm16 : id[k].toNat % 16 < 16 := by omega
      have hrow := (hown.bel.block _ hlt0).trans HN.out
      have hcell : wr.cell? ⟨w.heap.size, k, none⟩ = some (.int .u8 (id[k].toNat : Int)) := by
        rw [row_cell hrow]; simp [b8s, hkl]
      have hq := quo16 id[k]
      have hr := rem16 id[k]
      have hd1 := fun w => index_dig (id[k].toNat / 16) hl16 .u8 w
      have hd2 := fun w => index_dig (id[k].toNat % 16) hm16 .u8 w
      have HTK := Lib.hid htk
      have HLL := Lib.hid hll
      have HROW := Lib.hid hrow
      have HOWN := Lib.hid hown
      obtain ⟨A, n, c, rfl, hn, _⟩ := hown.sliceN
      have Hn := Lib.hid hn
      clear htk hll hrow hn hown
      go_wp2_with fail
      refine wp_region_sched (fun w' => w'.cell? ⟨w.heap.size, k, none⟩ = some (.int .u8 (id[k].toNat : Int))) [(true, 0), (true, 1), (true, 2), (true, 3), (true, 4), (true, 5), (true, 6), (true, 7), (true, 8), (true, 9), (true, 10), (false, 11), (false, 12), (true, 13)] (by kernel_rfl) (by kernel_rfl) rfl (by kernel_rfl) (by simpa using hcell) ?_
      (first | (refine wpS_pass _ rfl (by rfl) ?_; simp only [Act.put, List.getElem_toArray, List.getElem_cons_zero, List.getElem_cons_succ, List.setIfInBounds_toArray, List.set_cons_zero, List.set_cons_succ]) | (refine wpS_take _ ?_ rfl (by rfl) ?_ ?_; rotate_left; (focus (intro w' hS'; (try dsimp only at hS'); (repeat (have hS1 := hS'.1; replace hS' := hS'.2)); go_simp; (try with_reducible rfl); done)); simp only [Act.put, List.getElem_toArray, List.getElem_cons_zero, List.getElem_cons_succ, List.setIfInBounds_toArray, List.set_cons_zero, List.set_cons_succ]))
      (first | (refine wpS_pass _ rfl (by rfl) ?_; simp only [Act.put, List.getElem_toArray, List.getElem_cons_zero, List.getElem_cons_succ, List.setIfInBounds_toArray, List.set_cons_zero, List.set_cons_succ]) | (refine wpS_take _ ?_ rfl (by rfl) ?_ ?_; rotate_left; (focus (intro w' hS'; (try dsimp only at hS'); (repeat (have hS1 := hS'.1; replace hS' := hS'.2)); go_simp; (try with_reducible rfl); done)); simp only [Act.put, List.getElem_toArray, List.getElem_cons_zero, List.getElem_cons_succ, List.setIfInBounds_toArray, List.set_cons_zero, List.set_cons_succ]))
      (first | (refine wpS_pass _ rfl (by rfl) ?_; simp only [Act.put, List.getElem_toArray, List.getElem_cons_zero, List.getElem_cons_succ, List.setIfInBounds_toArray, List.set_cons_zero, List.set_cons_succ]) | (refine wpS_take _ ?_ rfl (by rfl) ?_ ?_; rotate_left; (focus (intro w' hS'; (try dsimp only at hS'); (repeat (have hS1 := hS'.1; replace hS' := hS'.2)); go_simp; (try with_reducible rfl); done)); simp only [Act.put, List.getElem_toArray, List.getElem_cons_zero, List.getElem_cons_succ, List.setIfInBounds_toArray, List.set_cons_zero, List.set_cons_succ]))
      (first | (refine wpS_pass _ rfl (by rfl) ?_; simp only [Act.put, List.getElem_toArray, List.getElem_cons_zero, List.getElem_cons_succ, List.setIfInBounds_toArray, List.set_cons_zero, List.set_cons_succ]) | (refine wpS_take _ ?_ rfl (by rfl) ?_ ?_; rotate_left; (focus (intro w' hS'; (try dsimp only at hS'); (repeat (have hS1 := hS'.1; replace hS' := hS'.2)); go_simp; (try with_reducible rfl); done)); simp only [Act.put, List.getElem_toArray, List.getElem_cons_zero, List.getElem_cons_succ, List.setIfInBounds_toArray, List.set_cons_zero, List.set_cons_succ]))
      refine wpS_take _ _ rfl (by rfl) (fun w' hS' => exec_bin _ _ _ _ _ rfl _ _ _ rfl rfl rfl (hq w')) ?_
      simp only [Act.put, List.getElem_toArray, List.getElem_cons_zero, List.getElem_cons_succ, List.setIfInBounds_toArray, List.set_cons_zero, List.set_cons_succ]
      refine wpS_take _ _ rfl (by rfl) (fun w' hS' => exec_index _ _ _ rfl _ _ _ rfl rfl (hd1 w')) ?_
      simp only [Act.put, List.getElem_toArray, List.getElem_cons_zero, List.getElem_cons_succ, List.setIfInBounds_toArray, List.set_cons_zero, List.set_cons_succ]
      (first | (refine wpS_pass _ rfl (by rfl) ?_; simp only [Act.put, List.getElem_toArray, List.getElem_cons_zero, List.getElem_cons_succ, List.setIfInBounds_toArray, List.set_cons_zero, List.set_cons_succ]) | (refine wpS_take _ ?_ rfl (by rfl) ?_ ?_; rotate_left; (focus (intro w' hS'; (try dsimp only at hS'); (repeat (have hS1 := hS'.1; replace hS' := hS'.2)); go_simp; (try with_reducible rfl); done)); simp only [Act.put, List.getElem_toArray, List.getElem_cons_zero, List.getElem_cons_succ, List.setIfInBounds_toArray, List.set_cons_zero, List.set_cons_succ]))
      (first | (refine wpS_pass _ rfl (by rfl) ?_; simp only [Act.put, List.getElem_toArray, List.getElem_cons_zero, List.getElem_cons_succ, List.setIfInBounds_toArray, List.set_cons_zero, List.set_cons_succ]) | (refine wpS_take _ ?_ rfl (by rfl) ?_ ?_; rotate_left; (focus (intro w' hS'; (try dsimp only at hS'); (repeat (have hS1 := hS'.1; replace hS' := hS'.2)); go_simp; (try with_reducible rfl); done)); simp only [Act.put, List.getElem_toArray, List.getElem_cons_zero, List.getElem_cons_succ, List.setIfInBounds_toArray, List.set_cons_zero, List.set_cons_succ]))
      (first | (refine wpS_pass _ rfl (by rfl) ?_; simp only [Act.put, List.getElem_toArray, List.getElem_cons_zero, List.getElem_cons_succ, List.setIfInBounds_toArray, List.set_cons_zero, List.set_cons_succ]) | (refine wpS_take _ ?_ rfl (by rfl) ?_ ?_; rotate_left; (focus (intro w' hS'; (try dsimp only at hS'); (repeat (have hS1 := hS'.1; replace hS' := hS'.2)); go_simp; (try with_reducible rfl); done)); simp only [Act.put, List.getElem_toArray, List.getElem_cons_zero, List.getElem_cons_succ, List.setIfInBounds_toArray, List.set_cons_zero, List.set_cons_succ]))
      refine wpS_take _ _ rfl (by rfl) (fun w' hS' => exec_bin _ _ _ _ _ rfl _ _ _ rfl rfl rfl (hr w')) ?_
      simp only [Act.put, List.getElem_toArray, List.getElem_cons_zero, List.getElem_cons_succ, List.setIfInBounds_toArray, List.set_cons_zero, List.set_cons_succ]
      refine wpS_take _ _ rfl (by rfl) (fun w' hS' => exec_index _ _ _ rfl _ _ _ rfl rfl (hd2 w')) ?_
      simp only [Act.put, List.getElem_toArray, List.getElem_cons_zero, List.getElem_cons_succ, List.setIfInBounds_toArray, List.set_cons_zero, List.set_cons_succ]
      clear hd1 hd2 hq hr
      refine wpS_do _ rfl (by rfl) (fun K hK => ?_)
      go_simp
      have hown := HOWN.out
      have hb2 : Below wr.heap.size wr (wr.alloc (.cells #[.int .u8 ((dg (id[k].toNat / 16)).toNat : Int), .int .u8 ((dg (id[k].toNat % 16)).toNat : Int)] 5)).drew := ((Below.refl _ _).alloc (Nat.le_refl _) _).drew
      have hrd : Rd (wr.alloc (.cells #[.int .u8 ((dg (id[k].toNat / 16)).toNat : Int), .int .u8 ((dg (id[k].toNat % 16)).toNat : Int)] 5)).drew (some ⟨wr.heap.size, 0, none⟩) (b8s [dg (id[k].toNat / 16), dg (id[k].toNat % 16)]) := (Rd.new wr (b8s [dg (id[k].toNat / 16), dg (id[k].toNat % 16)]) 5).drew
      have hown2 := hown.later hb2
      refine hK.out _ _ (by rw [row_cell ((hown2.bel.block _ hlt0).trans HN.out)]; simp [b8s, hkl]) (fun hS => ?_)
      clear hK hS
      generalize (wr.alloc (.cells #[.int .u8 ((dg (id[k].toNat / 16)).toNat : Int), .int .u8 ((dg (id[k].toNat % 16)).toNat : Int)] 5)).drew = w2 at *
      refine wpS_do _ rfl (by rfl) (fun K hK => ?_)
      have ho2 := hown2.own
      rw [← Hn.out] at ho2
      refine wp_append_rd _ _ _ 32 rfl W0.heap.size 5 (.int .u8 0) 1 1 Try.underlying32 info_u8 rfl (by decide) (.slice A n c) n (b8s (hexL (id.take k))) rfl ho2 _ 2 2 (b8s [dg (id[k].toNat / 16), dg (id[k].toNat % 16)]) rfl rfl hrd (b8s_one' _) (by unfold maxLen; have := HLL.out; have := Hn.out; omega) (by have := HLL.out; have := Hn.out; omega) hown2.sz ?_
      intro v3 w3 ho3 hg3 _
      rw [Hn.out] at ho3
      have hown3 := hown2.appended (m := 2) ho3 rfl hg3
      rw [← HTK.out] at hown3
      refine hK.out _ _ (by rw [row_cell ((hown3.bel.block _ hlt0).trans HN.out)]; simp [b8s, hkl]) (fun hS => ?_)
      clear hK hS ho2 ho3 hg3 hown2 hrd hb2 hown
      simp only [Act.put, List.getElem_toArray, List.getElem_cons_zero, List.getElem_cons_succ, List.setIfInBounds_toArray, List.set_cons_zero, List.set_cons_succ]
      (repeat (first | (refine wpS_pass _ rfl (by rfl) ?_; simp only [Act.put, List.getElem_toArray, List.getElem_cons_zero, List.getElem_cons_succ, List.setIfInBounds_toArray, List.set_cons_zero, List.set_cons_succ]) | (refine wpS_take _ ?_ rfl (by rfl) ?_ ?_; rotate_left; (focus (intro w' hS'; (try dsimp only at hS'); (repeat (have hS1 := hS'.1; replace hS' := hS'.2)); go_simp; (try with_reducible rfl); done)); simp only [Act.put, List.getElem_toArray, List.getElem_cons_zero, List.getElem_cons_succ, List.setIfInBounds_toArray, List.set_cons_zero, List.set_cons_succ])))
      refine wpS_done ?_
      go_wp2_with fail
      go_roundg (32 - (k + 1))
      case measure => omega
      case rel => exact ⟨k + 1, by omega, rfl, by go_num, hown3⟩
    obtain rfl : k = 32 := by omega
    rw [← hid, List.take_length] at hown
    obtain ⟨A, n, c, rfl, hn, _, _, hr, _⟩ := hown.sliceN
    have hcv := run_str_of_bytes (P := Try.prog) (src := 32) (dst := 9) (e := 5) n c hn Try.underlying32 Try.underlying5 Try.underlying9 hr
    have Hown := Lib.hid hown.bel
    clear hown hr hn hll
    go_wp2_with fail
    go_ret
    exact ⟨rfl, ext_trans HB.out Hown.out⟩
end Go.Proofs.Ytkiggfahcakdeaa
