
/- RefsWhole: the law's walk. -/

import Derived.Test.YtelbofikcpchiaaGreatRf23

import Derived.Test.YtelbofikcpchiaaGreatRf24

import Derived.Test.YtelbofikcpchiaaGreatRf26

namespace Go.Proofs.YtelbofikcpchiaaGreat

set_option linter.unusedVariables false

set_option linter.unusedSimpArgs false

set_option linter.unusedSectionVars false

open Go.RowKit

theorem own_put {w : World} {base : Nat} {e : TypeId} {sz g n c : Nat} {xs p q r vs : List Value} (h : w.ownsRow base e sz (.slice (some ⟨g, 0, none⟩) n c) n xs) (hx : xs = p ++ q ++ r) (hl : q.length = vs.length) :
    ∃ W, w.setCells g p.length vs.toArray.toList = W ∧ Hid (w.there g p.length vs.toArray.size) ∧ Hid (W.ownsRow base e sz (.slice (some ⟨g, 0, none⟩) n c) n (p ++ vs ++ r)) ∧ Hid (w.grownBy W (some g)) := by
  rcases h.2 with ⟨h0, _⟩ | ⟨g', cap, cur, hv, hb, hh, hn, hc, hs, ht⟩
  · cases h0
  · cases hv
    have hl1 := h.1
    have hcur : cur = (p ++ q ++ (r ++ cur.toList.drop (n * sz))).toArray := by
      have : cur.toList = p ++ q ++ (r ++ cur.toList.drop (n * sz)) := by
        rw [← List.append_assoc, ← hx, ← ht, List.take_append_drop]
      rw [← this, Array.toArray_toList]
    obtain ⟨rest, hrest⟩ : ∃ l, cur.toList.drop (n * sz) = l := ⟨_, rfl⟩
    rw [hrest] at hcur
    rw [hcur] at hh hs
    obtain ⟨W, h1, h2, h3, h4⟩ := put_mid (vs := vs) hh hl
    refine ⟨W, h1, h2, Lib.hid ⟨?_, .inr ⟨g, c, _, rfl, hb, h3.out, hn, hc, ?_, ?_⟩⟩, h4⟩
    · rw [hx] at hl1
      simp only [List.length_append] at hl1 ⊢
      omega
    · simp only [List.size_toArray, List.length_append] at hs ⊢
      omega
    · rw [hx] at hl1
      have e1 : (p ++ vs ++ (r ++ rest)).toArray.toList = (p ++ vs ++ r) ++ rest := by simp
      rw [e1, List.take_append_of_le_length (by simp only [List.length_append] at hl1 ⊢; omega), List.take_of_length_le (by simp only [List.length_append] at hl1 ⊢; omega)]
theorem i64_and_mask (x : Int) (m : Nat) (hm : m < 9223372036854775808) : ∃ n : Nat, n ≤ m ∧ bits .and .i64 x (m : Int) = (n : Int) := by
  refine ⟨(BitVec.ofInt 64 x &&& BitVec.ofInt 64 (m : Int)).toNat, ?_, ?_⟩
  · rw [BitVec.toNat_and]
    refine Nat.le_trans Nat.and_le_right ?_
    rw [BitVec.ofInt_natCast, BitVec.toNat_ofNat]
    exact Nat.mod_le _ _
  · show IntKind.i64.wrap ((BitVec.ofInt 64 x &&& BitVec.ofInt 64 (m : Int)).toNat : Int) = _
    have h1 : (BitVec.ofInt 64 x &&& BitVec.ofInt 64 (m : Int)).toNat ≤ m := by
      rw [BitVec.toNat_and]
      refine Nat.le_trans Nat.and_le_right ?_
      rw [BitVec.ofInt_natCast, BitVec.toNat_ofNat]
      exact Nat.mod_le _ _
    exact IntWalk.i64_in _ (by omega)
theorem u8_wrap97 {i : Nat} (h : i < 100) : IntKind.u8.wrap (97 + (i : Int)) = ((UInt8.ofNat (97 + i)).toNat : Int) := by
  have e : (UInt8.ofNat (97 + i)).toNat = 97 + i := by rw [UInt8.toNat_ofNat']; omega
  rw [e, IntKind.wrap_u8]
  omega
theorem u8_wrap0 {i : Nat} (h : i < 100) : IntKind.u8.wrap (i : Int) = ((UInt8.ofNat i).toNat : Int) := by
  have e : (UInt8.ofNat i).toNat = i := by rw [UInt8.toNat_ofNat']; omega
  rw [e, IntKind.wrap_u8]
  omega
/-- 'string([]byte{c})' -/
theorem str_one (w : World) (x : UInt8) : (convert 29 9 (.slice (some ⟨w.heap.size, 0, none⟩) 1 1)).run Tryz.prog (w.alloc (.cells #[.int .u8 (x.toNat : Int)] 5)) = .ok (.string ⟨#[x]⟩) (w.alloc (.cells #[.int .u8 (x.toNat : Int)] 5)) :=
  run_str_of_bytes (P := Tryz.prog) (A := some ⟨w.heap.size, 0, none⟩) (bs := [x]) 1 1 rfl Tryz.underlying29 Tryz.underlying5 Tryz.underlying9 (Rd.new w (b8s [x]) 5)
theorem id2_built (c d : UInt8) : Tryz.prog.built 24 [(0, .int .u8 (c.toNat : Int)), (1, .int .u8 (d.toNat : Int))] = some (b8s (c :: d :: List.replicate 30 0)).toArray := by kernel_rfl
theorem bin_sadd {P : Program} {t : TypeId} (a b : ByteArray) (w : World) (h : a.size + b.size ≤ 9223372036854775807) : (binOp .add t (.string a) (.string b)).run P w = .ok (.string (a ++ b)) w := by
  simp [binOp, run_string_add_sum w a b h]
theorem tag_add (x : UInt8) (w : World) : (binOp .add 9 (.string ⟨#[116, 97, 103, 115, 47, 116]⟩) (.string ⟨#[x]⟩)).run Tryz.prog w = .ok (.string ⟨#[116, 97, 103, 115, 47, 116, x]⟩) w := by
  rw [bin_sadd _ _ _ (by show 6 + 1 ≤ _; omega)]
  rfl
theorem own_some {w : World} {base : Nat} {e : TypeId} {sz n : Nat} {v : Value} {xs : List Value} (h : w.ownsRow base e sz v n xs) (hn : 0 < n) : ∃ g c, v = .slice (some ⟨g, 0, none⟩) n c ∧ base ≤ g ∧ g < w.heap.size := by
  rcases h.2 with ⟨_, h0⟩ | ⟨g, cap, cur, hv, hb, hh, _⟩
  · omega
  · exact ⟨g, cap, hv, hb, (Array.getElem?_eq_some_iff.1 hh).1⟩
theorem own_empty (w : World) (e : TypeId) (sz : Nat) : (w.alloc (.cells #[] e)).ownsRow w.heap.size e sz (.slice (some ⟨w.heap.size, 0, none⟩) 0 0) 0 [] :=
  ⟨by simp, .inr ⟨w.heap.size, 0, #[], rfl, Nat.le_refl _, heap_alloc_new w _, Nat.le_refl _, Nat.zero_le _, by simp, by simp⟩⟩
theorem upsT_split {n k : Nat} (hk : k < n) : ∃ p r : List UpM, upsT n = p ++ upT k :: r ∧ p.length = k ∧ ∀ u, (upsT n).set k u = p ++ u :: r := by
  have hl : k < (upsT n).length := by rw [upsT_length]; exact hk
  refine ⟨(upsT n).take k, (upsT n).drop (k + 1), ?_, by rw [List.length_take, upsT_length]; omega, fun u => ?_⟩
  · have h1 : (upsT n)[k] = upT k := by simp [upsT]
    rw [← h1, List.getElem_cons_drop, List.take_append_drop]
  · rw [List.set_eq_take_append_cons_drop, if_pos hl]
theorem tx_built3 {id : List UInt8} (h : id.length = 32) : Tryz.prog.built 28 [(2, .agg (b8s id).toArray)] = some (txC none 0 0 ⟨[], [], id⟩).toArray := by
  obtain ⟨a0, a1, a2, a3, a4, a5, a6, a7, a8, a9, b0, b1, b2, b3, b4, b5, b6, b7, b8, b9, c0, c1, c2, c3, c4, c5, c6, c7, c8, c9, d0, d1, rfl⟩ := cells32 h
  kernel_rfl
theorem up_built3 {u : UpM} (h : upOk u) (hz : u.new = Z32) : Tryz.prog.built 31 [(0, strV u.name), (1, .agg (b8s u.old).toArray)] = some (upC u).toArray := by
  obtain ⟨nm, old, new⟩ := u
  obtain rfl : new = Z32 := hz
  obtain ⟨e0, e1, e2, e3, e4, e5, e6, e7, e8, e9, f0, f1, f2, f3, f4, f5, f6, f7, f8, f9, g0, g1, g2, g3, g4, g5, g6, g7, g8, g9, h0, h1, rfl⟩ := cells32 h.1
  kernel_rfl
theorem upsT_succ (i : Nat) : upsT (i + 1) = upsT i ++ [upT i] := by simp [upsT, List.range_succ]
theorem upsQ_succ (i : Nat) : upsQ (i + 1) = upsQ i ++ [upQ i] := by simp [upsQ, List.range_succ]

set_option maxRecDepth 1000000 in
set_option maxHeartbeats 16000000 in
theorem refsWhole_any (A0 : Option Addr) (ns : List ByteArray) (n c0 : Nat) (at_ : Int) (id : List UInt8) (w : World) (hn : ns.length = n) (hnm : n ≤ 9223372036854775807) (hid : id.length = 32) (hr : Rd w A0 (ns.map Value.string)) (hs : ∀ s ∈ ns, s.size ≤ 140737488355328) :
    Calls Tryz.prog 3 #[.slice A0 n c0, .int .i64 at_, .agg (b8s id).toArray] w fun e w' => e = .returned (.bool true) ∧ Below w.heap.size w w' := by
  have HN := Lib.hid hn
  have HNS := Lib.hid hs
  have HIDL := Lib.hid hid
  obtain ⟨m, hm, hma⟩ : ∃ k : Nat, k ≤ 1023 ∧ bits .and .i64 at_ 1023 = (k : Int) := i64_and_mask at_ 1023 (by decide)
  obtain ⟨l0, hl0⟩ : ∃ l, b8s Z32 = l := ⟨_, rfl⟩
  have HL0 := Lib.hid hl0
  have HID0 : Hid (Tryz.prog.built 24 [] = some l0.toArray) := Lib.hid (by rw [← hl0]; exact id0_built)
  have hgd := id_guard
  -- the row of id
  obtain ⟨p5, hp5⟩ : ∃ x, w.heap.size = x := ⟨_, rfl⟩
  obtain ⟨Wb, hWb⟩ : ∃ W, w.alloc (.cells (b8s id).toArray 24) = W := ⟨_, rfl⟩
  obtain ⟨rb, bb, sb⟩ := new_row hWb
  rw [hp5] at rb
  have HBb := Lib.hid bb
  have HRb := Lib.hid rb
  have HR0 := Lib.hid (hr.below bb)
  obtain ⟨li, hli⟩ : ∃ l, b8s id = l := ⟨_, rfl⟩
  have HLI := Lib.hid hli
  have HILI : Hid ((Tryz.prog.info? 24).map (·.size) = some li.length) := Lib.hid (by rw [← hli]; exact info_idl id hid)
  rw [hli] at hWb HRb ⊢
  clear hn hr hs hl0 bb rb sb hli hid
  go_enter Tryz.func3, Tryz.ntmps3
  go_wp2_with fail
  refine (ralive_any Wb).mono ?_
  rintro e w1 ⟨rfl, hb1⟩
  have HB1 : Hid (Below w.heap.size w w1) := Lib.hid (HBb.out.trans (hb1.mono HBb.out.size))
  have HR1 := Lib.hid (HR0.out.below hb1)
  have HR5 := Lib.hid ((hb1.block _ (Array.getElem?_eq_some_iff.1 HRb.out).1).trans HRb.out)
  clear hb1 HR0 HRb hWb hp5
  by_cases h1 : n < 1
  · have j1 : (n : Int) < 1 := by omega
    go_wp2_with fail
    go_ret
    exact ⟨rfl, HB1.out⟩
  by_cases h20 : 20 < n
  · have j1 : ¬ (n : Int) < 1 := by omega
    have j20 : (20 : Int) < (n : Int) := by omega
    go_wp2_with fail
    go_ret
    exact ⟨rfl, HB1.out⟩
  have j1 : ¬ (n : Int) < 1 := by omega
  have j20 : ¬ (20 : Int) < (n : Int) := by omega
  obtain ⟨p7, hp7⟩ : ∃ x, w1.heap.size = x := ⟨_, rfl⟩
  obtain ⟨WA, hWA⟩ : ∃ W, w1.alloc (.cells #[Value.slice none 0 0, Value.string ⟨#[]⟩, Value.int .u8 0, Value.int .u8 0, Value.int .u8 0, Value.int .u8 0, Value.int .u8 0, Value.int .u8 0, Value.int .u8 0, Value.int .u8 0, Value.int .u8 0, Value.int .u8 0, Value.int .u8 0, Value.int .u8 0, Value.int .u8 0, Value.int .u8 0, Value.int .u8 0, Value.int .u8 0, Value.int .u8 0, Value.int .u8 0, Value.int .u8 0, Value.int .u8 0, Value.int .u8 0, Value.int .u8 0, Value.int .u8 0, Value.int .u8 0, Value.int .u8 0, Value.int .u8 0, Value.int .u8 0, Value.int .u8 0, Value.int .u8 0, Value.int .u8 0, Value.int .u8 0, Value.int .u8 0] 28) = W := ⟨_, rfl⟩
  obtain ⟨rA_, bA, sA⟩ := new_row hWA
  obtain ⟨lz, hlz⟩ : ∃ l, txC none 0 0 t0 = l := ⟨_, rfl⟩
  have hlz' : lz.toArray = #[Value.slice none 0 0, Value.string ⟨#[]⟩, Value.int .u8 0, Value.int .u8 0, Value.int .u8 0, Value.int .u8 0, Value.int .u8 0, Value.int .u8 0, Value.int .u8 0, Value.int .u8 0, Value.int .u8 0, Value.int .u8 0, Value.int .u8 0, Value.int .u8 0, Value.int .u8 0, Value.int .u8 0, Value.int .u8 0, Value.int .u8 0, Value.int .u8 0, Value.int .u8 0, Value.int .u8 0, Value.int .u8 0, Value.int .u8 0, Value.int .u8 0, Value.int .u8 0, Value.int .u8 0, Value.int .u8 0, Value.int .u8 0, Value.int .u8 0, Value.int .u8 0, Value.int .u8 0, Value.int .u8 0, Value.int .u8 0, Value.int .u8 0] := by rw [← hlz]; rfl
  rw [hp7, ← hlz'] at rA_
  obtain ⟨WB, hWB, TB, RB, GB⟩ := put_rowR (new := lz) rA_ rfl
  have HLZ := Lib.hid hlz'
  have HLZL : Hid (lz.length = 34) := Lib.hid (by rw [← hlz]; exact txC_len rfl)
  have HWB := Lib.hid hWB
  have HIT : Hid ((Tryz.prog.info? 28).map (·.size) = some lz.toArray.size) := Lib.hid (by rw [← hlz]; exact info_txa rfl)
  have HOT : Hid (lz.toArray.all (·.oneCell') = true) := Lib.hid (all_oneCell_toArray (by rw [← hlz]; exact txC_one _ _ _ _))
  have BB : Hid (Below w1.heap.size w1 WB) := Lib.hid (bel_grown bA bA.size GB.out (by omega))
  have HRB : Hid (WB.heap[p7]? = some (.cells (txC none 0 0 (txT 0)).toArray 28 (0, 0))) := Lib.hid (by
    have h1 := RB.out
    rw [← hlz] at h1
    exact h1)
  have HP7 : Hid (w1.heap.size = p7) := Lib.hid hp7
  have HSB : Hid (p7 < WB.heap.size) := Lib.hid (Array.getElem?_eq_some_iff.1 RB.out).1
  clear rA_ bA sA hlz hlz' hWB RB GB
  go_wp2_with (first
    | (rw [← HLZ.out]; ((with_reducible (refine wpList_store_mid rfl _ _ _ rfl ?_ ?_ ?_ ?_ ?_ ?_ ?_ ?_ ?_)); (exact p7); (exact 0); (exact (lz).toArray); (exact rfl); (exact rfl); (exact TB.out); (exact HIT.out); (exact HOT.out); rw [HWB.out]))
    | ((with_reducible (refine wpList_store_mid rfl _ _ _ rfl ?_ ?_ ?_ ?_ ?_ ?_ ?_ ?_ ?_)); (exact p7); (exact 0); (exact (lz).toArray); (exact rfl); (exact rfl); (exact TB.out); (exact HIT.out); (exact HOT.out); rw [HWB.out]))
  clear hp7 hWA TB
  go_loopg [32] (n * 1) (fun gk_ iv wr => ∃ (i : Nat) (Ai : Option Addr) (ci : Nat), i ≤ n ∧ gk_ = n - i ∧ iv = .int .i64 (i : Int) ∧ Hid (wr.heap[p7]? = some (.cells (txC Ai i ci (txT i)).toArray 28 (0, 0))) ∧ Hid (wr.ownsRow WB.heap.size 31 65 (.slice Ai i ci) i (upsC (upsT i))) ∧ Hid (Below w1.heap.size w1 wr) ∧ Hid (WB.heap.size ≤ wr.heap.size))
  case atStart => exact ⟨0, none, 0, by omega, by omega, rfl, HRB, Lib.hid (World.ownsRow_nil _ _ _ _), BB, Lib.hid (Nat.le_refl _)⟩
  case round =>
  clear HRB
  obtain ⟨i, Ai, ci, hi, rfl, rfl, HRW, HOW, HBW, HSW⟩ := hrel
  by_cases hlt : i < n
  · have i1 : (i : Int) < (n : Int) := by omega
    have c70 : wr.cell? ⟨p7, 0, none⟩ = some (.slice Ai i ci) := (tx_cells HRW.out).1
    obtain ⟨x, hx⟩ : ∃ x : UInt8, UInt8.ofNat (97 + i) = x := ⟨_, rfl⟩
    obtain ⟨y, hy⟩ : ∃ y : UInt8, UInt8.ofNat i = y := ⟨_, rfl⟩
    have hw8 := u8_wrap97 (i := i) (by omega)
    have hw0 := u8_wrap0 (i := i) (by omega)
    rw [hx] at hw8
    rw [hy] at hw0
    have HTG : Hid (upT i = ⟨[116, 97, 103, 115, 47, 116, x], Z32, 1 :: y :: List.replicate 30 0⟩) := Lib.hid (by rw [← hx, ← hy]; rfl)
    have hw64 : IntKind.i64.wrap (97 + (i : Int)) = 97 + (i : Int) := by rw [IntKind.wrap_i64]; omega
    have hst := str_one wr x
    clear hx hy
    have hadd := tag_add x
    obtain ⟨W6, hW6⟩ : ∃ W, wr.alloc (.cells #[.int .u8 (x.toNat : Int)] 5) = W := ⟨_, rfl⟩
    obtain ⟨r6, b6, s6⟩ := new_row hW6
    rw [hW6] at hst
    obtain ⟨u, hu⟩ : ∃ u, upT i = u := ⟨_, rfl⟩
    rw [hu] at HTG
    have HUE := Lib.hid hu
    have HOKU : Hid (upOk u) := Lib.hid (by rw [← hu]; exact upT_ok i)
    obtain ⟨p7', hp7'⟩ : ∃ x, W6.heap.size = x := ⟨_, rfl⟩
    obtain ⟨W7, hW7⟩ : ∃ W, W6.alloc (.cells (upC u).toArray 31) = W := ⟨_, rfl⟩
    obtain ⟨r7, b7, s7⟩ := new_row hW7
    rw [hp7'] at r7
    have b67 : Below wr.heap.size wr W7 := b6.trans (b7.mono b6.size)
    have HB67 := Lib.hid b67
    have HOW7 := Lib.hid (own_below HOW.out b67)
    have HRD7 : Hid (Rd W7 (some ⟨p7', 0, none⟩) (upC u)) := Lib.hid (range_rd (range_of_row r7))
    have HIDT : Hid (Tryz.prog.built 24 [(0, .int .u8 1), (1, .int .u8 (y.toNat : Int))] = some (b8s (1 :: y :: List.replicate 30 0)).toArray) := Lib.hid (id2_built 1 y)
    have HUB : Hid (Tryz.prog.built 31 [(0, .string ⟨#[116, 97, 103, 115, 47, 116, x]⟩), (2, .agg (b8s (1 :: y :: List.replicate 30 0)).toArray)] = some (upC u).toArray) := Lib.hid (by
      have h1 := up_built2 (u := u) HOKU.out (by rw [HTG.out])
      rw [HTG.out] at h1 ⊢
      exact h1)
    have HIB9 : Hid ((Tryz.prog.info? 31).map (fun i => (i.size, i.zero.isSome)) = some ((upC u).length, true)) := Lib.hid (by rw [upC_len HOKU.out]; kernel_rfl)
    have HUL9 := Lib.hid (upC_len HOKU.out)
    have HO1 : Hid (∀ v ∈ upC u, v.oneCell' = true) := Lib.hid (upC_one u)
    have HNE : Hid (∀ b, (Value.slice Ai i ci).ownBlock = some b → p7 < b) := Lib.hid (fun b hb => by
      have := (HOW.out.lt b hb).1
      have := HSB.out
      omega)
    have HRW7 : Hid (W7.heap[p7]? = some (.cells (txC Ai i ci (txT i)).toArray 28 (0, 0))) := Lib.hid ((b67.block _ (Array.getElem?_eq_some_iff.1 HRW.out).1).trans HRW.out)
    have HFC : Hid (∀ W', W7.grownBy W' (Value.slice Ai i ci).ownBlock → W'.heap[p7]? = some (.cells (txC Ai i ci (txT i)).toArray 28 (0, 0)) ∧ W'.cell? ⟨p7, 0, none⟩ = some (.slice Ai i ci) ∧ W'.frozen? ⟨p7, 0, none⟩ = false) := Lib.hid (fun W' hg => by
      have h1 := (hg.block _ (Array.getElem?_eq_some_iff.1 HRW7.out).1 (fun e => by have := HNE.out _ e.symm; omega)).trans HRW7.out
      exact ⟨h1, (tx_cells h1).1, row_free h1 0⟩)
    have HSZ7 : Hid (WB.heap.size ≤ W7.heap.size) := Lib.hid (Nat.le_trans HSW.out b67.size)
    obtain ⟨lid, hlid⟩ : ∃ l, b8s (1 :: y :: List.replicate 30 0) = l := ⟨_, rfl⟩
    obtain ⟨lu, hlu⟩ : ∃ l, upC u = l := ⟨_, rfl⟩
    have HLU := Lib.hid hlu
    rw [hlid] at HIDT HUB
    rw [hlu] at hW7 HRD7 HUB HIB9 HUL9 HO1
    clear r6 b6 s6 r7 b7 s7 b67 hu hlid hlu
    go_wp2_with (first
      | ((with_reducible (refine wpList_built ?_ _ #[(0, .const (.int .u8 1)), (1, .tmp 44)] ?_ _ ?_ _ HIDT.out ?_)); (exact rfl); (exact rfl); (exact rfl))
      | ((with_reducible (refine wpList_built ?_ _ #[(0, .tmp 42), (2, .tmp 45)] ?_ _ ?_ _ HUB.out ?_)); (exact rfl); (exact rfl); (exact rfl))
      | (refine wpList_build1 rfl 26 31 _ rfl lu rfl Tryz.underlying26 HIB9.out (by rw [HUL9.out]; omega) (by rw [HUL9.out]; omega) ?_)
      | (at_builtin; (try rw [hW6]); (try rw [hp7']); (try rw [hW7]); go_loud (refine wpList_append_rd _ rfl _ _ 26 rfl WB.heap.size 31 _ 65 80 Tryz.underlying26 info_up65 (by simp [Value.cells, b8s]) (by decide) (.slice Ai i ci) i _ rfl HOW7.out _ 1 1 lu rfl (by rw [HUL9.out]) HRD7.out HO1.out (by unfold maxLen; omega) (by omega) HSZ7.out ?_); intro v8 w8 ho8 hg8 hvb8; obtain ⟨A8, c8, e8, _⟩ := own_slice ho8; subst e8; obtain ⟨hr8, c8K, f8K⟩ := HFC.out _ hg8; have HR8 := Lib.hid hr8; have HO8 := Lib.hid ho8; have HG8 := Lib.hid hg8; clear hr8 ho8 hg8 hvb8))
    clear hW6 hW7 hp7' hst hadd c70
    go_roundg (n - (i + 1))
    case measure => omega
    case rel =>
      have hs := grown_set (w := w8) p7 0 (.slice A8 (i + 1) c8)
      have hb8 : Below w1.heap.size w1 w8 := by
        have h0 : Below w1.heap.size w1 W7 := HBW.out.trans (HB67.out.mono HBW.out.size)
        cases hv : (Value.slice Ai i ci).ownBlock with
        | none => have h1 := HG8.out; rw [hv] at h1; exact h0.trans ((grown_none h1).mono h0.size)
        | some b =>
          have h1 := HG8.out
          rw [hv] at h1
          have := HNE.out b hv
          have := HP7.out
          exact bel_grown h0 h0.size h1 (by omega)
      refine ⟨i + 1, A8, c8, by omega, rfl, by first | rfl | exact congrArg (Value.int .i64) (by omega) | go_num, Lib.hid ?_, Lib.hid ?_, Lib.hid (bel_grown hb8 hb8.size hs (by have := HP7.out; omega)), Lib.hid (Nat.le_trans (Nat.le_trans HSZ7.out HG8.out.size) hs.size)⟩
      · exact row_set HR8.out 0 (.slice A8 (i + 1) c8)
      · rw [upsT_succ, upsC_app, show upsC [upT i] = lu by rw [HUE.out, ← HLU.out]; simp [upsC]]
        exact own_far HO8.out HSB.out hs
  · obtain rfl : i = n := by omega
    have HNI := Lib.hid (show 0 < i by omega)
    go_wp2_with fail
    refine (new_any 1048576 (by omega) wr).mono ?_
    rintro e w2 ⟨g, d2, rfl, hd2, hb2⟩
    have HD2 := Lib.hid hd2
    have HB2 := Lib.hid hb2
    clear hd2 hb2
    go_wp2_with fail
    refine (open_at HD2.out (by omega)).mono ?_
    rintro e w3 ⟨gr, d3, q3, rfl, hr3, hb3⟩
    have HR3 : Hid (RefsAt wr.heap.size w3 g gr rf0 [] 1048576 0 d3 q3) := Lib.hid hr3
    have HB3 : Hid (Below wr.heap.size wr w3) := Lib.hid (HB2.out.trans hb3)
    clear hr3 hb3
    have HRW3 : Hid (w3.heap[p7]? = some (.cells (txC Ai i ci (txT i)).toArray 28 (0, 0))) := Lib.hid ((HB3.out.block _ (Array.getElem?_eq_some_iff.1 HRW.out).1).trans HRW.out)
    have HOW3 := Lib.hid (own_below HOW.out HB3.out)
    have z0 : ¬ (i : Int) = 0 := by omega
    obtain ⟨kk, hkk⟩ : ∃ x, m % i = x := ⟨_, rfl⟩
    have hki : kk < i := by rw [← hkk]; exact Nat.mod_lt _ HNI.out
    have hmk : (m : Int) % (i : Int) = (kk : Int) := by rw [← hkk]; first | exact (Int.natCast_emod m i).symm | exact (Int.ofNat_emod m i).symm | simp
    obtain ⟨p8, hp8⟩ : ∃ x, w3.heap.size = x := ⟨_, rfl⟩
    obtain ⟨W4, hW4⟩ : ∃ W, w3.alloc (.cells #[] 31) = W := ⟨_, rfl⟩
    have b4 : Below w3.heap.size w3 W4 := by rw [← hW4]; exact (Below.refl _ _).alloc (Nat.le_refl _) _
    have HB4 := Lib.hid b4
    have HOE : Hid (W4.ownsRow p8 31 65 (.slice (some ⟨p8, 0, none⟩) 0 0) 0 []) := Lib.hid (by rw [← hW4, ← hp8]; exact own_empty w3 _ _)
    have HOW4 := Lib.hid (own_below HOW3.out b4)
    have HRW4 : Hid (W4.heap[p7]? = some (.cells (txC Ai i ci (txT i)).toArray 28 (0, 0))) := Lib.hid ((b4.block _ (Array.getElem?_eq_some_iff.1 HRW3.out).1).trans HRW3.out)
    have c74 : W4.cell? ⟨p7, 0, none⟩ = some (.slice Ai i ci) := (tx_cells HRW4.out).1
    have HRD4 := Lib.hid (own_rd HOW4.out)
    have HLU : Hid ((upsC (upsT i)).length = i * 65) := Lib.hid HOW4.out.1
    have HO1 : Hid (∀ v ∈ upsC (upsT i), v.oneCell' = true) := Lib.hid (upsC_one _)
    have HP8 : Hid (w3.heap.size = p8) := Lib.hid hp8
    have HZ4 : Hid (p8 ≤ W4.heap.size) := Lib.hid (by rw [← hp8]; exact b4.size)
    clear b4 hkk
    go_wp2_with (at_builtin; (try rw [hW4]); (try rw [hp8]); go_loud (refine wpList_append_rd _ rfl _ _ 26 rfl p8 31 _ 65 80 Tryz.underlying26 info_up65 (by simp [Value.cells, b8s]) (by decide) (.slice (some ⟨p8, 0, none⟩) 0 0) 0 _ rfl HOE.out _ i ci (upsC (upsT i)) rfl HLU.out HRD4.out HO1.out (by unfold maxLen; omega) (by omega) HZ4.out ?_); intro v8 w8 ho8 hg8 hvb8; simp only [Nat.zero_add, List.nil_append] at ho8; obtain ⟨g8, c8, e8, hge8, hlt8⟩ := own_some ho8 HNI.out; subst e8; have HO8 := Lib.hid ho8; have HG8 := Lib.hid hg8; have HGE8 := Lib.hid hge8; clear ho8 hg8 hvb8 hge8 hlt8; refine Stop.out ?_)
    clear hW4 hp8 c74 hmk
    -- the row of bad
    have HB8 : Hid (Below w3.heap.size w3 w8) := Lib.hid (bel_grown HB4.out HB4.out.size HG8.out (by rw [HP8.out]; exact Nat.le_refl _))
    obtain ⟨p13, hp13⟩ : ∃ x, w8.heap.size = x := ⟨_, rfl⟩
    obtain ⟨W9, hW9⟩ : ∃ W, w8.alloc (.cells #[Value.slice none 0 0, Value.string ⟨#[]⟩, Value.int .u8 0, Value.int .u8 0, Value.int .u8 0, Value.int .u8 0, Value.int .u8 0, Value.int .u8 0, Value.int .u8 0, Value.int .u8 0, Value.int .u8 0, Value.int .u8 0, Value.int .u8 0, Value.int .u8 0, Value.int .u8 0, Value.int .u8 0, Value.int .u8 0, Value.int .u8 0, Value.int .u8 0, Value.int .u8 0, Value.int .u8 0, Value.int .u8 0, Value.int .u8 0, Value.int .u8 0, Value.int .u8 0, Value.int .u8 0, Value.int .u8 0, Value.int .u8 0, Value.int .u8 0, Value.int .u8 0, Value.int .u8 0, Value.int .u8 0, Value.int .u8 0, Value.int .u8 0] 28) = W := ⟨_, rfl⟩
    obtain ⟨r9, b9, s9⟩ := new_row hW9
    rw [hp13, ← HLZ.out] at r9
    obtain ⟨lb, hlb⟩ : ∃ l, txC (some ⟨g8, 0, none⟩) i c8 (txW i kk []) = l := ⟨_, rfl⟩
    have HLBL : Hid (lb.length = 34) := Lib.hid (by rw [← hlb]; exact txC_len rfl)
    obtain ⟨W10, hW10, T10, R10, G10⟩ := put_rowR (new := lb) r9 (by rw [HLBL.out, HLZL.out])
    have HW10 := Lib.hid hW10
    have b10 : Below w8.heap.size w8 W10 := bel_grown b9 b9.size G10.out (by omega)
    have HB10 : Hid (Below w3.heap.size w3 W10) := Lib.hid (HB8.out.trans (b10.mono HB8.out.size))
    have HO10 := Lib.hid (own_below HO8.out b10)
    have HITB : Hid ((Tryz.prog.info? 28).map (·.size) = some lb.toArray.size) := Lib.hid (by rw [← hlb]; exact info_txa rfl)
    have HITL : Hid ((Tryz.prog.info? 28).map (·.size) = some lb.length) := Lib.hid (by rw [← hlb]; exact info_txl rfl)
    have HOTB : Hid (lb.toArray.all (·.oneCell') = true) := Lib.hid (all_oneCell_toArray (by rw [← hlb]; exact txC_one _ _ _ _))
    have HTBB : Hid (Tryz.prog.built 28 [(0, .slice (some ⟨g8, 0, none⟩) i c8)] = some lb.toArray) := Lib.hid (by rw [← hlb]; exact tx_built _ _ _)
    have HLB2 : Hid (lb.toArray = #[Value.slice (some ⟨g8, 0, none⟩) i c8, Value.string ⟨#[]⟩, Value.int .u8 0, Value.int .u8 0, Value.int .u8 0, Value.int .u8 0, Value.int .u8 0, Value.int .u8 0, Value.int .u8 0, Value.int .u8 0, Value.int .u8 0, Value.int .u8 0, Value.int .u8 0, Value.int .u8 0, Value.int .u8 0, Value.int .u8 0, Value.int .u8 0, Value.int .u8 0, Value.int .u8 0, Value.int .u8 0, Value.int .u8 0, Value.int .u8 0, Value.int .u8 0, Value.int .u8 0, Value.int .u8 0, Value.int .u8 0, Value.int .u8 0, Value.int .u8 0, Value.int .u8 0, Value.int .u8 0, Value.int .u8 0, Value.int .u8 0, Value.int .u8 0, Value.int .u8 0]) := Lib.hid (by rw [← hlb]; rfl)
    have HLB := Lib.hid hlb
    have c13 : W10.cell? ⟨p13, 0, none⟩ = some (.slice (some ⟨g8, 0, none⟩) i c8) := by
      have h1 := R10.out
      rw [← hlb] at h1
      exact (tx_cells h1).1
    have HN13 : Hid (p13 ≠ g8) := Lib.hid (by have := (HO8.out.lt g8 rfl).2; omega)
    -- the name
    have hbn : Below w1.heap.size w1 W10 := (HBW.out.trans (HB3.out.mono HBW.out.size)).trans (HB10.out.mono (Nat.le_trans HBW.out.size HB3.out.size))
    have hrn := HR1.out.below hbn
    obtain ⟨ba, oa, hA0, hcell⟩ := hrn.all (by rw [List.length_map, HN.out]; exact HNI.out)
    have hkl : kk < ns.length := by rw [HN.out]; exact hki
    obtain ⟨Y, hY⟩ : ∃ Y, ns[kk] = Y := ⟨_, rfl⟩
    have HYL : Hid (Y.size ≤ 140737488355328) := Lib.hid (HNS.out Y (by rw [← hY]; exact List.getElem_mem hkl))
    have cn : W10.cell? ⟨ba, oa + kk, none⟩ = some (.string Y) := hcell kk _ (by rw [List.getElem?_map, List.getElem?_eq_getElem hkl, hY]; rfl)
    -- the row that is turned
    obtain ⟨up, ur, hsp, hpl, hset⟩ := upsT_split hki
    have hpl65 : (upsC up).length = kk * 65 := by
      rw [upsC_len (fun u hu => ?_), hpl]
      have : u ∈ upsT i := by rw [hsp]; exact List.mem_append_left _ hu
      obtain ⟨j, _, rfl⟩ := List.mem_map.1 this
      exact upT_ok j
    have HX10 : Hid (upsC (upsT i) = upsC up ++ [strV (tagT kk)] ++ (b8s Z32 ++ (b8s (idT kk) ++ upsC ur))) := Lib.hid (by
      rw [hsp]
      simp [upsC, upC, upT, List.append_assoc])
    have hod : W10.drew.ownsRow p8 31 65 (.slice (some ⟨g8, 0, none⟩) i c8) i (upsC (upsT i)) := HO10.out
    obtain ⟨W11, hW11, T11, O11, G11⟩ := own_put (vs := [.string Y]) hod HX10.out rfl
    rw [hpl65] at hW11 T11
    have HW11 : Hid (W10.drew.setCell ⟨g8, kk * 65, none⟩ (.string Y) = W11) := Lib.hid hW11
    obtain ⟨W12, hW12, T12, O12, G12⟩ := own_put (p := upsC up ++ [.string Y]) (q := b8s Z32) (r := b8s (idT kk) ++ upsC ur) (vs := b8s I99) O11.out (by simp [List.append_assoc]) (by rw [b8s_length, b8s_length]; rfl)
    have hpl66 : (upsC up ++ [Value.string Y]).length = kk * 65 + 1 := by rw [List.length_append, hpl65]; rfl
    rw [hpl66] at hW12 T12
    have HW12 := Lib.hid hW12
    have HO12 : Hid (W12.ownsRow p8 31 65 (.slice (some ⟨g8, 0, none⟩) i c8) i (upsC (txW i kk Y.data.toList).us)) := Lib.hid (by
      have h1 := O12.out
      have e : upsC up ++ [Value.string Y] ++ b8s I99 ++ (b8s (idT kk) ++ upsC ur) = upsC (txW i kk Y.data.toList).us := by
        show _ = upsC ((upsT i).set kk ⟨Y.data.toList, I99, idT kk⟩)
        rw [hset]
        simp [upsC, upC, strV_data, List.append_assoc]
      rw [e] at h1
      exact h1)
    have b11 : Below w3.heap.size w3 W11 := bel_grown HB10.out.drew HB10.out.drew.size G11.out (by rw [HP8.out]; exact HGE8.out)
    have HB12 : Hid (Below w3.heap.size w3 W12) := Lib.hid (bel_grown b11 b11.size G12.out (by rw [HP8.out]; exact HGE8.out))
    have hr11 : W11.heap[p13]? = some (.cells lb.toArray 28 (0, 0)) := (G11.out.block _ (Array.getElem?_eq_some_iff.1 R10.out).1 (fun e => HN13.out (Option.some.inj e))).trans R10.out
    have hr12 : W12.heap[p13]? = some (.cells lb.toArray 28 (0, 0)) := (G12.out.block _ (Array.getElem?_eq_some_iff.1 hr11).1 (fun e => HN13.out (Option.some.inj e))).trans hr11
    have c13b : W11.cell? ⟨p13, 0, none⟩ = some (.slice (some ⟨g8, 0, none⟩) i c8) := by
      have h1 := hr11
      rw [← hlb] at h1
      exact (tx_cells h1).1
    have HRG12 := Lib.hid (range_of_row hr12)
    have hcell8 : ∃ old, W10.cell? ⟨g8, kk * 65, none⟩ = some old := by
      have h1 := own_rd HO10.out (kk * 65) (strV (tagT kk)) (by
        rw [HX10.out, List.append_assoc, List.getElem?_append_right (by rw [hpl65]; exact Nat.le_refl _), hpl65, Nat.sub_self]
        rfl)
      obtain ⟨b, o, e, h2⟩ := h1
      cases e
      exact ⟨_, by rw [Nat.zero_add] at h2; exact h2⟩
    obtain ⟨old8, hc8⟩ := hcell8
    have hf8 : W10.frozen? ⟨g8, kk * 65, none⟩ = false := by
      have h1 := (T11.out 0 (by simp)).2
      exact h1
    have HI9 : Hid (Tryz.prog.built 24 [(0, .int .u8 9), (1, .int .u8 9)] = some (b8s I99).toArray) := Lib.hid (id2_built 9 9)
    have HIIA := Lib.hid (info_ida I99 rfl)
    have HOI : Hid ((b8s I99).toArray.all (·.oneCell') = true) := Lib.hid (all_oneCell_toArray (b8s_one' _))
    have HT12 := Lib.hid T12.out
    obtain ⟨l9, hl9⟩ : ∃ l, b8s I99 = l := ⟨_, rfl⟩
    rw [hl9] at HI9 HIIA HOI HW12 HT12
    have HC8 := Lib.hid hc8
    have HF8 := Lib.hid hf8
    have HC13 := Lib.hid c13
    have HCN := Lib.hid cn
    have HC13B := Lib.hid c13b
    have HBA : Hid (ba < W10.heap.size) := Lib.hid (World.block_lt_of_cell? _ _ cn)
    have HNBA : Hid (W11.cell? ⟨ba, oa + kk, none⟩ = some (.string Y)) := Lib.hid (by
      have h1 : ba < w1.heap.size := by
        have h2 := HR1.out.all (by rw [List.length_map, HN.out]; exact HNI.out)
        obtain ⟨b, o, e, h3⟩ := h2
        rw [hA0] at e
        cases e
        have h4 := h3 0 _ (List.getElem?_eq_getElem (by rw [List.length_map, HN.out]; exact HNI.out))
        exact World.block_lt_of_cell? _ _ h4
      have h2 : g8 ≠ ba := by have := HGE8.out; have := HP8.out; have := HBW.out.size; have := HB3.out.size; omega
      exact (World.cell?_of_block (a := ⟨ba, oa + kk, none⟩) (G11.out.block _ HBA.out (fun e => h2 (Option.some.inj e).symm))).trans cn)
    have HA0 := Lib.hid hA0
    rw [hA0]
    clear r9 b9 s9 hW10 hlb R10 G10 b10 c13 hbn hrn hA0 hcell hkl hY cn hsp hpl hset hpl65 hod hW11 T11 O11 G11 hW12 T12 O12 G12 hpl66 b11 hr11 hr12 c13b hc8 hf8 hl9
    refine Stop.mk ?_
    go_wp2_with (first
      | ((with_reducible (refine wpList_built ?_ _ #[(0, .tmp 71)] ?_ _ ?_ _ HTBB.out ?_)); (exact rfl); (exact rfl); (exact rfl))
      | (rw [← HLB2.out]; ((with_reducible (refine wpList_store_mid rfl _ _ _ rfl ?_ ?_ ?_ ?_ ?_ ?_ ?_ ?_ ?_)); (exact p13); (exact 0); (exact (lb).toArray); (exact rfl); (exact rfl); (exact T10.out); (exact HITB.out); (exact HOTB.out); rw [HW10.out]))
      | ((with_reducible (refine wpList_store_mid rfl _ _ _ rfl ?_ ?_ ?_ ?_ ?_ ?_ ?_ ?_ ?_)); (exact p13); (exact 0); (exact (lb).toArray); (exact rfl); (exact rfl); (exact T10.out); (exact HITB.out); (exact HOTB.out); rw [HW10.out]))
    clear hp13 hW9
    have k1 : (kk : Int) < (i : Int) := by omega
    refine wp_region_sched (fun w' => w'.cell? ⟨p13, 0, none⟩ = some (.slice (some ⟨g8, 0, none⟩) i c8) ∧ w'.cell? ⟨ba, oa + kk, none⟩ = some (.string Y)) [(true, 0), (true, 1), (true, 2), (true, 3), (true, 4), (true, 5), (true, 6), (true, 7), (true, 8), (false, 9)] (by kernel_rfl) (by kernel_rfl) rfl (by kernel_rfl) ⟨HC13.out, HCN.out⟩ ?_
    (repeat (first | (refine wpS_pass _ rfl (by rfl) ?_; simp only [Act.put, List.getElem_toArray, List.getElem_cons_zero, List.getElem_cons_succ, List.setIfInBounds_toArray, List.set_cons_zero, List.set_cons_succ]) | (refine wpS_take _ ?_ rfl (by rfl) ?_ ?_; rotate_left; (focus (intro w' hS'; (try dsimp only at hS'); (repeat (have hS1 := hS'.1; replace hS' := hS'.2)); go_simp; (try with_reducible rfl); done)); simp only [Act.put, List.getElem_toArray, List.getElem_cons_zero, List.getElem_cons_succ, List.setIfInBounds_toArray, List.set_cons_zero, List.set_cons_succ])))
    have hc8 := HC8.out
    have hf8 := HF8.out
    refine wpS_store_cell _ rfl (by rfl) 9 _ _ rfl g8 (kk * 65) (by first | rfl | simp) (.string Y) rfl (by kernel_rfl) old8 hc8 hf8 (by rfl) ?_ ?_
    · have e : (W10.drew.setCell ⟨g8, kk * 65, none⟩ (.string Y)).cell? ⟨p13, 0, none⟩ = some (.slice (some ⟨g8, 0, none⟩) i c8) ∧ (W10.drew.setCell ⟨g8, kk * 65, none⟩ (.string Y)).cell? ⟨ba, oa + kk, none⟩ = some (.string Y) := by
        rw [HW11.out]
        exact ⟨HC13B.out, HNBA.out⟩
      exact e
    refine wpS_done ?_
    rw [HW11.out]
    have c13b := HC13B.out
    obtain ⟨z, hz⟩ : ∃ z, checkR rf0 (txW i kk Y.data.toList) = z := ⟨_, rfl⟩
    have hz0 : z ≠ 0 := by rw [← hz]; exact txW_bad hki _
    have hR12 := HR3.out.below HB12.out
    have HDB := Lib.hid (do_bad hR12.dr.refs hR12.ok (some ⟨g8, 0, none⟩) i c8 (txW i kk Y.data.toList) (by simp [txW, upsT_length]) (txW_ok (by omega) (by rw [← Lib.size_eq]; exact HYL.out)) (own_rd HO12.out) hz hz0)
    rw [show txC (some ⟨g8, 0, none⟩) i c8 (txW i kk Y.data.toList) = lb from HLB.out] at HDB
    have HR12 := Lib.hid hR12
    have z1 : ¬ z = 0 := hz0
    have z2 : (z == 0) = false := by rw [beq_eq_false_iff_ne]; exact hz0
    clear hc8 hf8 hz hR12 hz0
    go_wp2_with (first
      | ((with_reducible (refine wpList_built ?_ _ #[(0, .const (.int .u8 9)), (1, .const (.int .u8 9))] ?_ _ ?_ _ HI9.out ?_)); (exact rfl); (exact rfl); (exact rfl))
      | ((with_reducible (refine wpList_store_mid rfl _ _ _ rfl ?_ ?_ ?_ ?_ ?_ ?_ ?_ ?_ ?_)); (exact g8); (exact (kk * 65 + 1)); (exact (l9).toArray); (exact rfl); (exact rfl); (exact HT12.out); (exact HIIA.out); (exact HOI.out); rw [HW12.out])
      | ((with_reducible (refine wpList_load_cells 28 _ p13 0 (lb) HRG12.out Tryz.underlying28 rfl HITL.out ?_ rfl ?_ ?_)); (exact rfl); (exact rfl)))
    refine HDB.out.mono ?_
    clear HDB c13b
    rintro e w13 ⟨rfl, hb13⟩
    have HR13 := Lib.hid (HR12.out.below hb13)
    have HB13 : Hid (Below w3.heap.size w3 w13) := Lib.hid (HB12.out.trans (hb13.mono HB12.out.size))
    clear hb13
    go_wp2_with fail
    have HNM := Lib.hid (rnames_any HR13.out.dr.refs HR13.out.ok (by decide))
    rw [show List.length rf0.all = 0 from rfl] at HNM
    refine HNM.out.mono ?_
    clear HNM
    rintro e w14 ⟨v14, rfl, hov, hb14⟩
    obtain ⟨A14, c14, rfl, _⟩ := own_slice hov
    have HR14 := Lib.hid (HR13.out.below hb14)
    have HB14 : Hid (Below w3.heap.size w3 w14) := Lib.hid (HB13.out.trans (hb14.mono HB13.out.size))
    clear hov hb14
    go_wp2_with fail
    have HLG := Lib.hid (log_any HR14.out.dr.refs HR14.out.ok (by decide))
    rw [show List.length rf0.log = 0 from rfl] at HLG
    refine HLG.out.mono ?_
    clear HLG
    rintro e w15 ⟨A15, c15, rfl, _, hb15⟩
    have HR15 := Lib.hid (HR14.out.below hb15)
    have HB15 : Hid (Below w3.heap.size w3 w15) := Lib.hid (HB14.out.trans (hb15.mono HB14.out.size))
    clear hb15 z1 z2
    -- the turn as a whole
    have HRW15 : Hid (w15.heap[p7]? = some (.cells (txC Ai i ci (txT i)).toArray 28 (0, 0))) := Lib.hid ((HB15.out.block _ (Array.getElem?_eq_some_iff.1 HRW3.out).1).trans HRW3.out)
    have HOW15 := Lib.hid (own_below HOW3.out HB15.out)
    have HRG15 := Lib.hid (range_of_row HRW15.out)
    have HIT15 : Hid ((Tryz.prog.info? 28).map (·.size) = some (txC Ai i ci (txT i)).length) := Lib.hid (info_txl (t := txT i) rfl)
    have HSAF : Hid (∀ a, Ai = some a → a.block < wr.heap.size) := Lib.hid (fun a ha => (HOW.out.lt a.block (by rw [ha]; rfl)).2)
    have HDT := Lib.hid (HR15.out.turn (by omega) Ai i ci (txT i) (upsT_length i) (txT_ok (by omega)) (own_rd HOW15.out) (fun _ a ha hf => by
      have h1 := HR15.out.foot_ge hf
      have h2 := HSAF.out a ha
      omega) (by have := (recT (n := i) (by omega)).2; omega) ⟨by decide, by decide⟩ (by have := (recT (n := i) (by omega)).1; simp; omega))
    rw [doT HNI.out (by omega)] at HDT
    obtain ⟨l7, hl7⟩ : ∃ l, txC Ai i ci (txT i) = l := ⟨_, rfl⟩
    have HL7 := Lib.hid hl7
    rw [hl7] at HRG15 HIT15 HDT
    obtain ⟨_, hal, hll, _, _, _⟩ := wholeP i (by omega)
    have HAL := Lib.hid hal
    have HLLn := Lib.hid hll
    clear hl7 hal hll
    go_wp2_with ((with_reducible (refine wpList_load_cells 28 _ p7 0 (l7) HRG15.out Tryz.underlying28 rfl HIT15.out ?_ rfl ?_ ?_)); (exact rfl); (exact rfl))
    refine HDT.out.mono ?_
    clear HDT
    rintro e w16 ⟨rfl, d16, q16, hr16, hb16, _⟩
    obtain ⟨bs16, hbs16⟩ : ∃ x, bytP rf0 [] (txT i) = x := ⟨_, rfl⟩
    have HBS16 : Hid (bs16.length ≤ 2000) := Lib.hid (by
      rw [← hbs16]
      have h1 := (recT (n := i) (by omega)).1
      unfold bytP
      split
      · simp
      · split
        · simp
        · simpa using h1)
    obtain ⟨L16, hL16⟩ : ∃ x, 0 + (recordB (txT i)).length = x := ⟨_, rfl⟩
    have HL16 : Hid (L16 ≤ 2000) := Lib.hid (by rw [← hL16]; have h1 := (recT (n := i) (by omega)).1; omega)
    obtain ⟨rT, hrT⟩ : ∃ x, makeR rf0 (txT i) = x := ⟨_, rfl⟩
    have HRT := Lib.hid hrT
    rw [hbs16, hL16] at hr16
    simp only [hrT] at hr16
    have HR16 : Hid (RefsAt wr.heap.size w16 g gr rT bs16 1048576 L16 d16 q16) := Lib.hid hr16
    have HB16 : Hid (Below wr.heap.size wr w16) := Lib.hid ((HB3.out.trans (HB15.out.mono HB3.out.size)).trans hb16)
    rw [hrT] at HAL HLLn
    clear hr16 hb16 hbs16 hL16 hrT
    go_wp2_with fail
    have HNM := Lib.hid (rnames_any HR16.out.dr.refs HR16.out.ok (by rw [HAL.out]; omega))
    rw [HAL.out] at HNM
    refine HNM.out.mono ?_
    clear HNM
    rintro e w17 ⟨v17, rfl, hov, hb17⟩
    obtain ⟨A17, c17, rfl, _⟩ := own_slice hov
    have HR17 := Lib.hid (HR16.out.below hb17)
    have HB17 : Hid (Below wr.heap.size wr w17) := Lib.hid (HB16.out.trans (hb17.mono HB16.out.size))
    clear hov hb17
    go_wp2_with fail
    have HLG := Lib.hid (log_any HR17.out.dr.refs HR17.out.ok (by rw [HLLn.out]; omega))
    rw [HLLn.out] at HLG
    refine HLG.out.mono ?_
    clear HLG
    rintro e w18 ⟨A18, c18, rfl, _, hb18⟩
    have HR18 := Lib.hid (HR17.out.below hb18)
    have HB18 : Hid (Below wr.heap.size wr w18) := Lib.hid (HB17.out.trans (hb18.mono HB17.out.size))
    clear hb18
    -- the turn back
    obtain ⟨wL, hwL⟩ : ∃ x, x = wr := ⟨_, rfl⟩
    subst hwL
    obtain ⟨gA, cA, eA, _, _⟩ := own_some HOW.out HNI.out
    obtain ⟨rfl, rfl⟩ : Ai = some ⟨gA, 0, none⟩ ∧ ci = cA := by simpa using eA
    clear eA
    have hb1L : Below w1.heap.size w1 w18 := HBW.out.trans (HB18.out.mono HBW.out.size)
    have HR518 : Hid (w18.heap[p5]? = some (.cells li.toArray 24 (0, 0))) := Lib.hid ((hb1L.block _ (Array.getElem?_eq_some_iff.1 HR5.out).1).trans HR5.out)
    have HRG5 := Lib.hid (range_of_row HR518.out)
    have HB1L := Lib.hid hb1L
    have HRW18 : Hid (w18.heap[p7]? = some (.cells (txC (some ⟨gA, 0, none⟩) i ci (txT i)).toArray 28 (0, 0))) := Lib.hid ((HB18.out.block _ (Array.getElem?_eq_some_iff.1 HRW.out).1).trans HRW.out)
    have HOW18 := Lib.hid (own_below HOW.out HB18.out)
    obtain ⟨p14, hp14⟩ : ∃ x, w18.heap.size = x := ⟨_, rfl⟩
    obtain ⟨WE, hWE⟩ : ∃ W, w18.alloc (.cells #[Value.slice none 0 0, Value.string ⟨#[]⟩, Value.int .u8 0, Value.int .u8 0, Value.int .u8 0, Value.int .u8 0, Value.int .u8 0, Value.int .u8 0, Value.int .u8 0, Value.int .u8 0, Value.int .u8 0, Value.int .u8 0, Value.int .u8 0, Value.int .u8 0, Value.int .u8 0, Value.int .u8 0, Value.int .u8 0, Value.int .u8 0, Value.int .u8 0, Value.int .u8 0, Value.int .u8 0, Value.int .u8 0, Value.int .u8 0, Value.int .u8 0, Value.int .u8 0, Value.int .u8 0, Value.int .u8 0, Value.int .u8 0, Value.int .u8 0, Value.int .u8 0, Value.int .u8 0, Value.int .u8 0, Value.int .u8 0, Value.int .u8 0] 28) = W := ⟨_, rfl⟩
    obtain ⟨rE, bE, sE⟩ := new_row hWE
    rw [hp14, ← HLZ.out] at rE
    have hl14 : (txC none 0 0 (txQ 0 id)).length = 34 := txC_len HIDL.out
    obtain ⟨WF, hWF, TF, RF, GF⟩ := put_rowR (new := txC none 0 0 (txQ 0 id)) rE (by rw [hl14, HLZL.out])
    have bF : Below w18.heap.size w18 WF := bel_grown bE bE.size GF.out (by omega)
    have HBF := Lib.hid bF
    have HWF := Lib.hid hWF
    have HTF := Lib.hid TF.out
    have HRF := Lib.hid RF.out
    have HP14 : Hid (w18.heap.size = p14 ∧ p14 < WF.heap.size) := Lib.hid ⟨hp14, (Array.getElem?_eq_some_iff.1 RF.out).1⟩
    have HT14 : Hid (Tryz.prog.built 28 [(2, .agg li.toArray)] = some (txC none 0 0 (txQ 0 id)).toArray) := Lib.hid (by rw [← HLI.out]; exact tx_built3 HIDL.out)
    have HIT14 : Hid ((Tryz.prog.info? 28).map (·.size) = some (txC none 0 0 (txQ 0 id)).toArray.size) := Lib.hid (info_txa (t := txQ 0 id) HIDL.out)
    have HOT14 : Hid ((txC none 0 0 (txQ 0 id)).toArray.all (·.oneCell') = true) := Lib.hid (all_oneCell_toArray (txC_one _ _ _ _))
    have c7F : WF.cell? ⟨p7, 0, none⟩ = some (.slice (some ⟨gA, 0, none⟩) i ci) := (tx_cells ((bF.block _ (Array.getElem?_eq_some_iff.1 HRW18.out).1).trans HRW18.out)).1
    obtain ⟨l14, hl14_⟩ : ∃ l, txC none 0 0 (txQ 0 id) = l := ⟨_, rfl⟩
    rw [hl14_] at HWF HTF HT14 HIT14 HOT14
    clear hb1L rE bE sE hl14 hWF TF RF GF bF hl14_
    go_wp2_with (first
      | ((with_reducible (refine wpList_load_cells 24 _ p5 0 (li) HRG5.out Tryz.underlying24 rfl HILI.out ?_ rfl ?_ ?_)); (exact rfl); (exact rfl))
      | ((with_reducible (refine wpList_built ?_ _ #[(2, .tmp 124)] ?_ _ ?_ _ HT14.out ?_)); (exact rfl); (exact rfl); (exact rfl))
      | ((with_reducible (refine wpList_store_mid rfl _ _ _ rfl ?_ ?_ ?_ ?_ ?_ ?_ ?_ ?_ ?_)); (exact p14); (exact 0); (exact (l14).toArray); (exact rfl); (exact rfl); (exact HTF.out); (exact HIT14.out); (exact HOT14.out); rw [HWF.out]))
    clear hp14 hWE c7F
    go_loopg [129] (i * 1) (fun gk_ jv wr => ∃ (j : Nat) (Ab : Option Addr) (cb : Nat), j ≤ i ∧ gk_ = i - j ∧ jv = .int .i64 (j : Int) ∧ Hid (wr.heap[p14]? = some (.cells (txC Ab j cb (txQ j id)).toArray 28 (0, 0))) ∧ Hid (wr.ownsRow WF.heap.size 31 65 (.slice Ab j cb) j (upsC (upsQ j))) ∧ Hid (Below w18.heap.size w18 wr) ∧ Hid (WF.heap.size ≤ wr.heap.size))
    case atStart => exact ⟨0, none, 0, by omega, by omega, rfl, HRF, Lib.hid (World.ownsRow_nil _ _ _ _), HBF, Lib.hid (Nat.le_refl _)⟩
    case round =>
    clear HRF HTF HBF
    obtain ⟨j, Ab, cb, hj, rfl, rfl, HRJ, HOJ, HBJ, HSJ⟩ := hrel
    by_cases hlt2 : j < i
    · have j2 : (j : Int) < (i : Int) := by omega
      have hjl : j < (upsT i).length := by rw [upsT_length]; exact hlt2
      have hrow := rd_flat (f := upC) (m := 65) (own_rd (own_below HOW18.out HBJ.out)) (fun u hu => by
        obtain ⟨k, _, rfl⟩ := List.mem_map.1 hu
        exact upC_len (upT_ok k)) j hjl
      rw [Nat.zero_add, show (upsT i)[j] = upT j by simp [upsT]] at hrow
      have HRWJ := Lib.hid hrow
      obtain ⟨u, hu⟩ : ∃ u, upT j = u := ⟨_, rfl⟩
      obtain ⟨v, hv⟩ : ∃ v, upQ j = v := ⟨_, rfl⟩
      have HOKU : Hid (upOk u) := Lib.hid (by rw [← hu]; exact upT_ok j)
      have HOKV : Hid (upOk v) := Lib.hid (by rw [← hv]; exact upQ_ok j)
      have HUV : Hid (v.name = u.name ∧ v.old = u.new ∧ v.new = Z32) := Lib.hid (by rw [← hu, ← hv]; exact ⟨rfl, rfl, rfl⟩)
      have HVQ := Lib.hid hv
      rw [hu] at HRWJ
      obtain ⟨p16, hp16⟩ : ∃ x, wr.heap.size = x := ⟨_, rfl⟩
      obtain ⟨WG, hWG⟩ : ∃ W, wr.alloc (.cells Tryz.zeroCells31 31) = W := ⟨_, rfl⟩
      obtain ⟨rG, bG, sG⟩ := new_row hWG
      rw [hp16, upZ_eq] at rG
      obtain ⟨WH, hWH, TH, RH, GH⟩ := put_rowR (new := upC u) rG (by rw [upC_len HOKU.out]; rfl)
      have HWH := Lib.hid hWH
      have bH : Below wr.heap.size wr WH := bel_grown bG bG.size GH.out (by omega)
      have HIL := Lib.hid (info_upl HOKU.out)
      have HIA := Lib.hid (info_upa HOKU.out)
      have HOC : Hid ((upC u).toArray.all (·.oneCell') = true) := Lib.hid (all_oneCell_toArray (upC_one u))
      obtain ⟨Yj, hYj, hYjs⟩ : ∃ X : ByteArray, strV u.name = .string X ∧ X.data.toList = u.name := ⟨_, rfl, rfl⟩
      obtain ⟨cu0, _, cu2⟩ := up_cells RH.out HOKU.out
      rw [hYj] at cu0
      have HRU2 := Lib.hid cu2
      have HIN := Lib.hid (info_idl u.new HOKU.out.2.1)
      have HUB : Hid (Tryz.prog.built 31 [(0, .string Yj), (1, .agg (b8s u.new).toArray)] = some (upC v).toArray) := Lib.hid (by rw [← hYj, ← HUV.out.1, ← HUV.out.2.1]; exact up_built3 HOKV.out HUV.out.2.2)
      have cH : WH.cell? ⟨p14, 0, none⟩ = some (.slice Ab j cb) := (tx_cells ((bH.block _ (Array.getElem?_eq_some_iff.1 HRJ.out).1).trans HRJ.out)).1
      obtain ⟨p17, hp17⟩ : ∃ x, WH.heap.size = x := ⟨_, rfl⟩
      obtain ⟨WI, hWI⟩ : ∃ W, WH.alloc (.cells (upC v).toArray 31) = W := ⟨_, rfl⟩
      obtain ⟨rI, bI, sI⟩ := new_row hWI
      rw [hp17] at rI
      have bI' : Below wr.heap.size wr WI := bH.trans (bI.mono bH.size)
      have HBI := Lib.hid bI'
      have HOI2 := Lib.hid (own_below HOJ.out bI')
      have HRDI : Hid (Rd WI (some ⟨p17, 0, none⟩) (upC v)) := Lib.hid (range_rd (range_of_row rI))
      have HIB9 : Hid ((Tryz.prog.info? 31).map (fun i => (i.size, i.zero.isSome)) = some ((upC v).length, true)) := Lib.hid (by rw [upC_len HOKV.out]; kernel_rfl)
      have HUL9 := Lib.hid (upC_len HOKV.out)
      have HO1v : Hid (∀ x ∈ upC v, x.oneCell' = true) := Lib.hid (upC_one v)
      have HNEJ : Hid (∀ b, (Value.slice Ab j cb).ownBlock = some b → p14 < b) := Lib.hid (fun b hb => by
        have := (HOJ.out.lt b hb).1
        have := HP14.out.2
        omega)
      have HRI : Hid (WI.heap[p14]? = some (.cells (txC Ab j cb (txQ j id)).toArray 28 (0, 0))) := Lib.hid ((bI'.block _ (Array.getElem?_eq_some_iff.1 HRJ.out).1).trans HRJ.out)
      have HFC : Hid (∀ W', WI.grownBy W' (Value.slice Ab j cb).ownBlock → W'.heap[p14]? = some (.cells (txC Ab j cb (txQ j id)).toArray 28 (0, 0)) ∧ W'.cell? ⟨p14, 0, none⟩ = some (.slice Ab j cb) ∧ W'.frozen? ⟨p14, 0, none⟩ = false) := Lib.hid (fun W' hg => by
        have h1 := (hg.block _ (Array.getElem?_eq_some_iff.1 HRI.out).1 (fun e => by have := HNEJ.out _ e.symm; omega)).trans HRI.out
        exact ⟨h1, (tx_cells h1).1, row_free h1 0⟩)
      have HSZI : Hid (WF.heap.size ≤ WI.heap.size) := Lib.hid (Nat.le_trans HSJ.out bI'.size)
      obtain ⟨la, hla⟩ : ∃ l, upC u = l := ⟨_, rfl⟩
      obtain ⟨ln, hln⟩ : ∃ l, b8s u.new = l := ⟨_, rfl⟩
      obtain ⟨lv, hlv⟩ : ∃ l, upC v = l := ⟨_, rfl⟩
      have HLV := Lib.hid hlv
      rw [hla] at HRWJ HIL HIA HOC HWH TH
      rw [hln] at HRU2 HIN HUB
      rw [hlv] at hWI HRDI HUB HIB9 HUL9 HO1v
      clear hjl hrow hu hv rG bG sG hWH RH GH bH hYj hYjs cu2 rI bI sI bI' hla hln hlv
      go_wp2_with (first
        | ((with_reducible (refine wpList_load_cells 31 _ gA (j * 65) (la) HRWJ.out Tryz.underlying31 rfl HIL.out ?_ rfl ?_ ?_)); (exact rfl); (exact rfl))
        | ((with_reducible (refine wpList_store_mid rfl _ _ _ rfl ?_ ?_ ?_ ?_ ?_ ?_ ?_ ?_ ?_)); (exact p16); (exact 0); (exact (la).toArray); (exact rfl); (exact rfl); (exact TH.out); (exact HIA.out); (exact HOC.out); rw [HWH.out])
        | ((with_reducible (refine wpList_load_cells 24 _ p16 33 (ln) HRU2.out Tryz.underlying24 rfl HIN.out ?_ rfl ?_ ?_)); (exact rfl); (exact rfl))
        | ((with_reducible (refine wpList_built ?_ _ #[(0, .tmp 136), (1, .tmp 138)] ?_ _ ?_ _ HUB.out ?_)); (exact rfl); (exact rfl); (exact rfl))
        | (refine wpList_build1 rfl 26 31 _ rfl lv rfl Tryz.underlying26 HIB9.out (by rw [HUL9.out]; omega) (by rw [HUL9.out]; omega) ?_)
        | (at_builtin; (try rw [hWI]); (try rw [hp17]); go_loud (refine wpList_append_rd _ rfl _ _ 26 rfl WF.heap.size 31 _ 65 80 Tryz.underlying26 info_up65 (by simp [Value.cells, b8s]) (by decide) (.slice Ab j cb) j _ rfl HOI2.out _ 1 1 lv rfl (by rw [HUL9.out]) HRDI.out HO1v.out (by unfold maxLen; omega) (by omega) HSZI.out ?_); intro v8 wX ho8 hg8 hvb8; obtain ⟨A9, c9, e8, _⟩ := own_slice ho8; subst e8; obtain ⟨hr8, c8K, f8K⟩ := HFC.out _ hg8; have HR8 := Lib.hid hr8; have HO9 := Lib.hid ho8; have HG9 := Lib.hid hg8; clear hr8 ho8 hg8 hvb8))
      clear hp16 hWG hp17 hWI cu0 cH
      go_roundg (i - (j + 1))
      case measure => omega
      case rel =>
        have hs := grown_set (w := wX) p14 0 (.slice A9 (j + 1) c9)
        have hb8 : Below w18.heap.size w18 wX := by
          have h0 : Below w18.heap.size w18 WI := HBJ.out.trans (HBI.out.mono HBJ.out.size)
          cases hv : (Value.slice Ab j cb).ownBlock with
          | none => have h1 := HG9.out; rw [hv] at h1; exact h0.trans ((grown_none h1).mono h0.size)
          | some b =>
            have h1 := HG9.out
            rw [hv] at h1
            have := HNEJ.out b hv
            have := HP14.out.1
            exact bel_grown h0 h0.size h1 (by omega)
        refine ⟨j + 1, A9, c9, by omega, rfl, by first | rfl | exact congrArg (Value.int .i64) (by omega) | go_num, Lib.hid ?_, Lib.hid ?_, Lib.hid (bel_grown hb8 hb8.size hs (by have := HP14.out; omega)), Lib.hid (Nat.le_trans (Nat.le_trans HSZI.out HG9.out.size) hs.size)⟩
        · exact row_set HR8.out 0 (.slice A9 (j + 1) c9)
        · rw [upsQ_succ, upsC_app, show upsC [upQ j] = lv by rw [HVQ.out, ← HLV.out]; simp [upsC]]
          exact own_far HO9.out HP14.out.2 hs
    · obtain rfl : j = i := by omega
      have HRJ2 := HRJ
      have HRG14 := Lib.hid (range_of_row HRJ.out)
      have HITQ : Hid ((Tryz.prog.info? 28).map (·.size) = some (txC Ab j cb (txQ j id)).length) := Lib.hid (info_txl (t := txQ j id) HIDL.out)
      obtain ⟨r, hd, hall, hhd, hat⟩ := doQ (id := id) HNI.out (by omega)
      rw [HRT.out] at hd
      have hrq := recQ (n := j) (by omega) HIDL.out
      have HDQ := Lib.hid ((HR18.out.below HBJ.out).turn (by have := HL16.out; omega) Ab j cb (txQ j id) (upsQ_length j) (txQ_ok (by omega) HIDL.out) (own_rd HOJ.out) (fun _ a ha hf => by
        have h1 := HR18.out.foot_lt hf
        have h2 := (HOJ.out.lt a.block (by rw [ha]; rfl)).1
        have h3 := HP14.out
        omega) (by omega) ⟨by rw [HAL.out]; omega, by rw [HLLn.out]; omega⟩ (by have := HBS16.out; omega))
      rw [hd] at HDQ
      obtain ⟨lq, hlq⟩ : ∃ l, txC Ab j cb (txQ j id) = l := ⟨_, rfl⟩
      rw [hlq] at HRG14 HITQ HDQ
      have HALL := Lib.hid hall
      have HHD := Lib.hid hhd
      have HAT := Lib.hid hat
      clear hd hall hhd hat hrq hlq
      go_wp2_with ((with_reducible (refine wpList_load_cells 28 _ p14 0 (lq) HRG14.out Tryz.underlying28 rfl HITQ.out ?_ rfl ?_ ?_)); (exact rfl); (exact rfl))
      refine HDQ.out.mono ?_
      clear HDQ
      rintro e w20 ⟨rfl, d20, q20, hr20, hb20, _⟩
      have HB20 : Hid (Below w1.heap.size w1 w20) := Lib.hid ((HB1L.out.trans (HBJ.out.mono HB1L.out.size)).trans (hb20.mono HBW.out.size))
      have HR20 := Lib.hid hr20
      clear hr20 hb20
      go_wp2_with fail
      have HNM := Lib.hid (rnames_any HR20.out.dr.refs HR20.out.ok (by first | (rw [HALL.out]; decide) | (show r.all.length ≤ 1000000; rw [HALL.out]; decide)))
      simp only [HALL.out, List.length_nil] at HNM
      refine HNM.out.mono ?_
      clear HNM
      rintro e w21 ⟨v21, rfl, hov, hb21⟩
      obtain ⟨A21, c21, rfl, _⟩ := own_slice hov
      have HR21 := Lib.hid (HR20.out.below hb21)
      have HB21 : Hid (Below w1.heap.size w1 w21) := Lib.hid (HB20.out.trans (hb21.mono HB20.out.size))
      clear hov hb21
      go_wp2_with fail
      have HHE := Lib.hid (head_any HR21.out.dr.refs HR21.out.ok)
      by_cases hidz : id = Z32
      · have hh : r.head = mainB := by rw [HHD.out, if_pos hidz]
        simp only [hh] at HHE
        rw [show strV mainB = .string ⟨#[104, 101, 97, 100, 115, 47, 109, 97, 105, 110]⟩ from rfl] at HHE
        obtain ⟨hv, hhv⟩ : ∃ x, headR r = x := ⟨_, rfl⟩
        have hvl : hv.length = 32 := by
          rw [← hhv]
          unfold headR
          split
          · exact HR21.out.ok.al
          · exact getA_len HR21.out.ok.ids _
        simp only [hhv] at HHE
        refine HHE.out.mono ?_
        clear HHE
        rintro e w22 ⟨rfl, hb22⟩
        have HB22 : Hid (Below w1.heap.size w1 w22) := Lib.hid (HB21.out.trans (hb22.mono HB21.out.size))
        obtain ⟨p18, Wa, W23, hH, hWa, hW23, HTH, HR23, HB23, _⟩ := arr_place (w := w22) 24 hv hvl
        have HIA := Lib.hid (info_ida hv hvl)
        have HOC : Hid ((b8s hv).toArray.all (·.oneCell') = true) := Lib.hid (all_oneCell_toArray (b8s_one' _))
        have HW23 := Lib.hid hW23
        have HB1F : Hid (Below w1.heap.size w1 W23) := Lib.hid (HB22.out.trans (HB23.out.mono HB22.out.size))
        have HRF5 : Hid (W23.rangeAt p5 0 li) := Lib.hid (range_of_row ((HB1F.out.block _ (Array.getElem?_eq_some_iff.1 HR5.out).1).trans HR5.out))
        have hq : ∀ W, (binOp .eql 24 (.agg li.toArray) (.agg l0.toArray)).run Tryz.prog W = .ok (.bool true) W := by
          intro W
          rw [← HLI.out, ← HL0.out, hidz, id_eql Z32 Z32 rfl rfl W, decide_eq_true rfl]
        obtain ⟨lh, hlh⟩ : ∃ l, b8s hv = l := ⟨_, rfl⟩
        rw [hlh] at HIA HOC HW23 HTH ⊢
        clear hb22 hW23 hlh hh hidz hhv
        go_wp2_with (first
          | ((with_reducible (refine wpList_store_mid rfl _ _ _ rfl ?_ ?_ ?_ ?_ ?_ ?_ ?_ ?_ ?_)); (exact p18); (exact 0); (exact (lh).toArray); (exact rfl); (exact rfl); (exact HTH.out); (exact HIA.out); (exact HOC.out); rw [HW23.out])
          | ((with_reducible (refine wpList_load_cells 24 _ p5 0 (li) HRF5.out Tryz.underlying24 rfl HILI.out ?_ rfl ?_ ?_)); (exact rfl); (exact rfl))
          | ((with_reducible (refine wpList_built ?_ _ #[] ?_ _ ?_ _ HID0.out ?_)); (exact rfl); (exact rfl); (exact rfl)))
        go_ret
        exact ⟨rfl, HB1.out.trans (HB1F.out.mono HB1.out.size)⟩
      · have hh : r.head = [] := by rw [HHD.out, if_neg hidz]
        have hv : headR r = id := by
          unfold headR
          rw [if_pos hh]
          exact HAT.out hidz
        simp only [hh, hv] at HHE
        rw [show strV [] = .string ⟨#[]⟩ from rfl] at HHE
        refine HHE.out.mono ?_
        clear HHE
        rintro e w22 ⟨rfl, hb22⟩
        have HB22 : Hid (Below w1.heap.size w1 w22) := Lib.hid (HB21.out.trans (hb22.mono HB21.out.size))
        obtain ⟨p18, Wa, W23, hH, hWa, hW23, HTH, HR23, HB23, _⟩ := arr_place (w := w22) 24 id HIDL.out
        have HIA := Lib.hid (info_ida id HIDL.out)
        have HOC : Hid ((b8s id).toArray.all (·.oneCell') = true) := Lib.hid (all_oneCell_toArray (b8s_one' _))
        have HW23 := Lib.hid hW23
        have HB1F : Hid (Below w1.heap.size w1 W23) := Lib.hid (HB22.out.trans (HB23.out.mono HB22.out.size))
        have HR5F : Hid (W23.heap[p5]? = some (.cells li.toArray 24 (0, 0))) := Lib.hid ((HB1F.out.block _ (Array.getElem?_eq_some_iff.1 HR5.out).1).trans HR5.out)
        have HRF5 := Lib.hid (range_of_row HR5F.out)
        have hq : ∀ W, (binOp .eql 24 (.agg li.toArray) (.agg l0.toArray)).run Tryz.prog W = .ok (.bool false) W := by
          intro W
          rw [← HLI.out, ← HL0.out, id_eql id Z32 HIDL.out rfl W, decide_eq_false hidz]
        have hq2 : ∀ W, (binOp .eql 24 (.agg li.toArray) (.agg li.toArray)).run Tryz.prog W = .ok (.bool true) W := by
          intro W
          rw [← HLI.out, id_eql id id HIDL.out HIDL.out W, decide_eq_true rfl]
        rw [HLI.out] at HIA HOC HW23 HTH HR23 ⊢
        clear hb22 hW23 hh hidz hv
        go_wp2_with (first
          | ((with_reducible (refine wpList_store_mid rfl _ _ _ rfl ?_ ?_ ?_ ?_ ?_ ?_ ?_ ?_ ?_)); (exact p18); (exact 0); (exact (li).toArray); (exact rfl); (exact rfl); (exact HTH.out); (exact HIA.out); (exact HOC.out); rw [HW23.out])
          | ((with_reducible (refine wpList_load_cells 24 _ p5 0 (li) HRF5.out Tryz.underlying24 rfl HILI.out ?_ rfl ?_ ?_)); (exact rfl); (exact rfl))
          | ((with_reducible (refine wpList_built ?_ _ #[] ?_ _ ?_ _ HID0.out ?_)); (exact rfl); (exact rfl); (exact rfl))
          | ((with_reducible (refine wpList_load_row_w _ _ rfl _ rfl _ _ _ _ HR23.out Tryz.underlying24 rfl HIA.out ?_ ?_)); (focus (rfl)))
          | ((with_reducible (refine wpList_load_row_w _ _ rfl _ rfl _ _ _ _ HR5F.out Tryz.underlying24 rfl HIA.out ?_ ?_)); (focus (rfl))))
        go_ret
        exact ⟨rfl, HB1.out.trans (HB1F.out.mono HB1.out.size)⟩
end Go.Proofs.YtelbofikcpchiaaGreat
