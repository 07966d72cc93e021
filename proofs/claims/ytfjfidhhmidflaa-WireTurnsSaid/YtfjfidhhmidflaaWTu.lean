
/- WireTurns: the walk. (Printed by wip/genWTu.py.) -/

import Derived.Test.YtfjfidhhmidflaaLetC

import Derived.Test.YtfjfidhhmidflaaLet21

namespace Go.Proofs.Ytfjfidhhmidflaa

set_option linter.unusedVariables false

set_option linter.unusedSimpArgs false

open Go.RowKit

theorem i64_and_mask (x : Int) (m : Nat) (hm : m < 9223372036854775808) : ∃ n : Nat, n ≤ m ∧ bits .and .i64 x (m : Int) = (n : Int) := by
  refine ⟨(BitVec.ofInt 64 x &&& BitVec.ofInt 64 (m : Int)).toNat, ?_, ?_⟩
  · rw [BitVec.toNat_and]
    refine Nat.le_trans Nat.and_le_right ?_
    rw [BitVec.ofInt_natCast, BitVec.toNat_ofNat]
    exact Nat.mod_le _ _
  · show IntKind.i64.wrap ((BitVec.ofInt 64 x &&& BitVec.ofInt 64 (m : Int)).toNat : Int) = _
    have h1 : (BitVec.ofInt 64 x &&& BitVec.ofInt 64 (m : Int)).toNat ≤ m := by
      rw [BitVec.toNat_and]
      refine Nat.le_trans Nat.and_le_right ?_
      rw [BitVec.ofInt_natCast, BitVec.toNat_ofNat]
      exact Nat.mod_le _ _
    exact IntWalk.i64_in _ (by omega)
/-- a byte with bit r turned -/
def flipB (c : UInt8) (r : Nat) : UInt8 := UInt8.ofNat (c.toNat ^^^ 2 ^ r)
theorem flip_val (c : UInt8) (r : Nat) (hr : r < 8) : bits .xor .u8 (c.toNat : Int) ((2 : Int) ^ r % 256) = ((flipB c r).toNat : Int) := by
  have h : 2 ^ r < 2 ^ 8 := Nat.pow_lt_pow_right (by decide) hr
  have e : ((2 : Int) ^ r % 256) = ((2 ^ r : Nat) : Int) := by
    rw [Int.emod_eq_of_lt]
    · simp
    · exact Int.le_of_lt (Int.pow_pos (by decide))
    · have : ((2 ^ r : Nat) : Int) < 256 := by omega
      simpa using this
  have hl : c.toNat ^^^ 2 ^ r < 256 := Nat.xor_lt_two_pow (n := 8) c.toNat_lt h
  have ht : (flipB c r).toNat = c.toNat ^^^ 2 ^ r := by
    unfold flipB
    rw [UInt8.toNat_ofNat']
    exact Nat.mod_eq_of_lt hl
  rw [e, u8_xor_nat _ _ c.toNat_lt (by omega), ht]
/-- what one turn of a bit does to the loop's relation -/
theorem turn_step {w wr : World} {N g g0 c1 f n : Nat} {ms : List UInt8} {zs : Array Value} {T : TypeId} (hl : ms.length = n) (hj : f / 8 < ms.length)
    (hown : wr.ownsRow N 5 1 (.slice (some ⟨g, 0, none⟩) n c1) n (b8s ms)) (hbel : Below N w wr) (hsz : N ≤ wr.heap.size) (hg : N ≤ g) (hne : g0 ≠ g) (hz : wr.heap[g0]? = some (.cells zs T (0, 0))) :
    ∃ ms' : List UInt8, ms'.length = n ∧
      ((wr.setCell ⟨g, f / 8, none⟩ (.int .u8 (bits .xor .u8 (ms[f / 8].toNat : Int) ((2 : Int) ^ (f % 8) % 256)))).drew).ownsRow N 5 1 (.slice (some ⟨g, 0, none⟩) n c1) n (b8s ms') ∧
      Below N w (wr.setCell ⟨g, f / 8, none⟩ (.int .u8 (bits .xor .u8 (ms[f / 8].toNat : Int) ((2 : Int) ^ (f % 8) % 256)))).drew ∧
      N ≤ (wr.setCell ⟨g, f / 8, none⟩ (.int .u8 (bits .xor .u8 (ms[f / 8].toNat : Int) ((2 : Int) ^ (f % 8) % 256)))).drew.heap.size ∧
      (wr.setCell ⟨g, f / 8, none⟩ (.int .u8 (bits .xor .u8 (ms[f / 8].toNat : Int) ((2 : Int) ^ (f % 8) % 256)))).drew.heap[g0]? = some (.cells zs T (0, 0)) := by
  have h8 : f % 8 < 8 := by omega
  refine ⟨ms.set (f / 8) (flipB ms[f / 8] (f % 8)), by simp [hl], ?_, (hbel.setCell hg _).drew, by simpa [World.setCell] using hsz, ?_⟩
  · rw [flip_val _ _ h8]
    have := (hown.stored (f / 8) (.int .u8 ((flipB ms[f / 8] (f % 8)).toNat : Int))).1.drew
    have e : b8s (ms.set (f / 8) (flipB ms[f / 8] (f % 8))) = (b8s ms).set (f / 8) (.int .u8 ((flipB ms[f / 8] (f % 8)).toNat : Int)) := by
      simp [b8s, List.map_set]
    rw [e]
    exact this
  · exact (Below.heap_setCell _ _ _ _ hne).trans hz
/-- what a reading hands back, letter or none -/
theorem rd_out {w w' : World} {e : Ending} {o : Option Lt} (h : RdOut w w' e o) : ∃ (m : Lt) (p : LtP) (ec : Int), e = .returned (.tuple #[m.val p, .int .i64 ec]) ∧ LtIn w' m p ∧ Below w.heap.size w w' ∧ ((ec == 0) = true ∧ o = some m ∨ (ec == 0) = false ∧ o = none) := by
  cases o with
  | none =>
    obtain ⟨rfl, hb⟩ := h
    exact ⟨lt0, p0, 20, rfl, lt0_in w', hb, .inr ⟨rfl, rfl⟩⟩
  | some m =>
    obtain ⟨p, rfl, hin, hb⟩ := h
    exact ⟨m, p, 0, rfl, hin, hb, .inl ⟨rfl, rfl⟩⟩
theorem same_read {bs : List UInt8} {l m : Lt} (hr : rightL l = true) (ho : LtOk l) (h : readL bs = some m) : (sameL m l == decide (bs = writeB l)) = true := by
  have h1 := read_same hr ho h
  cases hs : sameL m l
  · have : ¬ bs = writeB l := fun e => by rw [(sameL_iff m l).2 (h1.2 e)] at hs; cases hs
    rw [decide_eq_false this]; rfl
  · rw [decide_eq_true (h1.1 ((sameL_iff m l).1 hs))]; rfl
theorem take_read {l m : Lt} {k : Nat} (hr : rightL l = true) (ho : LtOk l) (hk : k < (writeB l).length) (h : readL ((writeB l).take k) = some m) : sameL m l = false := by
  cases hs : sameL m l
  · rfl
  · have h1 := (read_same hr ho h).1 ((sameL_iff m l).1 hs)
    have := congrArg List.length h1
    rw [List.length_take] at this
    omega
theorem writeB_pos (l : Lt) : 4 ≤ (writeB l).length := by
  unfold writeB
  rw [List.length_append]
  have : (fourB (crc (inW l)).toNat).length = 4 := rfl
  omega

set_option maxRecDepth 100000 in
set_option maxHeartbeats 8000000 in
theorem wireTurns_no (l : Lt) (p : LtP) (x y z : Int) (w : World) (hin : LtIn w l p) (ht : -9223372036854775808 ≤ l.total ∧ l.total ≤ 9223372036854775807) (hr : rightL l = false) :
    Calls Try.prog 5 #[l.val p, .int .i64 x, .int .i64 y, .int .i64 z] w fun e w' => e = .returned (.bool true) ∧ Below w.heap.size w w' := by
  obtain ⟨W1, hW1⟩ : ∃ W, w.alloc (.cells (l.cells p).toArray 28) = W := ⟨_, rfl⟩
  obtain ⟨r1, b1, s1⟩ := new_row hW1
  obtain ⟨g, hg⟩ : ∃ g, w.heap.size = g := ⟨_, rfl⟩
  rw [hg] at r1
  have HGS : Hid (g < W1.heap.size) := Lib.hid (Array.getElem?_eq_some_iff.1 r1).1
  have HR1 := Lib.hid r1
  have HB1 := Lib.hid b1
  have HIN := Lib.hid (hin.below b1)
  have HLN := Lib.hid hin.len
  have HF : Hid (∀ W, Below W1.heap.size W1 W → W.heap[g]? = some (.cells (l.cells p).toArray 28 (0, 0))) := Lib.hid (fun W h => (h.block g HGS.out).trans HR1.out)
  have HBW : Hid (∀ W, Below W1.heap.size W1 W → Below w.heap.size w W) := Lib.hid (fun W h => HB1.out.trans (h.mono (by rw [hg]; exact Nat.le_of_lt HGS.out)))
  have HIL := Lib.hid (info_leta l p hin.len)
  have HT := Lib.hid ht
  have HR := Lib.hid hr
  clear hr
  unfold Lt.val
  clear r1 b1 s1 hin ht
  go_enter Try.func5, Try.ntmps5
  go_wp2_with fail
  clear hW1 hg
  refine (alive_any W1).mono ?_
  rintro e w2 ⟨rfl, hb2⟩
  have HB2 := Lib.hid hb2
  have HR2 := Lib.hid (HF.out _ hb2)
  have HIN2 := Lib.hid (HIN.out.below hb2)
  clear hb2
  go_wp2_with ((with_reducible (refine wpList_load_row_w _ _ rfl _ rfl _ _ _ _ HR2.out Try.underlying28 rfl HIL.out ?_ ?_)); (focus (rfl)))
  refine (write_bad l p w2 HIN2.out HT.out HR.out).mono ?_
  rintro e w3 ⟨rfl, hb3⟩
  have HB3 := Lib.hid (ext_trans HB2.out hb3)
  clear hb3
  go_wp2_with fail
  go_ret
  exact ⟨rfl, HBW.out _ HB3.out⟩

set_option maxRecDepth 100000 in
set_option maxHeartbeats 8000000 in
theorem wireTurns_far (l : Lt) (p : LtP) (x y z : Int) (w : World) (hin : LtIn w l p) (ht : -9223372036854775808 ≤ l.total ∧ l.total ≤ 9223372036854775807) (hr : rightL l = true) (hn : 1000 < (writeB l).length) :
    Calls Try.prog 5 #[l.val p, .int .i64 x, .int .i64 y, .int .i64 z] w fun e w' => e = .returned (.bool true) ∧ Below w.heap.size w w' := by
  obtain ⟨W1, hW1⟩ : ∃ W, w.alloc (.cells (l.cells p).toArray 28) = W := ⟨_, rfl⟩
  obtain ⟨r1, b1, s1⟩ := new_row hW1
  obtain ⟨g, hg⟩ : ∃ g, w.heap.size = g := ⟨_, rfl⟩
  rw [hg] at r1
  have HGS : Hid (g < W1.heap.size) := Lib.hid (Array.getElem?_eq_some_iff.1 r1).1
  have HR1 := Lib.hid r1
  have HB1 := Lib.hid b1
  have HIN := Lib.hid (hin.below b1)
  have HLN := Lib.hid hin.len
  have HF : Hid (∀ W, Below W1.heap.size W1 W → W.heap[g]? = some (.cells (l.cells p).toArray 28 (0, 0))) := Lib.hid (fun W h => (h.block g HGS.out).trans HR1.out)
  have HBW : Hid (∀ W, Below W1.heap.size W1 W → Below w.heap.size w W) := Lib.hid (fun W h => HB1.out.trans (h.mono (by rw [hg]; exact Nat.le_of_lt HGS.out)))
  have HIL := Lib.hid (info_leta l p hin.len)
  have HT := Lib.hid ht
  have HR := Lib.hid hr
  have HN := Lib.hid hn
  clear hr hn
  unfold Lt.val
  clear r1 b1 s1 hin ht
  go_enter Try.func5, Try.ntmps5
  go_wp2_with fail
  clear hW1 hg
  refine (alive_any W1).mono ?_
  rintro e w2 ⟨rfl, hb2⟩
  have HB2 := Lib.hid hb2
  have HR2 := Lib.hid (HF.out _ hb2)
  have HIN2 := Lib.hid (HIN.out.below hb2)
  clear hb2
  go_wp2_with ((with_reducible (refine wpList_load_row_w _ _ rfl _ rfl _ _ _ _ HR2.out Try.underlying28 rfl HIL.out ?_ ?_)); (focus (rfl)))
  refine (write_ok l p w2 HIN2.out HT.out HR.out).mono ?_
  rintro e w3 ⟨v3, rfl, hs3, hb3⟩
  have HB3 := Lib.hid (ext_trans HB2.out hb3)
  obtain ⟨A, n, c, rfl, hn, _, _, _⟩ := hs3
  have hz1 : (1000 : Int) < (n : Int) := by have := HN.out; omega
  clear hb3 hn
  go_wp2_with fail
  go_ret
  exact ⟨rfl, HBW.out _ HB3.out⟩

set_option maxRecDepth 100000 in
set_option maxHeartbeats 8000000 in
theorem wireTurns_near (l : Lt) (p : LtP) (x y z : Int) (w : World) (hin : LtIn w l p) (ht : -9223372036854775808 ≤ l.total ∧ l.total ≤ 9223372036854775807) (hr : rightL l = true) (hn : ¬ 1000 < (writeB l).length) :
    Calls Try.prog 5 #[l.val p, .int .i64 x, .int .i64 y, .int .i64 z] w fun e w' => e = .returned (.bool true) ∧ Below w.heap.size w w' := by
  obtain ⟨W1, hW1⟩ : ∃ W, w.alloc (.cells (l.cells p).toArray 28) = W := ⟨_, rfl⟩
  obtain ⟨r1, b1, s1⟩ := new_row hW1
  obtain ⟨g, hg⟩ : ∃ g, w.heap.size = g := ⟨_, rfl⟩
  rw [hg] at r1
  have HGS : Hid (g < W1.heap.size) := Lib.hid (Array.getElem?_eq_some_iff.1 r1).1
  have HR1 := Lib.hid r1
  have HB1 := Lib.hid b1
  have HIN := Lib.hid (hin.below b1)
  have HLN := Lib.hid hin.len
  have HF : Hid (∀ W, Below W1.heap.size W1 W → W.heap[g]? = some (.cells (l.cells p).toArray 28 (0, 0))) := Lib.hid (fun W h => (h.block g HGS.out).trans HR1.out)
  have HBW : Hid (∀ W, Below W1.heap.size W1 W → Below w.heap.size w W) := Lib.hid (fun W h => HB1.out.trans (h.mono (by rw [hg]; exact Nat.le_of_lt HGS.out)))
  have HIL := Lib.hid (info_leta l p hin.len)
  have HT := Lib.hid ht
  have HR := Lib.hid hr
  have HN := Lib.hid hn
  have HLO := Lib.hid hin.lok
  clear hr hn
  unfold Lt.val
  clear r1 b1 s1 hin ht
  go_enter Try.func5, Try.ntmps5
  go_wp2_with fail
  clear hW1 hg
  refine (alive_any W1).mono ?_
  rintro e w2 ⟨rfl, hb2⟩
  have HB2 := Lib.hid hb2
  have HR2 := Lib.hid (HF.out _ hb2)
  have HIN2 := Lib.hid (HIN.out.below hb2)
  clear hb2
  go_wp2_with ((with_reducible (refine wpList_load_row_w _ _ rfl _ rfl _ _ _ _ HR2.out Try.underlying28 rfl HIL.out ?_ ?_)); (focus (rfl)))
  refine (write_ok l p w2 HIN2.out HT.out HR.out).mono ?_
  rintro e w3 ⟨v3, rfl, hs3, hb3⟩
  have HB3 := Lib.hid (ext_trans HB2.out hb3)
  obtain ⟨bs, hbs⟩ : ∃ bs, writeB l = bs := ⟨_, rfl⟩
  have HBS := Lib.hid hbs
  rw [hbs] at hs3
  have HS3 := Lib.hid hs3
  obtain ⟨A, n, c, rfl, hn, hnc, hcm, hrd⟩ := hs3
  subst hn
  have hz1 : ¬ (1000 : Int) < (bs.length : Int) := by have := HN.out; rw [hbs] at this; omega
  have hlen : bs.length ≤ 1000 := by omega
  have hpos : 4 ≤ bs.length := by rw [← hbs]; exact writeB_pos l
  have HLEN := Lib.hid hlen
  have HPOS := Lib.hid hpos
  obtain ⟨N, hN⟩ : ∃ N, w3.heap.size = N := ⟨_, rfl⟩
  have HNN := Lib.hid hN
  have hst := Own8.startN w3 w3 N (hN ▸ Below.refl _ _) (Nat.le_of_eq hN.symm)
  have hra := hrd.alloc (.cells #[] 5)
  clear hb3 hbs hnc hN
  go_wp2_with (at_builtin; refine wpList_append_bytes rfl _ _ rfl bs rfl rfl hra hst (by simp; omega) ?_; intro v4 w4 hown hgr)
  clear hst hra hgr
  obtain ⟨gm, c1, rfl, hc1, hc2, hg1, hg2⟩ := own_head hown.own (by simp; omega)
  unfold maxLen at hc2
  simp only [List.nil_append] at hown hc1 ⊢
  obtain ⟨W5, hW5⟩ : ∃ W, w4.alloc (.cells #[.int .i64 x, .int .i64 y, .int .i64 z] 3) = W := ⟨_, rfl⟩
  obtain ⟨r5, b5, s5⟩ := new_row hW5
  have HO5 : Hid (W5.ownsRow N 5 1 (.slice (some ⟨gm, 0, none⟩) bs.length c1) bs.length (b8s bs)) := Lib.hid (hW5 ▸ hown.own.alloc _)
  obtain ⟨gz, hgz⟩ : ∃ gz, w4.heap.size = gz := ⟨_, rfl⟩
  rw [hgz] at r5
  have HZ5 := Lib.hid r5
  have HGZ : Hid (gz ≠ gm) := Lib.hid (by omega)
  have HB5 : Hid (Below N w3 W5) := Lib.hid (hown.bel.trans (b5.mono hown.sz))
  have HS5 : Hid (N ≤ W5.heap.size) := Lib.hid (by have := hown.sz; omega)
  have HGM := Lib.hid hg1
  have HC1 := Lib.hid hc1
  have HC2 := Lib.hid hc2
  clear r5 b5 s5 hown hg1 hg2
  go_wp2_with fail
  rw [hW5, hgz]
  clear hW5 hgz
  go_loopg [46] 3 (fun gk_ i wr => ∃ (k : Nat) (ms : List UInt8), k ≤ 3 ∧ gk_ = 3 - k ∧ i = .int .i64 (k : Int) ∧ Hid (ms.length = bs.length) ∧ Hid (wr.ownsRow N 5 1 (.slice (some ⟨gm, 0, none⟩) bs.length c1) bs.length (b8s ms)) ∧ Hid (Below N w3 wr) ∧ Hid (N ≤ wr.heap.size) ∧ Hid (wr.heap[gz]? = some (.cells #[.int .i64 x, .int .i64 y, .int .i64 z] 3 (0, 0))))
  case atStart => exact ⟨0, bs, by omega, by omega, rfl, Lib.hid rfl, HO5, HB5, HS5, HZ5⟩
  case round =>
  clear HO5 HB5 HS5 HZ5
  obtain ⟨k, ms, hk, rfl, rfl, HML, HOW, HBR, HSR, HZR⟩ := hrel
  by_cases hlt : k < 3
  · obtain ⟨v, hv⟩ : ∃ v : Int, (#[Value.int .i64 x, Value.int .i64 y, Value.int .i64 z] : Array Value)[k]? = some (.int .i64 v) := by
      match k, hlt with
      | 0, _ => exact ⟨x, rfl⟩
      | 1, _ => exact ⟨y, rfl⟩
      | 2, _ => exact ⟨z, rfl⟩
    have hcz : wr.cell? ⟨gz, k, none⟩ = some (.int .i64 v) := (row_cell HZR.out k).trans hv
    obtain ⟨x1, hx1, ex1⟩ : ∃ n : Nat, n ≤ 1048575 ∧ bits .and .i64 v 1048575 = (n : Int) := i64_and_mask v 1048575 (by omega)
    have hz0 : ((8 * (bs.length : Int)) == 0) = false := by rw [beq_eq_false_iff_ne]; omega
    have hd1 : (x1 : Int) % (8 * (bs.length : Int)) < 8 * bs.length := Int.emod_lt_of_pos _ (by omega)
    have hd2 : 0 ≤ (x1 : Int) % (8 * (bs.length : Int)) := Int.emod_nonneg _ (by omega)
    clear hv
    go_wp2_with fail
    obtain ⟨f, hf, ef⟩ : ∃ f : Nat, f < 8 * bs.length ∧ (x1 : Int) % (8 * (bs.length : Int)) = f := ⟨((x1 : Int) % (8 * (bs.length : Int))).toNat, by omega, by omega⟩
    rw [ef]
    clear ef hd1 hd2 ex1 hz0 hcz
    have hj : f / 8 < ms.length := by have := HML.out; omega
    have hc := HOW.out.cellAt (f / 8) (by omega)
    rw [b8s_get ms _ hj] at hc
    have hfz := HOW.out.frozenAt (f / 8)
    have hj2 : f / 8 < bs.length := by omega
    have HST := Lib.hid (turn_step (f := f) HML.out hj HOW.out HBR.out HSR.out HGM.out HGZ.out HZR.out)
    go_region
    go_wp2_with fail
    go_roundg (3 - (k + 1))
    case measure => omega
    case rel =>
      obtain ⟨ms', h1', h2', h3', h4', h5'⟩ := HST.out
      exact ⟨k + 1, ms', by omega, by omega, by go_num, Lib.hid h1', Lib.hid h2', Lib.hid h3', Lib.hid h4', Lib.hid h5'⟩
  obtain rfl : k = 3 := by omega
  clear hlt
  have HBQ : Hid (Below w3.heap.size w3 wr) := Lib.hid (HNN.out ▸ HBR.out)
  have HXM : Hid (Sl wr (.slice (some ⟨gm, 0, none⟩) bs.length c1) ms) := Lib.hid ⟨_, _, _, rfl, HML.out.symm, HC1.out, (by have := HC2.out; unfold maxLen; omega), own_rd HOW.out⟩
  have HSB := Lib.hid (HS3.out.below HBQ.out)
  have HBT := Lib.hid (ext_trans HB3.out HBQ.out)
  clear hk hz1
  go_wp2_with fail
  refine (read_s _ ms wr HXM.out).mono ?_
  rintro e w6 h6
  obtain ⟨m1, p1, e1, rfl, hin1, hb6, hca1⟩ := rd_out h6
  clear h6
  obtain ⟨W7, hWAa⟩ : ∃ W, w6.alloc (.cells #[Value.int .i64 0, Value.int .i64 0, Value.int .i64 0, Value.int .i64 0, Value.slice none 0 0, Value.slice none 0 0, Value.slice none 0 0, Value.int .i64 0, Value.int .i64 0, Value.int .u8 0, Value.int .u8 0, Value.int .u8 0, Value.int .u8 0, Value.int .u8 0, Value.int .u8 0, Value.int .u8 0, Value.int .u8 0, Value.int .u8 0, Value.int .u8 0, Value.int .u8 0, Value.int .u8 0, Value.int .u8 0, Value.int .u8 0, Value.int .u8 0, Value.int .u8 0, Value.int .u8 0, Value.int .u8 0, Value.int .u8 0, Value.int .u8 0, Value.int .u8 0, Value.int .u8 0, Value.int .u8 0, Value.int .u8 0, Value.int .u8 0, Value.int .u8 0, Value.int .u8 0, Value.int .u8 0, Value.int .u8 0, Value.int .u8 0, Value.int .u8 0, Value.int .u8 0, Value.slice none 0 0] 28) = W := ⟨_, rfl⟩
  obtain ⟨qa, ba, sa⟩ := new_row hWAa
  rw [← lt0_cells] at qa
  obtain ⟨ga, hga⟩ : ∃ g, w6.heap.size = g := ⟨_, rfl⟩
  rw [hga] at qa
  obtain ⟨W8, hWBa, HTHa, HRa, HBa, _, _⟩ := let_write (q := p1) (m := m1) qa rfl hin1.len ba ba.size (Nat.le_of_eq hga)
  have HWa := Lib.hid hWBa
  have HBBa : Hid (Below w6.heap.size w6 W8) := HBa
  have HILa := Lib.hid (info_leta m1 p1 hin1.len)
  have HOLa := Lib.hid (all_oneCell_toArray (m1.cells_one p1))
  have HB8 := Lib.hid (ext_trans hb6 HBBa.out)
  have HIN1 := Lib.hid (hin1.below HBBa.out)
  have HT8 := Lib.hid (ext_trans HBT.out HB8.out)
  obtain ⟨x1, hx1, ex1⟩ : ∃ n : Nat, n ≤ 1048575 ∧ bits .and .i64 x 1048575 = (n : Int) := i64_and_mask x 1048575 (by omega)
  have hz2 : ((bs.length : Int) == 0) = false := by rw [beq_eq_false_iff_ne]; omega
  have hd1 : (x1 : Int) % (bs.length : Int) < bs.length := Int.emod_lt_of_pos _ (by omega)
  have hd2 : 0 ≤ (x1 : Int) % (bs.length : Int) := Int.emod_nonneg _ (by omega)
  have hcc : bs.length ≤ c := by obtain ⟨_, _, _, e, _, h, _, _⟩ := HSB.out; cases e; exact h
  have hd3 : (x1 : Int) % (bs.length : Int) ≤ (c : Int) := by omega
  have hkl : x1 % bs.length < bs.length := Nat.mod_lt _ (by omega)
  have HSK : Hid (Sl W8 (.slice A (x1 % bs.length) c) (bs.take (x1 % bs.length))) := Lib.hid (by
    have h1 := (hrd.below (ext_trans HBQ.out HB8.out)).take (x1 % bs.length)
    rw [← b8s_take] at h1
    exact ⟨A, _, c, rfl, (by rw [List.length_take]; omega), (by omega), hcm, h1⟩)
  have HKL := Lib.hid hkl
  clear hb6 hin1 hkl hcc qa ba sa hWBa HBa hrd
  go_wp2_with (((with_reducible (refine wpList_store_mid rfl _ _ _ rfl ?_ ?_ ?_ ?_ ?_ ?_ ?_ ?_ ?_)); (exact ga); (exact 0); (exact (m1.cells p1).toArray); (exact rfl); (exact rfl); (exact HTHa.out); (exact HILa.out); (exact HOLa.out); rw [HWa.out]))
  clear hWAa hga ex1 hz2 hd1 hd2 hd3
  refine (read_s _ _ W8 HSK.out).mono ?_
  rintro e w9 h9
  obtain ⟨m2, p2, e2, rfl, hin2, hb9, hca2⟩ := rd_out h9
  clear h9
  obtain ⟨W10, hWAb⟩ : ∃ W, w9.alloc (.cells #[Value.int .i64 0, Value.int .i64 0, Value.int .i64 0, Value.int .i64 0, Value.slice none 0 0, Value.slice none 0 0, Value.slice none 0 0, Value.int .i64 0, Value.int .i64 0, Value.int .u8 0, Value.int .u8 0, Value.int .u8 0, Value.int .u8 0, Value.int .u8 0, Value.int .u8 0, Value.int .u8 0, Value.int .u8 0, Value.int .u8 0, Value.int .u8 0, Value.int .u8 0, Value.int .u8 0, Value.int .u8 0, Value.int .u8 0, Value.int .u8 0, Value.int .u8 0, Value.int .u8 0, Value.int .u8 0, Value.int .u8 0, Value.int .u8 0, Value.int .u8 0, Value.int .u8 0, Value.int .u8 0, Value.int .u8 0, Value.int .u8 0, Value.int .u8 0, Value.int .u8 0, Value.int .u8 0, Value.int .u8 0, Value.int .u8 0, Value.int .u8 0, Value.int .u8 0, Value.slice none 0 0] 28) = W := ⟨_, rfl⟩
  obtain ⟨qb, bb, sb⟩ := new_row hWAb
  rw [← lt0_cells] at qb
  obtain ⟨gb, hgb⟩ : ∃ g, w9.heap.size = g := ⟨_, rfl⟩
  rw [hgb] at qb
  obtain ⟨W11, hWBb, HTHb, HRb, HBb, _, _⟩ := let_write (q := p2) (m := m2) qb rfl hin2.len bb bb.size (Nat.le_of_eq hgb)
  have HWb := Lib.hid hWBb
  have HBBb : Hid (Below w9.heap.size w9 W11) := HBb
  have HILb := Lib.hid (info_leta m2 p2 hin2.len)
  have HOLb := Lib.hid (all_oneCell_toArray (m2.cells_one p2))
  have HB11 := Lib.hid (ext_trans hb9 HBBb.out)
  have HT11 := Lib.hid (ext_trans HT8.out HB11.out)
  have HIN2' := Lib.hid (hin2.below HBBb.out)
  have HRL := Lib.hid (HF.out _ HT11.out)
  have HRA1 := Lib.hid ((HB11.out.block ga (Array.getElem?_eq_some_iff.1 HRa.out).1).trans HRa.out)
  have HIL1 := Lib.hid (HIN.out.below HT11.out)
  have HIM1 := Lib.hid (HIN1.out.below HB11.out)
  have HXM1 := Lib.hid (HXM.out.below (ext_trans HB8.out HB11.out))
  have HSB1 := Lib.hid (HSB.out.below (ext_trans HB8.out HB11.out))
  have HCA1 := Lib.hid hca1
  clear hca1 hin2 hb9 qb bb sb hWBb HBb
  rcases hca2 with ⟨hq, hm⟩ | ⟨hq, hm⟩
  · have HTK := Lib.hid (take_read HR.out HLO.out (by rw [HBS.out]; exact HKL.out) (by rw [HBS.out]; exact hm))
    go_wp2_with (first
        | ((with_reducible (refine wpList_store_mid rfl _ _ _ rfl ?_ ?_ ?_ ?_ ?_ ?_ ?_ ?_ ?_)); (exact gb); (exact 0); (exact (m2.cells p2).toArray); (exact rfl); (exact rfl); (exact HTHb.out); (exact HILb.out); (exact HOLb.out); rw [HWb.out])
        | ((with_reducible (refine wpList_load_row_w _ _ rfl _ rfl _ _ _ _ HRL.out Try.underlying28 rfl HIL.out ?_ ?_)); (focus (rfl)))
        | ((with_reducible (refine wpList_load_row_w _ _ rfl _ rfl _ _ _ _ HRb.out Try.underlying28 rfl HILb.out ?_ ?_)); (focus (rfl))))
    clear hWAb hgb
    refine (lsame_any m2 l p2 p W11 HIN2'.out HIL1.out).mono ?_
    rintro e w12 ⟨rfl, hb12⟩
    rw [HTK.out]
    have HT12 := Lib.hid (ext_trans HT11.out hb12)
    have HRL2 := Lib.hid (HF.out _ HT12.out)
    have HRA2 := Lib.hid ((hb12.block ga (Array.getElem?_eq_some_iff.1 HRA1.out).1).trans HRA1.out)
    have HIL2 := Lib.hid (HIL1.out.below hb12)
    have HIM2 := Lib.hid (HIM1.out.below hb12)
    have HXM2 := Lib.hid (HXM1.out.below hb12)
    have HSB2 := Lib.hid (HSB1.out.below hb12)
    clear hb12 hq hm
    rcases HCA1.out with ⟨hq, hm⟩ | ⟨hq, hm⟩
    · have hq' : (e1 != 0) = false := by rw [bne, hq]; rfl
      have HSR2 := Lib.hid (same_read HR.out HLO.out hm)
      rw [HBS.out] at HSR2
      clear hm
      go_wp2_with (first
        | ((with_reducible (refine wpList_load_row_w _ _ rfl _ rfl _ _ _ _ HRL2.out Try.underlying28 rfl HIL.out ?_ ?_)); (focus (rfl)))
        | ((with_reducible (refine wpList_load_row_w _ _ rfl _ rfl _ _ _ _ HRA2.out Try.underlying28 rfl HILa.out ?_ ?_)); (focus (rfl))))
      refine (lsame_any m1 l p1 p w12 HIM2.out HIL2.out).mono ?_
      rintro e w13 ⟨rfl, hb13⟩
      have HT13 := Lib.hid (ext_trans HT12.out hb13)
      have HXM3 := Lib.hid (HXM2.out.below hb13)
      have HSB3 := Lib.hid (HSB2.out.below hb13)
      clear hb13
      go_wp2_with fail
      refine (same_s _ _ ms bs w13 HXM3.out HSB3.out).mono ?_
      rintro e w14 ⟨rfl, hb14⟩
      have HT14 := Lib.hid (ext_trans HT13.out hb14)
      have hsr := HSR2.out
      clear hb14
      go_wp2_with fail
      go_ret
      exact ⟨rfl, HBW.out _ HT14.out⟩
    · have hq' : (e1 != 0) = true := by rw [bne, hq]; rfl
      go_wp2_with fail
      go_ret
      exact ⟨rfl, HBW.out _ HT12.out⟩
  · clear hm
    rcases HCA1.out with ⟨hq1, hm⟩ | ⟨hq1, hm⟩
    · have hq' : (e1 != 0) = false := by rw [bne, hq1]; rfl
      have HSR2 := Lib.hid (same_read HR.out HLO.out hm)
      rw [HBS.out] at HSR2
      clear hm
      go_wp2_with (first
        | ((with_reducible (refine wpList_store_mid rfl _ _ _ rfl ?_ ?_ ?_ ?_ ?_ ?_ ?_ ?_ ?_)); (exact gb); (exact 0); (exact (m2.cells p2).toArray); (exact rfl); (exact rfl); (exact HTHb.out); (exact HILb.out); (exact HOLb.out); rw [HWb.out])
        | ((with_reducible (refine wpList_load_row_w _ _ rfl _ rfl _ _ _ _ HRL.out Try.underlying28 rfl HIL.out ?_ ?_)); (focus (rfl)))
        | ((with_reducible (refine wpList_load_row_w _ _ rfl _ rfl _ _ _ _ HRA1.out Try.underlying28 rfl HILa.out ?_ ?_)); (focus (rfl))))
      clear hWAb hgb
      refine (lsame_any m1 l p1 p W11 HIM1.out HIL1.out).mono ?_
      rintro e w13 ⟨rfl, hb13⟩
      have HT13 := Lib.hid (ext_trans HT11.out hb13)
      have HXM3 := Lib.hid (HXM1.out.below hb13)
      have HSB3 := Lib.hid (HSB1.out.below hb13)
      clear hb13
      go_wp2_with fail
      refine (same_s _ _ ms bs w13 HXM3.out HSB3.out).mono ?_
      rintro e w14 ⟨rfl, hb14⟩
      have HT14 := Lib.hid (ext_trans HT13.out hb14)
      have hsr := HSR2.out
      clear hb14
      go_wp2_with fail
      go_ret
      exact ⟨rfl, HBW.out _ HT14.out⟩
    · have hq' : (e1 != 0) = true := by rw [bne, hq1]; rfl
      go_wp2_with (((with_reducible (refine wpList_store_mid rfl _ _ _ rfl ?_ ?_ ?_ ?_ ?_ ?_ ?_ ?_ ?_)); (exact gb); (exact 0); (exact (m2.cells p2).toArray); (exact rfl); (exact rfl); (exact HTHb.out); (exact HILb.out); (exact HOLb.out); rw [HWb.out]))
      clear hWAb hgb
      go_ret
      exact ⟨rfl, HBW.out _ HT11.out⟩

/-- WireTurns -/
theorem wireTurns_any (l : Lt) (p : LtP) (x y z : Int) (w : World) (hin : LtIn w l p) (ht : -9223372036854775808 ≤ l.total ∧ l.total ≤ 9223372036854775807) :
    Calls Try.prog 5 #[l.val p, .int .i64 x, .int .i64 y, .int .i64 z] w fun e w' => e = .returned (.bool true) ∧ Below w.heap.size w w' := by
  cases hr : rightL l
  · exact wireTurns_no l p x y z w hin ht hr
  · by_cases hn : 1000 < (writeB l).length
    · exact wireTurns_far l p x y z w hin ht hr hn
    · exact wireTurns_near l p x y z w hin ht hr hn
end Go.Proofs.Ytfjfidhhmidflaa
