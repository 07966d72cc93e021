
/- Write. (Printed by wip/genL13.py.) -/

import Derived.Test.YtfjfidhhmidflaaLet9

import Derived.Test.YtfjfidhhmidflaaLet12

namespace Go.Proofs.Ytfjfidhhmidflaa

set_option linter.unusedVariables false

set_option linter.unusedSimpArgs false

open Go.RowKit

/-! ### plain -/

def refB (r : RefM) : List UInt8 := textB r.name.data.toList ++ r.id
def headW (l : Lt) : List UInt8 := numB (clampN l.kind) ++ (numB (clampN l.from_) ++ (numB (clampN l.to_) ++ numB (clampN l.session)))
def refsB (rs : List RefM) : List UInt8 := numB (clampN rs.length) ++ rs.flatMap refB
def bodyW (l : Lt) : List UInt8 :=
  if l.kind = 2 then refsB l.refs
  else if l.kind = 3 then idsB l.wants ++ (idsB l.haves ++ numB (clampN l.off))
  else if l.kind = 4 then l.pack ++ (numB (clampN l.off) ++ (numB (clampN l.total) ++ textB l.data))
  else []
def inW (l : Lt) : List UInt8 := headW l ++ bodyW l
def writeB (l : Lt) : List UInt8 := inW l ++ fourB (crc (inW l)).toNat
theorem bodyW_2 {l : Lt} (h : l.kind = 2) : bodyW l = refsB l.refs := by unfold bodyW; rw [if_pos h]
theorem bodyW_3 {l : Lt} (h : l.kind = 3) : bodyW l = idsB l.wants ++ (idsB l.haves ++ numB (clampN l.off)) := by unfold bodyW; rw [if_neg (by omega), if_pos h]
theorem bodyW_4 {l : Lt} (h : l.kind = 4) : bodyW l = l.pack ++ (numB (clampN l.off) ++ (numB (clampN l.total) ++ textB l.data)) := by unfold bodyW; rw [if_neg (by omega), if_neg (by omega), if_pos h]
theorem bodyW_1 {l : Lt} (h2 : l.kind ≠ 2) (h3 : l.kind ≠ 3) (h4 : l.kind ≠ 4) : bodyW l = [] := by unfold bodyW; rw [if_neg h2, if_neg h3, if_neg h4]
theorem headW_len (l : Lt) : (headW l).length ≤ 36 := by
  have h1 := (numB_len l.kind).2
  have h2 := (numB_len l.from_).2
  have h3 := (numB_len l.to_).2
  have h4 := (numB_len l.session).2
  unfold headW
  simp only [List.length_append]
  omega
theorem textB_len (s : List UInt8) : (textB s).length ≤ s.length + 9 := by
  have h1 := (numB_len (s.length : Int)).2
  unfold textB
  simp only [List.length_append]
  omega
theorem refB_take {rs : List RefM} {k : Nat} (h : k < rs.length) : (rs.take (k + 1)).flatMap refB = (rs.take k).flatMap refB ++ refB rs[k] := by
  have e : rs.take (k + 1) = rs.take k ++ [rs[k]] := by
    rw [List.take_add_one, List.getElem?_eq_getElem h]; rfl
  rw [e, List.flatMap_append]
  simp
theorem refB_flat_len {rs : List RefM} (h : ∀ r ∈ rs, r.name.size ≤ 60 ∧ r.id.length = 32) (k : Nat) : ((rs.take k).flatMap refB).length ≤ 110 * rs.length := by
  have key : ∀ (l : List RefM), (∀ r ∈ l, r.name.size ≤ 60 ∧ r.id.length = 32) → (l.flatMap refB).length ≤ 110 * l.length := by
    intro l
    induction l with
    | nil => intro _; simp
    | cons x l ih =>
      intro hl
      have h1 := hl x (by simp)
      have h2 := ih (fun y hy => hl y (by simp [hy]))
      have h3 := textB_len x.name.data.toList
      rw [size_toList] at h3
      simp only [List.flatMap_cons, List.length_append, List.length_cons, refB]
      omega
  have h1 := key (rs.take k) (fun y hy => h y (List.mem_of_mem_take hy))
  have h2 : (rs.take k).length ≤ rs.length := by rw [List.length_take]; omega
  have := Nat.mul_le_mul_left 110 h2
  omega
theorem refsAll_get {rs : List RefM} (h : refsAll rs = true) (i : Nat) (hi : i < rs.length) : nameS rs[i].name = true ∧ rs[i].id ≠ zeros32 ∧ prevLess rs rs[i] i = true := by
  unfold refsAll at h
  rw [List.all_eq_true] at h
  have := h i (by simpa using hi)
  rw [refAt_get rs i hi] at this
  simp only [Bool.and_eq_true, Bool.not_eq_true', decide_eq_false_iff_not] at this
  exact ⟨this.1.1, this.1.2, this.2⟩
theorem nameS_size {s : ByteArray} (h : nameS s = true) : s.size ≤ 60 := by
  unfold nameS at h
  simp only [Bool.and_eq_true, decide_eq_true_eq] at h
  exact h.1.1.1.2
theorem rightL_parts {l : Lt} (h : rightL l = true) : headB l = true ∧ l = bareL l ∧ kindB l = true := by
  unfold rightL at h
  simp only [Bool.and_eq_true] at h
  exact ⟨h.1.1, (sameL_iff _ _).1 h.1.2, h.2⟩
theorem right_refs {l : Lt} (h : rightL l = true) (h2 : l.kind = 2) : refsAll l.refs = true ∧ l.refs.length ≤ 100 := by
  have := (rightL_parts h).2.2
  rw [kindB_2 h2] at this
  unfold rightRefsB at this
  simp only [Bool.and_eq_true, decide_eq_true_eq] at this
  exact this
theorem right_ids {l : Lt} (h : rightL l = true) (h3 : l.kind = 3) : 1 ≤ l.wants.length ∧ l.wants.length ≤ 100 ∧ l.haves.length ≤ 200 ∧ risingB zeros32 l.wants = true ∧ risingB zeros32 l.haves = true ∧ 0 ≤ l.off ∧ l.off ≤ 1048576 := by
  have := (rightL_parts h).2.2
  rw [kindB_3 h3] at this
  unfold withinB at this
  simp only [Bool.and_eq_true, decide_eq_true_eq] at this
  obtain ⟨⟨⟨⟨⟨a, b⟩, c⟩, d⟩, e⟩, f, g⟩ := this
  exact ⟨by omega, by omega, c, d, e, f, g⟩
theorem right_part {l : Lt} (h : rightL l = true) (h4 : l.kind = 4) : l.pack ≠ zeros32 ∧ 0 ≤ l.off ∧ l.off ≤ 1048576 ∧ 0 ≤ l.total ∧ l.total ≤ 1048576 ∧ l.data.length ≤ 500 := by
  have := (rightL_parts h).2.2
  rw [kindB_4 h4] at this
  unfold withinB at this
  simp only [Bool.and_eq_true, decide_eq_true_eq, Bool.not_eq_true', decide_eq_false_iff_not] at this
  obtain ⟨⟨⟨⟨⟨a, b⟩, c⟩, d⟩, e⟩, f⟩ := this
  exact ⟨a, b.1, b.2, c.1, c.2, d⟩
theorem right_kind {l : Lt} (h : rightL l = true) : l.kind = 1 ∨ l.kind = 2 ∨ l.kind = 3 ∨ l.kind = 4 := by
  rcases Classical.em (l.kind = 1) with h1 | h1
  · exact .inl h1
  · rcases Classical.em (l.kind = 2) with h2 | h2
    · exact .inr (.inl h2)
    · rcases Classical.em (l.kind = 3) with h3 | h3
      · exact .inr (.inr (.inl h3))
      · rcases Classical.em (l.kind = 4) with h4 | h4
        · exact .inr (.inr (.inr h4))
        · have := (rightL_parts h).2.2
          rw [kindB_0 h1 h2 h3 h4] at this
          cases this
def numsW (l : Lt) : List Int := [l.kind, l.from_, l.to_, l.session]
def headK (l : Lt) (k : Nat) : List UInt8 := ((numsW l).take k).flatMap (fun n => numB (clampN n))
theorem headK_4 (l : Lt) : headK l 4 = headW l := by simp [headK, numsW, headW]
theorem headK_len (l : Lt) (k : Nat) : (headK l k).length ≤ 36 := by
  have h1 := (numB_len l.kind).2
  have h2 := (numB_len l.from_).2
  have h3 := (numB_len l.to_).2
  have h4 := (numB_len l.session).2
  unfold headK numsW
  rcases k with _ | _ | _ | _ | k <;> simp only [List.take_zero, List.take_succ_cons, List.take_nil, List.flatMap_cons, List.flatMap_nil, List.length_append, List.length_nil] <;> omega
theorem crc_lt (bs : List UInt8) : (crc bs).toNat < 4294967296 := (crc bs).isLt

/-- what Write hands back -/
def WrOut (w w' : World) (e : Ending) (bs : List UInt8) : Prop := ∃ v, e = .returned (.tuple #[v, .int .i64 0]) ∧ Sl w' v bs ∧ Below w.heap.size w w'

set_option maxRecDepth 100000 in
set_option maxHeartbeats 4000000 in
theorem write_bad (l : Lt) (p : LtP) (w : World) (hin : LtIn w l p) (ht : -9223372036854775808 ≤ l.total ∧ l.total ≤ 9223372036854775807) (hbad : rightL l = false) :
    Calls Try.prog 9 #[l.val p] w fun e w' => e = .returned (.tuple #[.slice none 0 0, .int .i64 1]) ∧ Below w.heap.size w w' := by
  obtain ⟨W1, hW1⟩ : ∃ W, w.alloc (.cells (l.cells p).toArray 28) = W := ⟨_, rfl⟩
  obtain ⟨r1, b1, s1⟩ := new_row hW1
  obtain ⟨g, hg⟩ : ∃ g, w.heap.size = g := ⟨_, rfl⟩
  rw [hg] at r1
  have HGS : Hid (g < W1.heap.size) := Lib.hid (Array.getElem?_eq_some_iff.1 r1).1
  have HR1 := Lib.hid r1
  have HB1 := Lib.hid b1
  have HIN := Lib.hid (hin.below b1)
  have HLN := Lib.hid hin.len
  have HF : Hid (∀ W, Below W1.heap.size W1 W → W.heap[g]? = some (.cells (l.cells p).toArray 28 (0, 0))) := Lib.hid (fun W h => (h.block g HGS.out).trans HR1.out)
  have HBW : Hid (∀ W, Below W1.heap.size W1 W → Below w.heap.size w W) := Lib.hid (fun W h => HB1.out.trans (h.mono (by rw [hg]; exact Nat.le_of_lt HGS.out)))
  have HIL := Lib.hid (info_leta l p hin.len)
  have HRT := Lib.hid (lright_any l p W1 (hin.below b1) ht)
  unfold Lt.val
  clear b1 s1 hin ht
  rw [hbad] at HRT
  clear hbad
  have HRW := Lib.hid r1
  clear r1
  go_enter Try.func9, Try.ntmps9
  go_wp2_with ((with_reducible (refine wpList_load_row_w _ _ rfl _ rfl _ _ _ _ HRW.out Try.underlying28 rfl HIL.out ?_ ?_)); (focus (rfl)))
  refine HRT.out.mono ?_
  rintro e w2 ⟨rfl, hb2⟩
  go_wp2_with fail
  go_ret2
  exact ⟨rfl, HBW.out _ hb2⟩

set_option maxRecDepth 100000 in
set_option maxHeartbeats 8000000 in
theorem write_ok1 (l : Lt) (p : LtP) (w : World) (hin : LtIn w l p) (ht : -9223372036854775808 ≤ l.total ∧ l.total ≤ 9223372036854775807) (hok : rightL l = true) (hk : l.kind = 1) :
    Calls Try.prog 9 #[l.val p] w fun e w' => WrOut w w' e (writeB l) := by
  obtain ⟨W1, hW1⟩ : ∃ W, w.alloc (.cells (l.cells p).toArray 28) = W := ⟨_, rfl⟩
  obtain ⟨r1, b1, s1⟩ := new_row hW1
  obtain ⟨g, hg⟩ : ∃ g, w.heap.size = g := ⟨_, rfl⟩
  rw [hg] at r1
  have HGS : Hid (g < W1.heap.size) := Lib.hid (Array.getElem?_eq_some_iff.1 r1).1
  have HR1 := Lib.hid r1
  have HB1 := Lib.hid b1
  have HIN := Lib.hid (hin.below b1)
  have HLN := Lib.hid hin.len
  have HF : Hid (∀ W, Below W1.heap.size W1 W → W.heap[g]? = some (.cells (l.cells p).toArray 28 (0, 0))) := Lib.hid (fun W h => (h.block g HGS.out).trans HR1.out)
  have HBW : Hid (∀ W, Below W1.heap.size W1 W → Below w.heap.size w W) := Lib.hid (fun W h => HB1.out.trans (h.mono (by rw [hg]; exact Nat.le_of_lt HGS.out)))
  have HIL := Lib.hid (info_leta l p hin.len)
  have HRT := Lib.hid (lright_any l p W1 (hin.below b1) ht)
  unfold Lt.val
  clear b1 s1 hin ht
  rw [hok] at HRT
  have HOK := Lib.hid hok
  have HKK := Lib.hid hk
  clear hok hk
  have HRW := Lib.hid r1
  clear r1
  go_enter Try.func9, Try.ntmps9
  go_wp2_with ((with_reducible (refine wpList_load_row_w _ _ rfl _ rfl _ _ _ _ HRW.out Try.underlying28 rfl HIL.out ?_ ?_)); (focus (rfl)))
  refine HRT.out.mono ?_
  rintro e w2 ⟨rfl, hb2⟩
  clear hW1 hg
  obtain ⟨x0, x1, x2, x3, _⟩ := ltRow_of (HF.out _ hb2) HLN.out
  obtain ⟨W3, hW3⟩ : ∃ W, w2.alloc (.cells #[.int .i64 l.kind, .int .i64 l.from_, .int .i64 l.to_, .int .i64 l.session] 2) = W := ⟨_, rfl⟩
  obtain ⟨r3, b3, s3⟩ := new_row hW3
  obtain ⟨H, hH⟩ : ∃ H, w2.heap.size = H := ⟨_, rfl⟩
  have HR3 : Hid (W3.heap[H]? = some (.cells #[.int .i64 l.kind, .int .i64 l.from_, .int .i64 l.to_, .int .i64 l.session] 2 (0, 0))) := Lib.hid (hH ▸ r3)
  have HHL : Hid (H < W3.heap.size) := Lib.hid (by omega)
  have HB3 : Hid (Below W1.heap.size W1 W3) := Lib.hid (ext_trans hb2 b3)
  have HBR : Hid (Below W3.heap.size W3 W3) := Lib.hid (Below.refl _ _)
  have HS0 : Hid (Sl W3 (.slice none 0 0) (headK l 0)) := Lib.hid (Sl.nil _)
  clear r3 b3 s3 hb2
  go_wp2_with fail
  clear hW3 hH x0 x1 x2 x3
  go_loopg [4, 22] 4 (fun gk_ s4 s wr => ∃ (k : Nat), k ≤ 4 ∧ gk_ = 4 - k ∧ s = .int .i64 (k : Int) ∧ Hid (Sl wr s4 (headK l k)) ∧ Hid (Below W3.heap.size W3 wr))
  case atStart => exact ⟨0, by omega, by omega, rfl, HS0, HBR⟩
  case round =>
  clear HS0 HBR
  obtain ⟨k, hk, rfl, rfl, HS, HBR⟩ := hrel
  by_cases hlt : k < 4
  · have hkl : k < (numsW l).length := hlt
    obtain ⟨n, hn⟩ : ∃ n, (numsW l)[k] = n := ⟨_, rfl⟩
    have cn : wr.cell? ⟨H, k, none⟩ = some (.int .i64 n) := by
      rw [row_cell ((HBR.out.block H HHL.out).trans HR3.out), ← hn]
      rcases k with _ | _ | _ | _ | k
      · rfl
      · rfl
      · rfl
      · rfl
      · omega
    have HNX : Hid (headK l (k + 1) = headK l k ++ numB (clampN n)) := Lib.hid (by
      unfold headK
      have e : (numsW l).take (k + 1) = (numsW l).take k ++ [n] := by
        rw [List.take_add_one, List.getElem?_eq_getElem hkl, hn]; rfl
      rw [e, List.flatMap_append]
      simp)
    clear hn hkl
    go_wp2_with fail
    refine (num_s _ _ n wr HS.out (by have := headK_len l k; omega)).mono ?_
    rintro e w6 ⟨v6, rfl, hs6, hb6⟩
    have HS6 : Hid (Sl w6 v6 (headK l (k + 1))) := Lib.hid (by rw [HNX.out]; exact hs6)
    have HB6 := Lib.hid (ext_trans HBR.out hb6)
    clear hs6 hb6 cn
    go_wp2_with fail
    go_roundg (4 - (k + 1))
    case measure => omega
    case rel => exact ⟨k + 1, by omega, rfl, by first | rfl | exact congrArg (Value.int .i64) (by omega) | go_num, HS6, HB6⟩
  obtain rfl : k = 4 := by omega
  have HSH := HS
  rw [headK_4] at HSH
  have HBQ := Lib.hid (ext_trans HB3.out HBR.out)
  have HINQ := Lib.hid (HIN.out.below HBQ.out)
  obtain ⟨y0, _, _, _, y4, y5, y6, y7, y8, y9, yp⟩ := ltRow_of (HF.out _ HBQ.out) HLN.out
  have HYP := Lib.hid yp
  clear yp HS
  have d1 : (l.kind == 2) = false := by rw [HKK.out]; rfl
  have d2 : (l.kind == 3) = false := by rw [HKK.out]; rfl
  have d3 : (l.kind == 4) = false := by rw [HKK.out]; rfl
  have HSZ : Hid (Sl wr _ (inW l)) := Lib.hid (by have h := HSH.out; unfold inW; rw [bodyW_1 (by have := HKK.out; omega) (by have := HKK.out; omega) (by have := HKK.out; omega), List.append_nil]; exact h)
  have HBZ := HBQ
  go_wp2_with fail
  refine (sum_s _ _ wr HSZ.out).mono ?_
  rintro e wz1 ⟨rfl, rfl⟩
  go_wp2_with fail
  refine (four_s _ _ _ wr HSZ.out (crc_lt _) (by unfold inW; rw [bodyW_1 (by have := HKK.out; omega) (by have := HKK.out; omega) (by have := HKK.out; omega), List.append_nil]; have := headW_len l; omega)).mono ?_
  rintro e wz2 ⟨vz, rfl, hsz, hbz⟩
  go_wp2_with fail
  go_ret2
  exact ⟨vz, rfl, hsz, HBW.out _ (ext_trans HBZ.out hbz)⟩


set_option maxRecDepth 100000 in
set_option maxHeartbeats 8000000 in
theorem write_ok2 (l : Lt) (p : LtP) (w : World) (hin : LtIn w l p) (ht : -9223372036854775808 ≤ l.total ∧ l.total ≤ 9223372036854775807) (hok : rightL l = true) (hk : l.kind = 2) :
    Calls Try.prog 9 #[l.val p] w fun e w' => WrOut w w' e (writeB l) := by
  obtain ⟨W1, hW1⟩ : ∃ W, w.alloc (.cells (l.cells p).toArray 28) = W := ⟨_, rfl⟩
  obtain ⟨r1, b1, s1⟩ := new_row hW1
  obtain ⟨g, hg⟩ : ∃ g, w.heap.size = g := ⟨_, rfl⟩
  rw [hg] at r1
  have HGS : Hid (g < W1.heap.size) := Lib.hid (Array.getElem?_eq_some_iff.1 r1).1
  have HR1 := Lib.hid r1
  have HB1 := Lib.hid b1
  have HIN := Lib.hid (hin.below b1)
  have HLN := Lib.hid hin.len
  have HF : Hid (∀ W, Below W1.heap.size W1 W → W.heap[g]? = some (.cells (l.cells p).toArray 28 (0, 0))) := Lib.hid (fun W h => (h.block g HGS.out).trans HR1.out)
  have HBW : Hid (∀ W, Below W1.heap.size W1 W → Below w.heap.size w W) := Lib.hid (fun W h => HB1.out.trans (h.mono (by rw [hg]; exact Nat.le_of_lt HGS.out)))
  have HIL := Lib.hid (info_leta l p hin.len)
  have HRT := Lib.hid (lright_any l p W1 (hin.below b1) ht)
  unfold Lt.val
  clear b1 s1 hin ht
  rw [hok] at HRT
  have HOK := Lib.hid hok
  have HKK := Lib.hid hk
  clear hok hk
  have HRW := Lib.hid r1
  clear r1
  go_enter Try.func9, Try.ntmps9
  go_wp2_with ((with_reducible (refine wpList_load_row_w _ _ rfl _ rfl _ _ _ _ HRW.out Try.underlying28 rfl HIL.out ?_ ?_)); (focus (rfl)))
  refine HRT.out.mono ?_
  rintro e w2 ⟨rfl, hb2⟩
  clear hW1 hg
  obtain ⟨x0, x1, x2, x3, _⟩ := ltRow_of (HF.out _ hb2) HLN.out
  obtain ⟨W3, hW3⟩ : ∃ W, w2.alloc (.cells #[.int .i64 l.kind, .int .i64 l.from_, .int .i64 l.to_, .int .i64 l.session] 2) = W := ⟨_, rfl⟩
  obtain ⟨r3, b3, s3⟩ := new_row hW3
  obtain ⟨H, hH⟩ : ∃ H, w2.heap.size = H := ⟨_, rfl⟩
  have HR3 : Hid (W3.heap[H]? = some (.cells #[.int .i64 l.kind, .int .i64 l.from_, .int .i64 l.to_, .int .i64 l.session] 2 (0, 0))) := Lib.hid (hH ▸ r3)
  have HHL : Hid (H < W3.heap.size) := Lib.hid (by omega)
  have HB3 : Hid (Below W1.heap.size W1 W3) := Lib.hid (ext_trans hb2 b3)
  have HBR : Hid (Below W3.heap.size W3 W3) := Lib.hid (Below.refl _ _)
  have HS0 : Hid (Sl W3 (.slice none 0 0) (headK l 0)) := Lib.hid (Sl.nil _)
  clear r3 b3 s3 hb2
  go_wp2_with fail
  clear hW3 hH x0 x1 x2 x3
  go_loopg [4, 22] 4 (fun gk_ s4 s wr => ∃ (k : Nat), k ≤ 4 ∧ gk_ = 4 - k ∧ s = .int .i64 (k : Int) ∧ Hid (Sl wr s4 (headK l k)) ∧ Hid (Below W3.heap.size W3 wr))
  case atStart => exact ⟨0, by omega, by omega, rfl, HS0, HBR⟩
  case round =>
  clear HS0 HBR
  obtain ⟨k, hk, rfl, rfl, HS, HBR⟩ := hrel
  by_cases hlt : k < 4
  · have hkl : k < (numsW l).length := hlt
    obtain ⟨n, hn⟩ : ∃ n, (numsW l)[k] = n := ⟨_, rfl⟩
    have cn : wr.cell? ⟨H, k, none⟩ = some (.int .i64 n) := by
      rw [row_cell ((HBR.out.block H HHL.out).trans HR3.out), ← hn]
      rcases k with _ | _ | _ | _ | k
      · rfl
      · rfl
      · rfl
      · rfl
      · omega
    have HNX : Hid (headK l (k + 1) = headK l k ++ numB (clampN n)) := Lib.hid (by
      unfold headK
      have e : (numsW l).take (k + 1) = (numsW l).take k ++ [n] := by
        rw [List.take_add_one, List.getElem?_eq_getElem hkl, hn]; rfl
      rw [e, List.flatMap_append]
      simp)
    clear hn hkl
    go_wp2_with fail
    refine (num_s _ _ n wr HS.out (by have := headK_len l k; omega)).mono ?_
    rintro e w6 ⟨v6, rfl, hs6, hb6⟩
    have HS6 : Hid (Sl w6 v6 (headK l (k + 1))) := Lib.hid (by rw [HNX.out]; exact hs6)
    have HB6 := Lib.hid (ext_trans HBR.out hb6)
    clear hs6 hb6 cn
    go_wp2_with fail
    go_roundg (4 - (k + 1))
    case measure => omega
    case rel => exact ⟨k + 1, by omega, rfl, by first | rfl | exact congrArg (Value.int .i64) (by omega) | go_num, HS6, HB6⟩
  obtain rfl : k = 4 := by omega
  have HSH := HS
  rw [headK_4] at HSH
  have HBQ := Lib.hid (ext_trans HB3.out HBR.out)
  have HINQ := Lib.hid (HIN.out.below HBQ.out)
  obtain ⟨y0, _, _, _, y4, y5, y6, y7, y8, y9, yp⟩ := ltRow_of (HF.out _ HBQ.out) HLN.out
  have HYP := Lib.hid yp
  clear yp HS
  have d1 : (l.kind == 2) = true := by rw [HKK.out]; rfl
  have HRI := Lib.hid (right_refs HOK.out HKK.out)
  clear y0 y5 y6 y7 y8 y9
  obtain ⟨y0, _⟩ := ltRow_of (HF.out _ HBQ.out) HLN.out
  go_wp2_with fail
  refine (num_s _ _ (l.refs.length : Int) wr HSH.out (by have := headW_len l; omega)).mono ?_
  rintro e w7 ⟨v7, rfl, hs7, hb7⟩
  have HB7 := Lib.hid (ext_trans HBQ.out hb7)
  have HS7 : Hid (Sl w7 v7 (headW l ++ (numB (clampN (l.refs.length : Int)) ++ (l.refs.take 0).flatMap refB))) := Lib.hid (by simpa using hs7)
  clear hs7 hb7 y4 y0 d1
  obtain ⟨_, _, _, _, y4, _⟩ := ltRow_of (HF.out _ HB7.out) HLN.out
  have hl1 := HINQ.out.rr.2.1
  have hl2 := HINQ.out.rr.2.2
  have HRK : Hid (∀ r ∈ l.refs, r.name.size ≤ 60 ∧ r.id.length = 32) := Lib.hid (fun r hr => by
    obtain ⟨i, hi, rfl⟩ := List.getElem_of_mem hr
    exact ⟨nameS_size (refsAll_get HRI.out.1 i hi).1, (HINQ.out.rok _ hr).1⟩)
  have HNL := Lib.hid (numB_len (l.refs.length : Int)).2
  go_wp2_with fail
  clear y4
  go_loopg [4, 42] (l.refs.length * 1) (fun gk_ s4 s wr => ∃ (k : Nat), k ≤ l.refs.length ∧ gk_ = l.refs.length - k ∧ s = .int .i64 (k : Int) ∧ Hid (Sl wr s4 (headW l ++ (numB (clampN (l.refs.length : Int)) ++ (l.refs.take k).flatMap refB))) ∧ Hid (Below W1.heap.size W1 wr))
  case atStart => exact ⟨0, by omega, by omega, rfl, HS7, HB7⟩
  case round =>
  clear HS7 HB7 HBR HSH HBQ HINQ
  obtain ⟨k, hk, rfl, rfl, HS, HBQ⟩ := hrel
  by_cases hlt : k < l.refs.length
  · have HINQ := Lib.hid (HIN.out.below HBQ.out)
    have HO := Lib.hid HINQ.out.rok
    have hpos : 0 < (rfc l.refs).length := by rw [rfc_length HO.out]; omega
    have hrd := HINQ.out.rr.1
    obtain ⟨b, off, hA, _⟩ := hrd.all hpos
    rw [hA] at hrd
    have RS := rd_ref hrd HO.out k hlt
    have hso := rOk_get HO.out k hlt
    have hst := refB_take hlt
    obtain ⟨s, hs⟩ : ∃ s, l.refs[k] = s := ⟨_, rfl⟩
    have hsz := HRK.out _ (List.getElem_mem hlt)
    rw [hs] at RS hso hst hsz
    have HST := Lib.hid hst
    have HSO := Lib.hid hso
    have HSZ1 := Lib.hid hsz.1
    have HIS := Lib.hid (info_ref s hso)
    have HIA : Hid ((Try.prog.info? 52).map (·.size) = some s.cells.toArray.size) := Lib.hid (by rw [List.size_toArray]; exact info_ref s hso)
    have HIW := Lib.hid (info_id32 s.id hso.1)
    obtain ⟨Wa, W5, hWa0, hW5, HTH, HRS, HB5⟩ := row_place (w := wr) 52 refZ s.cells (by rw [RefM.len hso]; rfl)
    have hWa : wr.alloc (.cells #[Value.string ⟨#[]⟩, Value.int .u8 0, Value.int .u8 0, Value.int .u8 0, Value.int .u8 0, Value.int .u8 0, Value.int .u8 0, Value.int .u8 0, Value.int .u8 0, Value.int .u8 0, Value.int .u8 0, Value.int .u8 0, Value.int .u8 0, Value.int .u8 0, Value.int .u8 0, Value.int .u8 0, Value.int .u8 0, Value.int .u8 0, Value.int .u8 0, Value.int .u8 0, Value.int .u8 0, Value.int .u8 0, Value.int .u8 0, Value.int .u8 0, Value.int .u8 0, Value.int .u8 0, Value.int .u8 0, Value.int .u8 0, Value.int .u8 0, Value.int .u8 0, Value.int .u8 0, Value.int .u8 0, Value.int .u8 0] 52) = Wa := hWa0
    have HW5 := Lib.hid hW5
    have hHl : wr.heap.size < W5.heap.size := (Array.getElem?_eq_some_iff.1 HRS.out).1
    have HHL5 := Lib.hid hHl
    have hrow := range_of_row HRS.out
    have HC0 := Lib.hid (ref_cell0 hrow)
    have HC1 := Lib.hid (ref_range1 hrow)
    have HBX := Lib.hid (ext_trans HBQ.out HB5.out)
    have HSS := Lib.hid (HS.out.below HB5.out)
    have HLE := Lib.hid (refB_flat_len HRK.out k)
    have HLR := Lib.hid HRI.out.2
    have i1 : (k : Int) < (l.refs.length : Int) := by omega
    have i2 : (l.refs.length : Int) ≤ (p.rc : Int) := by omega
    have HPA := Lib.hid hA
    clear hrd hpos hs hst hW5 hWa0 hHl hrow hso hsz hA
    rw [HPA.out]
    go_wp2_with (first
      | ((with_reducible (refine wpList_load_cells 52 _ b (off + k * 33) (s.cells) RS Try.underlying52 rfl HIS.out ?_ rfl ?_ ?_)); (exact rfl); (exact rfl))
      | ((with_reducible (refine wpList_store_mid rfl _ _ _ rfl ?_ ?_ ?_ ?_ ?_ ?_ ?_ ?_ ?_)); (exact wr.heap.size); (exact 0); (exact (s.cells).toArray); (exact rfl); (exact rfl); (exact HTH.out); (exact HIA.out); (exact all_oneCell_toArray s.one); rw [HW5.out]))
    clear hWa RS
    refine wp_region_sched (fun w' => w'.cell? ⟨wr.heap.size, 0, none⟩ = some (.string s.name) ∧ Below W5.heap.size W5 w') [(true, 0), (true, 1), (true, 2), (true, 4), (true, 5), (false, 3), (false, 6), (true, 7)] (by kernel_rfl) (by kernel_rfl) rfl (by kernel_rfl) ⟨HC0.out, (Below.refl _ _).drew⟩ ?_
    (repeat (first | (refine wpS_pass _ rfl (by rfl) ?_; simp only [Act.put, List.getElem_toArray, List.getElem_cons_zero, List.getElem_cons_succ, List.setIfInBounds_toArray, List.set_cons_zero, List.set_cons_succ]) | (refine wpS_take _ ?_ rfl (by rfl) ?_ ?_; rotate_left; (focus (intro w' hS'; (try dsimp only at hS'); (repeat (have hS1 := hS'.1; replace hS' := hS'.2)); go_simp; (try with_reducible rfl); done)); simp only [Act.put, List.getElem_toArray, List.getElem_cons_zero, List.getElem_cons_succ, List.setIfInBounds_toArray, List.set_cons_zero, List.set_cons_succ])))
    refine wpS_load _ rfl (by rfl) _ _ rfl _ _ rfl (b8s s.id) _ (fun w' hS' => range_below HC1.out HHL5.out hS'.2) Try.underlying25 rfl HIW.out ?_
    simp only [Act.put, List.getElem_toArray, List.getElem_cons_zero, List.getElem_cons_succ, List.setIfInBounds_toArray, List.set_cons_zero, List.set_cons_succ]
    refine wpS_do _ rfl (by rfl) (fun K hK => ?_)
    go_simp
    refine (text_s _ _ s.name _ (HSS.out.below (Below.refl _ _).drew) (by have h1 := HLE.out; have h2 := HNL.out; have h3 := headW_len l; have h4 := HLR.out; simp only [List.length_append]; omega) (by have := HSZ1.out; omega)).mono ?_
    rintro e w6 ⟨v6, rfl, hs6, hb6⟩
    have HB6 : Hid (Below W5.heap.size W5 w6) := Lib.hid ((Below.refl _ _).drew.trans hb6)
    have HS6 := Lib.hid hs6
    refine hK.out _ _ ⟨cell_below HC0.out HHL5.out HB6.out, HB6.out⟩ (fun hS => ?_)
    clear hK hS hs6 hb6
    refine wpS_do _ rfl (by rfl) (fun K hK => ?_)
    go_simp
    refine (id_s _ _ s.id _ HS6.out HSO.out.1 (by have h1 := HLE.out; have h2 := HNL.out; have h3 := headW_len l; have h4 := HLR.out; have h5 := textB_len s.name.data.toList; have h6 := HSZ1.out; rw [size_toList] at h5; simp only [List.length_append]; omega)).mono ?_
    rintro e w8 ⟨v8, rfl, hs8, hb8⟩
    have HB8 : Hid (Below W5.heap.size W5 w8) := Lib.hid (ext_trans HB6.out hb8)
    have HS8 : Hid (Sl w8 v8 (headW l ++ (numB (clampN (l.refs.length : Int)) ++ (l.refs.take (k + 1)).flatMap refB))) := Lib.hid (by rw [HST.out, show refB s = textB s.name.data.toList ++ s.id from rfl]; simpa [List.append_assoc] using hs8)
    refine hK.out _ _ ⟨cell_below HC0.out HHL5.out HB8.out, HB8.out⟩ (fun hS => ?_)
    clear hK hS hs8 hb8
    (repeat (first | (refine wpS_pass _ rfl (by rfl) ?_; simp only [Act.put, List.getElem_toArray, List.getElem_cons_zero, List.getElem_cons_succ, List.setIfInBounds_toArray, List.set_cons_zero, List.set_cons_succ]) | (refine wpS_take _ ?_ rfl (by rfl) ?_ ?_; rotate_left; (focus (intro w' hS'; (try dsimp only at hS'); (repeat (have hS1 := hS'.1; replace hS' := hS'.2)); go_simp; (try with_reducible rfl); done)); simp only [Act.put, List.getElem_toArray, List.getElem_cons_zero, List.getElem_cons_succ, List.setIfInBounds_toArray, List.set_cons_zero, List.set_cons_succ])))
    refine wpS_done ?_
    go_wp2_with fail
    rw [← HPA.out]
    go_roundg (l.refs.length - (k + 1))
    case measure => omega
    case rel => exact ⟨k + 1, by omega, rfl, by first | rfl | exact congrArg (Value.int .i64) (by omega) | go_num, HS8, Lib.hid (ext_trans HBX.out HB8.out)⟩
  obtain rfl : k = l.refs.length := by omega
  have HSZ : Hid (Sl wr _ (inW l)) := Lib.hid (by have h := HS.out; rw [List.take_length] at h; unfold inW; rw [bodyW_2 HKK.out]; unfold refsB; exact h)
  have HBZ := HBQ
  have HLE := Lib.hid (refB_flat_len HRK.out l.refs.length)
  go_wp2_with fail
  refine (sum_s _ _ wr HSZ.out).mono ?_
  rintro e wz1 ⟨rfl, rfl⟩
  go_wp2_with fail
  refine (four_s _ _ _ wr HSZ.out (crc_lt _) (by have h1 := HLE.out; have h2 := HNL.out; have h3 := headW_len l; have h4 := HRI.out.2; rw [List.take_length] at h1; unfold inW; rw [bodyW_2 HKK.out]; unfold refsB; simp only [List.length_append]; omega)).mono ?_
  rintro e wz2 ⟨vz, rfl, hsz, hbz⟩
  go_wp2_with fail
  go_ret2
  exact ⟨vz, rfl, hsz, HBW.out _ (ext_trans HBZ.out hbz)⟩


set_option maxRecDepth 100000 in
set_option maxHeartbeats 8000000 in
theorem write_ok3 (l : Lt) (p : LtP) (w : World) (hin : LtIn w l p) (ht : -9223372036854775808 ≤ l.total ∧ l.total ≤ 9223372036854775807) (hok : rightL l = true) (hk : l.kind = 3) :
    Calls Try.prog 9 #[l.val p] w fun e w' => WrOut w w' e (writeB l) := by
  obtain ⟨W1, hW1⟩ : ∃ W, w.alloc (.cells (l.cells p).toArray 28) = W := ⟨_, rfl⟩
  obtain ⟨r1, b1, s1⟩ := new_row hW1
  obtain ⟨g, hg⟩ : ∃ g, w.heap.size = g := ⟨_, rfl⟩
  rw [hg] at r1
  have HGS : Hid (g < W1.heap.size) := Lib.hid (Array.getElem?_eq_some_iff.1 r1).1
  have HR1 := Lib.hid r1
  have HB1 := Lib.hid b1
  have HIN := Lib.hid (hin.below b1)
  have HLN := Lib.hid hin.len
  have HF : Hid (∀ W, Below W1.heap.size W1 W → W.heap[g]? = some (.cells (l.cells p).toArray 28 (0, 0))) := Lib.hid (fun W h => (h.block g HGS.out).trans HR1.out)
  have HBW : Hid (∀ W, Below W1.heap.size W1 W → Below w.heap.size w W) := Lib.hid (fun W h => HB1.out.trans (h.mono (by rw [hg]; exact Nat.le_of_lt HGS.out)))
  have HIL := Lib.hid (info_leta l p hin.len)
  have HRT := Lib.hid (lright_any l p W1 (hin.below b1) ht)
  unfold Lt.val
  clear b1 s1 hin ht
  rw [hok] at HRT
  have HOK := Lib.hid hok
  have HKK := Lib.hid hk
  clear hok hk
  have HRW := Lib.hid r1
  clear r1
  go_enter Try.func9, Try.ntmps9
  go_wp2_with ((with_reducible (refine wpList_load_row_w _ _ rfl _ rfl _ _ _ _ HRW.out Try.underlying28 rfl HIL.out ?_ ?_)); (focus (rfl)))
  refine HRT.out.mono ?_
  rintro e w2 ⟨rfl, hb2⟩
  clear hW1 hg
  obtain ⟨x0, x1, x2, x3, _⟩ := ltRow_of (HF.out _ hb2) HLN.out
  obtain ⟨W3, hW3⟩ : ∃ W, w2.alloc (.cells #[.int .i64 l.kind, .int .i64 l.from_, .int .i64 l.to_, .int .i64 l.session] 2) = W := ⟨_, rfl⟩
  obtain ⟨r3, b3, s3⟩ := new_row hW3
  obtain ⟨H, hH⟩ : ∃ H, w2.heap.size = H := ⟨_, rfl⟩
  have HR3 : Hid (W3.heap[H]? = some (.cells #[.int .i64 l.kind, .int .i64 l.from_, .int .i64 l.to_, .int .i64 l.session] 2 (0, 0))) := Lib.hid (hH ▸ r3)
  have HHL : Hid (H < W3.heap.size) := Lib.hid (by omega)
  have HB3 : Hid (Below W1.heap.size W1 W3) := Lib.hid (ext_trans hb2 b3)
  have HBR : Hid (Below W3.heap.size W3 W3) := Lib.hid (Below.refl _ _)
  have HS0 : Hid (Sl W3 (.slice none 0 0) (headK l 0)) := Lib.hid (Sl.nil _)
  clear r3 b3 s3 hb2
  go_wp2_with fail
  clear hW3 hH x0 x1 x2 x3
  go_loopg [4, 22] 4 (fun gk_ s4 s wr => ∃ (k : Nat), k ≤ 4 ∧ gk_ = 4 - k ∧ s = .int .i64 (k : Int) ∧ Hid (Sl wr s4 (headK l k)) ∧ Hid (Below W3.heap.size W3 wr))
  case atStart => exact ⟨0, by omega, by omega, rfl, HS0, HBR⟩
  case round =>
  clear HS0 HBR
  obtain ⟨k, hk, rfl, rfl, HS, HBR⟩ := hrel
  by_cases hlt : k < 4
  · have hkl : k < (numsW l).length := hlt
    obtain ⟨n, hn⟩ : ∃ n, (numsW l)[k] = n := ⟨_, rfl⟩
    have cn : wr.cell? ⟨H, k, none⟩ = some (.int .i64 n) := by
      rw [row_cell ((HBR.out.block H HHL.out).trans HR3.out), ← hn]
      rcases k with _ | _ | _ | _ | k
      · rfl
      · rfl
      · rfl
      · rfl
      · omega
    have HNX : Hid (headK l (k + 1) = headK l k ++ numB (clampN n)) := Lib.hid (by
      unfold headK
      have e : (numsW l).take (k + 1) = (numsW l).take k ++ [n] := by
        rw [List.take_add_one, List.getElem?_eq_getElem hkl, hn]; rfl
      rw [e, List.flatMap_append]
      simp)
    clear hn hkl
    go_wp2_with fail
    refine (num_s _ _ n wr HS.out (by have := headK_len l k; omega)).mono ?_
    rintro e w6 ⟨v6, rfl, hs6, hb6⟩
    have HS6 : Hid (Sl w6 v6 (headK l (k + 1))) := Lib.hid (by rw [HNX.out]; exact hs6)
    have HB6 := Lib.hid (ext_trans HBR.out hb6)
    clear hs6 hb6 cn
    go_wp2_with fail
    go_roundg (4 - (k + 1))
    case measure => omega
    case rel => exact ⟨k + 1, by omega, rfl, by first | rfl | exact congrArg (Value.int .i64) (by omega) | go_num, HS6, HB6⟩
  obtain rfl : k = 4 := by omega
  have HSH := HS
  rw [headK_4] at HSH
  have HBQ := Lib.hid (ext_trans HB3.out HBR.out)
  have HINQ := Lib.hid (HIN.out.below HBQ.out)
  obtain ⟨y0, _, _, _, y4, y5, y6, y7, y8, y9, yp⟩ := ltRow_of (HF.out _ HBQ.out) HLN.out
  have HYP := Lib.hid yp
  clear yp HS
  have d1 : (l.kind == 2) = false := by rw [HKK.out]; rfl
  have d2 : (l.kind == 3) = true := by rw [HKK.out]; rfl
  have HRI := Lib.hid (right_ids HOK.out HKK.out)
  have HW3 : Hid ((idsB l.wants).length ≤ 4000) := Lib.hid (by
    have h1 := (numB_len (l.wants.length : Int)).2
    have h2 := flat_len HINQ.out.wok l.wants.length
    rw [List.take_length] at h2
    have h3 := HRI.out.2.1
    unfold idsB
    simp only [List.length_append]
    omega)
  have HV3 : Hid ((idsB l.haves).length ≤ 8000) := Lib.hid (by
    have h1 := (numB_len (l.haves.length : Int)).2
    have h2 := flat_len HINQ.out.hok l.haves.length
    rw [List.take_length] at h2
    have h3 := HRI.out.2.2.1
    unfold idsB
    simp only [List.length_append]
    omega)
  have HY := Lib.hid (And.intro y5 (And.intro y6 y7))
  clear y4 y5 y6 y7 y8 y9
  go_wp2_with fail
  clear d1 d2
  refine wp_region_sched (fun w' => w'.cell? ⟨g, 5, none⟩ = some (.slice p.wA l.wants.length p.wc) ∧ w'.cell? ⟨g, 6, none⟩ = some (.slice p.hA l.haves.length p.hc) ∧ w'.cell? ⟨g, 7, none⟩ = some (.int .i64 l.off)) [(true, 0), (true, 1), (true, 2), (true, 4), (true, 5), (true, 7), (true, 8), (false, 3), (false, 6), (false, 9), (true, 10)] (by kernel_rfl) (by kernel_rfl) rfl (by kernel_rfl) HY.out ?_
  (repeat (first | (refine wpS_pass _ rfl (by rfl) ?_; simp only [Act.put, List.getElem_toArray, List.getElem_cons_zero, List.getElem_cons_succ, List.setIfInBounds_toArray, List.set_cons_zero, List.set_cons_succ]) | (refine wpS_take _ ?_ rfl (by rfl) ?_ ?_; rotate_left; (focus (intro w' hS'; (try dsimp only at hS'); (repeat (have hS1 := hS'.1; replace hS' := hS'.2)); go_simp; (try with_reducible rfl); done)); simp only [Act.put, List.getElem_toArray, List.getElem_cons_zero, List.getElem_cons_succ, List.setIfInBounds_toArray, List.set_cons_zero, List.set_cons_succ])))
  have HSK : Hid (∀ W, Below W1.heap.size W1 W → W.cell? ⟨g, 5, none⟩ = some (.slice p.wA l.wants.length p.wc) ∧ W.cell? ⟨g, 6, none⟩ = some (.slice p.hA l.haves.length p.hc) ∧ W.cell? ⟨g, 7, none⟩ = some (.int .i64 l.off)) := Lib.hid (fun W h => by
    obtain ⟨_, _, _, _, _, a5, a6, a7, _⟩ := ltRow_of (HF.out W h) HLN.out
    exact ⟨a5, a6, a7⟩)
  refine wpS_do _ rfl (by rfl) (fun K hK => ?_)
  go_simp
  refine (ids_any _ _ p.wA l.wants p.wc _ (HSH.out.below (Below.refl _ _).drew) (by have := headW_len l; omega) HINQ.out.wr.1.drew HINQ.out.wok HINQ.out.wr.2.1 HINQ.out.wr.2.2 (by have := HRI.out.2.1; omega)).mono ?_
  rintro e w6 ⟨v6, rfl, hs6, hb6⟩
  have HB6 : Hid (Below W1.heap.size W1 w6) := Lib.hid (ext_trans HBQ.out ((Below.refl _ _).drew.trans hb6))
  have HS6 := Lib.hid hs6
  refine hK.out _ _ (HSK.out _ HB6.out) (fun hS => ?_)
  clear hK hS hs6 hb6
  have HIN6 := Lib.hid (HIN.out.below HB6.out)
  refine wpS_do _ rfl (by rfl) (fun K hK => ?_)
  go_simp
  refine (ids_any _ _ p.hA l.haves p.hc _ HS6.out (by have h1 := headW_len l; have h2 := HW3.out; have h3 := HV3.out; have h4 := (numB_len l.off).2; simp only [List.length_append]; omega) HIN6.out.hr.1 HIN6.out.hok HIN6.out.hr.2.1 HIN6.out.hr.2.2 (by have := HRI.out.2.2.1; omega)).mono ?_
  rintro e w7 ⟨v7, rfl, hs7, hb7⟩
  have HB7 : Hid (Below W1.heap.size W1 w7) := Lib.hid (ext_trans HB6.out hb7)
  have HS7 := Lib.hid hs7
  refine hK.out _ _ (HSK.out _ HB7.out) (fun hS => ?_)
  clear hK hS hs7 hb7
  refine wpS_do _ rfl (by rfl) (fun K hK => ?_)
  go_simp
  refine (num_s _ _ l.off _ HS7.out (by have h1 := headW_len l; have h2 := HW3.out; have h3 := HV3.out; have h4 := (numB_len l.off).2; simp only [List.length_append]; omega)).mono ?_
  rintro e w8 ⟨v8, rfl, hs8, hb8⟩
  have HBZ : Hid (Below W1.heap.size W1 w8) := Lib.hid (ext_trans HB7.out hb8)
  have HSZ : Hid (Sl w8 v8 (inW l)) := Lib.hid (by unfold inW; rw [bodyW_3 HKK.out]; simpa [List.append_assoc] using hs8)
  refine hK.out _ _ (HSK.out _ HBZ.out) (fun hS => ?_)
  clear hK hS hs8 hb8
  (repeat (first | (refine wpS_pass _ rfl (by rfl) ?_; simp only [Act.put, List.getElem_toArray, List.getElem_cons_zero, List.getElem_cons_succ, List.setIfInBounds_toArray, List.set_cons_zero, List.set_cons_succ]) | (refine wpS_take _ ?_ rfl (by rfl) ?_ ?_; rotate_left; (focus (intro w' hS'; (try dsimp only at hS'); (repeat (have hS1 := hS'.1; replace hS' := hS'.2)); go_simp; (try with_reducible rfl); done)); simp only [Act.put, List.getElem_toArray, List.getElem_cons_zero, List.getElem_cons_succ, List.setIfInBounds_toArray, List.set_cons_zero, List.set_cons_succ])))
  refine wpS_done ?_
  go_wp2_with fail
  refine (sum_s _ _ w8 HSZ.out).mono ?_
  rintro e wz1 ⟨rfl, rfl⟩
  go_wp2_with fail
  refine (four_s _ _ _ w8 HSZ.out (crc_lt _) (by have h1 := headW_len l; have h2 := HW3.out; have h3 := HV3.out; have h4 := (numB_len l.off).2; unfold inW; rw [bodyW_3 HKK.out]; simp only [List.length_append]; omega)).mono ?_
  rintro e wz2 ⟨vz, rfl, hsz, hbz⟩
  go_wp2_with fail
  go_ret2
  exact ⟨vz, rfl, hsz, HBW.out _ (ext_trans HBZ.out hbz)⟩


set_option maxRecDepth 100000 in
set_option maxHeartbeats 8000000 in
theorem write_ok4 (l : Lt) (p : LtP) (w : World) (hin : LtIn w l p) (ht : -9223372036854775808 ≤ l.total ∧ l.total ≤ 9223372036854775807) (hok : rightL l = true) (hk : l.kind = 4) :
    Calls Try.prog 9 #[l.val p] w fun e w' => WrOut w w' e (writeB l) := by
  obtain ⟨W1, hW1⟩ : ∃ W, w.alloc (.cells (l.cells p).toArray 28) = W := ⟨_, rfl⟩
  obtain ⟨r1, b1, s1⟩ := new_row hW1
  obtain ⟨g, hg⟩ : ∃ g, w.heap.size = g := ⟨_, rfl⟩
  rw [hg] at r1
  have HGS : Hid (g < W1.heap.size) := Lib.hid (Array.getElem?_eq_some_iff.1 r1).1
  have HR1 := Lib.hid r1
  have HB1 := Lib.hid b1
  have HIN := Lib.hid (hin.below b1)
  have HLN := Lib.hid hin.len
  have HF : Hid (∀ W, Below W1.heap.size W1 W → W.heap[g]? = some (.cells (l.cells p).toArray 28 (0, 0))) := Lib.hid (fun W h => (h.block g HGS.out).trans HR1.out)
  have HBW : Hid (∀ W, Below W1.heap.size W1 W → Below w.heap.size w W) := Lib.hid (fun W h => HB1.out.trans (h.mono (by rw [hg]; exact Nat.le_of_lt HGS.out)))
  have HIL := Lib.hid (info_leta l p hin.len)
  have HRT := Lib.hid (lright_any l p W1 (hin.below b1) ht)
  unfold Lt.val
  clear b1 s1 hin ht
  rw [hok] at HRT
  have HOK := Lib.hid hok
  have HKK := Lib.hid hk
  clear hok hk
  have HRW := Lib.hid r1
  clear r1
  go_enter Try.func9, Try.ntmps9
  go_wp2_with ((with_reducible (refine wpList_load_row_w _ _ rfl _ rfl _ _ _ _ HRW.out Try.underlying28 rfl HIL.out ?_ ?_)); (focus (rfl)))
  refine HRT.out.mono ?_
  rintro e w2 ⟨rfl, hb2⟩
  clear hW1 hg
  obtain ⟨x0, x1, x2, x3, _⟩ := ltRow_of (HF.out _ hb2) HLN.out
  obtain ⟨W3, hW3⟩ : ∃ W, w2.alloc (.cells #[.int .i64 l.kind, .int .i64 l.from_, .int .i64 l.to_, .int .i64 l.session] 2) = W := ⟨_, rfl⟩
  obtain ⟨r3, b3, s3⟩ := new_row hW3
  obtain ⟨H, hH⟩ : ∃ H, w2.heap.size = H := ⟨_, rfl⟩
  have HR3 : Hid (W3.heap[H]? = some (.cells #[.int .i64 l.kind, .int .i64 l.from_, .int .i64 l.to_, .int .i64 l.session] 2 (0, 0))) := Lib.hid (hH ▸ r3)
  have HHL : Hid (H < W3.heap.size) := Lib.hid (by omega)
  have HB3 : Hid (Below W1.heap.size W1 W3) := Lib.hid (ext_trans hb2 b3)
  have HBR : Hid (Below W3.heap.size W3 W3) := Lib.hid (Below.refl _ _)
  have HS0 : Hid (Sl W3 (.slice none 0 0) (headK l 0)) := Lib.hid (Sl.nil _)
  clear r3 b3 s3 hb2
  go_wp2_with fail
  clear hW3 hH x0 x1 x2 x3
  go_loopg [4, 22] 4 (fun gk_ s4 s wr => ∃ (k : Nat), k ≤ 4 ∧ gk_ = 4 - k ∧ s = .int .i64 (k : Int) ∧ Hid (Sl wr s4 (headK l k)) ∧ Hid (Below W3.heap.size W3 wr))
  case atStart => exact ⟨0, by omega, by omega, rfl, HS0, HBR⟩
  case round =>
  clear HS0 HBR
  obtain ⟨k, hk, rfl, rfl, HS, HBR⟩ := hrel
  by_cases hlt : k < 4
  · have hkl : k < (numsW l).length := hlt
    obtain ⟨n, hn⟩ : ∃ n, (numsW l)[k] = n := ⟨_, rfl⟩
    have cn : wr.cell? ⟨H, k, none⟩ = some (.int .i64 n) := by
      rw [row_cell ((HBR.out.block H HHL.out).trans HR3.out), ← hn]
      rcases k with _ | _ | _ | _ | k
      · rfl
      · rfl
      · rfl
      · rfl
      · omega
    have HNX : Hid (headK l (k + 1) = headK l k ++ numB (clampN n)) := Lib.hid (by
      unfold headK
      have e : (numsW l).take (k + 1) = (numsW l).take k ++ [n] := by
        rw [List.take_add_one, List.getElem?_eq_getElem hkl, hn]; rfl
      rw [e, List.flatMap_append]
      simp)
    clear hn hkl
    go_wp2_with fail
    refine (num_s _ _ n wr HS.out (by have := headK_len l k; omega)).mono ?_
    rintro e w6 ⟨v6, rfl, hs6, hb6⟩
    have HS6 : Hid (Sl w6 v6 (headK l (k + 1))) := Lib.hid (by rw [HNX.out]; exact hs6)
    have HB6 := Lib.hid (ext_trans HBR.out hb6)
    clear hs6 hb6 cn
    go_wp2_with fail
    go_roundg (4 - (k + 1))
    case measure => omega
    case rel => exact ⟨k + 1, by omega, rfl, by first | rfl | exact congrArg (Value.int .i64) (by omega) | go_num, HS6, HB6⟩
  obtain rfl : k = 4 := by omega
  have HSH := HS
  rw [headK_4] at HSH
  have HBQ := Lib.hid (ext_trans HB3.out HBR.out)
  have HINQ := Lib.hid (HIN.out.below HBQ.out)
  obtain ⟨y0, _, _, _, y4, y5, y6, y7, y8, y9, yp⟩ := ltRow_of (HF.out _ HBQ.out) HLN.out
  have HYP := Lib.hid yp
  clear yp HS
  have d1 : (l.kind == 2) = false := by rw [HKK.out]; rfl
  have d2 : (l.kind == 3) = false := by rw [HKK.out]; rfl
  have d3 : (l.kind == 4) = true := by rw [HKK.out]; rfl
  have HRI := Lib.hid (right_part HOK.out HKK.out)
  have HIW := Lib.hid (info_id32 l.pack HLN.out)
  have HSK : Hid (∀ W, Below wr.heap.size wr W → W.cell? ⟨g, 7, none⟩ = some (.int .i64 l.off) ∧ W.cell? ⟨g, 8, none⟩ = some (.int .i64 l.total) ∧ W.cell? ⟨g, 41, none⟩ = some (.slice p.dA l.data.length p.dc) ∧ Below wr.heap.size wr W) := Lib.hid (fun W h => by
    obtain ⟨_, _, _, _, _, _, _, a7, a8, a9, _⟩ := ltRow_of (HF.out W (ext_trans HBQ.out h)) HLN.out
    exact ⟨a7, a8, a9, h⟩)
  clear y4 y5 y6 y7 y8 y9
  go_wp2_with fail
  clear d1 d2 d3
  refine wp_region_sched (fun w' => w'.cell? ⟨g, 7, none⟩ = some (.int .i64 l.off) ∧ w'.cell? ⟨g, 8, none⟩ = some (.int .i64 l.total) ∧ w'.cell? ⟨g, 41, none⟩ = some (.slice p.dA l.data.length p.dc) ∧ Below wr.heap.size wr w') [(true, 0), (true, 1), (true, 2), (true, 4), (true, 5), (true, 7), (true, 8), (true, 10), (true, 11), (true, 12), (false, 3), (false, 6), (false, 9), (false, 13), (true, 14)] (by kernel_rfl) (by kernel_rfl) rfl (by kernel_rfl) (HSK.out _ (Below.refl _ _).drew) ?_
  (first | (refine wpS_pass _ rfl (by rfl) ?_; simp only [Act.put, List.getElem_toArray, List.getElem_cons_zero, List.getElem_cons_succ, List.setIfInBounds_toArray, List.set_cons_zero, List.set_cons_succ]) | (refine wpS_take _ ?_ rfl (by rfl) ?_ ?_; rotate_left; (focus (intro w' hS'; (try dsimp only at hS'); (repeat (have hS1 := hS'.1; replace hS' := hS'.2)); go_simp; (try with_reducible rfl); done)); simp only [Act.put, List.getElem_toArray, List.getElem_cons_zero, List.getElem_cons_succ, List.setIfInBounds_toArray, List.set_cons_zero, List.set_cons_succ]))
  (first | (refine wpS_pass _ rfl (by rfl) ?_; simp only [Act.put, List.getElem_toArray, List.getElem_cons_zero, List.getElem_cons_succ, List.setIfInBounds_toArray, List.set_cons_zero, List.set_cons_succ]) | (refine wpS_take _ ?_ rfl (by rfl) ?_ ?_; rotate_left; (focus (intro w' hS'; (try dsimp only at hS'); (repeat (have hS1 := hS'.1; replace hS' := hS'.2)); go_simp; (try with_reducible rfl); done)); simp only [Act.put, List.getElem_toArray, List.getElem_cons_zero, List.getElem_cons_succ, List.setIfInBounds_toArray, List.set_cons_zero, List.set_cons_succ]))
  refine wpS_load _ rfl (by rfl) _ _ rfl g 9 rfl (b8s l.pack) _ (fun w' hS' => (ltRow_of (HF.out w' (ext_trans HBQ.out hS'.2.2.2)) HLN.out).2.2.2.2.2.2.2.2.2.2) Try.underlying25 rfl HIW.out ?_
  simp only [Act.put, List.getElem_toArray, List.getElem_cons_zero, List.getElem_cons_succ, List.setIfInBounds_toArray, List.set_cons_zero, List.set_cons_succ]
  (first | (refine wpS_pass _ rfl (by rfl) ?_; simp only [Act.put, List.getElem_toArray, List.getElem_cons_zero, List.getElem_cons_succ, List.setIfInBounds_toArray, List.set_cons_zero, List.set_cons_succ]) | (refine wpS_take _ ?_ rfl (by rfl) ?_ ?_; rotate_left; (focus (intro w' hS'; (try dsimp only at hS'); (repeat (have hS1 := hS'.1; replace hS' := hS'.2)); go_simp; (try with_reducible rfl); done)); simp only [Act.put, List.getElem_toArray, List.getElem_cons_zero, List.getElem_cons_succ, List.setIfInBounds_toArray, List.set_cons_zero, List.set_cons_succ]))
  (first | (refine wpS_pass _ rfl (by rfl) ?_; simp only [Act.put, List.getElem_toArray, List.getElem_cons_zero, List.getElem_cons_succ, List.setIfInBounds_toArray, List.set_cons_zero, List.set_cons_succ]) | (refine wpS_take _ ?_ rfl (by rfl) ?_ ?_; rotate_left; (focus (intro w' hS'; (try dsimp only at hS'); (repeat (have hS1 := hS'.1; replace hS' := hS'.2)); go_simp; (try with_reducible rfl); done)); simp only [Act.put, List.getElem_toArray, List.getElem_cons_zero, List.getElem_cons_succ, List.setIfInBounds_toArray, List.set_cons_zero, List.set_cons_succ]))
  (first | (refine wpS_pass _ rfl (by rfl) ?_; simp only [Act.put, List.getElem_toArray, List.getElem_cons_zero, List.getElem_cons_succ, List.setIfInBounds_toArray, List.set_cons_zero, List.set_cons_succ]) | (refine wpS_take _ ?_ rfl (by rfl) ?_ ?_; rotate_left; (focus (intro w' hS'; (try dsimp only at hS'); (repeat (have hS1 := hS'.1; replace hS' := hS'.2)); go_simp; (try with_reducible rfl); done)); simp only [Act.put, List.getElem_toArray, List.getElem_cons_zero, List.getElem_cons_succ, List.setIfInBounds_toArray, List.set_cons_zero, List.set_cons_succ]))
  (first | (refine wpS_pass _ rfl (by rfl) ?_; simp only [Act.put, List.getElem_toArray, List.getElem_cons_zero, List.getElem_cons_succ, List.setIfInBounds_toArray, List.set_cons_zero, List.set_cons_succ]) | (refine wpS_take _ ?_ rfl (by rfl) ?_ ?_; rotate_left; (focus (intro w' hS'; (try dsimp only at hS'); (repeat (have hS1 := hS'.1; replace hS' := hS'.2)); go_simp; (try with_reducible rfl); done)); simp only [Act.put, List.getElem_toArray, List.getElem_cons_zero, List.getElem_cons_succ, List.setIfInBounds_toArray, List.set_cons_zero, List.set_cons_succ]))
  (first | (refine wpS_pass _ rfl (by rfl) ?_; simp only [Act.put, List.getElem_toArray, List.getElem_cons_zero, List.getElem_cons_succ, List.setIfInBounds_toArray, List.set_cons_zero, List.set_cons_succ]) | (refine wpS_take _ ?_ rfl (by rfl) ?_ ?_; rotate_left; (focus (intro w' hS'; (try dsimp only at hS'); (repeat (have hS1 := hS'.1; replace hS' := hS'.2)); go_simp; (try with_reducible rfl); done)); simp only [Act.put, List.getElem_toArray, List.getElem_cons_zero, List.getElem_cons_succ, List.setIfInBounds_toArray, List.set_cons_zero, List.set_cons_succ]))
  (first | (refine wpS_pass _ rfl (by rfl) ?_; simp only [Act.put, List.getElem_toArray, List.getElem_cons_zero, List.getElem_cons_succ, List.setIfInBounds_toArray, List.set_cons_zero, List.set_cons_succ]) | (refine wpS_take _ ?_ rfl (by rfl) ?_ ?_; rotate_left; (focus (intro w' hS'; (try dsimp only at hS'); (repeat (have hS1 := hS'.1; replace hS' := hS'.2)); go_simp; (try with_reducible rfl); done)); simp only [Act.put, List.getElem_toArray, List.getElem_cons_zero, List.getElem_cons_succ, List.setIfInBounds_toArray, List.set_cons_zero, List.set_cons_succ]))
  refine wpS_take _ (.string ⟨l.data.toArray⟩) rfl (by rfl) (fun w' hS' => exec_conv _ _ _ rfl _ _ rfl (run_str_of_bytes l.data.length p.dc rfl Try.underlying26 Try.underlying5 Try.underlying9 (HIN.out.below (ext_trans HBQ.out hS'.2.2.2)).dr.1)) ?_
  simp only [Act.put, List.getElem_toArray, List.getElem_cons_zero, List.getElem_cons_succ, List.setIfInBounds_toArray, List.set_cons_zero, List.set_cons_succ]
  refine wpS_do _ rfl (by rfl) (fun K hK => ?_)
  go_simp
  refine (id_s _ _ l.pack _ (HSH.out.below (Below.refl _ _).drew) HLN.out (by have := headW_len l; omega)).mono ?_
  rintro e w6 ⟨v6, rfl, hs6, hb6⟩
  have HB6 : Hid (Below wr.heap.size wr w6) := Lib.hid ((Below.refl _ _).drew.trans hb6)
  have HS6 := Lib.hid hs6
  refine hK.out _ _ (HSK.out _ HB6.out) (fun hS => ?_)
  clear hK hS hs6 hb6
  refine wpS_do _ rfl (by rfl) (fun K hK => ?_)
  go_simp
  refine (num_s _ _ l.off _ HS6.out (by have h1 := headW_len l; have h2 := HLN.out; have h3 := (numB_len l.off).2; have h4 := (numB_len l.total).2; have h5 := textB_len l.data; have h6 := HRI.out.2.2.2.2.2; simp only [List.length_append]; omega)).mono ?_
  rintro e w7 ⟨v7, rfl, hs7, hb7⟩
  have HB7 : Hid (Below wr.heap.size wr w7) := Lib.hid (ext_trans HB6.out hb7)
  have HS7 := Lib.hid hs7
  refine hK.out _ _ (HSK.out _ HB7.out) (fun hS => ?_)
  clear hK hS hs7 hb7
  refine wpS_do _ rfl (by rfl) (fun K hK => ?_)
  go_simp
  refine (num_s _ _ l.total _ HS7.out (by have h1 := headW_len l; have h2 := HLN.out; have h3 := (numB_len l.off).2; have h4 := (numB_len l.total).2; have h5 := textB_len l.data; have h6 := HRI.out.2.2.2.2.2; simp only [List.length_append]; omega)).mono ?_
  rintro e w8 ⟨v8, rfl, hs8, hb8⟩
  have HB8 : Hid (Below wr.heap.size wr w8) := Lib.hid (ext_trans HB7.out hb8)
  have HS8 := Lib.hid hs8
  refine hK.out _ _ (HSK.out _ HB8.out) (fun hS => ?_)
  clear hK hS hs8 hb8
  refine wpS_do _ rfl (by rfl) (fun K hK => ?_)
  go_simp
  refine (text_s _ _ ⟨l.data.toArray⟩ _ HS8.out (by have h1 := headW_len l; have h2 := HLN.out; have h3 := (numB_len l.off).2; have h4 := (numB_len l.total).2; have h5 := textB_len l.data; have h6 := HRI.out.2.2.2.2.2; simp only [List.length_append]; omega) (by have h1 := headW_len l; have h2 := HLN.out; have h3 := (numB_len l.off).2; have h4 := (numB_len l.total).2; have h5 := textB_len l.data; have h6 := HRI.out.2.2.2.2.2; show l.data.toArray.size ≤ _; rw [List.size_toArray]; omega)).mono ?_
  rintro e w9 ⟨v9, rfl, hs9, hb9⟩
  have HB9 : Hid (Below wr.heap.size wr w9) := Lib.hid (ext_trans HB8.out hb9)
  have HBZ : Hid (Below W1.heap.size W1 w9) := Lib.hid (ext_trans HBQ.out HB9.out)
  have HSZ : Hid (Sl w9 v9 (inW l)) := Lib.hid (by unfold inW; rw [bodyW_4 HKK.out]; simpa [List.append_assoc] using hs9)
  refine hK.out _ _ (HSK.out _ HB9.out) (fun hS => ?_)
  clear hK hS hs9 hb9
  (repeat (first | (refine wpS_pass _ rfl (by rfl) ?_; simp only [Act.put, List.getElem_toArray, List.getElem_cons_zero, List.getElem_cons_succ, List.setIfInBounds_toArray, List.set_cons_zero, List.set_cons_succ]) | (refine wpS_take _ ?_ rfl (by rfl) ?_ ?_; rotate_left; (focus (intro w' hS'; (try dsimp only at hS'); (repeat (have hS1 := hS'.1; replace hS' := hS'.2)); go_simp; (try with_reducible rfl); done)); simp only [Act.put, List.getElem_toArray, List.getElem_cons_zero, List.getElem_cons_succ, List.setIfInBounds_toArray, List.set_cons_zero, List.set_cons_succ])))
  refine wpS_done ?_
  go_wp2_with fail
  refine (sum_s _ _ w9 HSZ.out).mono ?_
  rintro e wz1 ⟨rfl, rfl⟩
  go_wp2_with fail
  refine (four_s _ _ _ w9 HSZ.out (crc_lt _) (by have h1 := headW_len l; have h2 := HLN.out; have h3 := (numB_len l.off).2; have h4 := (numB_len l.total).2; have h5 := textB_len l.data; have h6 := HRI.out.2.2.2.2.2; unfold inW; rw [bodyW_4 HKK.out]; simp only [List.length_append]; omega)).mono ?_
  rintro e wz2 ⟨vz, rfl, hsz, hbz⟩
  go_wp2_with fail
  go_ret2
  exact ⟨vz, rfl, hsz, HBW.out _ (ext_trans HBZ.out hbz)⟩


/-- Write, of every right letter -/
theorem write_ok (l : Lt) (p : LtP) (w : World) (hin : LtIn w l p) (ht : -9223372036854775808 ≤ l.total ∧ l.total ≤ 9223372036854775807) (hok : rightL l = true) :
    Calls Try.prog 9 #[l.val p] w fun e w' => WrOut w w' e (writeB l) := by
  rcases right_kind hok with h | h | h | h
  · exact write_ok1 l p w hin ht hok h
  · exact write_ok2 l p w hin ht hok h
  · exact write_ok3 l p w hin ht hok h
  · exact write_ok4 l p w hin ht hok h
end Go.Proofs.Ytfjfidhhmidflaa
