
/- Split. -/

import Derived.Test.YtmniggjadfdheaaDoorLn11

namespace Go.Proofs.YtmniggjadfdheaaDoor

set_option linter.unusedVariables false

set_option linter.unusedSimpArgs false

set_option linter.unusedSectionVars false

open Go.RowKit

/-- a list without its last part, where that is empty -/
def cutE (l : List ByteArray) : List ByteArray := if (l.getLast?.map (·.size)) = some 0 then l.dropLast else l
/-- a text's lines -/
def splitP (s : ByteArray) : List ByteArray := cutE (Lib.splitB nlS 1 (Lib.countB s nlS) s)
theorem empty_iff (x : ByteArray) : x.toList.isEmpty = decide (x.size = 0) := by
  obtain ⟨⟨l⟩⟩ := x
  rw [ByteArray.toList_eq]
  cases l <;> simp [ByteArray.size]

set_option maxHeartbeats 2000000 in
set_option maxRecDepth 100000 in
theorem split_any (A : Option Addr) (bs : List UInt8) (c : Nat) (w : World) (hr : Rd w A (b8s bs)) (hl : bs.length < 4294967281) :
    Calls Tryd.prog 23 #[.slice A bs.length c] w fun e w' => ∃ cc, e = .returned (.slice (some ⟨w.heap.size, 0, none⟩) (splitP ⟨bs.toArray⟩).length cc) ∧ (splitP ⟨bs.toArray⟩).length ≤ cc ∧ cc ≤ 4294967281 ∧ Rd w' (some ⟨w.heap.size, 0, none⟩) (sts (splitP ⟨bs.toArray⟩)) ∧ Below w.heap.size w w' := by
  have hcv : (convert 45 9 (.slice A bs.length c)).run Tryd.prog w = .ok (.string ⟨bs.toArray⟩) w := run_str_of_bytes _ _ rfl Tryd.underlying45 Tryd.underlying5 Tryd.underlying9 hr
  obtain ⟨S, hS⟩ : ∃ S : ByteArray, (⟨bs.toArray⟩ : ByteArray) = S := ⟨_, rfl⟩
  have hsz : S.size = bs.length := by rw [← hS]; rfl
  rw [hS] at hcv ⊢
  have hcnt := Lib.countB_le nlS (by decide) S.size S (Nat.le_refl _)
  have hall := Lib.splitB_all nlS (by decide) 1 _ S rfl
  have hA := after_any S w (by omega)
  obtain ⟨l, hl_⟩ : ∃ l, Lib.splitB nlS 1 (Lib.countB S nlS) S = l := ⟨_, rfl⟩
  have hP : splitP S = cutE l := by unfold splitP; rw [hl_]
  rw [hl_] at hA hall
  rw [hP]
  have HLL : Hid (l.length ≤ 4294967281) := Lib.hid (by omega)
  rcases List.eq_nil_or_concat l with rfl | ⟨l0, x, hlx⟩
  · simp at hall
  rw [List.concat_eq_append] at hlx
  subst hlx
  have hA' : Calls Tryd.prog 36 #[.string S, .string ⟨#[10]⟩] w fun e w' => e = .returned (.slice (some ⟨w.heap.size, 0, none⟩) (l0.length + 1) (l0.length + 1)) ∧ w' = w.alloc (.cells (sts (l0 ++ [x])).toArray 9) := by
    refine hA.mono ?_
    rintro e w' ⟨l', rfl, rfl, rfl⟩
    exact ⟨by simp, rfl⟩
  obtain ⟨W1, hW1⟩ : ∃ W, w.alloc (.cells (sts (l0 ++ [x])).toArray 9) = W := ⟨_, rfl⟩
  obtain ⟨r1, b1, s1⟩ := new_row hW1
  rw [hW1] at hA'
  have c1 : W1.cell? ⟨w.heap.size, l0.length, none⟩ = some (.string x) := by
    rw [Lib.cell_of_heap r1]
    simp [sts]
  have HR1 : Hid (Rd W1 (some ⟨w.heap.size, 0, none⟩) (sts (l0 ++ [x]))) := Lib.hid (range_rd (range_of_row r1))
  have HB1 := Lib.hid b1
  have HSZ : Hid (l0.length + 1 ≤ 4294967281) := Lib.hid (by have := HLL.out; simpa using this)
  have hsl : l0.length + 1 ≤ 4294967281 := HSZ.out
  have i1 : (l0.length : Int) < (l0.length : Int) + 1 := by omega
  have i0 : (0 : Int) ≤ (l0.length : Int) := by omega
  have i2 : (l0.length : Int) + 1 - 1 = (l0.length : Int) := by omega
  clear hr hA hall hP hl_ r1 b1 s1 hS hcnt HLL hW1
  by_cases hx : x.size = 0
  · have hxe : x.toList.isEmpty = true := by rw [empty_iff, decide_eq_true hx]
    have HC : Hid (cutE (l0 ++ [x]) = l0) := Lib.hid (by simp [cutE, hx])
    clear hx
    go_enter Tryd.func23, Tryd.ntmps23
    go_wp2_with (first | (refine hA'.mono ?_; rintro e w' ⟨rfl, rfl⟩) | (exact hcv))
    go_ret
    rw [HC.out]
    refine ⟨l0.length + 1, by first | rfl | (congr 3 <;> omega), by omega, by omega, ?_, HB1.out⟩
    intro j v hj
    refine HR1.out j v ?_
    rw [sts_app]
    rw [List.getElem?_append_left (List.getElem?_eq_some_iff.1 hj).1]
    exact hj
  · have hxe : x.toList.isEmpty = false := by rw [empty_iff, decide_eq_false hx]
    have HC : Hid (cutE (l0 ++ [x]) = l0 ++ [x]) := Lib.hid (by simp [cutE, hx])
    clear hx
    go_enter Tryd.func23, Tryd.ntmps23
    go_wp2_with (first | (refine hA'.mono ?_; rintro e w' ⟨rfl, rfl⟩) | (exact hcv))
    go_ret
    rw [HC.out]
    refine ⟨l0.length + 1, by first | rfl | simp, by simp, by omega, HR1.out, HB1.out⟩
end Go.Proofs.YtmniggjadfdheaaDoor
