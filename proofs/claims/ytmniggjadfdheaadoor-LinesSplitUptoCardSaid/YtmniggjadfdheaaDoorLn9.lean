
/- WriteString, HasSuffix, Text. -/

import Derived.Test.YtmniggjadfdheaaDoorLn8

namespace Go.Proofs.YtmniggjadfdheaaDoor

set_option linter.unusedVariables false

set_option linter.unusedSimpArgs false

set_option linter.unusedSectionVars false

open Go.RowKit

/-- what a writer of the builder b leaves as it was: the rows of every other type but uint8 -/
def OKept (b : Nat) (w w' : World) : Prop := ∀ g cs T fr, T ≠ 5 → g ≠ b → w.heap[g]? = some (.cells cs T fr) → w'.heap[g]? = some (.cells cs T fr)
theorem OKept.refl (b : Nat) (w : World) : OKept b w w := fun _ _ _ _ _ _ h => h
theorem OKept.set (b j : Nat) (w : World) (v : Value) : OKept b w (w.setCell ⟨b, j, none⟩ v) := fun g cs T fr _ hg h => (Below.heap_setCell _ _ _ _ (fun e => hg (by simpa using e))).trans h
theorem copyCheck_keep (B b : Nat) (bs : List Value) (w : World) (h : Lib.IsBuilder 61 5 B b bs w) :
    Calls Tryd.prog 38 #[.pointer (some ⟨b, 0, none⟩)] w fun e w' => e = .returned (.tuple #[]) ∧ (Lib.BuilderAt 61 5 B b (.pointer (some ⟨b, 0, none⟩)) bs w' ∧ Below B w w' ∧ OKept b w w') := by
  rcases h with h | h
  · refine (copyCheck_fresh b w h.cell0 h.shape h.frozen0).mono ?_
    rintro e w' ⟨rfl, rfl⟩
    exact ⟨rfl, h.used _, (Below.refl B w).setCell (p := ⟨b, 0, none⟩) h.1 _, OKept.set _ _ _ _⟩
  · refine (copyCheck_used b w h.cell0).mono ?_
    rintro e w' ⟨rfl, rfl⟩
    exact ⟨rfl, h, Below.refl B _, OKept.refl _ _⟩

set_option maxHeartbeats 1000000 in
set_option maxRecDepth 100000 in
theorem writeString_any (B b : Nat) (bs : List UInt8) (s : ByteArray) (w : World) (h : Lib.IsBuilder 61 5 B b (b8s bs) w) (hs : 0 < s.size) (hlen : bs.length + s.size ≤ 140737488355328) (hBw : B ≤ w.heap.size) :
    Calls Tryd.prog 31 #[.pointer (some ⟨b, 0, none⟩), .string s] w fun e w' => e = .returned (.tuple #[.int .i64 (s.size : Int), .nilIface]) ∧ (Lib.BuilderAt 61 5 B b (.pointer (some ⟨b, 0, none⟩)) (b8s (bs ++ s.data.toList)) w' ∧ Below B w w' ∧ OKept b w w') := by
  obtain ⟨i0, hi, hz0, hz1, hz2⟩ := info_parts info_u8
  go_enter Tryd.func31, Tryd.ntmps31
  go_wp2_with fail
  refine (copyCheck_keep B b (b8s bs) _ h).mono ?_
  rintro e w1 ⟨rfl, h1, hb1, hok⟩
  have HOK := Lib.hid hok
  clear hok
  obtain ⟨hB, v, hbk, hown, hne⟩ := h1
  have c0 : w1.cell? ⟨b, 0, none⟩ = some (.pointer (some ⟨b, 0, none⟩)) := by rw [Lib.cell_of_heap hbk]; rfl
  have c1 : w1.cell? ⟨b, 1, none⟩ = some v := by rw [Lib.cell_of_heap hbk]; rfl
  have hbl : (b8s bs).length = bs.length := b8s_length bs
  rw [hbl] at hown
  clear hbl
  have HAP : Hid (∀ v' w2, w2.ownsRow B 5 1 v' (bs.length + s.size) (b8s bs ++ Lib.strCells s) → w1.grownBy w2 v.ownBlock → (∃ g cap, v' = .slice (some ⟨g, 0, none⟩) (bs.length + s.size) cap) ∧
      w2.heap[b]? = some (.cells #[.pointer (some ⟨b, 0, none⟩), v] 61 (0, 0)) ∧ w2.cell? ⟨b, 0, none⟩ = some (.pointer (some ⟨b, 0, none⟩)) ∧ w2.cell? ⟨b, 1, none⟩ = some v ∧ w2.frozen? ⟨b, 1, none⟩ = false) := Lib.hid (fun v' w2 ho hg => by
    have hlt : b < w1.heap.size := (Array.getElem?_eq_some_iff.1 hbk).1
    have hb2 : w2.heap[b]? = some (.cells #[.pointer (some ⟨b, 0, none⟩), v] 61 (0, 0)) := (hg.block b hlt (fun e => hne e.symm)).trans hbk
    refine ⟨?_, hb2, by rw [Lib.cell_of_heap hb2]; rfl, by rw [Lib.cell_of_heap hb2]; rfl, Lib.frozen_of_heap hb2 1⟩
    rcases ho.2 with ⟨_, h0⟩ | ⟨g, cap, cur, hv, _⟩
    · omega
    · exact ⟨g, cap, hv⟩)
  have HKP : Hid (∀ w2, w1.grownBy w2 v.ownBlock → OKept b w1 w2) := Lib.hid (fun w2 hg g cs T fr hT hgb h => (hg.block g (Array.getElem?_eq_some_iff.1 h).1 (fun e => Lib.ownBlock_ne hown h hT e.symm)).trans h)
  have HS := Lib.hid hs
  have HOW := Lib.hid hown
  have HBB := Lib.hid hb1
  have HBH := Lib.hid hB
  clear hne hbk hown h
  go_wp2_with (at_builtin; refine Lib.wpList_append_own_string w1 rfl _ _ 45 9 rfl B 5 i0 Tryd.underlying45 Tryd.underlying9 hi hz0 hz1 hz2 v _ _ rfl HOW.out s rfl (by unfold maxLen; omega) (by omega) (Nat.le_trans hBw HBB.out.size) ?_; intro v' w2 hown' hgrow _; obtain ⟨⟨g, cap, hv'⟩, hb2, d0, d1, f1⟩ := HAP.out v' w2 hown' hgrow; subst hv'; have HO2 := Lib.hid hown'; have HG2 := Lib.hid hgrow; have HB2 := Lib.hid hb2; clear hown' hgrow hb2)
  go_ret2
  refine ⟨rfl, ?_, ?_, ?_⟩
  · refine Lib.BuilderAt.put (T := 61) (e := 5) HBH.out HB2.out (bs' := b8s (bs ++ s.data.toList)) ?_ bld_neB
    have e1 : b8s (bs ++ s.data.toList) = b8s bs ++ Lib.strCells s := by rw [b8s_append, strCells_b8s]
    have e2 : (b8s (bs ++ s.data.toList)).length = bs.length + s.size := by rw [b8s_append, List.length_append, b8s_length, b8s_length, size_toList]
    rw [e2, e1]
    exact HO2.out
  · exact (HBB.out.grown HG2.out (Nat.le_trans hBw HBB.out.size) (fun k hk => (HOW.out.lt k hk).1)).setCell (p := ⟨b, 1, none⟩) HBH.out _
  · exact fun g cs T fr hT hgb h => OKept.set _ _ _ _ g cs T fr hT hgb (HKP.out _ HG2.out g cs T fr hT hgb (HOK.out g cs T fr hT hgb h))

/-- does a line end? -/
def endNL (s : ByteArray) : Bool := decide (s.data.toList.getLast? = some 10)
theorem endNL_cut (s : ByteArray) (h : 0 < s.size) : ((s.extract (s.size - 1) s.size).toList == [10]) = endNL s := by
  obtain ⟨⟨l⟩⟩ := s
  rw [ByteArray.toList_eq]
  have hl : (⟨⟨l⟩⟩ : ByteArray).size = l.length := rfl
  have hd : ((⟨⟨l⟩⟩ : ByteArray).extract (l.length - 1) l.length).data = (⟨l⟩ : Array UInt8).extract (l.length - 1) l.length := ByteArray.data_extract
  rw [hl, hd] at *
  unfold endNL
  rcases List.eq_nil_or_concat l with rfl | ⟨l', x, rfl⟩
  · exact absurd h (by decide)
  · rw [List.concat_eq_append] at *
    have e1 : ((⟨l' ++ [x]⟩ : Array UInt8).extract ((l' ++ [x]).length - 1) (l' ++ [x]).length).toList = [x] := by
      rw [List.extract_toArray, List.extract_eq_take_drop]
      simp
    rw [e1]
    simp only [List.getLast?_append, List.getLast?_singleton, Option.some_or, Option.some.injEq]
    by_cases hx : x = 10
    · subst hx; rfl
    · rw [decide_eq_false hx]
      simp [hx]

set_option maxHeartbeats 1000000 in
set_option maxRecDepth 100000 in
theorem suffix_any (s : ByteArray) (w : World) (hs : s.size ≤ 9223372036854775807) :
    Calls Tryd.prog 32 #[.string s, .string ⟨#[10]⟩] w fun e w' => w = w' ∧ e = .returned (.bool (endNL s)) := by
  by_cases h0 : s.size < 1
  · have HE : Hid (endNL s = false) := Lib.hid (by
      obtain ⟨⟨l⟩⟩ := s
      cases l with
      | nil => rfl
      | cons x l => exfalso; have : (x :: l).length < 1 := h0; simp at this)
    go_enter Tryd.func32, Tryd.ntmps32
    go_wp2_with go_in
    go_ret
    exact ⟨rfl, by rw [HE.out]; rfl⟩
  · have h1 : 1 ≤ (s.size : Int) := by omega
    go_enter Tryd.func32, Tryd.ntmps32
    go_wp2_with go_in
    go_ret
    refine ⟨rfl, ?_⟩
    rw [← endNL_cut s (by omega)]
    rfl
end Go.Proofs.YtmniggjadfdheaaDoor
