
/- An operation that came in. -/

import Derived.Test.YtabkgoandfpclaaStOpen

import Derived.Test.YtabkgoandfpclaaOp1

namespace Go.Proofs.Ytabkgoandfpclaa

set_option maxRecDepth 100000

set_option linter.unusedVariables false

open Go.ChangeShapes Go.WideShapes Go.ChangeAt Go.RowKit

theorem list_of_all {p : Nat → Stm → Prop} : ∀ (n : Nat), (∀ i, i < n → ∃ s, p i s) → ∃ os : List Stm, os.length = n ∧ ∀ i (h : i < os.length), p i os[i]
  | 0, _ => ⟨[], rfl, fun i h => by simp at h⟩
  | n + 1, h => by
    obtain ⟨os, hl, hos⟩ := list_of_all n (fun i hi => h i (by omega))
    obtain ⟨s, hs⟩ := h n (by omega)
    refine ⟨os ++ [s], by simp [hl], fun i hi => ?_⟩
    by_cases hlt : i < os.length
    · rw [List.getElem_append_left hlt]; exact hos i hlt
    · have : i = os.length := by simp at hi; omega
      subst this
      simp
      rw [hl]
      exact hs

theorem split_at {cs : List Value} (a n : Nat) : cs.drop a = (cs.drop a).take n ++ cs.drop (a + n) := by
  rw [← List.drop_drop, List.take_append_drop]

section

variable {H : Type} {enc : TypeId × Value → H} {w : World} {base : Nat} {sp : Nat → Bool} {held : Bool}

theorem trod_stm {fuel : Nat} {cs : List Value} {x : DataW H × List MemPlace} (h : DataW.trod enc Try.prog w base sp held fuel 23 cs = some x) : ∃ s : Stm, cs = s.cells := by
  obtain ⟨y0, y1, n, _, hl, h0, h1⟩ := trod_struct2 Try.underlying23 h
  have hc : Try.prog.cellsOf 23 = 2 := by kernel_rfl
  have e0 : Try.prog.cellsOf 2 = 1 := by kernel_rfl
  have e1 : Try.prog.cellsOf 3 = 1 := by kernel_rfl
  rw [hc] at hl
  match cs, hl with
  | [c0, c1], _ =>
    dsimp only at h0 h1
    rw [e0] at h0
    rw [e1] at h1
    obtain ⟨a, ha, _, _⟩ := DataW.trod_int Try.underlying2 h0
    obtain ⟨b, hb, _, _⟩ := DataW.trod_int Try.underlying3 h1
    simp at ha hb
    exact ⟨⟨a, b⟩, by rw [ha, hb]; rfl⟩

theorem open_op {v : Value} {d : DataW H} {p : List MemPlace} {b0 : Nat} {r : Reach}
    (hok : Value.okWide Try.prog w r b0 33 v) (h : DataW.Trod enc Try.prog w 0 (fun _ => true) true 33 v d p) : ∃ o : OpM, OpIn w o ∧ v = o.val := by
  obtain ⟨cs, rfl, hsz⟩ := okWide_struct Try.underlying33 hok
  obtain ⟨fuel, hf⟩ := h
  obtain ⟨xs, n, _, _, hl, hxl, hfs⟩ := DataW.trod_struct Try.underlying33 hf
  have hc : Try.prog.cellsOf 33 = 41 := by kernel_rfl
  have z1 : Try.prog.cellsOf 3 = 1 := by kernel_rfl
  have z2 : Try.prog.cellsOf 23 = 2 := by kernel_rfl
  have z3 : Try.prog.cellsOf 9 = 1 := by kernel_rfl
  have z4 : Try.prog.cellsOf 30 = 32 := by kernel_rfl
  have z5 : Try.prog.cellsOf 31 = 1 := by kernel_rfl
  have hxl7 : xs.length = 7 := hxl
  simp only [Value.cells] at hl hfs
  obtain ⟨l, hlc⟩ : ∃ l, cs.toList = l := ⟨_, rfl⟩
  have hll : l = cs.toList := hlc.symm
  rw [hlc] at hl hfs
  have f0 : DataW.trod enc Try.prog w 0 (fun _ => true) true n 3 ((l.drop 0).take (Try.prog.cellsOf 3)) = xs[0]? := hfs 0 _ rfl
  have f1 : DataW.trod enc Try.prog w 0 (fun _ => true) true n 23 ((l.drop 1).take (Try.prog.cellsOf 23)) = xs[1]? := hfs 1 _ rfl
  have f2 : DataW.trod enc Try.prog w 0 (fun _ => true) true n 23 ((l.drop 3).take (Try.prog.cellsOf 23)) = xs[2]? := hfs 2 _ rfl
  have f3 : DataW.trod enc Try.prog w 0 (fun _ => true) true n 23 ((l.drop 5).take (Try.prog.cellsOf 23)) = xs[3]? := hfs 3 _ rfl
  have f4 : DataW.trod enc Try.prog w 0 (fun _ => true) true n 9 ((l.drop 7).take (Try.prog.cellsOf 9)) = xs[4]? := hfs 4 _ rfl
  have f5 : DataW.trod enc Try.prog w 0 (fun _ => true) true n 30 ((l.drop 8).take (Try.prog.cellsOf 30)) = xs[5]? := hfs 5 _ rfl
  have f6 : DataW.trod enc Try.prog w 0 (fun _ => true) true n 31 ((l.drop 40).take (Try.prog.cellsOf 31)) = xs[6]? := hfs 6 _ rfl
  rw [List.getElem?_eq_getElem (by omega)] at f0 f1 f2 f3 f4 f5 f6
  rw [z1] at f0
  rw [z2] at f1 f2 f3
  rw [z3] at f4
  rw [z4] at f5
  rw [z5] at f6
  obtain ⟨k, g0, _, _⟩ := DataW.trod_int Try.underlying3 f0
  obtain ⟨s1, g1⟩ := trod_stm f1
  obtain ⟨s2, g2⟩ := trod_stm f2
  obtain ⟨s3, g3⟩ := trod_stm f3
  obtain ⟨nm, g4, _, hnm⟩ := DataW.trod_string Try.underlying9 f4
  obtain ⟨da, hda, g5, _⟩ := trod_bytes_array Try.underlying30 Try.underlying5 (by kernel_rfl) (by kernel_rfl) f5
  have hov : ∃ (ov : Value) (os : List Stm), (l.drop 40).take 1 = [ov] ∧ ∃ A c, ov = .slice A os.length c ∧ Rd w A (stc os) ∧ os.length ≤ c ∧ c ≤ 9223372036854775807 := by
    rcases Go.Deep.open_slice Try.underlying31 f6 with ⟨hcs, _⟩ | ⟨a, len, cap, m, n', D, Pl, hcs, _, hle, hm, hmm, _, hel⟩
    · exact ⟨_, [], hcs, none, 0, rfl, Rd.nil, Nat.le_refl _, by decide⟩
    · rw [z2] at hel
      have hlm : len ≤ m := by rw [hmm]; split <;> omega
      obtain ⟨os, hos, hall⟩ := list_of_all (p := fun i s => w.cells? 0 (a.add (i * 2)) 2 = some s.cells) len (fun i hi => by
        obtain ⟨cs', h1, h2⟩ := hel i (by omega)
        obtain ⟨s, hs⟩ := trod_stm h2
        exact ⟨s, by rw [h1, hs]⟩)
      refine ⟨_, os, hcs, some a, cap, by rw [hos], ?_, by omega, by unfold maxLen at hm; omega⟩
      refine rd_of_cells fun j u hu => ?_
      have hj := (List.getElem?_eq_some_iff.1 hu).1
      rw [stc_length] at hj
      have hi : j / 2 < os.length := by omega
      have hcell := (World.cells?_some (hall (j / 2) hi)).2
      obtain ⟨e0, e1⟩ := stc_get os (j / 2) hi
      rcases (by omega : j = j / 2 * 2 ∨ j = j / 2 * 2 + 1) with hj2 | hj2
      · rw [hj2, e0] at hu
        cases hu
        have := hcell.2 0 (by omega)
        rw [Addr.add_add, Nat.add_zero] at this
        rw [show a.add j = a.add (j / 2 * 2) from congrArg _ hj2]
        exact this
      · rw [hj2, e1] at hu
        cases hu
        have := hcell.2 1 (by omega)
        rw [Addr.add_add] at this
        rw [show a.add j = a.add (j / 2 * 2 + 1) from congrArg _ hj2]
        exact this
  obtain ⟨ov, os, g6, hA⟩ := hov
  refine ⟨⟨k, s1, s2, s3, nm, da, ov, os⟩, ⟨hda, by unfold maxLen at hnm; omega, hA⟩, ?_⟩
  have hlen : l.length = 41 := by rw [hl, hc]
  have hl2 : l = (⟨k, s1, s2, s3, nm, da, ov, os⟩ : OpM).cells := by
    have hend : l.drop 41 = [] := List.drop_of_length_le (by omega)
    have h0 : l = l.drop 0 := rfl
    rw [h0, split_at 0 1, split_at (0 + 1) 2, split_at (0 + 1 + 2) 2, split_at (0 + 1 + 2 + 2) 2, split_at (0 + 1 + 2 + 2 + 2) 1, split_at (0 + 1 + 2 + 2 + 2 + 1) 32, split_at (0 + 1 + 2 + 2 + 2 + 1 + 32) 1]
    simp only [Nat.reduceAdd, hend, List.append_nil]
    rw [g0, g1, g2, g3, g4, g5, g6]
    simp [OpM.cells, Stm.cells]
  unfold OpM.val
  rw [← hl2, hll]
end

end Go.Proofs.Ytabkgoandfpclaa
