
/- Slices of operations that came in. (Printed by wip/genSs17.py.) -/

import Derived.Test.YtabkgoandfpclaaSsB

import Derived.Test.YtabkgoandfpclaaOpOpen

import Derived.Test.YtabkgoandfpclaaOpen

import Derived.Test.YtabkgoandfpclaaFrame

import Derived.Deep.Slices

import Derived.ChangeSame

import Derived.SizedLaws

namespace Go.Proofs.Ytabkgoandfpclaa

set_option maxRecDepth 100000

set_option linter.unusedVariables false

open Go.ChangeShapes Go.WideShapes Go.ChangeAt Go.RowKit

theorem lst_of_all {α : Type} {p : Nat → α → Prop} : ∀ (n : Nat), (∀ i, i < n → ∃ s, p i s) → ∃ os : List α, os.length = n ∧ ∀ i (h : i < os.length), p i os[i]
  | 0, _ => ⟨[], rfl, fun i h => by simp at h⟩
  | n + 1, h => by
    obtain ⟨os, hl, hos⟩ := lst_of_all n (fun i hi => h i (by omega))
    obtain ⟨s, hs⟩ := h n (by omega)
    refine ⟨os ++ [s], by simp [hl], fun i hi => ?_⟩
    by_cases hlt : i < os.length
    · rw [List.getElem_append_left hlt]; exact hos i hlt
    · have : i = os.length := by simp at hi; omega
      subst this
      simp
      rw [hl]
      exact hs
/-- rows that lie one behind the other are read as their cells -/
theorem rd_of_rows {α : Type} {f : α → List Value} {m : Nat} {w : World} {a : Addr} {os : List α} (hm : 0 < m) (hf : ∀ x ∈ os, (f x).length = m) (h : ∀ i (hi : i < os.length), w.cells? 0 (a.add (i * m)) m = some (f os[i])) : Rd w (some a) (os.flatMap f) := by
  refine rd_of_cells fun j u hu => ?_
  have hj := (List.getElem?_eq_some_iff.1 hu).1
  rw [flat_length os hf] at hj
  have hi : j / m < os.length := Nat.div_lt_of_lt_mul (by rw [Nat.mul_comm]; exact hj)
  have hr : j % m < m := Nat.mod_lt _ hm
  have hdj : j / m * m + j % m = j := by rw [Nat.mul_comm]; exact Nat.div_add_mod j m
  have hcell := (World.cells?_some (h (j / m) hi)).2
  have hlen := hf _ (List.getElem_mem hi)
  have hg : (f os[j / m])[j % m]? = some u := by
    have hx := flat_get os hf (j / m) hi (j % m) ((f os[j / m])[j % m]'(by omega)) (List.getElem?_eq_getElem _)
    rw [hdj] at hx
    rw [hu] at hx
    cases hx
    exact List.getElem?_eq_getElem _
  have := hcell.2 (j % m) hr
  rw [Addr.add_add, hdj] at this
  rw [this]
  exact hg

section

variable {H : Type} {enc : TypeId × Value → H} {w : World}

theorem slice_reach' {t e : TypeId} {n0 n c : Nat} {A : Option Addr} {x : DataW H × List MemPlace} (hu : Try.prog.underlying t = some (.slice e)) (h : DataW.trod enc Try.prog w 0 (fun _ => true) true n0 t [.slice A n c] = some x)
    (hw : ∀ k ∈ x.1.weights Try.prog t, k ≤ reachBytes) : n * Try.prog.bytesOf e ≤ reachBytes := by
  rcases Go.Deep.open_slice hu h with ⟨hcs, _⟩ | ⟨a, len, cap, m, n', D, Pl, hcs, _, hle, hm, hmm, hx, hel⟩
  · cases hcs; rw [Nat.zero_mul]; exact Nat.zero_le _
  · cases hcs
    have h1 := hw ((((List.range n).map D).length + ((List.range (m - n)).map fun j => D (n + j)).length) * Try.prog.bytesOf e) (by rw [hx]; simp [DataW.weights, hu])
    simp only [List.length_map, List.length_range] at h1
    exact Nat.le_trans (Nat.mul_le_mul_right _ (by omega)) h1
theorem weights_all {P : Program} {e : TypeId} {l : List (DataW H)} {d : DataW H} (h : d ∈ l) : ∀ k ∈ d.weights P e, k ∈ DataW.weightsAll P e l := by
  induction l with
  | nil => cases h
  | cons x r ih =>
    intro k hk
    simp only [DataW.weightsAll, List.mem_append]
    rcases List.mem_cons.1 h with rfl | h
    · exact .inl hk
    · exact .inr (ih h k hk)
theorem reach_lt : reachBytes ≤ 140737488355328 := by decide
/-- an operation in a part -/
theorem open_opc {fuel : Nat} {l : List Value} {x : DataW H × List MemPlace} (h : DataW.trod enc Try.prog w 0 (fun _ => true) true fuel 33 l = some x) (hw : ∀ k ∈ x.1.weights Try.prog 33, k ≤ reachBytes) :
    ∃ o : OpM, l = o.cells ∧ OpIn w o ∧ o.os.length * 16 ≤ 140737488355328 := by
  obtain ⟨xs, n', _, hx, hl, hxl, hfs⟩ := DataW.trod_struct Try.underlying33 h
  have hc : Try.prog.cellsOf 33 = 41 := by kernel_rfl
  have z1 : Try.prog.cellsOf 3 = 1 := by kernel_rfl
  have z2 : Try.prog.cellsOf 23 = 2 := by kernel_rfl
  have z3 : Try.prog.cellsOf 9 = 1 := by kernel_rfl
  have z4 : Try.prog.cellsOf 30 = 32 := by kernel_rfl
  have z5 : Try.prog.cellsOf 31 = 1 := by kernel_rfl
  have z6 : Try.prog.bytesOf 23 = 16 := by kernel_rfl
  have hxl7 : xs.length = 7 := hxl
  have f0 : DataW.trod enc Try.prog w 0 (fun _ => true) true n' 3 ((l.drop 0).take (Try.prog.cellsOf 3)) = xs[0]? := hfs 0 _ rfl
  have f1 : DataW.trod enc Try.prog w 0 (fun _ => true) true n' 23 ((l.drop 1).take (Try.prog.cellsOf 23)) = xs[1]? := hfs 1 _ rfl
  have f2 : DataW.trod enc Try.prog w 0 (fun _ => true) true n' 23 ((l.drop 3).take (Try.prog.cellsOf 23)) = xs[2]? := hfs 2 _ rfl
  have f3 : DataW.trod enc Try.prog w 0 (fun _ => true) true n' 23 ((l.drop 5).take (Try.prog.cellsOf 23)) = xs[3]? := hfs 3 _ rfl
  have f4 : DataW.trod enc Try.prog w 0 (fun _ => true) true n' 9 ((l.drop 7).take (Try.prog.cellsOf 9)) = xs[4]? := hfs 4 _ rfl
  have f5 : DataW.trod enc Try.prog w 0 (fun _ => true) true n' 30 ((l.drop 8).take (Try.prog.cellsOf 30)) = xs[5]? := hfs 5 _ rfl
  have f6 : DataW.trod enc Try.prog w 0 (fun _ => true) true n' 31 ((l.drop 40).take (Try.prog.cellsOf 31)) = xs[6]? := hfs 6 _ rfl
  rw [List.getElem?_eq_getElem (by omega)] at f0 f1 f2 f3 f4 f5 f6
  rw [z1] at f0
  rw [z2] at f1 f2 f3
  rw [z3] at f4
  rw [z4] at f5
  rw [z5] at f6
  obtain ⟨k, g0, _, _⟩ := DataW.trod_int Try.underlying3 f0
  obtain ⟨s1, g1⟩ := trod_stm f1
  obtain ⟨s2, g2⟩ := trod_stm f2
  obtain ⟨s3, g3⟩ := trod_stm f3
  obtain ⟨nm, g4, _, hnm⟩ := DataW.trod_string Try.underlying9 f4
  obtain ⟨da, hda, g5, _⟩ := trod_bytes_array Try.underlying30 Try.underlying5 (by kernel_rfl) (by kernel_rfl) f5
  have hov : ∃ (ov : Value) (os : List Stm), (l.drop 40).take 1 = [ov] ∧ ∃ A c, ov = .slice A os.length c ∧ Rd w A (stc os) ∧ os.length ≤ c ∧ c ≤ 9223372036854775807 := by
    rcases Go.Deep.open_slice Try.underlying31 f6 with ⟨hcs, _⟩ | ⟨a, len, cap, m, n', D, Pl, hcs, _, hle, hm, hmm, _, hel⟩
    · exact ⟨_, [], hcs, none, 0, rfl, Rd.nil, Nat.le_refl _, by decide⟩
    · rw [z2] at hel
      have hlm : len ≤ m := by rw [hmm]; split <;> omega
      obtain ⟨os, hos, hall⟩ := list_of_all (p := fun i s => w.cells? 0 (a.add (i * 2)) 2 = some s.cells) len (fun i hi => by
        obtain ⟨cs', h1, h2⟩ := hel i (by omega)
        obtain ⟨s, hs⟩ := trod_stm h2
        exact ⟨s, by rw [h1, hs]⟩)
      refine ⟨_, os, hcs, some a, cap, by rw [hos], ?_, by omega, by unfold maxLen at hm; omega⟩
      refine rd_of_cells fun j u hu => ?_
      have hj := (List.getElem?_eq_some_iff.1 hu).1
      rw [stc_length] at hj
      have hi : j / 2 < os.length := by omega
      have hcell := (World.cells?_some (hall (j / 2) hi)).2
      obtain ⟨e0, e1⟩ := stc_get os (j / 2) hi
      rcases (by omega : j = j / 2 * 2 ∨ j = j / 2 * 2 + 1) with hj2 | hj2
      · rw [hj2, e0] at hu
        cases hu
        have := hcell.2 0 (by omega)
        rw [Addr.add_add, Nat.add_zero] at this
        rw [show a.add j = a.add (j / 2 * 2) from congrArg _ hj2]
        exact this
      · rw [hj2, e1] at hu
        cases hu
        have := hcell.2 1 (by omega)
        rw [Addr.add_add] at this
        rw [show a.add j = a.add (j / 2 * 2 + 1) from congrArg _ hj2]
        exact this
  obtain ⟨ov, os, g6, hA⟩ := hov
  have hlen : l.length = 41 := by rw [hl, hc]
  have hl2 : l = (⟨k, s1, s2, s3, nm, da, ov, os⟩ : OpM).cells := by
    have hend : l.drop 41 = [] := List.drop_of_length_le (by omega)
    have h0 : l = l.drop 0 := rfl
    rw [h0, split_at 0 1, split_at (0 + 1) 2, split_at (0 + 1 + 2) 2, split_at (0 + 1 + 2 + 2) 2, split_at (0 + 1 + 2 + 2 + 2) 1, split_at (0 + 1 + 2 + 2 + 2 + 1) 32, split_at (0 + 1 + 2 + 2 + 2 + 1 + 32) 1]
    simp only [Nat.reduceAdd, hend, List.append_nil]
    rw [g0, g1, g2, g3, g4, g5, g6]
    simp [OpM.cells, Stm.cells]
  refine ⟨⟨k, s1, s2, s3, nm, da, ov, os⟩, hl2, ⟨hda, by unfold maxLen at hnm; omega, hA⟩, ?_⟩
  obtain ⟨A, c, hA1, _⟩ := hA
  have hd : x.1 = .agg (xs.map (·.1)) := congrArg Prod.fst hx
  rw [g6, hA1] at f6
  have h9 := slice_reach' (A := A) (n := os.length) (c := c) Try.underlying31 f6 (fun k hk => hw k (by
    rw [hd]
    simp only [DataW.weights, Try.underlying33]
    exact DataW.weights_mem_each (j := 6) rfl (by rw [List.getElem?_map, List.getElem?_eq_getElem (by omega)]; rfl) k hk))
  rw [z6] at h9
  exact Nat.le_trans h9 reach_lt
/-- a slice of operations that came in -/
theorem open_opl {v : Value} {d : DataW H} {p : List MemPlace} {b0 : Nat} {r : Reach} (hok : Value.okWide Try.prog w r b0 53 v) (h : DataW.Trod enc Try.prog w 0 (fun _ => true) true 53 v d p) (hw : ∀ k ∈ d.weights Try.prog 53, k ≤ reachBytes) :
    ∃ (A : Option Addr) (c : Nat) (os : List OpM), v = .slice A os.length c ∧ Rd w A (oc os) ∧ (∀ o ∈ os, OpIn w o) ∧ ∀ o ∈ os, o.os.length * 16 ≤ 140737488355328 := by
  obtain ⟨A, len, cap, rfl⟩ := okWide_slice Try.underlying53 hok
  obtain ⟨fuel, hf⟩ := h
  have z : Try.prog.cellsOf 33 = 41 := by kernel_rfl
  rcases Go.Deep.open_slice Try.underlying53 hf with ⟨hcs, _⟩ | ⟨a, len', cap', m, n', D, Pl, hcs, _, hle, hm, hmm, hx, hel⟩
  · simp [Value.cells] at hcs
    obtain ⟨rfl, rfl, rfl⟩ := hcs
    exact ⟨none, 0, [], rfl, Rd.nil, by simp, by simp⟩
  · simp [Value.cells] at hcs
    obtain ⟨rfl, rfl, rfl⟩ := hcs
    rw [z] at hel
    have hlm : len ≤ m := by rw [hmm]; split <;> omega
    have hd : d = .slice ((List.range len).map D) ((List.range (m - len)).map fun j => D (len + j)) := congrArg Prod.fst hx
    obtain ⟨os, hos, hall⟩ := lst_of_all (p := fun i (q : OpM) => w.cells? 0 (a.add (i * 41)) 41 = some q.cells ∧ OpIn w q ∧ q.os.length * 16 ≤ 140737488355328) len (fun i hi => by
      obtain ⟨cs', h1, h2⟩ := hel i (by omega)
      obtain ⟨o, h3, h4⟩ := open_opc h2 (fun k hk => hw k (by
        rw [hd]
        simp only [DataW.weights, Try.underlying53, List.mem_cons, List.mem_append]
        exact .inr (.inl (weights_all (List.mem_map.2 ⟨i, List.mem_range.2 hi, rfl⟩) k hk))))
      exact ⟨o, by rw [h1, h3], h4⟩)
    have hok2 : ∀ q ∈ os, OpIn w q ∧ q.os.length * 16 ≤ 140737488355328 := fun q hq => by
      obtain ⟨i, hi, rfl⟩ := List.getElem_of_mem hq
      exact (hall i hi).2
    have hrd := rd_of_rows (f := OpM.cells) (m := 41) (w := w) (a := a) (os := os) (by decide) (fun x hx => x.cells_len (hok2 x hx).1.len) (fun i hi => (hall i hi).1)
    exact ⟨some a, cap, os, by rw [hos], hrd, fun o ho => (hok2 o ho).1, fun o ho => (hok2 o ho).2⟩
end

end Go.Proofs.Ytabkgoandfpclaa
