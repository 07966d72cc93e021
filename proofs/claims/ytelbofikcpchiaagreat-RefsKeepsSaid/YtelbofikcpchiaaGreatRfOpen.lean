
/- Turns of refs that came in: slices of refs.Tx that read as data; slices of IDs. -/

import Derived.Test.YtelbofikcpchiaaGreatOpen

import Derived.Test.YtelbofikcpchiaaGreatFrame

import Derived.Test.YtelbofikcpchiaaGreatQA

import Derived.Test.YtelbofikcpchiaaGreatRf27

import Derived.Deep.Slices

import Derived.ChangeSame

import Derived.SizedLaws

namespace Go.Proofs.YtelbofikcpchiaaGreat

set_option maxRecDepth 100000

set_option linter.unusedVariables false

open Go.ChangeShapes Go.WideShapes Go.ChangeAt Go.RowKit

theorem lst_of_all {α : Type} {p : Nat → α → Prop} : ∀ (n : Nat), (∀ i, i < n → ∃ s, p i s) → ∃ os : List α, os.length = n ∧ ∀ i (h : i < os.length), p i os[i]
  | 0, _ => ⟨[], rfl, fun i h => by simp at h⟩
  | n + 1, h => by
    obtain ⟨os, hl, hos⟩ := lst_of_all n (fun i hi => h i (by omega))
    obtain ⟨s, hs⟩ := h n (by omega)
    refine ⟨os ++ [s], by simp [hl], fun i hi => ?_⟩
    by_cases hlt : i < os.length
    · rw [List.getElem_append_left hlt]; exact hos i hlt
    · have : i = os.length := by simp at hi; omega
      subst this
      simp
      rw [hl]
      exact hs
/-- rows that lie one behind the other are read as their cells -/
theorem rd_of_rows {α : Type} {f : α → List Value} {m : Nat} {w : World} {a : Addr} {os : List α} (hm : 0 < m) (hf : ∀ x ∈ os, (f x).length = m) (h : ∀ i (hi : i < os.length), w.cells? 0 (a.add (i * m)) m = some (f os[i])) : Rd w (some a) (os.flatMap f) := by
  refine rd_of_cells fun j u hu => ?_
  have hj := (List.getElem?_eq_some_iff.1 hu).1
  rw [flat_length os hf] at hj
  have hi : j / m < os.length := Nat.div_lt_of_lt_mul (by rw [Nat.mul_comm]; exact hj)
  have hr : j % m < m := Nat.mod_lt _ hm
  have hdj : j / m * m + j % m = j := by rw [Nat.mul_comm]; exact Nat.div_add_mod j m
  have hcell := (World.cells?_some (h (j / m) hi)).2
  have hlen := hf _ (List.getElem_mem hi)
  have hg : (f os[j / m])[j % m]? = some u := by
    have hx := flat_get os hf (j / m) hi (j % m) ((f os[j / m])[j % m]'(by omega)) (List.getElem?_eq_getElem _)
    rw [hdj] at hx
    rw [hu] at hx
    cases hx
    exact List.getElem?_eq_getElem _
  have := hcell.2 (j % m) hr
  rw [Addr.add_add, hdj] at this
  rw [this]
  exact hg
theorem take_three (cs : List Value) (a b : Nat) (h : cs.length = a + b + b) : cs = cs.take a ++ (cs.drop a).take b ++ (cs.drop (a + b)).take b := by
  have h1 : (cs.drop (a + b)).take b = cs.drop (a + b) := List.take_of_length_le (by rw [List.length_drop]; omega)
  rw [h1, List.append_assoc, ← List.drop_drop, List.take_append_drop, List.take_append_drop]

section

variable {H : Type} {enc : TypeId × Value → H} {w : World}

theorem slice_reach' {t e : TypeId} {n0 n c : Nat} {A : Option Addr} {x : DataW H × List MemPlace} (hu : Tryz.prog.underlying t = some (.slice e)) (h : DataW.trod enc Tryz.prog w 0 (fun _ => true) true n0 t [.slice A n c] = some x)
    (hw : ∀ k ∈ x.1.weights Tryz.prog t, k ≤ reachBytes) : n * Tryz.prog.bytesOf e ≤ reachBytes := by
  rcases Go.Deep.open_slice hu h with ⟨hcs, _⟩ | ⟨a, len, cap, m, n', D, Pl, hcs, _, hle, hm, hmm, hx, hel⟩
  · cases hcs; rw [Nat.zero_mul]; exact Nat.zero_le _
  · cases hcs
    have h1 := hw ((((List.range n).map D).length + ((List.range (m - n)).map fun j => D (n + j)).length) * Tryz.prog.bytesOf e) (by rw [hx]; simp [DataW.weights, hu])
    simp only [List.length_map, List.length_range] at h1
    exact Nat.le_trans (Nat.mul_le_mul_right _ (by omega)) h1
theorem weights_all {P : Program} {e : TypeId} {l : List (DataW H)} {d : DataW H} (h : d ∈ l) : ∀ k ∈ d.weights P e, k ∈ DataW.weightsAll P e l := by
  induction l with
  | nil => cases h
  | cons x r ih =>
    intro k hk
    simp only [DataW.weightsAll, List.mem_append]
    rcases List.mem_cons.1 h with rfl | h
    · exact .inl hk
    · exact .inr (ih h k hk)
theorem reach_lt : reachBytes ≤ 140737488355328 := by decide
theorem trod_id {fuel : Nat} {cs : List Value} {x : DataW H × List MemPlace} (h : DataW.trod enc Tryz.prog w 0 (fun _ => true) true fuel 24 cs = some x) : ∃ i : List UInt8, cs = b8s i ∧ i.length = 32 := by
  obtain ⟨da, hda, g1, _⟩ := trod_bytes_array Tryz.underlying24 Tryz.underlying5 (by kernel_rfl) (by kernel_rfl) h
  exact ⟨da, g1, hda⟩
/-- a string in a part -/
theorem trod_str {fuel : Nat} {cs : List Value} {x : DataW H × List MemPlace} (h : DataW.trod enc Tryz.prog w 0 (fun _ => true) true fuel 9 cs = some x) (hw : ∀ k ∈ x.1.weights Tryz.prog 9, k ≤ reachBytes) : ∃ s : List UInt8, cs = [strV s] ∧ s.length ≤ 140737488355328 := by
  obtain ⟨S, g1, p1, _⟩ := DataW.trod_string Tryz.underlying9 h
  refine ⟨S.data.toList, by rw [g1, strV_data], ?_⟩
  have h1 := hw S.data.toList.length (by rw [p1]; simp [DataW.weights])
  exact Nat.le_trans h1 reach_lt
/-- an update that came in -/
theorem open_up {n : Nat} {cs : List Value} {x : DataW H × List MemPlace} (h : DataW.trod enc Tryz.prog w 0 (fun _ => true) true n 31 cs = some x) (hw : ∀ k ∈ x.1.weights Tryz.prog 31, k ≤ reachBytes) :
    ∃ u : UpM, cs = upC u ∧ u.old.length = 32 ∧ u.new.length = 32 ∧ u.name.length ≤ 140737488355328 := by
  obtain ⟨xs, n', _, hx, hl, hxl, hfs⟩ := DataW.trod_struct Tryz.underlying31 h
  have z0 : Tryz.prog.cellsOf 31 = 65 := by kernel_rfl
  have z1 : Tryz.prog.cellsOf 9 = 1 := by kernel_rfl
  have z2 : Tryz.prog.cellsOf 24 = 32 := by kernel_rfl
  have hxl3 : xs.length = 3 := hxl
  rw [z0] at hl
  have f0 : DataW.trod enc Tryz.prog w 0 (fun _ => true) true n' 9 ((cs.drop 0).take (Tryz.prog.cellsOf 9)) = xs[0]? := hfs 0 _ rfl
  have f1 : DataW.trod enc Tryz.prog w 0 (fun _ => true) true n' 24 ((cs.drop 1).take (Tryz.prog.cellsOf 24)) = xs[1]? := hfs 1 _ rfl
  have f2 : DataW.trod enc Tryz.prog w 0 (fun _ => true) true n' 24 ((cs.drop 33).take (Tryz.prog.cellsOf 24)) = xs[2]? := hfs 2 _ rfl
  rw [List.getElem?_eq_getElem (by omega)] at f0 f1 f2
  rw [z1] at f0
  rw [z2] at f1 f2
  have hd : x.1 = .agg (xs.map (·.1)) := congrArg Prod.fst hx
  obtain ⟨s, g0, hs⟩ := trod_str f0 (fun k hk => hw k (by
    rw [hd]
    simp only [DataW.weights, Tryz.underlying31]
    exact DataW.weights_mem_each (j := 0) rfl (by rw [List.getElem?_map, List.getElem?_eq_getElem (by omega)]; rfl) k hk))
  obtain ⟨a, g1, ha⟩ := trod_id f1
  obtain ⟨b, g2, hb⟩ := trod_id f2
  refine ⟨⟨s, a, b⟩, ?_, ha, hb, hs⟩
  have h3 := take_three cs 1 32 hl
  rw [h3, show cs.take 1 = [strV s] by simpa using g0, g1, show (cs.drop (1 + 32)).take 32 = b8s b from g2]
  simp [upC]
/-- a slice of updates that came in -/
theorem open_ups {n : Nat} {cs : List Value} {x : DataW H × List MemPlace} (h : DataW.trod enc Tryz.prog w 0 (fun _ => true) true n 26 cs = some x) (hw : ∀ k ∈ x.1.weights Tryz.prog 26, k ≤ reachBytes) :
    ∃ (A : Option Addr) (c : Nat) (us : List UpM), cs = [.slice A us.length c] ∧ Rd w A (upsC us) ∧ (∀ u ∈ us, u.old.length = 32 ∧ u.new.length = 32 ∧ u.name.length ≤ 140737488355328) ∧ us.length ≤ 140737488355328 := by
  have z : Tryz.prog.cellsOf 31 = 65 := by kernel_rfl
  have hb : Tryz.prog.bytesOf 31 = 80 := by kernel_rfl
  have h' := h
  rcases Go.Deep.open_slice Tryz.underlying26 h with ⟨hcs, _⟩ | ⟨a, len, cap, m, n', D, Pl, hcs, _, hle, hm, hmm, hx, hel⟩
  · exact ⟨none, 0, [], hcs, Rd.nil, (fun u hu => by cases hu), by simp⟩
  · rw [z] at hel
    have hlm : len ≤ m := by rw [hmm]; split <;> omega
    have hd : x.1 = .slice ((List.range len).map D) ((List.range (m - len)).map fun j => D (len + j)) := congrArg Prod.fst hx
    obtain ⟨os, hos, hall⟩ := lst_of_all (p := fun i (u : UpM) => w.cells? 0 (a.add (i * 65)) 65 = some (upC u) ∧ u.old.length = 32 ∧ u.new.length = 32 ∧ u.name.length ≤ 140737488355328) len (fun i hi => by
      obtain ⟨cs', h1, h2⟩ := hel i (by omega)
      obtain ⟨u, h3, h4⟩ := open_up h2 (fun k hk => hw k (by
        rw [hd]
        simp only [DataW.weights, Tryz.underlying26, List.mem_cons, List.mem_append]
        exact .inr (.inl (weights_all (List.mem_map.2 ⟨i, List.mem_range.2 hi, rfl⟩) k hk))))
      exact ⟨u, by rw [h1, h3], h4⟩)
    have hok : ∀ u ∈ os, u.old.length = 32 ∧ u.new.length = 32 ∧ u.name.length ≤ 140737488355328 := fun u hu => by
      obtain ⟨i, hi, rfl⟩ := List.getElem_of_mem hu
      exact (hall i hi).2
    rw [hcs] at h'
    have hr := slice_reach' Tryz.underlying26 h' hw
    rw [hb] at hr
    have := reach_lt
    exact ⟨some a, cap, os, by rw [hos]; exact hcs, rd_of_rows (f := upC) (m := 65) (by decide) (fun u hu => by simp [upC, b8s_length, (hok u hu).1, (hok u hu).2.1]) (fun i hi => (hall i hi).1), hok, by omega⟩
/-- a turn that came in -/
theorem open_tx {n : Nat} {cs : List Value} {x : DataW H × List MemPlace} (h : DataW.trod enc Tryz.prog w 0 (fun _ => true) true n 28 cs = some x) (hw : ∀ k ∈ x.1.weights Tryz.prog 28, k ≤ reachBytes) :
    ∃ p : TxP, cs = txP p ∧ TxRaw p.t ∧ Rd w p.A (upsC p.t.us) := by
  obtain ⟨xs, n', _, hx, hl, hxl, hfs⟩ := DataW.trod_struct Tryz.underlying28 h
  have z0 : Tryz.prog.cellsOf 28 = 34 := by kernel_rfl
  have z1 : Tryz.prog.cellsOf 9 = 1 := by kernel_rfl
  have z2 : Tryz.prog.cellsOf 24 = 32 := by kernel_rfl
  have z3 : Tryz.prog.cellsOf 26 = 1 := by kernel_rfl
  have hxl3 : xs.length = 3 := hxl
  rw [z0] at hl
  have f0 : DataW.trod enc Tryz.prog w 0 (fun _ => true) true n' 26 ((cs.drop 0).take (Tryz.prog.cellsOf 26)) = xs[0]? := hfs 0 _ rfl
  have f1 : DataW.trod enc Tryz.prog w 0 (fun _ => true) true n' 9 ((cs.drop 1).take (Tryz.prog.cellsOf 9)) = xs[1]? := hfs 1 _ rfl
  have f2 : DataW.trod enc Tryz.prog w 0 (fun _ => true) true n' 24 ((cs.drop 2).take (Tryz.prog.cellsOf 24)) = xs[2]? := hfs 2 _ rfl
  rw [List.getElem?_eq_getElem (by omega)] at f0 f1 f2
  rw [z3] at f0
  rw [z1] at f1
  rw [z2] at f2
  have hd : x.1 = .agg (xs.map (·.1)) := congrArg Prod.fst hx
  obtain ⟨A, c, us, g0, hr, hu, hul⟩ := open_ups f0 (fun k hk => hw k (by
    rw [hd]
    simp only [DataW.weights, Tryz.underlying28]
    exact DataW.weights_mem_each (j := 0) rfl (by rw [List.getElem?_map, List.getElem?_eq_getElem (by omega)]; rfl) k hk))
  obtain ⟨s, g1, hs⟩ := trod_str f1 (fun k hk => hw k (by
    rw [hd]
    simp only [DataW.weights, Tryz.underlying28]
    exact DataW.weights_mem_each (j := 1) rfl (by rw [List.getElem?_map, List.getElem?_eq_getElem (by omega)]; rfl) k hk))
  obtain ⟨b, g2, hb⟩ := trod_id f2
  refine ⟨⟨⟨us, s, b⟩, A, c⟩, ?_, ⟨hb, hu, hs, hul⟩, hr⟩
  have h3 : cs = cs.take 1 ++ ((cs.drop 1).take 1 ++ (cs.drop 2).take 32) := by
    have e1 : (cs.drop 2).take 32 = cs.drop 2 := List.take_of_length_le (by rw [List.length_drop]; omega)
    have e2 : cs.drop 2 = (cs.drop 1).drop 1 := by rw [List.drop_drop]
    rw [e1, e2, List.take_append_drop, List.take_append_drop]
  rw [h3, show cs.take 1 = [.slice A us.length c] by simpa using g0, g1, g2]
  rfl
/-- a slice of turns that came in -/
theorem open_txs {v : Value} {d : DataW H} {p : List MemPlace} {b0 : Nat} {r : Reach} (hok : Value.okWide Tryz.prog w r b0 44 v) (h : DataW.Trod enc Tryz.prog w 0 (fun _ => true) true 44 v d p) (hw : ∀ k ∈ d.weights Tryz.prog 44, k ≤ reachBytes) :
    ∃ (A : Option Addr) (c : Nat) (ts : List TxP), v = .slice A ts.length c ∧ ts.length ≤ 140737488355328 ∧ Rd w A (ts.flatMap txP) ∧ ∀ p ∈ ts, TxRaw p.t ∧ Rd w p.A (upsC p.t.us) := by
  obtain ⟨A, len, cap, rfl⟩ := okWide_slice Tryz.underlying44 hok
  obtain ⟨fuel, hf⟩ := h
  have z : Tryz.prog.cellsOf 28 = 34 := by kernel_rfl
  have hb : 0 < Tryz.prog.bytesOf 28 := of_decide_eq_true (by kernel_rfl)
  have hf' := hf
  rcases Go.Deep.open_slice Tryz.underlying44 hf with ⟨hcs, _⟩ | ⟨a, len', cap', m, n', D, Pl, hcs, _, hle, hm, hmm, hx, hel⟩
  · simp [Value.cells] at hcs
    obtain ⟨rfl, rfl, rfl⟩ := hcs
    exact ⟨none, 0, [], rfl, by simp, Rd.nil, by simp⟩
  · simp [Value.cells] at hcs
    obtain ⟨rfl, rfl, rfl⟩ := hcs
    rw [z] at hel
    have hlm : len ≤ m := by rw [hmm]; split <;> omega
    have hd : d = .slice ((List.range len).map D) ((List.range (m - len)).map fun j => D (len + j)) := congrArg Prod.fst hx
    obtain ⟨os, hos, hall⟩ := lst_of_all (p := fun i (q : TxP) => w.cells? 0 (a.add (i * 34)) 34 = some (txP q) ∧ TxRaw q.t ∧ Rd w q.A (upsC q.t.us)) len (fun i hi => by
      obtain ⟨cs', h1, h2⟩ := hel i (by omega)
      obtain ⟨o, h3, h4⟩ := open_tx h2 (fun k hk => hw k (by
        rw [hd]
        simp only [DataW.weights, Tryz.underlying44, List.mem_cons, List.mem_append]
        exact .inr (.inl (weights_all (List.mem_map.2 ⟨i, List.mem_range.2 hi, rfl⟩) k hk))))
      exact ⟨o, by rw [h1, h3], h4⟩)
    have hok2 : ∀ q ∈ os, TxRaw q.t ∧ Rd w q.A (upsC q.t.us) := fun q hq => by
      obtain ⟨i, hi, rfl⟩ := List.getElem_of_mem hq
      exact (hall i hi).2
    have hrd := rd_of_rows (f := txP) (m := 34) (w := w) (a := a) (os := os) (by decide) (fun x hx => txC_len (hok2 x hx).1.al) (fun i hi => (hall i hi).1)
    have hr := slice_reach' (A := some a) (n := len) (c := cap) Tryz.underlying44 hf' hw
    have := reach_lt
    have h9 : len ≤ len * Tryz.prog.bytesOf 28 := Nat.le_mul_of_pos_right _ hb
    exact ⟨some a, cap, os, by rw [hos], by omega, hrd, hok2⟩
end

end Go.Proofs.YtelbofikcpchiaaGreat
