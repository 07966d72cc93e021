
/- Small words over memory, of no one package: rows made, written, loaded, built; lists of rows. No condition; no program. (Put together by wip/genGen.py.) -/

import Derived.Test.YtpmifpblamjclaaRowK

import Derived.Test.YtpmifpblamjclaaSched

import Derived.Laws.Tables

import Derived.Laws.Cover1

import Derived.Great.BuildSlice

import Derived.Laws.Rows

import Derived.Deep.MidRow

namespace Go.Proofs.Ytpmifpblamjclaa

set_option linter.unusedVariables false

set_option linter.unusedSimpArgs false

set_option linter.unusedSectionVars false

open Go.RowKit

theorem new_row {w W : World} {cs : Array Value} {t : TypeId} (h : w.alloc (.cells cs t) = W) : W.heap[w.heap.size]? = some (.cells cs t (0, 0)) ∧ Below w.heap.size w W ∧ W.heap.size = w.heap.size + 1 := by
  subst h
  exact ⟨heap_alloc_new w _, (Below.refl _ _).alloc (Nat.le_refl _) _, by simp⟩
theorem two_new (w : World) (cs ds : Array Value) (t u : TypeId) : ((w.alloc (.cells cs t)).alloc (.cells ds u)).heap[w.heap.size]? = some (.cells cs t (0, 0)) ∧ ((w.alloc (.cells cs t)).alloc (.cells ds u)).heap[w.heap.size + 1]? = some (.cells ds u (0, 0)) ∧
    Below w.heap.size w ((w.alloc (.cells cs t)).alloc (.cells ds u)) ∧ ((w.alloc (.cells cs t)).alloc (.cells ds u)).heap.size = w.heap.size + 2 := by
  obtain ⟨h1, h2, h3⟩ := new_row (w := w) (cs := cs) (t := t) rfl
  obtain ⟨k1, k2, k3⟩ := new_row (w := w.alloc (.cells cs t)) (cs := ds) (t := u) rfl
  refine ⟨(k2.block _ (by omega)).trans h1, ?_, h2.trans (k2.mono (by omega)), by omega⟩
  rw [h3] at k1
  exact k1
/-! ### lists of rows -/

section

variable {α : Type} {f : α → List Value} {m : Nat}

theorem flat_length (xs : List α) (h : ∀ x ∈ xs, (f x).length = m) : (xs.flatMap f).length = xs.length * m := by
  induction xs with
  | nil => simp
  | cons x xs ih =>
    have h1 := h x (by simp)
    have h2 := ih (fun y hy => h y (by simp [hy]))
    rw [List.flatMap_cons, List.length_append, h1, h2, List.length_cons, Nat.succ_mul]
    omega
theorem flat_get (xs : List α) (h : ∀ x ∈ xs, (f x).length = m) : ∀ (i : Nat) (hi : i < xs.length) (j : Nat) (u : Value), (f xs[i])[j]? = some u → (xs.flatMap f)[i * m + j]? = some u := by
  induction xs with
  | nil => intro i hi; simp at hi
  | cons x xs ih =>
    intro i hi j u hu
    have h1 := h x (by simp)
    rw [List.flatMap_cons]
    cases i with
    | zero =>
      have hj := (List.getElem?_eq_some_iff.1 hu).1
      rw [Nat.zero_mul, Nat.zero_add, List.getElem?_append_left (by simpa using hj)]
      exact hu
    | succ i =>
      rw [List.getElem?_append_right (by rw [h1, Nat.succ_mul]; omega), h1, show (i + 1) * m + j - m = i * m + j by rw [Nat.succ_mul]; omega]
      exact ih (fun y hy => h y (by simp [hy])) i (by simpa using hi) j u hu
/-- the i-th row of a list in memory -/
theorem rd_flat {w : World} {b off : Nat} {xs : List α} (hr : Rd w (some ⟨b, off, none⟩) (xs.flatMap f)) (h : ∀ x ∈ xs, (f x).length = m) (i : Nat) (hi : i < xs.length) : w.rangeAt b (off + i * m) (f xs[i]) := by
  intro j v hv
  obtain ⟨b', o', he, hc⟩ := hr _ _ (flat_get xs h i hi j v hv)
  cases he
  rw [Nat.add_assoc]
  exact hc
theorem flat_one (xs : List α) (h : ∀ x ∈ xs, ∀ v ∈ f x, v.oneCell' = true) : ∀ v ∈ xs.flatMap f, v.oneCell' = true := by
  intro v hv
  obtain ⟨x, hx, hv⟩ := List.mem_flatMap.1 hv
  exact h x hx v hv
end

section

variable {P : Program} {ops : Array Oper} {rest : List Oper} {op : Oper} {a : Act} {w : World} {Q : Exit → Act → World → Prop}

theorem wpList_load_cells (ty : TypeId) (x : Operand) (g off : Nat) (cs : List Value) (hs : w.rangeAt g off cs) {d : TypeDesc} (hu : P.underlying ty = some d) (hd : d.isRow = true) (hi : (P.info? ty).map (·.size) = some cs.length)
    (hw : Region.wanted op (yielded ops a.tmps) = true) (ho : op.op = .load ty x) (hx : a.eval x = .pointer (some ⟨g, off, none⟩))
    (h : wpList P ops Q rest (a.put op.dst (.agg cs.toArray)) w) : wpList P ops Q (op :: rest) a w :=
  wpList_wanted hw fun _ hK => wp_load_mid ty x ho g off hx cs d hs hu hd hi (hK _ _ h)
end

/-! ### rows -/

/-- a row, made and written whole -/
theorem row_place {w : World} (t : TypeId) (zs vs : List Value) (hl : zs.length = vs.length) : ∃ Wa W5, w.alloc (.cells zs.toArray t) = Wa ∧ Wa.setCells w.heap.size 0 vs.toArray.toList = W5 ∧ Hid (Wa.there w.heap.size 0 vs.toArray.size) ∧ Hid (W5.heap[w.heap.size]? = some (.cells vs.toArray t (0, 0))) ∧ Hid (Below w.heap.size w W5) := by
  have hrow : (w.alloc (.cells zs.toArray t)).heap[w.heap.size]? = some (.cells zs.toArray t (0, 0)) := heap_alloc_new w _
  have hb : Below w.heap.size w (w.alloc (.cells zs.toArray t)) := (Below.refl _ _).alloc (Nat.le_refl _) _
  refine ⟨_, _, rfl, rfl, Lib.hid ?_, Lib.hid ?_, Lib.hid (bel_grown hb hb.size (setCells_grown _ _ _ _) (Nat.le_refl _))⟩
  · have := there_of_row hrow
    simpa [hl] using this
  · simpa using row_setAll (cs := zs) (vs := vs) hrow hl
theorem range_below {w w' : World} {g off : Nat} {cs : List Value} (h : w.rangeAt g off cs) (hg : g < w.heap.size) (hb : Below w.heap.size w w') : w'.rangeAt g off cs := fun j v hv =>
  (World.cell?_of_block (a := ⟨g, off + j, none⟩) (hb.block g hg)).trans (h j v hv)
theorem cell_below {w w' : World} {g off : Nat} {v : Value} (h : w.cell? ⟨g, off, none⟩ = some v) (hg : g < w.heap.size) (hb : Below w.heap.size w w') : w'.cell? ⟨g, off, none⟩ = some v :=
  (World.cell?_of_block (a := ⟨g, off, none⟩) (hb.block g hg)).trans h

theorem arr_write {w0 w : World} {g N : Nat} {old new : List UInt8} {t : TypeId} (h : w.heap[g]? = some (.cells (b8s old).toArray t (0, 0))) (ho : old.length = new.length) (hb : Below N w0 w) (hN : N ≤ w.heap.size) (hg : N ≤ g) :
    ∃ W, w.setCells g 0 (b8s new).toArray.toList = W ∧ Hid (w.there g 0 (b8s new).toArray.size) ∧ Hid (W.heap[g]? = some (.cells (b8s new).toArray t (0, 0))) ∧ Hid (Below N w0 W) := by
  have hs : (b8s new).toArray.size = (b8s old).toArray.size := by simp [b8s, ho]
  exact ⟨_, rfl, Lib.hid (by rw [hs]; exact there_of_row h), Lib.hid (row_setAll h (by rw [b8s_length, b8s_length, ho])), Lib.hid (bel_grown hb hN (setCells_grown _ _ _ _) hg)⟩

theorem results_row1 {P : Program} {fn : Func} {p : Tmp} {ty : TypeId} (h : fn.results = #[.cell p ty]) (tmps : Array Value) (w : World) (g : Nat) (t : TypeId) (cs : Array Value) (fr : Nat × Nat) (d : TypeDesc)
    (hp : tmps.getD p undef = .pointer (some ⟨g, 0, none⟩)) (hg : w.heap[g]? = some (.cells cs t fr))
    (hu : P.underlying ty = some d) (hd : (match d with | .struct _ | .array _ _ => true | _ => false) = true) (hi : (P.info? ty).map (·.size) = some cs.size) :
    (results fn tmps).run P w = .ok (.agg cs) w := by
  have hp' : tmps[p]?.getD undef = .pointer (some ⟨g, 0, none⟩) := by simpa using hp
  simp [results, h, hp', asAddr, run_loadVar_row w g t ty cs fr d hg hu hd hi]
section

variable {P : Program} {ops : Array Oper} {S : World → Prop} {Q : Exit → Act → World → Prop} {r : List (Bool × Nat)} {a : Act} {w : World}

theorem oneCell_cells {v : Value} (h : v.oneCell' = true) : v.cells = #[v] := by cases v <;> first | rfl | cases h
theorem run_storeVar_cell (w : World) (b o : Nat) (ty : TypeId) (v u : Value) (h1 : v.oneCell' = true) (hc : w.cell? ⟨b, o, none⟩ = some u) (hf : w.frozen? ⟨b, o, none⟩ = false) (hi : (P.info? ty).map (·.size) = some 1) :
    (storeVar ty ⟨b, o, none⟩ v).run P w = .ok () (w.setCell ⟨b, o, none⟩ v) := by
  have hk1 : ∀ j, j < [v].length → (w.cell? ⟨b, o + 0 + j, none⟩).isSome = true := by
    intro j hj
    have : j = 0 := by simpa using hj
    subst this
    simp [hc]
  have hk2 : ∀ j, j < [v].length → w.frozen? ⟨b, o + 0 + j, none⟩ = false := by
    intro j hj
    have : j = 0 := by simpa using hj
    subst this
    simpa using hf
  have := run_storeCells_cells (P := P) b o [v] 0 w hk1 hk2 (fun x hx => by simp at hx; subst hx; exact h1)
  cases hq : P.info? ty with
  | none => simp [hq] at hi
  | some i =>
    have hs : i.size = 1 := by simpa [hq] using hi
    simp only [Nat.add_zero] at this
    simp [storeVar, sizeOf, typeInfo, hq, oneCell_cells h1, hs, this, World.setCells]
/-- a store of one cell in a region that draws its order -/
theorem wpS_store_cell {i : Nat} (o : Oper) (ho : ops[i]? = some o) (hw : Region.wanted o (yielded ops a.tmps) = true) (ty : TypeId) (x y : Operand) (hop : o.op = .store ty x y)
    (b off : Nat) (hx : a.eval x = .pointer (some ⟨b, off, none⟩)) (v : Value) (hy : a.eval y = v) (h1 : v.oneCell' = true) (u : Value) (hc : w.cell? ⟨b, off, none⟩ = some u) (hf : w.frozen? ⟨b, off, none⟩ = false)
    (hi : (P.info? ty).map (·.size) = some 1) (hS : S (w.setCell ⟨b, off, none⟩ v)) (h : wpS P ops S Q r (a.put o.dst undef) (w.setCell ⟨b, off, none⟩ v)) : wpS P ops S Q ((false, i) :: r) a w :=
  wpS_do o ho hw fun K hK => by
    unfold Oper.wp execOp
    simp only [hop, hx, hy, Instr.storeAt, Instr.sureAddr, Sem.run_bind, Sem.run_pure, Result.andThen_ok, run_storeVar_cell w b off ty v u h1 hc hf hi]
    exact hK.out _ _ hS (fun _ => h)
/-- a store of a row in a region that draws its order -/
theorem wpS_store_mid {i : Nat} (o : Oper) (ho : ops[i]? = some o) (hw : Region.wanted o (yielded ops a.tmps) = true) (ty : TypeId) (x y : Operand) (hop : o.op = .store ty x y)
    (b off : Nat) (cells : Array Value) (hx : a.eval x = .pointer (some ⟨b, off, none⟩)) (hy : a.eval y = .agg cells) (ht : w.there b off cells.size) (hi : (P.info? ty).map (·.size) = some cells.size) (h1 : cells.all (·.oneCell') = true)
    (hS : S (w.setCells b off cells.toList)) (h : wpS P ops S Q r (a.put o.dst undef) (w.setCells b off cells.toList)) : wpS P ops S Q ((false, i) :: r) a w :=
  wpS_do o ho hw fun K hK => wp_store_mid ty x y hop b off cells hx hy ht hi h1 (hK.out _ _ hS (fun _ => h))
end

/-! ### a slice literal of one row -/

theorem fold_splice (off : Nat) : ∀ (vs p q r : List Value) (k : Nat), p.length = off + k → q.length = vs.length →
    (vs.zipIdx k).foldl (fun (cs : Array Value) (x : Value × Nat) => cs.setIfInBounds (off + x.2) x.1) (p ++ q ++ r).toArray = (p ++ vs ++ r).toArray
  | [], p, q, r, k, hp, hq => by
    have : q = [] := List.eq_nil_of_length_eq_zero hq
    subst this
    rfl
  | v :: vs, p, [], r, k, hp, hq => by simp at hq
  | v :: vs, p, x :: q, r, k, hp, hq => by
    rw [List.zipIdx_cons, List.foldl_cons]
    have e : (p ++ x :: q ++ r).toArray.setIfInBounds (off + k) v = ((p ++ [v]) ++ q ++ r).toArray := by
      rw [List.setIfInBounds_toArray, ← hp]
      congr 1
      simp [List.set_append]
    rw [e]
    have := fold_splice off vs (p ++ [v]) q r (k + 1) (by simp; omega) (by simpa using hq)
    rw [this]
    simp
theorem fill_one (place : Nat → Option (Nat × Nat)) (p q r vs : List Value) (rest : List (Nat × Value)) (i : Nat) (hpl : place i = some (p.length, vs.length)) (hq : q.length = vs.length) :
    Instr.fill place (p ++ q ++ r).toArray ((i, .agg vs.toArray) :: rest) = Instr.fill place (p ++ vs ++ r).toArray rest := by
  have h1 : (Value.agg vs.toArray).cells = vs.toArray := rfl
  have h2 := fold_splice p.length vs p q r 0 (by simp) hq
  simp only [Instr.fill, hpl, h1]
  rw [if_neg (by simp; omega)]
  congr 1
  rw [← Array.foldl_toList, Array.toList_zipIdx]
  exact h2
section

variable {P : Program} {ops : Array Oper} {rest : List Oper} {o : Oper} {a : Act} {w : World} {Q : Exit → Act → World → Prop}

theorem wpList_build1 (hg : o.guard = none) (t e : TypeId) (x : Operand) (ho : o.op = .buildSlice t 1 #[(0, x)]) (cs : List Value) (hx : a.eval x = .agg cs.toArray)
    (hu : P.underlying t = some (.slice e)) (hi : (P.info? e).map (fun i => (i.size, i.zero.isSome)) = some (cs.length, true)) (hpos : 0 < cs.length) (hs : cs.length ≤ 2 ^ 24)
    (h : wpList P ops Q rest (a.put o.dst (.slice (some ⟨w.heap.size, 0, none⟩) 1 1)) (w.alloc (.cells cs.toArray e))) : wpList P ops Q (o :: rest) a w := by
  cases hie : P.info? e with
  | none => simp [hie] at hi
  | some ie =>
    simp only [hie, Option.map_some, Option.some.injEq, Prod.mk.injEq] at hi
    obtain ⟨z, hz⟩ := Option.isSome_iff_exists.1 hi.2
    refine wpList_buildSlice hg t e 1 #[(0, x)] ho cs.toArray ie z hu hie hz (by rw [hi.1]; omega) (by rw [hi.1]; omega) ?_ h
    have e1 : (#[(0, x)].map fun (i, x) => (i, a.eval x)).toList = [(0, .agg cs.toArray)] := by simp [hx]
    rw [e1]
    obtain ⟨q, hq⟩ : ∃ q : List Value, ((Array.range (1 * ie.size)).map (z.cells[· % z.cells.size]!)) = ([] ++ q ++ []).toArray := ⟨((Array.range (1 * ie.size)).map (z.cells[· % z.cells.size]!)).toList, by rw [List.nil_append, List.append_nil, Array.toArray_toList]⟩
    have hql : q.length = cs.length := by
      have := congrArg Array.size hq
      simp at this
      omega
    rw [hq, fill_one _ [] q [] cs [] 0 (by simp [hi.1]) hql]
    simp [Instr.fill]
end

theorem grown_new {w w1 w2 : World} {r g : Nat} (h : w.grownBy w1 (some r)) (hg : w.heap.size ≤ g) (k : w1.grownBy w2 (some g)) : w.grownBy w2 (some r) :=
  ⟨k.os.trans h.os, k.tape.trans h.tape, k.output.trans h.output, Nat.le_trans h.size k.size, fun i hi hne => (k.block i (Nat.lt_of_lt_of_le hi h.size) (fun e => by have := Option.some.inj e; omega)).trans (h.block i hi hne)⟩
theorem grown_none {w w1 : World} (h : w.grownBy w1 none) : Below w.heap.size w w1 := ⟨h.os, h.tape, h.output, h.size, fun i hi => h.block i hi (by simp)⟩
theorem grown_own {w w1 w2 : World} {r : Nat} {vb : Option Nat} (h : w.grownBy w1 (some r)) (hv : ∀ b, vb = some b → w.heap.size ≤ b) (k : w1.grownBy w2 vb) : w.grownBy w2 (some r) := by
  cases vb with
  | none => exact grown_trans1 h (grown_of_below (grown_none k))
  | some b => exact grown_new h (hv b rfl) k
theorem own_far {w w' : World} {base : Nat} {e : TypeId} {size : Nat} {v : Value} {n : Nat} {xs : List Value} {r : Nat} (h : w.ownsRow base e size v n xs) (hr : r < base) (hg : w.grownBy w' (some r)) : w'.ownsRow base e size v n xs :=
  own_keep h fun b hb hlt => hg.block b hlt (by have := (h.lt b hb).1; simp; omega)
theorem fill_val (place : Nat → Option (Nat × Nat)) (p r : List Value) (x v : Value) (rest : List (Nat × Value)) (i : Nat) (hv : v.cells = #[v]) (hpl : place i = some (p.length, 1)) :
    Instr.fill place (p ++ [x] ++ r).toArray ((i, v) :: rest) = Instr.fill place (p ++ [v] ++ r).toArray rest := by
  have h2 := fold_splice p.length [v] p [x] r 0 (by simp) rfl
  simp only [Instr.fill, hpl, hv]
  rw [if_neg (by simp)]
  congr 1
section

variable {P : Program} {ops : Array Oper} {rest : List Oper} {o : Oper} {a : Act} {w : World} {Q : Exit → Act → World → Prop}

theorem wpList_built (hg : o.guard = none) (t : TypeId) (parts : Array (Nat × Operand)) (ho : o.op = .build t parts) (ps : List (Nat × Value)) (hps : (parts.toList.map fun (i, x) => (i, a.eval x)) = ps) (cs : Array Value)
    (hf : P.built t ps = some cs) (h : wpList P ops Q rest (a.put o.dst (.agg cs)) w) : wpList P ops Q (o :: rest) a w := by
  have e : (parts.map fun (i, x) => (i, a.eval x)).toList = ps := by rw [Array.toList_map]; exact hps
  refine wpList_build hg t parts ho (by rw [e, hf]; rfl) ?_
  rw [e, hf]
  exact h
end

/-- a list that is done: it lies below lo, and not in row g3 -/
def Kp (W : World) (lo g2 g3 : Nat) (A : Option Addr) (cs : List Value) : Prop := Rd W A cs ∧ ∀ ad, A = some ad → ad.block < lo ∧ g2 < ad.block ∧ g3 < ad.block
section

variable {W W' : World} {lo lo' g2 g3 : Nat} {A : Option Addr} {cs : List Value}

theorem Kp.nil : Kp W lo g2 g3 none [] := ⟨Rd.nil, fun _ e => by cases e⟩
theorem Kp.below (h : Kp W lo g2 g3 A cs) (hb : Below W.heap.size W W') : Kp W' lo g2 g3 A cs := ⟨h.1.below hb, h.2⟩
theorem Kp.far (h : Kp W lo g2 g3 A cs) {row : Option Nat} (hg : W.grownBy W' row) (hr : ∀ b, row = some b → lo ≤ b ∨ b ≤ g3 ∨ b ≤ g2) : Kp W' lo g2 g3 A cs :=
  ⟨h.1.grown hg (fun ad e hx => by have h1 := h.2 ad e; rcases hr _ hx.symm with h2 | h2 | h2 <;> omega), h.2⟩
theorem Kp.lift (h : Kp W lo g2 g3 A cs) (hl : lo ≤ lo') : Kp W lo' g2 g3 A cs := ⟨h.1, fun ad e => ⟨Nat.lt_of_lt_of_le (h.2 ad e).1 hl, (h.2 ad e).2⟩⟩
theorem Kp.of_own {E : TypeId} {sz n c : Nat} {xs : List Value} (h : W.ownsRow lo E sz (.slice A n c) n xs) (hg2 : g2 < lo) (hg : g3 < lo) : Kp W W.heap.size g2 g3 A xs := by
  obtain ⟨B, d, e, h1, h2, h3, _⟩ := own_slice h
  cases e
  exact ⟨own_rd h, fun ad e => ⟨(h3 ad e).2, by have := (h3 ad e).1; omega, by have := (h3 ad e).1; omega⟩⟩
end

section

variable {P : Program} {ops : Array Oper} {rest : List Oper} {o : Oper} {a : Act} {w : World} {Q : Exit → Act → World → Prop}

/-- built by an operation with a guard that lets it by -/
theorem wpList_built_w (hg : Region.wanted o (yielded ops a.tmps) = true) (t : TypeId) (parts : Array (Nat × Operand)) (ho : o.op = .build t parts) (ps : List (Nat × Value)) (hps : (parts.toList.map fun (i, x) => (i, a.eval x)) = ps) (cs : Array Value)
    (hf : P.built t ps = some cs) (h : wpList P ops Q rest (a.put o.dst (.agg cs)) w) : wpList P ops Q (o :: rest) a w := by
  have e : (parts.map fun (i, x) => (i, a.eval x)).toList = ps := by rw [Array.toList_map]; exact hps
  refine wpList_wanted hg fun K hK => wp_build t parts ho (by rw [e, hf]; rfl) ?_
  rw [e, hf]
  exact hK _ _ h
end

theorem three_new (w : World) (cs ds es : Array Value) (t u v : TypeId) : (((w.alloc (.cells cs t)).alloc (.cells ds u)).alloc (.cells es v)).heap[w.heap.size]? = some (.cells cs t (0, 0)) ∧ (((w.alloc (.cells cs t)).alloc (.cells ds u)).alloc (.cells es v)).heap[w.heap.size + 1]? = some (.cells ds u (0, 0)) ∧
    (((w.alloc (.cells cs t)).alloc (.cells ds u)).alloc (.cells es v)).heap[w.heap.size + 1 + 1]? = some (.cells es v (0, 0)) ∧ Below w.heap.size w (((w.alloc (.cells cs t)).alloc (.cells ds u)).alloc (.cells es v)) ∧ (((w.alloc (.cells cs t)).alloc (.cells ds u)).alloc (.cells es v)).heap.size = w.heap.size + 3 := by
  obtain ⟨h1, h2, h3, h4⟩ := two_new w cs ds t u
  obtain ⟨k1, k2, k3⟩ := new_row (w := (w.alloc (.cells cs t)).alloc (.cells ds u)) (cs := es) (t := v) rfl
  refine ⟨(k2.block _ (by omega)).trans h1, (k2.block _ (by omega)).trans h2, ?_, h3.trans (k2.mono (by omega)), by omega⟩
  rw [h4] at k1
  exact k1
end Go.Proofs.Ytpmifpblamjclaa
