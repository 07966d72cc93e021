
/- Rows of memory that a walk makes, reads and writes. No condition. -/

import Derived.Test.YtabkgoandfpclaaRef01

import Derived.Laws.ResultCell

import Derived.Laws.IdiomCopy

import Derived.Laws.CopyRow

import Derived.Lib.SlBuf

namespace Go.Proofs.Ytabkgoandfpclaa

set_option linter.unusedVariables false

set_option linter.unusedSimpArgs false

open Go.RowKit

theorem row_cell {w : World} {g : Nat} {cs : Array Value} {t : TypeId} (h : w.heap[g]? = some (.cells cs t (0, 0))) (i : Nat) : w.cell? ⟨g, i, none⟩ = cs[i]? := cell_of_row w g i cs t (0, 0) h
theorem row_free {w : World} {g : Nat} {cs : Array Value} {t : TypeId} (h : w.heap[g]? = some (.cells cs t (0, 0))) (i : Nat) : w.frozen? ⟨g, i, none⟩ = false := frozen_of_row w g i cs t h
theorem row_set {w : World} {g : Nat} {cs : Array Value} {t : TypeId} (h : w.heap[g]? = some (.cells cs t (0, 0))) (i : Nat) (u : Value) : (w.setCell ⟨g, i, none⟩ u).heap[g]? = some (.cells (cs.setIfInBounds i u) t (0, 0)) :=
  heap_setCell_same w g i cs t u h
theorem grown_set {w : World} (g i : Nat) (u : Value) : w.grownBy (w.setCell ⟨g, i, none⟩ u) (some g) :=
  ⟨rfl, rfl, rfl, by simp [World.setCell], fun k _ hk => Below.heap_setCell _ _ _ _ (fun e => hk (by rw [e]))⟩
theorem grown_trans1 {a b c : World} {g : Nat} (h : a.grownBy b (some g)) (k : b.grownBy c (some g)) : a.grownBy c (some g) :=
  ⟨k.os.trans h.os, k.tape.trans h.tape, k.output.trans h.output, Nat.le_trans h.size k.size, fun i hi hne => (k.block i (Nat.lt_of_lt_of_le hi h.size) hne).trans (h.block i hi hne)⟩
theorem grown_of_below {a b : World} {g : Nat} (h : Below a.heap.size a b) : a.grownBy b (some g) := ⟨h.os, h.tape, h.output, h.size, fun i hi _ => h.block i hi⟩

theorem bel_grown {N g : Nat} {w0 w1 w2 : World} (h : Below N w0 w1) (hN : N ≤ w1.heap.size) (hg : w1.grownBy w2 (some g)) (hNg : N ≤ g) : Below N w0 w2 :=
  h.grown hg hN fun k hk => by cases hk; exact hNg


theorem setCells_grown (g : Nat) : ∀ (vs : List Value) (o : Nat) (w : World), w.grownBy (w.setCells g o vs) (some g)
  | [], _, w => World.grownBy.refl _ _
  | v :: vs, o, w => grown_trans1 (grown_set g o v) (setCells_grown g vs (o + 1) _)

theorem there_of_row {w : World} {g : Nat} {cs : Array Value} {t : TypeId} (h : w.heap[g]? = some (.cells cs t (0, 0))) : w.there g 0 cs.size := fun j hj =>
  ⟨by rw [row_cell h, Nat.zero_add]; simp [hj], row_free h _⟩
theorem range_of_row {w : World} {g : Nat} {cs : List Value} {t : TypeId} (h : w.heap[g]? = some (.cells cs.toArray t (0, 0))) : w.rangeAt g 0 cs := fun j v hv => by
  rw [row_cell h, Nat.zero_add]; simpa using hv

theorem grown_old {a b c : World} {B : Nat} (h : a.grownBy b (some B)) (hB : a.heap.size ≤ B) : Below a.heap.size a b :=
  ⟨h.os, h.tape, h.output, h.size, fun k hk => h.block k hk (by simp; omega)⟩


section

variable {P : Program}

theorem results_tmp_row {fn : Func} {u p : Tmp} {ty : TypeId} (h : fn.results = #[.tmp u, .cell p ty]) (tmps : Array Value) (w : World) (g : Nat) (t : TypeId) (cs : Array Value) (fr : Nat × Nat) (d : TypeDesc)
    (hp : tmps.getD p undef = .pointer (some ⟨g, 0, none⟩)) (hg : w.heap[g]? = some (.cells cs t fr))
    (hu : P.underlying ty = some d) (hd : (match d with | .struct _ | .array _ _ => true | _ => false) = true) (hi : (P.info? ty).map (·.size) = some cs.size) :
    (results fn tmps).run P w = .ok (.tuple #[tmps.getD u undef, .agg cs]) w := by
  have hp' : tmps[p]?.getD undef = .pointer (some ⟨g, 0, none⟩) := by simpa using hp
  simp [results, h, hp', asAddr, run_loadVar_row w g t ty cs fr d hg hu hd hi]
theorem results_row_row {fn : Func} {q p : Tmp} {ty ty' : TypeId} (h : fn.results = #[.cell q ty', .cell p ty]) (tmps : Array Value) (w : World) (g g' : Nat) (t t' : TypeId) (cs cs' : Array Value) (fr fr' : Nat × Nat) (d d' : TypeDesc)
    (hp : tmps.getD p undef = .pointer (some ⟨g, 0, none⟩)) (hg : w.heap[g]? = some (.cells cs t fr))
    (hu : P.underlying ty = some d) (hd : (match d with | .struct _ | .array _ _ => true | _ => false) = true) (hi : (P.info? ty).map (·.size) = some cs.size)
    (hp' : tmps.getD q undef = .pointer (some ⟨g', 0, none⟩)) (hg' : w.heap[g']? = some (.cells cs' t' fr'))
    (hu' : P.underlying ty' = some d') (hd' : (match d' with | .struct _ | .array _ _ => true | _ => false) = true) (hi' : (P.info? ty').map (·.size) = some cs'.size) :
    (results fn tmps).run P w = .ok (.tuple #[.agg cs', .agg cs]) w := by
  have e1 : tmps[p]?.getD undef = .pointer (some ⟨g, 0, none⟩) := by simpa using hp
  have e2 : tmps[q]?.getD undef = .pointer (some ⟨g', 0, none⟩) := by simpa using hp'
  simp [results, h, e1, e2, asAddr, run_loadVar_row w g t ty cs fr d hg hu hd hi, run_loadVar_row w g' t' ty' cs' fr' d' hg' hu' hd' hi']
end

/-- two cells of a row are written -/
theorem row_set2 {w : World} {g : Nat} {a b : Value} {t : TypeId} (h : w.heap[g]? = some (.cells #[a, b] t (0, 0))) (x y : Value) : ((w.setCell ⟨g, 0, none⟩ x).setCell ⟨g, 1, none⟩ y).heap[g]? = some (.cells #[x, y] t (0, 0)) := by
  have := row_set (row_set h 0 x) 1 y
  simpa using this
theorem bel_set2 {w w1 : World} {N g : Nat} (hb : Below N w w1) (hN : N ≤ w1.heap.size) (hg : N ≤ g) (x y : Value) : Below N w ((w1.setCell ⟨g, 0, none⟩ x).setCell ⟨g, 1, none⟩ y) :=
  bel_grown hb hN (grown_trans1 (grown_set g 0 x) (grown_set g 1 y)) hg

theorem set2_far (w : World) (g : Nat) (x y : Value) (a : Addr) (h : g ≠ a.block) : (((w.setCell ⟨g, 0, none⟩ x).setCell ⟨g, 1, none⟩ y).drew).cell? a = w.cell? a := by
  show ((w.setCell ⟨g, 0, none⟩ x).setCell ⟨g, 1, none⟩ y).cell? a = w.cell? a
  rw [World.cell?_setCell_far _ _ _ _ h, World.cell?_setCell_far _ _ _ _ h]


theorem row_set2d {w : World} {g : Nat} {a b : Value} {t : TypeId} (h : w.heap[g]? = some (.cells #[a, b] t (0, 0))) (x y : Value) : (((w.setCell ⟨g, 0, none⟩ x).setCell ⟨g, 1, none⟩ y).drew).heap[g]? = some (.cells #[x, y] t (0, 0)) := row_set2 h x y

theorem grown_set2 (w : World) (g : Nat) (x y : Value) : w.grownBy (((w.setCell ⟨g, 0, none⟩ x).setCell ⟨g, 1, none⟩ y).drew) (some g) :=
  have h := grown_trans1 (grown_set (w := w) g 0 x) (grown_set (w := w.setCell ⟨g, 0, none⟩ x) g 1 y)
  ⟨h.os, h.tape, h.output, h.size, h.block⟩


/-- a run of a row's cells is written -/
theorem row_setCells {g : Nat} {t : TypeId} : ∀ (vs p q r : List Value) (w : World), w.heap[g]? = some (.cells (p ++ q ++ r).toArray t (0, 0)) → q.length = vs.length →
    (w.setCells g p.length vs).heap[g]? = some (.cells (p ++ vs ++ r).toArray t (0, 0))
  | [], p, q, r, w, h, hq => by
    have : q = [] := List.eq_nil_of_length_eq_zero hq
    subst this
    exact h
  | v :: vs, p, [], r, w, h, hq => by simp at hq
  | v :: vs, p, x :: q, r, w, h, hq => by
    have h1 := row_set h p.length v
    have e : (p ++ x :: q ++ r).toArray.setIfInBounds p.length v = ((p ++ [v]) ++ q ++ r).toArray := by
      rw [List.setIfInBounds_toArray]
      congr 1
      simp [List.set_append]
    rw [e] at h1
    have := row_setCells vs (p ++ [v]) q r _ h1 (by simpa using hq)
    have e2 : p ++ v :: vs ++ r = (p ++ [v]) ++ vs ++ r := by simp
    rw [e2]
    simpa [World.setCells] using this
theorem row_setAll {g : Nat} {t : TypeId} {cs vs : List Value} {w : World} (h : w.heap[g]? = some (.cells cs.toArray t (0, 0))) (hl : cs.length = vs.length) : (w.setCells g 0 vs).heap[g]? = some (.cells vs.toArray t (0, 0)) := by
  have := row_setCells vs [] cs [] w (by simpa using h) hl
  simpa using this

theorem setCells_other (g : Nat) : ∀ (vs : List Value) (o : Nat) (w : World) (k : Nat), k ≠ g → (w.setCells g o vs).heap[k]? = w.heap[k]?
  | [], _, _, _, _ => rfl
  | v :: vs, o, w, k, h => (setCells_other g vs (o + 1) _ k h).trans (Below.heap_setCell _ _ _ _ (fun e => h (by rw [e])))
theorem setCells_size (g : Nat) (vs : List Value) (o : Nat) (w : World) : w.heap.size ≤ (w.setCells g o vs).heap.size := (setCells_grown g vs o w).size

section

variable {P : Program}

theorem results_row_tmp {fn : Func} {u p : Tmp} {ty : TypeId} (h : fn.results = #[.cell p ty, .tmp u]) (tmps : Array Value) (w : World) (g : Nat) (t : TypeId) (cs : Array Value) (fr : Nat × Nat) (d : TypeDesc)
    (hp : tmps.getD p undef = .pointer (some ⟨g, 0, none⟩)) (hg : w.heap[g]? = some (.cells cs t fr))
    (hu : P.underlying ty = some d) (hd : (match d with | .struct _ | .array _ _ => true | _ => false) = true) (hi : (P.info? ty).map (·.size) = some cs.size) :
    (results fn tmps).run P w = .ok (.tuple #[.agg cs, tmps.getD u undef]) w := by
  have hp' : tmps[p]?.getD undef = .pointer (some ⟨g, 0, none⟩) := by simpa using hp
  simp [results, h, hp', asAddr, run_loadVar_row w g t ty cs fr d hg hu hd hi]
end

section

variable {P : Program} {ops : Array Oper} {rest : List Oper} {o : Oper} {a : Act} {w : World} {Q : Exit → Act → World → Prop}

theorem wpList_wanted (hw : Region.wanted o (yielded ops a.tmps) = true) (h : ∀ K : Act → World → Prop, (∀ a w, wpList P ops Q rest a w → K a w) → o.wp P a w K Q) : wpList P ops Q (o :: rest) a w :=
  wpList_step fun K hK => by simp only [hw, if_true]; exact h K hK
/-- a whole row is loaded, by an operation with a guard that lets it by -/
theorem wpList_load_row_w (ty : TypeId) (x : Operand) (ho : o.op = .load ty x)
    (g : Nat) (hx : a.eval x = .pointer (some ⟨g, 0, none⟩)) (t : TypeId) (cs : Array Value) (fr : Nat × Nat) (d : TypeDesc) (hg : w.heap[g]? = some (.cells cs t fr))
    (hu : P.underlying ty = some d) (hd : (match d with | .struct _ | .array _ _ => true | _ => false) = true) (hi : (P.info? ty).map (·.size) = some cs.size) (hw : Region.wanted o (yielded ops a.tmps) = true)
    (h : wpList P ops Q rest (a.put o.dst (.agg cs)) w) : wpList P ops Q (o :: rest) a w :=
  wpList_wanted hw fun _ hK => wp_load_row ty x ho g hx t cs fr d hg hu hd hi (hK _ _ h)
end

/-! ### arrays of bytes -/

def zeros32 : List UInt8 := List.replicate 32 0
theorem zeros32_cells : b8s zeros32 = [.int .u8 0, .int .u8 0, .int .u8 0, .int .u8 0, .int .u8 0, .int .u8 0, .int .u8 0, .int .u8 0, .int .u8 0, .int .u8 0, .int .u8 0, .int .u8 0, .int .u8 0, .int .u8 0, .int .u8 0, .int .u8 0, .int .u8 0, .int .u8 0, .int .u8 0, .int .u8 0, .int .u8 0, .int .u8 0, .int .u8 0, .int .u8 0, .int .u8 0, .int .u8 0, .int .u8 0, .int .u8 0, .int .u8 0, .int .u8 0, .int .u8 0, .int .u8 0] := rfl
/-- a variable that is an array of 32 bytes: made, then written whole -/
theorem arr_place {w : World} (t : TypeId) (idv : List UInt8) (hid : idv.length = 32) :
    ∃ H Wa W5, w.heap.size = H ∧ w.alloc (.cells #[Value.int .u8 0, Value.int .u8 0, Value.int .u8 0, Value.int .u8 0, Value.int .u8 0, Value.int .u8 0, Value.int .u8 0, Value.int .u8 0, Value.int .u8 0, Value.int .u8 0, Value.int .u8 0, Value.int .u8 0, Value.int .u8 0, Value.int .u8 0, Value.int .u8 0, Value.int .u8 0, Value.int .u8 0, Value.int .u8 0, Value.int .u8 0, Value.int .u8 0, Value.int .u8 0, Value.int .u8 0, Value.int .u8 0, Value.int .u8 0, Value.int .u8 0, Value.int .u8 0, Value.int .u8 0, Value.int .u8 0, Value.int .u8 0, Value.int .u8 0, Value.int .u8 0, Value.int .u8 0] t) = Wa ∧ Wa.setCells H 0 (b8s idv).toArray.toList = W5 ∧ Hid (Wa.there H 0 (b8s idv).toArray.size) ∧ Hid (W5.heap[H]? = some (.cells (b8s idv).toArray t (0, 0))) ∧ Hid (Below w.heap.size w W5) ∧ Hid (W5.heap.size = H + 1) := by
  have hr : (w.alloc (.cells #[Value.int .u8 0, Value.int .u8 0, Value.int .u8 0, Value.int .u8 0, Value.int .u8 0, Value.int .u8 0, Value.int .u8 0, Value.int .u8 0, Value.int .u8 0, Value.int .u8 0, Value.int .u8 0, Value.int .u8 0, Value.int .u8 0, Value.int .u8 0, Value.int .u8 0, Value.int .u8 0, Value.int .u8 0, Value.int .u8 0, Value.int .u8 0, Value.int .u8 0, Value.int .u8 0, Value.int .u8 0, Value.int .u8 0, Value.int .u8 0, Value.int .u8 0, Value.int .u8 0, Value.int .u8 0, Value.int .u8 0, Value.int .u8 0, Value.int .u8 0, Value.int .u8 0, Value.int .u8 0] t)).heap[w.heap.size]? = some (.cells (b8s zeros32).toArray t (0, 0)) := heap_alloc_new w _
  have hb : Below w.heap.size w (w.alloc (.cells #[Value.int .u8 0, Value.int .u8 0, Value.int .u8 0, Value.int .u8 0, Value.int .u8 0, Value.int .u8 0, Value.int .u8 0, Value.int .u8 0, Value.int .u8 0, Value.int .u8 0, Value.int .u8 0, Value.int .u8 0, Value.int .u8 0, Value.int .u8 0, Value.int .u8 0, Value.int .u8 0, Value.int .u8 0, Value.int .u8 0, Value.int .u8 0, Value.int .u8 0, Value.int .u8 0, Value.int .u8 0, Value.int .u8 0, Value.int .u8 0, Value.int .u8 0, Value.int .u8 0, Value.int .u8 0, Value.int .u8 0, Value.int .u8 0, Value.int .u8 0, Value.int .u8 0, Value.int .u8 0] t)) := (Below.refl _ _).alloc (Nat.le_refl _) _
  have hs : (b8s idv).toArray.size = 32 := by simp [b8s, hid]
  refine ⟨w.heap.size, _, _, rfl, rfl, rfl, Lib.hid (by rw [hs]; exact there_of_row hr), Lib.hid (row_setAll hr (by rw [b8s_length, b8s_length, hid]; rfl)), Lib.hid (bel_grown hb hb.size (setCells_grown _ _ _ _) (Nat.le_refl _)), Lib.hid ?_⟩
  have : ∀ (vs : List Value) (o : Nat) (W : World), (W.setCells w.heap.size o vs).heap.size = W.heap.size := by
    intro vs
    induction vs with
    | nil => intro o W; rfl
    | cons v vs ih => intro o W; exact (ih (o + 1) _).trans (by simp [World.setCell])
  rw [this]
  simp
theorem arr_size (idv : List UInt8) (hid : idv.length = 32) : (b8s idv).toArray.size = 32 := by simp [b8s, hid]
theorem info_of_arr {P : Program} {t : TypeId} (idv : List UInt8) (hid : idv.length = 32) (h : (P.info? t).map (·.size) = some 32) : (P.info? t).map (·.size) = some (b8s idv).toArray.size := by rw [arr_size idv hid]; exact h
end Go.Proofs.Ytabkgoandfpclaa
