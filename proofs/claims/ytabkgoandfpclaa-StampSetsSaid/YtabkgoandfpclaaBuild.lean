
/- Slice literals of one and of two structs. No condition; no program. -/

import Derived.Test.YtabkgoandfpclaaBase

import Derived.Great.Walk

namespace Go.Proofs.Ytabkgoandfpclaa

set_option linter.unusedVariables false

set_option linter.unusedSimpArgs false

open Go.RowKit

theorem fold_splice (off : Nat) : ∀ (vs p q r : List Value) (k : Nat), p.length = off + k → q.length = vs.length →
    (vs.zipIdx k).foldl (fun (cs : Array Value) (x : Value × Nat) => cs.setIfInBounds (off + x.2) x.1) (p ++ q ++ r).toArray = (p ++ vs ++ r).toArray
  | [], p, q, r, k, hp, hq => by
    have : q = [] := List.eq_nil_of_length_eq_zero hq
    subst this
    rfl
  | v :: vs, p, [], r, k, hp, hq => by simp at hq
  | v :: vs, p, x :: q, r, k, hp, hq => by
    rw [List.zipIdx_cons, List.foldl_cons]
    have e : (p ++ x :: q ++ r).toArray.setIfInBounds (off + k) v = ((p ++ [v]) ++ q ++ r).toArray := by
      rw [List.setIfInBounds_toArray, ← hp]
      congr 1
      simp [List.set_append]
    rw [e]
    have := fold_splice off vs (p ++ [v]) q r (k + 1) (by simp; omega) (by simpa using hq)
    rw [this]
    simp
theorem fill_one (place : Nat → Option (Nat × Nat)) (p q r vs : List Value) (rest : List (Nat × Value)) (i : Nat) (hpl : place i = some (p.length, vs.length)) (hq : q.length = vs.length) :
    Instr.fill place (p ++ q ++ r).toArray ((i, .agg vs.toArray) :: rest) = Instr.fill place (p ++ vs ++ r).toArray rest := by
  have h1 : (Value.agg vs.toArray).cells = vs.toArray := rfl
  have h2 := fold_splice p.length vs p q r 0 (by simp) hq
  simp only [Instr.fill, hpl, h1]
  rw [if_neg (by simp; omega)]
  congr 1
  rw [← Array.foldl_toList, Array.toList_zipIdx]
  exact h2
section

variable {P : Program} {ops : Array Oper} {rest : List Oper} {o : Oper} {a : Act} {w : World} {Q : Exit → Act → World → Prop}

theorem wpList_build1 (hg : o.guard = none) (t e : TypeId) (x : Operand) (ho : o.op = .buildSlice t 1 #[(0, x)]) (cs : List Value) (hx : a.eval x = .agg cs.toArray)
    (hu : P.underlying t = some (.slice e)) (hi : (P.info? e).map (fun i => (i.size, i.zero.isSome)) = some (cs.length, true)) (hpos : 0 < cs.length) (hs : cs.length ≤ 2 ^ 24)
    (h : wpList P ops Q rest (a.put o.dst (.slice (some ⟨w.heap.size, 0, none⟩) 1 1)) (w.alloc (.cells cs.toArray e))) : wpList P ops Q (o :: rest) a w := by
  cases hie : P.info? e with
  | none => simp [hie] at hi
  | some ie =>
    simp only [hie, Option.map_some, Option.some.injEq, Prod.mk.injEq] at hi
    obtain ⟨z, hz⟩ := Option.isSome_iff_exists.1 hi.2
    refine wpList_buildSlice hg t e 1 #[(0, x)] ho cs.toArray ie z hu hie hz (by rw [hi.1]; omega) (by rw [hi.1]; omega) ?_ h
    have e1 : (#[(0, x)].map fun (i, x) => (i, a.eval x)).toList = [(0, .agg cs.toArray)] := by simp [hx]
    rw [e1]
    obtain ⟨q, hq⟩ : ∃ q : List Value, ((Array.range (1 * ie.size)).map (z.cells[· % z.cells.size]!)) = ([] ++ q ++ []).toArray := ⟨((Array.range (1 * ie.size)).map (z.cells[· % z.cells.size]!)).toList, by rw [List.nil_append, List.append_nil, Array.toArray_toList]⟩
    have hql : q.length = cs.length := by
      have := congrArg Array.size hq
      simp at this
      omega
    rw [hq, fill_one _ [] q [] cs [] 0 (by simp [hi.1]) hql]
    simp [Instr.fill]
end

section

variable {P : Program} {ops : Array Oper} {rest : List Oper} {o : Oper} {a : Act} {w : World} {Q : Exit → Act → World → Prop}

theorem wpList_build2 (hg : o.guard = none) (t e : TypeId) (x y : Operand) (ho : o.op = .buildSlice t 2 #[(0, x), (1, y)]) (cs ds : List Value) (hx : a.eval x = .agg cs.toArray) (hy : a.eval y = .agg ds.toArray)
    (hu : P.underlying t = some (.slice e)) (hi : (P.info? e).map (fun i => (i.size, i.zero.isSome)) = some (cs.length, true)) (hl : ds.length = cs.length) (hpos : 0 < cs.length) (hs : 2 * cs.length ≤ 2 ^ 24)
    (h : wpList P ops Q rest (a.put o.dst (.slice (some ⟨w.heap.size, 0, none⟩) 2 2)) (w.alloc (.cells (cs ++ ds).toArray e))) : wpList P ops Q (o :: rest) a w := by
  cases hie : P.info? e with
  | none => simp [hie] at hi
  | some ie =>
    simp only [hie, Option.map_some, Option.some.injEq, Prod.mk.injEq] at hi
    obtain ⟨z, hz⟩ := Option.isSome_iff_exists.1 hi.2
    refine wpList_buildSlice hg t e 2 #[(0, x), (1, y)] ho (cs ++ ds).toArray ie z hu hie hz (by rw [hi.1]; omega) (by rw [hi.1]; omega) ?_ h
    have e1 : (#[(0, x), (1, y)].map fun (i, x) => (i, a.eval x)).toList = [(0, .agg cs.toArray), (1, .agg ds.toArray)] := by simp [hx, hy]
    rw [e1]
    obtain ⟨p, q, hq, hp, hql⟩ : ∃ p q : List Value, ((Array.range (2 * ie.size)).map (z.cells[· % z.cells.size]!)) = ([] ++ p ++ q).toArray ∧ p.length = cs.length ∧ q.length = cs.length := by
      obtain ⟨l, hl⟩ : ∃ l, ((Array.range (2 * ie.size)).map (z.cells[· % z.cells.size]!)) = l := ⟨_, rfl⟩
      have hsz : l.toList.length = 2 * cs.length := by rw [← hl, ← hi.1]; simp
      refine ⟨l.toList.take cs.length, l.toList.drop cs.length, ?_, by rw [List.length_take, hsz]; omega, by rw [List.length_drop, hsz]; omega⟩
      rw [hl, List.nil_append, List.take_append_drop, Array.toArray_toList]
    rw [hq, fill_one _ [] p q cs _ 0 (by simp [hi.1]) hp, List.nil_append]
    have e2 : cs ++ q = cs ++ q ++ [] := by simp
    rw [e2, fill_one _ cs q [] ds [] 1 (by simp [hi.1, hl]) (by omega), List.append_nil]
    simp [Instr.fill]
end

end Go.Proofs.Ytabkgoandfpclaa
