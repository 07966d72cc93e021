
/- Refs: what a turn makes of them in memory (words for make). -/

import Derived.Test.YtelbofikcpchiaaGreatRf6

import Derived.Great.BuildSlice

import Derived.Maps.OwnSet

namespace Go.Proofs.YtelbofikcpchiaaGreat

set_option linter.unusedVariables false

set_option linter.unusedSimpArgs false

set_option linter.unusedSectionVars false

open Go.RowKit

section

variable {P : Program} {o : Oper} {a : Act} {w : World} {K : Act → World → Prop} {Q : Exit → Act → World → Prop}

theorem wp_build1 (t e : TypeId) (x : Operand) (ho : o.op = .buildSlice t 1 #[(0, x)]) (cs : List Value) (hx : a.eval x = .agg cs.toArray)
    (hu : P.underlying t = some (.slice e)) (hi : (P.info? e).map (fun i => (i.size, i.zero.isSome)) = some (cs.length, true)) (hpos : 0 < cs.length) (hs : cs.length ≤ 2 ^ 24)
    (h : K (a.put o.dst (.slice (some ⟨w.heap.size, 0, none⟩) 1 1)) (w.alloc (.cells cs.toArray e))) : o.wp P a w K Q := by
  cases hie : P.info? e with
  | none => simp [hie] at hi
  | some ie =>
    simp only [hie, Option.map_some, Option.some.injEq, Prod.mk.injEq] at hi
    obtain ⟨z, hz⟩ := Option.isSome_iff_exists.1 hi.2
    refine wp_buildSlice t e 1 #[(0, x)] ho cs.toArray ie z hu hie hz (by rw [hi.1]; omega) (by rw [hi.1]; omega) ?_ h
    have e1 : (#[(0, x)].map fun (i, x) => (i, a.eval x)).toList = [(0, .agg cs.toArray)] := by simp [hx]
    rw [e1]
    obtain ⟨q, hq⟩ : ∃ q : List Value, ((Array.range (1 * ie.size)).map (z.cells[· % z.cells.size]!)) = ([] ++ q ++ []).toArray := ⟨((Array.range (1 * ie.size)).map (z.cells[· % z.cells.size]!)).toList, by rw [List.nil_append, List.append_nil, Array.toArray_toList]⟩
    have hql : q.length = cs.length := by
      have := congrArg Array.size hq
      simp at this
      omega
    rw [hq, fill_one _ [] q [] cs [] 0 (by simp [hi.1]) hql]
    simp [Instr.fill]
theorem wp_mapUpdate_in {H : Type} (m x v : Operand) (t : TypeId) (hop : o.op = Op.mapUpdate t m x v)
    (k e : TypeId) (KK : Maps.Keyed P k) (ht : P.underlying t = some (.map k e)) (R : Value → Option (DataW H × List MemPlace)) (b n : Nat) (D : DataW H)
    (hm : a.eval m = .map (some b)) (hown : w.ownsMap P k R b n D) (hn : n < maxLen) (key val : Value) (kl : Lit) (hx : a.eval x = key) (hv : a.eval v = val) (hkey : keyOf P k key = some kl)
    (d : DataW H) (ps : List MemPlace) (hval : R val = some (d, ps))
    (hK : ∀ w', w'.ownsMap P k R b (n + 1) (D.put kl d) → w.mapTurned w' b → K (a.put o.dst undef) w') : o.wp P a w K Q := by
  obtain ⟨w', hrun, r1, r2⟩ := hown.store KK ht hn hkey hval
  unfold Oper.wp
  simp [execOp, hop, hm, hx, hv, hrun, Result.andThen]
  exact hK w' r1 r2
theorem wp_delete_own {H : Type} (m x : Operand) (t k : TypeId) (hop : o.op = Op.call { callee := Callee.builtin Builtin.delete, args := #[m, x], argTypes := #[t, k] })
    (e : TypeId) (KK : Maps.Keyed P k) (ht : P.underlying t = some (.map k e)) (R : Value → Option (DataW H × List MemPlace)) (b n : Nat) (D : DataW H)
    (hm : a.eval m = .map (some b)) (hown : w.ownsMap P k R b n D) (key : Value) (kl : Lit) (hx : a.eval x = key) (hkey : keyOf P k key = some kl)
    (hK : ∀ w', w'.ownsMap P k R b n (D.del kl) → w.mapTurned w' b → K (a.put o.dst (.tuple #[])) w') : o.wp P a w K Q := by
  obtain ⟨w', hrun, r1, r2⟩ := hown.drop KK ht hkey o.type
  unfold Oper.wp
  simp [execOp, hop, resolve, invoke, builtin, hm, hx, hrun, Result.andThen]
  exact hK w' r1 r2
end

theorem updA_len (all : AL (List UInt8)) (u : UpM) : (updA all u).length ≤ all.length + 1 := by
  unfold updA
  have h1 := putA_length all u.name u.new
  split
  · have := delA_length (putA all u.name u.new) u.name
    omega
  · exact h1
theorem foldU_len (us : List UpM) : ∀ all : AL (List UInt8), (us.foldl updA all).length ≤ all.length + us.length := by
  induction us with
  | nil => intro all; simp
  | cons u us ih =>
    intro all
    have h1 := ih (updA all u)
    have h2 := updA_len all u
    rw [List.foldl_cons, List.length_cons]
    omega
theorem updA_ids {all : AL (List UInt8)} {u : UpM} (h : ∀ p ∈ all, p.2.length = 32) (hu : u.new.length = 32) : ∀ p ∈ updA all u, p.2.length = 32 := by
  have h1 : ∀ p ∈ putA all u.name u.new, p.2.length = 32 := fun p hp => by
    rcases insA_mem.1 hp with rfl | hp
    · exact hu
    · exact h p (delA_mem.1 hp).1
  unfold updA
  split
  · exact fun p hp => h1 p (delA_mem.1 hp).1
  · exact h1
theorem updA_rises {all : AL (List UInt8)} (h : risesA all) (u : UpM) : risesA (updA all u) := by
  unfold updA
  split
  · exact risesA_del (risesA_put h _ _) _
  · exact risesA_put h _ _
theorem foldU_ids (us : List UpM) (hu : ∀ u ∈ us, upOk u) : ∀ all : AL (List UInt8), (∀ p ∈ all, p.2.length = 32) → ∀ p ∈ us.foldl updA all, p.2.length = 32 := by
  induction us with
  | nil => intro all h; exact h
  | cons u us ih =>
    intro all h
    rw [List.foldl_cons]
    exact ih (fun x hx => hu x (by simp [hx])) _ (updA_ids h (hu u (by simp)).2.1)
theorem foldU_rises (us : List UpM) : ∀ all : AL (List UInt8), risesA all → risesA (us.foldl updA all) := by
  induction us with
  | nil => intro all h; exact h
  | cons u us ih =>
    intro all h
    rw [List.foldl_cons]
    exact ih _ (updA_rises h u)
theorem makeR_ok {r : RfM} {t : TxM} (h : RfOk r) (ht : TxOk t) : RfOk (makeR r t) := by
  refine ⟨?_, foldU_ids t.us ht.us _ h.ids, fun u hu => ?_, foldU_rises t.us _ h.rn, ?_⟩
  · unfold makeR
    dsimp only
    split
    · rfl
    · split
      · exact ht.al
      · exact h.al
  · rcases List.mem_append.1 hu with hu | hu
    · exact h.log u hu
    · exact ht.us u hu
  · unfold makeR
    dsimp only
    split
    · exact ht.hd
    · split
      · simp
      · exact h.hd

section

variable {N gr g : Nat} {w w' : World} {r : RfM} {q : QA}

theorem cells_ne_map {b c : Nat} {cs : Array Value} {t : TypeId} {fr : Nat × Nat} {es : Array MapEntry} {cl : Nat} (h : w.heap[b]? = some (.cells cs t fr)) (k : w.heap[c]? = some (.map es cl)) : b ≠ c := by
  rintro rfl
  rw [h] at k
  cases k
theorem RfIn.gr_ne (h : RfIn N w gr g r q) : gr ≠ q.mb := by
  obtain ⟨es, clock, h1, _⟩ := h.map
  exact cells_ne_map h.row h1
theorem RfIn.log_ne (h : RfIn N w gr g r q) : q.lv.ownBlock ≠ some q.mb ∧ q.lv.ownBlock ≠ some gr := by
  obtain ⟨es, clock, h1, _⟩ := h.map
  constructor
  · intro e
    obtain ⟨cs, fr, h2⟩ := own_ty h.log e
    exact cells_ne_map h2 h1 rfl
  · intro e
    obtain ⟨cs, fr, h2⟩ := own_ty h.log e
    rw [h.row] at h2
    cases h2
/-- the map is turned -/
theorem RfIn.mapSet (h : RfIn N w gr g r q) (all' : AL (List UInt8)) (hg : w.grownBy w' (some q.mb)) (ho : w'.ownsMap Tryz.prog 9 idR q.mb all'.length (mapA idD all')) : RfIn N w' gr g { r with all := all' } q := by
  refine ⟨(hg.block _ (h.foot_lt (.inl rfl)) (by simpa using h.gr_ne)).trans h.row, ho, own_keep h.log (fun b hb hl => hg.block b hl (by rw [← hb]; exact h.log_ne.1)), h.base⟩
/-- the log's row is another one -/
theorem RfIn.logSet (h : RfIn N w gr g r q) (ha : r.at_.length = 32) (log' : List UpM) (lv' : Value) (hr : w'.heap[gr]? = some (.cells ((rowR g q r).toArray.setIfInBounds 35 lv') 83 (0, 0)))
    (hm : w'.heap[q.mb]? = w.heap[q.mb]?) (ho : w'.ownsRow N 31 65 lv' log'.length (upsC log')) : RfIn N w' gr g { r with log := log' } { q with lv := lv' } := by
  refine ⟨?_, ?_, ho, h.base⟩
  · rw [hr]
    have hl : (b8s r.at_).length = 32 := by rw [b8s_length, ha]
    have e : (rowR g q r).toArray.setIfInBounds 35 lv' = (rowR g { q with lv := lv' } { r with log := log' }).toArray := by
      rw [List.setIfInBounds_toArray]
      congr 1
      unfold rowR
      rw [List.set_cons_succ, List.set_cons_succ, List.set_cons_succ, List.set_append_right _ _ (by omega), hl]
      rfl
    rw [e]
  · obtain ⟨es, clock, h1, h2⟩ := h.map
    exact ⟨es, clock, hm.trans h1, h2⟩
end

end Go.Proofs.YtelbofikcpchiaaGreat
