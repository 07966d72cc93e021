
/- Letters as values: what lies in memory; lists of rows; two refs held against each other. -/

import Derived.Test.YtfjfidhhmidflaaName4

import Derived.Test.YtfjfidhhmidflaaEncReadK

import Derived.Test.YtfjfidhhmidflaaInV

import Derived.Test.YtfjfidhhmidflaaIdCmp

import Derived.Test.YtfjfidhhmidflaaClone

import Derived.Test.YtfjfidhhmidflaaEncSum

import Derived.Test.YtfjfidhhmidflaaSchedT

import Derived.Laws.Cover1

namespace Go.Proofs.Ytfjfidhhmidflaa

set_option linter.unusedVariables false

set_option linter.unusedSimpArgs false

open Go.RowKit

/-! ### lists of rows -/

section

variable {α : Type} {f : α → List Value} {m : Nat}

theorem flat_length (xs : List α) (h : ∀ x ∈ xs, (f x).length = m) : (xs.flatMap f).length = xs.length * m := by
  induction xs with
  | nil => simp
  | cons x xs ih =>
    have h1 := h x (by simp)
    have h2 := ih (fun y hy => h y (by simp [hy]))
    rw [List.flatMap_cons, List.length_append, h1, h2, List.length_cons, Nat.succ_mul]
    omega
theorem flat_get (xs : List α) (h : ∀ x ∈ xs, (f x).length = m) : ∀ (i : Nat) (hi : i < xs.length) (j : Nat) (u : Value), (f xs[i])[j]? = some u → (xs.flatMap f)[i * m + j]? = some u := by
  induction xs with
  | nil => intro i hi; simp at hi
  | cons x xs ih =>
    intro i hi j u hu
    have h1 := h x (by simp)
    rw [List.flatMap_cons]
    cases i with
    | zero =>
      have hj := (List.getElem?_eq_some_iff.1 hu).1
      rw [Nat.zero_mul, Nat.zero_add, List.getElem?_append_left (by simpa using hj)]
      exact hu
    | succ i =>
      rw [List.getElem?_append_right (by rw [h1, Nat.succ_mul]; omega), h1, show (i + 1) * m + j - m = i * m + j by rw [Nat.succ_mul]; omega]
      exact ih (fun y hy => h y (by simp [hy])) i (by simpa using hi) j u hu
/-- the i-th row of a list in memory -/
theorem rd_flat {w : World} {b off : Nat} {xs : List α} (hr : Rd w (some ⟨b, off, none⟩) (xs.flatMap f)) (h : ∀ x ∈ xs, (f x).length = m) (i : Nat) (hi : i < xs.length) : w.rangeAt b (off + i * m) (f xs[i]) := by
  intro j v hv
  obtain ⟨b', o', he, hc⟩ := hr _ _ (flat_get xs h i hi j v hv)
  cases he
  rw [Nat.add_assoc]
  exact hc
theorem flat_one (xs : List α) (h : ∀ x ∈ xs, ∀ v ∈ f x, v.oneCell' = true) : ∀ v ∈ xs.flatMap f, v.oneCell' = true := by
  intro v hv
  obtain ⟨x, hx, hv⟩ := List.mem_flatMap.1 hv
  exact h x hx v hv
end

/-! ### refs, IDs -/

structure RefM where
  name : ByteArray
  id : List UInt8
deriving DecidableEq
def RefM.cells (r : RefM) : List Value := .string r.name :: b8s r.id
def RefM.ok (r : RefM) : Prop := r.id.length = 32 ∧ r.name.size ≤ 9223372036854775807
theorem RefM.len {r : RefM} (h : r.ok) : r.cells.length = 33 := by simp [RefM.cells, b8s_length, h.1]
theorem RefM.one (r : RefM) : ∀ v ∈ r.cells, v.oneCell' = true := by
  intro v hv
  rcases List.mem_cons.1 hv with rfl | hv
  · rfl
  · exact b8s_one' _ v hv
def rfc (rs : List RefM) : List Value := rs.flatMap RefM.cells
def idc (ids : List (List UInt8)) : List Value := ids.flatMap b8s
def rOk (rs : List RefM) : Prop := ∀ r ∈ rs, r.ok
def iOk (ids : List (List UInt8)) : Prop := ∀ i ∈ ids, i.length = 32
theorem rfc_length {rs : List RefM} (h : rOk rs) : (rfc rs).length = rs.length * 33 := flat_length rs (fun r hr => RefM.len (h r hr))
theorem idc_length {ids : List (List UInt8)} (h : iOk ids) : (idc ids).length = ids.length * 32 := flat_length ids (fun i hi => by rw [b8s_length]; exact h i hi)
theorem rd_ref {w : World} {b off : Nat} {rs : List RefM} (hr : Rd w (some ⟨b, off, none⟩) (rfc rs)) (h : rOk rs) (i : Nat) (hi : i < rs.length) : w.rangeAt b (off + i * 33) rs[i].cells := rd_flat hr (fun r hr => RefM.len (h r hr)) i hi
theorem rd_id {w : World} {b off : Nat} {ids : List (List UInt8)} (hr : Rd w (some ⟨b, off, none⟩) (idc ids)) (h : iOk ids) (i : Nat) (hi : i < ids.length) : w.rangeAt b (off + i * 32) (b8s ids[i]) := rd_flat hr (fun r hr => by rw [b8s_length]; exact h r hr) i hi
theorem iOk_get {ids : List (List UInt8)} (h : iOk ids) (i : Nat) (hi : i < ids.length) : ids[i].length = 32 := h _ (List.getElem_mem hi)
theorem rOk_get {rs : List RefM} (h : rOk rs) (i : Nat) (hi : i < rs.length) : rs[i].ok := h _ (List.getElem_mem hi)

/-! ### letters -/

structure Lt where
  kind : Int
  from_ : Int
  to_ : Int
  session : Int
  refs : List RefM
  wants : List (List UInt8)
  haves : List (List UInt8)
  off : Int
  total : Int
  pack : List UInt8
  data : List UInt8
/-- where a letter's lists lie -/
structure LtP where
  rA : Option Addr
  rc : Nat
  wA : Option Addr
  wc : Nat
  hA : Option Addr
  hc : Nat
  dA : Option Addr
  dc : Nat
def Lt.cells (l : Lt) (p : LtP) : List Value := [.int .i64 l.kind, .int .i64 l.from_, .int .i64 l.to_, .int .i64 l.session, .slice p.rA l.refs.length p.rc, .slice p.wA l.wants.length p.wc, .slice p.hA l.haves.length p.hc, .int .i64 l.off, .int .i64 l.total] ++ (b8s l.pack ++ [.slice p.dA l.data.length p.dc])
def Lt.val (l : Lt) (p : LtP) : Value := .agg (l.cells p).toArray
structure LtIn (w : World) (l : Lt) (p : LtP) : Prop where
  len : l.pack.length = 32
  rok : rOk l.refs
  wok : iOk l.wants
  hok : iOk l.haves
  rr : Rd w p.rA (rfc l.refs) ∧ l.refs.length ≤ p.rc ∧ p.rc ≤ 9223372036854775807
  wr : Rd w p.wA (idc l.wants) ∧ l.wants.length ≤ p.wc ∧ p.wc ≤ 9223372036854775807
  hr : Rd w p.hA (idc l.haves) ∧ l.haves.length ≤ p.hc ∧ p.hc ≤ 9223372036854775807
  dr : Rd w p.dA (b8s l.data) ∧ l.data.length ≤ p.dc ∧ p.dc ≤ 9223372036854775807
theorem LtIn.below {w w' : World} {l : Lt} {p : LtP} (h : LtIn w l p) (hb : Below w.heap.size w w') : LtIn w' l p :=
  ⟨h.len, h.rok, h.wok, h.hok, ⟨h.rr.1.below hb, h.rr.2⟩, ⟨h.wr.1.below hb, h.wr.2⟩, ⟨h.hr.1.below hb, h.hr.2⟩, ⟨h.dr.1.below hb, h.dr.2⟩⟩
theorem Lt.cells_len (l : Lt) (p : LtP) (h : l.pack.length = 32) : (l.cells p).length = 42 := by simp [Lt.cells, b8s, h]
theorem Lt.cells_one (l : Lt) (p : LtP) : ∀ v ∈ l.cells p, v.oneCell' = true := by
  intro v hv
  simp only [Lt.cells, List.mem_append, List.mem_cons, List.not_mem_nil, or_false] at hv
  rcases hv with (rfl | rfl | rfl | rfl | rfl | rfl | rfl | rfl | rfl) | hv | rfl
  · rfl
  · rfl
  · rfl
  · rfl
  · rfl
  · rfl
  · rfl
  · rfl
  · rfl
  · exact b8s_one' _ v hv
  · rfl
/-- a letter's row, cell by cell -/
theorem ltRow_of {w : World} {g : Nat} {l : Lt} {p : LtP} {t : TypeId} (h : w.heap[g]? = some (.cells (l.cells p).toArray t (0, 0))) (hl : l.pack.length = 32) :
    w.cell? ⟨g, 0, none⟩ = some (.int .i64 l.kind) ∧ w.cell? ⟨g, 1, none⟩ = some (.int .i64 l.from_) ∧ w.cell? ⟨g, 2, none⟩ = some (.int .i64 l.to_) ∧ w.cell? ⟨g, 3, none⟩ = some (.int .i64 l.session) ∧
    w.cell? ⟨g, 4, none⟩ = some (.slice p.rA l.refs.length p.rc) ∧ w.cell? ⟨g, 5, none⟩ = some (.slice p.wA l.wants.length p.wc) ∧ w.cell? ⟨g, 6, none⟩ = some (.slice p.hA l.haves.length p.hc) ∧
    w.cell? ⟨g, 7, none⟩ = some (.int .i64 l.off) ∧ w.cell? ⟨g, 8, none⟩ = some (.int .i64 l.total) ∧ w.cell? ⟨g, 41, none⟩ = some (.slice p.dA l.data.length p.dc) ∧ w.rangeAt g 9 (b8s l.pack) := by
  have hc : ∀ i, w.cell? ⟨g, i, none⟩ = (l.cells p)[i]? := fun i => by rw [row_cell h]; simp
  refine ⟨by rw [hc]; rfl, by rw [hc]; rfl, by rw [hc]; rfl, by rw [hc]; rfl, by rw [hc]; rfl, by rw [hc]; rfl, by rw [hc]; rfl, by rw [hc]; rfl, by rw [hc]; rfl, ?_, fun j v hv => ?_⟩
  · rw [hc]
    unfold Lt.cells
    rw [List.getElem?_append_right (by simp)]
    simp only [List.length_cons, List.length_nil]
    rw [List.getElem?_append_right (by rw [b8s_length, hl]; decide), b8s_length, hl]
    rfl
  · rw [hc]
    have hj : j < (b8s l.pack).length := (List.getElem?_eq_some_iff.1 hv).1
    unfold Lt.cells
    rw [List.getElem?_append_right (by simp)]
    simp only [List.length_cons, List.length_nil]
    rw [show 9 + j - (0 + 1 + 1 + 1 + 1 + 1 + 1 + 1 + 1 + 1) = j by omega, List.getElem?_append_left hj]
    exact hv

section

variable {P : Program} {ops : Array Oper} {rest : List Oper} {op : Oper} {a : Act} {w : World} {Q : Exit → Act → World → Prop}

theorem wpList_load_cells (ty : TypeId) (x : Operand) (g off : Nat) (cs : List Value) (hs : w.rangeAt g off cs) {d : TypeDesc} (hu : P.underlying ty = some d) (hd : d.isRow = true) (hi : (P.info? ty).map (·.size) = some cs.length)
    (hw : Region.wanted op (yielded ops a.tmps) = true) (ho : op.op = .load ty x) (hx : a.eval x = .pointer (some ⟨g, off, none⟩))
    (h : wpList P ops Q rest (a.put op.dst (.agg cs.toArray)) w) : wpList P ops Q (op :: rest) a w :=
  wpList_wanted hw fun _ hK => wp_load_mid ty x ho g off hx cs d hs hu hd hi (hK _ _ h)
end

/-! ### rows -/

/-- a row, made and written whole -/
theorem row_place {w : World} (t : TypeId) (zs vs : List Value) (hl : zs.length = vs.length) : ∃ Wa W5, w.alloc (.cells zs.toArray t) = Wa ∧ Wa.setCells w.heap.size 0 vs.toArray.toList = W5 ∧ Hid (Wa.there w.heap.size 0 vs.toArray.size) ∧ Hid (W5.heap[w.heap.size]? = some (.cells vs.toArray t (0, 0))) ∧ Hid (Below w.heap.size w W5) := by
  have hrow : (w.alloc (.cells zs.toArray t)).heap[w.heap.size]? = some (.cells zs.toArray t (0, 0)) := heap_alloc_new w _
  have hb : Below w.heap.size w (w.alloc (.cells zs.toArray t)) := (Below.refl _ _).alloc (Nat.le_refl _) _
  refine ⟨_, _, rfl, rfl, Lib.hid ?_, Lib.hid ?_, Lib.hid (bel_grown hb hb.size (setCells_grown _ _ _ _) (Nat.le_refl _))⟩
  · have := there_of_row hrow
    simpa [hl] using this
  · simpa using row_setAll (cs := zs) (vs := vs) hrow hl
theorem range_below {w w' : World} {g off : Nat} {cs : List Value} (h : w.rangeAt g off cs) (hg : g < w.heap.size) (hb : Below w.heap.size w w') : w'.rangeAt g off cs := fun j v hv =>
  (World.cell?_of_block (a := ⟨g, off + j, none⟩) (hb.block g hg)).trans (h j v hv)
theorem cell_below {w w' : World} {g off : Nat} {v : Value} (h : w.cell? ⟨g, off, none⟩ = some v) (hg : g < w.heap.size) (hb : Below w.heap.size w w') : w'.cell? ⟨g, off, none⟩ = some v :=
  (World.cell?_of_block (a := ⟨g, off, none⟩) (hb.block g hg)).trans h

theorem arr_write {w0 w : World} {g N : Nat} {old new : List UInt8} {t : TypeId} (h : w.heap[g]? = some (.cells (b8s old).toArray t (0, 0))) (ho : old.length = new.length) (hb : Below N w0 w) (hN : N ≤ w.heap.size) (hg : N ≤ g) :
    ∃ W, w.setCells g 0 (b8s new).toArray.toList = W ∧ Hid (w.there g 0 (b8s new).toArray.size) ∧ Hid (W.heap[g]? = some (.cells (b8s new).toArray t (0, 0))) ∧ Hid (Below N w0 W) := by
  have hs : (b8s new).toArray.size = (b8s old).toArray.size := by simp [b8s, ho]
  exact ⟨_, rfl, Lib.hid (by rw [hs]; exact there_of_row h), Lib.hid (row_setAll h (by rw [b8s_length, b8s_length, ho])), Lib.hid (bel_grown hb hN (setCells_grown _ _ _ _) hg)⟩

theorem results_row1 {P : Program} {fn : Func} {p : Tmp} {ty : TypeId} (h : fn.results = #[.cell p ty]) (tmps : Array Value) (w : World) (g : Nat) (t : TypeId) (cs : Array Value) (fr : Nat × Nat) (d : TypeDesc)
    (hp : tmps.getD p undef = .pointer (some ⟨g, 0, none⟩)) (hg : w.heap[g]? = some (.cells cs t fr))
    (hu : P.underlying ty = some d) (hd : (match d with | .struct _ | .array _ _ => true | _ => false) = true) (hi : (P.info? ty).map (·.size) = some cs.size) :
    (results fn tmps).run P w = .ok (.agg cs) w := by
  have hp' : tmps[p]?.getD undef = .pointer (some ⟨g, 0, none⟩) := by simpa using hp
  simp [results, h, hp', asAddr, run_loadVar_row w g t ty cs fr d hg hu hd hi]
section

variable {P : Program} {ops : Array Oper} {S : World → Prop} {Q : Exit → Act → World → Prop} {r : List (Bool × Nat)} {a : Act} {w : World}

theorem oneCell_cells {v : Value} (h : v.oneCell' = true) : v.cells = #[v] := by cases v <;> first | rfl | cases h
theorem run_storeVar_cell (w : World) (b o : Nat) (ty : TypeId) (v u : Value) (h1 : v.oneCell' = true) (hc : w.cell? ⟨b, o, none⟩ = some u) (hf : w.frozen? ⟨b, o, none⟩ = false) (hi : (P.info? ty).map (·.size) = some 1) :
    (storeVar ty ⟨b, o, none⟩ v).run P w = .ok () (w.setCell ⟨b, o, none⟩ v) := by
  have hk1 : ∀ j, j < [v].length → (w.cell? ⟨b, o + 0 + j, none⟩).isSome = true := by
    intro j hj
    have : j = 0 := by simpa using hj
    subst this
    simp [hc]
  have hk2 : ∀ j, j < [v].length → w.frozen? ⟨b, o + 0 + j, none⟩ = false := by
    intro j hj
    have : j = 0 := by simpa using hj
    subst this
    simpa using hf
  have := run_storeCells_cells (P := P) b o [v] 0 w hk1 hk2 (fun x hx => by simp at hx; subst hx; exact h1)
  cases hq : P.info? ty with
  | none => simp [hq] at hi
  | some i =>
    have hs : i.size = 1 := by simpa [hq] using hi
    simp only [Nat.add_zero] at this
    simp [storeVar, sizeOf, typeInfo, hq, oneCell_cells h1, hs, this, World.setCells]
/-- a store of one cell in a region that draws its order -/
theorem wpS_store_cell {i : Nat} (o : Oper) (ho : ops[i]? = some o) (hw : Region.wanted o (yielded ops a.tmps) = true) (ty : TypeId) (x y : Operand) (hop : o.op = .store ty x y)
    (b off : Nat) (hx : a.eval x = .pointer (some ⟨b, off, none⟩)) (v : Value) (hy : a.eval y = v) (h1 : v.oneCell' = true) (u : Value) (hc : w.cell? ⟨b, off, none⟩ = some u) (hf : w.frozen? ⟨b, off, none⟩ = false)
    (hi : (P.info? ty).map (·.size) = some 1) (hS : S (w.setCell ⟨b, off, none⟩ v)) (h : wpS P ops S Q r (a.put o.dst undef) (w.setCell ⟨b, off, none⟩ v)) : wpS P ops S Q ((false, i) :: r) a w :=
  wpS_do o ho hw fun K hK => by
    unfold Oper.wp execOp
    simp only [hop, hx, hy, Instr.storeAt, Instr.sureAddr, Sem.run_bind, Sem.run_pure, Result.andThen_ok, run_storeVar_cell w b off ty v u h1 hc hf hi]
    exact hK.out _ _ hS (fun _ => h)
/-- a store of a row in a region that draws its order -/
theorem wpS_store_mid {i : Nat} (o : Oper) (ho : ops[i]? = some o) (hw : Region.wanted o (yielded ops a.tmps) = true) (ty : TypeId) (x y : Operand) (hop : o.op = .store ty x y)
    (b off : Nat) (cells : Array Value) (hx : a.eval x = .pointer (some ⟨b, off, none⟩)) (hy : a.eval y = .agg cells) (ht : w.there b off cells.size) (hi : (P.info? ty).map (·.size) = some cells.size) (h1 : cells.all (·.oneCell') = true)
    (hS : S (w.setCells b off cells.toList)) (h : wpS P ops S Q r (a.put o.dst undef) (w.setCells b off cells.toList)) : wpS P ops S Q ((false, i) :: r) a w :=
  wpS_do o ho hw fun K hK => wp_store_mid ty x y hop b off cells hx hy ht hi h1 (hK.out _ _ hS (fun _ => h))
end

/-! ### held against each other -/

section

variable {P : Program}

theorem part_arr {e : TypeId} {n : Nat} {el : TypeId} {i : TypeInfo} (w : World) (he : P.underlying e = some (.array n el)) (hi : P.info? e = some i) (hc : P.cellsOf e = 32) (s : Value) (d : List UInt8) (h : d.length = 32) :
    (Go.part e (s :: b8s d).toArray 1).run P w = .ok (.agg (b8s d).toArray) w := by
  have e1 : ((s :: b8s d).toArray.extract 1 (1 + 32)) = (b8s d).toArray := by
    rw [← Array.toList_inj]
    simp only [Array.toList_extract, List.extract]
    rw [List.drop_succ_cons, List.drop_zero, show 1 + 32 - 1 = (b8s d).length by rw [b8s_length, h], List.take_length]
  simp only [Go.part, isAgg, Sem.run_bind, run_underlying he, Result.andThen_ok, Sem.run_pure, if_true, run_sizeOf w hi, hc, e1]
end

end Go.Proofs.Ytfjfidhhmidflaa
