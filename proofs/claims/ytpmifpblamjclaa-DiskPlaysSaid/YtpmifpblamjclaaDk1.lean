
/- A disk in memory: its row, its names' maps, its turns, its files; what of memory is its own. -/

import Derived.Test.YtpmifpblamjclaaDkM

import Derived.Test.YtpmifpblamjclaaGen

import Derived.Test.YtpmifpblamjclaaRef01

import Derived.Maps.OwnOps

import Derived.Maps.Ext

import Derived.Maps.RangeWalk

namespace Go.Proofs.Ytpmifpblamjclaa

set_option linter.unusedVariables false

set_option linter.unusedSimpArgs false

set_option linter.unusedSectionVars false

open Go.RowKit

open Go.Maps (Keyed)

theorem keyed_str : Keyed Try.prog 9 := Maps.string_keyed Try.underlying9
/-- how a pointer to a file reads: its row's number -/
def ptrR : Value → Option (DataW Unit × List MemPlace)
  | .pointer none => some (.nil, [])
  | .pointer (some ⟨g, 0, none⟩) => some (.lit (.int .i64 (g : Int)), [])
  | _ => none
theorem ptrR_inv {v : Value} {g : Nat} {ps : List MemPlace} (h : ptrR v = some (.lit (.int .i64 (g : Int)), ps)) : v = .pointer (some ⟨g, 0, none⟩) := by
  unfold ptrR at h
  split at h
  · cases h
  · rename_i g'
    simp only [Option.some.injEq, Prod.mk.injEq, DataW.lit.injEq, Lit.int.injEq, true_and] at h
    have : g' = g := by have := h.1; omega
    rw [this]
  · cases h
theorem ptrR_nil {v : Value} {ps : List MemPlace} (h : ptrR v = some (.nil, ps)) : v = .pointer none := by
  unfold ptrR at h
  split at h
  · rfl
  · cases h
  · cases h
def strV (s : List UInt8) : Value := .string ⟨s.toArray⟩
/-- a pointer to a file's row -/
def ptrV (bs : List Nat) (f : Nat) : Value := .pointer (some ⟨bs.getD f 0, 0, none⟩)
theorem ptrV_R (bs : List Nat) (f : Nat) : ptrR (ptrV bs f) = some (fileD bs f, []) := rfl
/-- a turn's cells -/
def turnC (bs : List Nat) (t : TM) : List Value := [strV t.fr, strV t.to_, if t.to_ = [] then .pointer none else ptrV bs t.f]
def turnsC (bs : List Nat) (ts : List TM) : List Value := ts.flatMap (turnC bs)
theorem turnsC_app (bs : List Nat) (ts us : List TM) : turnsC bs (ts ++ us) = turnsC bs ts ++ turnsC bs us := by simp [turnsC]
theorem turnsC_len (bs : List Nat) (ts : List TM) : (turnsC bs ts).length = ts.length * 3 := flat_length ts (fun _ _ => rfl)
/-- where a disk's parts lie -/
structure DA where
  mb : Nat
  sb : Nat
  tv : Value
  bs : List Nat
  vs : List Value
def rowD (m : DM) (d : DA) : Array Value := #[.map (some d.mb), .map (some d.sb), d.tv, .int .i64 (m.most : Int), .int .i64 (m.fuse : Int), .bool m.down]
structure DiskIn (N : Nat) (w : World) (g : Nat) (m : DM) (d : DA) : Prop where
  row : w.heap[g]? = some (.cells (rowD m d) 69 (0, 0))
  now : w.ownsMap Try.prog 9 ptrR d.mb m.now.length (namesD d.bs m.now)
  sure : w.ownsMap Try.prog 9 ptrR d.sb m.sure.length (namesD d.bs m.sure)
  turns : w.ownsRow N 77 3 d.tv m.turns.length (turnsC d.bs m.turns)
  lb : d.bs.length = m.files.length
  lv : d.vs.length = m.files.length
  file : ∀ (i : Nat) (b : Nat) (v : Value) (f : FM), d.bs[i]? = some b → d.vs[i]? = some v → m.files[i]? = some f →
    w.heap[b]? = some (.cells #[v, .int .i64 (f.safe : Int)] 75 (0, 0)) ∧ w.ownsRow N 5 1 v f.b.length (b8s f.b)
  nb : d.bs.Nodup
  nv : ∀ (i j : Nat) (v v' : Value), i ≠ j → d.vs[i]? = some v → d.vs[j]? = some v' → v.ownBlock = none ∨ v.ownBlock ≠ v'.ownBlock
  ne : d.mb ≠ d.sb
  base : N ≤ g ∧ N ≤ d.mb ∧ N ≤ d.sb ∧ ∀ b ∈ d.bs, N ≤ b
/-- the blocks that are the disk's own -/
def foot (g : Nat) (d : DA) (b : Nat) : Prop := b = g ∨ b = d.mb ∨ b = d.sb ∨ some b = d.tv.ownBlock ∨ b ∈ d.bs ∨ ∃ v ∈ d.vs, some b = v.ownBlock
/-- memory but for some blocks is as it was -/
structure Frm (F : Nat → Prop) (w w' : World) : Prop where
  os : w'.os = w.os
  tape : w'.tape = w.tape
  output : w'.output = w.output
  size : w.heap.size ≤ w'.heap.size
  block : ∀ i, i < w.heap.size → ¬ F i → w'.heap[i]? = w.heap[i]?
theorem Frm.refl (F : Nat → Prop) (w : World) : Frm F w w := ⟨rfl, rfl, rfl, Nat.le_refl _, fun _ _ _ => rfl⟩
theorem Frm.trans {F G : Nat → Prop} {a b c : World} (h : Frm F a b) (k : Frm G b c) (hG : ∀ i, G i → F i ∨ a.heap.size ≤ i) : Frm F a c :=
  ⟨k.os.trans h.os, k.tape.trans h.tape, k.output.trans h.output, Nat.le_trans h.size k.size, fun i hi hF => (k.block i (Nat.lt_of_lt_of_le hi h.size) (fun e => by rcases hG i e with h1 | h1; exact hF h1; omega)).trans (h.block i hi hF)⟩
theorem Frm.below {F : Nat → Prop} {w w' : World} {N : Nat} (h : Frm F w w') (hN : N ≤ w.heap.size) (hF : ∀ i, F i → N ≤ i) : Below N w w' :=
  ⟨h.os, h.tape, h.output, h.size, fun i hi => h.block i (by omega) (fun e => by have := hF i e; omega)⟩
theorem Frm.of_below {F : Nat → Prop} {w w' : World} (h : Below w.heap.size w w') : Frm F w w' := ⟨h.os, h.tape, h.output, h.size, fun i hi _ => h.block i hi⟩
theorem Frm.of_grown {F : Nat → Prop} {w w' : World} {r : Option Nat} (h : w.grownBy w' r) (hr : ∀ k, r = some k → F k ∨ w.heap.size ≤ k) : Frm F w w' :=
  ⟨h.os, h.tape, h.output, h.size, fun i hi hF => h.block i hi (fun e => by rcases hr i e.symm with h1 | h1; exact hF h1; omega)⟩
theorem Frm.of_cell {F : Nat → Prop} {w : World} {g j : Nat} {v : Value} (hg : F g) : Frm F w (w.setCell ⟨g, j, none⟩ v) :=
  ⟨rfl, rfl, rfl, by simp [World.setCell], fun i _ hF => Below.heap_setCell _ _ _ _ (fun e => hF (by rw [show i = g from e]; exact hg))⟩
theorem Frm.drew {F : Nat → Prop} {w w' : World} (h : Frm F w w') : Frm F w w'.drew := ⟨h.os, h.tape, h.output, h.size, h.block⟩

section

variable {N g : Nat} {w w' : World} {m : DM} {d : DA}

theorem DiskIn.foot_ge (h : DiskIn N w g m d) {b : Nat} (hf : foot g d b) : N ≤ b := by
  rcases hf with rfl | rfl | rfl | hf | hf | ⟨v, hv, hf⟩
  · exact h.base.1
  · exact h.base.2.1
  · exact h.base.2.2.1
  · exact (h.turns.lt b hf.symm).1
  · exact h.base.2.2.2 b hf
  · obtain ⟨i, hi, rfl⟩ := List.getElem_of_mem hv
    have h1 := h.lb
    have h2 := h.lv
    exact ((h.file i (d.bs[i]'(by omega)) _ (m.files[i]'(by omega)) (List.getElem?_eq_getElem _) (List.getElem?_eq_getElem _) (List.getElem?_eq_getElem _)).2.lt b hf.symm).1
theorem DiskIn.foot_lt (h : DiskIn N w g m d) {b : Nat} (hf : foot g d b) : b < w.heap.size := by
  rcases hf with rfl | rfl | rfl | hf | hf | ⟨v, hv, hf⟩
  · exact (Array.getElem?_eq_some_iff.1 h.row).1
  · exact h.now.lt
  · exact h.sure.lt
  · exact (h.turns.lt b hf.symm).2
  · obtain ⟨i, hi, rfl⟩ := List.getElem_of_mem hf
    have h1 := h.lb
    have h2 := h.lv
    exact (Array.getElem?_eq_some_iff.1 (h.file i _ (d.vs[i]'(by omega)) (m.files[i]'(by omega)) (List.getElem?_eq_getElem _) (List.getElem?_eq_getElem _) (List.getElem?_eq_getElem _)).1).1
  · obtain ⟨i, hi, rfl⟩ := List.getElem_of_mem hv
    have h1 := h.lb
    have h2 := h.lv
    exact ((h.file i (d.bs[i]'(by omega)) _ (m.files[i]'(by omega)) (List.getElem?_eq_getElem _) (List.getElem?_eq_getElem _) (List.getElem?_eq_getElem _)).2.lt b hf.symm).2
/-- the disk stays while other blocks turn -/
theorem DiskIn.keep (h : DiskIn N w g m d) (hk : ∀ b, foot g d b → w'.heap[b]? = w.heap[b]?) : DiskIn N w' g m d := by
  have hm : ∀ (b n : Nat) (D : DataW Unit), foot g d b → w.ownsMap Try.prog 9 ptrR b n D → w'.ownsMap Try.prog 9 ptrR b n D := fun b n D hb ho => by
    obtain ⟨es, clock, h1, h2⟩ := ho
    exact ⟨es, clock, (hk b hb).trans h1, h2⟩
  refine ⟨(hk g (.inl rfl)).trans h.row, hm _ _ _ (.inr (.inl rfl)) h.now, hm _ _ _ (.inr (.inr (.inl rfl))) h.sure, own_keep h.turns (fun b hb _ => hk b (.inr (.inr (.inr (.inl hb.symm))))), h.lb, h.lv, ?_, h.nb, h.nv, h.ne, h.base⟩
  intro i b v f h1 h2 h3
  obtain ⟨k1, k2⟩ := h.file i b v f h1 h2 h3
  exact ⟨(hk b (.inr (.inr (.inr (.inr (.inl (List.mem_of_getElem? h1))))))).trans k1, own_keep k2 (fun c hc _ => hk c (.inr (.inr (.inr (.inr (.inr ⟨v, List.mem_of_getElem? h2, hc.symm⟩))))))⟩
theorem DiskIn.below (h : DiskIn N w g m d) (hb : Below w.heap.size w w') : DiskIn N w' g m d := h.keep fun b hf => hb.block b (h.foot_lt hf)
theorem DiskIn.frm {F : Nat → Prop} (h : DiskIn N w g m d) (hb : Frm F w w') (hF : ∀ b, foot g d b → ¬ F b) : DiskIn N w' g m d := h.keep fun b hf => hb.block b (h.foot_lt hf) (hF b hf)
theorem DiskIn.drew (h : DiskIn N w g m d) : DiskIn N w.drew g m d := h.keep fun _ _ => rfl
theorem DiskIn.row_of (h : DiskIn N w g m d) {i : Nat} {f : FM} (hf : m.files[i]? = some f) : ∃ b v, d.bs[i]? = some b ∧ d.vs[i]? = some v ∧ d.bs.getD i 0 = b ∧ w.heap[b]? = some (.cells #[v, .int .i64 (f.safe : Int)] 75 (0, 0)) ∧ w.ownsRow N 5 1 v f.b.length (b8s f.b) := by
  have hi := (List.getElem?_eq_some_iff.1 hf).1
  have h1 := h.lb
  have h2 := h.lv
  refine ⟨d.bs[i]'(by omega), d.vs[i]'(by omega), List.getElem?_eq_getElem _, List.getElem?_eq_getElem _, ?_, h.file i _ _ f (List.getElem?_eq_getElem _) (List.getElem?_eq_getElem _) hf⟩
  simp [List.getD, show i < d.bs.length by omega]
/-- of what type a block's cells are -/
def tyAt (w : World) (b : Nat) (t : TypeId) : Prop := ∃ cs fr, w.heap[b]? = some (.cells cs t fr)
theorem tyAt_ne {w : World} {b c : Nat} {t u : TypeId} (h : tyAt w b t) (k : tyAt w c u) (hn : t ≠ u) : b ≠ c := by
  rintro rfl
  obtain ⟨cs, fr, h⟩ := h
  obtain ⟨cs', fr', k⟩ := k
  rw [h] at k
  cases k
  exact hn rfl
theorem own_ty {w : World} {base : Nat} {e : TypeId} {size : Nat} {v : Value} {n : Nat} {xs : List Value} {b : Nat} (h : w.ownsRow base e size v n xs) (hb : v.ownBlock = some b) : tyAt w b e := by
  rcases h.2 with ⟨rfl, _⟩ | ⟨g, cap, cur, rfl, _, hg, _⟩
  · cases hb
  · have : g = b := by simpa [Value.ownBlock] using hb
    subst this
    exact ⟨_, _, hg⟩
theorem map_ty {w : World} {b c n : Nat} {t : TypeId} {D : DataW Unit} (h : w.ownsMap Try.prog 9 ptrR b n D) (k : tyAt w c t) : b ≠ c := by
  rintro rfl
  obtain ⟨es, clock, h, _⟩ := h
  obtain ⟨cs, fr, k⟩ := k
  rw [h] at k
  cases k
theorem DiskIn.ty_g (h : DiskIn N w g m d) : tyAt w g 69 := ⟨_, _, h.row⟩
theorem DiskIn.ty_b (h : DiskIn N w g m d) {b : Nat} (hb : b ∈ d.bs) : tyAt w b 75 := by
  obtain ⟨i, hi, rfl⟩ := List.getElem_of_mem hb
  have h1 := h.lb
  have h2 := h.lv
  exact ⟨_, _, (h.file i _ (d.vs[i]'(by omega)) (m.files[i]'(by omega)) (List.getElem?_eq_getElem _) (List.getElem?_eq_getElem _) (List.getElem?_eq_getElem _)).1⟩
theorem DiskIn.ty_v (h : DiskIn N w g m d) {v : Value} {b : Nat} (hv : v ∈ d.vs) (hb : v.ownBlock = some b) : tyAt w b 5 := by
  obtain ⟨i, hi, rfl⟩ := List.getElem_of_mem hv
  have h1 := h.lb
  have h2 := h.lv
  exact own_ty (h.file i (d.bs[i]'(by omega)) _ (m.files[i]'(by omega)) (List.getElem?_eq_getElem _) (List.getElem?_eq_getElem _) (List.getElem?_eq_getElem _)).2 hb
theorem DiskIn.ty_t (h : DiskIn N w g m d) {b : Nat} (hb : d.tv.ownBlock = some b) : tyAt w b 77 := own_ty h.turns hb
/-- the disk's own row is written -/
theorem DiskIn.setG (h : DiskIn N w g m d) {m' : DM} {d' : DA} (hr : w'.heap[g]? = some (.cells (rowD m' d') 69 (0, 0))) (hk : ∀ b, foot g d' b → b ≠ g → w'.heap[b]? = w.heap[b]?)
    (hd : d'.bs = d.bs ∧ d'.vs = d.vs) (hf : m'.files = m.files)
    (hnow : w.ownsMap Try.prog 9 ptrR d'.mb m'.now.length (namesD d.bs m'.now)) (hsure : w.ownsMap Try.prog 9 ptrR d'.sb m'.sure.length (namesD d.bs m'.sure))
    (hturns : w.ownsRow N 77 3 d'.tv m'.turns.length (turnsC d.bs m'.turns)) (hne : d'.mb ≠ d'.sb) (hb1 : N ≤ d'.mb) (hb2 : N ≤ d'.sb) : DiskIn N w' g m' d' := by
  obtain ⟨e1, e2⟩ := hd
  have hm : ∀ (b n : Nat) (D : DataW Unit), foot g d' b → w.ownsMap Try.prog 9 ptrR b n D → w'.ownsMap Try.prog 9 ptrR b n D := fun b n D hb ho => by
    have hne := map_ty ho h.ty_g
    obtain ⟨es, clock, h1, h2⟩ := ho
    exact ⟨es, clock, (hk b hb hne).trans h1, h2⟩
  refine ⟨hr, by rw [e1]; exact hm _ _ _ (.inr (.inl rfl)) hnow, by rw [e1]; exact hm _ _ _ (.inr (.inr (.inl rfl))) hsure, ?_, by rw [e1, hf]; exact h.lb, by rw [e2, hf]; exact h.lv, ?_, by rw [e1]; exact h.nb, by rw [e2]; exact h.nv, hne, ⟨h.base.1, hb1, hb2, by rw [e1]; exact h.base.2.2.2⟩⟩
  · rw [e1]
    exact own_keep hturns (fun b hb _ => hk b (.inr (.inr (.inr (.inl hb.symm)))) (tyAt_ne (own_ty hturns hb) h.ty_g (by decide)))
  · rw [e1, e2, hf]
    intro i b v f h1 h2 h3
    obtain ⟨k1, k2⟩ := h.file i b v f h1 h2 h3
    have hb : b ∈ d.bs := List.mem_of_getElem? h1
    have hv : v ∈ d.vs := List.mem_of_getElem? h2
    exact ⟨(hk b (.inr (.inr (.inr (.inr (.inl (by rw [e1]; exact hb)))))) (tyAt_ne (h.ty_b hb) h.ty_g (by decide))).trans k1, own_keep k2 (fun c hc _ => hk c (.inr (.inr (.inr (.inr (.inr ⟨v, by rw [e2]; exact hv, hc.symm⟩))))) (tyAt_ne (h.ty_v hv hc) h.ty_g (by decide)))⟩
/-- a cell of the disk's row is written, nothing of its maps, turns, files -/
theorem DiskIn.cellG (h : DiskIn N w g m d) {m' : DM} (j : Nat) (v : Value) (hr : (rowD m d).set! j v = rowD m' d) (hf : m'.files = m.files ∧ m'.now = m.now ∧ m'.sure = m.sure ∧ m'.turns = m.turns) : DiskIn N (w.setCell ⟨g, j, none⟩ v) g m' d := by
  obtain ⟨f1, f2, f3, f4⟩ := hf
  refine h.setG ?_ (fun b _ hb => Below.heap_setCell _ _ _ _ hb) ⟨rfl, rfl⟩ f1 (by rw [f2]; exact h.now) (by rw [f3]; exact h.sure) (by rw [f4]; exact h.turns) h.ne h.base.2.1 h.base.2.2.1
  have := h.row
  simp only [World.setCell, Array.getElem?_modify, this, if_true, Option.map_some]
  rw [← hr]
  rfl
end

end Go.Proofs.Ytpmifpblamjclaa
