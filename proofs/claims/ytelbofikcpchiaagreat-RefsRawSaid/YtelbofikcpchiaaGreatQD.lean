/- A disk's turn. (With the texts that it stands on.) -/
import Derived.Test.YtelbofikcpchiaaGreatProg
import Derived.Test.YtelbofikcpchiaaGreatBase
import Derived.MapViews
import Derived.WideShapes
import Derived.ChangeMaps
import Derived.Maps.OwnSet
import Derived.Sort.KeysCollected
import Derived.Test.YtelbofikcpchiaaGreatQA
import Derived.Maps.OwnOps
import Derived.Maps.Ext
import Derived.Maps.RangeWalk
namespace Go.Proofs.YtelbofikcpchiaaGreat
open Go.ChangeMaps (putKey delKey notKey)
abbrev NM := List (List UInt8 × Nat)
structure FM where
 b : List UInt8
 safe : Nat
deriving DecidableEq, Inhabited
structure TM where
 fr : List UInt8
 to_ : List UInt8
 f : Nat
deriving DecidableEq, Inhabited
structure DM where
 files : List FM
 now : NM
 sure : NM
 turns : List TM
 most : Nat
 fuse : Nat
 down : Bool
deriving DecidableEq, Inhabited
def insN (x : List UInt8 × Nat) : NM → NM
 | [] => [x]
 | y :: r => if bytesBefore x.1 y.1 then x :: y :: r else y :: insN x r
def delN (ns : NM) (s : List UInt8) : NM := ns.filter fun p => !(p.1 == s)
def putN (ns : NM) (s : List UInt8) (f : Nat) : NM := insN (s, f) (delN ns s)
def findN (ns : NM) (s : List UInt8) : Option Nat := (ns.find? fun p => p.1 == s).map (·.2)
def doN (ns : NM) (t : TM) : NM :=
 let r := if t.fr = [] then ns else delN ns t.fr
 if t.to_ = [] then r else putN r t.to_ t.f
def namedB (s : List UInt8) : Bool := decide (1 ≤ s.length) && decide (s.length ≤ 100)
def newM (room : Int) : DM := ⟨[], [], [], [], (max room 0).toNat, 0, false⟩
def stepM (m : DM) : DM × Int :=
 if 0 < m.fuse then
  if m.fuse = 1 then ({ m with fuse := 0, down := true }, 50) else ({ m with fuse := m.fuse - 1 }, 0)
 else (m, 0)
def turnM (m : DM) (t : TM) : DM × Int :=
 let r := stepM m
 if r.2 = 0 then ({ r.1 with now := doN r.1.now t, turns := r.1.turns ++ [t] }, 0) else r
def findM (m : DM) (s : List UInt8) : Option Nat × Int :=
 if m.down then (none, 50) else match findN m.now s with
  | none => (none, 4)
  | some f => (some f, 0)
def fileM (m : DM) (f : Nat) : FM := m.files.getD f ⟨[], 0⟩
def lenN (m : DM) (ns : NM) : Nat := (ns.map fun p => (fileM m p.2).b.length).sum
def roomM (m : DM) : Nat := m.most - lenN m m.now
def createM (m : DM) (s : List UInt8) : DM × Int :=
 if m.down then (m, 50)
 else if namedB s = false then (m, 1)
 else if (findN m.now s).isSome then (m, 5)
 else if 4096 ≤ m.now.length then (m, 3)
 else if (stepM m).2 = 0 then (turnM { m with files := m.files ++ [⟨[], 0⟩] } ⟨[], s, m.files.length⟩) else stepM m
def setF (m : DM) (f : Nat) (x : FM) : DM := { m with files := m.files.set f x }
def appendM (m : DM) (s : List UInt8) (b : List UInt8) : DM × Int :=
 match findM m s with
 | (none, e) => (m, e)
 | (some f, _) =>
   if roomM m < b.length then (m, 51)
   else if (stepM m).2 = 0 then (setF (stepM m).1 f ⟨(fileM m f).b ++ b, (fileM m f).safe⟩, 0) else stepM m
def syncM (m : DM) (s : List UInt8) : DM × Int :=
 match findM m s with
 | (none, e) => (m, e)
 | (some f, _) => if (stepM m).2 = 0 then (setF (stepM m).1 f ⟨(fileM m f).b, (fileM m f).b.length⟩, 0) else stepM m
def renameM (m : DM) (fr to_ : List UInt8) : DM × Int :=
 if m.down = false ∧ namedB to_ = false then (m, 1)
 else match findM m fr with
 | (none, e) => (m, e)
 | (some f, _) => turnM m ⟨fr, to_, f⟩
def removeM (m : DM) (s : List UInt8) : DM × Int :=
 match findM m s with
 | (none, e) => (m, e)
 | (some f, _) => turnM m ⟨s, [], f⟩
def flushM (m : DM) : DM × Int :=
 if m.down then (m, 50)
 else if (stepM m).2 = 0 then ({ (stepM m).1 with sure := m.now, turns := [] }, 0) else stepM m
def readM (m : DM) (s : List UInt8) : List UInt8 × Int :=
 match findM m s with
 | (none, e) => ([], e)
 | (some f, _) => ((fileM m f).b, 0)
def failM (m : DM) (n : Int) : DM := { m with fuse := (max n 0).toNat }
def cutM : NM → List Int → DM → DM
 | [], _, m => m
 | p :: ns, keep, m =>
   let x := fileM m p.2
   let loose := x.b.length - x.safe
   if loose = 0 then cutM ns keep m
   else
    let k := match keep with
     | [] => 0
     | z :: _ => (min (max z 0) loose).toNat
    cutM ns keep.tail (setF m p.2 ⟨x.b.take (x.safe + k), x.safe + k⟩)
def crashM (m : DM) (turns : Int) (keep : List Int) : DM :=
 let k := (min (max turns 0) m.turns.length).toNat
 let sure := (m.turns.take k).foldl doN m.sure
 cutM sure keep { m with down := false, fuse := 0, sure := sure, now := sure, turns := [] }
def fileD (bs : List Nat) (f : Nat) : DataW Unit := .lit (.int .i64 ((bs.getD f 0 : Nat) : Int))
def entD (bs : List Nat) (p : List UInt8 × Nat) : Lit × DataW Unit := (.string p.1, fileD bs p.2)
def namesD (bs : List Nat) (ns : NM) : DataW Unit := .map (ns.map (entD bs))
theorem insN_D (bs : List Nat) (x : List UInt8 × Nat) (ns : NM) : (insN x ns).map (entD bs) = DataW.insert (entD bs x) (ns.map (entD bs)) := by
 induction ns with
 | nil => rfl
 | cons y r ih =>
   simp only [insN, List.map_cons, DataW.insert]
   have e : (entD bs x).1.before (entD bs y).1 = bytesBefore x.1 y.1 := rfl
   rw [e]
   split
   ·rfl
   ·rw [List.map_cons, ih]
theorem delN_D (bs : List Nat) (ns : NM) (s : List UInt8) : (delN ns s).map (entD bs) = (ns.map (entD bs)).filter (fun p => !p.1.sameKey (.string s)) := by
 unfold delN
 rw [List.filter_map]
 rfl
theorem namesD_del (bs : List Nat) (ns : NM) (s : List UInt8) : (namesD bs ns).del (.string s) = namesD bs (delN ns s) := by
 unfold namesD DataW.del
 rw [delN_D]
theorem namesD_put (bs : List Nat) (ns : NM) (s : List UInt8) (f : Nat) : (namesD bs ns).put (.string s) (fileD bs f) = namesD bs (putN ns s f) := by
 unfold namesD DataW.put putN
 rw [insN_D, delN_D]
 rfl
theorem namesD_at (bs : List Nat) (ns : NM) (s : List UInt8) (z : DataW Unit) : (namesD bs ns).atKey (.string s) z = ((findN ns s).map (fileD bs)).getD z := by
 unfold namesD DataW.atKey findN
 simp only [List.find?_map]
 have e : ((fun p : Lit × DataW Unit => p.1.sameKey (.string s)) ∘ entD bs) = fun p => p.1 == s := rfl
 rw [e]
 cases ns.find? (fun p => p.1 == s) <;> rfl
theorem namesD_size (bs : List Nat) (ns : NM) : Maps.size (namesD bs ns) = ns.length := by
 simp [Maps.size, namesD]
theorem insN_length (x : List UInt8 × Nat) (ns : NM) : (insN x ns).length = ns.length + 1 := by
 induction ns with
 | nil => rfl
 | cons y r ih => simp only [insN]; split <;> simp [ih]
theorem delN_length (ns : NM) (s : List UInt8) : (delN ns s).length ≤ ns.length := List.length_filter_le _ _
theorem putN_length (ns : NM) (s : List UInt8) (f : Nat) : (putN ns s f).length ≤ ns.length + 1 := by
 unfold putN
 rw [insN_length]
 have := delN_length ns s
 omega
theorem insN_mem {x p : List UInt8 × Nat} {ns : NM} : p ∈ insN x ns ↔ p = x ∨ p ∈ ns := by
 induction ns with
 | nil => simp [insN]
 | cons y r ih =>
   simp only [insN]
   split
   ·simp
   ·simp only [List.mem_cons, ih]
    constructor
    ·rintro (h | h | h)
     ·exact .inr (.inl h)
     ·exact .inl h
     ·exact .inr (.inr h)
    ·rintro (h | h | h)
     ·exact .inr (.inl h)
     ·exact .inl h
     ·exact .inr (.inr h)
theorem delN_mem {p : List UInt8 × Nat} {ns : NM} {s : List UInt8} : p ∈ delN ns s ↔ p ∈ ns ∧ p.1 ≠ s := by
 simp [delN]
def risesN (ns : NM) : Prop := ns.Pairwise fun p q => bytesBefore p.1 q.1 = true
theorem risesN_del {ns : NM} (h : risesN ns) (s : List UInt8) : risesN (delN ns s) := h.filter _
theorem risesN_ins {ns : NM} (h : risesN ns) {x : List UInt8 × Nat} (hx : ∀ p ∈ ns, p.1 ≠ x.1) : risesN (insN x ns) := by
 induction ns with
 | nil => simp [insN, risesN]
 | cons y r ih =>
   simp only [insN]
   have h1 := List.pairwise_cons.1 h
   split
   ·rename_i hb
    refine List.pairwise_cons.2 ⟨fun p hp => ?_, h⟩
    rcases List.mem_cons.1 hp with rfl | hp
    ·exact hb
    ·exact WideShapes.bytes_trans _ _ _ hb (h1.1 p hp)
   ·rename_i hb
    refine List.pairwise_cons.2 ⟨fun p hp => ?_, ih h1.2 (fun p hp => hx p (List.mem_cons_of_mem _ hp))⟩
    rcases insN_mem.1 hp with rfl | hp
    ·rcases WideAt.bytes_total y.1 p.1 (hx y (by simp)) with h | h
     ·exact h
     ·exact absurd h hb
    ·exact h1.1 p hp
theorem risesN_put {ns : NM} (h : risesN ns) (s : List UInt8) (f : Nat) : risesN (putN ns s f) :=
 risesN_ins (risesN_del h s) (fun p hp => (delN_mem.1 hp).2)
theorem risesN_do {ns : NM} (h : risesN ns) (t : TM) : risesN (doN ns t) := by
 unfold doN
 dsimp only
 split
 ·split
  ·exact h
  ·exact risesN_del h _
 ·split
  ·exact risesN_put h _ _
  ·exact risesN_put (risesN_del h _) _ _
open Go.RowKit
open Go.Maps (Keyed)
theorem keyed_str : Keyed Tryz.prog 9 := Maps.string_keyed Tryz.underlying9
def ptrR : Value → Option (DataW Unit × List MemPlace)
 | .pointer none => some (.nil, [])
 | .pointer (some ⟨g, 0, none⟩) => some (.lit (.int .i64 (g : Int)), [])
 | _ => none
theorem ptrR_inv {v : Value} {g : Nat} {ps : List MemPlace} (h : ptrR v = some (.lit (.int .i64 (g : Int)), ps)) : v = .pointer (some ⟨g, 0, none⟩) := by
 unfold ptrR at h
 split at h
 ·cases h
 ·rename_i g'
  simp only [Option.some.injEq, Prod.mk.injEq, DataW.lit.injEq, Lit.int.injEq, true_and] at h
  have : g' = g := by have := h.1; omega
  rw [this]
 ·cases h
theorem ptrR_nil {v : Value} {ps : List MemPlace} (h : ptrR v = some (.nil, ps)) : v = .pointer none := by
 unfold ptrR at h
 split at h
 ·rfl
 ·cases h
 ·cases h
def strV (s : List UInt8) : Value := .string ⟨s.toArray⟩
def ptrV (bs : List Nat) (f : Nat) : Value := .pointer (some ⟨bs.getD f 0, 0, none⟩)
def turnC (bs : List Nat) (t : TM) : List Value := [strV t.fr, strV t.to_, if t.to_ = [] then .pointer none else ptrV bs t.f]
def turnsC (bs : List Nat) (ts : List TM) : List Value := ts.flatMap (turnC bs)
theorem turnsC_app (bs : List Nat) (ts us : List TM) : turnsC bs (ts ++ us) = turnsC bs ts ++ turnsC bs us := by simp [turnsC]
theorem turnsC_len (bs : List Nat) (ts : List TM) : (turnsC bs ts).length = ts.length * 3 := flat_length ts (fun _ _ => rfl)
structure DA where
 mb : Nat
 sb : Nat
 tv : Value
 bs : List Nat
 vs : List Value
def rowD (m : DM) (d : DA) : Array Value := #[.map (some d.mb), .map (some d.sb), d.tv, .int .i64 (m.most : Int), .int .i64 (m.fuse : Int), .bool m.down]
structure DiskIn (N : Nat) (w : World) (g : Nat) (m : DM) (d : DA) : Prop where
 row : w.heap[g]? = some (.cells (rowD m d) 80 (0, 0))
 now : w.ownsMap Tryz.prog 9 ptrR d.mb m.now.length (namesD d.bs m.now)
 sure : w.ownsMap Tryz.prog 9 ptrR d.sb m.sure.length (namesD d.bs m.sure)
 turns : w.ownsRow N 114 3 d.tv m.turns.length (turnsC d.bs m.turns)
 lb : d.bs.length = m.files.length
 lv : d.vs.length = m.files.length
 file : ∀ (i : Nat) (b : Nat) (v : Value) (f : FM), d.bs[i]? = some b → d.vs[i]? = some v → m.files[i]? = some f →
  w.heap[b]? = some (.cells #[v, .int .i64 (f.safe : Int)] 112 (0, 0)) ∧ w.ownsRow N 5 1 v f.b.length (b8s f.b)
 nb : d.bs.Nodup
 nv : ∀ (i j : Nat) (v v' : Value), i ≠ j → d.vs[i]? = some v → d.vs[j]? = some v' → v.ownBlock = none ∨ v.ownBlock ≠ v'.ownBlock
 ne : d.mb ≠ d.sb
 base : N ≤ g ∧ N ≤ d.mb ∧ N ≤ d.sb ∧ ∀ b ∈ d.bs, N ≤ b
def foot (g : Nat) (d : DA) (b : Nat) : Prop := b = g ∨ b = d.mb ∨ b = d.sb ∨ some b = d.tv.ownBlock ∨ b ∈ d.bs ∨ ∃ v ∈ d.vs, some b = v.ownBlock
structure Frm (F : Nat → Prop) (w w' : World) : Prop where
 os : w'.os = w.os
 tape : w'.tape = w.tape
 output : w'.output = w.output
 size : w.heap.size ≤ w'.heap.size
 block : ∀ i, i < w.heap.size → ¬ F i → w'.heap[i]? = w.heap[i]?
theorem Frm.refl (F : Nat → Prop) (w : World) : Frm F w w := ⟨rfl, rfl, rfl, Nat.le_refl _, fun _ _ _ => rfl⟩
theorem Frm.trans {F G : Nat → Prop} {a b c : World} (h : Frm F a b) (k : Frm G b c) (hG : ∀ i, G i → F i ∨ a.heap.size ≤ i) : Frm F a c :=
 ⟨k.os.trans h.os, k.tape.trans h.tape, k.output.trans h.output, Nat.le_trans h.size k.size, fun i hi hF => (k.block i (Nat.lt_of_lt_of_le hi h.size) (fun e => by rcases hG i e with h1 | h1; exact hF h1; omega)).trans (h.block i hi hF)⟩
theorem Frm.below {F : Nat → Prop} {w w' : World} {N : Nat} (h : Frm F w w') (hN : N ≤ w.heap.size) (hF : ∀ i, F i → N ≤ i) : Below N w w' :=
 ⟨h.os, h.tape, h.output, h.size, fun i hi => h.block i (by omega) (fun e => by have := hF i e; omega)⟩
theorem Frm.of_below {F : Nat → Prop} {w w' : World} (h : Below w.heap.size w w') : Frm F w w' := ⟨h.os, h.tape, h.output, h.size, fun i hi _ => h.block i hi⟩
theorem Frm.of_grown {F : Nat → Prop} {w w' : World} {r : Option Nat} (h : w.grownBy w' r) (hr : ∀ k, r = some k → F k ∨ w.heap.size ≤ k) : Frm F w w' :=
 ⟨h.os, h.tape, h.output, h.size, fun i hi hF => h.block i hi (fun e => by rcases hr i e.symm with h1 | h1; exact hF h1; omega)⟩
theorem Frm.of_cell {F : Nat → Prop} {w : World} {g j : Nat} {v : Value} (hg : F g) : Frm F w (w.setCell ⟨g, j, none⟩ v) :=
 ⟨rfl, rfl, rfl, by simp [World.setCell], fun i _ hF => Below.heap_setCell _ _ _ _ (fun e => hF (by rw [show i = g from e]; exact hg))⟩
theorem Frm.drew {F : Nat → Prop} {w w' : World} (h : Frm F w w') : Frm F w w'.drew := ⟨h.os, h.tape, h.output, h.size, h.block⟩
set_option linter.unusedSectionVars false
section
variable {N g : Nat} {w w' : World} {m : DM} {d : DA}
theorem DiskIn.foot_ge (h : DiskIn N w g m d) {b : Nat} (hf : foot g d b) : N ≤ b := by
 rcases hf with rfl | rfl | rfl | hf | hf | ⟨v, hv, hf⟩
 ·exact h.base.1
 ·exact h.base.2.1
 ·exact h.base.2.2.1
 ·exact (h.turns.lt b hf.symm).1
 ·exact h.base.2.2.2 b hf
 ·obtain ⟨i, hi, rfl⟩ := List.getElem_of_mem hv
  have h1 := h.lb
  have h2 := h.lv
  exact ((h.file i (d.bs[i]'(by omega)) _ (m.files[i]'(by omega)) (List.getElem?_eq_getElem _) (List.getElem?_eq_getElem _) (List.getElem?_eq_getElem _)).2.lt b hf.symm).1
theorem DiskIn.foot_lt (h : DiskIn N w g m d) {b : Nat} (hf : foot g d b) : b < w.heap.size := by
 rcases hf with rfl | rfl | rfl | hf | hf | ⟨v, hv, hf⟩
 ·exact (Array.getElem?_eq_some_iff.1 h.row).1
 ·exact h.now.lt
 ·exact h.sure.lt
 ·exact (h.turns.lt b hf.symm).2
 ·obtain ⟨i, hi, rfl⟩ := List.getElem_of_mem hf
  have h1 := h.lb
  have h2 := h.lv
  exact (Array.getElem?_eq_some_iff.1 (h.file i _ (d.vs[i]'(by omega)) (m.files[i]'(by omega)) (List.getElem?_eq_getElem _) (List.getElem?_eq_getElem _) (List.getElem?_eq_getElem _)).1).1
 ·obtain ⟨i, hi, rfl⟩ := List.getElem_of_mem hv
  have h1 := h.lb
  have h2 := h.lv
  exact ((h.file i (d.bs[i]'(by omega)) _ (m.files[i]'(by omega)) (List.getElem?_eq_getElem _) (List.getElem?_eq_getElem _) (List.getElem?_eq_getElem _)).2.lt b hf.symm).2
theorem DiskIn.keep (h : DiskIn N w g m d) (hk : ∀ b, foot g d b → w'.heap[b]? = w.heap[b]?) : DiskIn N w' g m d := by
 have hm : ∀ (b n : Nat) (D : DataW Unit), foot g d b → w.ownsMap Tryz.prog 9 ptrR b n D → w'.ownsMap Tryz.prog 9 ptrR b n D := fun b n D hb ho => by
  obtain ⟨es, clock, h1, h2⟩ := ho
  exact ⟨es, clock, (hk b hb).trans h1, h2⟩
 refine ⟨(hk g (.inl rfl)).trans h.row, hm _ _ _ (.inr (.inl rfl)) h.now, hm _ _ _ (.inr (.inr (.inl rfl))) h.sure, own_keep h.turns (fun b hb _ => hk b (.inr (.inr (.inr (.inl hb.symm))))), h.lb, h.lv, ?_, h.nb, h.nv, h.ne, h.base⟩
 intro i b v f h1 h2 h3
 obtain ⟨k1, k2⟩ := h.file i b v f h1 h2 h3
 exact ⟨(hk b (.inr (.inr (.inr (.inr (.inl (List.mem_of_getElem? h1))))))).trans k1, own_keep k2 (fun c hc _ => hk c (.inr (.inr (.inr (.inr (.inr ⟨v, List.mem_of_getElem? h2, hc.symm⟩))))))⟩
theorem DiskIn.below (h : DiskIn N w g m d) (hb : Below w.heap.size w w') : DiskIn N w' g m d := h.keep fun b hf => hb.block b (h.foot_lt hf)
theorem DiskIn.frm {F : Nat → Prop} (h : DiskIn N w g m d) (hb : Frm F w w') (hF : ∀ b, foot g d b → ¬ F b) : DiskIn N w' g m d := h.keep fun b hf => hb.block b (h.foot_lt hf) (hF b hf)
theorem DiskIn.drew (h : DiskIn N w g m d) : DiskIn N w.drew g m d := h.keep fun _ _ => rfl
theorem DiskIn.row_of (h : DiskIn N w g m d) {i : Nat} {f : FM} (hf : m.files[i]? = some f) : ∃ b v, d.bs[i]? = some b ∧ d.vs[i]? = some v ∧ d.bs.getD i 0 = b ∧ w.heap[b]? = some (.cells #[v, .int .i64 (f.safe : Int)] 112 (0, 0)) ∧ w.ownsRow N 5 1 v f.b.length (b8s f.b) := by
 have hi := (List.getElem?_eq_some_iff.1 hf).1
 have h1 := h.lb
 have h2 := h.lv
 refine ⟨d.bs[i]'(by omega), d.vs[i]'(by omega), List.getElem?_eq_getElem _, List.getElem?_eq_getElem _, ?_, h.file i _ _ f (List.getElem?_eq_getElem _) (List.getElem?_eq_getElem _) hf⟩
 simp [List.getD, show i < d.bs.length by omega]
def tyAt (w : World) (b : Nat) (t : TypeId) : Prop := ∃ cs fr, w.heap[b]? = some (.cells cs t fr)
theorem tyAt_ne {w : World} {b c : Nat} {t u : TypeId} (h : tyAt w b t) (k : tyAt w c u) (hn : t ≠ u) : b ≠ c := by
 rintro rfl
 obtain ⟨cs, fr, h⟩ := h
 obtain ⟨cs', fr', k⟩ := k
 rw [h] at k
 cases k
 exact hn rfl
theorem own_ty {w : World} {base : Nat} {e : TypeId} {size : Nat} {v : Value} {n : Nat} {xs : List Value} {b : Nat} (h : w.ownsRow base e size v n xs) (hb : v.ownBlock = some b) : tyAt w b e := by
 rcases h.2 with ⟨rfl, _⟩ | ⟨g, cap, cur, rfl, _, hg, _⟩
 ·cases hb
 ·have : g = b := by simpa [Value.ownBlock] using hb
  subst this
  exact ⟨_, _, hg⟩
theorem map_ty {w : World} {b c n : Nat} {t : TypeId} {D : DataW Unit} (h : w.ownsMap Tryz.prog 9 ptrR b n D) (k : tyAt w c t) : b ≠ c := by
 rintro rfl
 obtain ⟨es, clock, h, _⟩ := h
 obtain ⟨cs, fr, k⟩ := k
 rw [h] at k
 cases k
theorem DiskIn.ty_g (h : DiskIn N w g m d) : tyAt w g 80 := ⟨_, _, h.row⟩
theorem DiskIn.ty_b (h : DiskIn N w g m d) {b : Nat} (hb : b ∈ d.bs) : tyAt w b 112 := by
 obtain ⟨i, hi, rfl⟩ := List.getElem_of_mem hb
 have h1 := h.lb
 have h2 := h.lv
 exact ⟨_, _, (h.file i _ (d.vs[i]'(by omega)) (m.files[i]'(by omega)) (List.getElem?_eq_getElem _) (List.getElem?_eq_getElem _) (List.getElem?_eq_getElem _)).1⟩
theorem DiskIn.ty_v (h : DiskIn N w g m d) {v : Value} {b : Nat} (hv : v ∈ d.vs) (hb : v.ownBlock = some b) : tyAt w b 5 := by
 obtain ⟨i, hi, rfl⟩ := List.getElem_of_mem hv
 have h1 := h.lb
 have h2 := h.lv
 exact own_ty (h.file i (d.bs[i]'(by omega)) _ (m.files[i]'(by omega)) (List.getElem?_eq_getElem _) (List.getElem?_eq_getElem _) (List.getElem?_eq_getElem _)).2 hb
theorem DiskIn.ty_t (h : DiskIn N w g m d) {b : Nat} (hb : d.tv.ownBlock = some b) : tyAt w b 114 := own_ty h.turns hb
theorem DiskIn.setG (h : DiskIn N w g m d) {m' : DM} {d' : DA} (hr : w'.heap[g]? = some (.cells (rowD m' d') 80 (0, 0))) (hk : ∀ b, foot g d' b → b ≠ g → w'.heap[b]? = w.heap[b]?)
  (hd : d'.bs = d.bs ∧ d'.vs = d.vs) (hf : m'.files = m.files)
  (hnow : w.ownsMap Tryz.prog 9 ptrR d'.mb m'.now.length (namesD d.bs m'.now)) (hsure : w.ownsMap Tryz.prog 9 ptrR d'.sb m'.sure.length (namesD d.bs m'.sure))
  (hturns : w.ownsRow N 114 3 d'.tv m'.turns.length (turnsC d.bs m'.turns)) (hne : d'.mb ≠ d'.sb) (hb1 : N ≤ d'.mb) (hb2 : N ≤ d'.sb) : DiskIn N w' g m' d' := by
 obtain ⟨e1, e2⟩ := hd
 have hm : ∀ (b n : Nat) (D : DataW Unit), foot g d' b → w.ownsMap Tryz.prog 9 ptrR b n D → w'.ownsMap Tryz.prog 9 ptrR b n D := fun b n D hb ho => by
  have hne := map_ty ho h.ty_g
  obtain ⟨es, clock, h1, h2⟩ := ho
  exact ⟨es, clock, (hk b hb hne).trans h1, h2⟩
 refine ⟨hr, by rw [e1]; exact hm _ _ _ (.inr (.inl rfl)) hnow, by rw [e1]; exact hm _ _ _ (.inr (.inr (.inl rfl))) hsure, ?_, by rw [e1, hf]; exact h.lb, by rw [e2, hf]; exact h.lv, ?_, by rw [e1]; exact h.nb, by rw [e2]; exact h.nv, hne, ⟨h.base.1, hb1, hb2, by rw [e1]; exact h.base.2.2.2⟩⟩
 ·rw [e1]
  exact own_keep hturns (fun b hb _ => hk b (.inr (.inr (.inr (.inl hb.symm)))) (tyAt_ne (own_ty hturns hb) h.ty_g (by decide)))
 ·rw [e1, e2, hf]
  intro i b v f h1 h2 h3
  obtain ⟨k1, k2⟩ := h.file i b v f h1 h2 h3
  have hb : b ∈ d.bs := List.mem_of_getElem? h1
  have hv : v ∈ d.vs := List.mem_of_getElem? h2
  exact ⟨(hk b (.inr (.inr (.inr (.inr (.inl (by rw [e1]; exact hb)))))) (tyAt_ne (h.ty_b hb) h.ty_g (by decide))).trans k1, own_keep k2 (fun c hc _ => hk c (.inr (.inr (.inr (.inr (.inr ⟨v, by rw [e2]; exact hv, hc.symm⟩))))) (tyAt_ne (h.ty_v hv hc) h.ty_g (by decide)))⟩
theorem DiskIn.cellG (h : DiskIn N w g m d) {m' : DM} (j : Nat) (v : Value) (hr : (rowD m d).set! j v = rowD m' d) (hf : m'.files = m.files ∧ m'.now = m.now ∧ m'.sure = m.sure ∧ m'.turns = m.turns) : DiskIn N (w.setCell ⟨g, j, none⟩ v) g m' d := by
 obtain ⟨f1, f2, f3, f4⟩ := hf
 refine h.setG ?_ (fun b _ hb => Below.heap_setCell _ _ _ _ hb) ⟨rfl, rfl⟩ f1 (by rw [f2]; exact h.now) (by rw [f3]; exact h.sure) (by rw [f4]; exact h.turns) h.ne h.base.2.1 h.base.2.2.1
 have := h.row
 simp only [World.setCell, Array.getElem?_modify, this, if_true, Option.map_some]
 rw [← hr]
 rfl
end
structure Aft (N g : Nat) (w w' : World) (m' : DM) (d d' : DA) : Prop where
 disk : DiskIn N w' g m' d'
 frm : Frm (foot g d) w w'
 ext : ∀ b, foot g d' b → foot g d b ∨ w.heap.size ≤ b
theorem Aft.trans {N g : Nat} {w w1 w2 : World} {m1 m2 : DM} {d d1 d2 : DA} (h : Aft N g w w1 m1 d d1) (k : Aft N g w1 w2 m2 d1 d2) : Aft N g w w2 m2 d d2 :=
 ⟨k.disk, h.frm.trans k.frm h.ext, fun b hb => by rcases k.ext b hb with h1 | h1; exact h.ext b h1; exact .inr (Nat.le_trans h.frm.size h1)⟩
theorem Aft.refl {N g : Nat} {w : World} {m : DM} {d : DA} (h : DiskIn N w g m d) : Aft N g w w m d d := ⟨h, Frm.refl _ _, fun b hb => .inl hb⟩
theorem Aft.below {N g : Nat} {w w1 : World} {m : DM} {d : DA} (h : DiskIn N w g m d) (hb : Below w.heap.size w w1) : Aft N g w w1 m d d := ⟨h.below hb, Frm.of_below hb, fun b hb => .inl hb⟩
theorem Aft.then {N g : Nat} {w w1 w2 : World} {m1 : DM} {d d1 : DA} (h : Aft N g w w1 m1 d d1) (hb : Below w1.heap.size w1 w2) : Aft N g w w2 m1 d d1 := h.trans (Aft.below h.disk hb)
theorem Aft.bel {N g : Nat} {w w1 : World} {m m1 : DM} {d d1 : DA} (h : Aft N g w w1 m1 d d1) (h0 : DiskIn N w g m d) (hN : N ≤ w.heap.size) : Below N w w1 := h.frm.below hN (fun i hi => h0.foot_ge hi)
theorem DiskIn.size {N g : Nat} {w : World} {m : DM} {d : DA} (h : DiskIn N w g m d) : N ≤ w.heap.size := by
 have h1 := h.base.1
 have h2 := (Array.getElem?_eq_some_iff.1 h.row).1
 omega
theorem DiskIn.cells {N g : Nat} {w : World} {m : DM} {d : DA} (h : DiskIn N w g m d) : w.cell? ⟨g, 0, none⟩ = some (.map (some d.mb)) ∧ w.cell? ⟨g, 1, none⟩ = some (.map (some d.sb)) ∧ w.cell? ⟨g, 2, none⟩ = some d.tv ∧ w.cell? ⟨g, 3, none⟩ = some (.int .i64 (m.most : Int)) ∧ w.cell? ⟨g, 4, none⟩ = some (.int .i64 (m.fuse : Int)) ∧ w.cell? ⟨g, 5, none⟩ = some (.bool m.down) :=
 ⟨row_cell h.row 0, row_cell h.row 1, row_cell h.row 2, row_cell h.row 3, row_cell h.row 4, row_cell h.row 5⟩
theorem DiskIn.froz {N g : Nat} {w : World} {m : DM} {d : DA} (h : DiskIn N w g m d) (j : Nat) : w.frozen? ⟨g, j, none⟩ = false := by
 simp [World.frozen?, h.row]
theorem named_any (S : ByteArray) (w : World) : Calls Tryz.prog 47 #[.string S] w fun e w' => e = .returned (.bool (namedB S.data.toList)) ∧ w' = w := by
 have hs := size_toList S
 unfold namedB
 rw [hs]
 by_cases h1 : 1 ≤ S.size
 ·have j1 : (1 : Int) ≤ (S.size : Int) := by omega
  by_cases h2 : S.size ≤ 100
  ·have j2 : (S.size : Int) ≤ 100 := by omega
   go_enter Tryz.func47, Tryz.ntmps47
   go_wp2_with fail
   go_ret
   exact ⟨by simp [h1, h2], rfl⟩
  ·have j2 : ¬ ((S.size : Int) ≤ 100) := by omega
   go_enter Tryz.func47, Tryz.ntmps47
   go_wp2_with fail
   go_ret
   exact ⟨by simp [h1, h2], rfl⟩
 ·have j1 : ¬ ((1 : Int) ≤ (S.size : Int)) := by omega
  go_enter Tryz.func47, Tryz.ntmps47
  go_wp2_with fail
  go_ret
  exact ⟨by simp [h1], rfl⟩
theorem step_any (N g : Nat) (m : DM) (d : DA) (hf : m.fuse ≤ 9223372036854775807) (w : World) (h : DiskIn N w g m d) :
  Calls Tryz.prog 51 #[.pointer (some ⟨g, 0, none⟩)] w fun e w' => e = .returned (.int .i64 (stepM m).2) ∧ Aft N g w w' (stepM m).1 d d := by
 have H := h_ h
 obtain ⟨c0, c1, c2, c3, c4, c5⟩ := h.cells
 have f4 := h.froz 4
 have f5 := h.froz 5
 clear c0 c1 c2 c3 h
 by_cases h0 : 0 < m.fuse
 ·have j0 : (0 : Int) < (m.fuse : Int) := by omega
  by_cases h1 : m.fuse = 1
  ·have e1 : stepM m = ({ m with fuse := 0, down := true }, 50) := by unfold stepM; rw [if_pos h0, if_pos h1]
   rw [e1]
   rw [h1] at c4
   clear h0 j0 e1
   have H1 : Hid (DiskIn N (w.setCell ⟨g, 4, none⟩ (.int .i64 0)) g { m with fuse := 0 } d) := h_ (H.out.cellG 4 _ rfl ⟨rfl, rfl, rfl, rfl⟩)
   have H2 : Hid (DiskIn N ((w.setCell ⟨g, 4, none⟩ (.int .i64 0)).setCell ⟨g, 5, none⟩ (.bool true)) g { m with fuse := 0, down := true } d) := h_ (H1.out.cellG 5 _ rfl ⟨rfl, rfl, rfl, rfl⟩)
   have HF : Hid (Frm (foot g d) w ((w.setCell ⟨g, 4, none⟩ (.int .i64 0)).setCell ⟨g, 5, none⟩ (.bool true))) := h_ ((Frm.of_cell (.inl rfl)).trans (Frm.of_cell (F := foot g d) (.inl rfl)) (fun i hi => .inl hi))
   obtain ⟨W1, hW1⟩ := eX (w.setCell ⟨g, 4, none⟩ (.int .i64 0))
   rw [hW1] at H1 H2 HF
   have d4 : W1.cell? ⟨g, 4, none⟩ = some (.int .i64 0) := H1.out.cells.2.2.2.2.1
   have d5 := H1.out.cells.2.2.2.2.2
   have g5 := H1.out.froz 5
   go_enter Tryz.func51, Tryz.ntmps51
   go_wp2_with fail
   go_ret
   exact ⟨rfl, H2.out, HF.out, fun b hb => .inl hb⟩
  ·have e1 : stepM m = ({ m with fuse := m.fuse - 1 }, 0) := by unfold stepM; rw [if_pos h0, if_neg h1]
   rw [e1]
   obtain ⟨k, hk⟩ : ∃ k, m.fuse = k + 2 := ⟨m.fuse - 2, by omega⟩
   rw [hk] at hf c4 ⊢
   replace c4 : w.cell? ⟨g, 4, none⟩ = some (.int .i64 ((k : Int) + 2)) := c4
   clear h0 h1 e1 j0
   have H1 : Hid (DiskIn N (w.setCell ⟨g, 4, none⟩ (.int .i64 ((k : Int) + 1))) g { m with fuse := k + 2 - 1 } d) := h_ (H.out.cellG 4 _ rfl ⟨rfl, rfl, rfl, rfl⟩)
   have HF : Hid (Frm (foot g d) w (w.setCell ⟨g, 4, none⟩ (.int .i64 ((k : Int) + 1)))) := h_ (Frm.of_cell (.inl rfl))
   obtain ⟨W1, hW1⟩ := eX (w.setCell ⟨g, 4, none⟩ (.int .i64 ((k : Int) + 1)))
   rw [hW1] at H1 HF
   have d4 : W1.cell? ⟨g, 4, none⟩ = some (.int .i64 ((k : Int) + 1)) := H1.out.cells.2.2.2.2.1
   have j0 : (0 : Int) < (k : Int) + 2 := by omega
   have j1 : (k : Int) + 2 - 1 = (k : Int) + 1 := by omega
   have z1 : ((k : Int) + 1 == 0) = false := by rw [beq_eq_false_iff_ne]; omega
   have hw : IntKind.i64.wrap ((k : Int) + 1) = (k : Int) + 1 := by rw [IntKind.wrap_i64]; omega
   go_enter Tryz.func51, Tryz.ntmps51
   go_wp2_with fail
   go_ret
   exact ⟨rfl, H1.out, HF.out, fun b hb => .inl hb⟩
 ·have e1 : stepM m = (m, 0) := by unfold stepM; rw [if_neg h0]
  rw [e1]
  have j0 : ¬ ((0 : Int) < (m.fuse : Int)) := by omega
  clear h0 e1
  go_enter Tryz.func51, Tryz.ntmps51
  go_wp2_with fail
  go_ret
  exact ⟨rfl, Aft.refl H.out⟩
def ptrO (bs : List Nat) : Option Nat → Value
 | none => .pointer none
 | some f => ptrV bs f
theorem look_any {w : World} {b n : Nat} {bs : List Nat} {ns : NM} (h : w.ownsMap Tryz.prog 9 ptrR b n (namesD bs ns)) (S : ByteArray) (hs : S.size ≤ maxLen) :
  (Instr.lookup 77 (.map (some b)) (.string S) false).run Tryz.prog w = .ok (ptrO bs (findN ns S.data.toList)) w := by
 obtain ⟨v, ps, hr, hR⟩ := h.lookup keyed_str Tryz.underlying77 (z := .pointer none) (by kernel_rfl) (zd := .nil) (zp := []) rfl (key := .string S) (kl := .string S.data.toList) (WideMaps.keyOf_string_mk Tryz.underlying9 hs)
 have hv : v = ptrO bs (findN ns S.data.toList) := by
  rw [namesD_at] at hR
  cases hfn : findN ns S.data.toList with
  | none =>
    rw [hfn] at hR
    exact ptrR_nil hR
  | some f =>
    rw [hfn] at hR
    exact ptrR_inv hR
 rw [hr, hv]
set_option maxRecDepth 100000 in
theorem find_any (N g : Nat) (m : DM) (d : DA) (S : ByteArray) (hs : S.size ≤ maxLen) (w : World) (h : DiskIn N w g m d) :
  Calls Tryz.prog 49 #[.pointer (some ⟨g, 0, none⟩), .string S] w fun e w' =>
   e = .returned (.tuple #[ptrO d.bs (findM m S.data.toList).1, .int .i64 (findM m S.data.toList).2]) ∧ w' = w := by
 obtain ⟨c0, c1, c2, c3, c4, c5⟩ := h.cells
 have hlk := look_any h.now S hs
 clear c1 c2 c3 c4 h
 cases hd : m.down with
 | true =>
   have e1 : findM m S.data.toList = (none, 50) := by simp [findM, hd]
   rw [e1]
   rw [hd] at c5
   clear hd e1 hlk
   go_enter Tryz.func49, Tryz.ntmps49
   go_wp2_with fail
   go_ret2
   exact ⟨rfl, rfl⟩
 | false =>
   rw [hd] at c5
   cases hf : findN m.now S.data.toList with
   | none =>
     have e1 : findM m S.data.toList = (none, 4) := by simp [findM, hd, hf]
     rw [e1]
     rw [hf] at hlk
     clear hf e1 hd
     replace hlk : (Instr.lookup 77 (.map (some d.mb)) (.string S) false).run Tryz.prog w = .ok (.pointer none) w := hlk
     go_enter Tryz.func49, Tryz.ntmps49
     go_wp2_with fail
     go_ret2
     exact ⟨rfl, rfl⟩
   | some f =>
     have e1 : findM m S.data.toList = (some f, 0) := by simp [findM, hd, hf]
     rw [e1]
     rw [hf] at hlk
     obtain ⟨b, hb⟩ := eX (d.bs.getD f 0)
     have e2 : ptrO d.bs (some f) = .pointer (some ⟨b, 0, none⟩) := by rw [← hb]; rfl
     rw [e2] at hlk
     show Calls _ _ _ _ fun e w' => e = .returned (.tuple #[ptrO d.bs (some f), .int .i64 0]) ∧ w' = w
     rw [e2]
     clear hf e1 hd hb e2
     go_enter Tryz.func49, Tryz.ntmps49
     go_wp2_with fail
     go_ret2
     exact ⟨rfl, rfl⟩
theorem names_eq (a b : ByteArray) : (a.toList == b.toList) = decide (a = b) := by
 rw [ByteArray.toList_eq, ByteArray.toList_eq]
 by_cases h : a = b
 ·subst h; simp
 ·have h2 : ¬ a.data = b.data := fun e => h (by
   obtain ⟨x⟩ := a
   obtain ⟨y⟩ := b
   simp at e
   rw [e])
  simp [h, h2]
theorem bin_strne {P : Program} {t : TypeId} (ht : P.underlying t = some .string) (x y : ByteArray) (w : World) : (binOp .neq t (.string x) (.string y)).run P w = .ok (.bool (!decide (x = y))) w := by
 have h : (x.toList != y.toList) = !(x.toList == y.toList) := rfl
 simp [binOp, Op.stringOp, go_sem, run_underlying ht, h, names_eq]
theorem ba_ext {x y : ByteArray} (h : x.data.toList = y.data.toList) : x = y := by
 obtain ⟨⟨x⟩⟩ := x
 obtain ⟨⟨y⟩⟩ := y
 have : x = y := h
 rw [this]
theorem empty_list {S : ByteArray} : S.data.toList = [] ↔ S = ⟨#[]⟩ := ⟨fun h => ba_ext h, fun h => by rw [h]⟩
theorem own_exact {w : World} {b n : Nat} {D : DataW Unit} (h : w.ownsMap Tryz.prog 9 ptrR b n D) : w.ownsMap Tryz.prog 9 ptrR b (Maps.size D) D := by
 obtain ⟨es, clock, h1, h2, h3, h4⟩ := h
 refine ⟨es, clock, h1, h2, ?_, h4⟩
 rw [h4]
 show es.size ≤ (List.foldr DataW.insert [] _).length
 rw [length_sorted]
 simp
theorem own_names {w : World} {b n : Nat} {bs : List Nat} {ns : NM} (h : w.ownsMap Tryz.prog 9 ptrR b n (namesD bs ns)) : w.ownsMap Tryz.prog 9 ptrR b ns.length (namesD bs ns) := by
 have := own_exact h
 rwa [namesD_size] at this
set_option maxRecDepth 100000 in
set_option maxHeartbeats 4000000 in
theorem do_any (b n : Nat) (bs : List Nat) (ns : NM) (S T : ByteArray) (p : Option Addr) (f : Nat) (w : World) (h : w.ownsMap Tryz.prog 9 ptrR b n (namesD bs ns)) (hn : n < maxLen) (hS : S.size ≤ maxLen) (hT : T.size ≤ maxLen) (hp : T.data.toList ≠ [] → p = some ⟨bs.getD f 0, 0, none⟩) :
  Calls Tryz.prog 62 #[.map (some b), .agg #[.string S, .string T, .pointer p]] w fun e w' => e = .returned (.tuple #[]) ∧
   w'.ownsMap Tryz.prog 9 ptrR b (doN ns ⟨S.data.toList, T.data.toList, f⟩).length (namesD bs (doN ns ⟨S.data.toList, T.data.toList, f⟩)) ∧ w.grownBy w' (some b) := by
 obtain ⟨W1, hW1⟩ := eX (w.alloc (.cells #[.string S, .string T, .pointer p] 114))
 obtain ⟨r1, b1, s1⟩ := new_row hW1
 have HG1 : Hid (w.grownBy W1 (some b)) := h_ (by rw [← hW1]; exact World.grownBy_alloc _ _ _)
 have HO1 : Hid (W1.ownsMap Tryz.prog 9 ptrR b n (namesD bs ns)) := h_ (by rw [← hW1]; exact h.alloc _)
 have HLT := h_ h.lt
 obtain ⟨k0, k1, k2⟩ := rw3 (h_ r1)
 have HR1 := h_ r1
 have HKS := h_ (WideMaps.keyOf_string_mk (P := Tryz.prog) Tryz.underlying9 hS)
 have HKT := h_ (WideMaps.keyOf_string_mk (P := Tryz.prog) Tryz.underlying9 hT)
 have hbS := bin_strne (P := Tryz.prog) Tryz.underlying9 S ⟨#[]⟩
 have hbT := bin_strne (P := Tryz.prog) Tryz.underlying9 T ⟨#[]⟩
 have HLW : Hid (w.heap.size < W1.heap.size) := h_ (by omega)
 clear r1 b1 s1 h
 by_cases hs : S = ⟨#[]⟩
 ·have hs' : S.data.toList = [] := empty_list.2 hs
  rw [decide_eq_true hs] at hbS
  have zs : S.toList.isEmpty = true := by rw [ByteArray.toList_eq, hs']; rfl
  by_cases ht : T = ⟨#[]⟩
  ·have ht' : T.data.toList = [] := empty_list.2 ht
   rw [decide_eq_true ht] at hbT
   have zt : T.toList.isEmpty = true := by rw [ByteArray.toList_eq, ht']; rfl
   have e1 : doN ns ⟨S.data.toList, T.data.toList, f⟩ = ns := by unfold doN; simp [hs', ht']
   rw [e1]
   clear hs ht e1 hs' ht'
   go_enter Tryz.func62, Tryz.ntmps62
   go_wp2_with fail
   go_end0
   exact ⟨rfl, own_names HO1.out, HG1.out⟩
  ·have ht' : ¬ T.data.toList = [] := fun e => ht (empty_list.1 e)
   rw [decide_eq_false ht] at hbT
   have zt : T.toList.isEmpty = false := by rw [ByteArray.toList_eq, List.isEmpty_eq_false_iff]; exact ht'
   obtain ⟨x, hx⟩ := eX (bs.getD f 0)
   have hpx := hp ht'
   rw [hx] at hpx
   subst hpx
   have HV : Hid (ptrR (.pointer (some ⟨x, 0, none⟩)) = some (fileD bs f, [])) := h_ (by unfold fileD; rw [hx]; rfl)
   have e1 : doN ns ⟨S.data.toList, T.data.toList, f⟩ = putN ns T.data.toList f := by unfold doN; simp [hs', ht']
   rw [e1]
   clear hs ht e1 hs' ht' hp hx
   go_enter Tryz.func62, Tryz.ntmps62
   go_wp2_with (at_mapUpdate; refine wpList_mapUpdate_in _ rfl _ _ _ 77 rfl 9 109 keyed_str Tryz.underlying77 ptrR b n _ rfl HO1.out hn _ _ _ rfl rfl HKT.out (fileD bs f) [] HV.out ?_; intro w2 ho2 hm2; have HO2 := h_ ho2; have HM2 := h_ hm2.grown; clear ho2 hm2)
   go_end0
   refine ⟨rfl, own_names (n := n + 1) ?_, HG1.out.trans HM2.out⟩
   rw [← namesD_put]
   exact HO2.out
 ·have hs' : ¬ S.data.toList = [] := fun e => hs (empty_list.1 e)
  rw [decide_eq_false hs] at hbS
  have zs : S.toList.isEmpty = false := by rw [ByteArray.toList_eq, List.isEmpty_eq_false_iff]; exact hs'
  by_cases ht : T = ⟨#[]⟩
  ·have ht' : T.data.toList = [] := empty_list.2 ht
   rw [decide_eq_true ht] at hbT
   have zt : T.toList.isEmpty = true := by rw [ByteArray.toList_eq, ht']; rfl
   have e1 : doN ns ⟨S.data.toList, T.data.toList, f⟩ = delN ns S.data.toList := by unfold doN; simp [hs', ht']
   rw [e1]
   clear hs ht e1 hs' ht'
   go_enter Tryz.func62, Tryz.ntmps62
   go_wp2_with (at_delete; refine wpList_delete_own _ rfl _ _ 77 9 rfl 109 keyed_str Tryz.underlying77 ptrR b n _ rfl HO1.out _ _ rfl HKS.out ?_; intro w2 ho2 hm2; have HO2 := h_ ho2; have HM2 := h_ hm2.grown; have q1 : w2.cell? ⟨w.heap.size, 1, none⟩ = some (.string T) := (World.cell?_of_block (a := ⟨w.heap.size, 1, none⟩) (hm2.grown.block _ HLW.out (by have := HLT.out; simp; omega))).trans k1; clear ho2 hm2)
   go_end0
   refine ⟨rfl, own_names (n := n) ?_, HG1.out.trans HM2.out⟩
   rw [← namesD_del]
   exact HO2.out
  ·have ht' : ¬ T.data.toList = [] := fun e => ht (empty_list.1 e)
   rw [decide_eq_false ht] at hbT
   have zt : T.toList.isEmpty = false := by rw [ByteArray.toList_eq, List.isEmpty_eq_false_iff]; exact ht'
   obtain ⟨x, hx⟩ := eX (bs.getD f 0)
   have hpx := hp ht'
   rw [hx] at hpx
   subst hpx
   have HV : Hid (ptrR (.pointer (some ⟨x, 0, none⟩)) = some (fileD bs f, [])) := h_ (by unfold fileD; rw [hx]; rfl)
   have e1 : doN ns ⟨S.data.toList, T.data.toList, f⟩ = putN (delN ns S.data.toList) T.data.toList f := by unfold doN; simp [hs', ht']
   rw [e1]
   clear hs ht e1 hs' ht' hp hx
   go_enter Tryz.func62, Tryz.ntmps62
   go_wp2_with (first
    | (at_delete; refine wpList_delete_own _ rfl _ _ 77 9 rfl 109 keyed_str Tryz.underlying77 ptrR b n _ rfl HO1.out _ _ rfl HKS.out ?_; intro w2 ho2 hm2; have HO2 := h_ ho2; have HM2 := h_ hm2.grown; have q1 : w2.cell? ⟨w.heap.size, 1, none⟩ = some (.string T) := (World.cell?_of_block (a := ⟨w.heap.size, 1, none⟩) (hm2.grown.block _ HLW.out (by have := HLT.out; simp; omega))).trans k1; have q2 := (World.cell?_of_block (a := ⟨w.heap.size, 2, none⟩) (hm2.grown.block _ HLW.out (by have := HLT.out; simp; omega))).trans k2; clear ho2 hm2)
    | (at_mapUpdate; refine wpList_mapUpdate_in _ rfl _ _ _ 77 rfl 9 109 keyed_str Tryz.underlying77 ptrR b n _ rfl HO2.out hn _ _ _ rfl rfl HKT.out (fileD bs f) [] HV.out ?_; intro w3 ho3 hm3; have HO3 := h_ ho3; have HM3 := h_ hm3.grown; clear ho3 hm3))
   go_end0
   refine ⟨rfl, own_names (n := n + 1) ?_, (HG1.out.trans HM2.out).trans HM3.out⟩
   rw [← namesD_put, ← namesD_del]
   exact HO3.out
section
variable {N g : Nat} {w w' : World} {m : DM} {d : DA}
theorem grown_frm {F : Nat → Prop} {k : Nat} (h : w.grownBy w' (some k)) (hk : F k) : Frm F w w' := Frm.of_grown h (fun j hj => .inl (by cases hj; exact hk))
theorem DiskIn.nowSet (h : DiskIn N w g m d) (ns : NM) (hg : w.grownBy w' (some d.mb)) (ho : w'.ownsMap Tryz.prog 9 ptrR d.mb ns.length (namesD d.bs ns)) : DiskIn N w' g { m with now := ns } d := by
 have hb : ∀ b, foot g d b → b ≠ d.mb → w'.heap[b]? = w.heap[b]? := fun b hf hn => hg.block b (h.foot_lt hf) (by simpa using hn)
 have h0 := map_ty h.now h.ty_g
 refine ⟨(hb g (.inl rfl) (Ne.symm h0)).trans h.row, ho, h.sure.kept hg (by simpa using Ne.symm h.ne), own_keep h.turns (fun b hv _ => hb b (.inr (.inr (.inr (.inl hv.symm)))) (Ne.symm (map_ty h.now (h.ty_t hv)))), h.lb, h.lv, ?_, h.nb, h.nv, h.ne, h.base⟩
 intro i b v f h1 h2 h3
 obtain ⟨k1, k2⟩ := h.file i b v f h1 h2 h3
 have hbm := List.mem_of_getElem? h1
 have hvm := List.mem_of_getElem? h2
 exact ⟨(hb b (.inr (.inr (.inr (.inr (.inl hbm))))) (Ne.symm (map_ty h.now (h.ty_b hbm)))).trans k1, own_keep k2 (fun c hc _ => hb c (.inr (.inr (.inr (.inr (.inr ⟨v, hvm, hc.symm⟩))))) (Ne.symm (map_ty h.now (h.ty_v hvm hc))))⟩
theorem DiskIn.sureSet (h : DiskIn N w g m d) (ns : NM) (hg : w.grownBy w' (some d.sb)) (ho : w'.ownsMap Tryz.prog 9 ptrR d.sb ns.length (namesD d.bs ns)) : DiskIn N w' g { m with sure := ns } d := by
 have hb : ∀ b, foot g d b → b ≠ d.sb → w'.heap[b]? = w.heap[b]? := fun b hf hn => hg.block b (h.foot_lt hf) (by simpa using hn)
 have h0 := map_ty h.sure h.ty_g
 refine ⟨(hb g (.inl rfl) (Ne.symm h0)).trans h.row, h.now.kept hg (by simpa using h.ne), ho, own_keep h.turns (fun b hv _ => hb b (.inr (.inr (.inr (.inl hv.symm)))) (Ne.symm (map_ty h.sure (h.ty_t hv)))), h.lb, h.lv, ?_, h.nb, h.nv, h.ne, h.base⟩
 intro i b v f h1 h2 h3
 obtain ⟨k1, k2⟩ := h.file i b v f h1 h2 h3
 have hbm := List.mem_of_getElem? h1
 have hvm := List.mem_of_getElem? h2
 exact ⟨(hb b (.inr (.inr (.inr (.inr (.inl hbm))))) (Ne.symm (map_ty h.sure (h.ty_b hbm)))).trans k1, own_keep k2 (fun c hc _ => hb c (.inr (.inr (.inr (.inr (.inr ⟨v, hvm, hc.symm⟩))))) (Ne.symm (map_ty h.sure (h.ty_v hvm hc))))⟩
theorem DiskIn.turnsSet (h : DiskIn N w g m d) (ts : List TM) (tv' : Value) (hg : w.grownBy w' d.tv.ownBlock) (ho : w'.ownsRow N 114 3 tv' ts.length (turnsC d.bs ts)) (hv : tv'.ownBlock = d.tv.ownBlock ∨ tv'.ownBlock = some w.heap.size) :
  DiskIn N (w'.setCell ⟨g, 2, none⟩ tv') g { m with turns := ts } { d with tv := tv' } ∧ Frm (foot g d) w (w'.setCell ⟨g, 2, none⟩ tv') ∧ ∀ b, foot g { d with tv := tv' } b → foot g d b ∨ w.heap.size ≤ b := by
 have hb : ∀ b, b < w.heap.size → some b ≠ d.tv.ownBlock → w'.heap[b]? = w.heap[b]? := fun b hf hn => hg.block b hf hn
 have ht : ∀ b, tyAt w b 114 ∨ some b ≠ d.tv.ownBlock := fun b => by
  by_cases e : some b = d.tv.ownBlock
  ·exact .inl (h.ty_t e.symm)
  ·exact .inr e
 have gb : w'.heap[g]? = w.heap[g]? := hb g (h.foot_lt (.inl rfl)) (fun e => tyAt_ne (h.ty_t e.symm) h.ty_g (by decide) rfl)
 have hG : DiskIn N w' g { m with turns := [] } { d with tv := .slice none 0 0 } ∨ True := .inr trivial
 have key : ∀ b, foot g d b → some b ≠ d.tv.ownBlock → w'.heap[b]? = w.heap[b]? := fun b hf hn => hb b (h.foot_lt hf) hn
 have mk : ∀ {c n : Nat} {D : DataW Unit}, foot g d c → w.ownsMap Tryz.prog 9 ptrR c n D → w'.ownsMap Tryz.prog 9 ptrR c n D := fun hc hm => hm.kept hg (fun e => map_ty hm (h.ty_t e.symm) rfl)
 refine ⟨?_, ⟨hg.os, hg.tape, hg.output, by simp [World.setCell]; exact hg.size, fun i hi hF => ?_⟩, ?_⟩
 ·have hrow : (w'.setCell ⟨g, 2, none⟩ tv').heap[g]? = some (.cells (rowD { m with turns := ts } { d with tv := tv' }) 80 (0, 0)) := by
   have := gb.trans h.row
   simp only [World.setCell, Array.getElem?_modify, this, if_true, Option.map_some]
   rfl
  have hk : ∀ b, b ≠ g → (w'.setCell ⟨g, 2, none⟩ tv').heap[b]? = w'.heap[b]? := fun b hn => Below.heap_setCell _ _ _ _ hn
  have mk2 : ∀ {c n : Nat} {D : DataW Unit}, foot g d c → w.ownsMap Tryz.prog 9 ptrR c n D → (w'.setCell ⟨g, 2, none⟩ tv').ownsMap Tryz.prog 9 ptrR c n D := fun hc hm => by
   have h1 := mk hc hm
   have h2 := map_ty hm h.ty_g
   obtain ⟨es, clock, k1, k2⟩ := h1
   exact ⟨es, clock, (hk _ h2).trans k1, k2⟩
  refine ⟨hrow, mk2 (.inr (.inl rfl)) h.now, mk2 (.inr (.inr (.inl rfl))) h.sure, own_keep ho (fun b hv' _ => hk b ?_), h.lb, h.lv, ?_, h.nb, h.nv, h.ne, h.base⟩
  ·exact tyAt_ne (own_ty ho hv') ⟨_, _, gb.trans h.row⟩ (by decide)
  ·intro i b v f h1 h2 h3
   obtain ⟨k1, k2⟩ := h.file i b v f h1 h2 h3
   have hbm := List.mem_of_getElem? h1
   have hvm := List.mem_of_getElem? h2
   refine ⟨(hk b (tyAt_ne (h.ty_b hbm) h.ty_g (by decide))).trans ((key b (.inr (.inr (.inr (.inr (.inl hbm))))) (fun e => tyAt_ne (h.ty_b hbm) (h.ty_t e.symm) (by decide) rfl)).trans k1), own_keep k2 (fun c hc _ => ?_)⟩
   exact (hk c (tyAt_ne (h.ty_v hvm hc) h.ty_g (by decide))).trans (key c (.inr (.inr (.inr (.inr (.inr ⟨v, hvm, hc.symm⟩))))) (fun e => tyAt_ne (h.ty_v hvm hc) (h.ty_t e.symm) (by decide) rfl))
 ·have hn : i ≠ g := fun e => hF (.inl e)
  rw [Below.heap_setCell _ _ _ _ hn]
  exact hb i hi (fun e => hF (.inr (.inr (.inr (.inl e)))))
 ·intro b hf
  rcases hf with h1 | h1 | h1 | h1 | h1
  ·exact .inl (.inl h1)
  ·exact .inl (.inr (.inl h1))
  ·exact .inl (.inr (.inr (.inl h1)))
  ·rcases hv with e | e
   ·exact .inl (.inr (.inr (.inr (.inl (by rw [← e]; exact h1)))))
   ·right
    have : some b = some w.heap.size := h1.trans e
    cases this
    exact Nat.le_refl _
  ·exact .inl (.inr (.inr (.inr (.inr h1))))
end
theorem step_cases (m : DM) : (stepM m).2 = 0 ∨ (stepM m).2 = 50 := by
 unfold stepM
 split
 ·split
  ·exact .inr rfl
  ·exact .inl rfl
 ·exact .inl rfl
theorem step_same (m : DM) : (stepM m).1.now = m.now ∧ (stepM m).1.sure = m.sure ∧ (stepM m).1.turns = m.turns ∧ (stepM m).1.files = m.files ∧ (stepM m).1.most = m.most := by
 unfold stepM
 split
 ·split <;> exact ⟨rfl, rfl, rfl, rfl, rfl⟩
 ·exact ⟨rfl, rfl, rfl, rfl, rfl⟩
theorem info_turn : (Tryz.prog.info? 114).map (fun i => (i.zero, i.size, i.bytes)) = some (some (.agg #[.string ⟨#[]⟩, .string ⟨#[]⟩, .pointer none]), 3, 40) := by kernel_rfl
theorem info_turn3 {a b c : Value} : (Tryz.prog.info? 114).map (·.size) = some ([a, b, c] : List Value).length := by kernel_rfl
theorem turnC_one (S T : ByteArray) (p : Option Addr) : ∀ u ∈ ([.string S, .string T, .pointer p] : List Value), u.oneCell' = true := by
 intro u hu
 simp at hu
 rcases hu with rfl | rfl | rfl <;> rfl
set_option maxRecDepth 100000 in
set_option maxHeartbeats 4000000 in
theorem turn_any (N g : Nat) (m : DM) (d : DA) (S T : ByteArray) (p : Option Addr) (f : Nat) (w : World) (h : DiskIn N w g m d) (hf : m.fuse ≤ 9223372036854775807) (hn : m.now.length < 1000000000) (ht : m.turns.length ≤ 1000000000) (hS : S.size ≤ maxLen) (hT : T.size ≤ maxLen)
  (hpp : (stepM m).2 = 0 → (T.data.toList ≠ [] → p = some ⟨d.bs.getD f 0, 0, none⟩) ∧ (T.data.toList = [] → p = none)) :
  Calls Tryz.prog 48 #[.pointer (some ⟨g, 0, none⟩), .agg #[.string S, .string T, .pointer p]] w fun e w' => e = .returned (.int .i64 (turnM m ⟨S.data.toList, T.data.toList, f⟩).2) ∧ ∃ d', Aft N g w w' (turnM m ⟨S.data.toList, T.data.toList, f⟩).1 d d' ∧ d'.bs = d.bs ∧ d'.vs = d.vs := by
 obtain ⟨tb, htb⟩ := eX w.heap.size
 obtain ⟨W1, hW1⟩ := eX (w.alloc (.cells #[.string S, .string T, .pointer p] 114))
 obtain ⟨r1, b1, s1⟩ := new_row hW1
 rw [htb] at r1 s1
 have A1 : Hid (Aft N g w W1 m d d) := h_ (Aft.below h b1)
 have HN0 := h_ h.size
 have HFT : Hid (∀ b, foot g d b → b < tb) := h_ (fun b hb => by have := h.foot_lt hb; omega)
 have HST := h_ (step_any N g m d hf W1 A1.out.disk)
 have HR1 := h_ r1
 have hbt : 114 ≠ 80 := by decide
 obtain ⟨e1, m1, hs1, hs2⟩ : ∃ e1 m1, (stepM m).2 = e1 ∧ (stepM m).1 = m1 := ⟨_, _, rfl, rfl⟩
 have hsc := step_cases m
 obtain ⟨n1, n2, n3, n4, n5⟩ := step_same m
 rw [hs2] at n1 n2 n3 n4 n5
 have N1 := h_ n1
 have N3 := h_ n3
 clear n1 n2 n3 n4 n5
 rw [hs1, hs2] at HST
 rw [hs1] at hsc
 have HTB := h_ htb
 have HS1 := h_ s1
 have HEQ : Hid (turnM m ⟨S.data.toList, T.data.toList, f⟩ = if e1 = 0 then ({ m1 with now := doN m1.now ⟨S.data.toList, T.data.toList, f⟩, turns := m1.turns ++ [⟨S.data.toList, T.data.toList, f⟩] }, 0) else (m1, e1)) := h_ (by
  unfold turnM
  dsimp only
  rw [hs1, hs2]
  split
  ·rfl
  ·rw [← hs1, ← hs2])
 rw [hs1] at hpp
 clear r1 b1 s1 h hs1 hs2 htb
 rcases hsc with rfl | rfl
 ·rw [HEQ.out, if_pos rfl]
  obtain ⟨hp, hp0⟩ := hpp rfl
  clear hpp
  have HTC : Hid (turnsC d.bs ([⟨S.data.toList, T.data.toList, f⟩] : List TM) = [.string S, .string T, .pointer p]) := h_ (by
   show turnC d.bs _ ++ [] = _
   rw [List.append_nil]
   unfold turnC strV
   have e1 : (⟨S.data.toList.toArray⟩ : ByteArray) = S := ba_ext (by simp)
   have e2 : (⟨T.data.toList.toArray⟩ : ByteArray) = T := ba_ext (by simp)
   dsimp only
   rw [e1, e2]
   split
   ·rename_i e; rw [hp0 e]
   ·rename_i e; rw [hp e]; rfl)
  go_enter Tryz.func48, Tryz.ntmps48
  go_wp2_with fail
  rw [HTB.out]
  refine HST.out.mono ?_
  rintro e w2 ⟨rfl, ha2⟩
  have A2 := h_ ha2
  have HR2 : Hid (w2.heap[tb]? = some (.cells #[.string S, .string T, .pointer p] 114 (0, 0))) := h_ ((ha2.frm.block tb (by have := HS1.out; omega) (fun e => by have := HFT.out tb e; omega)).trans HR1.out)
  have HL2 : Hid (tb < w2.heap.size) := h_ (b_ HR2)
  clear ha2
  go_wp2_with fail
  have hc0 : w2.cell? ⟨g, 0, none⟩ = some (.map (some d.mb)) := A2.out.disk.cells.1
  refine wp_region_sched (fun w' => w'.cell? ⟨g, 0, none⟩ = some (.map (some d.mb)) ∧ w'.rangeAt tb 0 [.string S, .string T, .pointer p]) [(true, 0), (true, 1), (true, 2), (true, 3), (true, 4), (false, 5)] (by kernel_rfl) (by kernel_rfl) rfl (by kernel_rfl) ⟨hc0, range_of_row (cs := [.string S, .string T, .pointer p]) HR2.out⟩ ?_
  iterate 4 ((first | refine wpS_pass _ rfl (by rfl) ?_ | (refine wpS_take _ ?_ rfl (by rfl) ?_ ?_; rotate_left; (focus (intro w' hS'; (try dsimp only at hS'); (repeat (have hS1 := hS'.1; replace hS' := hS'.2)); go_simp; (try with_reducible rfl); done)))); simp only [LY])
  refine wpS_load _ rfl (by rfl) 114 _ rfl tb 0 rfl [.string S, .string T, .pointer p] _ (fun w' hS => hS.2) Tryz.underlying114 rfl info_turn3 ?_
  simp only [LY]
  refine wpS_do _ rfl (by rfl) (fun K hK => ?_)
  go_simp
  have hO2 := A2.out.disk.now
  refine (do_any d.mb m1.now.length d.bs m1.now S T p f w2.drew hO2 (by rw [N1.out]; unfold maxLen; omega) hS hT hp).mono ?_
  rintro e w3 ⟨rfl, ho3, hg3⟩
  dsimp only
  have hg3' : w2.grownBy w3 (some d.mb) := ⟨hg3.os, hg3.tape, hg3.output, hg3.size, hg3.block⟩
  have D3 : Hid (DiskIn N w3 g { m1 with now := doN m1.now ⟨S.data.toList, T.data.toList, f⟩ } d) := h_ (A2.out.disk.nowSet _ hg3' ho3)
  have F3 : Hid (Frm (foot g d) w2 w3) := h_ (grown_frm hg3' (.inr (.inl rfl)))
  have HR3 : Hid (w3.heap[tb]? = some (.cells #[.string S, .string T, .pointer p] 114 (0, 0))) := h_ ((F3.out.block tb HL2.out (fun e => by have := HFT.out tb e; omega)).trans HR2.out)
  have HL3 : Hid (tb < w3.heap.size) := h_ (b_ HR3)
  refine hK.out _ _ ⟨D3.out.cells.1, range_of_row (cs := [.string S, .string T, .pointer p]) HR3.out⟩ (fun hS' => ?_)
  clear hS' hK ho3 hg3 hg3' hO2 hc0
  refine wpS_done ?_
  go_wp2_with fail
  have hc2 : w3.cell? ⟨g, 2, none⟩ = some d.tv := D3.out.cells.2.2.1
  have ho3 := D3.out.turns
  obtain ⟨A3, c3, hv3, _⟩ := own_slice ho3
  rw [hv3] at hc2
  have HV3 := h_ hv3
  have HO3 : Hid (w3.ownsRow N 114 3 (.slice A3 m1.turns.length c3) m1.turns.length (turnsC d.bs m1.turns)) := h_ (by rw [← hv3]; exact ho3)
  obtain ⟨q, hq⟩ := eX m1.turns.length
  have hql : q ≤ 1000000000 := by rw [← hq, N3.out]; exact ht
  rw [hq] at hc2 HO3 HV3
  have HQ := h_ hq
  clear hv3 ho3 hq
  have HC2 := h_ hc2
  refine wp_region_sched2 (fun w' => w'.rangeAt tb 0 [.string S, .string T, .pointer p]) [(true, 0), (true, 1), (true, 2), (true, 3), (true, 5)] 4 6 [(false, 7), (true, 8), (true, 9), (false, 10)] (by kernel_rfl) (by kernel_rfl) rfl (by kernel_rfl) (range_of_row (cs := [.string S, .string T, .pointer p]) HR3.out) ?_
  (repeat ((refine wpS2_take _ ?_ rfl (by rfl) ?_ ?_; rotate_left; (focus (intro w' hS'; (try dsimp only at hS'); (repeat (have hS1 := hS'.1; replace hS' := hS'.2)); go_simp; (try with_reducible rfl); done)); simp only [LY])))
  refine wpS2_load _ rfl (by rfl) 114 _ rfl tb 0 rfl [.string S, .string T, .pointer p] _ (fun w' hS => hS) Tryz.underlying114 rfl info_turn3 ?_
  simp only [LY]
  refine wpS2_both ?_ ?_
  ·refine doStep_do _ rfl (by rfl) (fun K hK => ?_)
   go_simp
   refine hK.out _ _ (range_of_row (cs := [.string S, .string T, .pointer p]) HR3.out) (fun hS' => ?_)
   clear hS' hK
   refine doStep_do _ rfl (by rfl) (fun K hK => ?_)
   go_simp
   refine hK.out _ _ (range_of_row (cs := [.string S, .string T, .pointer p]) ((Below.heap_alloc _ _ _ HL3.out).trans HR3.out)) (fun hS' => ?_)
   clear hS' hK hc2
   have HW5 : Hid (Below w3.heap.size w3 (w3.alloc (.cells #[.string S, .string T, .pointer p] 114)).drew) := h_ ((Below.refl _ _).alloc (Nat.le_refl _) _).drew
   have hrd : Rd (w3.alloc (.cells #[.string S, .string T, .pointer p] 114)).drew (some ⟨w3.heap.size, 0, none⟩) [.string S, .string T, .pointer p] := (Rd.new w3 [.string S, .string T, .pointer p] 114).drew
   have HRD := h_ hrd
   clear hrd
   generalize (w3.alloc (.cells #[.string S, .string T, .pointer p] 114)).drew = w5 at *
   have HO5 := h_ (own_below HO3.out HW5.out)
   have D5 := h_ (D3.out.below HW5.out)
   have HR5 : Hid (w5.heap[tb]? = some (.cells #[.string S, .string T, .pointer p] 114 (0, 0))) := h_ ((HW5.out.block tb HL3.out).trans HR3.out)
   refine wpS_do _ rfl (by rfl) (fun K hK => ?_)
   refine wp_append_rd _ _ _ 78 rfl N 114 _ 3 40 Tryz.underlying78 info_turn rfl (by decide) (.slice A3 q c3) q (turnsC d.bs m1.turns) rfl HO5.out _ 1 1 [.string S, .string T, .pointer p] rfl rfl HRD.out (turnC_one S T p) (by unfold maxLen; omega) (by omega) D5.out.size ?_
   intro v6 w6 ho6 hg6 hvb6
   obtain ⟨A6, c6, e6, _⟩ := own_slice ho6
   subst e6
   have HG6 := h_ hg6
   have HVB := h_ hvb6
   have HO6 : Hid (w6.ownsRow N 114 3 (.slice A6 (q + 1) c6) (m1.turns ++ ([⟨S.data.toList, T.data.toList, f⟩] : List TM)).length (turnsC d.bs (m1.turns ++ ([⟨S.data.toList, T.data.toList, f⟩] : List TM)))) := h_ (by
    rw [List.length_append, HQ.out, turnsC_app]
    have e : turnsC d.bs ([⟨S.data.toList, T.data.toList, f⟩] : List TM) = [.string S, .string T, .pointer p] := HTC.out
    rw [e]
    exact ho6)
   have HTS := h_ (D5.out.turnsSet (m1.turns ++ ([⟨S.data.toList, T.data.toList, f⟩] : List TM)) (.slice A6 (q + 1) c6) (by rw [HV3.out]; exact HG6.out) HO6.out (by rw [HV3.out]; exact HVB.out))
   have HR6 : Hid (w6.heap[tb]? = some (.cells #[.string S, .string T, .pointer p] 114 (0, 0))) := h_ ((HG6.out.block tb (b_ HR5) (fun e => by have := HFT.out tb (.inr (.inr (.inr (.inl (by rw [HV3.out]; exact e))))); omega)).trans HR5.out)
   refine hK.out _ _ (range_of_row (cs := [.string S, .string T, .pointer p]) HR6.out) (fun hS' => ?_)
   clear hS' hK ho6 hg6 hvb6
   simp only [LY]
   iterate 2 ((first | refine wpS_pass _ rfl (by rfl) ?_ | (refine wpS_take _ ?_ rfl (by rfl) ?_ ?_; rotate_left; (focus (intro w' hS'; (try dsimp only at hS'); (repeat (have hS1 := hS'.1; replace hS' := hS'.2)); go_simp; (try with_reducible rfl); done)))); simp only [LY])
   have hr6 : w6.heap[g]? = some (.cells (rowD { m1 with now := doN m1.now ⟨S.data.toList, T.data.toList, f⟩ } d) 80 (0, 0)) := (HG6.out.block g (D5.out.foot_lt (.inl rfl)) (fun e => tyAt_ne (D5.out.ty_t (by rw [HV3.out]; exact e.symm)) D5.out.ty_g (by decide) rfl)).trans D5.out.row
   refine wpS_store_cell _ rfl (by rfl) 78 _ _ rfl g 2 rfl (.slice A6 (q + 1) c6) rfl rfl (.slice A3 q c3) ?_ ?_ (by kernel_rfl) ?_ ?_
   ·rw [row_cell hr6, ← HV3.out]; rfl
   ·simp [World.frozen?, hr6]
   ·intro j u hj
    have h1 := range_of_row (cs := [.string S, .string T, .pointer p]) HR6.out j u hj
    rw [show ((w6.setCell ⟨g, 2, none⟩ (.slice A6 (q + 1) c6)).cell? ⟨tb, 0 + j, none⟩) = w6.cell? ⟨tb, 0 + j, none⟩ from World.cell?_of_block (a := ⟨tb, 0 + j, none⟩) (Below.heap_setCell _ _ _ _ (fun e => by have := HFT.out g (.inl rfl); have : tb = g := e; omega))]
    exact h1
   simp only [LY]
   refine wpS_done ?_
   go_wp2_with fail
   go_ret
   obtain ⟨t1, t2, t3⟩ := HTS.out
   have A5 : Aft N g w3 w5 { m1 with now := doN m1.now ⟨S.data.toList, T.data.toList, f⟩ } d d := Aft.below D3.out HW5.out
   exact ⟨rfl, _, ((A1.out.trans A2.out).trans (Aft.mk D3.out F3.out (fun b hb => .inl hb))).trans (A5.trans (Aft.mk t1 t2 t3)), rfl, rfl⟩
  ·refine doStep_do _ rfl (by rfl) (fun K hK => ?_)
   go_simp
   refine hK.out _ _ (range_of_row (cs := [.string S, .string T, .pointer p]) ((Below.heap_alloc _ _ _ HL3.out).trans HR3.out)) (fun hS' => ?_)
   clear hS' hK
   have hc5 : (w3.alloc (.cells #[.string S, .string T, .pointer p] 114)).cell? ⟨g, 2, none⟩ = some (.slice A3 q c3) := (World.cell?_of_block (a := ⟨g, 2, none⟩) (Below.heap_alloc _ _ _ (World.block_lt_of_cell? _ _ hc2))).trans hc2
   refine doStep_do _ rfl (by rfl) (fun K hK => ?_)
   go_simp
   refine hK.out _ _ (range_of_row (cs := [.string S, .string T, .pointer p]) ((Below.heap_alloc _ _ _ HL3.out).trans HR3.out)) (fun hS' => ?_)
   clear hS' hK hc2 hc5
   have HW5 : Hid (Below w3.heap.size w3 (w3.alloc (.cells #[.string S, .string T, .pointer p] 114)).drew) := h_ ((Below.refl _ _).alloc (Nat.le_refl _) _).drew
   have hrd : Rd (w3.alloc (.cells #[.string S, .string T, .pointer p] 114)).drew (some ⟨w3.heap.size, 0, none⟩) [.string S, .string T, .pointer p] := (Rd.new w3 [.string S, .string T, .pointer p] 114).drew
   have HRD := h_ hrd
   clear hrd
   generalize (w3.alloc (.cells #[.string S, .string T, .pointer p] 114)).drew = w5 at *
   have HO5 := h_ (own_below HO3.out HW5.out)
   have D5 := h_ (D3.out.below HW5.out)
   have HR5 : Hid (w5.heap[tb]? = some (.cells #[.string S, .string T, .pointer p] 114 (0, 0))) := h_ ((HW5.out.block tb HL3.out).trans HR3.out)
   refine wpS_do _ rfl (by rfl) (fun K hK => ?_)
   refine wp_append_rd _ _ _ 78 rfl N 114 _ 3 40 Tryz.underlying78 info_turn rfl (by decide) (.slice A3 q c3) q (turnsC d.bs m1.turns) rfl HO5.out _ 1 1 [.string S, .string T, .pointer p] rfl rfl HRD.out (turnC_one S T p) (by unfold maxLen; omega) (by omega) D5.out.size ?_
   intro v6 w6 ho6 hg6 hvb6
   obtain ⟨A6, c6, e6, _⟩ := own_slice ho6
   subst e6
   have HG6 := h_ hg6
   have HVB := h_ hvb6
   have HO6 : Hid (w6.ownsRow N 114 3 (.slice A6 (q + 1) c6) (m1.turns ++ ([⟨S.data.toList, T.data.toList, f⟩] : List TM)).length (turnsC d.bs (m1.turns ++ ([⟨S.data.toList, T.data.toList, f⟩] : List TM)))) := h_ (by
    rw [List.length_append, HQ.out, turnsC_app]
    have e : turnsC d.bs ([⟨S.data.toList, T.data.toList, f⟩] : List TM) = [.string S, .string T, .pointer p] := HTC.out
    rw [e]
    exact ho6)
   have HTS := h_ (D5.out.turnsSet (m1.turns ++ ([⟨S.data.toList, T.data.toList, f⟩] : List TM)) (.slice A6 (q + 1) c6) (by rw [HV3.out]; exact HG6.out) HO6.out (by rw [HV3.out]; exact HVB.out))
   have HR6 : Hid (w6.heap[tb]? = some (.cells #[.string S, .string T, .pointer p] 114 (0, 0))) := h_ ((HG6.out.block tb (b_ HR5) (fun e => by have := HFT.out tb (.inr (.inr (.inr (.inl (by rw [HV3.out]; exact e))))); omega)).trans HR5.out)
   refine hK.out _ _ (range_of_row (cs := [.string S, .string T, .pointer p]) HR6.out) (fun hS' => ?_)
   clear hS' hK ho6 hg6 hvb6
   simp only [LY]
   iterate 2 ((first | refine wpS_pass _ rfl (by rfl) ?_ | (refine wpS_take _ ?_ rfl (by rfl) ?_ ?_; rotate_left; (focus (intro w' hS'; (try dsimp only at hS'); (repeat (have hS1 := hS'.1; replace hS' := hS'.2)); go_simp; (try with_reducible rfl); done)))); simp only [LY])
   have hr6 : w6.heap[g]? = some (.cells (rowD { m1 with now := doN m1.now ⟨S.data.toList, T.data.toList, f⟩ } d) 80 (0, 0)) := (HG6.out.block g (D5.out.foot_lt (.inl rfl)) (fun e => tyAt_ne (D5.out.ty_t (by rw [HV3.out]; exact e.symm)) D5.out.ty_g (by decide) rfl)).trans D5.out.row
   refine wpS_store_cell _ rfl (by rfl) 78 _ _ rfl g 2 rfl (.slice A6 (q + 1) c6) rfl rfl (.slice A3 q c3) ?_ ?_ (by kernel_rfl) ?_ ?_
   ·rw [row_cell hr6, ← HV3.out]; rfl
   ·simp [World.frozen?, hr6]
   ·intro j u hj
    have h1 := range_of_row (cs := [.string S, .string T, .pointer p]) HR6.out j u hj
    rw [show ((w6.setCell ⟨g, 2, none⟩ (.slice A6 (q + 1) c6)).cell? ⟨tb, 0 + j, none⟩) = w6.cell? ⟨tb, 0 + j, none⟩ from World.cell?_of_block (a := ⟨tb, 0 + j, none⟩) (Below.heap_setCell _ _ _ _ (fun e => by have := HFT.out g (.inl rfl); have : tb = g := e; omega))]
    exact h1
   simp only [LY]
   refine wpS_done ?_
   go_wp2_with fail
   go_ret
   obtain ⟨t1, t2, t3⟩ := HTS.out
   have A5 : Aft N g w3 w5 { m1 with now := doN m1.now ⟨S.data.toList, T.data.toList, f⟩ } d d := Aft.below D3.out HW5.out
   exact ⟨rfl, _, ((A1.out.trans A2.out).trans (Aft.mk D3.out F3.out (fun b hb => .inl hb))).trans (A5.trans (Aft.mk t1 t2 t3)), rfl, rfl⟩
 ·rw [HEQ.out, if_neg (by decide)]
  clear hpp
  go_enter Tryz.func48, Tryz.ntmps48
  go_wp2_with fail
  refine HST.out.mono ?_
  rintro e w2 ⟨rfl, ha2⟩
  have A2 := h_ ha2
  clear ha2
  go_wp2_with fail
  go_ret
  exact ⟨rfl, d, A1.out.trans A2.out, rfl, rfl⟩
end Go.Proofs.YtelbofikcpchiaaGreat
