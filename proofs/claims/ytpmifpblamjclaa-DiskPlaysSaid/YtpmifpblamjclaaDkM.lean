
/- A disk, plain: files, names, turns; what each call answers. No program. -/

import Derived.Test.YtpmifpblamjclaaProg

import Derived.Test.YtpmifpblamjclaaBase

import Derived.MapViews

import Derived.WideShapes

import Derived.ChangeMaps

import Derived.Maps.OwnSet

import Derived.Sort.KeysCollected

namespace Go.Proofs.Ytpmifpblamjclaa

set_option linter.unusedVariables false

set_option linter.unusedSimpArgs false

open Go.ChangeMaps (putKey delKey notKey)

/-- names that lead to files (by their numbers), in the order of the keys -/
abbrev NM := List (List UInt8 × Nat)
structure FM where
  b : List UInt8
  safe : Nat
deriving DecidableEq, Inhabited
structure TM where
  fr : List UInt8
  to_ : List UInt8
  f : Nat
deriving DecidableEq, Inhabited
structure DM where
  files : List FM
  now : NM
  sure : NM
  turns : List TM
  most : Nat
  fuse : Nat
  down : Bool
deriving DecidableEq, Inhabited

def insN (x : List UInt8 × Nat) : NM → NM
  | [] => [x]
  | y :: r => if bytesBefore x.1 y.1 then x :: y :: r else y :: insN x r
def delN (ns : NM) (s : List UInt8) : NM := ns.filter fun p => !(p.1 == s)
def putN (ns : NM) (s : List UInt8) (f : Nat) : NM := insN (s, f) (delN ns s)
def findN (ns : NM) (s : List UInt8) : Option Nat := (ns.find? fun p => p.1 == s).map (·.2)
def doN (ns : NM) (t : TM) : NM :=
  let r := if t.fr = [] then ns else delN ns t.fr
  if t.to_ = [] then r else putN r t.to_ t.f
def namedB (s : List UInt8) : Bool := decide (1 ≤ s.length) && decide (s.length ≤ 100)
def newM (room : Int) : DM := ⟨[], [], [], [], (max room 0).toNat, 0, false⟩
def stepM (m : DM) : DM × Int :=
  if 0 < m.fuse then
    if m.fuse = 1 then ({ m with fuse := 0, down := true }, 50) else ({ m with fuse := m.fuse - 1 }, 0)
  else (m, 0)
def turnM (m : DM) (t : TM) : DM × Int :=
  let r := stepM m
  if r.2 = 0 then ({ r.1 with now := doN r.1.now t, turns := r.1.turns ++ [t] }, 0) else r
def findM (m : DM) (s : List UInt8) : Option Nat × Int :=
  if m.down then (none, 50) else match findN m.now s with
    | none => (none, 4)
    | some f => (some f, 0)
def fileM (m : DM) (f : Nat) : FM := m.files.getD f ⟨[], 0⟩
def lenN (m : DM) (ns : NM) : Nat := (ns.map fun p => (fileM m p.2).b.length).sum
def roomM (m : DM) : Nat := m.most - lenN m m.now
def createM (m : DM) (s : List UInt8) : DM × Int :=
  if m.down then (m, 50)
  else if namedB s = false then (m, 1)
  else if (findN m.now s).isSome then (m, 5)
  else if 4096 ≤ m.now.length then (m, 3)
  else if (stepM m).2 = 0 then (turnM { m with files := m.files ++ [⟨[], 0⟩] } ⟨[], s, m.files.length⟩) else stepM m
def setF (m : DM) (f : Nat) (x : FM) : DM := { m with files := m.files.set f x }
def appendM (m : DM) (s : List UInt8) (b : List UInt8) : DM × Int :=
  match findM m s with
  | (none, e) => (m, e)
  | (some f, _) =>
    if roomM m < b.length then (m, 51)
    else if (stepM m).2 = 0 then (setF (stepM m).1 f ⟨(fileM m f).b ++ b, (fileM m f).safe⟩, 0) else stepM m
def syncM (m : DM) (s : List UInt8) : DM × Int :=
  match findM m s with
  | (none, e) => (m, e)
  | (some f, _) => if (stepM m).2 = 0 then (setF (stepM m).1 f ⟨(fileM m f).b, (fileM m f).b.length⟩, 0) else stepM m
def renameM (m : DM) (fr to_ : List UInt8) : DM × Int :=
  if m.down = false ∧ namedB to_ = false then (m, 1)
  else match findM m fr with
  | (none, e) => (m, e)
  | (some f, _) => turnM m ⟨fr, to_, f⟩
def removeM (m : DM) (s : List UInt8) : DM × Int :=
  match findM m s with
  | (none, e) => (m, e)
  | (some f, _) => turnM m ⟨s, [], f⟩
def flushM (m : DM) : DM × Int :=
  if m.down then (m, 50)
  else if (stepM m).2 = 0 then ({ (stepM m).1 with sure := m.now, turns := [] }, 0) else stepM m
def readM (m : DM) (s : List UInt8) : List UInt8 × Int :=
  match findM m s with
  | (none, e) => ([], e)
  | (some f, _) => ((fileM m f).b, 0)
def failM (m : DM) (n : Int) : DM := { m with fuse := (max n 0).toNat }
/-- the files behind a loss of power, of the names to come -/
def cutM : NM → List Int → DM → DM
  | [], _, m => m
  | p :: ns, keep, m =>
    let x := fileM m p.2
    let loose := x.b.length - x.safe
    if loose = 0 then cutM ns keep m
    else
      let k := match keep with
        | [] => 0
        | z :: _ => (min (max z 0) loose).toNat
      cutM ns keep.tail (setF m p.2 ⟨x.b.take (x.safe + k), x.safe + k⟩)
def crashM (m : DM) (turns : Int) (keep : List Int) : DM :=
  let k := (min (max turns 0) m.turns.length).toNat
  let sure := (m.turns.take k).foldl doN m.sure
  cutM sure keep { m with down := false, fuse := 0, sure := sure, now := sure, turns := [] }

/-! ### names as a map's reading -/

/-- the number of a file's row -/
def fileD (bs : List Nat) (f : Nat) : DataW Unit := .lit (.int .i64 ((bs.getD f 0 : Nat) : Int))
def entD (bs : List Nat) (p : List UInt8 × Nat) : Lit × DataW Unit := (.string p.1, fileD bs p.2)
def namesD (bs : List Nat) (ns : NM) : DataW Unit := .map (ns.map (entD bs))
theorem insN_D (bs : List Nat) (x : List UInt8 × Nat) (ns : NM) : (insN x ns).map (entD bs) = DataW.insert (entD bs x) (ns.map (entD bs)) := by
  induction ns with
  | nil => rfl
  | cons y r ih =>
    simp only [insN, List.map_cons, DataW.insert]
    have e : (entD bs x).1.before (entD bs y).1 = bytesBefore x.1 y.1 := rfl
    rw [e]
    split
    · rfl
    · rw [List.map_cons, ih]
theorem delN_D (bs : List Nat) (ns : NM) (s : List UInt8) : (delN ns s).map (entD bs) = (ns.map (entD bs)).filter (fun p => !p.1.sameKey (.string s)) := by
  unfold delN
  rw [List.filter_map]
  rfl
theorem namesD_del (bs : List Nat) (ns : NM) (s : List UInt8) : (namesD bs ns).del (.string s) = namesD bs (delN ns s) := by
  unfold namesD DataW.del
  rw [delN_D]
theorem namesD_put (bs : List Nat) (ns : NM) (s : List UInt8) (f : Nat) : (namesD bs ns).put (.string s) (fileD bs f) = namesD bs (putN ns s f) := by
  unfold namesD DataW.put putN
  rw [insN_D, delN_D]
  rfl
theorem namesD_at (bs : List Nat) (ns : NM) (s : List UInt8) (z : DataW Unit) : (namesD bs ns).atKey (.string s) z = ((findN ns s).map (fileD bs)).getD z := by
  unfold namesD DataW.atKey findN
  simp only [List.find?_map]
  have e : ((fun p : Lit × DataW Unit => p.1.sameKey (.string s)) ∘ entD bs) = fun p => p.1 == s := rfl
  rw [e]
  cases ns.find? (fun p => p.1 == s) <;> rfl
theorem namesD_size (bs : List Nat) (ns : NM) : Maps.size (namesD bs ns) = ns.length := by
  simp [Maps.size, namesD]
theorem insN_length (x : List UInt8 × Nat) (ns : NM) : (insN x ns).length = ns.length + 1 := by
  induction ns with
  | nil => rfl
  | cons y r ih => simp only [insN]; split <;> simp [ih]
theorem delN_length (ns : NM) (s : List UInt8) : (delN ns s).length ≤ ns.length := List.length_filter_le _ _
theorem putN_length (ns : NM) (s : List UInt8) (f : Nat) : (putN ns s f).length ≤ ns.length + 1 := by
  unfold putN
  rw [insN_length]
  have := delN_length ns s
  omega
theorem insN_mem {x p : List UInt8 × Nat} {ns : NM} : p ∈ insN x ns ↔ p = x ∨ p ∈ ns := by
  induction ns with
  | nil => simp [insN]
  | cons y r ih =>
    simp only [insN]
    split
    · simp
    · simp only [List.mem_cons, ih]
      constructor
      · rintro (h | h | h)
        · exact .inr (.inl h)
        · exact .inl h
        · exact .inr (.inr h)
      · rintro (h | h | h)
        · exact .inr (.inl h)
        · exact .inl h
        · exact .inr (.inr h)
theorem delN_mem {p : List UInt8 × Nat} {ns : NM} {s : List UInt8} : p ∈ delN ns s ↔ p ∈ ns ∧ p.1 ≠ s := by
  simp [delN]
/-- names that rise -/
def risesN (ns : NM) : Prop := ns.Pairwise fun p q => bytesBefore p.1 q.1 = true
theorem risesN_del {ns : NM} (h : risesN ns) (s : List UInt8) : risesN (delN ns s) := h.filter _
theorem risesN_ins {ns : NM} (h : risesN ns) {x : List UInt8 × Nat} (hx : ∀ p ∈ ns, p.1 ≠ x.1) : risesN (insN x ns) := by
  induction ns with
  | nil => simp [insN, risesN]
  | cons y r ih =>
    simp only [insN]
    have h1 := List.pairwise_cons.1 h
    split
    · rename_i hb
      refine List.pairwise_cons.2 ⟨fun p hp => ?_, h⟩
      rcases List.mem_cons.1 hp with rfl | hp
      · exact hb
      · exact WideShapes.bytes_trans _ _ _ hb (h1.1 p hp)
    · rename_i hb
      refine List.pairwise_cons.2 ⟨fun p hp => ?_, ih h1.2 (fun p hp => hx p (List.mem_cons_of_mem _ hp))⟩
      rcases insN_mem.1 hp with rfl | hp
      · rcases WideAt.bytes_total y.1 p.1 (hx y (by simp)) with h | h
        · exact h
        · exact absurd h hb
      · exact h1.1 p hp
theorem risesN_put {ns : NM} (h : risesN ns) (s : List UInt8) (f : Nat) : risesN (putN ns s f) :=
  risesN_ins (risesN_del h s) (fun p hp => (delN_mem.1 hp).2)
theorem risesN_do {ns : NM} (h : risesN ns) (t : TM) : risesN (doN ns t) := by
  unfold doN
  dsimp only
  split
  · split
    · exact h
    · exact risesN_del h _
  · split
    · exact risesN_put h _ _
    · exact risesN_put (risesN_del h _) _ _
theorem risesN_keys {ns : NM} (h : risesN ns) : (ns.map (·.1)).Nodup := by
  unfold List.Nodup
  rw [List.pairwise_map]
  refine h.imp fun {a b} hab he => ?_
  rw [he, WideAt.bytes_irrefl] at hab
  cases hab
end Go.Proofs.Ytpmifpblamjclaa
