/- Refs in memory; Get. (With the texts that it stands on.) -/
import Derived.Test.YtelbofikcpchiaaGreatQD
import Derived.Test.YtelbofikcpchiaaGreatQB
import Derived.Test.YtelbofikcpchiaaGreatQC
import Derived.Lib.Bytealg
import Derived.Lib.Split
import Derived.OwnWalk
import Derived.Laws.Strings3
import Derived.Test.YtelbofikcpchiaaGreatQA
import Derived.Test.YtelbofikcpchiaaGreatQL
namespace Go.Proofs.YtelbofikcpchiaaGreat
open Go.ChangeMaps (putKey delKey notKey)
abbrev AL (α : Type) := List (List UInt8 × α)
set_option linter.unusedSectionVars false
section
variable {α : Type}
def insA (x : List UInt8 × α) : AL α → AL α
 | [] => [x]
 | y :: r => if bytesBefore x.1 y.1 then x :: y :: r else y :: insA x r
def delA (ns : AL α) (s : List UInt8) : AL α := ns.filter fun p => !(p.1 == s)
def putA (ns : AL α) (s : List UInt8) (f : α) : AL α := insA (s, f) (delA ns s)
def findA (ns : AL α) (s : List UInt8) : Option α := (ns.find? fun p => p.1 == s).map (·.2)
variable (g : α → DataW Unit)
def entA (p : List UInt8 × α) : Lit × DataW Unit := (.string p.1, g p.2)
def mapA (ns : AL α) : DataW Unit := .map (ns.map (entA g))
theorem insA_D (x : List UInt8 × α) (ns : AL α) : (insA x ns).map (entA g) = DataW.insert (entA g x) (ns.map (entA g)) := by
 induction ns with
 | nil => rfl
 | cons y r ih =>
   simp only [insA, List.map_cons, DataW.insert]
   have e : (entA g x).1.before (entA g y).1 = bytesBefore x.1 y.1 := rfl
   rw [e]
   split
   ·rfl
   ·rw [List.map_cons, ih]
theorem delA_D (ns : AL α) (s : List UInt8) : (delA ns s).map (entA g) = (ns.map (entA g)).filter (fun p => !p.1.sameKey (.string s)) := by
 unfold delA
 rw [List.filter_map]
 rfl
theorem mapA_del (ns : AL α) (s : List UInt8) : (mapA g ns).del (.string s) = mapA g (delA ns s) := by
 unfold mapA DataW.del
 rw [delA_D]
theorem mapA_put (ns : AL α) (s : List UInt8) (f : α) : (mapA g ns).put (.string s) (g f) = mapA g (putA ns s f) := by
 unfold mapA DataW.put putA
 rw [insA_D, delA_D]
 rfl
theorem mapA_at (ns : AL α) (s : List UInt8) (z : DataW Unit) : (mapA g ns).atKey (.string s) z = ((findA ns s).map g).getD z := by
 unfold mapA DataW.atKey findA
 simp only [List.find?_map]
 have e : ((fun p : Lit × DataW Unit => p.1.sameKey (.string s)) ∘ entA g) = fun p => p.1 == s := rfl
 rw [e]
 cases ns.find? (fun p => p.1 == s) <;> rfl
theorem mapA_size (ns : AL α) : Maps.size (mapA g ns) = ns.length := by
 simp [Maps.size, mapA]
theorem insA_length (x : List UInt8 × α) (ns : AL α) : (insA x ns).length = ns.length + 1 := by
 induction ns with
 | nil => rfl
 | cons y r ih => simp only [insA]; split <;> simp [ih]
theorem delA_length (ns : AL α) (s : List UInt8) : (delA ns s).length ≤ ns.length := List.length_filter_le _ _
theorem putA_length (ns : AL α) (s : List UInt8) (f : α) : (putA ns s f).length ≤ ns.length + 1 := by
 unfold putA
 rw [insA_length]
 have := delA_length ns s
 omega
theorem insA_mem {x p : List UInt8 × α} {ns : AL α} : p ∈ insA x ns ↔ p = x ∨ p ∈ ns := by
 induction ns with
 | nil => simp [insA]
 | cons y r ih =>
   simp only [insA]
   split
   ·simp
   ·simp only [List.mem_cons, ih]
    constructor
    ·rintro (h | h | h)
     ·exact .inr (.inl h)
     ·exact .inl h
     ·exact .inr (.inr h)
    ·rintro (h | h | h)
     ·exact .inr (.inl h)
     ·exact .inl h
     ·exact .inr (.inr h)
theorem delA_mem {p : List UInt8 × α} {ns : AL α} {s : List UInt8} : p ∈ delA ns s ↔ p ∈ ns ∧ p.1 ≠ s := by
 simp [delA]
def risesA (ns : AL α) : Prop := ns.Pairwise fun p q => bytesBefore p.1 q.1 = true
theorem risesA_del {ns : AL α} (h : risesA ns) (s : List UInt8) : risesA (delA ns s) := h.filter _
theorem risesA_ins {ns : AL α} (h : risesA ns) {x : List UInt8 × α} (hx : ∀ p ∈ ns, p.1 ≠ x.1) : risesA (insA x ns) := by
 induction ns with
 | nil => simp [insA, risesA]
 | cons y r ih =>
   simp only [insA]
   have h1 := List.pairwise_cons.1 h
   split
   ·rename_i hb
    refine List.pairwise_cons.2 ⟨fun p hp => ?_, h⟩
    rcases List.mem_cons.1 hp with rfl | hp
    ·exact hb
    ·exact WideShapes.bytes_trans _ _ _ hb (h1.1 p hp)
   ·rename_i hb
    refine List.pairwise_cons.2 ⟨fun p hp => ?_, ih h1.2 (fun p hp => hx p (List.mem_cons_of_mem _ hp))⟩
    rcases insA_mem.1 hp with rfl | hp
    ·rcases WideAt.bytes_total y.1 p.1 (hx y (by simp)) with h | h
     ·exact h
     ·exact absurd h hb
    ·exact h1.1 p hp
theorem risesA_put {ns : AL α} (h : risesA ns) (s : List UInt8) (f : α) : risesA (putA ns s f) :=
 risesA_ins (risesA_del h s) (fun p hp => (delA_mem.1 hp).2)
end
def heads : List UInt8 := [104, 101, 97, 100, 115, 47]
def tags : List UInt8 := [116, 97, 103, 115, 47]
def remotes : List UInt8 := [114, 101, 109, 111, 116, 101, 115, 47]
def behind (s w : List UInt8) : Option (List UInt8) := if w.isPrefixOf s then some (s.drop w.length) else none
def nmS (s : List UInt8) : Bool := nameS ⟨s.toArray⟩
def branchB (s : List UInt8) : Bool := match behind s heads with
 | some r => nmS r
 | none => false
def cutI (s : List UInt8) (c : UInt8) : Option Nat := s.findIdx? (· == c)
def validB (s : List UInt8) : Bool := match behind s tags with
 | some r => nmS r
 | none => match behind s remotes with
   | some r => (match cutI r 47 with
     | some i => nmS (r.take i) && nmS (r.drop (i + 1))
     | none => false)
   | none => branchB s
structure UpM where
 name : List UInt8
 old : List UInt8
 new : List UInt8
deriving DecidableEq, Inhabited
structure TxM where
 us : List UpM
 head : List UInt8
 at_ : List UInt8
deriving DecidableEq, Inhabited
structure RfM where
 all : AL (List UInt8)
 head : List UInt8
 at_ : List UInt8
 log : List UpM
 stuck : Bool
deriving DecidableEq, Inhabited
def Z32 : List UInt8 := List.replicate 32 0
def mainB : List UInt8 := heads ++ [109, 97, 105, 110]
def rf0 : RfM := ⟨[], mainB, Z32, [], false⟩
def getA (all : AL (List UInt8)) (s : List UInt8) : List UInt8 := (findA all s).getD Z32
def chkU (all : AL (List UInt8)) (met : List (List UInt8)) (u : UpM) : Int :=
 if validB u.name = false then 100 else if u.name ∈ met then 5 else if getA all u.name ≠ u.old then 101 else 0
def chkUs (all : AL (List UInt8)) (met : List (List UInt8)) : List UpM → Int
 | [] => 0
 | u :: us => if chkU all met u = 0 then chkUs all (met ++ [u.name]) us else chkU all met u
def checkR (r : RfM) (t : TxM) : Int :=
 if 64 < t.us.length then 3 else if chkUs r.all [] t.us ≠ 0 then chkUs r.all [] t.us else if t.head ≠ [] ∧ branchB t.head = false then 100 else 0
def updA (all : AL (List UInt8)) (u : UpM) : AL (List UInt8) := if u.new = Z32 then delA (putA all u.name u.new) u.name else putA all u.name u.new
def makeR (r : RfM) (t : TxM) : RfM :=
 { r with all := t.us.foldl updA r.all, log := r.log ++ t.us,
          head := if t.head ≠ [] then t.head else if t.at_ ≠ Z32 then [] else r.head,
          at_ := if t.head ≠ [] then Z32 else if t.at_ ≠ Z32 then t.at_ else r.at_ }
def emptyT (t : TxM) : Bool := decide (t.us = []) && decide (t.head = []) && decide (t.at_ = Z32)
def upB (u : UpM) : List UInt8 := textB u.name ++ u.old ++ u.new
def payloadB (t : TxM) : List UInt8 := numB (clampN (t.us.length : Int)) ++ t.us.flatMap upB ++ textB t.head ++ t.at_
def recordB (t : TxM) : List UInt8 := numB (clampN ((payloadB t).length : Int)) ++ fourB (crc (payloadB t)).toNat ++ payloadB t
def getUp (st : St) : UpM × St :=
 let a := getText st 1048576
 let b := getId a.2
 let c := getId b.2
 (⟨a.1, b.1, c.1⟩, c.2)
def getUps : Nat → St → List UpM × St
 | 0, st => ([], st)
 | k + 1, st => let a := getUp st; let b := getUps k a.2; (a.1 :: b.1, b.2)
def parseT (p : List UInt8) : TxM × Bool :=
 let k := getNum (some p) 64
 let us := getUps k.1 k.2
 let h := getText us.2 1048576
 let a := getId h.2
 (⟨us.1, h.1, a.1⟩, doneS a.2)
def splitP (b : List UInt8) : TxM × Nat × Bool :=
 let n := getNum (some b) 1048576
 let s := getFour n.2
 match s.2 with
 | none => (⟨[], [], Z32⟩, 0, false)
 | some rest => if rest.length < n.1 then (⟨[], [], Z32⟩, 0, false)
   else let p := rest.take n.1
    ((parseT p).1, b.length - rest.length + n.1, (parseT p).2 && decide ((crc p).toNat = s.1))
def openP : Nat → RfM → List UInt8 → Nat → RfM × Nat
 | 0, r, b, g => (r, g)
 | f + 1, r, b, g => let s := splitP (b.drop g)
   if s.2.2 = false ∨ checkR r s.1 ≠ 0 then (r, g) else openP f (makeR r s.1) b (g + s.2.1)
def celD : Value → DataW Unit
 | .int k z => .lit (.int k z)
 | _ => .nil
def idD (bs : List UInt8) : DataW Unit := .agg (bs.map fun c => .lit (.int .u8 (c.toNat : Int)))
def idR : Value → Option (DataW Unit × List MemPlace)
 | .agg cs => some (.agg (cs.toList.map celD), [])
 | _ => none
theorem idR_id (bs : List UInt8) : idR (.agg (b8s bs).toArray) = some (idD bs, []) := by
 simp only [idR, idD, b8s, List.map_map]
 rfl
theorem idR_inv {v : Value} {bs : List UInt8} {ps : List MemPlace} (h : idR v = some (idD bs, ps)) : v = .agg (b8s bs).toArray := by
 cases v with
 | agg cs =>
   simp only [idR, idD, Option.some.injEq, Prod.mk.injEq, DataW.agg.injEq] at h
   have h1 := h.1
   obtain ⟨l⟩ := cs
   simp only at h1
   have : l = b8s bs := by
    clear h
    induction l generalizing bs with
    | nil => cases bs with
      | nil => rfl
      | cons c r => simp at h1
    | cons x l ih => cases bs with
      | nil => simp at h1
      | cons c r =>
        simp only [List.map_cons, List.cons.injEq] at h1
        obtain ⟨h2, h3⟩ := h1
        rw [ih h3]
        cases x with
        | int k z =>
          simp only [celD, DataW.lit.injEq, Lit.int.injEq] at h2
          obtain ⟨rfl, rfl⟩ := h2
          rfl
        | _ => simp [celD] at h2
   rw [this]
 | _ => simp [idR] at h
def boolR : Value → Option (DataW Unit × List MemPlace)
 | .bool b => some (.lit (.bool b), [])
 | _ => none
def boolD (b : Bool) : DataW Unit := .lit (.bool b)
theorem boolR_inv {v : Value} {b : Bool} {ps : List MemPlace} (h : boolR v = some (boolD b, ps)) : v = .bool b := by
 cases v with
 | bool x =>
   simp only [boolR, boolD, Option.some.injEq, Prod.mk.injEq, DataW.lit.injEq, Lit.bool.injEq] at h
   rw [h.1]
 | _ => simp [boolR] at h
open Go.RowKit
theorem ext_data (S : ByteArray) (a b : Nat) : (S.extract a b).data.toList = (S.data.toList.drop a).take (b - a) := by
 obtain ⟨⟨l⟩⟩ := S
 rw [ByteArray.data_extract]
 simp [List.extract_eq_take_drop]
theorem ba_of (l : List UInt8) (S : ByteArray) (h : S.data.toList = l) : S = ⟨l.toArray⟩ := by
 obtain ⟨⟨x⟩⟩ := S
 have : x = l := h
 rw [this]
theorem tl_data (S : ByteArray) : S.toList = S.data.toList := ByteArray.toList_eq ..
theorem pre_take {s w : List UInt8} : w.isPrefixOf s = true ↔ w.length ≤ s.length ∧ s.take w.length = w := by
 rw [List.isPrefixOf_iff_prefix]
 constructor
 ·rintro ⟨r, rfl⟩
  simp
 ·rintro ⟨h1, h2⟩
  exact ⟨s.drop w.length, by have h3 := List.take_append_drop w.length s; rw [h2] at h3; exact h3⟩
set_option maxRecDepth 100000 in
theorem hasPrefix_any (S W : ByteArray) (hm : S.size ≤ 9223372036854775807 ∧ W.size ≤ 9223372036854775807) (w : World) :
  Calls Tryz.prog 107 #[.string S, .string W] w fun e w' => e = .returned (.bool (W.data.toList.isPrefixOf S.data.toList)) ∧ w' = w := by
 have hs := size_toList S
 have hw := size_toList W
 obtain ⟨q, hq⟩ := eX (W.data.toList.isPrefixOf S.data.toList)
 have HQ := h_ hq
 rw [hq]
 clear hq
 by_cases h1 : W.size ≤ S.size
 ·have i1 : (W.size : Int) ≤ (S.size : Int) := by omega
  by_cases h2 : S.data.toList.take W.size = W.data.toList
  ·have hq : q = true := by
    rw [← HQ.out, pre_take]
    exact ⟨by omega, by rw [hw]; exact h2⟩
   have e1 : ((S.extract 0 W.size).toList == W.toList) = true := by
    rw [beq_iff_eq, tl_data, tl_data, ext_data, ← h2]
    simp
   subst hq
   go_enter Tryz.func107, Tryz.ntmps107
   go_wp2_with fail
   go_ret
   exact ⟨rfl, rfl⟩
  ·have hq : q = false := by
    rw [← HQ.out, Bool.eq_false_iff]
    intro h
    rw [pre_take, hw] at h
    exact h2 h.2
   have e1 : ((S.extract 0 W.size).toList == W.toList) = false := by
    rw [beq_eq_false_iff_ne, tl_data, tl_data, ext_data]
    intro e
    refine h2 ?_
    rw [← e]
    simp
   subst hq
   go_enter Tryz.func107, Tryz.ntmps107
   go_wp2_with fail
   go_ret
   exact ⟨rfl, rfl⟩
 ·have i1 : ¬ ((W.size : Int) ≤ (S.size : Int)) := by omega
  have hq : q = false := by
   rw [← HQ.out, Bool.eq_false_iff]
   intro h
   rw [pre_take] at h
   omega
  subst hq
  go_enter Tryz.func107, Tryz.ntmps107
  go_wp2_with fail
  go_ret
  exact ⟨rfl, rfl⟩
def cutP (S W : ByteArray) : ByteArray × Bool := if W.data.toList.isPrefixOf S.data.toList then (S.extract W.size S.size, true) else (S, false)
set_option maxRecDepth 100000 in
theorem cutPrefixL_any (S W : ByteArray) (hm : S.size ≤ 9223372036854775807 ∧ W.size ≤ 9223372036854775807) (w : World) :
  Calls Tryz.prog 81 #[.string S, .string W] w fun e w' => e = .returned (.tuple #[.string (cutP S W).1, .bool (cutP S W).2]) ∧ w' = w := by
 have hs := size_toList S
 have hw := size_toList W
 have HP := h_ (hasPrefix_any S W hm w)
 unfold cutP
 cases hq : W.data.toList.isPrefixOf S.data.toList with
 | true =>
   rw [hq] at HP
   have h1 := (pre_take.1 hq).1
   have i1 : (W.size : Int) ≤ (S.size : Int) := by omega
   rw [if_pos rfl]
   clear hq h1
   go_enter Tryz.func81, Tryz.ntmps81
   go_wp2_with fail
   refine HP.out.mono ?_
   rintro e w2 ⟨rfl, rfl⟩
   go_wp2_with fail
   go_ret2
   exact ⟨rfl, rfl⟩
 | false =>
   rw [hq] at HP
   rw [if_neg (by decide)]
   clear hq
   go_enter Tryz.func81, Tryz.ntmps81
   go_wp2_with fail
   refine HP.out.mono ?_
   rintro e w2 ⟨rfl, rfl⟩
   go_wp2_with fail
   go_ret2
   exact ⟨rfl, rfl⟩
set_option maxRecDepth 100000 in
theorem cutPrefix_any (S W : ByteArray) (hm : S.size ≤ 9223372036854775807 ∧ W.size ≤ 9223372036854775807) (w : World) :
  Calls Tryz.prog 38 #[.string S, .string W] w fun e w' => e = .returned (.tuple #[.string (cutP S W).1, .bool (cutP S W).2]) ∧ w' = w := by
 have HP := h_ (cutPrefixL_any S W hm w)
 generalize cutP S W = p at *
 go_enter Tryz.func38, Tryz.ntmps38
 go_wp2_with fail
 refine HP.out.mono ?_
 rintro e w2 ⟨rfl, rfl⟩
 go_wp2_with fail
 go_ret2
 exact ⟨rfl, rfl⟩
theorem cutP_some {S W : ByteArray} {r : List UInt8} (h : behind S.data.toList W.data.toList = some r) : ∃ T : ByteArray, cutP S W = (T, true) ∧ T.data.toList = r ∧ T.size ≤ S.size := by
 unfold behind at h
 split at h
 ·rename_i hq
  cases h
  refine ⟨S.extract W.size S.size, by unfold cutP; rw [if_pos hq], ?_, ?_⟩
  ·rw [ext_data, size_toList]
   refine List.take_of_length_le ?_
   rw [List.length_drop, size_toList]
   omega
  ·have h1 := size_toList (S.extract W.size S.size)
   rw [ext_data] at h1
   rw [← h1, List.length_take, List.length_drop, size_toList]
   omega
 ·cases h
theorem cutP_none {S W : ByteArray} (h : behind S.data.toList W.data.toList = none) : cutP S W = (S, false) := by
 unfold behind at h
 split at h
 ·cases h
 ·rename_i hq
  unfold cutP
  rw [if_neg hq]
set_option maxRecDepth 100000 in
theorem idxByte_any (s : ByteArray) (c : Int) (w : World) :
  Calls Tryz.prog 129 #[.string s, .int .u8 c] w fun e w' => e = .returned (.int .i64 (Lib.indexByte s.data.toList c.toNat.toUInt8)) ∧ w' = w := by
 go_enter Tryz.func129, Tryz.ntmps129
 go_wp2
 rw [run_callFunc_extern Tryz.func141 (by kernel_rfl) (by kernel_rfl) (by kernel_rfl) (e := Extern.BytealgIndexByte.indexByte) (by kernel_rfl), Lib.run_indexByteString]
 simp only [Result.andThen]
 rw [Oper.upon_value]
 go_wp2
 go_ret
 exact ⟨rfl, rfl⟩
set_option maxRecDepth 100000 in
theorem slIndex_any (s : ByteArray) (w : World) :
  Calls Tryz.prog 109 #[.string s, .string ⟨#[47]⟩] w fun e w' => e = .returned (.int .i64 (Lib.indexByte s.data.toList 47)) ∧ w' = w := by
 go_enter Tryz.func109, Tryz.ntmps109
 go_wp2_with (refine (idxByte_any _ _ _).mono ?_; rintro e w' ⟨rfl, rfl⟩)
 all_goals first
  | (have h : ([47] == s.toList) = true := by assumption
     go_ret
     refine ⟨?_, rfl⟩
     have e : s.data.toList = [47] := by rw [← Lib.toList_data]; exact (beq_iff_eq.1 h).symm
     rw [e]
     simp [Lib.indexByte])
  | (go_ret; exact ⟨rfl, rfl⟩)
theorem index_cut (l : List UInt8) (c : UInt8) : Lib.indexByte l c = match cutI l c with
  | some i => (i : Int)
  | none => -1 := by
 induction l with
 | nil => rfl
 | cons b r ih =>
   unfold cutI at ih ⊢
   rw [List.findIdx?_cons]
   simp only [Lib.indexByte]
   by_cases hb : (b == c) = true
   ·simp [hb]
   ·have hb' : (b == c) = false := by simpa using hb
    rw [hb', if_neg (by decide), ih]
    cases h : List.findIdx? (fun x => x == c) r with
    | none => simp
    | some i =>
      have : ¬ ((i : Int) == -1) = true := by rw [beq_iff_eq]; omega
      simp only [Option.map_some]
      rw [if_neg this]
      simp
theorem cutI_lt {l : List UInt8} {c : UInt8} {i : Nat} (h : cutI l c = some i) : i < l.length := by
 unfold cutI at h
 exact (List.findIdx?_eq_some_iff_findIdx_eq.1 h).1
set_option maxRecDepth 100000 in
theorem cutL_any (S : ByteArray) (hm : S.size ≤ 9223372036854775806) (w : World) :
  Calls Tryz.prog 83 #[.string S, .string ⟨#[47]⟩] w fun e w' => (∀ i, cutI S.data.toList 47 = some i → e = .returned (.tuple #[.string (S.extract 0 i), .string (S.extract (i + 1) S.size), .bool true])) ∧
   (cutI S.data.toList 47 = none → e = .returned (.tuple #[.string S, .string ⟨#[]⟩, .bool false])) ∧ ∃ m, w' = w.drewN m := by
 have hs := size_toList S
 have HX := h_ (slIndex_any S w)
 rw [index_cut] at HX
 cases hc : cutI S.data.toList 47 with
 | none =>
   rw [hc] at HX
   go_enter Tryz.func83, Tryz.ntmps83
   go_wp2_with fail
   refine HX.out.mono ?_
   rintro e w2 ⟨rfl, rfl⟩
   go_wp2_with fail
   refine bodyPost_ret (results_tmp3 rfl _ _ _) rfl ?_
   exact ⟨fun i h => (by cases h), fun _ => rfl, 0, rfl⟩
 | some i =>
   have hil := cutI_lt hc
   rw [hc] at HX
   replace HX : Hid (Calls Tryz.prog 109 #[.string S, .string ⟨#[47]⟩] w fun e w' => e = .returned (.int .i64 (i : Int)) ∧ w' = w) := h_ HX.out
   have i0 : (0 : Int) ≤ (i : Int) := by omega
   have i1 : (i : Int) ≤ (S.size : Int) := by omega
   have i2 : (i : Int) + 1 ≤ (S.size : Int) := by omega
   have hw1 : IntKind.i64.wrap ((i : Int) + 1) = (i : Int) + 1 := by rw [IntKind.wrap_i64]; omega
   clear hc hil
   go_enter Tryz.func83, Tryz.ntmps83
   go_wp2_with fail
   refine HX.out.mono ?_
   rintro e w2 ⟨rfl, rfl⟩
   go_wp2_with fail
   go_quiet (fail)
   go_wp2_with fail
   refine bodyPost_ret (results_tmp3 rfl _ _ _) rfl ?_
   exact ⟨fun i' h => (by cases h; rfl), fun h => (by cases h), _, rfl⟩
set_option maxRecDepth 100000 in
theorem cut_any (S : ByteArray) (hm : S.size ≤ 9223372036854775806) (w : World) :
  Calls Tryz.prog 40 #[.string S, .string ⟨#[47]⟩] w fun e w' => (∀ i, cutI S.data.toList 47 = some i → e = .returned (.tuple #[.string (S.extract 0 i), .string (S.extract (i + 1) S.size), .bool true])) ∧
   (cutI S.data.toList 47 = none → e = .returned (.tuple #[.string S, .string ⟨#[]⟩, .bool false])) ∧ ∃ m, w' = w.drewN m := by
 have HX := h_ (cutL_any S hm w)
 cases hc : cutI S.data.toList 47 with
 | none =>
   rw [hc] at HX
   go_enter Tryz.func40, Tryz.ntmps40
   go_wp2_with fail
   refine HX.out.mono ?_
   rintro e w2 ⟨_, he, m, rfl⟩
   have he' := he (by trivial)
   subst he'
   clear he
   go_wp2_with fail
   refine bodyPost_ret (results_tmp3 rfl _ _ _) rfl ?_
   exact ⟨fun i h => (by cases h), fun _ => rfl, m, rfl⟩
 | some i =>
   rw [hc] at HX
   go_enter Tryz.func40, Tryz.ntmps40
   go_wp2_with fail
   refine HX.out.mono ?_
   rintro e w2 ⟨he, _, m, rfl⟩
   have he' := he i rfl
   subst he'
   clear he
   go_wp2_with fail
   refine bodyPost_ret (results_tmp3 rfl _ _ _) rfl ?_
   exact ⟨fun i' h => (by cases h; rfl), fun h => (by cases h), m, rfl⟩
theorem nmS_of {T : ByteArray} {r : List UInt8} (h : T.data.toList = r) : nameS T = nmS r := by
 unfold nmS
 rw [ba_of r T h]
set_option maxRecDepth 100000 in
theorem branch_any (S : ByteArray) (hm : S.size ≤ 9223372036854775806) (w : World) :
  Calls Tryz.prog 41 #[.string S] w fun e w' => e = .returned (.bool (branchB S.data.toList)) ∧ Below w.heap.size w w' := by
 have HC := h_ (cutPrefix_any S ⟨#[104, 101, 97, 100, 115, 47]⟩ ⟨by omega, by decide⟩ w)
 unfold branchB
 cases hb : behind S.data.toList heads with
 | none =>
   have hcp := cutP_none (S := S) (W := ⟨#[104, 101, 97, 100, 115, 47]⟩) hb
   rw [hcp] at HC
   clear hb hcp
   go_enter Tryz.func41, Tryz.ntmps41
   go_wp2_with fail
   refine HC.out.mono ?_
   rintro e w2 ⟨rfl, rfl⟩
   go_wp2_with fail
   go_ret
   exact ⟨rfl, Below.refl _ _⟩
 | some r =>
   obtain ⟨T, hcp, hT, hTl⟩ := cutP_some (S := S) (W := ⟨#[104, 101, 97, 100, 115, 47]⟩) hb
   rw [hcp] at HC
   have HN := h_ (name_any T (by omega) w)
   rw [nmS_of hT] at HN
   clear hb hcp hT
   go_enter Tryz.func41, Tryz.ntmps41
   go_wp2_with fail
   refine HC.out.mono ?_
   rintro e w2 ⟨rfl, rfl⟩
   go_wp2_with fail
   refine HN.out.mono ?_
   rintro e w3 ⟨rfl, hb3⟩
   go_wp2_with fail
   go_ret
   exact ⟨rfl, hb3⟩
set_option maxRecDepth 100000 in
theorem valid_any (S : ByteArray) (hm : S.size ≤ 9223372036854775806) (w : World) :
  Calls Tryz.prog 16 #[.string S] w fun e w' => e = .returned (.bool (validB S.data.toList)) ∧ Below w.heap.size w w' := by
 have HC := h_ (cutPrefix_any S ⟨#[116, 97, 103, 115, 47]⟩ ⟨by omega, by decide⟩ w)
 have HC2 := h_ (cutPrefix_any S ⟨#[114, 101, 109, 111, 116, 101, 115, 47]⟩ ⟨by omega, by decide⟩ w)
 unfold validB
 cases hb : behind S.data.toList tags with
 | some r =>
   obtain ⟨T, hcp, hT, hTl⟩ := cutP_some (S := S) (W := ⟨#[116, 97, 103, 115, 47]⟩) hb
   rw [hcp] at HC
   have HN := h_ (name_any T (by omega) w)
   rw [nmS_of hT] at HN
   clear hb hcp hT
   go_enter Tryz.func16, Tryz.ntmps16
   go_wp2_with fail
   refine HC.out.mono ?_
   rintro e w2 ⟨rfl, rfl⟩
   go_wp2_with fail
   refine HN.out.mono ?_
   rintro e w3 ⟨rfl, hb3⟩
   go_wp2_with fail
   go_ret
   exact ⟨rfl, hb3⟩
 | none =>
   have hcp := cutP_none (S := S) (W := ⟨#[116, 97, 103, 115, 47]⟩) hb
   rw [hcp] at HC
   clear hb hcp
   cases hb : behind S.data.toList remotes with
   | none =>
     have hcp := cutP_none (S := S) (W := ⟨#[114, 101, 109, 111, 116, 101, 115, 47]⟩) hb
     rw [hcp] at HC2
     have HB := h_ (branch_any S hm w)
     clear hb hcp
     go_enter Tryz.func16, Tryz.ntmps16
     go_wp2_with fail
     refine HC.out.mono ?_
     rintro e w2 ⟨rfl, rfl⟩
     go_wp2_with fail
     refine HC2.out.mono ?_
     rintro e w3 ⟨rfl, rfl⟩
     go_wp2_with fail
     refine HB.out.mono ?_
     rintro e w4 ⟨rfl, hb4⟩
     go_wp2_with fail
     go_ret
     exact ⟨rfl, hb4⟩
   | some r =>
     obtain ⟨T, hcp, hT, hTl⟩ := cutP_some (S := S) (W := ⟨#[114, 101, 109, 111, 116, 101, 115, 47]⟩) hb
     rw [hcp] at HC2
     have HX := h_ (cut_any T (by omega) w)
     rw [hT] at HX
     clear hb hcp
     dsimp only
     cases hc : cutI r 47 with
     | none =>
       rw [hc] at HX
       go_enter Tryz.func16, Tryz.ntmps16
       go_wp2_with fail
       refine HC.out.mono ?_
       rintro e w2 ⟨rfl, rfl⟩
       go_wp2_with fail
       refine HC2.out.mono ?_
       rintro e w3 ⟨rfl, rfl⟩
       go_wp2_with fail
       refine HX.out.mono ?_
       rintro e w4 ⟨_, he, m, rfl⟩
       have he' := he (by trivial)
       subst he'
       clear he
       go_wp2_with fail
       go_ret
       exact ⟨rfl, below_drewN (Below.refl _ _) _⟩
     | some i =>
       rw [hc] at HX
       obtain ⟨A, hA, hAs⟩ : ∃ A : ByteArray, T.extract 0 i = A ∧ A.data.toList = r.take i := ⟨_, rfl, by rw [ext_data, hT]; simp⟩
       have hTs := size_toList T
       rw [hT] at hTs
       obtain ⟨B, hB, hBs⟩ : ∃ B : ByteArray, T.extract (i + 1) T.size = B ∧ B.data.toList = r.drop (i + 1) := ⟨_, rfl, by
        rw [ext_data, hT]
        refine List.take_of_length_le ?_
        rw [List.length_drop]
        omega⟩
       have hAl : A.size ≤ 9223372036854775806 := by
        have := size_toList A
        rw [hAs, List.length_take] at this
        omega
       have hBl : B.size ≤ 9223372036854775806 := by
        have := size_toList B
        rw [hBs, List.length_drop] at this
        omega
       replace HX : Hid (Calls Tryz.prog 40 #[.string T, .string ⟨#[47]⟩] w fun e w' => e = .returned (.tuple #[.string A, .string B, .bool true]) ∧ ∃ m, w' = w.drewN m) := h_ (HX.out.mono (fun e w' h => ⟨by rw [h.1 i rfl, hA, hB], h.2.2⟩))
       have HNA : Hid (∀ w, Calls Tryz.prog 39 #[.string A] w fun e w' => e = .returned (.bool (nmS (r.take i))) ∧ Below w.heap.size w w') := h_ (fun w => by have := name_any A (by omega) w; rw [nmS_of hAs] at this; exact this)
       have HNB : Hid (∀ w, Calls Tryz.prog 39 #[.string B] w fun e w' => e = .returned (.bool (nmS (r.drop (i + 1)))) ∧ Below w.heap.size w w') := h_ (fun w => by have := name_any B (by omega) w; rw [nmS_of hBs] at this; exact this)
       dsimp only
       obtain ⟨qa, hqa⟩ := eX (nmS (r.take i))
       obtain ⟨qb, hqb⟩ := eX (nmS (r.drop (i + 1)))
       rw [hqa] at HNA ⊢
       rw [hqb] at HNB ⊢
       clear hc hA hAs hB hBs hT hTs hqa hqb
       cases qa with
       | false =>
         go_enter Tryz.func16, Tryz.ntmps16
         go_wp2_with fail
         refine HC.out.mono ?_
         rintro e w2 ⟨rfl, rfl⟩
         go_wp2_with fail
         refine HC2.out.mono ?_
         rintro e w3 ⟨rfl, rfl⟩
         go_wp2_with fail
         refine HX.out.mono ?_
         rintro e w4 ⟨rfl, m, rfl⟩
         go_wp2_with fail
         refine (HNA.out _).mono ?_
         rintro e w5 ⟨rfl, hb5⟩
         have HB5 : Hid (Below w3.heap.size w3 w5) := h_ ⟨hb5.os, hb5.tape, hb5.output, hb5.size, hb5.block⟩
         clear hb5
         go_wp2_with fail
         go_ret
         exact ⟨rfl, HB5.out⟩
       | true =>
         go_enter Tryz.func16, Tryz.ntmps16
         go_wp2_with fail
         refine HC.out.mono ?_
         rintro e w2 ⟨rfl, rfl⟩
         go_wp2_with fail
         refine HC2.out.mono ?_
         rintro e w3 ⟨rfl, rfl⟩
         go_wp2_with fail
         refine HX.out.mono ?_
         rintro e w4 ⟨rfl, m, rfl⟩
         go_wp2_with fail
         refine (HNA.out _).mono ?_
         rintro e w5 ⟨rfl, hb5⟩
         have HB5 : Hid (Below w3.heap.size w3 w5) := h_ (below_drewN (Below.refl _ _) m |>.trans (hb5.mono (Nat.le_refl _)))
         clear hb5
         go_wp2_with fail
         refine (HNB.out _).mono ?_
         rintro e w6 ⟨rfl, hb6⟩
         have HB6 := bt_ HB5 hb6
         clear hb6
         go_wp2_with fail
         go_ret
         exact ⟨rfl, HB6.out⟩
def upC (u : UpM) : List Value := strV u.name :: (b8s u.old ++ b8s u.new)
def upsC (us : List UpM) : List Value := us.flatMap upC
def upOk (u : UpM) : Prop := u.old.length = 32 ∧ u.new.length = 32 ∧ u.name.length ≤ 140737488355328
theorem upC_len {u : UpM} (h : upOk u) : (upC u).length = 65 := by
 simp [upC, b8s_length, h.1, h.2.1]
theorem upsC_len {us : List UpM} (h : ∀ u ∈ us, upOk u) : (upsC us).length = us.length * 65 := flat_length us (fun u hu => upC_len (h u hu))
theorem upsC_app (a b : List UpM) : upsC (a ++ b) = upsC a ++ upsC b := by simp [upsC]
theorem upC_one (u : UpM) : ∀ v ∈ upC u, v.oneCell' = true := by
 intro v hv
 simp only [upC, List.mem_cons, List.mem_append] at hv
 rcases hv with rfl | hv | hv
 ·rfl
 ·exact b8s_one' _ v hv
 ·exact b8s_one' _ v hv
theorem upsC_one (us : List UpM) : ∀ v ∈ upsC us, v.oneCell' = true := flat_one us (fun u _ => upC_one u)
structure QA where
 mb : Nat
 lv : Value
def rowR (g : Nat) (q : QA) (r : RfM) : List Value := .pointer (some ⟨g, 0, none⟩) :: .map (some q.mb) :: strV r.head :: (b8s r.at_ ++ [q.lv, .bool r.stuck])
structure RfIn (N : Nat) (w : World) (gr g : Nat) (r : RfM) (q : QA) : Prop where
 row : w.heap[gr]? = some (.cells (rowR g q r).toArray 83 (0, 0))
 map : w.ownsMap Tryz.prog 9 idR q.mb r.all.length (mapA idD r.all)
 log : w.ownsRow N 31 65 q.lv r.log.length (upsC r.log)
 base : N ≤ gr ∧ N ≤ q.mb
structure RfOk (r : RfM) : Prop where
 al : r.at_.length = 32
 ids : ∀ p ∈ r.all, p.2.length = 32
 log : ∀ u ∈ r.log, upOk u
 rn : risesA r.all
 hd : r.head.length ≤ 140737488355328
def footR (gr : Nat) (q : QA) (b : Nat) : Prop := b = gr ∨ b = q.mb ∨ some b = q.lv.ownBlock
section
variable {N gr g : Nat} {w w' : World} {r : RfM} {q : QA}
theorem RfIn.foot_ge (h : RfIn N w gr g r q) {b : Nat} (hf : footR gr q b) : N ≤ b := by
 rcases hf with rfl | rfl | hf
 ·exact h.base.1
 ·exact h.base.2
 ·exact (h.log.lt b hf.symm).1
theorem RfIn.foot_lt (h : RfIn N w gr g r q) {b : Nat} (hf : footR gr q b) : b < w.heap.size := by
 rcases hf with rfl | rfl | hf
 ·exact (Array.getElem?_eq_some_iff.1 h.row).1
 ·exact h.map.lt
 ·exact (h.log.lt b hf.symm).2
theorem RfIn.keep (h : RfIn N w gr g r q) (hk : ∀ b, footR gr q b → w'.heap[b]? = w.heap[b]?) : RfIn N w' gr g r q := by
 refine ⟨(hk gr (.inl rfl)).trans h.row, ?_, own_keep h.log (fun b hb _ => hk b (.inr (.inr hb.symm))), h.base⟩
 obtain ⟨es, clock, h1, h2⟩ := h.map
 exact ⟨es, clock, (hk _ (.inr (.inl rfl))).trans h1, h2⟩
theorem RfIn.below (h : RfIn N w gr g r q) (hb : Below w.heap.size w w') : RfIn N w' gr g r q := h.keep fun b hf => hb.block b (h.foot_lt hf)
theorem RfIn.frm {F : Nat → Prop} (h : RfIn N w gr g r q) (hb : Frm F w w') (hF : ∀ b, footR gr q b → ¬ F b) : RfIn N w' gr g r q := h.keep fun b hf => hb.block b (h.foot_lt hf) (hF b hf)
theorem RfIn.cells (h : RfIn N w gr g r q) : w.cell? ⟨gr, 0, none⟩ = some (.pointer (some ⟨g, 0, none⟩)) ∧ w.cell? ⟨gr, 1, none⟩ = some (.map (some q.mb)) ∧ w.cell? ⟨gr, 2, none⟩ = some (strV r.head) :=
 ⟨by rw [row_cell h.row 0]; rfl, by rw [row_cell h.row 1]; rfl, by rw [row_cell h.row 2]; rfl⟩
theorem rowR_tail (g : Nat) (q : QA) (r : RfM) (ha : r.at_.length = 32) : (rowR g q r).toArray[35]? = some q.lv ∧ (rowR g q r).toArray[36]? = some (.bool r.stuck) := by
 have hl : (b8s r.at_).length = 32 := by rw [b8s_length, ha]
 constructor
 ·simp only [rowR, List.getElem?_toArray, List.getElem?_cons_succ]
  rw [List.getElem?_append_right (by omega), hl]
  rfl
 ·simp only [rowR, List.getElem?_toArray, List.getElem?_cons_succ]
  rw [List.getElem?_append_right (by omega), hl]
  rfl
theorem RfIn.tail (h : RfIn N w gr g r q) (ha : r.at_.length = 32) : w.cell? ⟨gr, 35, none⟩ = some q.lv ∧ w.cell? ⟨gr, 36, none⟩ = some (.bool r.stuck) :=
 ⟨by rw [row_cell h.row 35]; exact (rowR_tail g q r ha).1, by rw [row_cell h.row 36]; exact (rowR_tail g q r ha).2⟩
theorem RfIn.froz (h : RfIn N w gr g r q) (j : Nat) : w.frozen? ⟨gr, j, none⟩ = false := row_free h.row j
theorem RfIn.at_ (h : RfIn N w gr g r q) : w.rangeAt gr 3 (b8s r.at_) := fun j v hv => by
 rw [row_cell h.row]
 have hj := (List.getElem?_eq_some_iff.1 hv).1
 simp only [rowR, List.getElem?_toArray]
 rw [show 3 + j = (j + 1 + 1) + 1 by omega, List.getElem?_cons_succ, List.getElem?_cons_succ, List.getElem?_cons_succ, List.getElem?_append_left hj]
 exact hv
theorem rlook_any {b n : Nat} {ns : AL (List UInt8)} (h : w.ownsMap Tryz.prog 9 idR b n (mapA idD ns)) (S : ByteArray) (hs : S.size ≤ maxLen) :
  (Instr.lookup 81 (.map (some b)) (.string S) false).run Tryz.prog w = .ok (.agg (b8s (getA ns S.data.toList)).toArray) w := by
 obtain ⟨v, ps, hr, hR⟩ := h.lookup keyed_str Tryz.underlying81 (z := .agg (b8s Z32).toArray) (by kernel_rfl) (zd := idD Z32) (zp := []) (idR_id Z32) (key := .string S) (kl := .string S.data.toList) (WideMaps.keyOf_string_mk Tryz.underlying9 hs)
 have hv : v = .agg (b8s (getA ns S.data.toList)).toArray := by
  rw [mapA_at] at hR
  unfold getA
  cases hfn : findA ns S.data.toList with
  | none =>
    rw [hfn] at hR
    exact idR_inv hR
  | some f =>
    rw [hfn] at hR
    exact idR_inv hR
 rw [hr, hv]
theorem findA_mem {α : Type} {ns : AL α} {s : List UInt8} {f : α} (h : findA ns s = some f) : ∃ p ∈ ns, p.2 = f := by
 unfold findA at h
 obtain ⟨p, hp, rfl⟩ := Option.map_eq_some_iff.1 h
 exact ⟨p, List.mem_of_find?_eq_some hp, rfl⟩
theorem getA_len {ns : AL (List UInt8)} (h : ∀ p ∈ ns, p.2.length = 32) (s : List UInt8) : (getA ns s).length = 32 := by
 unfold getA
 cases hf : findA ns s with
 | none => rfl
 | some f =>
   obtain ⟨p, hp, rfl⟩ := findA_mem hf
   exact h p hp
end
theorem info_idl (bs : List UInt8) (h : bs.length = 32) : (Tryz.prog.info? 24).map (·.size) = some (b8s bs).length := by
 rw [b8s_length, h]
 kernel_rfl
theorem info_ida (bs : List UInt8) (h : bs.length = 32) : (Tryz.prog.info? 24).map (·.size) = some (b8s bs).toArray.size := by
 rw [arr_size bs h]
 kernel_rfl
set_option maxRecDepth 100000 in
set_option maxHeartbeats 2000000 in
theorem get_any {N gr g : Nat} {w : World} {r : RfM} {q : QA} (h : RfIn N w gr g r q) (hk : RfOk r) (S : ByteArray) (hs : S.size ≤ maxLen) :
  Calls Tryz.prog 15 #[.pointer (some ⟨gr, 0, none⟩), .string S] w fun e w' => e = .returned (.agg (b8s (getA r.all S.data.toList)).toArray) ∧ Below w.heap.size w w' := by
 obtain ⟨id, hid⟩ := eX (getA r.all S.data.toList)
 have hl : id.length = 32 := by rw [← hid]; exact getA_len hk.ids _
 obtain ⟨Hz, Wa, W5, hH, hWa, hW5, HTH, HR5, HB5, _⟩ := arr_place (w := w) 24 id hl
 have hba : Below w.heap.size w Wa := by rw [← hWa]; exact (Below.refl _ _).alloc (Nat.le_refl _) _
 have ha := h.below hba
 have c1 : Wa.cell? ⟨gr, 1, none⟩ = some (.map (some q.mb)) := ha.cells.2.1
 have hlk := rlook_any ha.map S hs
 rw [hid] at hlk ⊢
 have HIA := h_ (info_ida id hl)
 have HOC : Hid ((b8s id).toArray.all (·.oneCell') = true) := h_ (all_oneCell_toArray (b8s_one' _))
 have HW5 := h_ hW5
 clear h hk hid ha hba hW5
 go_enter Tryz.func15, Tryz.ntmps15
 go_wp2_with ((with_reducible (refine wpList_store_mid rfl _ _ _ rfl ?_ ?_ ?_ ?_ ?_ ?_ ?_ ?_ ?_)); exact Hz; exact 0; (exact (b8s id).toArray); exact rfl; exact rfl; exact HTH.out; exact HIA.out; exact HOC.out; rw [HW5.out])
 exact bodyPost_ret (results_row1 rfl _ _ _ _ _ _ _ rfl HR5.out Tryz.underlying24 rfl HIA.out) rfl ⟨rfl, by first | exact HB5.out | (rw [← hH]; exact HB5.out)⟩
end Go.Proofs.YtelbofikcpchiaaGreat
