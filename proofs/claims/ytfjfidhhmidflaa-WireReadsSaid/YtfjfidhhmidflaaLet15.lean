
/- Lists of rows that a reading makes; wire.getIDs. -/

import Derived.Test.YtfjfidhhmidflaaLet3

import Derived.Test.YtfjfidhhmidflaaEncReadK

import Derived.Great.BuildSlice

namespace Go.Proofs.Ytfjfidhhmidflaa

set_option linter.unusedVariables false

set_option linter.unusedSimpArgs false

open Go.RowKit

/-! ### a slice literal of one row -/

theorem fold_splice (off : Nat) : ∀ (vs p q r : List Value) (k : Nat), p.length = off + k → q.length = vs.length →
    (vs.zipIdx k).foldl (fun (cs : Array Value) (x : Value × Nat) => cs.setIfInBounds (off + x.2) x.1) (p ++ q ++ r).toArray = (p ++ vs ++ r).toArray
  | [], p, q, r, k, hp, hq => by
    have : q = [] := List.eq_nil_of_length_eq_zero hq
    subst this
    rfl
  | v :: vs, p, [], r, k, hp, hq => by simp at hq
  | v :: vs, p, x :: q, r, k, hp, hq => by
    rw [List.zipIdx_cons, List.foldl_cons]
    have e : (p ++ x :: q ++ r).toArray.setIfInBounds (off + k) v = ((p ++ [v]) ++ q ++ r).toArray := by
      rw [List.setIfInBounds_toArray, ← hp]
      congr 1
      simp [List.set_append]
    rw [e]
    have := fold_splice off vs (p ++ [v]) q r (k + 1) (by simp; omega) (by simpa using hq)
    rw [this]
    simp
theorem fill_one (place : Nat → Option (Nat × Nat)) (p q r vs : List Value) (rest : List (Nat × Value)) (i : Nat) (hpl : place i = some (p.length, vs.length)) (hq : q.length = vs.length) :
    Instr.fill place (p ++ q ++ r).toArray ((i, .agg vs.toArray) :: rest) = Instr.fill place (p ++ vs ++ r).toArray rest := by
  have h1 : (Value.agg vs.toArray).cells = vs.toArray := rfl
  have h2 := fold_splice p.length vs p q r 0 (by simp) hq
  simp only [Instr.fill, hpl, h1]
  rw [if_neg (by simp; omega)]
  congr 1
  rw [← Array.foldl_toList, Array.toList_zipIdx]
  exact h2
section

variable {P : Program} {ops : Array Oper} {rest : List Oper} {o : Oper} {a : Act} {w : World} {Q : Exit → Act → World → Prop}

theorem wpList_build1 (hg : o.guard = none) (t e : TypeId) (x : Operand) (ho : o.op = .buildSlice t 1 #[(0, x)]) (cs : List Value) (hx : a.eval x = .agg cs.toArray)
    (hu : P.underlying t = some (.slice e)) (hi : (P.info? e).map (fun i => (i.size, i.zero.isSome)) = some (cs.length, true)) (hpos : 0 < cs.length) (hs : cs.length ≤ 2 ^ 24)
    (h : wpList P ops Q rest (a.put o.dst (.slice (some ⟨w.heap.size, 0, none⟩) 1 1)) (w.alloc (.cells cs.toArray e))) : wpList P ops Q (o :: rest) a w := by
  cases hie : P.info? e with
  | none => simp [hie] at hi
  | some ie =>
    simp only [hie, Option.map_some, Option.some.injEq, Prod.mk.injEq] at hi
    obtain ⟨z, hz⟩ := Option.isSome_iff_exists.1 hi.2
    refine wpList_buildSlice hg t e 1 #[(0, x)] ho cs.toArray ie z hu hie hz (by rw [hi.1]; omega) (by rw [hi.1]; omega) ?_ h
    have e1 : (#[(0, x)].map fun (i, x) => (i, a.eval x)).toList = [(0, .agg cs.toArray)] := by simp [hx]
    rw [e1]
    obtain ⟨q, hq⟩ : ∃ q : List Value, ((Array.range (1 * ie.size)).map (z.cells[· % z.cells.size]!)) = ([] ++ q ++ []).toArray := ⟨((Array.range (1 * ie.size)).map (z.cells[· % z.cells.size]!)).toList, by rw [List.nil_append, List.append_nil, Array.toArray_toList]⟩
    have hql : q.length = cs.length := by
      have := congrArg Array.size hq
      simp at this
      omega
    rw [hq, fill_one _ [] q [] cs [] 0 (by simp [hi.1]) hql]
    simp [Instr.fill]
end

theorem grown_new {w w1 w2 : World} {r g : Nat} (h : w.grownBy w1 (some r)) (hg : w.heap.size ≤ g) (k : w1.grownBy w2 (some g)) : w.grownBy w2 (some r) :=
  ⟨k.os.trans h.os, k.tape.trans h.tape, k.output.trans h.output, Nat.le_trans h.size k.size, fun i hi hne => (k.block i (Nat.lt_of_lt_of_le hi h.size) (fun e => by have := Option.some.inj e; omega)).trans (h.block i hi hne)⟩
theorem grown_none {w w1 : World} (h : w.grownBy w1 none) : Below w.heap.size w w1 := ⟨h.os, h.tape, h.output, h.size, fun i hi => h.block i hi (by simp)⟩
theorem grown_own {w w1 w2 : World} {r : Nat} {vb : Option Nat} (h : w.grownBy w1 (some r)) (hv : ∀ b, vb = some b → w.heap.size ≤ b) (k : w1.grownBy w2 vb) : w.grownBy w2 (some r) := by
  cases vb with
  | none => exact grown_trans1 h (grown_of_below (grown_none k))
  | some b => exact grown_new h (hv b rfl) k
theorem RdrK.own {w w' : World} {g K : Nat} {st : St} {vb : Option Nat} (h : RdrK w g K st) (hv : ∀ b, vb = some b → K ≤ b ∧ g ≠ b) (hg : w.grownBy w' vb) : RdrK w' g K st := by
  cases vb with
  | none => exact h.below (grown_none hg)
  | some b => exact h.far (hv b rfl).2 (hv b rfl).1 hg
theorem own_far {w w' : World} {base : Nat} {e : TypeId} {size : Nat} {v : Value} {n : Nat} {xs : List Value} {r : Nat} (h : w.ownsRow base e size v n xs) (hr : r < base) (hg : w.grownBy w' (some r)) : w'.ownsRow base e size v n xs :=
  own_keep h fun b hb hlt => hg.block b hlt (by have := (h.lt b hb).1; simp; omega)

/-! ### plain: IDs that are read -/

def idsK : Nat → St → List (List UInt8) × St
  | 0, st => ([], st)
  | k + 1, st => let a := idsK k st; let b := getId a.2; (a.1 ++ [b.1], b.2)
def getIds (st : St) (most : Int) : List (List UInt8) × St := idsK (getNum st most).1 (getNum st most).2
theorem numS_most (most : Int) : ∀ (f i acc : Nat) (bs : List UInt8) (n : Nat) (r : List UInt8), numS most f i acc bs = some (n, r) → (n : Int) ≤ most
  | 0, _, _, _, _, _, h => by simp [numS] at h
  | _ + 1, _, _, [], _, _, h => by simp [numS] at h
  | f + 1, i, acc, c :: bs, n, r, h => by
    unfold numS at h
    split at h
    · exact numS_most most f _ _ bs n r h
    · split at h
      · cases h
      · rename_i h1
        cases h
        omega
theorem getNum_most (st : St) (most : Int) (hm : 0 ≤ most) : ((getNum st most).1 : Int) ≤ most := by
  unfold getNum
  split
  · simpa using hm
  · split
    · simpa using hm
    · rename_i h
      exact numS_most most _ _ _ _ _ _ h
theorem idsK_len (k : Nat) (st : St) : (idsK k st).1.length = k ∧ iOk (idsK k st).1 := by
  induction k with
  | zero => exact ⟨rfl, fun i hi => by cases hi⟩
  | succ k ih =>
    refine ⟨by simp [idsK, ih.1], fun i hi => ?_⟩
    simp only [idsK, List.mem_append, List.mem_singleton] at hi
    rcases hi with hi | rfl
    · exact ih.2 i hi
    · exact getId_len _
theorem idc_snoc (a : List (List UInt8)) (b : List UInt8) : idc (a ++ [b]) = idc a ++ b8s b := by simp [idc]
theorem info_ids : (Try.prog.info? 25).map (fun i => (i.size, i.zero.isSome)) = some (32, true) := by kernel_rfl
theorem info_ids2 : (Try.prog.info? 25).map (fun i => (i.zero, i.size, i.bytes)) = some (some (.agg (b8s zeros32).toArray), 32, 32) := by rw [zeros32_cells]; kernel_rfl

set_option maxRecDepth 100000 in
set_option maxHeartbeats 4000000 in
theorem getIDs_any (K r : Nat) (st : St) (most : Int) (w : World) (h : RdrK w r K st) (hK : K ≤ w.heap.size) (hm0 : 0 ≤ most) (hm : most ≤ 100000) :
    Calls Try.prog 40 #[.pointer (some ⟨r, 0, none⟩), .int .i64 most] w fun e w' => ∃ v, e = .returned v ∧ w'.ownsRow w.heap.size 25 32 v (getIds st most).1.length (idc (getIds st most).1) ∧ RdrK w' r K (getIds st most).2 ∧ w.grownBy w' (some r) := by
  have HRL := Lib.hid h.m.lt
  have HK := Lib.hid hK
  have HN := Lib.hid (rdnum_k K r st most w h)
  obtain ⟨n, hn⟩ : ∃ n, (getNum st most).1 = n := ⟨_, rfl⟩
  obtain ⟨s0, hs0⟩ : ∃ s, (getNum st most).2 = s := ⟨_, rfl⟩
  have HNB : Hid (n ≤ 100000) := Lib.hid (by
    have := getNum_most st most hm0
    omega)
  have HR : Hid (getIds st most = idsK n s0) := Lib.hid (by unfold getIds; rw [hn, hs0])
  rw [HR.out]
  rw [hn, hs0] at HN
  clear h hn hs0 hK hm hm0
  go_enter Try.func40, Try.ntmps40
  go_wp2_with fail
  refine HN.out.mono ?_
  rintro e w1 ⟨rfl, hm1, hg1⟩
  have HM1 : Hid (RdrK w1 r K (idsK 0 s0).2) := Lib.hid hm1
  have HG1 := Lib.hid hg1
  have HO1 : Hid (w1.ownsRow w.heap.size 25 32 (.slice none 0 0) 0 (idc (idsK 0 s0).1)) := Lib.hid (World.ownsRow_nil _ _ _ _)
  clear hm1 hg1 HN
  go_wp2_with fail
  go_loopg [5, 9] (n * 1) (fun gk_ v s wr => ∃ (k : Nat), k ≤ n ∧ gk_ = n - k ∧ s = .int .i64 (k : Int) ∧ Hid (RdrK wr r K (idsK k s0).2) ∧ Hid (wr.ownsRow w.heap.size 25 32 v k (idc (idsK k s0).1)) ∧ Hid (w.grownBy wr (some r)))
  case atStart => exact ⟨0, by omega, by omega, rfl, HM1, HO1, HG1⟩
  case round =>
    clear HM1 HO1 HG1
    obtain ⟨k, hk, rfl, rfl, HM, HO, HG⟩ := hrel
    have hnb := HNB.out
    by_cases hlt : k < n
    · have i1 : (k : Int) < (n : Int) := by omega
      go_wp2_with fail
      refine (rdid_k K r (idsK k s0).2 wr HM.out (Nat.le_trans HK.out HG.out.size)).mono ?_
      rintro e w2 ⟨rfl, hm2, hg2⟩
      obtain ⟨id, hid⟩ : ∃ id, (getId (idsK k s0).2).1 = id := ⟨_, rfl⟩
      have hil : id.length = 32 := by rw [← hid]; exact getId_len _
      have hnx : (idsK (k + 1) s0).1 = (idsK k s0).1 ++ [id] := by rw [← hid]; rfl
      have hnx2 : (idsK (k + 1) s0).2 = (getId (idsK k s0).2).2 := rfl
      rw [← hnx2] at hm2
      rw [hid]
      have ho2 := own_far HO.out HRL.out hg2
      have hg02 := grown_trans1 HG.out hg2
      have HIL := Lib.hid hil
      have HNX := Lib.hid hnx
      have HO2 := Lib.hid ho2
      have HM2 := Lib.hid hm2
      have HG2 := Lib.hid hg02
      obtain ⟨W3, hW3⟩ : ∃ W, w2.alloc (.cells (b8s id).toArray 25) = W := ⟨_, rfl⟩
      obtain ⟨r3, b3, s3⟩ := new_row hW3
      have HO3 := Lib.hid (own_below ho2 b3)
      have HM3 := Lib.hid (hm2.below b3)
      have HG3 := Lib.hid (grown_trans1 hg02 (grown_of_below b3))
      have HR3 : Hid (Rd W3 (some ⟨w2.heap.size, 0, none⟩) (b8s id)) := Lib.hid (range_rd (range_of_row r3))
      have HW3 := Lib.hid hW3
      have HBA := Lib.hid (Nat.le_trans HG.out.size (Nat.le_trans hg2.size (by omega : w2.heap.size ≤ W3.heap.size)))
      clear hid hil hnx hnx2 ho2 hg02 hm2 hg2 r3 b3 s3 hW3
      go_wp2_with (first
        | (refine wpList_build1 rfl _ 25 _ rfl (b8s id) rfl Try.underlying23 (by rw [b8s_length, HIL.out]; exact info_ids) (by rw [b8s_length, HIL.out]; decide) (by rw [b8s_length, HIL.out]; decide) ?_; rw [HW3.out])
        | (at_builtin; refine wpList_append_rd _ rfl _ _ 23 rfl w.heap.size 25 _ 32 32 Try.underlying23 info_ids2 (by rw [zeros32_cells]; rfl) (by decide) _ k _ rfl HO3.out _ 1 1 (b8s id) rfl (by rw [b8s_length, HIL.out]) HR3.out (b8s_one' _) (by unfold maxLen; omega) (by omega) HBA.out ?_; intro v4 w4 ho4 hg4 hvb4))
      have HM4 : Hid (RdrK w4 r K (idsK (k + 1) s0).2) := Lib.hid (HM3.out.own (fun b hb => by have := (HO3.out.lt b hb).1; have := HK.out; have := HRL.out; omega) hg4)
      have HO4 : Hid (w4.ownsRow w.heap.size 25 32 v4 (k + 1) (idc (idsK (k + 1) s0).1)) := Lib.hid (by rw [HNX.out, idc_snoc]; exact ho4)
      have HG4 := Lib.hid (grown_own HG3.out (fun b hb => (HO3.out.lt b hb).1) hg4)
      clear ho4 hg4 hvb4
      go_roundg (n - (k + 1))
      case measure => omega
      case rel => exact ⟨k + 1, by omega, by first | rfl | exact congrArg (Value.int .i64) (by omega) | go_num, by first | rfl | exact congrArg (Value.int .i64) (by omega) | go_num, HM4, HO4, HG4⟩
    · obtain rfl : k = n := by omega
      go_wp2_with fail
      go_ret
      exact ⟨_, rfl, by rw [(idsK_len k s0).1]; exact HO.out, HM.out, HG.out⟩
end Go.Proofs.Ytfjfidhhmidflaa
