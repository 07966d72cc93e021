
/- A proper beginning of an operation's bytes is read as none. Plain. -/

import Derived.Test.YtabkgoandfpclaaStPre

import Derived.Test.YtabkgoandfpclaaStBack

namespace Go.Proofs.Ytabkgoandfpclaa

set_option linter.unusedVariables false

set_option linter.unusedSimpArgs false

open Go.RowKit

def rawMove (st : St) : (Nat × Stm × Stm × Stm × List UInt8) × St :=
  (((getNum st 2).1, (getS (getNum st 2).2).1, (getS (getS (getNum st 2).2).2).1, (getS (getS (getS (getNum st 2).2).2).2).1, (getText (getS (getS (getS (getNum st 2).2).2).2).2 60).1), (getText (getS (getS (getS (getNum st 2).2).2).2).2 60).2)
theorem rawMove_ext : Ext rawMove :=
  (getNum_ext 2).bind (g := fun x st => ((x, (getS st).1, (getS (getS st).2).1, (getS (getS (getS st).2).2).1, (getText (getS (getS (getS st).2).2).2 60).1), (getText (getS (getS (getS st).2).2).2 60).2)) (fun x =>
    getS_ext.bind (g := fun a st => ((x, a, (getS st).1, (getS (getS st).2).1, (getText (getS (getS st).2).2 60).1), (getText (getS (getS st).2).2 60).2)) (fun a =>
      getS_ext.bind (g := fun b st => ((x, a, b, (getS st).1, (getText (getS st).2 60).1), (getText (getS st).2 60).2)) (fun b =>
        getS_ext.bind (g := fun c st => ((x, a, b, c, (getText st 60).1), (getText st 60).2)) (fun c => (getText_ext 60).map (fun d => (x, a, b, c, d))))))
def rawEdit (st : St) : (Nat × Stm × Stm × List UInt8 × List Stm) × St :=
  (((getNum st 2).1, (getS (getNum st 2).2).1, (getS (getS (getNum st 2).2).2).1, (getId (getS (getS (getNum st 2).2).2).2).1, (getL (getNum (getId (getS (getS (getNum st 2).2).2).2).2 64).1 (getNum (getId (getS (getS (getNum st 2).2).2).2).2 64).2).1), (getL (getNum (getId (getS (getS (getNum st 2).2).2).2).2 64).1 (getNum (getId (getS (getS (getNum st 2).2).2).2).2 64).2).2)
theorem rawEdit_ext : Ext rawEdit :=
  (getNum_ext 2).bind (g := fun x st => ((x, (getS st).1, (getS (getS st).2).1, (getId (getS (getS st).2).2).1, (getL (getNum (getId (getS (getS st).2).2).2 64).1 (getNum (getId (getS (getS st).2).2).2 64).2).1), (getL (getNum (getId (getS (getS st).2).2).2 64).1 (getNum (getId (getS (getS st).2).2).2 64).2).2)) (fun x =>
    getS_ext.bind (g := fun a st => ((x, a, (getS st).1, (getId (getS st).2).1, (getL (getNum (getId (getS st).2).2 64).1 (getNum (getId (getS st).2).2 64).2).1), (getL (getNum (getId (getS st).2).2 64).1 (getNum (getId (getS st).2).2 64).2).2)) (fun a =>
      getS_ext.bind (g := fun b st => ((x, a, b, (getId st).1, (getL (getNum (getId st).2 64).1 (getNum (getId st).2 64).2).1), (getL (getNum (getId st).2 64).1 (getNum (getId st).2 64).2).2)) (fun b =>
        getId_ext.bind (g := fun d st => ((x, a, b, d, (getL (getNum st 64).1 (getNum st 64).2).1), (getL (getNum st 64).1 (getNum st 64).2).2)) (fun d =>
          (getNum_ext 64).bind (g := fun n st => ((x, a, b, d, (getL n st).1), (getL n st).2)) (fun n => (getL_ext n).map (fun l => (x, a, b, d, l)))))))
def opMove (x : Nat × Stm × Stm × Stm × List UInt8) : OpM := { op0 with kind := 1, at_ := x.2.1, node := x.2.2.1, par := x.2.2.2.1, name := ⟨x.2.2.2.2.toArray⟩ }
def opEdit (x : Nat × Stm × Stm × List UInt8 × List Stm) : OpM := { op0 with kind := (x.1 : Int), at_ := x.2.1, node := x.2.2.1, data := x.2.2.2.1, os := x.2.2.2.2 }
theorem getMove_raw (st : St) : getMove st = if (rawMove st).2.isSome && goodO (opMove (rawMove st).1) then (opMove (rawMove st).1, (rawMove st).2) else (op0, none) := rfl
theorem getEdit_raw (st : St) : getEdit st = if (rawEdit st).2.isSome && goodO (opEdit (rawEdit st).1) then (opEdit (rawEdit st).1, (rawEdit st).2) else (op0, none) := rfl
theorem fin_ext {α : Type} {f : St → α × St} (hf : Ext f) (m : α → OpM) (p t r : List UInt8) (h : (if (f (some p)).2.isSome && goodO (m (f (some p)).1) then (m (f (some p)).1, (f (some p)).2) else (op0, none)).2 = some r) :
    (if (f (some (p ++ t))).2.isSome && goodO (m (f (some (p ++ t))).1) then (m (f (some (p ++ t))).1, (f (some (p ++ t))).2) else (op0, none)).2 = some (r ++ t) := by
  by_cases hc : ((f (some p)).2.isSome && goodO (m (f (some p)).1)) = true
  · rw [if_pos hc] at h
    dsimp only at h
    have h2 : f (some p) = ((f (some p)).1, some r) := by rw [← h]
    have hg : goodO (m (f (some p)).1) = true := by simp only [Bool.and_eq_true] at hc; exact hc.2
    rw [hf.more p t _ r h2]
    dsimp only
    rw [if_pos (by rw [hg]; rfl)]
  · rw [if_neg hc] at h
    cases h
theorem getOp_ext (p t r : List UInt8) (h : (getOpM (some p)).2 = some r) : (getOpM (some (p ++ t))).2 = some (r ++ t) := by
  have hsome : ∃ n q, getNum (some p) 2 = (n, some q) := by
    cases hq : (getNum (some p) 2).2 with
    | some q => exact ⟨_, q, by rw [← hq]⟩
    | none =>
      exfalso
      unfold getOpM at h
      split at h
      · rw [getMove_raw] at h
        have : (rawMove (some p)).2 = none := by
          unfold rawMove
          dsimp only
          rw [hq, getS_ext.none, getS_ext.none, getS_ext.none]
          rfl
        rw [this] at h
        simp at h
      · rw [getEdit_raw] at h
        have : (rawEdit (some p)).2 = none := by
          unfold rawEdit
          dsimp only
          rw [hq, getS_ext.none, getS_ext.none, getId_ext.none]
          exact (getL_ext _).none
        rw [this] at h
        simp at h
  obtain ⟨n, q, hn⟩ := hsome
  have hn2 := (getNum_ext 2).more p t n q hn
  unfold getOpM at h ⊢
  rw [hn] at h
  rw [hn2]
  by_cases h1 : n = 1
  · rw [if_pos h1] at h ⊢
    rw [getMove_raw] at h ⊢
    exact fin_ext rawMove_ext opMove p t r h
  · rw [if_neg h1] at h ⊢
    rw [getEdit_raw] at h ⊢
    exact fin_ext rawEdit_ext opEdit p t r h
/-- a proper beginning is read as none -/
theorem getOp_take (o : OpM) (hlen : o.data.length = 32) (hg : goodO o = true) (k : Nat) (hk : k < (opB o).length) : (getOpM (some ((opB o).take k))).2 = none := by
  cases h : (getOpM (some ((opB o).take k))).2 with
  | none => rfl
  | some r =>
    exfalso
    have h2 := getOp_ext _ ((opB o).drop k) r h
    rw [List.take_append_drop, getOp_back o hlen hg] at h2
    simp only [Option.some.injEq] at h2
    have h3 := congrArg List.length h2
    rw [List.length_append, List.length_drop] at h3
    simp at h3
    omega
/-- two right operations have the same bytes just if they are the same -/
theorem opB_same (a b : OpM) (ha : a.data.length = 32) (hb : b.data.length = 32) (ga : goodO a = true) (gb : goodO b = true) : decide (opB a = opB b) = sameO a b := by
  by_cases h : opB a = opB b
  · rw [decide_eq_true h]
    have h1 := getOp_back a ha ga
    rw [h, getOp_back b hb gb] at h1
    have h2 : ({ b with ov := .slice none 0 0 } : OpM) = { a with ov := .slice none 0 0 } := congrArg Prod.fst h1
    have h3 : sameO a b = sameO { a with ov := .slice none 0 0 } b := rfl
    rw [h3, ← h2]
    symm
    unfold sameO
    simp
  · rw [decide_eq_false h]
    symm
    rw [Bool.eq_false_iff]
    intro hs
    apply h
    unfold sameO at hs
    simp only [Bool.and_eq_true, beq_iff_eq, decide_eq_true_eq] at hs
    obtain ⟨⟨⟨⟨⟨⟨e1, e2⟩, e3⟩, e4⟩, e5⟩, e6⟩, e7⟩ := hs
    have e8 : a.name.data.toList = b.name.data.toList := by rw [← Lib.toList_data, ← Lib.toList_data]; exact e5
    unfold opB
    rw [e1, e2, e3, e4, e6, e7, e8]
end Go.Proofs.Ytabkgoandfpclaa
