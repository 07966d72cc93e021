
/- A beginning of bytes: what is read of it is read of the whole. Plain. -/

import Derived.Test.YtabkgoandfpclaaGet3

namespace Go.Proofs.Ytabkgoandfpclaa

set_option linter.unusedVariables false

set_option linter.unusedSimpArgs false

open Go.RowKit

theorem numS_ext (mo : Int) (t : List UInt8) : ∀ (f i acc : Nat) (p : List UInt8) (n : Nat) (r : List UInt8), numS mo f i acc p = some (n, r) → numS mo f i acc (p ++ t) = some (n, r ++ t)
  | 0, i, acc, p, n, r, h => by simp [numS] at h
  | f + 1, i, acc, [], n, r, h => by simp [numS] at h
  | f + 1, i, acc, c :: p, n, r, h => by
    simp only [numS, List.cons_append] at h ⊢
    split
    · rename_i hc
      rw [if_pos hc] at h
      exact numS_ext mo t f _ _ p n r h
    · rename_i hc
      rw [if_neg hc] at h
      split
      · rename_i hd
        rw [if_pos hd] at h
        cases h
      · rename_i hd
        rw [if_neg hd] at h
        simp only [Option.some.injEq, Prod.mk.injEq] at h ⊢
        exact ⟨h.1, by rw [h.2]⟩

/-- what answers of a beginning answers so of the whole; what has failed stays so -/
structure Ext {α : Type} (f : St → α × St) : Prop where
  more : ∀ p t a r, f (some p) = (a, some r) → f (some (p ++ t)) = (a, some (r ++ t))
  none : (f none).2 = none
theorem getNum_ext (mo : Int) : Ext (fun st => getNum st mo) := by
  refine ⟨fun p t a r h => ?_, rfl⟩
  unfold getNum at h ⊢
  dsimp only at h ⊢
  cases hn : numS mo 9 0 0 p with
  | none => rw [hn] at h; simp at h
  | some x =>
    obtain ⟨n, r'⟩ := x
    rw [hn] at h
    simp only [Prod.mk.injEq, Option.some.injEq] at h
    rw [numS_ext mo t 9 0 0 p n r' hn]
    simp only [Prod.mk.injEq, Option.some.injEq]
    exact ⟨h.1, by rw [h.2]⟩
theorem getN_ext (n : Nat) : Ext (fun st => getN st n) := by
  refine ⟨fun p t a r h => ?_, rfl⟩
  unfold getN at h ⊢
  dsimp only at h ⊢
  by_cases hn : n ≤ p.length
  · rw [if_pos hn] at h
    rw [if_pos (by rw [List.length_append]; omega)]
    simp only [Prod.mk.injEq, Option.some.injEq] at h ⊢
    rw [List.take_append_of_le_length hn, List.drop_append_of_le_length hn, h.2]
    exact ⟨h.1, rfl⟩
  · rw [if_neg hn] at h
    simp at h
/-- one behind the other -/
theorem Ext.bind {α β : Type} {f : St → α × St} {g : α → St → β × St} (hf : Ext f) (hg : ∀ a, Ext (g a)) : Ext (fun st => g (f st).1 (f st).2) := by
  refine ⟨fun p t b r h => ?_, ?_⟩
  · cases h1 : (f (some p)).2 with
    | none =>
      rw [h1] at h
      have := (hg (f (some p)).1).none
      rw [h] at this
      cases this
    | some q =>
      have h2 : f (some p) = ((f (some p)).1, some q) := by rw [← h1]
      rw [hf.more p t _ q h2]
      rw [h1] at h
      exact (hg _).more q t b r h
  · rw [hf.none]
    exact (hg _).none
theorem Ext.map {α β : Type} {f : St → α × St} (hf : Ext f) (m : α → β) : Ext (fun st => (m (f st).1, (f st).2)) := by
  refine ⟨fun p t b r h => ?_, hf.none⟩
  simp only [Prod.mk.injEq] at h
  have h2 : f (some p) = ((f (some p)).1, some r) := by rw [← h.2]
  rw [hf.more p t _ r h2]
  exact Prod.ext h.1 rfl
theorem getS_ext : Ext getS := (getNum_ext 1099511627776).bind (g := fun (a : Nat) (st : St) => ((⟨(a : Int), ((getNum st 65536).1 : Int)⟩ : Stm), (getNum st 65536).2)) (fun a => (getNum_ext 65536).map (fun b => (⟨(a : Int), (b : Int)⟩ : Stm)))
theorem getText_ext (mo : Int) : Ext (fun st => getText st mo) := (getNum_ext mo).bind (g := fun n st => getN st n) (fun n => getN_ext n)
theorem getId_ext : Ext getId := (getN_ext 32).map padId
theorem getL_ext : ∀ n, Ext (getL n)
  | 0 => ⟨fun p t a r h => by simp only [getL, Prod.mk.injEq, Option.some.injEq] at h ⊢; exact ⟨h.1, by rw [h.2]⟩, rfl⟩
  | n + 1 => (getL_ext n).bind (g := fun l st => (l ++ [(getS st).1], (getS st).2)) (fun l => getS_ext.map (fun s => l ++ [s]))
end Go.Proofs.Ytabkgoandfpclaa
