
/- Stable sorting over arrays, plain law: what rotate, symMerge, the insertion sort and stable leave of a list (sorted, equal ones as they stood). No program. (With the texts that it stands on.) -/

import Derived.Test.YtabkgoandfpclaaBase

import Derived.Sort.Defs

import Derived.Sort.LotA

import Derived.Sort.Lot0

/-! Stable sorting, plain: what stays of a list, the merge by symmetric decomposition. No program. -/

namespace Go.Proofs.Ytabkgoandfpclaa

set_option linter.unusedVariables false

set_option linter.unusedSimpArgs false

/-- a strict weak order -/
structure Lt (α : Type) where
  lt : α → α → Bool
  irr : ∀ a, lt a a = false
  tr : ∀ {a b c}, lt a b = true → lt b c = true → lt a c = true
  ng : ∀ {a b c}, lt a b = false → lt b c = false → lt a c = false
namespace Lt

variable {α : Type} (o : Lt α)

def eqv (x a : α) : Bool := !o.lt x a && !o.lt a x
/-- the order of equal ones stays -/
def Stab (d d' : List α) : Prop := ∀ x, d'.filter (o.eqv x) = d.filter (o.eqv x)
def Srt (d : List α) : Prop := d.Pairwise fun a b => o.lt b a = false
variable {o}

theorem asym {a b : α} (h : o.lt a b = true) : o.lt b a = false := by
  cases hb : o.lt b a with
  | false => rfl
  | true => have := o.tr h hb; rw [o.irr] at this; cases this
theorem Stab.refl (d : List α) : o.Stab d d := fun _ => rfl
theorem Stab.trans {a b c : List α} (h : o.Stab a b) (k : o.Stab b c) : o.Stab a c := fun x => (k x).trans (h x)
theorem Stab.app {a a' b b' : List α} (h : o.Stab a a') (k : o.Stab b b') : o.Stab (a ++ b) (a' ++ b') := fun x => by
  rw [List.filter_append, List.filter_append, h x, k x]
/-- a block that stands behind greater ones goes before them -/
theorem Stab.swap {U V : List α} (h : ∀ u ∈ U, ∀ v ∈ V, o.lt v u = true) : o.Stab (U ++ V) (V ++ U) := fun x => by
  rw [List.filter_append, List.filter_append]
  by_cases hu : ∃ u ∈ U, o.eqv x u = true
  · obtain ⟨u, hu, hxu⟩ := hu
    have hv : V.filter (o.eqv x) = [] := by
      rw [List.filter_eq_nil_iff]
      intro v hv hxv
      simp only [eqv, Bool.and_eq_true, Bool.not_eq_true'] at hxu hxv
      have h1 := h u hu v hv
      have h2 := o.ng hxv.2 hxu.1
      rw [h1] at h2
      cases h2
    rw [hv]
    simp
  · have hu' : U.filter (o.eqv x) = [] := by
      rw [List.filter_eq_nil_iff]
      intro u h1 h2
      exact hu ⟨u, h1, h2⟩
    rw [hu']
    simp
theorem eqv_refl (x : α) : o.eqv x x = true := by simp [eqv, o.irr]
theorem Stab.mem {d d' : List α} (h : o.Stab d d') (x : α) : x ∈ d' ↔ x ∈ d := by
  have h1 : ∀ l : List α, x ∈ l ↔ x ∈ l.filter (o.eqv x) := fun l => by
    rw [List.mem_filter]
    exact ⟨fun hx => ⟨hx, eqv_refl x⟩, fun hx => hx.1⟩
  rw [h1 d', h1 d, h x]
theorem srt_app {a b : List α} : o.Srt (a ++ b) ↔ o.Srt a ∧ o.Srt b ∧ ∀ x ∈ a, ∀ y ∈ b, o.lt y x = false := List.pairwise_append
/-- two sorted lists of which equal ones stand alike are one -/
theorem srt_unique : ∀ (d d' : List α), o.Srt d → o.Srt d' → o.Stab d d' → d = d'
  | [], d', _, _, h => by
    cases d' with
    | nil => rfl
    | cons x r =>
      have := (h.mem x).1 List.mem_cons_self
      cases this
  | a :: d, [], _, _, h => by
    have := (h.mem a).2 List.mem_cons_self
    cases this
  | a :: d, b :: d', h1, h2, h => by
    have p1 := List.pairwise_cons.1 h1
    have p2 := List.pairwise_cons.1 h2
    have hab : o.lt b a = false := by
      have hb := (h.mem b).1 List.mem_cons_self
      rcases List.mem_cons.1 hb with e | e
      · rw [e]; exact o.irr _
      · exact p1.1 b e
    have hba : o.lt a b = false := by
      have ha := (h.mem a).2 List.mem_cons_self
      rcases List.mem_cons.1 ha with e | e
      · rw [e]; exact o.irr _
      · exact p2.1 a e
    have hh := h a
    have e1 : o.eqv a a = true := eqv_refl a
    have e2 : o.eqv a b = true := by simp [eqv, hab, hba]
    rw [List.filter_cons_of_pos e2, List.filter_cons_of_pos e1] at hh
    have hab' : b = a := (List.cons.inj hh).1
    subst hab'
    rw [srt_unique d d' p1.2 p2.2 (fun x => by
      have h3 := h x
      by_cases hx : o.eqv x b = true
      · rw [List.filter_cons_of_pos hx, List.filter_cons_of_pos hx] at h3
        exact (List.cons.inj h3).2
      · rw [List.filter_cons_of_neg hx, List.filter_cons_of_neg hx] at h3
        exact h3)]
/-- one element goes into a sorted list, before all that are not less -/
theorem ins_left {x : α} {R1 R2 : List α} (h1 : o.Srt (R1 ++ R2)) (hl : ∀ y ∈ R1, o.lt y x = true) (hr : ∀ y ∈ R2, o.lt y x = false) : o.Srt (R1 ++ x :: R2) ∧ o.Stab (x :: (R1 ++ R2)) (R1 ++ x :: R2) := by
  obtain ⟨a, b, c⟩ := srt_app.1 h1
  refine ⟨srt_app.2 ⟨a, List.pairwise_cons.2 ⟨hr, b⟩, fun u hu y hy => ?_⟩, ?_⟩
  · rcases List.mem_cons.1 hy with rfl | hy
    · exact asym (hl u hu)
    · exact c u hu y hy
  · have h2 : o.Stab ([x] ++ R1) (R1 ++ [x]) := Stab.swap (fun u hu v hv => by rw [List.mem_singleton.1 hu]; exact hl v hv)
    have h3 := h2.app (Stab.refl (o := o) R2)
    simpa using h3
/-- one element goes into a sorted list, behind all that are not greater -/
theorem ins_right {x : α} {L1 L2 : List α} (h1 : o.Srt (L1 ++ L2)) (hl : ∀ y ∈ L1, o.lt x y = false) (hr : ∀ y ∈ L2, o.lt x y = true) : o.Srt (L1 ++ x :: L2) ∧ o.Stab (L1 ++ L2 ++ [x]) (L1 ++ x :: L2) := by
  obtain ⟨a, b, c⟩ := srt_app.1 h1
  refine ⟨srt_app.2 ⟨a, List.pairwise_cons.2 ⟨fun y hy => asym (hr y hy), b⟩, fun u hu y hy => ?_⟩, ?_⟩
  · rcases List.mem_cons.1 hy with rfl | hy
    · exact hl u hu
    · exact c u hu y hy
  · have h2 : o.Stab (L2 ++ [x]) ([x] ++ L2) := Stab.swap (fun u hu v hv => by rw [List.mem_singleton.1 hv]; exact hr u hu)
    have h3 := (Stab.refl (o := o) L1).app h2
    simpa using h3
/-- the symmetric decomposition: what is merged of its halves is the whole, merged -/
theorem sym_step {L1 L2 R1 R2 A B : List α} (hL : o.Srt (L1 ++ L2)) (hR : o.Srt (R1 ++ R2)) (h12 : ∀ x ∈ L2, ∀ y ∈ R1, o.lt y x = true) (h21 : ∀ x ∈ L1, ∀ y ∈ R2, o.lt y x = false)
    (hA : o.Srt A) (sA : o.Stab (L1 ++ R1) A) (hB : o.Srt B) (sB : o.Stab (L2 ++ R2) B) : o.Srt (A ++ B) ∧ o.Stab (L1 ++ L2 ++ (R1 ++ R2)) (A ++ B) := by
  obtain ⟨_, _, cL⟩ := srt_app.1 hL
  obtain ⟨_, _, cR⟩ := srt_app.1 hR
  constructor
  · refine srt_app.2 ⟨hA, hB, fun x hx y hy => ?_⟩
    have hx' := (sA.mem x).1 hx
    have hy' := (sB.mem y).1 hy
    rcases List.mem_append.1 hx' with hx1 | hx1 <;> rcases List.mem_append.1 hy' with hy1 | hy1
    · exact cL x hx1 y hy1
    · exact h21 x hx1 y hy1
    · exact asym (h12 y hy1 x hx1)
    · exact cR x hx1 y hy1
  · have h1 : o.Stab (L1 ++ (L2 ++ R1) ++ R2) (L1 ++ (R1 ++ L2) ++ R2) := ((Stab.refl L1).app (Stab.swap (fun u hu v hv => h12 u hu v hv))).app (Stab.refl R2)
    have h2 := h1.trans (show o.Stab (L1 ++ (R1 ++ L2) ++ R2) (A ++ B) from by
      have h3 := sA.app sB
      simpa [List.append_assoc] using h3)
    simpa [List.append_assoc] using h2
end Lt

end Go.Proofs.Ytabkgoandfpclaa

/-! Stable sorting over arrays, plain: what the walks of swapRange, rotate, symMerge and stable compute, as functions on arrays. No program. -/

namespace Go.Proofs.Ytabkgoandfpclaa

set_option linter.unusedVariables false

set_option linter.unusedSimpArgs false

open Go.Sort

variable {α : Type} [Inhabited α]

/-- n elements from a on and from b on, exchanged -/
def swR (d : Array α) (a b : Nat) : Nat → Array α
  | 0 => d
  | n + 1 => swp (swR d a b n) (a + n) (b + n)
theorem swR_size (d : Array α) (a b : Nat) : ∀ n, (swR d a b n).size = d.size
  | 0 => rfl
  | n + 1 => by rw [swR, size_swp, swR_size]
/-- rotate's loop -/
def rotL (m : Nat) : Nat → Array α → Nat → Nat → Array α
  | 0, d, _, _ => d
  | f + 1, d, i, j => if i = j then swR d (m - i) m i else if j < i then rotL m f (swR d (m - i) m j) (i - j) j else rotL m f (swR d (m - i) (m + j - i) i) i (j - i)
theorem rotL_size (m : Nat) : ∀ (f : Nat) (d : Array α) (i j : Nat), (rotL m f d i j).size = d.size
  | 0, _, _, _ => rfl
  | f + 1, d, i, j => by
    rw [rotL]
    split
    · rw [swR_size]
    split
    · rw [rotL_size, swR_size]
    · rw [rotL_size, swR_size]
def rotA (d : Array α) (a m b : Nat) : Array α := rotL m (b - a) d (m - a) (b - m)
theorem rotA_size (d : Array α) (a m b : Nat) : (rotA d a m b).size = d.size := rotL_size _ _ _ _ _
/-- binary search -/
def bsN (p : Nat → Bool) : Nat → Nat → Nat → Nat
  | 0, i, _ => i
  | f + 1, i, j => if i < j then (if p ((i + j) / 2) then bsN p f ((i + j) / 2 + 1) j else bsN p f i ((i + j) / 2)) else i
/-- an element goes up, down, by exchanges with its neighbour -/
def upA (d : Array α) (k : Nat) : Nat → Array α
  | 0 => d
  | n + 1 => upA (swp d k (k + 1)) (k + 1) n
def dnA (d : Array α) (k : Nat) : Nat → Array α
  | 0 => d
  | n + 1 => dnA (swp d k (k - 1)) (k - 1) n
theorem upA_size : ∀ (n : Nat) (d : Array α) (k : Nat), (upA d k n).size = d.size
  | 0, _, _ => rfl
  | n + 1, d, k => by rw [upA, upA_size, size_swp]
theorem dnA_size : ∀ (n : Nat) (d : Array α) (k : Nat), (dnA d k n).size = d.size
  | 0, _, _ => rfl
  | n + 1, d, k => by rw [dnA, dnA_size, size_swp]
def symLo (a m b : Nat) : Nat := if (a + b) / 2 < m then (a + b) / 2 + m - b else a
def symHi (a m b : Nat) : Nat := if (a + b) / 2 < m then (a + b) / 2 else m
/-- where the merge is cut -/
def symS (lt : α → α → Bool) (d : Array α) (a m b : Nat) : Nat := bsN (fun c => !lt d[(a + b) / 2 + m - 1 - c]! d[c]!) (b - a) (symLo a m b) (symHi a m b)
def symA (lt : α → α → Bool) : Nat → Array α → Nat → Nat → Nat → Array α
  | 0, d, _, _, _ => d
  | f + 1, d, a, m, b =>
    if m - a = 1 then upA d a (bsN (fun h => lt d[h]! d[a]!) (b - m) m b - 1 - a)
    else if b - m = 1 then dnA d m (m - bsN (fun h => !lt d[m]! d[h]!) (m - a) a m)
    else
      let mid := (a + b) / 2
      let s := symS lt d a m b
      let e := mid + m - s
      let d1 := if s < m ∧ m < e then rotA d s m e else d
      let d2 := if a < s ∧ s < mid then symA lt f d1 a s mid else d1
      if mid < e ∧ e < b then symA lt f d2 mid e b else d2
theorem symA_size (lt : α → α → Bool) : ∀ (f : Nat) (d : Array α) (a m b : Nat), (symA lt f d a m b).size = d.size
  | 0, _, _, _, _ => rfl
  | f + 1, d, a, m, b => by
    rw [symA]
    split
    · rw [upA_size]
    split
    · rw [dnA_size]
    dsimp only
    have h1 : (if symS lt d a m b < m ∧ m < (a + b) / 2 + m - symS lt d a m b then rotA d (symS lt d a m b) m ((a + b) / 2 + m - symS lt d a m b) else d).size = d.size := by
      split
      · rw [rotA_size]
      · rfl
    generalize (if symS lt d a m b < m ∧ m < (a + b) / 2 + m - symS lt d a m b then rotA d (symS lt d a m b) m ((a + b) / 2 + m - symS lt d a m b) else d) = d1 at h1 ⊢
    have h2 : (if a < symS lt d a m b ∧ symS lt d a m b < (a + b) / 2 then symA lt f d1 a (symS lt d a m b) ((a + b) / 2) else d1).size = d.size := by
      split
      · rw [symA_size, h1]
      · exact h1
    generalize (if a < symS lt d a m b ∧ symS lt d a m b < (a + b) / 2 then symA lt f d1 a (symS lt d a m b) ((a + b) / 2) else d1) = d2 at h2 ⊢
    split
    · rw [symA_size, h2]
    · exact h2
end Go.Proofs.Ytabkgoandfpclaa

/-! Stable sorting over arrays, plain law: what rotate, symMerge, the insertion sort and stable leave of a list (sorted, equal ones as they stood). No program. -/

namespace Go.Proofs.Ytabkgoandfpclaa

set_option linter.unusedVariables false

set_option linter.unusedSimpArgs false

set_option linter.unusedSectionVars false

open Go.Sort

variable {α : Type} [Inhabited α]

theorem lget {d : Array α} {P Q : List α} {x : α} (h : d.toList = P ++ x :: Q) {i : Nat} (hi : i = P.length) : d[i]! = x := by
  subst hi
  have hs : P.length < d.size := by rw [← Array.length_toList, h]; simp
  rw [getElem!_pos d P.length hs, ← Array.getElem_toList]
  simp [h]
theorem swp_list {d : Array α} {P Q S : List α} {x y : α} (h : d.toList = P ++ x :: (Q ++ y :: S)) {i j : Nat} (hi : i = P.length) (hj : j = P.length + 1 + Q.length) : (swp d i j).toList = P ++ y :: (Q ++ x :: S) := by
  have hx : d[i]! = x := lget h hi
  have hy : d[j]! = y := lget (P := P ++ x :: Q) (by simpa using h) (by simp; omega)
  unfold swp
  rw [hx, hy, Array.toList_setIfInBounds, Array.toList_setIfInBounds, h]
  subst hi hj
  have e1 : (P ++ x :: (Q ++ y :: S)).set P.length y = (P ++ y :: Q) ++ y :: S := by rw [List.set_append_right _ _ (Nat.le_refl _), Nat.sub_self]; simp
  rw [e1, List.set_append_right _ _ (by simp; omega)]
  have e2 : P.length + 1 + Q.length - (P ++ y :: Q).length = 0 := by simp; omega
  rw [e2]
  simp
theorem swp_list' {d : Array α} {P Q S : List α} {x y : α} (h : d.toList = P ++ x :: (Q ++ y :: S)) {i j : Nat} (hi : i = P.length) (hj : j = P.length + 1 + Q.length) : (swp d j i).toList = P ++ y :: (Q ++ x :: S) := by
  have hx : d[i]! = x := lget h hi
  have hy : d[j]! = y := lget (P := P ++ x :: Q) (by simpa using h) (by simp; omega)
  unfold swp
  rw [hx, hy, Array.toList_setIfInBounds, Array.toList_setIfInBounds, h]
  subst hi hj
  have e1 : (P ++ x :: (Q ++ y :: S)).set (P.length + 1 + Q.length) x = P ++ x :: (Q ++ x :: S) := by
    have e0 : P ++ x :: (Q ++ y :: S) = (P ++ x :: Q) ++ y :: S := by simp
    rw [e0, List.set_append_right _ _ (by simp; omega)]
    have e2 : P.length + 1 + Q.length - (P ++ x :: Q).length = 0 := by simp; omega
    rw [e2]
    simp
  rw [e1, List.set_append_right _ _ (Nat.le_refl _), Nat.sub_self]
  simp
theorem snoc_of {L : List α} {n : Nat} (h : L.length = n + 1) : ∃ l x, L = l ++ [x] ∧ l.length = n := by
  have hne : L ≠ [] := by intro e; rw [e] at h; cases h
  exact ⟨L.dropLast, L.getLast hne, (List.dropLast_concat_getLast hne).symm, by simp [h]⟩
theorem split_at' {L : List α} {k : Nat} (h : k ≤ L.length) : ∃ A B, L = A ++ B ∧ A.length = k := ⟨L.take k, L.drop k, (List.take_append_drop k L).symm, by simp; omega⟩

theorem swR_list (n : Nat) : ∀ {d : Array α} {P U M V S : List α} {a b : Nat}, d.toList = P ++ (U ++ (M ++ (V ++ S))) → a = P.length → U.length = n → V.length = n → b = P.length + n + M.length →
    (swR d a b n).toList = P ++ (V ++ (M ++ (U ++ S))) := by
  induction n with
  | zero =>
    intro d P U M V S a b h ha hu hv hb
    rw [List.length_eq_zero_iff] at hu hv
    subst hu hv
    exact h
  | succ n ih =>
    intro d P U M V S a b h ha hu hv hb
    obtain ⟨U', u, rfl, hu'⟩ := snoc_of hu
    obtain ⟨V', v, rfl, hv'⟩ := snoc_of hv
    have h1 := ih (d := d) (P := P) (U := U') (M := u :: M) (V := V') (S := v :: S) (a := a) (b := b) (by simpa using h) ha hu' hv' (by simp; omega)
    have h2 := swp_list (d := swR d a b n) (P := P ++ V') (Q := M ++ U') (S := S) (x := u) (y := v) (i := a + n) (j := b + n) (by simpa using h1) (by simp; omega) (by simp; omega)
    rw [swR, h2]
    simp
theorem rotL_list (m : Nat) : ∀ (f : Nat) {d : Array α} {P U V S : List α} {i j : Nat}, d.toList = P ++ (U ++ (V ++ S)) → P.length + U.length = m → U.length = i → V.length = j → 0 < i → 0 < j → i + j ≤ f →
    (rotL m f d i j).toList = P ++ (V ++ (U ++ S))
  | 0, _, _, _, _, _, _, _, _, _, _, _, h1, h2, h3 => by omega
  | f + 1, d, P, U, V, S, i, j, h, hm, hu, hv, hi, hj, hf => by
    rw [rotL]
    split
    · rename_i e
      have := swR_list i (d := d) (P := P) (U := U) (M := []) (V := V) (S := S) (a := m - i) (b := m) (by simpa using h) (by omega) hu (by omega) (by simp; omega)
      simpa using this
    split
    · rename_i e
      obtain ⟨U1, U2, rfl, h1⟩ := split_at' (L := U) (k := j) (by omega)
      simp only [List.length_append] at hu hm
      have h2 := swR_list j (d := d) (P := P) (U := U1) (M := U2) (V := V) (S := S) (a := m - i) (b := m) (by simpa using h) (by omega) h1 hv (by omega)
      have h3 := rotL_list m f (d := swR d (m - i) m j) (P := P ++ V) (U := U2) (V := U1) (S := S) (i := i - j) (j := j) (by simpa using h2) (by simp; omega) (by omega) h1 (by omega) hj (by omega)
      rw [h3]
      simp
    · rename_i e1 e2
      obtain ⟨V1, V2, rfl, h1⟩ := split_at' (L := V) (k := j - i) (by omega)
      simp only [List.length_append] at hv
      have h2 := swR_list i (d := d) (P := P) (U := U) (M := V1) (V := V2) (S := S) (a := m - i) (b := m + j - i) (by simpa using h) (by omega) hu (by omega) (by omega)
      have h3 := rotL_list m f (d := swR d (m - i) (m + j - i) i) (P := P) (U := V2) (V := V1) (S := U ++ S) (i := i) (j := j - i) (by simpa using h2) (by omega) (by omega) (by omega) hi (by omega) (by omega)
      rw [h3]
      simp
theorem rotA_list {d : Array α} {P U V S : List α} {a m b : Nat} (h : d.toList = P ++ (U ++ (V ++ S))) (ha : a = P.length) (hm : m = a + U.length) (hb : b = m + V.length) (hu : 0 < U.length) (hv : 0 < V.length) :
    (rotA d a m b).toList = P ++ (V ++ (U ++ S)) := rotL_list m (b - a) h (by omega) (by omega) (by omega) (by omega) (by omega) (by omega)
theorem upA_list (n : Nat) : ∀ {d : Array α} {P Q S : List α} {x : α} {k : Nat}, d.toList = P ++ x :: (Q ++ S) → k = P.length → Q.length = n → (upA d k n).toList = P ++ (Q ++ x :: S) := by
  induction n with
  | zero =>
    intro d P Q S x k h hk hq
    rw [List.length_eq_zero_iff] at hq
    subst hq
    simpa [upA] using h
  | succ n ih =>
    intro d P Q S x k h hk hq
    obtain ⟨q, Q, rfl⟩ : ∃ q r, Q = q :: r := by
      cases Q with
      | nil => cases hq
      | cons q r => exact ⟨q, r, rfl⟩
    have h1 := swp_list (d := d) (P := P) (Q := []) (S := Q ++ S) (x := x) (y := q) (i := k) (j := k + 1) (by simpa using h) hk (by simp; omega)
    have h2 := ih (d := swp d k (k + 1)) (P := P ++ [q]) (Q := Q) (S := S) (x := x) (k := k + 1) (by simpa using h1) (by simp; omega) (by simpa using hq)
    rw [upA, h2]
    simp
theorem dnA_list (n : Nat) : ∀ {d : Array α} {P Q S : List α} {x : α} {k : Nat}, d.toList = P ++ (Q ++ x :: S) → k = P.length + n → Q.length = n → (dnA d k n).toList = P ++ x :: (Q ++ S) := by
  induction n with
  | zero =>
    intro d P Q S x k h hk hq
    rw [List.length_eq_zero_iff] at hq
    subst hq
    simpa [dnA] using h
  | succ n ih =>
    intro d P Q S x k h hk hq
    obtain ⟨Q', q, rfl, hq'⟩ := snoc_of hq
    have h1 := swp_list' (d := d) (P := P ++ Q') (Q := []) (S := S) (x := q) (y := x) (i := k - 1) (j := k) (by simpa using h) (by simp; omega) (by simp; omega)
    have h2 := ih (d := swp d k (k - 1)) (P := P) (Q := Q') (S := q :: S) (x := x) (k := k - 1) (by simpa using h1) (by omega) hq'
    rw [dnA, h2]
    simp
theorem bsN_spec (p : Nat → Bool) : ∀ (f i j : Nat), i ≤ j → j - i ≤ f → i ≤ bsN p f i j ∧ bsN p f i j ≤ j ∧ (i < bsN p f i j → p (bsN p f i j - 1) = true) ∧ (bsN p f i j < j → p (bsN p f i j) = false)
  | 0, i, j, h1, h2 => by
    have e : bsN p 0 i j = i := rfl
    rw [e]
    exact ⟨Nat.le_refl _, h1, fun h => by omega, fun h => by omega⟩
  | f + 1, i, j, h1, h2 => by
    by_cases hij : i < j
    · have e : bsN p (f + 1) i j = if p ((i + j) / 2) then bsN p f ((i + j) / 2 + 1) j else bsN p f i ((i + j) / 2) := by rw [bsN, if_pos hij]
      rw [e]
      obtain ⟨h, hh⟩ : ∃ h, (i + j) / 2 = h := ⟨_, rfl⟩
      rw [hh]
      have b1 : i ≤ h := by omega
      have b2 : h < j := by omega
      cases hp : p h with
      | true =>
        rw [if_pos rfl]
        obtain ⟨a1, a2, a3, a4⟩ := bsN_spec p f (h + 1) j (by omega) (by omega)
        refine ⟨by omega, a2, fun _ => ?_, a4⟩
        by_cases hr : h + 1 < bsN p f (h + 1) j
        · exact a3 hr
        · have : bsN p f (h + 1) j - 1 = h := by omega
          rw [this]
          exact hp
      | false =>
        rw [if_neg (by simp)]
        obtain ⟨a1, a2, a3, a4⟩ := bsN_spec p f i h b1 (by omega)
        refine ⟨a1, by omega, a3, fun _ => ?_⟩
        by_cases hr : bsN p f i h < h
        · exact a4 hr
        · have : bsN p f i h = h := by omega
          rw [this]
          exact hp
    · have e : bsN p (f + 1) i j = i := by rw [bsN, if_neg hij]
      rw [e]
      exact ⟨Nat.le_refl _, h1, fun h => by omega, fun h => by omega⟩
namespace Lt

variable {o : Lt α}

theorem front {A : List α} {z x : α} (h : o.Srt (A ++ [z])) (hz : o.lt z x = true) : ∀ y ∈ A ++ [z], o.lt y x = true := fun y hy => by
  rcases List.mem_append.1 hy with hy | hy
  · have h1 := (srt_app.1 h).2.2 y hy z (List.mem_singleton.2 rfl)
    cases h2 : o.lt y x with
    | true => rfl
    | false => rw [o.ng h1 h2] at hz; cases hz
  · rw [List.mem_singleton.1 hy]; exact hz
theorem front' {A : List α} {z x : α} (h : o.Srt (A ++ [z])) (hz : o.lt x z = false) : ∀ y ∈ A ++ [z], o.lt x y = false := fun y hy => by
  rcases List.mem_append.1 hy with hy | hy
  · exact o.ng hz ((srt_app.1 h).2.2 y hy z (List.mem_singleton.2 rfl))
  · rw [List.mem_singleton.1 hy]; exact hz
theorem back {B : List α} {z x : α} (h : o.Srt (z :: B)) (hz : o.lt z x = false) : ∀ y ∈ z :: B, o.lt y x = false := fun y hy => by
  rcases List.mem_cons.1 hy with rfl | hy
  · exact hz
  · exact o.ng ((List.pairwise_cons.1 h).1 y hy) hz
theorem back' {B : List α} {z x : α} (h : o.Srt (z :: B)) (hz : o.lt x z = true) : ∀ y ∈ z :: B, o.lt x y = true := fun y hy => by
  rcases List.mem_cons.1 hy with rfl | hy
  · exact hz
  · have h1 := (List.pairwise_cons.1 h).1 y hy
    cases h2 : o.lt x y with
    | true => rfl
    | false => rw [o.ng h2 h1] at hz; cases hz
end Lt

open Lt

theorem symA_one (o : Lt α) {f : Nat} {d : Array α} {P R S : List α} {x : α} {a m b : Nat} (h : d.toList = P ++ x :: (R ++ S)) (ha : a = P.length) (hm : m = a + 1) (hb : b = m + R.length) (hR : o.Srt R) :
    ∃ Z, (symA o.lt (f + 1) d a m b).toList = P ++ (Z ++ S) ∧ Z.length = R.length + 1 ∧ o.Srt Z ∧ o.Stab (x :: R) Z := by
  have hx : d[a]! = x := lget h ha
  rw [symA, if_pos (by omega), hx]
  obtain ⟨a1, a2, a3, a4⟩ := bsN_spec (fun h => o.lt d[h]! x) (b - m) m b (by omega) (Nat.le_refl _)
  generalize bsN (fun h => o.lt d[h]! x) (b - m) m b = r at a1 a2 a3 a4 ⊢
  obtain ⟨R1, R2, rfl, h1⟩ := split_at' (L := R) (k := r - m) (by omega)
  simp only [List.length_append] at hb
  have hl : ∀ y ∈ R1, o.lt y x = true := by
    by_cases hr : m < r
    · obtain ⟨R0, z, rfl, h2⟩ := snoc_of (L := R1) (n := r - m - 1) (by omega)
      have hz : d[r - 1]! = z := lget (P := P ++ x :: R0) (Q := R2 ++ S) (by simpa using h) (by simp; omega)
      have h3 := a3 hr
      rw [hz] at h3
      exact front (srt_app.1 hR).1 h3
    · have : R1 = [] := List.length_eq_zero_iff.1 (by omega)
      rw [this]
      intro y hy
      cases hy
  have hr : ∀ y ∈ R2, o.lt y x = false := by
    cases R2 with
    | nil => intro y hy; cases hy
    | cons z B =>
      have hz : d[r]! = z := lget (P := P ++ x :: R1) (Q := B ++ S) (by simpa using h) (by simp; omega)
      have h3 := a4 (by simp at hb; omega)
      rw [hz] at h3
      exact back (srt_app.1 hR).2.1 h3
  obtain ⟨s1, s2⟩ := ins_left hR hl hr
  refine ⟨R1 ++ x :: R2, ?_, by simp; omega, s1, s2⟩
  have := upA_list (r - 1 - a) (d := d) (P := P) (Q := R1) (S := R2 ++ S) (x := x) (k := a) (by simpa using h) ha (by omega)
  rw [this]
  simp
theorem symA_two (o : Lt α) {f : Nat} {d : Array α} {P L S : List α} {x : α} {a m b : Nat} (h : d.toList = P ++ (L ++ x :: S)) (ha : a = P.length) (hm : m = a + L.length) (hb : b = m + 1) (h2L : 1 < L.length) (hL : o.Srt L) :
    ∃ Z, (symA o.lt (f + 1) d a m b).toList = P ++ (Z ++ S) ∧ Z.length = L.length + 1 ∧ o.Srt Z ∧ o.Stab (L ++ [x]) Z := by
  have hx : d[m]! = x := lget (P := P ++ L) (by simpa using h) (by simp; omega)
  rw [symA, if_neg (by omega), if_pos (by omega), hx]
  obtain ⟨a1, a2, a3, a4⟩ := bsN_spec (fun h => !o.lt x d[h]!) (m - a) a m (by omega) (Nat.le_refl _)
  generalize bsN (fun h => !o.lt x d[h]!) (m - a) a m = r at a1 a2 a3 a4 ⊢
  obtain ⟨L1, L2, rfl, h1⟩ := split_at' (L := L) (k := r - a) (by omega)
  simp only [List.length_append] at hm
  have hl : ∀ y ∈ L1, o.lt x y = false := by
    by_cases hr : a < r
    · obtain ⟨R0, z, rfl, h2⟩ := snoc_of (L := L1) (n := r - a - 1) (by omega)
      have hz : d[r - 1]! = z := lget (P := P ++ R0) (Q := L2 ++ x :: S) (by simpa using h) (by simp; omega)
      have h3 := a3 hr
      rw [hz] at h3
      exact front' (srt_app.1 hL).1 (by simpa using h3)
    · have : L1 = [] := List.length_eq_zero_iff.1 (by omega)
      rw [this]
      intro y hy
      cases hy
  have hr : ∀ y ∈ L2, o.lt x y = true := by
    cases L2 with
    | nil => intro y hy; cases hy
    | cons z B =>
      have hz : d[r]! = z := lget (P := P ++ L1) (Q := B ++ x :: S) (by simpa using h) (by simp; omega)
      have h3 := a4 (by simp at hm; omega)
      rw [hz] at h3
      exact back' (srt_app.1 hL).2.1 (by simpa using h3)
  obtain ⟨s1, s2⟩ := ins_right hL hl hr
  refine ⟨L1 ++ x :: L2, ?_, by simp; omega, s1, s2⟩
  have := dnA_list (m - r) (d := d) (P := P ++ L1) (Q := L2) (S := S) (x := x) (k := m) (by simpa using h) (by simp; omega) (by omega)
  rw [this]
  simp
theorem symA_law (o : Lt α) : ∀ (f : Nat) {d : Array α} {P L R S : List α} {a m b : Nat}, d.toList = P ++ (L ++ (R ++ S)) → a = P.length → m = a + L.length → b = m + R.length → 0 < L.length → 0 < R.length → b - a ≤ f →
    o.Srt L → o.Srt R → ∃ Z, (symA o.lt f d a m b).toList = P ++ (Z ++ S) ∧ Z.length = L.length + R.length ∧ o.Srt Z ∧ o.Stab (L ++ R) Z
  | 0, _, _, _, _, _, _, _, _, _, _, _, _, h1, h2, h3, _, _ => by omega
  | f + 1, d, P, L, R, S, a, m, b, h, ha, hm, hb, h0L, h0R, hf, hL, hR => by
    by_cases h1 : L.length = 1
    · obtain ⟨x, rfl⟩ := List.length_eq_one_iff.1 h1
      obtain ⟨Z, z1, z2, z3, z4⟩ := symA_one o (f := f) (by simpa using h) ha (by simpa using hm) hb hR
      exact ⟨Z, z1, by rw [z2]; simp; omega, z3, z4⟩
    by_cases h2 : R.length = 1
    · obtain ⟨x, rfl⟩ := List.length_eq_one_iff.1 h2
      obtain ⟨Z, z1, z2, z3, z4⟩ := symA_two o (f := f) (by simpa using h) ha hm (by simpa using hb) (by omega) hL
      exact ⟨Z, z1, by rw [z2]; simp, z3, z4⟩
    rw [symA, if_neg (by omega), if_neg (by omega)]
    dsimp only
    obtain ⟨md, hmd⟩ : ∃ x, (a + b) / 2 = x := ⟨_, rfl⟩
    have q1 : 2 * md ≤ a + b := by omega
    have q2 : a + b < 2 * md + 2 := by omega
    obtain ⟨s, hs⟩ : ∃ x, symS o.lt d a m b = x := ⟨_, rfl⟩
    rw [hs, hmd]
    unfold symS at hs
    rw [hmd] at hs
    have hlo : symLo a m b ≤ symHi a m b ∧ a ≤ symLo a m b ∧ symHi a m b ≤ b ∧ symHi a m b ≤ md ∧ symHi a m b ≤ m ∧ md + m ≤ symLo a m b + b ∧ (symLo a m b = a ∨ symLo a m b + b = md + m) ∧ (symHi a m b = md ∨ symHi a m b = m) := by
      unfold symLo symHi
      rw [hmd]
      split
      · exact ⟨by omega, by omega, by omega, by omega, by omega, by omega, Or.inr (by omega), Or.inl rfl⟩
      · exact ⟨by omega, by omega, by omega, by omega, by omega, by omega, Or.inl rfl, Or.inr rfl⟩
    obtain ⟨l1, l2, l3, l4, l5, l6, l7, l8⟩ := hlo
    obtain ⟨a1, a2, a3, a4⟩ := bsN_spec (fun c => !o.lt d[md + m - 1 - c]! d[c]!) (b - a) (symLo a m b) (symHi a m b) l1 (by omega)
    rw [hs] at a1 a2 a3 a4
    clear hs
    obtain ⟨e, he⟩ : ∃ x, md + m - s = x := ⟨_, rfl⟩
    rw [he]
    obtain ⟨L1, L2, rfl, hL1⟩ := split_at' (L := L) (k := s - a) (by omega)
    obtain ⟨R1, R2, rfl, hR1⟩ := split_at' (L := R) (k := md - s) (by omega)
    simp only [List.length_append] at hm hb h0L h0R h1 h2
    obtain ⟨sL1, sL2, _⟩ := srt_app.1 hL
    obtain ⟨sR1, sR2, _⟩ := srt_app.1 hR
    have h12 : ∀ x ∈ L2, ∀ y ∈ R1, o.lt y x = true := by
      by_cases hc : s < m ∧ s < md
      · obtain ⟨x0, L2', rfl⟩ : ∃ x r, L2 = x :: r := by
          cases L2 with
          | nil => simp at hm; omega
          | cons x r => exact ⟨x, r, rfl⟩
        obtain ⟨R0, y0, rfl, h3⟩ := snoc_of (L := R1) (n := md - s - 1) (by omega)
        have e1 : d[md + m - 1 - s]! = y0 := lget (P := P ++ (L1 ++ x0 :: L2') ++ R0) (Q := R2 ++ S) (by simpa using h) (by simp at hm ⊢; omega)
        have e2 : d[s]! = x0 := lget (P := P ++ L1) (Q := L2' ++ (R0 ++ [y0]) ++ R2 ++ S) (by simpa using h) (by simp; omega)
        have h4 := a4 (by omega)
        rw [e1, e2] at h4
        have h5 : o.lt y0 x0 = true := by simpa using h4
        intro x hx y hy
        exact front sR1 (back' sL2 h5 x hx) y hy
      · intro x hx y hy
        by_cases hc1 : s < m
        · have : R1 = [] := List.length_eq_zero_iff.1 (by omega)
          rw [this] at hy
          cases hy
        · have : L2 = [] := List.length_eq_zero_iff.1 (by omega)
          rw [this] at hx
          cases hx
    have h21 : ∀ x ∈ L1, ∀ y ∈ R2, o.lt y x = false := by
      by_cases hc : a < s ∧ e < b
      · obtain ⟨L0, x0, rfl, h3⟩ := snoc_of (L := L1) (n := s - a - 1) (by omega)
        obtain ⟨y0, R2', rfl⟩ : ∃ x r, R2 = x :: r := by
          cases R2 with
          | nil => simp at hb; omega
          | cons x r => exact ⟨x, r, rfl⟩
        have e1 : d[md + m - 1 - (s - 1)]! = y0 := lget (P := P ++ (L0 ++ [x0]) ++ L2 ++ R1) (Q := R2' ++ S) (by simpa using h) (by simp at hm ⊢; omega)
        have e2 : d[s - 1]! = x0 := lget (P := P ++ L0) (Q := L2 ++ R1 ++ y0 :: R2' ++ S) (by simpa using h) (by simp; omega)
        have h4 := a3 (by omega)
        rw [e1, e2] at h4
        have h5 : o.lt y0 x0 = false := by simpa using h4
        intro x hx y hy
        exact front' sL1 (back sR2 h5 y hy) x hx
      · intro x hx y hy
        by_cases hc1 : a < s
        · have : R2 = [] := List.length_eq_zero_iff.1 (by omega)
          rw [this] at hy
          cases hy
        · have : L1 = [] := List.length_eq_zero_iff.1 (by omega)
          rw [this] at hx
          cases hx
    have hd1 : (if s < m ∧ m < e then rotA d s m e else d).toList = P ++ (L1 ++ (R1 ++ (L2 ++ (R2 ++ S)))) := by
      split
      · rename_i hc
        have := rotA_list (d := d) (P := P ++ L1) (U := L2) (V := R1) (S := R2 ++ S) (a := s) (m := m) (b := e) (by simpa using h) (by simp; omega) (by omega) (by omega) (by omega) (by omega)
        simpa using this
      · rename_i hc
        have e9 : L2 ++ R1 = R1 ++ L2 := by
          by_cases hc1 : s < m
          · have : R1 = [] := List.length_eq_zero_iff.1 (by omega)
            rw [this]; simp
          · have : L2 = [] := List.length_eq_zero_iff.1 (by omega)
            rw [this]; simp
        rw [h]
        simp only [List.append_assoc]
        rw [← List.append_assoc L2 R1, e9]
        simp only [List.append_assoc]
    generalize (if s < m ∧ m < e then rotA d s m e else d) = d1 at hd1 ⊢
    have hd2 : ∃ A, (if a < s ∧ s < md then symA o.lt f d1 a s md else d1).toList = P ++ (A ++ (L2 ++ (R2 ++ S))) ∧ A.length = L1.length + R1.length ∧ o.Srt A ∧ o.Stab (L1 ++ R1) A := by
      split
      · exact symA_law o f hd1 ha (by omega) (by omega) (by omega) (by omega) (by omega) sL1 sR1
      · rename_i hc
        refine ⟨L1 ++ R1, by rw [hd1]; simp, by simp, ?_, Stab.refl _⟩
        by_cases hc1 : a < s
        · have : R1 = [] := List.length_eq_zero_iff.1 (by omega)
          rw [this]; simpa using sL1
        · have : L1 = [] := List.length_eq_zero_iff.1 (by omega)
          rw [this]; simpa using sR1
    generalize (if a < s ∧ s < md then symA o.lt f d1 a s md else d1) = d2 at hd2 ⊢
    obtain ⟨A, hA, lA, sA, tA⟩ := hd2
    have hd3 : ∃ B, (if md < e ∧ e < b then symA o.lt f d2 md e b else d2).toList = P ++ (A ++ (B ++ S)) ∧ B.length = L2.length + R2.length ∧ o.Srt B ∧ o.Stab (L2 ++ R2) B := by
      split
      · obtain ⟨B, b1, b2, b3, b4⟩ := symA_law o f (d := d2) (P := P ++ A) (L := L2) (R := R2) (S := S) (a := md) (m := e) (b := b) (by simpa using hA) (by simp; omega) (by omega) (by omega) (by omega) (by omega) (by omega) sL2 sR2
        exact ⟨B, by simpa using b1, b2, b3, b4⟩
      · rename_i hc
        refine ⟨L2 ++ R2, by rw [hA]; simp, by simp, ?_, Stab.refl _⟩
        by_cases hc1 : md < e
        · have : R2 = [] := List.length_eq_zero_iff.1 (by omega)
          rw [this]; simpa using sL2
        · have : L2 = [] := List.length_eq_zero_iff.1 (by omega)
          rw [this]; simpa using sR2
    obtain ⟨B, hB, lB, sB, tB⟩ := hd3
    obtain ⟨r1, r2⟩ := sym_step hL hR h12 h21 sA tA sB tB
    exact ⟨A ++ B, by rw [hB]; simp, by simp; omega, r1, r2⟩
theorem insInner_law (o : Lt α) : ∀ (n : Nat) {d : Array α} {P Y S : List α} {x : α} {a j : Nat}, Y.length = n → d.toList = P ++ (Y ++ x :: S) → a = P.length → j = a + Y.length → o.Srt Y →
    ∃ Y1 Y2, Y = Y1 ++ Y2 ∧ (insInner o.lt a j d).toList = P ++ (Y1 ++ x :: (Y2 ++ S)) ∧ (∀ y ∈ Y1, o.lt x y = false) ∧ (∀ y ∈ Y2, o.lt x y = true)
  | 0, d, P, Y, S, x, a, j, hn, h, ha, hj, hY => by
    rw [List.length_eq_zero_iff] at hn
    subst hn
    refine ⟨[], [], rfl, ?_, fun y (hy : y ∈ []) => (by cases hy), fun y (hy : y ∈ []) => (by cases hy)⟩
    have : insInner o.lt a j d = d := by
      simp at hj
      subst hj
      cases j with
      | zero => rfl
      | succ j => rw [insInner, if_neg (by simp)]
    rw [this]
    exact h
  | n + 1, d, P, Y, S, x, a, j, hn, h, ha, hj, hY => by
    obtain ⟨Y', z, rfl, hy'⟩ := snoc_of hn
    obtain ⟨j, rfl⟩ : ∃ k, j = k + 1 := ⟨j - 1, by simp at hj; omega⟩
    have e1 : d[j + 1]! = x := lget (P := P ++ (Y' ++ [z])) (Q := S) (by simpa using h) (by simp at hj ⊢; omega)
    have e2 : d[j]! = z := lget (P := P ++ Y') (Q := x :: S) (by simpa using h) (by simp at hj ⊢; omega)
    rw [insInner, e1, e2]
    cases hl : o.lt x z with
    | true =>
      rw [if_pos (by simp at hj ⊢; omega)]
      have h1 := swp_list' (d := d) (P := P ++ Y') (Q := []) (S := S) (x := z) (y := x) (i := j) (j := j + 1) (by simpa using h) (by simp at hj ⊢; omega) (by simp at hj ⊢; omega)
      obtain ⟨Y1, Y2, rfl, h2, h3, h4⟩ := insInner_law o n (d := swp d (j + 1) j) (P := P) (Y := Y') (S := z :: S) (x := x) (a := a) (j := j) hy' (by simpa using h1) ha (by simp at hj ⊢; omega) (srt_app.1 hY).1
      refine ⟨Y1, Y2 ++ [z], by simp, by rw [h2]; simp, h3, fun y hy => ?_⟩
      rcases List.mem_append.1 hy with hy | hy
      · exact h4 y hy
      · rw [List.mem_singleton.1 hy]; exact hl
    | false =>
      rw [if_neg (by simp)]
      exact ⟨Y' ++ [z], [], by simp, by rw [h]; simp, front' hY hl, fun y hy => (by cases hy)⟩
theorem insOuter_law (o : Lt α) : ∀ (n : Nat) {d : Array α} {P Y R S : List α} {a i b : Nat}, R.length = n → d.toList = P ++ (Y ++ (R ++ S)) → a = P.length → i = a + Y.length → b = i + R.length → o.Srt Y →
    ∃ Z, (insOuter o.lt a b i d).toList = P ++ (Z ++ S) ∧ Z.length = Y.length + R.length ∧ o.Srt Z ∧ o.Stab (Y ++ R) Z
  | 0, d, P, Y, R, S, a, i, b, hn, h, ha, hi, hb, hY => by
    rw [List.length_eq_zero_iff] at hn
    subst hn
    rw [insOuter, if_neg (by simp at hb; omega)]
    exact ⟨Y, by simpa using h, by simp, hY, by simpa using Stab.refl Y⟩
  | n + 1, d, P, Y, R, S, a, i, b, hn, h, ha, hi, hb, hY => by
    obtain ⟨x, R, rfl⟩ : ∃ x r, R = x :: r := by
      cases R with
      | nil => cases hn
      | cons x r => exact ⟨x, r, rfl⟩
    simp only [List.length_cons] at hn hb
    rw [insOuter, if_pos (by omega)]
    obtain ⟨Y1, Y2, rfl, h2, h3, h4⟩ := insInner_law o Y.length (d := d) (P := P) (Y := Y) (S := R ++ S) (x := x) (a := a) (j := i) rfl (by simpa using h) ha hi hY
    obtain ⟨s1, s2⟩ := ins_right hY h3 h4
    obtain ⟨Z, z1, z2, z3, z4⟩ := insOuter_law o n (d := insInner o.lt a i d) (P := P) (Y := Y1 ++ x :: Y2) (R := R) (S := S) (a := a) (i := i + 1) (b := b) (by omega) (by rw [h2]; simp) ha (by simp at hi ⊢; omega) (by omega) s1
    refine ⟨Z, z1, by rw [z2]; simp; omega, z3, ?_⟩
    have h5 : o.Stab (Y1 ++ Y2 ++ [x] ++ R) (Y1 ++ x :: Y2 ++ R) := s2.app (Stab.refl R)
    have h6 := h5.trans z4
    simpa using h6
theorem ins_law (o : Lt α) {d : Array α} {P X S : List α} {a b : Nat} (h : d.toList = P ++ (X ++ S)) (ha : a = P.length) (hb : b = a + X.length) :
    ∃ Z, (Go.Sort.insertionSort o.lt d a b).toList = P ++ (Z ++ S) ∧ Z.length = X.length ∧ o.Srt Z ∧ o.Stab X Z := by
  unfold Go.Sort.insertionSort
  cases X with
  | nil =>
    rw [insOuter, if_neg (by simp at hb; omega)]
    exact ⟨[], h, rfl, List.Pairwise.nil, Stab.refl _⟩
  | cons x R =>
    obtain ⟨Z, z1, z2, z3, z4⟩ := insOuter_law o R.length (d := d) (P := P) (Y := [x]) (R := R) (S := S) (a := a) (i := a + 1) (b := b) rfl (by simpa using h) ha rfl (by simp at hb; omega) (List.pairwise_singleton _ _)
    exact ⟨Z, z1, by rw [z2]; simp; omega, z3, by simpa using z4⟩
/-- blocks of 20, sorted by insertion; runs merged by twos; runs doubled -/
def stB (lt : α → α → Bool) (N : Nat) : Nat → Array α → Nat → Array α
  | 0, d, _ => d
  | f + 1, d, a => if a + 20 ≤ N then stB lt N f (Go.Sort.insertionSort lt d a (a + 20)) (a + 20) else Go.Sort.insertionSort lt d a N
def mgB (lt : α → α → Bool) (N bs : Nat) : Nat → Array α → Nat → Array α
  | 0, d, _ => d
  | f + 1, d, a => if a + 2 * bs ≤ N then mgB lt N bs f (symA lt N d a (a + bs) (a + 2 * bs)) (a + 2 * bs) else if a + bs < N then symA lt N d a (a + bs) N else d
def stM (lt : α → α → Bool) (N : Nat) : Nat → Array α → Nat → Array α
  | 0, d, _ => d
  | f + 1, d, bs => if bs < N then stM lt N f (mgB lt N bs (N + 1) d 0) (2 * bs) else d
def stA (lt : α → α → Bool) (d : Array α) : Array α := stM lt d.size (d.size + 1) (stB lt d.size (d.size + 1) d 0) 20
inductive Runs (o : Lt α) (bs : Nat) : List α → Prop
  | last {l : List α} : l.length ≤ bs → o.Srt l → Runs o bs l
  | cons {u l : List α} : u.length = bs → o.Srt u → Runs o bs l → Runs o bs (u ++ l)
theorem Runs.small {o : Lt α} {bs : Nat} {l : List α} (h : Runs o bs l) (hl : l.length ≤ bs) : o.Srt l := by
  cases h with
  | last _ h => exact h
  | cons h1 h2 h3 =>
    rename_i u l
    have : l = [] := List.length_eq_zero_iff.1 (by simp at hl; omega)
    rw [this]
    simpa using h2
theorem Runs.head {o : Lt α} {bs : Nat} {l : List α} (h : Runs o bs l) (hl : bs ≤ l.length) : ∃ u v, l = u ++ v ∧ u.length = bs ∧ o.Srt u ∧ Runs o bs v := by
  cases h with
  | last h1 h2 => exact ⟨l, [], by simp, by omega, h2, Runs.last (Nat.zero_le _) List.Pairwise.nil⟩
  | cons h1 h2 h3 => exact ⟨_, _, rfl, h1, h2, h3⟩
theorem stB_law (o : Lt α) (N : Nat) : ∀ (f : Nat) {d : Array α} {P X : List α} {a : Nat}, d.toList = P ++ X → a = P.length → N = a + X.length → X.length < f →
    ∃ Y, (stB o.lt N f d a).toList = P ++ Y ∧ Y.length = X.length ∧ Runs o 20 Y ∧ o.Stab X Y
  | 0, _, _, _, _, _, _, _, h => by omega
  | f + 1, d, P, X, a, h, ha, hN, hf => by
    rw [stB]
    split
    · rename_i hc
      obtain ⟨U, X', rfl, hu⟩ := split_at' (L := X) (k := 20) (by omega)
      simp only [List.length_append] at hN hf
      obtain ⟨Z, z1, z2, z3, z4⟩ := ins_law o (d := d) (P := P) (X := U) (S := X') (a := a) (b := a + 20) h ha (by omega)
      obtain ⟨Y, y1, y2, y3, y4⟩ := stB_law o N f (d := Go.Sort.insertionSort o.lt d a (a + 20)) (P := P ++ Z) (X := X') (a := a + 20) (by rw [z1]; simp) (by simp; omega) (by omega) (by omega)
      exact ⟨Z ++ Y, by rw [y1]; simp, by simp; omega, Runs.cons (by omega) z3 y3, z4.app y4⟩
    · rename_i hc
      obtain ⟨Z, z1, z2, z3, z4⟩ := ins_law o (d := d) (P := P) (X := X) (S := []) (a := a) (b := N) (by simpa using h) ha hN
      exact ⟨Z, by simpa using z1, z2, Runs.last (by omega) z3, z4⟩
theorem mgB_law (o : Lt α) (N bs : Nat) (hbs : 0 < bs) : ∀ (f : Nat) {d : Array α} {P X : List α} {a : Nat}, d.toList = P ++ X → a = P.length → N = a + X.length → X.length < f → Runs o bs X →
    ∃ Y, (mgB o.lt N bs f d a).toList = P ++ Y ∧ Y.length = X.length ∧ Runs o (2 * bs) Y ∧ o.Stab X Y
  | 0, _, _, _, _, _, _, _, h, _ => by omega
  | f + 1, d, P, X, a, h, ha, hN, hf, hr => by
    rw [mgB]
    split
    · rename_i hc
      obtain ⟨u, l, rfl, u1, u2, u3⟩ := hr.head (by omega)
      simp only [List.length_append] at hN hf
      obtain ⟨v, l, rfl, v1, v2, v3⟩ := u3.head (by omega)
      simp only [List.length_append] at hN hf
      obtain ⟨Z, z1, z2, z3, z4⟩ := symA_law o N (d := d) (P := P) (L := u) (R := v) (S := l) (a := a) (m := a + bs) (b := a + 2 * bs) h ha (by omega) (by omega) (by omega) (by omega) (by omega) u2 v2
      obtain ⟨Y, y1, y2, y3, y4⟩ := mgB_law o N bs hbs f (d := symA o.lt N d a (a + bs) (a + 2 * bs)) (P := P ++ Z) (X := l) (a := a + 2 * bs) (by rw [z1]; simp) (by simp; omega) (by omega) (by omega) v3
      exact ⟨Z ++ Y, by rw [y1]; simp, by simp; omega, Runs.cons (by omega) z3 y3, by simpa using z4.app y4⟩
    split
    · rename_i hc1 hc2
      obtain ⟨u, l, rfl, u1, u2, u3⟩ := hr.head (by omega)
      simp only [List.length_append] at hN hf
      obtain ⟨Z, z1, z2, z3, z4⟩ := symA_law o N (d := d) (P := P) (L := u) (R := l) (S := []) (a := a) (m := a + bs) (b := N) (by simpa using h) ha (by omega) (by omega) (by omega) (by omega) (by omega) u2 (u3.small (by omega))
      exact ⟨Z, by simpa using z1, by simp; omega, Runs.last (by omega) z3, z4⟩
    · rename_i hc1 hc2
      exact ⟨X, h, rfl, Runs.last (by omega) (hr.small (by omega)), Stab.refl _⟩
theorem stM_law (o : Lt α) (N : Nat) : ∀ (f : Nat) {d : Array α} {X : List α} {bs : Nat}, d.toList = X → N = X.length → 0 < bs → N < f + bs → Runs o bs X → ∃ Y, (stM o.lt N f d bs).toList = Y ∧ Y.length = X.length ∧ o.Srt Y ∧ o.Stab X Y
  | 0, d, X, bs, h, hN, hb, hf, hr => ⟨X, h, rfl, hr.small (by omega), Stab.refl _⟩
  | f + 1, d, X, bs, h, hN, hb, hf, hr => by
    rw [stM]
    split
    · obtain ⟨Y, y1, y2, y3, y4⟩ := mgB_law o N bs hb (N + 1) (d := d) (P := []) (X := X) (a := 0) (by simpa using h) rfl (by simpa using hN) (by omega) hr
      obtain ⟨Z, z1, z2, z3, z4⟩ := stM_law o N f (d := mgB o.lt N bs (N + 1) d 0) (X := Y) (bs := 2 * bs) (by simpa using y1) (by omega) (by omega) (by omega) y3
      exact ⟨Z, z1, by omega, z3, y4.trans z4⟩
    · exact ⟨X, h, rfl, hr.small (by omega), Stab.refl _⟩
/-- what stable leaves: sorted, equal ones in their order -/
theorem stA_law (o : Lt α) (d : Array α) : o.Srt (stA o.lt d).toList ∧ o.Stab d.toList (stA o.lt d).toList ∧ (stA o.lt d).size = d.size := by
  obtain ⟨Y, y1, y2, y3, y4⟩ := stB_law o d.size (d.size + 1) (d := d) (P := []) (X := d.toList) (a := 0) rfl rfl (by simp) (by simp)
  obtain ⟨Z, z1, z2, z3, z4⟩ := stM_law o d.size (d.size + 1) (d := stB o.lt d.size (d.size + 1) d 0) (X := Y) (bs := 20) (by simpa using y1) (by rw [y2]; simp) (by omega) (by omega) y3
  refine ⟨by unfold stA; rw [z1]; exact z3, by unfold stA; rw [z1]; exact y4.trans z4, ?_⟩
  rw [← Array.length_toList]
  unfold stA
  rw [z1, z2, y2]
  simp
end Go.Proofs.Ytabkgoandfpclaa
