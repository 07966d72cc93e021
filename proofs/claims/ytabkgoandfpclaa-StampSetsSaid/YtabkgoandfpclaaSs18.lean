
/- StampSets, walked: true. Conditions: the lists of the operations have at most 2^47 bytes. -/

import Derived.Test.YtabkgoandfpclaaSsC

namespace Go.Proofs.Ytabkgoandfpclaa

set_option linter.unusedVariables false

set_option linter.unusedSimpArgs false

set_option linter.unusedSectionVars false

open Go.RowKit

/-- a rising list, cut in two and turned, with itself behind: sorted, it is itself -/
theorem isSort_turn {x : List OpM} (hx : x.Pairwise fun a b => cmpS a.at_ b.at_ < 0) {P Q outs : List OpM} (h : x = P ++ Q) (hs : IsSort (Q ++ P ++ x) outs) : outs.map OpM.bare = x.map OpM.bare := by
  refine rising_unique outs x hs.up hx (fun t => ?_)
  rw [hs.one t]
  have h1 : ∀ (l : List OpM), (l.Pairwise fun a b => cmpS a.at_ b.at_ < 0) → (l.filter fun o => decide (o.at_ = t)).length ≤ 1 := by
    intro l
    induction l with
    | nil => intro _; exact Nat.zero_le _
    | cons a l ih =>
      intro hl
      obtain ⟨h2, h3⟩ := List.pairwise_cons.1 hl
      by_cases ha : a.at_ = t
      · subst ha
        rw [List.filter_cons_of_pos (by simp), filter_ne h2]
        exact Nat.le_refl _
      · rw [List.filter_cons_of_neg (by simpa using ha)]
        exact ih h3
  have h2 := h1 x hx
  rw [List.filter_append, List.filter_append]
  obtain ⟨p, hp⟩ : ∃ p, p = P.filter fun o => decide (o.at_ = t) := ⟨_, rfl⟩
  obtain ⟨q, hq⟩ : ∃ q, q = Q.filter fun o => decide (o.at_ = t) := ⟨_, rfl⟩
  have h3 : x.filter (fun o => decide (o.at_ = t)) = p ++ q := by rw [h, List.filter_append, hp, hq]
  rw [h3] at h2 ⊢
  rw [← hp, ← hq]
  rw [List.length_append] at h2
  cases p with
  | nil =>
    cases q with
    | nil => rfl
    | cons b q =>
      have : q = [] := List.length_eq_zero_iff.1 (by simp only [List.length_nil, List.length_cons] at h2; omega)
      rw [this]
      rfl
  | cons a p =>
    have h4 : p = [] := List.length_eq_zero_iff.1 (by simp only [List.length_cons] at h2; omega)
    have h5 : q = [] := List.length_eq_zero_iff.1 (by simp only [List.length_cons] at h2; omega)
    rw [h4, h5]
    rfl
theorem IsSort.from_ {os outs : List OpM} (h : IsSort os outs) : ∀ o ∈ outs, ∃ p ∈ os, o.bare = p.bare := fun o ho => by
  have h1 : o ∈ outs.filter fun p => decide (p.at_ = o.at_) := List.mem_filter.2 ⟨ho, by simp⟩
  have h2 : o.bare ∈ (outs.filter fun p => decide (p.at_ = o.at_)).map OpM.bare := List.mem_map.2 ⟨o, h1, rfl⟩
  rw [h.one o.at_] at h2
  obtain ⟨p, hp, he⟩ := List.mem_map.1 h2
  exact ⟨p, (List.mem_filter.1 (List.mem_of_mem_take hp)).1, he.symm⟩
theorem bare_os {a b : OpM} (h : a.bare = b.bare) : a.os = b.os := by
  show a.bare.os = b.bare.os
  rw [h]
theorem bare_at {a b : OpM} (h : a.bare = b.bare) : a.at_ = b.at_ := by
  show a.bare.at_ = b.bare.at_
  rw [h]
theorem nodup_le {α : Type} [DecidableEq α] : ∀ (l l' : List α), l.Nodup → (∀ x ∈ l, x ∈ l') → l.length ≤ l'.length
  | [], _, _, _ => Nat.zero_le _
  | a :: r, l', hn, hs => by
    obtain ⟨h1, h2⟩ := List.nodup_cons.1 hn
    have h3 := nodup_le r (l'.erase a) h2 (fun x hx => (List.mem_erase_of_ne (by intro e; subst e; exact h1 hx)).2 (hs x (List.mem_cons_of_mem _ hx)))
    have h4 := hs a List.mem_cons_self
    have h5 := List.length_pos_of_mem h4
    rw [List.length_erase_of_mem h4] at h3
    rw [List.length_cons]
    omega
theorem IsSort.len {os outs : List OpM} (h : IsSort os outs) : outs.length ≤ os.length := by
  have h1 := nodup_le (outs.map OpM.at_) (os.map OpM.at_) (List.pairwise_map.2 (h.up.imp (fun hab e => by rw [e] at hab; exact cmpS_irr _ hab))) (fun t ht => by
    obtain ⟨o, ho, rfl⟩ := List.mem_map.1 ht
    obtain ⟨p, hp, he⟩ := h.from_ o ho
    exact List.mem_map.2 ⟨p, hp, (bare_at he).symm⟩)
  simpa using h1
theorem IsSort.pos {os outs : List OpM} (h : IsSort os outs) (h0 : 0 < os.length) : 0 < outs.length := by
  obtain ⟨o, ho⟩ : ∃ o, o ∈ os := ⟨os[0], List.getElem_mem _⟩
  have h1 := congrArg List.length (h.one o.at_)
  have h2 : 0 < (os.filter fun p => decide (p.at_ = o.at_)).length := List.length_pos_of_mem (List.mem_filter.2 ⟨ho, by simp⟩)
  rw [List.length_map, List.length_map, List.length_take] at h1
  have h3 := List.length_filter_le (fun p => decide (p.at_ = o.at_)) outs
  omega
theorem cmpS_neg {a b : Stm} (h : cmpS a b < 0) : cmpS a b = -1 := by
  have h1 := cmpS_lt.1 h
  unfold cmpS
  rcases h1 with h2 | ⟨h2, h3⟩
  · rw [cmpI_lt h2, if_neg (by omega)]
  · rw [h2, cmpI_eq, if_pos rfl, cmpI_lt h3]
theorem oc_app (a b : List OpM) : oc (a ++ b) = oc a ++ oc b := List.flatMap_append ..
theorem oc_take {os : List OpM} (h : ∀ o ∈ os, o.data.length = 32) (k : Nat) (hk : k ≤ os.length) : (oc os).take (k * 41) = oc (os.take k) := by
  have h1 : oc os = oc (os.take k) ++ oc (os.drop k) := by rw [← oc_app, List.take_append_drop]
  rw [h1]
  refine List.take_left' ?_
  rw [oc_len (fun o ho => h o (List.mem_of_mem_take ho)), List.length_take, Nat.min_eq_left hk]
theorem oc_drop {os : List OpM} (h : ∀ o ∈ os, o.data.length = 32) (k : Nat) (hk : k ≤ os.length) : (oc os).drop (k * 41) = oc (os.drop k) := by
  have h1 : oc os = oc (os.take k) ++ oc (os.drop k) := by rw [← oc_app, List.take_append_drop]
  rw [h1]
  refine List.drop_left' ?_
  rw [oc_len (fun o ho => h o (List.mem_of_mem_take ho)), List.length_take, Nat.min_eq_left hk]
end Go.Proofs.Ytabkgoandfpclaa
