
/- LinesBack's walk. -/

import Derived.Test.YtmniggjadfdheaaDoorLn13

namespace Go.Proofs.YtmniggjadfdheaaDoor

set_option linter.unusedVariables false

set_option linter.unusedSimpArgs false

set_option linter.unusedSectionVars false

open Go.RowKit

/-! ### plain -/

theorem flip_src (s : List EdM) : srcE (s.map flipE) = dstE s := by
  induction s with
  | nil => rfl
  | cons e s ih =>
    have h : ∀ (t : List EdM), srcE (e :: t) = srcE [e] ++ srcE t := fun t => srcE_app [e] t
    rw [List.map_cons, show flipE e :: s.map flipE = [flipE e] ++ s.map flipE from rfl, srcE_app, ih, show e :: s = [e] ++ s from rfl, dstE_app]
    congr 1
    unfold flipE
    split
    · rename_i h; simp [srcE, dstE, h]
    · split
      · rename_i h1 h; simp [srcE, dstE, h]
      · rename_i h1 h2; simp [srcE, dstE, h1, h2]
theorem flip_dst (s : List EdM) : dstE (s.map flipE) = srcE s := by
  induction s with
  | nil => rfl
  | cons e s ih =>
    rw [List.map_cons, show flipE e :: s.map flipE = [flipE e] ++ s.map flipE from rfl, dstE_app, ih, show e :: s = [e] ++ s from rfl, srcE_app]
    congr 1
    unfold flipE
    split
    · rename_i h; simp [srcE, dstE, h]
    · split
      · rename_i h1 h; simp [srcE, dstE, h]
      · rename_i h1 h2; simp [srcE, dstE, h1, h2]
theorem flip_cost (s : List EdM) : costE (s.map flipE) = costE s := by
  induction s with
  | nil => rfl
  | cons e s ih =>
    rw [List.map_cons, show flipE e :: s.map flipE = [flipE e] ++ s.map flipE from rfl, costE_app, ih, show e :: s = [e] ++ s from rfl, costE_app]
    congr 1
    unfold flipE
    split
    · rename_i h; simp [costE, chgB, h]
    · split
      · rename_i h1 h; simp [costE, chgB, h]
      · rename_i h1 h2; simp [costE, chgB, h1, h2]
theorem flip_kinds {s : List EdM} (h : kindsOk s) : kindsOk (s.map flipE) := fun e he => by
  obtain ⟨x, hx, rfl⟩ := List.mem_map.1 he
  have := h x hx
  unfold flipE
  split
  · exact .inr (.inr rfl)
  · split
    · exact .inr (.inl rfl)
    · exact this
theorem back_ok (a b : List ByteArray) : patchP b (backP (diffS a b)) = (a, 0) ∧ costE (backP (diffS a b)) = levL a b := by
  obtain ⟨h1, h2, h3, h4, _⟩ := diffS_ok a b
  constructor
  · have h := patchP_ok (s := backP (diffS a b)) (a := b) (tidyP_kinds (flip_kinds h4)) (by unfold backP; rw [tidyP_src, flip_src, h2])
    rw [h]
    unfold backP
    rw [tidyP_dst, flip_dst, h1]
  · unfold backP
    rw [tidyP_cost, flip_cost, h3]
theorem ed_len (s : List EdM) : s.length ≤ (srcE s).length + (dstE s).length := by
  induction s with
  | nil => exact Nat.zero_le _
  | cons e s ih =>
    rw [show e :: s = [e] ++ s from rfl, srcE_app, dstE_app]
    simp only [List.length_append]
    have : ([e] : List EdM).length ≤ (srcE [e]).length + (dstE [e]).length := by
      by_cases h : e.kind = 2
      · simp [srcE, dstE, h]
      · simp [srcE, dstE, h]
    omega
theorem diff_len (a b : List ByteArray) : (diffS a b).length ≤ a.length + b.length := by
  obtain ⟨h1, h2, _⟩ := diffS_ok a b
  have := ed_len (diffS a b)
  rw [h1, h2] at this
  exact this
theorem levL_self (a : List ByteArray) : levL a a = 0 := by
  have h : ∀ n, n ≤ a.length → lev a a n n = 0 := by
    intro n
    induction n with
    | zero => intro _; rw [lev_0]
    | succ n ih =>
      intro h
      rw [lev_ss, ih (by omega), if_pos ⟨rfl, by omega⟩]
  exact h _ (Nat.le_refl _)
theorem levL_nil1 (a : List ByteArray) : levL [] a = a.length := lev_0 _ _ _
theorem levL_nil2 (a : List ByteArray) : levL a [] = a.length := lev_k0 _ _ _
theorem diff_self (a : List ByteArray) : ∀ e ∈ diffS a a, e.kind = 0 := by
  obtain ⟨_, _, h3, h4, _⟩ := diffS_ok a a
  rw [levL_self] at h3
  intro e he
  have h0 : (diffS a a).filter chgB = [] := List.eq_nil_of_length_eq_zero h3
  have h1 : ¬ chgB e = true := fun hc => by
    have : e ∈ (diffS a a).filter chgB := List.mem_filter.2 ⟨he, hc⟩
    rw [h0] at this
    cases this
  rcases h4 e he with h | h | h
  · exact h
  · simp [chgB, h] at h1
  · simp [chgB, h] at h1

/-! ### the calls, as the laws want them -/

/-- a script that a call handed back -/
structure EdOut (w w' : World) (e : Ending) (s : List EdM) (A : Option Addr) (c : Nat) : Prop where
  ret : e = .returned (.slice A s.length c)
  rd : Rd w' A (edc s)
  cap : s.length ≤ c ∧ c ≤ maxLen
  non : A = none → s = [] ∧ c = 0
  bel : Below w.heap.size w w'
theorem edOut_of {w w' : World} {e : Ending} {s : List EdM} {A : Option Addr} {c n : Nat} (hn : n = s.length) (he : e = .returned (.slice A n c)) (ho : w'.ownsRow w.heap.size 36 2 (.slice A n c) n (edc s)) (hb : Below w.heap.size w w') : EdOut w w' e s A c := by
  subst hn
  obtain ⟨A', c', hv, h1, h2, _, h3⟩ := own_slice ho
  injection hv with e1 _ e2
  subst e1 e2
  exact ⟨he, own_rd ho, ⟨h1, h2⟩, fun h => ⟨List.eq_nil_of_length_eq_zero (h3 h).1, (h3 h).2⟩, hb⟩
theorem diff_c (A B : Option Addr) (a b : List ByteArray) (c c' : Nat) (w : World) (ha : Rd w A (sts a)) (hb : Rd w B (sts b)) (hla : a.length ≤ 1000) (hlb : b.length ≤ 1000) :
    Calls Tryd.prog 10 #[.slice A a.length c, .slice B b.length c'] w fun e w' => ∃ A' c', EdOut w w' e (diffS a b) A' c' :=
  (diff_any A B a b c c' w ha hb hla hlb).mono fun e w' ⟨A', c', h1, h2, h3⟩ => ⟨A', c', edOut_of rfl h1 h2 h3⟩
theorem back_c (A : Option Addr) (s : List EdM) (c : Nat) (w : World) (hr : Rd w A (edc s)) (hl : s.length ≤ 1000000) (hn : A = none → s = [] ∧ c = 0) :
    Calls Tryd.prog 21 #[.slice A s.length c] w fun e w' => ∃ A' c', EdOut w w' e (backP s) A' c' :=
  (back_any A s c w hr hl hn).mono fun e w' ⟨A', c', h1, h2, h3⟩ => ⟨A', c', edOut_of (by unfold backP; rw [tidyP_len, List.length_map]) h1 h2 h3⟩
end Go.Proofs.YtmniggjadfdheaaDoor
