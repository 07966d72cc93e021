
/- Scripts, plain: what a script makes of what, the way back along the diagonals, Drops ahead of Adds; the table of the fewest edits. No program. -/

import Derived.Test.YtmniggjadfdheaaDoorLnM

namespace Go.Proofs.YtmniggjadfdheaaDoor

set_option linter.unusedVariables false

set_option linter.unusedSectionVars false

structure Ed (α : Type) where
  kind : Int
  line : α
deriving DecidableEq
section

variable {α : Type} [DecidableEq α] [Inhabited α]

def srcE (s : List (Ed α)) : List α := (s.filter (fun e => decide (e.kind ≠ 2))).map Ed.line
def dstE (s : List (Ed α)) : List α := (s.filter (fun e => decide (e.kind ≠ 1))).map Ed.line
def chgB (e : Ed α) : Bool := decide (e.kind = 1) || decide (e.kind = 2)
def costE (s : List (Ed α)) : Nat := (s.filter chgB).length
def kindsOk (s : List (Ed α)) : Prop := ∀ e ∈ s, e.kind = 0 ∨ e.kind = 1 ∨ e.kind = 2
theorem srcE_app (s t : List (Ed α)) : srcE (s ++ t) = srcE s ++ srcE t := by simp [srcE]
theorem dstE_app (s t : List (Ed α)) : dstE (s ++ t) = dstE s ++ dstE t := by simp [dstE]
theorem costE_app (s t : List (Ed α)) : costE (s ++ t) = costE s + costE t := by simp [costE]
theorem kindsOk_app {s t : List (Ed α)} (h : kindsOk s) (k : kindsOk t) : kindsOk (s ++ t) := fun e he => by
  rcases List.mem_append.1 he with h' | h'
  · exact h e h'
  · exact k e h'

/-- the script onto a list: the lines, or the error's number -/
def patchG (a : List α) : List (Ed α) → List α → List α × Int
  | [], out => if a = [] then (out, 0) else ([], 70)
  | e :: s, out =>
    if e.kind = 0 ∨ e.kind = 1 then
      match a with
      | [] => ([], 70)
      | x :: a' => if x ≠ e.line then ([], 70) else patchG a' s (if e.kind = 1 then out else out ++ [e.line])
    else if e.kind = 2 then patchG a s (out ++ [e.line])
    else ([], 1)
def patchP (a : List α) (s : List (Ed α)) : List α × Int := patchG a s []
theorem patchG_ok : ∀ (s : List (Ed α)) (a out : List α), kindsOk s → srcE s = a → patchG a s out = (out ++ dstE s, 0)
  | [], a, out, hk, hs => by
    have : a = [] := by rw [← hs]; rfl
    subst this
    simp [patchG, dstE]
  | e :: s, a, out, hk, hs => by
    have hk' : kindsOk s := fun x hx => hk x (by simp [hx])
    rcases hk e (by simp) with h | h | h
    · have e1 : srcE (e :: s) = e.line :: srcE s := by simp [srcE, h]
      have e2 : dstE (e :: s) = e.line :: dstE s := by simp [dstE, h]
      rw [e1] at hs
      subst hs
      have ih := patchG_ok s (srcE s) (out ++ [e.line]) hk' rfl
      simp [patchG, h, ih, e2]
    · have e1 : srcE (e :: s) = e.line :: srcE s := by simp [srcE, h]
      have e2 : dstE (e :: s) = dstE s := by simp [dstE, h]
      rw [e1] at hs
      subst hs
      have ih := patchG_ok s (srcE s) out hk' rfl
      simp [patchG, h, ih, e2]
    · have e1 : srcE (e :: s) = srcE s := by simp [srcE, h]
      have e2 : dstE (e :: s) = e.line :: dstE s := by simp [dstE, h]
      rw [e1] at hs
      have ih := patchG_ok s a (out ++ [e.line]) hk' hs
      simp [patchG, h, ih, e2]
theorem patchP_ok {s : List (Ed α)} {a : List α} (hk : kindsOk s) (hs : srcE s = a) : patchP a s = (dstE s, 0) := by
  unfold patchP; rw [patchG_ok s a [] hk hs]; rfl

/-! ### Drops ahead of Adds -/

def tidyG : List (Ed α) → List (Ed α) → List (Ed α) → List (Ed α)
  | [], out, adds => out ++ adds
  | e :: s, out, adds =>
    if e.kind = 2 then tidyG s out (adds ++ [e])
    else if e.kind ≠ 1 then tidyG s (out ++ adds ++ [e]) []
    else tidyG s (out ++ [e]) adds
def tidyP (s : List (Ed α)) : List (Ed α) := tidyG s [] []
def adds2 (s : List (Ed α)) : Prop := ∀ e ∈ s, e.kind = 2
theorem adds2_app {s t : List (Ed α)} (h : adds2 s) (k : adds2 t) : adds2 (s ++ t) := fun e he => by
  rcases List.mem_append.1 he with h' | h'
  · exact h e h'
  · exact k e h'
theorem srcE_adds {s : List (Ed α)} (h : adds2 s) : srcE s = [] := by
  unfold srcE
  rw [List.map_eq_nil_iff, List.filter_eq_nil_iff]
  intro e he
  simp [h e he]
theorem tidyG_src : ∀ (s out adds : List (Ed α)), adds2 adds → srcE (tidyG s out adds) = srcE out ++ srcE s
  | [], out, adds, h => by simp only [tidyG]; rw [srcE_app, srcE_adds h]; rfl
  | e :: s, out, adds, h => by
    have e0 : e :: s = [e] ++ s := rfl
    simp only [tidyG]
    split
    · rename_i hk
      rw [tidyG_src s _ _ (adds2_app h (fun x hx => by rw [List.mem_singleton.1 hx]; exact hk)), e0, srcE_app, srcE_adds (s := [e]) (fun x hx => by rw [List.mem_singleton.1 hx]; exact hk), List.nil_append]
    · split
      · rw [tidyG_src s _ _ (fun x hx => by cases hx), srcE_app, srcE_app, srcE_adds h, e0, srcE_app]; simp
      · rw [tidyG_src s _ _ h, srcE_app, e0, srcE_app]; simp
theorem tidyG_dst : ∀ (s out adds : List (Ed α)), dstE (tidyG s out adds) = dstE out ++ dstE adds ++ dstE s
  | [], out, adds => by simp only [tidyG]; rw [dstE_app]; simp [dstE]
  | e :: s, out, adds => by
    have e0 : e :: s = [e] ++ s := rfl
    simp only [tidyG]
    split
    · rw [tidyG_dst s, dstE_app, e0, dstE_app]; simp
    · split
      · rw [tidyG_dst s, dstE_app, dstE_app, e0, dstE_app]; simp [dstE]
      · rename_i h1 h2
        have h3 : e.kind = 1 := by omega
        rw [tidyG_dst s, dstE_app, e0, dstE_app]
        have : dstE [e] = [] := by simp [dstE, h3]
        rw [this]; simp
theorem tidyG_cost : ∀ (s out adds : List (Ed α)), costE (tidyG s out adds) = costE out + costE adds + costE s
  | [], out, adds => by simp only [tidyG]; rw [costE_app]; simp [costE]
  | e :: s, out, adds => by
    have e0 : e :: s = [e] ++ s := rfl
    simp only [tidyG]
    split
    · rw [tidyG_cost s, costE_app, e0, costE_app]; omega
    · split
      · rw [tidyG_cost s, costE_app, costE_app, e0, costE_app]; simp [costE]; omega
      · rw [tidyG_cost s, costE_app, e0, costE_app]; omega
theorem tidyG_kinds : ∀ (s out adds : List (Ed α)), kindsOk s → kindsOk out → kindsOk adds → kindsOk (tidyG s out adds)
  | [], out, adds, h1, h2, h3 => kindsOk_app h2 h3
  | e :: s, out, adds, h1, h2, h3 => by
    have he : kindsOk [e] := fun x hx => by rw [List.mem_singleton.1 hx]; exact h1 e (by simp)
    have hs : kindsOk s := fun x hx => h1 x (by simp [hx])
    simp only [tidyG]
    split
    · exact tidyG_kinds s _ _ hs h2 (kindsOk_app h3 he)
    · split
      · exact tidyG_kinds s _ _ hs (kindsOk_app (kindsOk_app h2 h3) he) (fun x hx => by cases hx)
      · exact tidyG_kinds s _ _ hs (kindsOk_app h2 he) h3
theorem tidyG_len : ∀ (s out adds : List (Ed α)), (tidyG s out adds).length = out.length + adds.length + s.length
  | [], out, adds => by simp [tidyG]
  | e :: s, out, adds => by
    simp only [tidyG]
    split
    · rw [tidyG_len s]; simp; omega
    · split
      · rw [tidyG_len s]; simp; omega
      · rw [tidyG_len s]; simp; omega
/-- no Drop right behind an Add -/
def noAD (s : List (Ed α)) : Prop := ∀ i (e f : Ed α), s[i]? = some e → s[i + 1]? = some f → e.kind = 2 → f.kind ≠ 1
def last2 (s : List (Ed α)) : Prop := ∀ e, s.getLast? = some e → e.kind ≠ 2
theorem noAD_app {s t : List (Ed α)} (h : noAD s) (k : noAD t) (hl : ∀ e f, s.getLast? = some e → t.head? = some f → e.kind = 2 → f.kind ≠ 1) : noAD (s ++ t) := by
  intro i e f h1 h2
  by_cases c1 : i + 1 < s.length
  · rw [List.getElem?_append_left (by omega)] at h1
    rw [List.getElem?_append_left c1] at h2
    exact h i e f h1 h2
  · by_cases c2 : i < s.length
    · have : i = s.length - 1 := by omega
      subst this
      rw [List.getElem?_append_left c2] at h1
      rw [List.getElem?_append_right (by omega)] at h2
      have e0 : s.length - 1 + 1 - s.length = 0 := by omega
      rw [e0] at h2
      exact hl e f (by rw [List.getLast?_eq_getElem?]; exact h1) (by rw [List.head?_eq_getElem?]; exact h2)
    · rw [List.getElem?_append_right (by omega)] at h1 h2
      have e1 : i + 1 - s.length = (i - s.length) + 1 := by omega
      rw [e1] at h2
      exact k _ e f h1 h2
theorem noAD_adds {s : List (Ed α)} (h : adds2 s) : noAD s := fun i e f h1 h2 _ => by
  rw [h f (List.mem_of_getElem? h2)]; decide
theorem noAD_one (e : Ed α) : noAD [e] := fun i x f h1 h2 _ => by simp at h2
theorem tidyG_noAD : ∀ (s out adds : List (Ed α)), noAD out → last2 out → adds2 adds → noAD (tidyG s out adds)
  | [], out, adds, h1, h2, h3 => by
    simp only [tidyG]
    exact noAD_app h1 (noAD_adds h3) (fun e f he _ hk => absurd hk (h2 e he))
  | e :: s, out, adds, h1, h2, h3 => by
    simp only [tidyG]
    split
    · rename_i hk
      exact tidyG_noAD s _ _ h1 h2 (adds2_app h3 (fun x hx => by rw [List.mem_singleton.1 hx]; exact hk))
    · rename_i hk
      split
      · rename_i hk1
        refine tidyG_noAD s _ _ ?_ ?_ (fun x hx => by cases hx)
        · refine noAD_app (noAD_app h1 (noAD_adds h3) (fun x f he _ hk => absurd hk (h2 x he))) (noAD_one e) (fun x f _ hf _ => ?_)
          simp only [List.head?_cons, Option.some.injEq] at hf
          subst hf; exact hk1
        · intro x hx
          rw [List.getLast?_append] at hx
          simp at hx
          subst hx; exact hk
      · rename_i hk1
        refine tidyG_noAD s _ _ ?_ ?_ h3
        · exact noAD_app h1 (noAD_one e) (fun x f he _ hk => absurd hk (h2 x he))
        · intro x hx
          rw [List.getLast?_append] at hx
          simp at hx
          subst hx; exact hk
theorem tidyP_src (s : List (Ed α)) : srcE (tidyP s) = srcE s := by unfold tidyP; rw [tidyG_src s [] [] (fun x hx => by cases hx)]; rfl
theorem tidyP_dst (s : List (Ed α)) : dstE (tidyP s) = dstE s := by unfold tidyP; rw [tidyG_dst]; rfl
theorem tidyP_cost (s : List (Ed α)) : costE (tidyP s) = costE s := by unfold tidyP; rw [tidyG_cost]; simp [costE]
theorem tidyP_kinds {s : List (Ed α)} (h : kindsOk s) : kindsOk (tidyP s) := tidyG_kinds s [] [] h (fun x hx => by cases hx) (fun x hx => by cases hx)
theorem tidyP_len (s : List (Ed α)) : (tidyP s).length = s.length := by unfold tidyP; rw [tidyG_len]; simp
theorem tidyP_noAD (s : List (Ed α)) : noAD (tidyP s) := tidyG_noAD s [] [] (fun i e f h => by simp at h) (fun e h => by simp at h) (fun x hx => by cases hx)

/-! ### the way back -/

def ln (a : List α) (x : Int) : α := a.getD x.toNat default
/-- lines x - 1, .., lo as they are kept -/
def keepsN (a : List α) : Nat → Int → List (Ed α)
  | 0, _ => []
  | n + 1, x => ⟨0, ln a (x - 1)⟩ :: keepsN a n (x - 1)
def keepsB (a : List α) (lo x : Int) : List (Ed α) := keepsN a (x - lo).toNat x
theorem keepsB_nil (a : List α) (x : Int) : keepsB a x x = [] := by unfold keepsB; rw [Int.sub_self]; rfl
theorem keepsB_cons {a : List α} {lo x : Int} (h : lo < x) : keepsB a lo x = ⟨0, ln a (x - 1)⟩ :: keepsB a lo (x - 1) := by
  unfold keepsB
  obtain ⟨n, hn⟩ : ∃ n, (x - lo).toNat = n + 1 := ⟨(x - lo).toNat - 1, by omega⟩
  have e : (x - 1 - lo).toNat = n := by omega
  rw [hn, e]; rfl
def bkE (a b : List α) : Nat → Int → Int → List (Ed α)
  | 0, x, k => keepsB a (dnX (fS a b 0) 0 k) x
  | d + 1, x, k =>
    let lo := dnX (fS a b (d + 1)) (d + 1 : Nat) k
    keepsB a lo x ++ (if dnB (fS a b (d + 1)) (d + 1 : Nat) k then ⟨2, ln b (lo - k - 1)⟩ :: bkE a b d lo (k + 1) else ⟨1, ln a (lo - 1)⟩ :: bkE a b d (lo - 1) (k - 1))
/-- one stands where round d came to on diagonal k, inside of both texts -/
def Inv (a b : List α) (d : Nat) (x k : Int) : Prop := onD d k ∧ x = V a b d k ∧ x ≤ a.length ∧ x - k ≤ b.length
theorem Inv.nonneg {a b : List α} {d : Nat} {x k : Int} (h : Inv a b d x k) : 0 ≤ x ∧ 0 ≤ x - k := by
  have := V_reach a b d k h.1
  rw [← h.2.1] at this
  exact ⟨this.1, this.2.1⟩
theorem Inv.lo {a b : List α} {d : Nat} {x k : Int} (h : Inv a b d x k) : dnX (fS a b d) d k ≤ x ∧ ∀ j, dnX (fS a b d) d k ≤ j → j < x → GoOn a b k j := by
  rw [h.2.1]
  exact ⟨snake_ge a b k _, fun j h1 h2 => snake_all a b k _ _ rfl j h1 h2⟩
theorem dn_down {a b : List α} {d : Nat} {k : Int} (h : onD (d + 1 : Nat) k) (hb : dnB (fS a b (d + 1)) (d + 1 : Nat) k = true) : onD d (k + 1) ∧ dnX (fS a b (d + 1)) (d + 1 : Nat) k = V a b d (k + 1) := by
  have ho : onD d (k + 1) := by
    unfold dnB at hb
    simp only [Bool.or_eq_true, Bool.and_eq_true, decide_eq_true_eq] at hb
    unfold onD at h ⊢
    rcases hb with hb | hb <;> omega
  refine ⟨ho, ?_⟩
  unfold dnX
  rw [if_pos hb, fS_on ho]
theorem dn_right {a b : List α} {d : Nat} {k : Int} (h : onD (d + 1 : Nat) k) (hb : dnB (fS a b (d + 1)) (d + 1 : Nat) k = false) : onD d (k - 1) ∧ dnX (fS a b (d + 1)) (d + 1 : Nat) k = V a b d (k - 1) + 1 := by
  have ho : onD d (k - 1) := by
    unfold dnB at hb
    simp only [Bool.or_eq_false_iff, Bool.and_eq_false_iff, decide_eq_false_iff_not] at hb
    unfold onD at h ⊢
    omega
  refine ⟨ho, ?_⟩
  unfold dnX
  rw [if_neg (by rw [hb]; exact Bool.false_ne_true), fS_on ho]
theorem dn_zero {a b : List α} {k : Int} (h : onD (0 : Nat) k) : k = 0 ∧ dnX (fS a b 0) (0 : Nat) k = 0 := by
  have hk : k = 0 := by unfold onD at h; omega
  subst hk
  refine ⟨rfl, ?_⟩
  unfold dnX dnB; simp [fS]
theorem Inv.down {a b : List α} {d : Nat} {x k : Int} (h : Inv a b (d + 1) x k) (hb : dnB (fS a b (d + 1)) (d + 1 : Nat) k = true) :
    Inv a b d (dnX (fS a b (d + 1)) (d + 1 : Nat) k) (k + 1) ∧ 0 ≤ dnX (fS a b (d + 1)) (d + 1 : Nat) k - k - 1 ∧ dnX (fS a b (d + 1)) (d + 1 : Nat) k - k - 1 < b.length := by
  obtain ⟨h1, h2⟩ := dn_down h.1 hb
  have h3 := V_reach a b d (k + 1) h1
  have h4 := h.lo.1
  obtain ⟨_, _, h5, h6⟩ := h
  rw [← h2] at h3
  obtain ⟨h7, h8, _⟩ := h3
  exact ⟨⟨h1, h2, by omega, by omega⟩, by omega, by omega⟩
theorem Inv.right {a b : List α} {d : Nat} {x k : Int} (h : Inv a b (d + 1) x k) (hb : dnB (fS a b (d + 1)) (d + 1 : Nat) k = false) :
    Inv a b d (dnX (fS a b (d + 1)) (d + 1 : Nat) k - 1) (k - 1) ∧ 0 ≤ dnX (fS a b (d + 1)) (d + 1 : Nat) k - 1 ∧ dnX (fS a b (d + 1)) (d + 1 : Nat) k - 1 < a.length ∧ 0 ≤ dnX (fS a b (d + 1)) (d + 1 : Nat) k - k := by
  obtain ⟨h1, h2⟩ := dn_right h.1 hb
  have h3 := V_reach a b d (k - 1) h1
  have h4 := h.lo.1
  obtain ⟨_, _, h5, h6⟩ := h
  obtain ⟨h7, h8, _⟩ := h3
  exact ⟨⟨h1, by omega, by omega, by omega⟩, by omega, by omega, by omega⟩
theorem take_snoc_ln (a : List α) (x : Int) (h0 : 0 ≤ x) (h : x < a.length) : a.take (x + 1).toNat = a.take x.toNat ++ [ln a x] := by
  have e : (x + 1).toNat = x.toNat + 1 := by omega
  have hl : x.toNat < a.length := by omega
  rw [e, List.take_succ_eq_append_getElem hl]
  congr 2
  unfold ln
  rw [List.getD_eq_getElem?_getD, List.getElem?_eq_getElem hl]; rfl
theorem GoOn.ln {a b : List α} {k x : Int} (h : GoOn a b k x) (h0 : 0 ≤ x) : ln a x = ln b (x - k) := by
  unfold Go.Proofs.YtmniggjadfdheaaDoor.ln
  rw [List.getD_eq_getElem?_getD, List.getD_eq_getElem?_getD, h.2.2.2]
theorem keeps_src (a b : List α) (k lo : Int) (h0 : 0 ≤ lo) (h1 : 0 ≤ lo - k) : ∀ (n : Nat) (x : Int), (x - lo).toNat = n → lo ≤ x → (∀ j, lo ≤ j → j < x → GoOn a b k j) →
    a.take lo.toNat ++ srcE (keepsB a lo x).reverse = a.take x.toNat ∧ b.take (lo - k).toNat ++ dstE (keepsB a lo x).reverse = b.take (x - k).toNat ∧ costE (keepsB a lo x).reverse = 0 ∧ kindsOk (keepsB a lo x).reverse
  | 0, x, hn, hx, hg => by
    have : x = lo := by omega
    subst this
    rw [keepsB_nil]
    exact ⟨by simp [srcE], by simp [dstE], rfl, fun e he => by cases he⟩
  | n + 1, x, hn, hx, hg => by
    have hlt : lo < x := by omega
    obtain ⟨i1, i2, i3, i4⟩ := keeps_src a b k lo h0 h1 n (x - 1) (by omega) (by omega) (fun j a1 a2 => hg j a1 (by omega))
    have g := hg (x - 1) (by omega) (by omega)
    rw [keepsB_cons hlt, List.reverse_cons]
    have e1 : srcE [(⟨0, ln a (x - 1)⟩ : Ed α)] = [ln a (x - 1)] := by simp [srcE]
    have e2 : dstE [(⟨0, ln a (x - 1)⟩ : Ed α)] = [ln a (x - 1)] := by simp [dstE]
    refine ⟨?_, ?_, ?_, ?_⟩
    · rw [srcE_app, e1, ← List.append_assoc, i1]
      have := take_snoc_ln a (x - 1) (by omega) g.1
      rw [← this]
      congr 1; omega
    · rw [dstE_app, e2, ← List.append_assoc, i2]
      have h3 := take_snoc_ln b (x - 1 - k) (by omega) g.2.1
      rw [← g.ln (by omega)] at h3
      rw [← h3]
      congr 1; omega
    · rw [costE_app, i3]; simp [costE, chgB]
    · exact kindsOk_app i4 (fun e he => by rw [List.mem_singleton.1 he]; exact .inl rfl)
theorem bkE_ok (a b : List α) : ∀ (d : Nat) (x k : Int), Inv a b d x k → srcE (bkE a b d x k).reverse = a.take x.toNat ∧ dstE (bkE a b d x k).reverse = b.take (x - k).toNat ∧ costE (bkE a b d x k).reverse = d ∧ kindsOk (bkE a b d x k).reverse
  | 0, x, k, h => by
    obtain ⟨h1, h2⟩ := dn_zero (a := a) (b := b) h.1
    subst h1
    obtain ⟨l1, l2⟩ := h.lo
    have key := keeps_src a b 0 _ (by rw [h2]; exact Int.le_refl _) (by rw [h2]; decide) _ x rfl l1 l2
    unfold bkE
    refine ⟨?_, ?_, key.2.2.1, key.2.2.2⟩
    · have h3 := key.1
      have e0 : a.take (dnX (fS a b 0) (0 : Nat) 0).toNat = [] := by rw [h2]; rfl
      rw [e0, List.nil_append] at h3
      exact h3
    · have h3 := key.2.1
      have e0 : b.take (dnX (fS a b 0) (0 : Nat) 0 - 0).toNat = [] := by rw [h2]; rfl
      rw [e0, List.nil_append] at h3
      exact h3
  | d + 1, x, k, h => by
    obtain ⟨l1, l2⟩ := h.lo
    unfold bkE
    simp only []
    cases hb : dnB (fS a b (d + 1)) (d + 1 : Nat) k
    · obtain ⟨hi, p1, p2, p3⟩ := h.right hb
      obtain ⟨i1, i2, i3, i4⟩ := bkE_ok a b d _ _ hi
      obtain ⟨c1, c2, c3, c4⟩ := keeps_src a b k _ (by omega) p3 _ x rfl l1 l2
      rw [if_neg Bool.false_ne_true, List.reverse_append, List.reverse_cons]
      generalize dnX (fS a b (d + 1)) (d + 1 : Nat) k = lo at *
      have e1 : srcE [(⟨1, ln a (lo - 1)⟩ : Ed α)] = [ln a (lo - 1)] := by simp [srcE]
      have e2 : dstE [(⟨1, ln a (lo - 1)⟩ : Ed α)] = [] := by simp [dstE]
      refine ⟨?_, ?_, ?_, ?_⟩
      · rw [srcE_app, srcE_app, i1, e1, ← take_snoc_ln a (lo - 1) p1 p2]
        have e3 : (lo - 1 + 1).toNat = lo.toNat := by omega
        rw [e3]; exact c1
      · rw [dstE_app, dstE_app, i2, e2, List.append_nil]
        have e3 : (lo - 1 - (k - 1)).toNat = (lo - k).toNat := by omega
        rw [e3]; exact c2
      · rw [costE_app, costE_app, i3, c3]; simp [costE, chgB]
      · exact kindsOk_app (kindsOk_app i4 (fun e he => by rw [List.mem_singleton.1 he]; exact .inr (.inl rfl))) c4
    · obtain ⟨hi, p1, p2⟩ := h.down hb
      have hn := hi.nonneg
      obtain ⟨i1, i2, i3, i4⟩ := bkE_ok a b d _ _ hi
      obtain ⟨c1, c2, c3, c4⟩ := keeps_src a b k _ hn.1 (by omega) _ x rfl l1 l2
      rw [if_pos rfl, List.reverse_append, List.reverse_cons]
      generalize dnX (fS a b (d + 1)) (d + 1 : Nat) k = lo at *
      have e1 : srcE [(⟨2, ln b (lo - k - 1)⟩ : Ed α)] = [] := by simp [srcE]
      have e2 : dstE [(⟨2, ln b (lo - k - 1)⟩ : Ed α)] = [ln b (lo - k - 1)] := by simp [dstE]
      refine ⟨?_, ?_, ?_, ?_⟩
      · rw [srcE_app, srcE_app, i1, e1, List.append_nil]; exact c1
      · rw [dstE_app, dstE_app, i2, e2]
        have e3 : (lo - (k + 1)).toNat = (lo - k - 1).toNat := by congr 1; omega
        rw [e3, ← take_snoc_ln b (lo - k - 1) p1 p2]
        have e4 : (lo - k - 1 + 1).toNat = (lo - k).toNat := by omega
        rw [e4]; exact c2
      · rw [costE_app, costE_app, i3, c3]; simp [costE, chgB]
      · exact kindsOk_app (kindsOk_app i4 (fun e he => by rw [List.mem_singleton.1 he]; exact .inr (.inr rfl))) c4

/-! ### the table of the fewest edits -/

def lev (a b : List α) : Nat → Nat → Nat
  | 0, k => k
  | i + 1, 0 => i + 1
  | i + 1, k + 1 =>
    if a[i]? = b[k]? ∧ lev a b i k < min (lev a b i (k + 1) + 1) (lev a b (i + 1) k + 1) then lev a b i k else min (lev a b i (k + 1) + 1) (lev a b (i + 1) k + 1)
theorem lev_0 (a b : List α) (k : Nat) : lev a b 0 k = k := by rw [lev]
theorem lev_k0 (a b : List α) (i : Nat) : lev a b i 0 = i := by cases i <;> rw [lev]
theorem lev_ss (a b : List α) (i k : Nat) : lev a b (i + 1) (k + 1) = if a[i]? = b[k]? ∧ lev a b i k < min (lev a b i (k + 1) + 1) (lev a b (i + 1) k + 1) then lev a b i k else min (lev a b i (k + 1) + 1) (lev a b (i + 1) k + 1) := by rw [lev]
theorem lev_path (a b : List α) : ∀ i k, i ≤ a.length → k ≤ b.length → Pth a b (lev a b i k) i k
  | 0, k, hi, hk => by
    rw [lev_0]
    induction k with
    | zero => exact .zero
    | succ k ih => exact (ih (by omega)).add (by omega)
  | i + 1, 0, hi, hk => by
    have h := lev_path a b i 0 (by omega) hk
    rw [lev_k0] at h ⊢
    exact h.drop (by omega)
  | i + 1, k + 1, hi, hk => by
    have h1 := (lev_path a b i (k + 1) (by omega) hk).drop (by omega : i < a.length)
    have h2 := (lev_path a b (i + 1) k hi (by omega)).add (by omega : k < b.length)
    rw [lev_ss]
    by_cases hc : a[i]? = b[k]? ∧ lev a b i k < min (lev a b i (k + 1) + 1) (lev a b (i + 1) k + 1)
    · rw [if_pos hc]
      exact (lev_path a b i k (by omega) (by omega)).keep (by omega) (by omega) hc.1
    · rw [if_neg hc]
      rcases Nat.le_total (lev a b i (k + 1) + 1) (lev a b (i + 1) k + 1) with h | h
      · rw [Nat.min_eq_left h]; exact h1
      · rw [Nat.min_eq_right h]; exact h2
theorem lev_least {a b : List α} {d x y : Nat} (h : Pth a b d x y) : lev a b x y ≤ d := by
  induction h with
  | zero => rw [lev_0]; exact Nat.le_refl _
  | @keep d x y h h1 h2 h3 ih =>
    rw [lev_ss]
    split
    · exact ih
    · rename_i hc
      have : ¬ lev a b x y < min (lev a b x (y + 1) + 1) (lev a b (x + 1) y + 1) := fun e => hc ⟨h3, e⟩
      omega
  | @drop d x y h h1 ih =>
    cases y with
    | zero => rw [lev_k0] at ih ⊢; omega
    | succ y =>
      rw [lev_ss]
      split
      · omega
      · omega
  | @add d x y h h1 ih =>
    cases x with
    | zero => rw [lev_0] at ih ⊢; omega
    | succ x =>
      rw [lev_ss]
      split
      · omega
      · omega
def levL (a b : List α) : Nat := lev a b a.length b.length
theorem levL_is (a b : List α) : IsL a b (levL a b) := ⟨lev_path a b _ _ (Nat.le_refl _) (Nat.le_refl _), fun d' h => lev_least h⟩
theorem levL_le (a b : List α) : levL a b ≤ a.length + b.length := (levL_is a b).2 _ (path_any a b)
theorem Pth.swap {a b : List α} {d x y : Nat} (h : Pth a b d x y) : Pth b a d y x := by
  induction h with
  | zero => exact .zero
  | keep h h1 h2 h3 ih => exact ih.keep h2 h1 h3.symm
  | drop h h1 ih => exact ih.add h1
  | add h h1 ih => exact ih.drop h1
theorem levL_swap (a b : List α) : levL a b = levL b a :=
  Nat.le_antisymm ((levL_is a b).2 _ (levL_is b a).1.swap) ((levL_is b a).2 _ (levL_is a b).1.swap)

/-! ### the script -/

def rawS (a b : List α) : List (Ed α) := (bkE a b (levL a b) a.length ((a.length : Int) - b.length)).reverse
def diffS (a b : List α) : List (Ed α) := tidyP (rawS a b)
theorem inv_start (a b : List α) : Inv a b (levL a b) a.length ((a.length : Int) - b.length) := by
  have h := (levL_is a b).at_
  have h2 := (levL_is a b).hit h.1 h.2
  exact ⟨h.1, h2.2.symm, Int.le_refl _, by omega⟩
theorem rawS_ok (a b : List α) : srcE (rawS a b) = a ∧ dstE (rawS a b) = b ∧ costE (rawS a b) = levL a b ∧ kindsOk (rawS a b) := by
  obtain ⟨h1, h2, h3, h4⟩ := bkE_ok a b _ _ _ (inv_start a b)
  refine ⟨?_, ?_, h3, h4⟩
  · unfold rawS; rw [h1, show ((a.length : Int)).toNat = a.length by omega, List.take_length]
  · unfold rawS; rw [h2, show ((a.length : Int) - ((a.length : Int) - b.length)).toNat = b.length by omega, List.take_length]
theorem diffS_ok (a b : List α) : srcE (diffS a b) = a ∧ dstE (diffS a b) = b ∧ costE (diffS a b) = levL a b ∧ kindsOk (diffS a b) ∧ noAD (diffS a b) := by
  obtain ⟨h1, h2, h3, h4⟩ := rawS_ok a b
  unfold diffS
  exact ⟨by rw [tidyP_src, h1], by rw [tidyP_dst, h2], by rw [tidyP_cost, h3], tidyP_kinds h4, tidyP_noAD _⟩
end

end Go.Proofs.YtmniggjadfdheaaDoor
