
/- Diff, plain: how far one comes on each diagonal, and that it is as far as can be. No program. -/

import Derived.WalkKit

namespace Go.Proofs.YtmniggjadfdheaaDoor

set_option linter.unusedVariables false

set_option linter.unusedSectionVars false

section

variable {α : Type} [DecidableEq α]

/-- one may go on along diagonal k -/
def GoOn (a b : List α) (k x : Int) : Prop := x < a.length ∧ x - k < b.length ∧ 0 ≤ x - k ∧ a[x.toNat]? = b[(x - k).toNat]?
instance (a b : List α) (k x : Int) : Decidable (GoOn a b k x) := by unfold GoOn; infer_instance
def snakeF (a b : List α) (k : Int) : Nat → Int → Int
  | 0, x => x
  | f + 1, x => if GoOn a b k x then snakeF a b k f (x + 1) else x
/-- as far as the lines are the same -/
def snake (a b : List α) (k x : Int) : Int := snakeF a b k ((a.length : Int) - x).toNat x
theorem snake_go {a b : List α} {k x : Int} (h : GoOn a b k x) : snake a b k x = snake a b k (x + 1) := by
  unfold snake
  have h1 := h.1
  obtain ⟨f, hf⟩ : ∃ f, ((a.length : Int) - x).toNat = f + 1 := ⟨((a.length : Int) - x).toNat - 1, by omega⟩
  have h2 : ((a.length : Int) - (x + 1)).toNat = f := by omega
  rw [hf, h2]
  show (if GoOn a b k x then _ else _) = _
  rw [if_pos h]
theorem snake_stop {a b : List α} {k x : Int} (h : ¬ GoOn a b k x) : snake a b k x = x := by
  unfold snake
  cases ((a.length : Int) - x).toNat with
  | zero => rfl
  | succ f =>
    show (if GoOn a b k x then _ else _) = _
    rw [if_neg h]
theorem snake_ind (a b : List α) (k : Int) (P : Int → Prop) (hp : ∀ x, GoOn a b k x → P x → P (x + 1)) : ∀ (f : Nat) (x : Int), ((a.length : Int) - x).toNat = f → P x → P (snake a b k x)
  | 0, x, hf, h => by
    rw [snake_stop (fun g => by have := g.1; omega)]; exact h
  | f + 1, x, hf, h => by
    by_cases g : GoOn a b k x
    · rw [snake_go g]; exact snake_ind a b k P hp f (x + 1) (by omega) (hp x g h)
    · rw [snake_stop g]; exact h
theorem snake_keeps {a b : List α} {k x : Int} (P : Int → Prop) (hp : ∀ x, GoOn a b k x → P x → P (x + 1)) (h : P x) : P (snake a b k x) := snake_ind a b k P hp _ x rfl h
theorem snake_end (a b : List α) (k : Int) : ∀ (f : Nat) (x : Int), ((a.length : Int) - x).toNat = f → ¬ GoOn a b k (snake a b k x)
  | 0, x, hf => by
    have h : ¬ GoOn a b k x := fun g => by have := g.1; omega
    rw [snake_stop h]; exact h
  | f + 1, x, hf => by
    by_cases g : GoOn a b k x
    · rw [snake_go g]; exact snake_end a b k f (x + 1) (by omega)
    · rw [snake_stop g]; exact g
theorem snake_ge (a b : List α) (k x : Int) : x ≤ snake a b k x := snake_keeps (fun y => x ≤ y) (fun y _ h => by omega) (Int.le_refl _)
theorem snake_le (a b : List α) (k x : Int) : snake a b k x ≤ max x a.length := snake_keeps (fun y => y ≤ max x a.length) (fun y g h => by have := g.1; omega) (by omega)
theorem snake_all (a b : List α) (k : Int) : ∀ (f : Nat) (x : Int), ((a.length : Int) - x).toNat = f → ∀ j, x ≤ j → j < snake a b k x → GoOn a b k j
  | 0, x, hf, j, h1, h2 => by
    rw [snake_stop (fun g => by have := g.1; omega)] at h2; omega
  | f + 1, x, hf, j, h1, h2 => by
    by_cases g : GoOn a b k x
    · by_cases e : j = x
      · subst e; exact g
      · rw [snake_go g] at h2; exact snake_all a b k f (x + 1) (by omega) j (by omega) h2
    · rw [snake_stop g] at h2; omega

/-- whether diagonal k is come to by an Add, and from where on it goes -/
def dnB (f : Int → Int) (d k : Int) : Bool := decide (k = -d) || (decide (k ≠ d) && decide (f (k - 1) < f (k + 1)))
def dnX (f : Int → Int) (d k : Int) : Int := if dnB f d k then f (k + 1) else f (k - 1) + 1
/-- where one comes to on diagonal k, f being where one was -/
def farX (a b : List α) (f : Int → Int) (d k : Int) : Int := snake a b k (dnX f d k)
def onD (d k : Int) : Prop := -d ≤ k ∧ k ≤ d ∧ (k + d) % 2 = 0
instance (d k : Int) : Decidable (onD d k) := by unfold onD; infer_instance
/-- the table behind d rounds -/
def fS (a b : List α) : Nat → Int → Int
  | 0 => fun _ => 0
  | d + 1 => fun k => if onD d k then farX a b (fS a b d) d k else fS a b d k
def V (a b : List α) (d : Nat) (k : Int) : Int := farX a b (fS a b d) d k
theorem fS_on {a b : List α} {d : Nat} {k : Int} (h : onD d k) : fS a b (d + 1) k = V a b d k := by
  show (if onD d k then _ else _) = _
  rw [if_pos h]; rfl
/-- the numbers are small -/
theorem fS_bound (a b : List α) : ∀ (d : Nat) (k : Int), 0 ≤ fS a b d k ∧ fS a b d k ≤ (a.length : Int) + d
  | 0, k => by show (0 : Int) ≤ 0 ∧ (0 : Int) ≤ _; omega
  | d + 1, k => by
    show 0 ≤ (if onD d k then farX a b (fS a b d) d k else fS a b d k) ∧ (if onD d k then farX a b (fS a b d) d k else fS a b d k) ≤ _
    split
    · have h1 := fS_bound a b d (k + 1)
      have h2 := fS_bound a b d (k - 1)
      have h3 : 0 ≤ dnX (fS a b d) d k ∧ dnX (fS a b d) d k ≤ (a.length : Int) + d + 1 := by unfold dnX; split <;> omega
      have h4 := snake_ge a b k (dnX (fS a b d) d k)
      have h5 := snake_le a b k (dnX (fS a b d) d k)
      unfold farX
      omega
    · have := fS_bound a b d k
      omega
theorem dnX_bound (a b : List α) (d : Nat) (k : Int) : 0 ≤ dnX (fS a b d) d k ∧ dnX (fS a b d) d k ≤ (a.length : Int) + d + 1 := by
  have h1 := fS_bound a b d (k + 1)
  have h2 := fS_bound a b d (k - 1)
  unfold dnX; split <;> omega
theorem V_bound (a b : List α) (d : Nat) (k : Int) : 0 ≤ V a b d k ∧ V a b d k ≤ (a.length : Int) + d + 1 := by
  have h := dnX_bound a b d k
  have h4 := snake_ge a b k (dnX (fS a b d) d k)
  have h5 := snake_le a b k (dnX (fS a b d) d k)
  unfold V farX
  omega

/-- with d edits one comes to (x, y) -/
inductive Pth (a b : List α) : Nat → Nat → Nat → Prop
  | zero : Pth a b 0 0 0
  | keep {d x y : Nat} : Pth a b d x y → x < a.length → y < b.length → a[x]? = b[y]? → Pth a b d (x + 1) (y + 1)
  | drop {d x y : Nat} : Pth a b d x y → x < a.length → Pth a b (d + 1) (x + 1) y
  | add {d x y : Nat} : Pth a b d x y → y < b.length → Pth a b (d + 1) x (y + 1)
theorem Pth.on {a b : List α} {d x y : Nat} (h : Pth a b d x y) : onD d ((x : Int) - y) := by
  induction h with
  | zero => decide
  | keep h h1 h2 h3 ih => unfold onD at ih ⊢; omega
  | drop h h1 ih => unfold onD at ih ⊢; omega
  | add h h1 ih => unfold onD at ih ⊢; omega
theorem Pth.le {a b : List α} {d x y : Nat} (h : Pth a b d x y) : x ≤ a.length ∧ y ≤ b.length := by
  induction h with
  | zero => omega
  | keep h h1 h2 h3 ih => omega
  | drop h h1 ih => omega
  | add h h1 ih => omega
/-- none comes further -/
theorem Pth.far {a b : List α} {d x y : Nat} (h : Pth a b d x y) : (x : Int) ≤ V a b d ((x : Int) - y) := by
  induction h with
  | zero => exact (V_bound a b 0 _).1
  | @keep d x y h h1 h2 h3 ih =>
    have e : ((x + 1 : Nat) : Int) - ((y + 1 : Nat) : Int) = (x : Int) - y := by omega
    rw [e]
    by_cases hx : ((x + 1 : Nat) : Int) ≤ V a b d ((x : Int) - y)
    · exact hx
    · have hv : V a b d ((x : Int) - y) = (x : Int) := by omega
      have := snake_end a b ((x : Int) - y) _ (dnX (fS a b d) d ((x : Int) - y)) rfl
      exfalso
      apply this
      show GoOn a b _ (V a b d ((x : Int) - y))
      rw [hv]
      refine ⟨by omega, by omega, by omega, ?_⟩
      have e1 : ((x : Int)).toNat = x := by omega
      have e2 : ((x : Int) - ((x : Int) - y)).toNat = y := by omega
      rw [e1, e2]; exact h3
  | @drop d x y h h1 ih =>
    have ho := h.on
    have hv := fS_on (a := a) (b := b) ho
    have e : ((x + 1 : Nat) : Int) - (y : Int) = ((x : Int) - y) + 1 := by omega
    rw [e]
    refine Int.le_trans ?_ (snake_ge a b _ _)
    unfold dnX dnB
    have e2 : (x : Int) - y + 1 - 1 = (x : Int) - y := by omega
    rw [e2, hv]
    unfold onD at ho
    split
    · rename_i hc
      simp only [Bool.or_eq_true, Bool.and_eq_true, decide_eq_true_eq] at hc
      rcases hc with hc | ⟨_, hc⟩
      · omega
      · omega
    · omega
  | @add d x y h h1 ih =>
    have ho := h.on
    have hv := fS_on (a := a) (b := b) ho
    have e : (x : Int) - ((y + 1 : Nat) : Int) = ((x : Int) - y) - 1 := by omega
    rw [e]
    refine Int.le_trans ?_ (snake_ge a b _ _)
    unfold dnX dnB
    have e2 : (x : Int) - y - 1 + 1 = (x : Int) - y := by omega
    rw [e2, hv]
    unfold onD at ho
    split
    · exact ih
    · rename_i hc
      simp only [Bool.or_eq_true, Bool.and_eq_true, decide_eq_true_eq, not_or, not_and] at hc
      have h2 := hc.2 (by omega)
      omega

/-- beyond the texts' ends one goes without lines -/
def Vr (a b : List α) (d x y : Nat) : Prop := ∃ d', Pth a b d' (min x a.length) (min y b.length) ∧ d' + (x - min x a.length) + (y - min y b.length) ≤ d
theorem Vr.right {a b : List α} {d x y : Nat} (h : Vr a b d x y) : Vr a b (d + 1) (x + 1) y := by
  obtain ⟨d', hp, hl⟩ := h
  by_cases hx : x < a.length
  · have e1 : min x a.length = x := by omega
    have e2 : min (x + 1) a.length = x + 1 := by omega
    refine ⟨d' + 1, ?_, ?_⟩
    · rw [e2]; rw [e1] at hp; exact hp.drop hx
    · rw [e2]; rw [e1] at hl; omega
  · have e1 : min x a.length = a.length := by omega
    have e2 : min (x + 1) a.length = a.length := by omega
    refine ⟨d', ?_, ?_⟩
    · rw [e2]; rw [e1] at hp; exact hp
    · rw [e2]; rw [e1] at hl; omega
theorem Vr.down {a b : List α} {d x y : Nat} (h : Vr a b d x y) : Vr a b (d + 1) x (y + 1) := by
  obtain ⟨d', hp, hl⟩ := h
  by_cases hy : y < b.length
  · have e1 : min y b.length = y := by omega
    have e2 : min (y + 1) b.length = y + 1 := by omega
    refine ⟨d' + 1, ?_, ?_⟩
    · rw [e2]; rw [e1] at hp; exact hp.add hy
    · rw [e2]; rw [e1] at hl; omega
  · have e1 : min y b.length = b.length := by omega
    have e2 : min (y + 1) b.length = b.length := by omega
    refine ⟨d', ?_, ?_⟩
    · rw [e2]; rw [e1] at hp; exact hp
    · rw [e2]; rw [e1] at hl; omega
theorem Vr.diag {a b : List α} {d x y : Nat} (h : Vr a b d x y) (hx : x < a.length) (hy : y < b.length) (he : a[x]? = b[y]?) : Vr a b d (x + 1) (y + 1) := by
  obtain ⟨d', hp, hl⟩ := h
  have e1 : min x a.length = x := by omega
  have e2 : min (x + 1) a.length = x + 1 := by omega
  have e3 : min y b.length = y := by omega
  have e4 : min (y + 1) b.length = y + 1 := by omega
  rw [e1, e3] at hp hl
  refine ⟨d', ?_, ?_⟩
  · rw [e2, e4]; exact hp.keep hx hy he
  · rw [e2, e4]; omega
def VrI (a b : List α) (d : Nat) (x k : Int) : Prop := 0 ≤ x ∧ 0 ≤ x - k ∧ Vr a b d x.toNat (x - k).toNat
theorem VrI.snake {a b : List α} {d : Nat} {x k : Int} (h : VrI a b d x k) : VrI a b d (snake a b k x) k := by
  refine snake_keeps (fun y => VrI a b d y k) (fun y g hy => ?_) h
  obtain ⟨h1, h2, h3⟩ := hy
  obtain ⟨g1, g2, g3, g4⟩ := g
  refine ⟨by omega, by omega, ?_⟩
  have e1 : (y + 1).toNat = y.toNat + 1 := by omega
  have e2 : (y + 1 - k).toNat = (y - k).toNat + 1 := by omega
  rw [e1, e2]
  exact h3.diag (by omega) (by omega) g4
theorem V_reach (a b : List α) : ∀ (d : Nat) (k : Int), onD d k → VrI a b d (V a b d k) k
  | 0, k, h => by
    have hk : k = 0 := by unfold onD at h; omega
    subst hk
    refine VrI.snake ⟨?_, ?_, ?_⟩
    · exact (dnX_bound a b 0 0).1
    · have := (dnX_bound a b 0 0).1; omega
    · have e : dnX (fS a b 0) (0 : Nat) 0 = 0 := by
        unfold dnX dnB; simp [fS]
      rw [e]
      exact ⟨0, by simpa using Pth.zero, by simp⟩
  | d + 1, k, h => by
    unfold V farX
    refine VrI.snake ?_
    unfold dnX
    have hb : dnB (fS a b (d + 1)) ((d + 1 : Nat) : Int) k = true ∨ dnB (fS a b (d + 1)) ((d + 1 : Nat) : Int) k = false := by cases dnB (fS a b (d + 1)) ((d + 1 : Nat) : Int) k <;> simp
    rcases hb with hb | hb
    · rw [if_pos hb]
      have ho : onD d (k + 1) := by
        unfold dnB at hb
        simp only [Bool.or_eq_true, Bool.and_eq_true, decide_eq_true_eq] at hb
        unfold onD at h ⊢
        rcases hb with hb | hb <;> omega
      rw [fS_on ho]
      obtain ⟨h1, h2, h3⟩ := V_reach a b d (k + 1) ho
      refine ⟨h1, by omega, ?_⟩
      have e : (V a b d (k + 1) - k).toNat = (V a b d (k + 1) - (k + 1)).toNat + 1 := by omega
      rw [e]; exact h3.down
    · rw [if_neg (by rw [hb]; exact Bool.false_ne_true)]
      have ho : onD d (k - 1) := by
        unfold dnB at hb
        simp only [Bool.or_eq_false_iff, Bool.and_eq_false_iff, decide_eq_false_iff_not] at hb
        unfold onD at h ⊢
        omega
      rw [fS_on ho]
      obtain ⟨h1, h2, h3⟩ := V_reach a b d (k - 1) ho
      refine ⟨by omega, by omega, ?_⟩
      have e : (V a b d (k - 1) + 1).toNat = (V a b d (k - 1)).toNat + 1 := by omega
      have e2 : (V a b d (k - 1) + 1 - k).toNat = (V a b d (k - 1) - (k - 1)).toNat := by omega
      rw [e, e2]; exact h3.right

/-- round d comes to both ends, on diagonal k -/
def hitB (a b : List α) (d : Nat) (k : Int) : Bool := decide ((a.length : Int) ≤ V a b d k) && decide ((b.length : Int) ≤ V a b d k - k)
theorem hit_path {a b : List α} {d : Nat} {k : Int} (ho : onD d k) (h : hitB a b d k = true) : ∃ d', Pth a b d' a.length b.length ∧ (d' : Int) + (V a b d k - a.length) + (V a b d k - k - b.length) ≤ d := by
  obtain ⟨h1, h2, d', hp, hl⟩ := V_reach a b d k ho
  unfold hitB at h
  simp only [Bool.and_eq_true, decide_eq_true_eq] at h
  have e1 : min (V a b d k).toNat a.length = a.length := by omega
  have e2 : min (V a b d k - k).toNat b.length = b.length := by omega
  rw [e1, e2] at hp hl
  exact ⟨d', hp, by omega⟩
theorem path_hit {a b : List α} {d : Nat} (h : Pth a b d a.length b.length) : onD d ((a.length : Int) - b.length) ∧ hitB a b d ((a.length : Int) - b.length) = true := by
  have h1 := h.far
  refine ⟨h.on, ?_⟩
  unfold hitB
  simp only [Bool.and_eq_true, decide_eq_true_eq]
  omega
theorem path_any (a b : List α) : Pth a b (a.length + b.length) a.length b.length := by
  have h1 : ∀ x, x ≤ a.length → Pth a b x x 0 := by
    intro x
    induction x with
    | zero => intro _; exact .zero
    | succ x ih => intro h; exact (ih (by omega)).drop (by omega)
  have h2 : ∀ y, y ≤ b.length → Pth a b (a.length + y) a.length y := by
    intro y
    induction y with
    | zero => intro _; exact h1 _ (Nat.le_refl _)
    | succ y ih => intro h; exact (ih (by omega)).add (by omega)
  exact h2 _ (Nat.le_refl _)
/-- the fewest edits -/
def IsL (a b : List α) (d : Nat) : Prop := Pth a b d a.length b.length ∧ ∀ d', Pth a b d' a.length b.length → d ≤ d'
theorem isL_ex (a b : List α) : ∃ d, IsL a b d ∧ d ≤ a.length + b.length := by
  have key : ∀ n d, Pth a b d a.length b.length → d ≤ n → ∃ d, IsL a b d := by
    intro n
    induction n with
    | zero => intro d h hd; exact ⟨d, h, fun d' _ => by omega⟩
    | succ n ih =>
      intro d h hd
      by_cases hx : ∃ d', Pth a b d' a.length b.length ∧ d' < d
      · obtain ⟨d', h', hl⟩ := hx; exact ih d' h' (by omega)
      · exact ⟨d, h, fun d' h' => by
          rcases Nat.lt_or_ge d' d with hl | hl
          · exact absurd ⟨d', h', hl⟩ hx
          · exact hl⟩
  obtain ⟨d, hd⟩ := key _ _ (path_any a b) (Nat.le_refl _)
  exact ⟨d, hd, hd.2 _ (path_any a b)⟩
theorem IsL.unique {a b : List α} {d e : Nat} (h : IsL a b d) (k : IsL a b e) : d = e := Nat.le_antisymm (h.2 _ k.1) (k.2 _ h.1)
/-- no round ahead of the fewest edits comes to both ends -/
theorem IsL.none {a b : List α} {L d : Nat} {k : Int} (h : IsL a b L) (hd : d < L) (ho : onD d k) : hitB a b d k = false := by
  cases hc : hitB a b d k with
  | false => rfl
  | true =>
    obtain ⟨d', hp, hl⟩ := hit_path ho hc
    have := h.2 _ hp
    unfold hitB at hc
    simp only [Bool.and_eq_true, decide_eq_true_eq] at hc
    omega
/-- the round of the fewest edits comes to the very ends -/
theorem IsL.hit {a b : List α} {L : Nat} {k : Int} (h : IsL a b L) (ho : onD L k) (hc : hitB a b L k = true) : k = (a.length : Int) - b.length ∧ V a b L k = a.length := by
  obtain ⟨d', hp, hl⟩ := hit_path ho hc
  have := h.2 _ hp
  unfold hitB at hc
  simp only [Bool.and_eq_true, decide_eq_true_eq] at hc
  omega
theorem IsL.at_ {a b : List α} {L : Nat} (h : IsL a b L) : onD L ((a.length : Int) - b.length) ∧ hitB a b L ((a.length : Int) - b.length) = true := path_hit h.1
end

end Go.Proofs.YtmniggjadfdheaaDoor
