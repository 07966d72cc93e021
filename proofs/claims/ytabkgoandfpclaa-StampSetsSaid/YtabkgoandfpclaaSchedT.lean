
/- A region that draws its order, walked by a schedule in which two operations may stand side by side. No condition; no program. -/

import Derived.Test.YtabkgoandfpclaaSched

namespace Go.Proofs.Ytabkgoandfpclaa

open Go.RowKit

def doStep (P : Program) (ops : Array Oper) (S : World → Prop) (Q : Exit → Act → World → Prop) (i : Nat) (R : Act → World → Prop) (a : Act) (w : World) : Prop :=
  ∀ o, ops[i]? = some o → ∀ K : Act → World → Prop, Shut (∀ a w, S w → (S w → R a w) → K a w) → if Region.wanted o (yielded ops a.tmps) = true then Oper.wp P o a w K Q else K (a.put o.dst undef) w
/-- a part of the schedule in one order, then two operations in either order, then what is left -/
def wpS2 (P : Program) (ops : Array Oper) (S : World → Prop) (Q : Exit → Act → World → Prop) (i j : Nat) (r : List (Bool × Nat)) : List (Bool × Nat) → Act → World → Prop
  | [], a, w => doStep P ops S Q i (doStep P ops S Q j (wpS P ops S Q r)) a w ∧ doStep P ops S Q j (doStep P ops S Q i (wpS P ops S Q r)) a w
  | (true, k) :: l, a, w => ∀ o, ops[k]? = some o → ∃ v, YieldsIf P ops S o v a ∧ wpS2 P ops S Q i j r l (a.put o.dst v) w
  | (false, k) :: l, a, w => doStep P ops S Q k (wpS2 P ops S Q i j r l) a w
def schedOk2 (md : Region.Mode) (ops : Array Oper) (i j : Nat) (r : List (Bool × Nat)) : List (Bool × Nat) → Array Bool → Bool
  | [], listed => (Region.ready md ops listed == [i, j]) && (Region.ready md ops (listed.setIfInBounds i true) == [j]) && (Region.ready md ops (listed.setIfInBounds j true) == [i]) && schedOk md ops r ((listed.setIfInBounds i true).setIfInBounds j true) && schedOk md ops r ((listed.setIfInBounds j true).setIfInBounds i true)
  | (true, k) :: l, listed => (Region.ready md ops listed).contains k && Region.free md ops listed k && schedOk2 md ops i j r l (listed.setIfInBounds k true)
  | (false, k) :: l, listed => (Region.ready md ops listed == [k]) && schedOk2 md ops i j r l (listed.setIfInBounds k true)

theorem wpAnyH_one {P : Program} {ops : Array Oper} {S : World → Prop} {Q : Exit → Act → World → Prop} {md : Region.Mode} {i n : Nat} {listed : Array Bool} {a : Act} {w : World} {R : Act → World → Prop}
    (hr : Region.ready md ops listed = [i]) (hR : ∀ a w, S w → R a w → wpAnyH P md ops Q S n (listed.setIfInBounds i true) a w) (h : doStep P ops S Q i R a w) : wpAnyH P md ops Q S (n + 1) listed a w := by
  obtain ⟨o, ho⟩ := ready_get (md := md) (ops := ops) (listed := listed) (i := i) (by rw [hr]; simp)
  refine wpAnyH_ready hr (by simp) (AllReadyH.cons ho (fun K hK => ?_) AllReadyH.nil)
  exact h o ho K (fun a w hS' hW => hK.out a w hS' (fun hS'' => hR a w hS' (hW hS'')))
theorem wpAnyH_two {P : Program} {ops : Array Oper} {S : World → Prop} {Q : Exit → Act → World → Prop} {md : Region.Mode} {i j n : Nat} {listed : Array Bool} {a : Act} {w : World} {R R' : Act → World → Prop}
    (hr : Region.ready md ops listed = [i, j]) (hR : ∀ a w, S w → R a w → wpAnyH P md ops Q S n (listed.setIfInBounds i true) a w) (hR' : ∀ a w, S w → R' a w → wpAnyH P md ops Q S n (listed.setIfInBounds j true) a w)
    (h : doStep P ops S Q i R a w) (h' : doStep P ops S Q j R' a w) : wpAnyH P md ops Q S (n + 1) listed a w := by
  obtain ⟨o, ho⟩ := ready_get (md := md) (ops := ops) (listed := listed) (i := i) (by rw [hr]; simp)
  obtain ⟨o', ho'⟩ := ready_get (md := md) (ops := ops) (listed := listed) (i := j) (by rw [hr]; simp)
  refine wpAnyH_ready hr (by simp) (AllReadyH.cons ho (fun K hK => ?_) (AllReadyH.cons ho' (fun K hK => ?_) AllReadyH.nil))
  · exact h o ho K (fun a w hS' hW => hK.out a w hS' (fun hS'' => hR a w hS' (hW hS'')))
  · exact h' o' ho' K (fun a w hS' hW => hK.out a w hS' (fun hS'' => hR' a w hS' (hW hS'')))

theorem wpAnyH_of_sched2 {P : Program} {ops : Array Oper} {S : World → Prop} {Q : Exit → Act → World → Prop} {md : Region.Mode} (hsel : Region.noSelect ops = true)
    (hQ : ∀ c a a' w, Q (.panic c) a w → Q (.panic c) a' w) (i j : Nat) (r : List (Bool × Nat)) :
    ∀ (L : List (Bool × Nat)) (listed : Array Bool) (a : Act) (w : World), schedOk2 md ops i j r L listed = true → S w → wpS2 P ops S Q i j r L a w → wpAnyH P md ops Q S (L.length + (r.length + 1 + 1)) listed a w
  | [], listed, a, w, hk, hS, h => by
    simp only [schedOk2, Bool.and_eq_true, beq_iff_eq] at hk
    obtain ⟨⟨⟨⟨h1, h2⟩, h3⟩, h4⟩, h5⟩ := hk
    rw [List.length_nil, Nat.zero_add]
    refine wpAnyH_two h1 (fun a w hS h => wpAnyH_one h2 (fun a w hS h => wpAnyH_of_sched hsel hQ r _ a w h4 hS h) h) (fun a w hS h => wpAnyH_one h3 (fun a w hS h => wpAnyH_of_sched hsel hQ r _ a w h5 hS h) h) h.1 h.2
  | (true, k) :: l, listed, a, w, hk, hS, h => by
    simp only [schedOk2, Bool.and_eq_true] at hk
    obtain ⟨⟨hr, hf⟩, hk⟩ := hk
    obtain ⟨o, ho⟩ := ready_get (by simpa using hr)
    obtain ⟨v, hy, hrest⟩ := h o ho
    have := wpAnyH_of_sched2 hsel hQ i j r l _ _ _ hk hS hrest
    rw [List.length_cons, Nat.add_right_comm]
    exact wpAnyH_take ho hsel hf hr (fun c a w h => hQ c _ _ w h) hy hS this
  | (false, k) :: l, listed, a, w, hk, hS, h => by
    simp only [schedOk2, Bool.and_eq_true, beq_iff_eq] at hk
    obtain ⟨hr, hk⟩ := hk
    rw [List.length_cons, Nat.add_right_comm]
    exact wpAnyH_one hr (fun a w hS h => wpAnyH_of_sched2 hsel hQ i j r l _ a w hk hS h) h

theorem wp_region_sched2 {P : Program} {ops : Array Oper} {Q : Exit → Act → World → Prop} {id : Nat} {a : Act} {w : World} (S : World → Prop) (L : List (Bool × Nat)) (i j : Nat) (r : List (Bool × Nat)) (hm : P.follows .mixedOrders = true)
    (hsel : Region.noSelect ops = true) (hlen : L.length + (r.length + 1 + 1) = ops.size) (hk : schedOk2 .any ops i j r L (Array.replicate ops.size false) = true)
    (hS : S w.drew) (h : wpS2 P ops S (NoPanic Q) i j r L a w.drew) : (Code.region id ops true).wp P Q a w :=
  wp_region_noPanic <| wp_region_held_drew hm hS fun hS' => by
    have := wpAnyH_of_sched2 hsel (fun _ _ _ _ h => h.elim) i j r L _ a w.drew hk hS' h
    rw [hlen] at this
    exact this

section

variable {P : Program} {ops : Array Oper} {S : World → Prop} {Q : Exit → Act → World → Prop} {r l : List (Bool × Nat)} {i j : Nat} {a : Act} {w : World}

theorem wpS2_take {k : Nat} (o : Oper) (v : Value) (ho : ops[k]? = some o) (hw : Region.wanted o (yielded ops a.tmps) = true) (hy : ∀ w, S w → (execOp a.eval o).run P w = .ok (.value v) w)
    (h : wpS2 P ops S Q i j r l (a.put o.dst v) w) : wpS2 P ops S Q i j r ((true, k) :: l) a w := fun o' ho' => by
  rw [ho] at ho'
  cases ho'
  exact ⟨v, .inl ⟨hw, hy⟩, h⟩
theorem wpS2_load {k : Nat} (o : Oper) (ho : ops[k]? = some o) (hw : Region.wanted o (yielded ops a.tmps) = true) (ty : TypeId) (x : Operand) (hop : o.op = .load ty x)
    (b off : Nat) (hx : a.eval x = .pointer (some ⟨b, off, none⟩)) (cs : List Value) (d : TypeDesc) (hS : ∀ w, S w → w.rangeAt b off cs)
    (hu : P.underlying ty = some d) (hd : d.isRow = true) (hi : (P.info? ty).map (·.size) = some cs.length)
    (h : wpS2 P ops S Q i j r l (a.put o.dst (.agg cs.toArray)) w) : wpS2 P ops S Q i j r ((true, k) :: l) a w := fun o' ho' => by
  rw [ho] at ho'
  cases ho'
  exact ⟨_, yieldsIf_load_mid hw ty x hop b off hx cs d hS hu hd hi, h⟩
theorem doStep_do {R : Act → World → Prop} (o : Oper) (ho : ops[i]? = some o) (hw : Region.wanted o (yielded ops a.tmps) = true)
    (h : ∀ K : Act → World → Prop, Shut (∀ a w, S w → (S w → R a w) → K a w) → Oper.wp P o a w K Q) : doStep P ops S Q i R a w := fun o' ho' K hK => by
  rw [ho] at ho'
  cases ho'
  rw [if_pos hw]
  exact h K hK
theorem wpS2_do {k : Nat} (o : Oper) (ho : ops[k]? = some o) (hw : Region.wanted o (yielded ops a.tmps) = true)
    (h : ∀ K : Act → World → Prop, Shut (∀ a w, S w → (S w → wpS2 P ops S Q i j r l a w) → K a w) → Oper.wp P o a w K Q) : wpS2 P ops S Q i j r ((false, k) :: l) a w := doStep_do o ho hw h
theorem wpS2_both (h : doStep P ops S Q i (doStep P ops S Q j (wpS P ops S Q r)) a w) (h' : doStep P ops S Q j (doStep P ops S Q i (wpS P ops S Q r)) a w) : wpS2 P ops S Q i j r [] a w := ⟨h, h'⟩
end

end Go.Proofs.Ytabkgoandfpclaa
