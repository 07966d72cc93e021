
/- A region that draws its order, walked in ONE order: what yields the same in every world that meets S is taken as soon as it is free; what is left comes up one at a time. No condition; no program. -/

import Derived.Test.YtabkgoandfpclaaBase

namespace Go.Proofs.Ytabkgoandfpclaa

open Go.RowKit

/-- the walk in the order of the schedule: true: taken first; false: carried out, and S shown anew -/
def wpS (P : Program) (ops : Array Oper) (S : World → Prop) (Q : Exit → Act → World → Prop) : List (Bool × Nat) → Act → World → Prop
  | [], a, w => Q .normal a w
  | (true, i) :: r, a, w => ∀ o, ops[i]? = some o → ∃ v, YieldsIf P ops S o v a ∧ wpS P ops S Q r (a.put o.dst v) w
  | (false, i) :: r, a, w => ∀ o, ops[i]? = some o → ∀ K : Act → World → Prop, Shut (∀ a w, S w → (S w → wpS P ops S Q r a w) → K a w) → if Region.wanted o (yielded ops a.tmps) = true then Oper.wp P o a w K Q else K (a.put o.dst undef) w

/-- is it a schedule? -/
def schedOk (md : Region.Mode) (ops : Array Oper) : List (Bool × Nat) → Array Bool → Bool
  | [], listed => (Region.ready md ops listed).isEmpty
  | (true, i) :: r, listed => (Region.ready md ops listed).contains i && Region.free md ops listed i && schedOk md ops r (listed.setIfInBounds i true)
  | (false, i) :: r, listed => (Region.ready md ops listed == [i]) && schedOk md ops r (listed.setIfInBounds i true)

theorem ready_get {md : Region.Mode} {ops : Array Oper} {listed : Array Bool} {i : Nat} (h : i ∈ Region.ready md ops listed) : ∃ o, ops[i]? = some o := by
  simp only [Region.ready, List.mem_filter, List.mem_range] at h
  exact ⟨_, Array.getElem?_eq_getElem h.1⟩

theorem wpAnyH_of_sched {P : Program} {ops : Array Oper} {S : World → Prop} {Q : Exit → Act → World → Prop} {md : Region.Mode} (hsel : Region.noSelect ops = true)
    (hQ : ∀ c a a' w, Q (.panic c) a w → Q (.panic c) a' w) :
    ∀ (L : List (Bool × Nat)) (listed : Array Bool) (a : Act) (w : World), schedOk md ops L listed = true → S w → wpS P ops S Q L a w → wpAnyH P md ops Q S L.length listed a w
  | [], listed, a, w, hk, _, h => by
    simp only [schedOk, List.isEmpty_iff] at hk
    exact ⟨hk, h⟩
  | (true, i) :: r, listed, a, w, hk, hS, h => by
    simp only [schedOk, Bool.and_eq_true] at hk
    obtain ⟨⟨hr, hf⟩, hk⟩ := hk
    obtain ⟨o, ho⟩ := ready_get (by simpa using hr)
    obtain ⟨v, hy, hrest⟩ := h o ho
    exact wpAnyH_take ho hsel hf hr (fun c a w h => hQ c _ _ w h) hy hS (wpAnyH_of_sched hsel hQ r _ _ _ hk hS hrest)
  | (false, i) :: r, listed, a, w, hk, hS, h => by
    simp only [schedOk, Bool.and_eq_true, beq_iff_eq] at hk
    obtain ⟨hr, hk⟩ := hk
    obtain ⟨o, ho⟩ := ready_get (md := md) (ops := ops) (listed := listed) (i := i) (by rw [hr]; simp)
    refine wpAnyH_ready hr (by simp) (AllReadyH.cons ho (fun K hK => ?_) AllReadyH.nil)
    exact h o ho K (fun a w hS' hW => hK.out a w hS' (fun hS'' => wpAnyH_of_sched hsel hQ r _ a w hk hS'' (hW hS'')))

theorem wp_region_sched {P : Program} {ops : Array Oper} {Q : Exit → Act → World → Prop} {id : Nat} {a : Act} {w : World} (S : World → Prop) (L : List (Bool × Nat)) (hm : P.follows .mixedOrders = true)
    (hsel : Region.noSelect ops = true) (hlen : L.length = ops.size) (hk : schedOk .any ops L (Array.replicate ops.size false) = true)
    (hS : S w.drew) (h : wpS P ops S (NoPanic Q) L a w.drew) : (Code.region id ops true).wp P Q a w :=
  wp_region_noPanic <| wp_region_held_drew hm hS fun hS' => by
    have := wpAnyH_of_sched hsel (fun _ _ _ _ h => h.elim) L _ a w.drew hk hS' h
    rw [hlen] at this
    exact this
theorem wpS_done {P : Program} {ops : Array Oper} {S : World → Prop} {Q : Exit → Act → World → Prop} {a : Act} {w : World} (h : Q .normal a w) : wpS P ops S (NoPanic Q) [] a w := h

section

variable {P : Program} {ops : Array Oper} {S : World → Prop} {Q : Exit → Act → World → Prop} {r : List (Bool × Nat)} {a : Act} {w : World}

theorem wpS_take {i : Nat} (o : Oper) (v : Value) (ho : ops[i]? = some o) (hw : Region.wanted o (yielded ops a.tmps) = true) (hy : ∀ w, S w → (execOp a.eval o).run P w = .ok (.value v) w)
    (h : wpS P ops S Q r (a.put o.dst v) w) : wpS P ops S Q ((true, i) :: r) a w := fun o' ho' => by
  rw [ho] at ho'
  cases ho'
  exact ⟨v, .inl ⟨hw, hy⟩, h⟩
theorem wpS_pass {i : Nat} (o : Oper) (ho : ops[i]? = some o) (hw : Region.wanted o (yielded ops a.tmps) = false)
    (h : wpS P ops S Q r (a.put o.dst undef) w) : wpS P ops S Q ((true, i) :: r) a w := fun o' ho' => by
  rw [ho] at ho'
  cases ho'
  exact ⟨undef, .inr ⟨hw, rfl⟩, h⟩
/-- a whole row that S gives -/
theorem wpS_load {i : Nat} (o : Oper) (ho : ops[i]? = some o) (hw : Region.wanted o (yielded ops a.tmps) = true) (ty : TypeId) (x : Operand) (hop : o.op = .load ty x)
    (b off : Nat) (hx : a.eval x = .pointer (some ⟨b, off, none⟩)) (cs : List Value) (d : TypeDesc) (hS : ∀ w, S w → w.rangeAt b off cs)
    (hu : P.underlying ty = some d) (hd : d.isRow = true) (hi : (P.info? ty).map (·.size) = some cs.length)
    (h : wpS P ops S Q r (a.put o.dst (.agg cs.toArray)) w) : wpS P ops S Q ((true, i) :: r) a w := fun o' ho' => by
  rw [ho] at ho'
  cases ho'
  exact ⟨_, yieldsIf_load_mid hw ty x hop b off hx cs d hS hu hd hi, h⟩
theorem wpS_do {i : Nat} (o : Oper) (ho : ops[i]? = some o) (hw : Region.wanted o (yielded ops a.tmps) = true)
    (h : ∀ K : Act → World → Prop, Shut (∀ a w, S w → (S w → wpS P ops S Q r a w) → K a w) → Oper.wp P o a w K Q) : wpS P ops S Q ((false, i) :: r) a w := fun o' ho' K hK => by
  rw [ho] at ho'
  cases ho'
  rw [if_pos hw]
  exact h K hK
theorem wpS_skip {i : Nat} (o : Oper) (ho : ops[i]? = some o) (hw : Region.wanted o (yielded ops a.tmps) = false) (hS : S w)
    (h : wpS P ops S Q r (a.put o.dst undef) w) : wpS P ops S Q ((false, i) :: r) a w := fun o' ho' K hK => by
  rw [ho] at ho'
  cases ho'
  rw [if_neg (by rw [hw]; decide)]
  exact hK.out _ _ hS (fun _ => h)
end

/-! ### to find a schedule (for looking; no proof hangs on it) -/

def opFloats : Op → Bool
  | .move _ | .assign _ | .pick .. | .load .. | .nilCheck _ | .binOp .. | .unOp .. | .makeInterface .. | .slice .. | .fieldAddr .. | .field .. | .indexAddr .. | .index .. | .extract .. | .lookup .. => true
  | .call { callee := .builtin .len, .. } | .call { callee := .builtin .cap, .. } | .call { callee := .builtin .max, .. } | .call { callee := .builtin .min, .. } => true
  | .build .. => true
  | .convert .. => true
  | _ => false
def findSched (md : Region.Mode) (ops : Array Oper) (deny : List Nat) : Nat → Array Bool → List (Bool × Nat)
  | 0, _ => []
  | n + 1, listed =>
    match (Region.ready md ops listed).find? (fun i => !deny.contains i && ((ops[i]?).map (opFloats ·.op)).getD false && Region.free md ops listed i) with
    | some i => (true, i) :: findSched md ops deny n (listed.setIfInBounds i true)
    | none => match Region.ready md ops listed with
      | i :: _ => (false, i) :: findSched md ops deny n (listed.setIfInBounds i true)
      | [] => []
def regionsOf : Code → List (Nat × Array Oper × Bool)
  | .region id ops d => [(id, ops, d)]
  | .seq a b => regionsOf a ++ regionsOf b
  | .cond _ a b => regionsOf a ++ regionsOf b
  | .block _ a => regionsOf a
  | .loop a => regionsOf a
  | .rangeFunc _ _ a b => regionsOf a ++ regionsOf b
  | .scope a => regionsOf a
  | _ => []
end Go.Proofs.Ytabkgoandfpclaa
