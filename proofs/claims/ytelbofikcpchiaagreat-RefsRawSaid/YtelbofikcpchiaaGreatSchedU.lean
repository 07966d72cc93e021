/- A region that draws its order, walked by a schedule in which two operations may stand side by side, each with its own order behind it. No condition; no program. -/
import Derived.Test.YtelbofikcpchiaaGreatQA
namespace Go.Proofs.YtelbofikcpchiaaGreat
open Go.RowKit
def wpS3 (P : Program) (ops : Array Oper) (S : World → Prop) (Q : Exit → Act → World → Prop) (i j : Nat) (r1 r2 : List (Bool × Nat)) : List (Bool × Nat) → Act → World → Prop
 | [], a, w => doStep P ops S Q i (wpS P ops S Q r1) a w ∧ doStep P ops S Q j (wpS P ops S Q r2) a w
 | (true, k) :: l, a, w => ∀ o, ops[k]? = some o → ∃ v, YieldsIf P ops S o v a ∧ wpS3 P ops S Q i j r1 r2 l (a.put o.dst v) w
 | (false, k) :: l, a, w => doStep P ops S Q k (wpS3 P ops S Q i j r1 r2 l) a w
def schedOk3 (md : Region.Mode) (ops : Array Oper) (i j : Nat) (r1 r2 : List (Bool × Nat)) : List (Bool × Nat) → Array Bool → Bool
 | [], listed => (Region.ready md ops listed == [i, j]) && schedOk md ops r1 (listed.setIfInBounds i true) && schedOk md ops r2 (listed.setIfInBounds j true)
 | (true, k) :: l, listed => (Region.ready md ops listed).contains k && Region.free md ops listed k && schedOk3 md ops i j r1 r2 l (listed.setIfInBounds k true)
 | (false, k) :: l, listed => (Region.ready md ops listed == [k]) && schedOk3 md ops i j r1 r2 l (listed.setIfInBounds k true)
theorem wpAnyH_of_sched3 {P : Program} {ops : Array Oper} {S : World → Prop} {Q : Exit → Act → World → Prop} {md : Region.Mode} (hsel : Region.noSelect ops = true)
  (hQ : ∀ c a a' w, Q (.panic c) a w → Q (.panic c) a' w) (i j : Nat) (r1 r2 : List (Bool × Nat)) (hl : r2.length = r1.length) :
  ∀ (L : List (Bool × Nat)) (listed : Array Bool) (a : Act) (w : World), schedOk3 md ops i j r1 r2 L listed = true → S w → wpS3 P ops S Q i j r1 r2 L a w → wpAnyH P md ops Q S (L.length + (r1.length + 1)) listed a w
 | [], listed, a, w, hk, hS, h => by
  simp only [schedOk3, Bool.and_eq_true, beq_iff_eq] at hk
  obtain ⟨⟨h1, h4⟩, h5⟩ := hk
  rw [List.length_nil, Nat.zero_add]
  refine wpAnyH_two h1 (fun a w hS h => wpAnyH_of_sched hsel hQ r1 _ a w h4 hS h) (fun a w hS h => by
   have h9 := wpAnyH_of_sched hsel hQ r2 _ a w h5 hS h
   rw [hl] at h9
   exact h9) h.1 h.2
 | (true, k) :: l, listed, a, w, hk, hS, h => by
   simp only [schedOk3, Bool.and_eq_true] at hk
   obtain ⟨⟨hr, hf⟩, hk⟩ := hk
   obtain ⟨o, ho⟩ := ready_get (by simpa using hr)
   obtain ⟨v, hy, hrest⟩ := h o ho
   have := wpAnyH_of_sched3 hsel hQ i j r1 r2 hl l _ _ _ hk hS hrest
   rw [List.length_cons, Nat.add_right_comm]
   exact wpAnyH_take ho hsel hf hr (fun c a w h => hQ c _ _ w h) hy hS this
 | (false, k) :: l, listed, a, w, hk, hS, h => by
   simp only [schedOk3, Bool.and_eq_true, beq_iff_eq] at hk
   obtain ⟨hr, hk⟩ := hk
   rw [List.length_cons, Nat.add_right_comm]
   exact wpAnyH_one hr (fun a w hS h => wpAnyH_of_sched3 hsel hQ i j r1 r2 hl l _ a w hk hS h) h
theorem wp_region_sched3 {P : Program} {ops : Array Oper} {Q : Exit → Act → World → Prop} {id : Nat} {a : Act} {w : World} (S : World → Prop) (L : List (Bool × Nat)) (i j : Nat) (r1 r2 : List (Bool × Nat)) (hm : P.follows .mixedOrders = true)
  (hsel : Region.noSelect ops = true) (hl : r2.length = r1.length) (hlen : L.length + (r1.length + 1) = ops.size) (hk : schedOk3 .any ops i j r1 r2 L (Array.replicate ops.size false) = true)
  (hS : S w.drew) (h : wpS3 P ops S (NoPanic Q) i j r1 r2 L a w.drew) : (Code.region id ops true).wp P Q a w :=
 wp_region_noPanic <| wp_region_held_drew hm hS fun hS' => by
  have := wpAnyH_of_sched3 hsel (fun _ _ _ _ h => h.elim) i j r1 r2 hl L _ a w.drew hk hS' h
  rw [hlen] at this
  exact this
set_option linter.unusedSectionVars false
section
variable {P : Program} {ops : Array Oper} {S : World → Prop} {Q : Exit → Act → World → Prop} {r1 r2 l : List (Bool × Nat)} {i j : Nat} {a : Act} {w : World}
theorem wpS3_take {k : Nat} (o : Oper) (v : Value) (ho : ops[k]? = some o) (hw : Region.wanted o (yielded ops a.tmps) = true) (hy : ∀ w, S w → (execOp a.eval o).run P w = .ok (.value v) w)
  (h : wpS3 P ops S Q i j r1 r2 l (a.put o.dst v) w) : wpS3 P ops S Q i j r1 r2 ((true, k) :: l) a w := fun o' ho' => by
 rw [ho] at ho'
 cases ho'
 exact ⟨v, .inl ⟨hw, hy⟩, h⟩
theorem wpS3_load {k : Nat} (o : Oper) (ho : ops[k]? = some o) (hw : Region.wanted o (yielded ops a.tmps) = true) (ty : TypeId) (x : Operand) (hop : o.op = .load ty x)
  (b off : Nat) (hx : a.eval x = .pointer (some ⟨b, off, none⟩)) (cs : List Value) (d : TypeDesc) (hS : ∀ w, S w → w.rangeAt b off cs)
  (hu : P.underlying ty = some d) (hd : d.isRow = true) (hi : (P.info? ty).map (·.size) = some cs.length)
  (h : wpS3 P ops S Q i j r1 r2 l (a.put o.dst (.agg cs.toArray)) w) : wpS3 P ops S Q i j r1 r2 ((true, k) :: l) a w := fun o' ho' => by
 rw [ho] at ho'
 cases ho'
 exact ⟨_, yieldsIf_load_mid hw ty x hop b off hx cs d hS hu hd hi, h⟩
theorem wpS3_both (h : doStep P ops S Q i (wpS P ops S Q r1) a w) (h' : doStep P ops S Q j (wpS P ops S Q r2) a w) : wpS3 P ops S Q i j r1 r2 [] a w := ⟨h, h'⟩
end
end Go.Proofs.YtelbofikcpchiaaGreat
