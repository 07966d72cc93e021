
/- The frame of every law's row: what the walk owes, for the first form and for the second. No condition of its own. -/

import Derived.Test.YtabkgoandfpclaaRows

import Derived.Test.YtabkgoandfpclaaBase

import Derived.ProofKit

import Derived.OpenShut

import Derived.ShutString

import Derived.ChangeOld

import Derived.SizedLaws

import Derived.SliceStrings

import Derived.JoinedCond

import Derived.Deep.CondSized

namespace Go.Proofs.Ytabkgoandfpclaa

open Go.ChangeShapes Go.WideShapes Go.ChangeAt Go.RowKit

open Go.ChangeMaps (open_string shut_string)

theorem own : ownKnob Try.prog.godebug = none := by kernel_rfl
theorem laidOut : laidOutB Try.prog = true := by kernel_rfl

theorem trodAll_below {H : Type} {enc : TypeId × Value → H} {P : Program} {W W' : World} (hl : laidOutB P = true) (hb : Below W.heap.size W W') :
    ∀ {ts : List TypeId} {vs : List Value} {ds : List (DataW H)} {ps : List MemPlace}, (∀ t ∈ ts, P.readableRec t = true ∧ t < P.types.size) →
      DataW.TrodAll enc P W 0 (fun _ => true) true ts vs ds ps → (∀ x ∈ ps, x.block < W.heap.size) → DataW.TrodAll enc P W' 0 (fun b => decide (b < W.heap.size)) true ts vs ds ps
  | [], vs, ds, ps, _, h, _ => by
    obtain ⟨rfl, rfl, rfl⟩ := trodAll_nil h
    exact trodAll_mk0
  | t :: ts, vs, ds, ps, ht, h, hlt => by
    obtain ⟨v, vs', d, ds', p, p', rfl, rfl, rfl, h0, h1⟩ := trodAll_cons h
    have h0' := Below.trod hl (ht t (by simp)).1 (ht t (by simp)).2 h0 hb (fun x hx => hlt x (by simp [hx]))
    exact trodAll_cons_mk h0' (trodAll_below hl hb (fun t' h' => ht t' (by simp [h'])) h1 (fun x hx => hlt x (by simp [hx])))

theorem trodAll_len {H : Type} {enc : TypeId × Value → H} {P : Program} {W : World} {ts : List TypeId} {vs : List Value} {ds : List (DataW H)} {ps : List MemPlace} {base : Nat} {sp : Nat → Bool} {hd : Bool}
    (h : DataW.TrodAll enc P W base sp hd ts vs ds ps) : ds.length = ts.length := by
  induction ts generalizing vs ds ps with
  | nil => obtain ⟨rfl, rfl, rfl⟩ := trodAll_nil h; rfl
  | cons t ts ih =>
    obtain ⟨v, vs', d, ds', p, p', rfl, rfl, rfl, h0, h1⟩ := trodAll_cons h
    simp [ih h1]

/-- WHAT A LAW's WALK OWES: called with whatever reads as data it returns true and writes nothing that was there -/
def WalkOwed (H : Type) (enc : TypeId × Value → H) (f : FuncId) (fn : Func) (k : List (DataW H) → Prop) : Prop :=
  ∀ (W : World) (base : Nat) (args : Array Value) (ds : List (DataW H)) (ps : List MemPlace),
    (∀ (j : Nat) t v, fn.params[j]? = some t → args[j]? = some v → Value.okWide Try.prog W .any base t v) →
    DataW.TrodAll enc Try.prog W 0 (fun _ => true) true fn.params.toList args.toList ds ps →
    (DataW.weightsEach Try.prog fn.params.toList ds).all (· ≤ reachBytes) = true → k ds →
    Calls Try.prog f args W fun e W' => e = .returned (.bool true) ∧ Below W.heap.size W W'

set_option maxRecDepth 100000 in
theorem law_contract {H : Type} {enc : TypeId × Value → H} {f : FuncId} {fn : Func} {s : ChangeSpec} {bt : TypeId} {k : List (DataW H) → Prop}
    (hvars : s.vars = []) (hbt : Try.prog.underlying bt = some .bool) (hres : fn.resultTypes = #[bt])
    (hread : ∀ t ∈ fn.params.toList, Try.prog.readableRec t = true ∧ t < Try.prog.types.size)
    (hs : ∀ ds : List (DataW H), ds.length = fn.params.toList.length → s.fn H (ds ++ []) = { results := [.lit (.bool true)], args := ds })
    (walk : WalkOwed H enc f fn k)
    (W : World) (base : Nat) (args : Array Value) (ds gs : List (DataW H)) (before : List MemPlace)
    (hval : ∀ (j : Nat) t v, fn.params[j]? = some t → args[j]? = some v → Value.okWide Try.prog W .any base t v)
    (hW : DataW.Whole enc Try.prog fn.params.toList s.vars false W args.toList ds gs before)
    (hreach : (DataW.weightsEach Try.prog (fn.params.toList ++ s.plain.varTypes Try.prog) (ds ++ gs)).all (· ≤ reachBytes) = true) (hk : k ds) :
    Calls Try.prog f args W fun e W' => ∃ v, e = .returned v ∧ s.post enc Try.prog fn false true false false W args v W' := by
  have hW' := hW
  have hlt : ∀ p ∈ before, p.block < W.heap.size := fun p hp => hW.lt p hp
  obtain ⟨p, q, hA, hV, rfl, hfz, hnd⟩ := hW
  rw [hvars] at hV
  obtain ⟨rfl, rfl⟩ := trodVars_none hV
  have hlen := trodAll_len hA
  have hre : (DataW.weightsEach Try.prog fn.params.toList ds).all (· ≤ reachBytes) = true := by
    have hvt : s.plain.varTypes Try.prog = [] := by
      unfold ChangeSpec.plain DataSpec.varTypes
      simp [hvars]
    rw [hvt, List.append_nil, List.append_nil] at hreach
    exact hreach
  refine (walk W base args ds p hval hA hre hk).mono fun e W' ⟨he, bel⟩ => ?_
  subst he
  have hsp := hs ds hlen
  refine ⟨_, rfl, ds, [], p ++ [], [], p, [], hW', ?_, ?_, ?_, bel.frame _, fun h => by cases h⟩
  · rw [hsp, hres]
    exact trodAll_mk1 (shut_bool hbt _)
  · rw [hsp]
    exact trodAll_below laidOut bel hread hA (fun x hx => hlt x (by simp [hx]))
  · rw [hsp, hvars]; rfl

set_option maxRecDepth 100000 in
theorem law_lifted {os : Os} (started : os.Started) {H : Type} {enc : TypeId × Value → H} {f : FuncId} {fn : Func} {s : ChangeSpec} {bt : TypeId}
    (noInit : Try.prog.inits.idxOf? f = none) (hfn : Try.prog.funcs[f]? = some fn)
    (witness : ∃ (w : World) (tape : Tape) (i : Input), w.os = os ∧ (w.forCall tape i).Shaped Try.prog ∧ i.vars = [] ∧ Input.okWide Try.prog (w.forCall tape i) .any w.heap.size f i ∧
      s.pre6 enc Try.prog fn [] false (w.forCall tape i).memory i.args ∧ Assume.holds {} Try.prog (lone (Frame.enter Try.prog f i.args .normal) [] (w.forCall tape i)))
    (hvars : s.vars = []) (hbt : Try.prog.underlying bt = some .bool) (hres : fn.resultTypes = #[bt])
    (hread : ∀ t ∈ fn.params.toList, Try.prog.readableRec t = true ∧ t < Try.prog.types.size)
    (hs : ∀ ds : List (DataW H), ds.length = fn.params.toList.length → s.fn H (ds ++ []) = { results := [.lit (.bool true)], args := ds })
    (walk : WalkOwed H enc f fn (fun _ => True)) :
    ReturnsInHanded {} Try.checked os f .any (s.pre6 enc Try.prog fn [] false) (s.post enc Try.prog fn false true false false) := by
  refine returnsInHanded_of_change_sized (C := Try.checked) own started noInit hfn witness ?_
  intro W base args ds gs before hval hW _ hreach _
  exact law_contract hvars hbt hres hread hs walk W base args ds gs before hval hW hreach trivial

theorem bound_of {H : Type} {ds : List (DataW H)} (hk : Rows.uptoSmall H (ds ++ []) = true) : Rows.uptoBulkAll ds ≤ 1048576 := by
  rw [List.append_nil] at hk
  exact of_decide_eq_true hk

/-! ### the second form -/

theorem bulk_part {H : Type} {d : DataW H} {l : List (DataW H)} (h : d ∈ l) : Rows.uptoBulk d ≤ Rows.uptoBulkAll l := by
  induction l with
  | nil => cases h
  | cons x r ih =>
    simp only [Rows.uptoBulkAll]
    cases List.mem_cons.1 h with
    | inl e => subst e; omega
    | inr e => have := ih e; omega
theorem bulk_one {H : Type} (d : DataW H) : 1 ≤ Rows.uptoBulk d := by
  cases d with
  | lit l => cases l <;> simp [Rows.uptoBulk]
  | nil => simp [Rows.uptoBulk]
  | ptr d => simp [Rows.uptoBulk]
  | slice elems spare => simp [Rows.uptoBulk]
  | agg parts => simp [Rows.uptoBulk]
  | iface t d => simp [Rows.uptoBulk]
  | map entries => simp [Rows.uptoBulk]
  | held h => simp [Rows.uptoBulk]
theorem bulk_len {H : Type} (l : List (DataW H)) : l.length ≤ Rows.uptoBulkAll l := by
  induction l with
  | nil => simp [Rows.uptoBulkAll]
  | cons x r ih => have := bulk_one x; simp only [Rows.uptoBulkAll, List.length_cons]; omega
theorem bulk_slice {H : Type} (elems spare : List (DataW H)) : elems.length + spare.length + 1 ≤ Rows.uptoBulk (.slice elems spare) := by
  have h1 := bulk_len elems
  have h2 := bulk_len spare
  simp only [Rows.uptoBulk]
  omega
theorem bulk_string {H : Type} (bytes : List UInt8) : Rows.uptoBulk (DataW.lit (H := H) (.string bytes)) = bytes.length + 1 := by
  simp [Rows.uptoBulk]
/-- the bound of an argument that is a slice: its capacity -/
theorem bulk_cap {H : Type} {d : DataW H} {ds : List (DataW H)} {n c : Nat} (hm : d ∈ ds) (hk : Rows.uptoBulkAll ds ≤ 1048576)
    (hd : (d = .nil ∧ n = 0 ∧ c = 0) ∨ ∃ el sp, d = .slice el sp ∧ el.length + sp.length = c) : c ≤ 1048576 := by
  rcases hd with ⟨_, _, h⟩ | ⟨el, sp, rfl, h⟩
  · omega
  · have h1 := bulk_part hm
    have h2 := bulk_slice el sp
    omega

set_option maxRecDepth 100000 in
theorem law_lifted_upto {os : Os} (started : os.Started) {H : Type} {enc : TypeId × Value → H} {f : FuncId} {fn : Func} {s : ChangeSpec} {bt : TypeId} {F : Stop.Interp}
    (noInit : Try.prog.inits.idxOf? f = none) (hfn : Try.prog.funcs[f]? = some fn)
    (witness : ∃ (w : World) (tape : Tape) (i : Input), w.os = os ∧ (w.forCall tape i).Shaped Try.prog ∧ i.vars = [] ∧ Input.okWide Try.prog (w.forCall tape i) .any w.heap.size f i ∧
      (Rows.OpenSpec.upto s).pre6 enc Try.prog fn [] false (w.forCall tape i).memory i.args ∧ Assume.holds {} Try.prog (lone (Frame.enter Try.prog f i.args .normal) [] (w.forCall tape i)))
    (hvars : s.vars = []) (hbt : Try.prog.underlying bt = some .bool) (hres : fn.resultTypes = #[bt])
    (hread : ∀ t ∈ fn.params.toList, Try.prog.readableRec t = true ∧ t < Try.prog.types.size)
    (hs : ∀ ds : List (DataW H), ds.length = fn.params.toList.length → s.fn H (ds ++ []) = { results := [.lit (.bool true)], args := ds })
    (walk : WalkOwed H enc f fn (fun ds => Rows.uptoBulkAll ds ≤ 1048576)) :
    ReturnsInHanded {} Try.checked os f .any ((Rows.OpenSpec.upto s).pre6 enc Try.prog fn [] false) (((Rows.OpenSpec.upto s).at F).post enc Try.prog fn false true false false) := by
  refine returnsInHanded_of_cond_sized (C := Try.checked) (s := Rows.OpenSpec.upto s) (k := Rows.uptoSmall) rfl own started noInit hfn witness ?_
  intro W base args ds gs before hval hW _ hk hreach _
  have hgs : gs = [] := by
    have hV := hW
    obtain ⟨p, q, hA, hV, rfl, hfz, hnd⟩ := hV
    have hv : (Rows.OpenSpec.upto s).vars = [] := hvars
    rw [hv] at hV
    exact (trodVars_none hV).1
  subst hgs
  exact law_contract hvars hbt hres hread hs walk W base args ds [] before hval hW hreach (bound_of hk)
end Go.Proofs.Ytabkgoandfpclaa
