
/- The frame of a law's row that lists laid variables, in its second form (upto): as XLaid's law_lifted_laid, with a condition of the row's own. -/

import Derived.Test.YtmniggjadfdheaaDoorLaid

namespace Go.Proofs.YtmniggjadfdheaaDoor

open Go.ChangeShapes Go.WideShapes Go.ChangeAt Go.RowKit

set_option linter.unusedVariables false

/-- what a row of the second form that lists laid variables asks -/
abbrev laidPre {H : Type} (enc : TypeId × Value → H) (fn : Func) (s : ChangeSpec) : World → Array Value → Prop :=
  fun w args => ((Rows.OpenSpec.upto s).pre enc Tryd.prog fn [] false w args ∧ laidMetH Tryd.prog laidL w) ∧ sizedMet enc Tryd.prog fn (Rows.OpenSpec.upto s) false w args

theorem witness_laid {H : Type} {enc : TypeId × Value → H} {os : Os} {f : FuncId} {fn : Func} {s : ChangeSpec} (args : Array Value) (fuel : Nat)
    (hok : Input.okWideB Tryd.prog ((World.laidAll Tryd.prog os laidL).forCall (fun _ _ => 0) ⟨#[], args, []⟩) f ⟨#[], args, []⟩ = true)
    {x : List (DataW H) × List (DataW H) × List MemPlace} (hx : DataW.whole enc Tryd.prog ((World.laidAll Tryd.prog os laidL).forCall (fun _ _ => 0) ⟨#[], args, []⟩).memory fn.params.toList s.vars false args.toList fuel = some x)
    (hkk : Rows.uptoSmall H (x.1 ++ x.2.1) = true)
    (hsz : s.sizedB enc Tryd.prog fn false ((World.laidAll Tryd.prog os laidL).forCall (fun _ _ => 0) ⟨#[], args, []⟩).memory args fuel = true) :
    ∃ (w : World) (tape : Tape) (i : Input), w.os = os ∧ (w.forCall tape i).Shaped Tryd.prog ∧ i.vars = [] ∧ Input.okWide Tryd.prog (w.forCall tape i) .any w.heap.size f i ∧
      laidPre enc fn s (w.forCall tape i).memory i.args ∧ Assume.holds {} Tryd.prog (lone (Frame.enter Tryd.prog f i.args .normal) [] (w.forCall tape i)) :=
  ⟨World.laidAll Tryd.prog os laidL, fun _ _ => 0, ⟨#[], args, []⟩, World.laidAll_os _ _ _, laid_shaped os _, (Input.okWide_of_okWideB (base := 0) hok).1, (Input.okWide_of_okWideB hok).2,
    ⟨⟨(OpenSpec.pre_some (s := Rows.OpenSpec.upto s) (k := Rows.uptoSmall) rfl _ _ _ _).2 ⟨x.1, x.2.1, x.2.2, DataW.Whole_of_whole hx, rfl, hkk⟩, laid_met os _⟩, sizedMet_of_sizedB hsz⟩, by
    simp only [Assume.holds]
    refine ⟨?_, (fun h => by cases h), (fun h => by cases h), ?_, ?_, (fun h => by cases h)⟩ <;> simp⟩

set_option maxRecDepth 100000 in
theorem law_lifted_laid_upto {os : Os} (started : os.Started) {H : Type} {enc : TypeId × Value → H} {f : FuncId} {fn : Func} {s : ChangeSpec} {bt : TypeId} {F : Stop.Interp}
    (noInit : Tryd.prog.inits.idxOf? f = none) (hfn : Tryd.prog.funcs[f]? = some fn)
    (witness : ∃ (w : World) (tape : Tape) (i : Input), w.os = os ∧ (w.forCall tape i).Shaped Tryd.prog ∧ i.vars = [] ∧ Input.okWide Tryd.prog (w.forCall tape i) .any w.heap.size f i ∧
      laidPre enc fn s (w.forCall tape i).memory i.args ∧ Assume.holds {} Tryd.prog (lone (Frame.enter Tryd.prog f i.args .normal) [] (w.forCall tape i)))
    (hvars : s.vars = []) (hbt : Tryd.prog.underlying bt = some .bool) (hres : fn.resultTypes = #[bt])
    (hread : ∀ t ∈ fn.params.toList, Tryd.prog.readableRec t = true ∧ t < Tryd.prog.types.size)
    (hs : ∀ ds : List (DataW H), ds.length = fn.params.toList.length → s.fn H (ds ++ []) = { results := [.lit (.bool true)], args := ds })
    (walk : WalkOwed H enc f fn (fun ds => Rows.uptoBulkAll ds ≤ 1048576)) :
    ReturnsInHanded {} Tryd.checked os f .any (laidPre enc fn s) (((Rows.OpenSpec.upto s).at F).post enc Tryd.prog fn false true false false) := by
  refine returnsInHanded_of_calls own started noInit witness ?_
  intro w tape i _ _ _ hok hpre hholds
  obtain ⟨_, _, _, fn', hfn', _, _, _, _, hval⟩ := hok
  have e : fn' = fn := Option.some.inj (hfn'.symm.trans hfn)
  subst e
  obtain ⟨ds, gs, before, hw, hc, hkk⟩ := (OpenSpec.pre_some (s := Rows.OpenSpec.upto s) (k := Rows.uptoSmall) rfl [] false _ _).1 hpre.1.1
  have hw' := DataW.Whole.of_heap (w' := w.forCall tape i) (by rfl) hw
  have hgs : gs = [] := by
    have hV := hw'
    obtain ⟨p, q, hA, hV, rfl, hfz, hnd⟩ := hV
    have hv : (Rows.OpenSpec.upto s).vars = [] := hvars
    rw [hv] at hV
    exact (trodVars_none hV).1
  subst hgs
  refine (law_contract hvars hbt hres hread hs walk (w.forCall tape i) w.heap.size i.args ds [] before hval hw' (hpre.2.weights hw) (bound_of hkk)).mono fun e W' ⟨v, he, hp⟩ => ?_
  subst he
  exact ChangeSpec.post_blind hp
end Go.Proofs.YtmniggjadfdheaaDoor
