
/- WireWrites: for every input the law returns true, and what came in reads as it did. (With the texts that it stands on.) -/

import Derived.Test.YtfjfidhhmidflaaRows

import Derived.Test.YtfjfidhhmidflaaBase

import Derived.ProofKit

import Derived.OpenShut

import Derived.ShutString

import Derived.ChangeOld

import Derived.SizedLaws

import Derived.SliceStrings

import Derived.JoinedCond

import Derived.Deep.CondSized

import Derived.Test.YtfjfidhhmidflaaLet11

import Derived.Test.YtfjfidhhmidflaaLet11b

import Derived.Test.YtfjfidhhmidflaaLet11c

import Derived.Test.YtfjfidhhmidflaaLet1

import Derived.Deep.Slices

import Derived.Test.YtfjfidhhmidflaaLet21

import Derived.Test.YtfjfidhhmidflaaLet14

import Derived.Test.YtfjfidhhmidflaaLet8

import Derived.Test.YtfjfidhhmidflaaLetM

/-! The frame of every law's row: what the walk owes, for the first form and for the second. No condition of its own. -/

namespace Go.Proofs.Ytfjfidhhmidflaa

open Go.ChangeShapes Go.WideShapes Go.ChangeAt Go.RowKit

open Go.ChangeMaps (open_string shut_string)

theorem own : ownKnob Try.prog.godebug = none := by kernel_rfl
theorem laidOut : laidOutB Try.prog = true := by kernel_rfl

theorem trodAll_below {H : Type} {enc : TypeId × Value → H} {P : Program} {W W' : World} (hl : laidOutB P = true) (hb : Below W.heap.size W W') :
    ∀ {ts : List TypeId} {vs : List Value} {ds : List (DataW H)} {ps : List MemPlace}, (∀ t ∈ ts, P.readableRec t = true ∧ t < P.types.size) →
      DataW.TrodAll enc P W 0 (fun _ => true) true ts vs ds ps → (∀ x ∈ ps, x.block < W.heap.size) → DataW.TrodAll enc P W' 0 (fun b => decide (b < W.heap.size)) true ts vs ds ps
  | [], vs, ds, ps, _, h, _ => by
    obtain ⟨rfl, rfl, rfl⟩ := trodAll_nil h
    exact trodAll_mk0
  | t :: ts, vs, ds, ps, ht, h, hlt => by
    obtain ⟨v, vs', d, ds', p, p', rfl, rfl, rfl, h0, h1⟩ := trodAll_cons h
    have h0' := Below.trod hl (ht t (by simp)).1 (ht t (by simp)).2 h0 hb (fun x hx => hlt x (by simp [hx]))
    exact trodAll_cons_mk h0' (trodAll_below hl hb (fun t' h' => ht t' (by simp [h'])) h1 (fun x hx => hlt x (by simp [hx])))

theorem trodAll_len {H : Type} {enc : TypeId × Value → H} {P : Program} {W : World} {ts : List TypeId} {vs : List Value} {ds : List (DataW H)} {ps : List MemPlace} {base : Nat} {sp : Nat → Bool} {hd : Bool}
    (h : DataW.TrodAll enc P W base sp hd ts vs ds ps) : ds.length = ts.length := by
  induction ts generalizing vs ds ps with
  | nil => obtain ⟨rfl, rfl, rfl⟩ := trodAll_nil h; rfl
  | cons t ts ih =>
    obtain ⟨v, vs', d, ds', p, p', rfl, rfl, rfl, h0, h1⟩ := trodAll_cons h
    simp [ih h1]

/-- WHAT A LAW's WALK OWES: called with whatever reads as data it returns true and writes nothing that was there -/
def WalkOwed (H : Type) (enc : TypeId × Value → H) (f : FuncId) (fn : Func) (k : List (DataW H) → Prop) : Prop :=
  ∀ (W : World) (base : Nat) (args : Array Value) (ds : List (DataW H)) (ps : List MemPlace),
    (∀ (j : Nat) t v, fn.params[j]? = some t → args[j]? = some v → Value.okWide Try.prog W .any base t v) →
    DataW.TrodAll enc Try.prog W 0 (fun _ => true) true fn.params.toList args.toList ds ps →
    (DataW.weightsEach Try.prog fn.params.toList ds).all (· ≤ reachBytes) = true → k ds →
    Calls Try.prog f args W fun e W' => e = .returned (.bool true) ∧ Below W.heap.size W W'

set_option maxRecDepth 100000 in
theorem law_contract {H : Type} {enc : TypeId × Value → H} {f : FuncId} {fn : Func} {s : ChangeSpec} {bt : TypeId} {k : List (DataW H) → Prop}
    (hvars : s.vars = []) (hbt : Try.prog.underlying bt = some .bool) (hres : fn.resultTypes = #[bt])
    (hread : ∀ t ∈ fn.params.toList, Try.prog.readableRec t = true ∧ t < Try.prog.types.size)
    (hs : ∀ ds : List (DataW H), ds.length = fn.params.toList.length → s.fn H (ds ++ []) = { results := [.lit (.bool true)], args := ds })
    (walk : WalkOwed H enc f fn k)
    (W : World) (base : Nat) (args : Array Value) (ds gs : List (DataW H)) (before : List MemPlace)
    (hval : ∀ (j : Nat) t v, fn.params[j]? = some t → args[j]? = some v → Value.okWide Try.prog W .any base t v)
    (hW : DataW.Whole enc Try.prog fn.params.toList s.vars false W args.toList ds gs before)
    (hreach : (DataW.weightsEach Try.prog (fn.params.toList ++ s.plain.varTypes Try.prog) (ds ++ gs)).all (· ≤ reachBytes) = true) (hk : k ds) :
    Calls Try.prog f args W fun e W' => ∃ v, e = .returned v ∧ s.post enc Try.prog fn false true false false W args v W' := by
  have hW' := hW
  have hlt : ∀ p ∈ before, p.block < W.heap.size := fun p hp => hW.lt p hp
  obtain ⟨p, q, hA, hV, rfl, hfz, hnd⟩ := hW
  rw [hvars] at hV
  obtain ⟨rfl, rfl⟩ := trodVars_none hV
  have hlen := trodAll_len hA
  have hre : (DataW.weightsEach Try.prog fn.params.toList ds).all (· ≤ reachBytes) = true := by
    have hvt : s.plain.varTypes Try.prog = [] := by
      unfold ChangeSpec.plain DataSpec.varTypes
      simp [hvars]
    rw [hvt, List.append_nil, List.append_nil] at hreach
    exact hreach
  refine (walk W base args ds p hval hA hre hk).mono fun e W' ⟨he, bel⟩ => ?_
  subst he
  have hsp := hs ds hlen
  refine ⟨_, rfl, ds, [], p ++ [], [], p, [], hW', ?_, ?_, ?_, bel.frame _, fun h => by cases h⟩
  · rw [hsp, hres]
    exact trodAll_mk1 (shut_bool hbt _)
  · rw [hsp]
    exact trodAll_below laidOut bel hread hA (fun x hx => hlt x (by simp [hx]))
  · rw [hsp, hvars]; rfl

set_option maxRecDepth 100000 in
theorem law_lifted {os : Os} (started : os.Started) {H : Type} {enc : TypeId × Value → H} {f : FuncId} {fn : Func} {s : ChangeSpec} {bt : TypeId}
    (noInit : Try.prog.inits.idxOf? f = none) (hfn : Try.prog.funcs[f]? = some fn)
    (witness : ∃ (w : World) (tape : Tape) (i : Input), w.os = os ∧ (w.forCall tape i).Shaped Try.prog ∧ i.vars = [] ∧ Input.okWide Try.prog (w.forCall tape i) .any w.heap.size f i ∧
      s.pre6 enc Try.prog fn [] false (w.forCall tape i).memory i.args ∧ Assume.holds {} Try.prog (lone (Frame.enter Try.prog f i.args .normal) [] (w.forCall tape i)))
    (hvars : s.vars = []) (hbt : Try.prog.underlying bt = some .bool) (hres : fn.resultTypes = #[bt])
    (hread : ∀ t ∈ fn.params.toList, Try.prog.readableRec t = true ∧ t < Try.prog.types.size)
    (hs : ∀ ds : List (DataW H), ds.length = fn.params.toList.length → s.fn H (ds ++ []) = { results := [.lit (.bool true)], args := ds })
    (walk : WalkOwed H enc f fn (fun _ => True)) :
    ReturnsInHanded {} Try.checked os f .any (s.pre6 enc Try.prog fn [] false) (s.post enc Try.prog fn false true false false) := by
  refine returnsInHanded_of_change_sized (C := Try.checked) own started noInit hfn witness ?_
  intro W base args ds gs before hval hW _ hreach _
  exact law_contract hvars hbt hres hread hs walk W base args ds gs before hval hW hreach trivial

theorem bound_of {H : Type} {ds : List (DataW H)} (hk : Rows.uptoSmall H (ds ++ []) = true) : Rows.uptoBulkAll ds ≤ 1048576 := by
  rw [List.append_nil] at hk
  exact of_decide_eq_true hk

/-! ### the second form -/

theorem bulk_part {H : Type} {d : DataW H} {l : List (DataW H)} (h : d ∈ l) : Rows.uptoBulk d ≤ Rows.uptoBulkAll l := by
  induction l with
  | nil => cases h
  | cons x r ih =>
    simp only [Rows.uptoBulkAll]
    cases List.mem_cons.1 h with
    | inl e => subst e; omega
    | inr e => have := ih e; omega
theorem bulk_one {H : Type} (d : DataW H) : 1 ≤ Rows.uptoBulk d := by
  cases d with
  | lit l => cases l <;> simp [Rows.uptoBulk]
  | nil => simp [Rows.uptoBulk]
  | ptr d => simp [Rows.uptoBulk]
  | slice elems spare => simp [Rows.uptoBulk]
  | agg parts => simp [Rows.uptoBulk]
  | iface t d => simp [Rows.uptoBulk]
  | map entries => simp [Rows.uptoBulk]
  | held h => simp [Rows.uptoBulk]
theorem bulk_len {H : Type} (l : List (DataW H)) : l.length ≤ Rows.uptoBulkAll l := by
  induction l with
  | nil => simp [Rows.uptoBulkAll]
  | cons x r ih => have := bulk_one x; simp only [Rows.uptoBulkAll, List.length_cons]; omega
theorem bulk_slice {H : Type} (elems spare : List (DataW H)) : elems.length + spare.length + 1 ≤ Rows.uptoBulk (.slice elems spare) := by
  have h1 := bulk_len elems
  have h2 := bulk_len spare
  simp only [Rows.uptoBulk]
  omega
theorem bulk_string {H : Type} (bytes : List UInt8) : Rows.uptoBulk (DataW.lit (H := H) (.string bytes)) = bytes.length + 1 := by
  simp [Rows.uptoBulk]
/-- the bound of an argument that is a slice: its capacity -/
theorem bulk_cap {H : Type} {d : DataW H} {ds : List (DataW H)} {n c : Nat} (hm : d ∈ ds) (hk : Rows.uptoBulkAll ds ≤ 1048576)
    (hd : (d = .nil ∧ n = 0 ∧ c = 0) ∨ ∃ el sp, d = .slice el sp ∧ el.length + sp.length = c) : c ≤ 1048576 := by
  rcases hd with ⟨_, _, h⟩ | ⟨el, sp, rfl, h⟩
  · omega
  · have h1 := bulk_part hm
    have h2 := bulk_slice el sp
    omega

set_option maxRecDepth 100000 in
theorem law_lifted_upto {os : Os} (started : os.Started) {H : Type} {enc : TypeId × Value → H} {f : FuncId} {fn : Func} {s : ChangeSpec} {bt : TypeId} {F : Stop.Interp}
    (noInit : Try.prog.inits.idxOf? f = none) (hfn : Try.prog.funcs[f]? = some fn)
    (witness : ∃ (w : World) (tape : Tape) (i : Input), w.os = os ∧ (w.forCall tape i).Shaped Try.prog ∧ i.vars = [] ∧ Input.okWide Try.prog (w.forCall tape i) .any w.heap.size f i ∧
      (Rows.OpenSpec.upto s).pre6 enc Try.prog fn [] false (w.forCall tape i).memory i.args ∧ Assume.holds {} Try.prog (lone (Frame.enter Try.prog f i.args .normal) [] (w.forCall tape i)))
    (hvars : s.vars = []) (hbt : Try.prog.underlying bt = some .bool) (hres : fn.resultTypes = #[bt])
    (hread : ∀ t ∈ fn.params.toList, Try.prog.readableRec t = true ∧ t < Try.prog.types.size)
    (hs : ∀ ds : List (DataW H), ds.length = fn.params.toList.length → s.fn H (ds ++ []) = { results := [.lit (.bool true)], args := ds })
    (walk : WalkOwed H enc f fn (fun ds => Rows.uptoBulkAll ds ≤ 1048576)) :
    ReturnsInHanded {} Try.checked os f .any ((Rows.OpenSpec.upto s).pre6 enc Try.prog fn [] false) (((Rows.OpenSpec.upto s).at F).post enc Try.prog fn false true false false) := by
  refine returnsInHanded_of_cond_sized (C := Try.checked) (s := Rows.OpenSpec.upto s) (k := Rows.uptoSmall) rfl own started noInit hfn witness ?_
  intro W base args ds gs before hval hW _ hk hreach _
  have hgs : gs = [] := by
    have hV := hW
    obtain ⟨p, q, hA, hV, rfl, hfz, hnd⟩ := hV
    have hv : (Rows.OpenSpec.upto s).vars = [] := hvars
    rw [hv] at hV
    exact (trodVars_none hV).1
  subst hgs
  exact law_contract hvars hbt hres hread hs walk W base args ds [] before hval hW hreach (bound_of hk)
end Go.Proofs.Ytfjfidhhmidflaa

/-! Arguments laid open: slices of integers, bytes and strings that read as data, as lists of cells. No condition of its own. -/

namespace Go.Proofs.Ytfjfidhhmidflaa

open Go.ChangeShapes Go.WideShapes Go.ChangeAt Go.RowKit

theorem rd_of_cells {w : World} {a : Addr} {cs : List Value} (h : ∀ j u, cs[j]? = some u → w.cell? (a.add j) = some u) : Rd w (some a) cs := fun j u hu => by
  obtain ⟨b, o, s⟩ := a
  have h0 := h j u hu
  by_cases hj : j = 0
  · subst hj
    have hs : s = none := by simpa [Addr.add] using World.cell?_spot h0
    subst hs
    exact ⟨b, o, rfl, by rw [← Addr.add_lit]; exact h0⟩
  · have hz : cs[0]? = some (cs[0]'(by have := (List.getElem?_eq_some_iff.1 hu).1; omega)) := List.getElem?_eq_getElem _
    have h1 := h 0 _ hz
    have hs : s = none := by simpa [Addr.add] using World.cell?_spot h1
    subst hs
    exact ⟨b, o, rfl, by rw [← Addr.add_lit]; exact h0⟩

section

variable {H : Type} {enc : TypeId × Value → H} {P : Program} {w : World}

/-- a slice of integers that came in -/
theorem open_ints_rd {t e : TypeId} {k : IntKind} {v : Value} {d : DataW H} {p : List MemPlace} {base : Nat} {r : Reach} (ht : P.underlying t = some (.slice e)) (he : P.underlying e = some (.int k)) (hc : P.cellsOf e = 1)
    (hok : Value.okWide P w r base t v) (h : DataW.Trod enc P w 0 (fun _ => true) true t v d p) :
    ∃ (A : Option Addr) (c : Nat) (zs : List Int), v = .slice A zs.length c ∧ zs.length ≤ c ∧ c ≤ maxLen ∧ Rd w A (zs.map (Value.int k)) ∧ (∀ n ∈ zs, (Lit.int k n).wf = true) ∧ (A = none → zs = [] ∧ c = 0) ∧
      ((d = .nil ∧ zs = [] ∧ c = 0 ∧ A = none) ∨ ∃ el sp, d = .slice el sp ∧ el.length = zs.length ∧ el.length + sp.length = c) := by
  obtain ⟨A, len, cap, rfl⟩ := okWide_slice ht hok
  obtain ⟨fuel, hf⟩ := h
  rcases open_ints ht he hc hf with ⟨hcs, hx⟩ | ⟨x, l, c, zs, hcs, _, hl, hm, hz, hx, hcell, hwz⟩
  · simp [Value.cells] at hcs
    obtain ⟨rfl, rfl, rfl⟩ := hcs
    simp only [Prod.mk.injEq] at hx
    exact ⟨none, 0, [], rfl, by simp, by unfold maxLen; omega, Rd.nil, by simp, by simp, .inl ⟨hx.1, rfl, rfl, rfl⟩⟩
  · simp [Value.cells] at hcs
    obtain ⟨rfl, rfl, rfl⟩ := hcs
    simp only [if_true] at hz
    simp only [Prod.mk.injEq] at hx
    have hlen : (zs.take len).length = len := by rw [List.length_take]; omega
    refine ⟨some x, cap, zs.take len, by rw [hlen], by omega, hm, ?_, fun n hn => hwz n (List.mem_of_mem_take hn), (fun e => by cases e), .inr ⟨_, _, hx.1, by simp [lits], ?_⟩⟩
    · refine rd_of_cells fun j u hu => ?_
      rw [List.getElem?_map, List.getElem?_take] at hu
      split at hu
      · rename_i hj
        have hj' : j < zs.length := by omega
        rw [hcell j hj']
        simpa [List.getD, hj'] using hu
      · simp at hu
    · simp [lits]; omega

/-- a slice of bytes that came in -/
theorem open_bytes_rd {t e : TypeId} {v : Value} {d : DataW H} {p : List MemPlace} {base : Nat} {r : Reach} (ht : P.underlying t = some (.slice e)) (he : P.underlying e = some (.int .u8)) (hc : P.cellsOf e = 1)
    (hok : Value.okWide P w r base t v) (h : DataW.Trod enc P w 0 (fun _ => true) true t v d p) :
    ∃ (A : Option Addr) (c : Nat) (bs : List UInt8), v = .slice A bs.length c ∧ bs.length ≤ c ∧ c ≤ maxLen ∧ Rd w A (b8s bs) ∧ (A = none → bs = [] ∧ c = 0) ∧
      ((d = .nil ∧ bs = [] ∧ c = 0 ∧ A = none) ∨ ∃ el sp, d = .slice el sp ∧ el.length = bs.length ∧ el.length + sp.length = c) := by
  obtain ⟨A, c, zs, rfl, hl, hm, hr, hw, hn, hd⟩ := open_ints_rd ht he hc hok h
  have hlen : (asBytes zs).length = zs.length := by simp [asBytes]
  rw [asBytes_cells hw] at hr
  refine ⟨A, c, asBytes zs, by rw [hlen], by omega, hm, hr, fun e => ?_, ?_⟩
  · obtain ⟨rfl, h'⟩ := hn e
    exact ⟨rfl, h'⟩
  · rcases hd with ⟨h1, rfl, h3, h4⟩ | ⟨el, sp, h1, h2, h3⟩
    · exact .inl ⟨h1, rfl, h3, h4⟩
    · exact .inr ⟨el, sp, h1, by rw [hlen]; exact h2, h3⟩

/-- a slice of strings that came in -/
theorem open_strs_rd {t e : TypeId} {v : Value} {d : DataW H} {p : List MemPlace} {base : Nat} {r : Reach} (ht : P.underlying t = some (.slice e)) (he : P.underlying e = some .string) (hc : P.cellsOf e = 1)
    (hok : Value.okWide P w r base t v) (h : DataW.Trod enc P w 0 (fun _ => true) true t v d p) :
    ∃ (A : Option Addr) (c : Nat) (ss : List ByteArray), v = .slice A ss.length c ∧ ss.length ≤ c ∧ c ≤ maxLen ∧ Rd w A (ss.map Value.string) ∧ (∀ s ∈ ss, s.size ≤ maxLen) ∧ (A = none → ss = [] ∧ c = 0) ∧
      ((d = .nil ∧ ss = [] ∧ c = 0 ∧ A = none) ∨ ∃ el sp, d = .slice el sp ∧ el = strs ss ∧ el.length + sp.length = c) := by
  obtain ⟨A, len, cap, rfl⟩ := okWide_slice ht hok
  obtain ⟨fuel, hf⟩ := h
  rcases open_strings ht he hc hf with ⟨hcs, hx⟩ | ⟨x, l, c, ss, hcs, _, hl, hm, hz, hx, hcell, hwz⟩
  · simp [Value.cells] at hcs
    obtain ⟨rfl, rfl, rfl⟩ := hcs
    simp only [Prod.mk.injEq] at hx
    exact ⟨none, 0, [], rfl, by simp, by unfold maxLen; omega, Rd.nil, by simp, by simp, .inl ⟨hx.1, rfl, rfl, rfl⟩⟩
  · simp [Value.cells] at hcs
    obtain ⟨rfl, rfl, rfl⟩ := hcs
    simp only [if_true] at hz
    simp only [Prod.mk.injEq] at hx
    have hlen : (ss.take len).length = len := by rw [List.length_take]; omega
    refine ⟨some x, cap, ss.take len, by rw [hlen], by omega, hm, ?_, fun n hn => hwz n (List.mem_of_mem_take hn), (fun e => by cases e), .inr ⟨_, _, hx.1, rfl, ?_⟩⟩
    · refine rd_of_cells fun j u hu => ?_
      rw [List.getElem?_map, List.getElem?_take] at hu
      split at hu
      · rename_i hj
        have hj' : j < ss.length := by omega
        rw [hcell j hj']
        simpa [List.getD, hj'] using hu
      · simp at hu
    · simp [strs]; omega

/-- an array of bytes, as bytes -/
def byteOf : Value → UInt8 | .int _ z => UInt8.ofNat z.toNat | _ => 0
theorem trod_bytes_array {t e : TypeId} {n fuel base : Nat} {spare : Nat → Bool} {held : Bool} {cs : List Value} {x : DataW H × List MemPlace} (ht : P.underlying t = some (.array n e)) (he : P.underlying e = some (.int .u8)) (hc : P.cellsOf e = 1)
    (hn : P.cellsOf t = n) (h : DataW.trod enc P w base spare held fuel t cs = some x) : ∃ id : List UInt8, id.length = n ∧ cs = b8s id ∧ x.2 = [] := by
  obtain ⟨xs, m, _, hx, hl, hxl, hi⟩ := DataW.trod_array ht h
  rw [hn] at hl
  have key : ∀ i (h : i < cs.length), cs[i] = .int .u8 ((byteOf cs[i]).toNat : Int) ∧ ∀ y, xs[i]? = some y → y.2 = [] := by
    intro i hlt
    have h1 := hi i (by omega)
    rw [hc, Nat.mul_one, List.getElem?_eq_getElem (by omega)] at h1
    have hd : (cs.drop i).take 1 = [cs[i]] := by
      rw [List.drop_eq_getElem_cons hlt]; rfl
    rw [hd] at h1
    obtain ⟨z, hz, hp, wf⟩ := DataW.trod_int he h1
    have hz' : cs[i] = .int .u8 z := by simpa using hz
    have hb : 0 ≤ z ∧ z ≤ 255 := by simpa [Lit.wf, IntKind.min, IntKind.max, IntKind.signed, IntKind.bits] using wf
    refine ⟨?_, ?_⟩
    · rw [hz']
      simp only [byteOf, UInt8.toNat_ofNat']
      congr 1
      omega
    · intro y hy
      rw [List.getElem?_eq_getElem (by omega)] at hy
      cases hy
      rw [hp]
  refine ⟨cs.map byteOf, by simpa using hl, ?_, ?_⟩
  · refine List.ext_getElem (by simp [b8s]) fun i h1 h2 => ?_
    rw [(key i h1).1]
    simp [b8s]
  · rw [hx]
    simp only [List.flatMap_eq_nil_iff]
    intro y hy
    obtain ⟨i, hlt, rfl⟩ := List.getElem_of_mem hy
    exact (key i (by omega)).2 _ (List.getElem?_eq_getElem hlt)

theorem open_id {t e : TypeId} {n : Nat} {v : Value} {d : DataW H} {p : List MemPlace} {base : Nat} {r : Reach} (ht : P.underlying t = some (.array n e)) (he : P.underlying e = some (.int .u8)) (hc : P.cellsOf e = 1) (hn : P.cellsOf t = n)
    (hok : Value.okWide P w r base t v) (h : DataW.Trod enc P w 0 (fun _ => true) true t v d p) : ∃ id : List UInt8, id.length = n ∧ v = .agg (b8s id).toArray := by
  unfold Value.okWide at hok
  rw [ht] at hok
  obtain ⟨cs, rfl, hsz, _⟩ := hok
  obtain ⟨fuel, hf⟩ := h
  obtain ⟨id, h1, h2, _⟩ := trod_bytes_array ht he hc hn hf
  refine ⟨id, h1, ?_⟩
  have : cs = (b8s id).toArray := by
    have h3 : cs.toList = b8s id := h2
    rw [← h3]
  rw [this]
end

end Go.Proofs.Ytfjfidhhmidflaa

/-! The document's Right, whole. (Printed by wip/genL11.py.) -/

namespace Go.Proofs.Ytfjfidhhmidflaa

set_option linter.unusedVariables false

set_option linter.unusedSimpArgs false

open Go.RowKit

theorem rright_ok (l : Lt) (p : LtP) (w : World) (hin : LtIn w l p) (h : (1 ≤ l.from_ ∧ l.from_ ≤ 65536 ∧ 1 ≤ l.to_ ∧ l.to_ ≤ 65536 ∧ l.from_ ≠ l.to_ ∧ 1 ≤ l.session ∧ l.session ≤ 1099511627776)) (hoff : -9223372036854775808 ≤ l.off ∧ l.off ≤ 9223372036854775807) : Calls Try.prog 10 #[l.val p] w fun e w' => e = .returned (.bool (rightL l)) ∧ Below w.heap.size w w' := by
  by_cases e1 : l.kind = 1
  · exact if c1 : l.wants.length = 0 then (if c2 : l.haves.length = 0 then rright_ok1c l p w hin h e1 c1 c2 hoff else rright_ok1b l p w hin h e1 c1 c2 hoff) else rright_ok1a l p w hin h e1 c1 hoff
  · by_cases e2 : l.kind = 2
    · exact if c1 : l.wants.length = 0 then (if c2 : l.haves.length = 0 then rright_ok2c l p w hin h e1 e2 c1 c2 hoff else rright_ok2b l p w hin h e1 e2 c1 c2 hoff) else rright_ok2a l p w hin h e1 e2 c1 hoff
    · by_cases e3 : l.kind = 3
      · exact if c1 : l.wants.length = 0 then (if c2 : l.haves.length = 0 then rright_ok3c l p w hin h e1 e2 e3 c1 c2 hoff else rright_ok3b l p w hin h e1 e2 e3 c1 c2 hoff) else rright_ok3a l p w hin h e1 e2 e3 c1 hoff
      · by_cases e4 : l.kind = 4
        · exact if c1 : l.wants.length = 0 then (if c2 : l.haves.length = 0 then rright_ok4c l p w hin h e1 e2 e3 e4 c1 c2 hoff else rright_ok4b l p w hin h e1 e2 e3 e4 c1 c2 hoff) else rright_ok4a l p w hin h e1 e2 e3 e4 c1 hoff
        · exact if c1 : l.wants.length = 0 then (if c2 : l.haves.length = 0 then rright_ok0c l p w hin h e1 e2 e3 e4 c1 c2 hoff else rright_ok0b l p w hin h e1 e2 e3 e4 c1 c2 hoff) else rright_ok0a l p w hin h e1 e2 e3 e4 c1 hoff

/-- the document's Right, whole -/
theorem rright_any (l : Lt) (p : LtP) (w : World) (hin : LtIn w l p) (hoff : -9223372036854775808 ≤ l.off ∧ l.off ≤ 9223372036854775807) : Calls Try.prog 10 #[l.val p] w fun e w' => e = .returned (.bool (rightL l)) ∧ Below w.heap.size w w' := by
  by_cases h : (1 ≤ l.from_ ∧ l.from_ ≤ 65536 ∧ 1 ≤ l.to_ ∧ l.to_ ≤ 65536 ∧ l.from_ ≠ l.to_ ∧ 1 ≤ l.session ∧ l.session ≤ 1099511627776)
  · exact rright_ok l p w hin h hoff
  · exact rright_bad l p w hin h
end Go.Proofs.Ytfjfidhhmidflaa

/-! A letter that came in. -/

namespace Go.Proofs.Ytfjfidhhmidflaa

set_option maxRecDepth 100000

set_option linter.unusedVariables false

open Go.ChangeShapes Go.WideShapes Go.ChangeAt Go.RowKit

theorem lst_of_all {α : Type} {p : Nat → α → Prop} : ∀ (n : Nat), (∀ i, i < n → ∃ s, p i s) → ∃ os : List α, os.length = n ∧ ∀ i (h : i < os.length), p i os[i]
  | 0, _ => ⟨[], rfl, fun i h => by simp at h⟩
  | n + 1, h => by
    obtain ⟨os, hl, hos⟩ := lst_of_all n (fun i hi => h i (by omega))
    obtain ⟨s, hs⟩ := h n (by omega)
    refine ⟨os ++ [s], by simp [hl], fun i hi => ?_⟩
    by_cases hlt : i < os.length
    · rw [List.getElem_append_left hlt]; exact hos i hlt
    · have : i = os.length := by simp at hi; omega
      subst this
      simp
      rw [hl]
      exact hs
theorem cut_at {cs : List Value} (a n : Nat) : cs.drop a = (cs.drop a).take n ++ cs.drop (a + n) := by
  rw [← List.drop_drop, List.take_append_drop]
/-- rows that lie one behind the other are read as their cells -/
theorem rd_of_rows {α : Type} {f : α → List Value} {m : Nat} {w : World} {a : Addr} {os : List α} (hm : 0 < m) (hf : ∀ x ∈ os, (f x).length = m) (h : ∀ i (hi : i < os.length), w.cells? 0 (a.add (i * m)) m = some (f os[i])) : Rd w (some a) (os.flatMap f) := by
  refine rd_of_cells fun j u hu => ?_
  have hj := (List.getElem?_eq_some_iff.1 hu).1
  rw [flat_length os hf] at hj
  have hi : j / m < os.length := Nat.div_lt_of_lt_mul (by rw [Nat.mul_comm]; exact hj)
  have hr : j % m < m := Nat.mod_lt _ hm
  have hdj : j / m * m + j % m = j := by rw [Nat.mul_comm]; exact Nat.div_add_mod j m
  have hcell := (World.cells?_some (h (j / m) hi)).2
  have hlen := hf _ (List.getElem_mem hi)
  have hg : (f os[j / m])[j % m]? = some u := by
    have hx := flat_get os hf (j / m) hi (j % m) ((f os[j / m])[j % m]'(by omega)) (List.getElem?_eq_getElem _)
    rw [hdj] at hx
    rw [hu] at hx
    cases hx
    exact List.getElem?_eq_getElem _
  have := hcell.2 (j % m) hr
  rw [Addr.add_add, hdj] at this
  rw [this]
  exact hg

section

variable {H : Type} {enc : TypeId × Value → H} {w : World} {base : Nat} {sp : Nat → Bool} {held : Bool}

theorem trod_ref {fuel : Nat} {cs : List Value} {x : DataW H × List MemPlace} (h : DataW.trod enc Try.prog w base sp held fuel 52 cs = some x) : ∃ r : RefM, cs = r.cells ∧ r.ok := by
  obtain ⟨y0, y1, n, _, hl, h0, h1⟩ := trod_struct2 Try.underlying52 h
  have hc : Try.prog.cellsOf 52 = 33 := by kernel_rfl
  have e0 : Try.prog.cellsOf 9 = 1 := by kernel_rfl
  have e1 : Try.prog.cellsOf 25 = 32 := by kernel_rfl
  rw [hc] at hl
  dsimp only at h0 h1
  rw [e0] at h0
  rw [e1] at h1
  obtain ⟨nm, g0, _, hnm⟩ := DataW.trod_string Try.underlying9 h0
  obtain ⟨da, hda, g1, _⟩ := trod_bytes_array Try.underlying25 Try.underlying5 (by kernel_rfl) (by kernel_rfl) h1
  refine ⟨⟨nm, da⟩, ?_, hda, by unfold maxLen at hnm; show nm.size ≤ _; omega⟩
  have hend : cs.drop 33 = [] := List.drop_of_length_le (by omega)
  have h0 : cs = cs.drop 0 := rfl
  rw [h0, cut_at 0 1, cut_at (0 + 1) 32]
  simp only [Nat.reduceAdd, hend, List.append_nil]
  rw [g0, g1]
  rfl
theorem trod_id {fuel : Nat} {cs : List Value} {x : DataW H × List MemPlace} (h : DataW.trod enc Try.prog w base sp held fuel 25 cs = some x) : ∃ i : List UInt8, cs = b8s i ∧ i.length = 32 := by
  obtain ⟨da, hda, g1, _⟩ := trod_bytes_array Try.underlying25 Try.underlying5 (by kernel_rfl) (by kernel_rfl) h
  exact ⟨da, g1, hda⟩
theorem open_refs {n : Nat} {cs : List Value} {x : DataW H × List MemPlace} (h : DataW.trod enc Try.prog w 0 (fun _ => true) true n 22 cs = some x) :
    ∃ (A : Option Addr) (c : Nat) (rs : List RefM), cs = [.slice A rs.length c] ∧ rOk rs ∧ Rd w A (rfc rs) ∧ rs.length ≤ c ∧ c ≤ 9223372036854775807 := by
  have z : Try.prog.cellsOf 52 = 33 := by kernel_rfl
  rcases Go.Deep.open_slice Try.underlying22 h with ⟨hcs, _⟩ | ⟨a, len, cap, m, n', D, Pl, hcs, _, hle, hm, hmm, _, hel⟩
  · exact ⟨none, 0, [], hcs, fun r hr => (by cases hr), Rd.nil, Nat.le_refl _, by decide⟩
  · rw [z] at hel
    have hlm : len ≤ m := by rw [hmm]; split <;> omega
    obtain ⟨os, hos, hall⟩ := lst_of_all (p := fun i (s : RefM) => w.cells? 0 (a.add (i * 33)) 33 = some s.cells ∧ s.ok) len (fun i hi => by
      obtain ⟨cs', h1, h2⟩ := hel i (by omega)
      obtain ⟨s, hs, hok⟩ := trod_ref h2
      exact ⟨s, by rw [h1, hs], hok⟩)
    have hok : rOk os := fun r hr => by
      obtain ⟨i, hi, rfl⟩ := List.getElem_of_mem hr
      exact (hall i hi).2
    exact ⟨some a, cap, os, by rw [hos]; exact hcs, hok, rd_of_rows (by decide) (fun x hx => RefM.len (hok x hx)) (fun i hi => (hall i hi).1), by omega, by unfold maxLen at hm; omega⟩
theorem open_idl {n : Nat} {cs : List Value} {x : DataW H × List MemPlace} (h : DataW.trod enc Try.prog w 0 (fun _ => true) true n 23 cs = some x) :
    ∃ (A : Option Addr) (c : Nat) (ids : List (List UInt8)), cs = [.slice A ids.length c] ∧ iOk ids ∧ Rd w A (idc ids) ∧ ids.length ≤ c ∧ c ≤ 9223372036854775807 := by
  have z : Try.prog.cellsOf 25 = 32 := by kernel_rfl
  rcases Go.Deep.open_slice Try.underlying23 h with ⟨hcs, _⟩ | ⟨a, len, cap, m, n', D, Pl, hcs, _, hle, hm, hmm, _, hel⟩
  · exact ⟨none, 0, [], hcs, fun r hr => (by cases hr), Rd.nil, Nat.le_refl _, by decide⟩
  · rw [z] at hel
    have hlm : len ≤ m := by rw [hmm]; split <;> omega
    obtain ⟨os, hos, hall⟩ := lst_of_all (p := fun i (s : List UInt8) => w.cells? 0 (a.add (i * 32)) 32 = some (b8s s) ∧ s.length = 32) len (fun i hi => by
      obtain ⟨cs', h1, h2⟩ := hel i (by omega)
      obtain ⟨s, hs, hok⟩ := trod_id h2
      exact ⟨s, by rw [h1, hs], hok⟩)
    have hok : iOk os := fun r hr => by
      obtain ⟨i, hi, rfl⟩ := List.getElem_of_mem hr
      exact (hall i hi).2
    exact ⟨some a, cap, os, by rw [hos]; exact hcs, hok, rd_of_rows (by decide) (fun x hx => by rw [b8s_length]; exact hok x hx) (fun i hi => (hall i hi).1), by omega, by unfold maxLen at hm; omega⟩
theorem trod_u8 {fuel : Nat} {cs : List Value} {x : DataW H × List MemPlace} (h : DataW.trod enc Try.prog w base sp held fuel 5 cs = some x) : ∃ c : UInt8, cs = b8s [c] := by
  obtain ⟨z, g, _, hw⟩ := DataW.trod_int Try.underlying5 h
  have hb : 0 ≤ z ∧ z ≤ 255 := by simpa [Lit.wf, IntKind.min, IntKind.max, IntKind.signed, IntKind.bits] using hw
  refine ⟨UInt8.ofNat z.toNat, ?_⟩
  rw [g]
  simp only [b8s, List.map_cons, List.map_nil, UInt8.toNat_ofNat']
  congr 2
  omega
theorem open_dat {n : Nat} {cs : List Value} {x : DataW H × List MemPlace} (h : DataW.trod enc Try.prog w 0 (fun _ => true) true n 26 cs = some x) :
    ∃ (A : Option Addr) (c : Nat) (bs : List UInt8), cs = [.slice A bs.length c] ∧ Rd w A (b8s bs) ∧ bs.length ≤ c ∧ c ≤ 9223372036854775807 := by
  have z : Try.prog.cellsOf 5 = 1 := by kernel_rfl
  rcases Go.Deep.open_slice Try.underlying26 h with ⟨hcs, _⟩ | ⟨a, len, cap, m, n', D, Pl, hcs, _, hle, hm, hmm, _, hel⟩
  · exact ⟨none, 0, [], hcs, Rd.nil, Nat.le_refl _, by decide⟩
  · rw [z] at hel
    have hlm : len ≤ m := by rw [hmm]; split <;> omega
    obtain ⟨os, hos, hall⟩ := lst_of_all (p := fun i (s : UInt8) => w.cells? 0 (a.add (i * 1)) 1 = some (b8s [s])) len (fun i hi => by
      obtain ⟨cs', h1, h2⟩ := hel i (by omega)
      obtain ⟨s, hs⟩ := trod_u8 h2
      exact ⟨s, by rw [h1, hs]⟩)
    have hrd := rd_of_rows (f := fun c : UInt8 => b8s [c]) (m := 1) (w := w) (a := a) (os := os) (by decide) (fun x hx => rfl) (fun i hi => hall i hi)
    have e : os.flatMap (fun c : UInt8 => b8s [c]) = b8s os := by
      clear hos hall hrd
      induction os with
      | nil => rfl
      | cons x os ih => rw [List.flatMap_cons, ih]; rfl
    rw [e] at hrd
    exact ⟨some a, cap, os, by rw [hos]; exact hcs, hrd, by omega, by unfold maxLen at hm; omega⟩

theorem open_let {v : Value} {d : DataW H} {p : List MemPlace} {b0 : Nat} {r : Reach}
    (hok : Value.okWide Try.prog w r b0 28 v) (h : DataW.Trod enc Try.prog w 0 (fun _ => true) true 28 v d p) : ∃ (l : Lt) (q : LtP), LtIn w l q ∧ v = l.val q ∧
      (-9223372036854775808 ≤ l.total ∧ l.total ≤ 9223372036854775807) ∧ (-9223372036854775808 ≤ l.off ∧ l.off ≤ 9223372036854775807) := by
  obtain ⟨cs, rfl, hsz⟩ := okWide_struct Try.underlying28 hok
  obtain ⟨fuel, hf⟩ := h
  obtain ⟨xs, n, _, _, hl, hxl, hfs⟩ := DataW.trod_struct Try.underlying28 hf
  have hc : Try.prog.cellsOf 28 = 42 := by kernel_rfl
  have z1 : Try.prog.cellsOf 3 = 1 := by kernel_rfl
  have z2 : Try.prog.cellsOf 2 = 1 := by kernel_rfl
  have z3 : Try.prog.cellsOf 22 = 1 := by kernel_rfl
  have z4 : Try.prog.cellsOf 25 = 32 := by kernel_rfl
  have z5 : Try.prog.cellsOf 23 = 1 := by kernel_rfl
  have z6 : Try.prog.cellsOf 26 = 1 := by kernel_rfl
  have hxl7 : xs.length = 11 := hxl
  simp only [Value.cells] at hl hfs
  obtain ⟨l, hlc⟩ : ∃ l, cs.toList = l := ⟨_, rfl⟩
  have hll : l = cs.toList := hlc.symm
  rw [hlc] at hl hfs
  have f0 : DataW.trod enc Try.prog w 0 (fun _ => true) true n 3 ((l.drop 0).take (Try.prog.cellsOf 3)) = xs[0]? := hfs 0 _ rfl
  have f1 : DataW.trod enc Try.prog w 0 (fun _ => true) true n 3 ((l.drop 1).take (Try.prog.cellsOf 3)) = xs[1]? := hfs 1 _ rfl
  have f2 : DataW.trod enc Try.prog w 0 (fun _ => true) true n 3 ((l.drop 2).take (Try.prog.cellsOf 3)) = xs[2]? := hfs 2 _ rfl
  have f3 : DataW.trod enc Try.prog w 0 (fun _ => true) true n 2 ((l.drop 3).take (Try.prog.cellsOf 2)) = xs[3]? := hfs 3 _ rfl
  have f4 : DataW.trod enc Try.prog w 0 (fun _ => true) true n 22 ((l.drop 4).take (Try.prog.cellsOf 22)) = xs[4]? := hfs 4 _ rfl
  have f5 : DataW.trod enc Try.prog w 0 (fun _ => true) true n 23 ((l.drop 5).take (Try.prog.cellsOf 23)) = xs[5]? := hfs 5 _ rfl
  have f6 : DataW.trod enc Try.prog w 0 (fun _ => true) true n 23 ((l.drop 6).take (Try.prog.cellsOf 23)) = xs[6]? := hfs 6 _ rfl
  have f7 : DataW.trod enc Try.prog w 0 (fun _ => true) true n 3 ((l.drop 7).take (Try.prog.cellsOf 3)) = xs[7]? := hfs 7 _ rfl
  have f8 : DataW.trod enc Try.prog w 0 (fun _ => true) true n 3 ((l.drop 8).take (Try.prog.cellsOf 3)) = xs[8]? := hfs 8 _ rfl
  have f9 : DataW.trod enc Try.prog w 0 (fun _ => true) true n 25 ((l.drop 9).take (Try.prog.cellsOf 25)) = xs[9]? := hfs 9 _ rfl
  have f10 : DataW.trod enc Try.prog w 0 (fun _ => true) true n 26 ((l.drop 41).take (Try.prog.cellsOf 26)) = xs[10]? := hfs 10 _ rfl
  rw [List.getElem?_eq_getElem (by omega)] at f0 f1 f2 f3 f4 f5 f6 f7 f8 f9 f10
  rw [z1] at f0 f1 f2 f7 f8
  rw [z2] at f3
  rw [z3] at f4
  rw [z5] at f5 f6
  rw [z4] at f9
  rw [z6] at f10
  obtain ⟨k, g0, _, _⟩ := DataW.trod_int Try.underlying3 f0
  obtain ⟨fr, g1, _, _⟩ := DataW.trod_int Try.underlying3 f1
  obtain ⟨to_, g2, _, _⟩ := DataW.trod_int Try.underlying3 f2
  obtain ⟨se, g3, _, _⟩ := DataW.trod_int Try.underlying2 f3
  obtain ⟨A4, c4, rs, g4, rk, rr, rl, rm⟩ := open_refs f4
  obtain ⟨A5, c5, ws, g5, wk, wr, wl, wm⟩ := open_idl f5
  obtain ⟨A6, c6, hs, g6, hk, hr, hl6, hm⟩ := open_idl f6
  obtain ⟨o, g7, _, wo⟩ := DataW.trod_int Try.underlying3 f7
  obtain ⟨tt, g8, _, wt⟩ := DataW.trod_int Try.underlying3 f8
  obtain ⟨pk, hpk, g9, _⟩ := trod_bytes_array Try.underlying25 Try.underlying5 (by kernel_rfl) (by kernel_rfl) f9
  obtain ⟨A10, c10, dt, g10, dr, dl, dm⟩ := open_dat f10
  refine ⟨⟨k, fr, to_, se, rs, ws, hs, o, tt, pk, dt⟩, ⟨A4, c4, A5, c5, A6, c6, A10, c10⟩, ⟨hpk, rk, wk, hk, ⟨rr, rl, rm⟩, ⟨wr, wl, wm⟩, ⟨hr, hl6, hm⟩, ⟨dr, dl, dm⟩⟩, ?_, by simpa [Lit.wf, IntKind.min, IntKind.max, IntKind.signed, IntKind.bits] using wt, by simpa [Lit.wf, IntKind.min, IntKind.max, IntKind.signed, IntKind.bits] using wo⟩
  have hlen : l.length = 42 := by rw [hl, hc]
  have hl2 : l = (⟨k, fr, to_, se, rs, ws, hs, o, tt, pk, dt⟩ : Lt).cells ⟨A4, c4, A5, c5, A6, c6, A10, c10⟩ := by
    have hend : l.drop 42 = [] := List.drop_of_length_le (by omega)
    have h0 : l = l.drop 0 := rfl
    rw [h0, cut_at 0 1, cut_at (0 + 1) 1, cut_at (0 + 1 + 1) 1, cut_at (0 + 1 + 1 + 1) 1, cut_at (0 + 1 + 1 + 1 + 1) 1, cut_at (0 + 1 + 1 + 1 + 1 + 1) 1, cut_at (0 + 1 + 1 + 1 + 1 + 1 + 1) 1, cut_at (0 + 1 + 1 + 1 + 1 + 1 + 1 + 1) 1, cut_at (0 + 1 + 1 + 1 + 1 + 1 + 1 + 1 + 1) 1, cut_at (0 + 1 + 1 + 1 + 1 + 1 + 1 + 1 + 1 + 1) 32, cut_at (0 + 1 + 1 + 1 + 1 + 1 + 1 + 1 + 1 + 1 + 32) 1]
    simp only [Nat.reduceAdd, hend, List.append_nil]
    rw [g0, g1, g2, g3, g4, g5, g6, g7, g8, g9, g10]
    simp [Lt.cells]
  unfold Lt.val
  rw [← hl2, hll]
end

end Go.Proofs.Ytfjfidhhmidflaa

/-! How long the lists of a letter that came in can be: what the reach of an argument says. -/

namespace Go.Proofs.Ytfjfidhhmidflaa

set_option maxRecDepth 100000

set_option linter.unusedVariables false

open Go.RowKit

section

variable {H : Type} {enc : TypeId × Value → H} {w : World}

theorem slice_reach {t e : TypeId} {n0 n c : Nat} {A : Option Addr} {x : DataW H × List MemPlace} (hu : Try.prog.underlying t = some (.slice e)) (h : DataW.trod enc Try.prog w 0 (fun _ => true) true n0 t [.slice A n c] = some x)
    (hw : ∀ k ∈ x.1.weights Try.prog t, k ≤ reachBytes) : n * Try.prog.bytesOf e ≤ reachBytes := by
  rcases Go.Deep.open_slice hu h with ⟨hcs, _⟩ | ⟨a, len, cap, m, n', D, Pl, hcs, _, hle, hm, hmm, hx, hel⟩
  · cases hcs; rw [Nat.zero_mul]; exact Nat.zero_le _
  · cases hcs
    have h1 := hw ((((List.range n).map D).length + ((List.range (m - n)).map fun j => D (n + j)).length) * Try.prog.bytesOf e) (by rw [hx]; simp [DataW.weights, hu])
    simp only [List.length_map, List.length_range] at h1
    exact Nat.le_trans (Nat.mul_le_mul_right _ (by omega)) h1
theorem let_reach {l : Lt} {q : LtP} {d : DataW H} {p : List MemPlace} (h : DataW.Trod enc Try.prog w 0 (fun _ => true) true 28 (l.val q) d p) (hw : ∀ k ∈ d.weights Try.prog 28, k ≤ reachBytes) :
    l.refs.length * 48 ≤ reachBytes ∧ l.wants.length * 32 ≤ reachBytes ∧ l.haves.length * 32 ≤ reachBytes := by
  obtain ⟨fuel, hf⟩ := h
  obtain ⟨xs, n, _, hx, hl, hxl, hfs⟩ := DataW.trod_struct Try.underlying28 hf
  have hxl7 : xs.length = 11 := hxl
  have f4 : DataW.trod enc Try.prog w 0 (fun _ => true) true n 22 [.slice q.rA l.refs.length q.rc] = xs[4]? := hfs 4 _ rfl
  have f5 : DataW.trod enc Try.prog w 0 (fun _ => true) true n 23 [.slice q.wA l.wants.length q.wc] = xs[5]? := hfs 5 _ rfl
  have f6 : DataW.trod enc Try.prog w 0 (fun _ => true) true n 23 [.slice q.hA l.haves.length q.hc] = xs[6]? := hfs 6 _ rfl
  rw [List.getElem?_eq_getElem (by omega)] at f4 f5 f6
  have hd : d = .agg (xs.map (·.1)) := congrArg Prod.fst hx
  have hW : ∀ (j : Nat) (t : TypeId) (hj : j < xs.length), (#[3, 3, 3, 2, 22, 23, 23, 3, 3, 25, 26] : Array TypeId).toList[j]? = some t → ∀ k ∈ (xs[j]).1.weights Try.prog t, k ≤ reachBytes := by
    intro j t hj ht k hk
    refine hw k ?_
    rw [hd]
    simp only [DataW.weights, Try.underlying28]
    exact DataW.weights_mem_each (j := j) ht (by rw [List.getElem?_map, List.getElem?_eq_getElem hj]; rfl) k hk
  have b1 : Try.prog.bytesOf 52 = 48 := by kernel_rfl
  have b2 : Try.prog.bytesOf 25 = 32 := by kernel_rfl
  have g4 := slice_reach Try.underlying22 f4 (hW 4 _ (by omega) rfl)
  have g5 := slice_reach Try.underlying23 f5 (hW 5 _ (by omega) rfl)
  have g6 := slice_reach Try.underlying23 f6 (hW 6 _ (by omega) rfl)
  rw [b1] at g4
  rw [b2] at g5 g6
  exact ⟨g4, g5, g6⟩
end

end Go.Proofs.Ytfjfidhhmidflaa

/-! as: a letter as the document's. -/

namespace Go.Proofs.Ytfjfidhhmidflaa

set_option linter.unusedVariables false

set_option linter.unusedSimpArgs false

open Go.RowKit

theorem fill_val (place : Nat → Option (Nat × Nat)) (p r : List Value) (x v : Value) (rest : List (Nat × Value)) (i : Nat) (hv : v.cells = #[v]) (hpl : place i = some (p.length, 1)) :
    Instr.fill place (p ++ [x] ++ r).toArray ((i, v) :: rest) = Instr.fill place (p ++ [v] ++ r).toArray rest := by
  have h2 := fold_splice p.length [v] p [x] r 0 (by simp) rfl
  simp only [Instr.fill, hpl, hv]
  rw [if_neg (by simp)]
  congr 1
def placesL : Array (Nat × Nat) := #[(0, 1), (1, 1), (2, 1), (3, 1), (4, 1), (5, 1), (6, 1), (7, 1), (8, 1), (9, 32), (41, 1)]
theorem built_eq (parts : List (Nat × Value)) : Try.prog.built 37 parts = Instr.fill (placesL[·]?) #[Value.int .i64 0, Value.int .i64 0, Value.int .i64 0, Value.int .i64 0, Value.slice none 0 0, Value.slice none 0 0, Value.slice none 0 0, Value.int .i64 0, Value.int .i64 0, Value.int .u8 0, Value.int .u8 0, Value.int .u8 0, Value.int .u8 0, Value.int .u8 0, Value.int .u8 0, Value.int .u8 0, Value.int .u8 0, Value.int .u8 0, Value.int .u8 0, Value.int .u8 0, Value.int .u8 0, Value.int .u8 0, Value.int .u8 0, Value.int .u8 0, Value.int .u8 0, Value.int .u8 0, Value.int .u8 0, Value.int .u8 0, Value.int .u8 0, Value.int .u8 0, Value.int .u8 0, Value.int .u8 0, Value.int .u8 0, Value.int .u8 0, Value.int .u8 0, Value.int .u8 0, Value.int .u8 0, Value.int .u8 0, Value.int .u8 0, Value.int .u8 0, Value.int .u8 0, Value.slice none 0 0] parts := by kernel_rfl
theorem built_let (k f u s o tt : Int) (pk : List UInt8) (hpk : pk.length = 32) (A : Option Addr) (n c : Nat) :
    Try.prog.built 37 [(0, .int .i64 k), (1, .int .i64 f), (2, .int .i64 u), (3, .int .i64 s), (7, .int .i64 o), (8, .int .i64 tt), (9, .agg (b8s pk).toArray), (10, .slice A n c)]
      = some ([Value.int .i64 k, .int .i64 f, .int .i64 u, .int .i64 s, .slice none 0 0, .slice none 0 0, .slice none 0 0, .int .i64 o, .int .i64 tt] ++ (b8s pk ++ [Value.slice A n c])).toArray := by
  rw [built_eq]
  refine (fill_val _ [] _ _ _ _ 0 rfl rfl).trans ?_
  refine (fill_val _ [_] _ _ _ _ 1 rfl rfl).trans ?_
  refine (fill_val _ [_, _] _ _ _ _ 2 rfl rfl).trans ?_
  refine (fill_val _ [_, _, _] _ _ _ _ 3 rfl rfl).trans ?_
  refine (fill_val _ [_, _, _, _, _, _, _] _ _ _ _ 7 rfl rfl).trans ?_
  refine (fill_val _ [_, _, _, _, _, _, _, _] _ _ _ _ 8 rfl rfl).trans ?_
  refine (fill_one _ [_, _, _, _, _, _, _, _, _] (b8s zeros32) _ (b8s pk) _ 9 (by rw [b8s_length, hpk]; rfl) (by rw [b8s_length, b8s_length, hpk]; rfl)).trans ?_
  have e : ([Value.int .i64 k, .int .i64 f, .int .i64 u, .int .i64 s, .slice none 0 0, .slice none 0 0, .slice none 0 0, .int .i64 o, .int .i64 tt] ++ b8s pk ++ [Value.slice none 0 0]).toArray = (([Value.int .i64 k, .int .i64 f, .int .i64 u, .int .i64 s, .slice none 0 0, .slice none 0 0, .slice none 0 0, .int .i64 o, .int .i64 tt] ++ b8s pk) ++ [Value.slice none 0 0] ++ []).toArray := by simp
  refine (congrArg (fun x => Instr.fill (placesL[·]?) x [(10, .slice A n c)]) e).trans ?_
  refine (fill_val _ _ [] _ _ _ 10 rfl (by rw [List.length_append, b8s_length, hpk]; rfl)).trans ?_
  simp [Instr.fill]
/-- the letter so far: the first of its refs, wants, haves -/
def asL (l : Lt) (a b c : Nat) : Lt := ⟨l.kind, l.from_, l.to_, l.session, l.refs.take a, l.wants.take b, l.haves.take c, l.off, l.total, l.pack, l.data⟩
theorem asL_all (l : Lt) : asL l l.refs.length l.wants.length l.haves.length = l := by unfold asL; rw [List.take_length, List.take_length, List.take_length]
structure AW (w W : World) (l : Lt) (p : LtP) (g1 g2 g3 lo j1 j2 j3 : Nat) (q : LtP) : Prop where
  r1 : W.heap[g1]? = some (.cells (l.cells p).toArray 28 (0, 0))
  r2 : W.heap[g2]? = some (.cells (lt0.cells p0).toArray 37 (0, 0))
  r3 : W.heap[g3]? = some (.cells ((asL l j1 j2 j3).cells q).toArray 37 (0, 0))
  o1 : W.ownsRow lo 64 33 (.slice q.rA j1 q.rc) j1 (rfc (l.refs.take j1))
  o2 : W.ownsRow lo 25 32 (.slice q.wA j2 q.wc) j2 (idc (l.wants.take j2))
  o3 : W.ownsRow lo 25 32 (.slice q.hA j3 q.hc) j3 (idc (l.haves.take j3))
  dd : q.dA = p.dA ∧ q.dc = p.dc ∧ j1 ≤ l.refs.length ∧ j2 ≤ l.wants.length ∧ j3 ≤ l.haves.length
  bel : Below w.heap.size w W
  ne : w.heap.size ≤ g1 ∧ w.heap.size ≤ g2 ∧ w.heap.size ≤ g3 ∧ g1 < lo ∧ g2 < lo ∧ g3 < lo ∧ g1 ≠ g3 ∧ g2 ≠ g3 ∧ lo ≤ W.heap.size
section

variable {w W W' : World} {l : Lt} {p q : LtP} {g1 g2 g3 lo j1 j2 j3 : Nat}

theorem AW.below (h : AW w W l p g1 g2 g3 lo j1 j2 j3 q) (hb : Below W.heap.size W W') : AW w W' l p g1 g2 g3 lo j1 j2 j3 q :=
  ⟨(hb.block _ (Array.getElem?_eq_some_iff.1 h.r1).1).trans h.r1, (hb.block _ (Array.getElem?_eq_some_iff.1 h.r2).1).trans h.r2, (hb.block _ (Array.getElem?_eq_some_iff.1 h.r3).1).trans h.r3,
    own_below h.o1 hb, own_below h.o2 hb, own_below h.o3 hb, h.dd, ext_trans h.bel hb,
    ⟨h.ne.1, h.ne.2.1, h.ne.2.2.1, h.ne.2.2.2.1, h.ne.2.2.2.2.1, h.ne.2.2.2.2.2.1, h.ne.2.2.2.2.2.2.1, h.ne.2.2.2.2.2.2.2.1, Nat.le_trans h.ne.2.2.2.2.2.2.2.2 hb.size⟩⟩
/-- the letter whole -/
theorem AW.out (h : AW w W l p g1 g2 g3 lo l.refs.length l.wants.length l.haves.length q) (hin : LtIn w l p) : LtIn W l q := by
  have k := hin.below h.bel
  obtain ⟨_, _, e1, a1, b1, _⟩ := own_slice h.o1
  obtain ⟨_, _, e2, a2, b2, _⟩ := own_slice h.o2
  obtain ⟨_, _, e3, a3, b3, _⟩ := own_slice h.o3
  cases e1; cases e2; cases e3
  have d1 := own_rd h.o1
  have d2 := own_rd h.o2
  have d3 := own_rd h.o3
  rw [List.take_length] at d1 d2 d3
  unfold maxLen at b1 b2 b3
  exact ⟨hin.len, hin.rok, hin.wok, hin.hok, ⟨d1, a1, b1⟩, ⟨d2, a2, b2⟩, ⟨d3, a3, b3⟩, by rw [h.dd.1, h.dd.2.1]; exact k.dr⟩
end

end Go.Proofs.Ytfjfidhhmidflaa

/-! as: the walk. A letter comes out as the document's letter of the same parts. (Printed by wip/genAs.py.) -/

namespace Go.Proofs.Ytfjfidhhmidflaa

set_option linter.unusedVariables false

set_option linter.unusedSimpArgs false

open Go.RowKit

section

variable {P : Program} {ops : Array Oper} {rest : List Oper} {o : Oper} {a : Act} {w : World} {Q : Exit → Act → World → Prop}

theorem wpList_built (hg : o.guard = none) (t : TypeId) (parts : Array (Nat × Operand)) (ho : o.op = .build t parts) (ps : List (Nat × Value)) (hps : (parts.toList.map fun (i, x) => (i, a.eval x)) = ps) (cs : Array Value)
    (hf : P.built t ps = some cs) (h : wpList P ops Q rest (a.put o.dst (.agg cs)) w) : wpList P ops Q (o :: rest) a w := by
  have e : (parts.map fun (i, x) => (i, a.eval x)).toList = ps := by rw [Array.toList_map]; exact hps
  refine wpList_build hg t parts ho (by rw [e, hf]; rfl) ?_
  rw [e, hf]
  exact h
end

theorem ref_built (s : ByteArray) (id : List UInt8) (hid : id.length = 32) : Try.prog.built 64 [(0, .string s), (1, .agg (b8s id).toArray)] = some (RefM.mk s id).cells.toArray := by
  have h : Try.prog.built 64 [(0, .string s), (1, .agg (b8s id).toArray)] = Instr.fill ((#[(0, 1), (1, 32)] : Array (Nat × Nat))[·]?) #[Value.string ⟨#[]⟩, Value.int .u8 0, Value.int .u8 0, Value.int .u8 0, Value.int .u8 0, Value.int .u8 0, Value.int .u8 0, Value.int .u8 0, Value.int .u8 0, Value.int .u8 0, Value.int .u8 0, Value.int .u8 0, Value.int .u8 0, Value.int .u8 0, Value.int .u8 0, Value.int .u8 0, Value.int .u8 0, Value.int .u8 0, Value.int .u8 0, Value.int .u8 0, Value.int .u8 0, Value.int .u8 0, Value.int .u8 0, Value.int .u8 0, Value.int .u8 0, Value.int .u8 0, Value.int .u8 0, Value.int .u8 0, Value.int .u8 0, Value.int .u8 0, Value.int .u8 0, Value.int .u8 0, Value.int .u8 0] [(0, .string s), (1, .agg (b8s id).toArray)] := by kernel_rfl
  rw [h]
  refine (fill_val _ [] _ _ _ _ 0 rfl rfl).trans ?_
  refine (fill_one _ [_] (b8s zeros32) [] (b8s id) _ 1 (by rw [b8s_length, hid]; rfl) (by rw [b8s_length, b8s_length, hid]; rfl)).trans ?_
  simp [Instr.fill, RefM.cells]
theorem info_rref1 : (Try.prog.info? 64).map (fun i => (i.size, i.zero.isSome)) = some (33, true) := by kernel_rfl
theorem info_rref2 : (Try.prog.info? 64).map (fun i => (i.zero, i.size, i.bytes)) = some (some (.agg refZ.toArray), 33, 48) := by unfold refZ; rw [zeros32_cells]; kernel_rfl
theorem info_rid1 : (Try.prog.info? 24).map (fun i => (i.size, i.zero.isSome)) = some (32, true) := by kernel_rfl
theorem info_rid2 : (Try.prog.info? 24).map (fun i => (i.zero, i.size, i.bytes)) = some (some (.agg (b8s zeros32).toArray), 32, 32) := by rw [zeros32_cells]; kernel_rfl

theorem info_rleta (l : Lt) (p : LtP) (h : l.pack.length = 32) : (Try.prog.info? 37).map (·.size) = some (l.cells p).toArray.size := by rw [List.size_toArray, l.cells_len p h]; kernel_rfl
/-- a list that is done: it lies below lo, and not in row g3 -/
def Kp (W : World) (lo g2 g3 : Nat) (A : Option Addr) (cs : List Value) : Prop := Rd W A cs ∧ ∀ ad, A = some ad → ad.block < lo ∧ g2 < ad.block ∧ g3 < ad.block
section

variable {W W' : World} {lo lo' g2 g3 : Nat} {A : Option Addr} {cs : List Value}

theorem Kp.nil : Kp W lo g2 g3 none [] := ⟨Rd.nil, fun _ e => by cases e⟩
theorem Kp.below (h : Kp W lo g2 g3 A cs) (hb : Below W.heap.size W W') : Kp W' lo g2 g3 A cs := ⟨h.1.below hb, h.2⟩
theorem Kp.far (h : Kp W lo g2 g3 A cs) {row : Option Nat} (hg : W.grownBy W' row) (hr : ∀ b, row = some b → lo ≤ b ∨ b ≤ g3 ∨ b ≤ g2) : Kp W' lo g2 g3 A cs :=
  ⟨h.1.grown hg (fun ad e hx => by have h1 := h.2 ad e; rcases hr _ hx.symm with h2 | h2 | h2 <;> omega), h.2⟩
theorem Kp.lift (h : Kp W lo g2 g3 A cs) (hl : lo ≤ lo') : Kp W lo' g2 g3 A cs := ⟨h.1, fun ad e => ⟨Nat.lt_of_lt_of_le (h.2 ad e).1 hl, (h.2 ad e).2⟩⟩
theorem Kp.of_own {E : TypeId} {sz n c : Nat} {xs : List Value} (h : W.ownsRow lo E sz (.slice A n c) n xs) (hg2 : g2 < lo) (hg : g3 < lo) : Kp W W.heap.size g2 g3 A xs := by
  obtain ⟨B, d, e, h1, h2, h3, _⟩ := own_slice h
  cases e
  exact ⟨own_rd h, fun ad e => ⟨(h3 ad e).2, by have := (h3 ad e).1; omega, by have := (h3 ad e).1; omega⟩⟩
end

/-- the rows of the copy -/
structure AB (w W : World) (l : Lt) (p : LtP) (g1 g2 g3 lo j1 j2 j3 : Nat) (q : LtP) : Prop where
  r1 : W.heap[g1]? = some (.cells (l.cells p).toArray 28 (0, 0))
  r2 : W.heap[g2]? = some (.cells (lt0.cells p0).toArray 37 (0, 0))
  r3 : W.heap[g3]? = some (.cells ((asL l j1 j2 j3).cells q).toArray 37 (0, 0))
  le : j1 ≤ l.refs.length ∧ j2 ≤ l.wants.length ∧ j3 ≤ l.haves.length
  bel : Below w.heap.size w W
  ne : w.heap.size ≤ g1 ∧ w.heap.size ≤ g2 ∧ w.heap.size ≤ g3 ∧ g1 < lo ∧ g2 < lo ∧ g3 < lo ∧ g1 ≠ g3 ∧ g2 ≠ g3 ∧ lo ≤ W.heap.size
section

variable {w W W' : World} {l : Lt} {p q : LtP} {g1 g2 g3 lo j1 j2 j3 : Nat}

theorem AB.below (h : AB w W l p g1 g2 g3 lo j1 j2 j3 q) (hb : Below W.heap.size W W') : AB w W' l p g1 g2 g3 lo j1 j2 j3 q := by
  obtain ⟨n1, n2, n3, n4, n5, n6, n7, n8, n9⟩ := h.ne
  exact ⟨(hb.block _ (Array.getElem?_eq_some_iff.1 h.r1).1).trans h.r1, (hb.block _ (Array.getElem?_eq_some_iff.1 h.r2).1).trans h.r2, (hb.block _ (Array.getElem?_eq_some_iff.1 h.r3).1).trans h.r3,
    h.le, ext_trans h.bel hb, ⟨n1, n2, n3, n4, n5, n6, n7, n8, Nat.le_trans n9 hb.size⟩⟩
theorem AB.lift (h : AB w W l p g1 g2 g3 lo j1 j2 j3 q) : AB w W l p g1 g2 g3 W.heap.size j1 j2 j3 q := by
  obtain ⟨n1, n2, n3, n4, n5, n6, n7, n8, n9⟩ := h.ne
  exact ⟨h.r1, h.r2, h.r3, h.le, h.bel, ⟨n1, n2, n3, by omega, by omega, by omega, n7, n8, Nat.le_refl _⟩⟩
/-- what grows lies from lo on -/
theorem AB.grow (h : AB w W l p g1 g2 g3 lo j1 j2 j3 q) {row : Option Nat} (hg : W.grownBy W' row) (hr : ∀ b, row = some b → lo ≤ b) : AB w W' l p g1 g2 g3 lo j1 j2 j3 q := by
  obtain ⟨n1, n2, n3, n4, n5, n6, n7, n8, n9⟩ := h.ne
  have hgg : ∀ i, i < lo → i < W.heap.size → W'.heap[i]? = W.heap[i]? := fun i hi hl => hg.block i hl (fun e => by have := hr i e.symm; omega)
  refine ⟨(hgg _ n4 (Array.getElem?_eq_some_iff.1 h.r1).1).trans h.r1, (hgg _ n5 (Array.getElem?_eq_some_iff.1 h.r2).1).trans h.r2, (hgg _ n6 (Array.getElem?_eq_some_iff.1 h.r3).1).trans h.r3, h.le, ?_, ⟨n1, n2, n3, n4, n5, n6, n7, n8, Nat.le_trans n9 hg.size⟩⟩
  cases hv : row with
  | none => rw [hv] at hg; exact h.bel.trans ((grown_none hg).mono h.bel.size)
  | some b => rw [hv] at hg; exact bel_grown h.bel h.bel.size hg (by have := hr b hv; omega)
theorem AB.set (h : AB w W l p g1 g2 g3 lo j1 j2 j3 q) {i1 i2 i3 : Nat} {q' : LtP} (hg : W.grownBy W' (some g3)) (hr : W'.heap[g3]? = some (.cells ((asL l i1 i2 i3).cells q').toArray 37 (0, 0)))
    (hl : i1 ≤ l.refs.length ∧ i2 ≤ l.wants.length ∧ i3 ≤ l.haves.length) : AB w W' l p g1 g2 g3 lo i1 i2 i3 q' := by
  obtain ⟨n1, n2, n3, n4, n5, n6, n7, n8, n9⟩ := h.ne
  exact ⟨(hg.block _ (Array.getElem?_eq_some_iff.1 h.r1).1 (by simpa using n7)).trans h.r1, (hg.block _ (Array.getElem?_eq_some_iff.1 h.r2).1 (by simpa using n8)).trans h.r2, hr, hl, bel_grown h.bel h.bel.size hg n3,
    ⟨n1, n2, n3, n4, n5, n6, n7, n8, Nat.le_trans n9 hg.size⟩⟩
end

theorem take_rfc (rs : List RefM) (k : Nat) (h : k < rs.length) : rfc (rs.take (k + 1)) = rfc (rs.take k) ++ rs[k].cells := by rw [List.take_succ_eq_append_getElem h, rfc_snoc]
theorem take_idc (rs : List (List UInt8)) (k : Nat) (h : k < rs.length) : idc (rs.take (k + 1)) = idc (rs.take k) ++ b8s rs[k] := by rw [List.take_succ_eq_append_getElem h, idc_snoc]
theorem take_len {α : Type} (xs : List α) (k : Nat) (h : k ≤ xs.length) : (xs.take k).length = k := by rw [List.length_take]; omega

/-- loop 1: j of the refs are copied -/
structure AL1 (w W : World) (l : Lt) (p : LtP) (g1 g2 g3 lo j : Nat) (A : Option Addr) (c : Nat) : Prop where
  ab : AB w W l p g1 g2 g3 lo j 0 0 ⟨A, c, none, 0, none, 0, p.dA, p.dc⟩
  own : W.ownsRow lo 64 33 (.slice A j c) j (rfc (l.refs.take j))
section

variable {w W W' : World} {l : Lt} {p : LtP} {g1 g2 g3 lo j : Nat} {A A' : Option Addr} {c c' : Nat}

theorem AL1.below (h : AL1 w W l p g1 g2 g3 lo j A c) (hb : Below W.heap.size W W') : AL1 w W' l p g1 g2 g3 lo j A c := ⟨h.ab.below hb, own_below h.own hb⟩
theorem AL1.cell (h : AL1 w W l p g1 g2 g3 lo j A c) : W.cell? ⟨g3, 4, none⟩ = some (.slice A j c) := by
  have e : W.cell? ⟨g3, 4, none⟩ = some (.slice A (l.refs.take j).length c) := row_cell h.ab.r3 4
  rw [take_len _ _ (by have := h.ab.le; omega)] at e
  exact e
theorem AL1.app (h : AL1 w W l p g1 g2 g3 lo j A c) (hj : j < l.refs.length) (hg : W.grownBy W' (Value.slice A j c).ownBlock)
    (ho : W'.ownsRow lo 64 33 (.slice A' (j + 1) c') (j + 1) (rfc (l.refs.take j) ++ (l.refs[j]).cells)) :
    W'.cell? ⟨g3, 4, none⟩ = some (.slice A j c) ∧ W'.frozen? ⟨g3, 4, none⟩ = false ∧ AL1 w (W'.setCell ⟨g3, 4, none⟩ (.slice A' (j + 1) c')) l p g1 g2 g3 lo (j + 1) A' c' := by
  have hlo : ∀ b, (Value.slice A j c).ownBlock = some b → lo ≤ b := fun b e => (h.own.lt b e).1
  have h3 := h.ab.grow hg hlo
  have gr := grown_set (w := W') g3 4 (.slice A' (j + 1) c')
  have e1 : W'.cell? ⟨g3, 4, none⟩ = some (.slice A (l.refs.take j).length c) := row_cell h3.r3 4
  rw [take_len _ _ (by omega)] at e1
  have hr := row_refs (p := ⟨A, c, none, 0, none, 0, p.dA, p.dc⟩) h3.r3 A' c' (l.refs.take (j + 1))
  rw [take_len _ _ (by omega)] at hr
  have hle := h.ab.le
  refine ⟨e1, row_free h3.r3 4, h3.set gr hr (by omega), ?_⟩
  rw [take_rfc _ _ hj]
  exact own_far ho h.ab.ne.2.2.2.2.2.1 gr
end

/-- loop 2: j of the wants are copied -/
structure AL2 (w W : World) (l : Lt) (p : LtP) (g1 g2 g3 lo j : Nat) (A1 : Option Addr) (c1 : Nat) (A : Option Addr) (c : Nat) : Prop where
  ab : AB w W l p g1 g2 g3 lo l.refs.length j 0 ⟨A1, c1, A, c, none, 0, p.dA, p.dc⟩
  own : W.ownsRow lo 24 32 (.slice A j c) j (idc (l.wants.take j))
  k1 : Kp W lo g2 g3 A1 (rfc l.refs) ∧ l.refs.length ≤ c1 ∧ c1 ≤ 9223372036854775807
section

variable {w W W' : World} {l : Lt} {p : LtP} {g1 g2 g3 lo j : Nat} {A A' : Option Addr} {c c' : Nat} {A1 : Option Addr} {c1 : Nat}

theorem AL2.below (h : AL2 w W l p g1 g2 g3 lo j A1 c1 A c) (hb : Below W.heap.size W W') : AL2 w W' l p g1 g2 g3 lo j A1 c1 A c := ⟨h.ab.below hb, own_below h.own hb, ⟨h.k1.1.below hb, h.k1.2⟩⟩
theorem AL2.cell (h : AL2 w W l p g1 g2 g3 lo j A1 c1 A c) : W.cell? ⟨g3, 5, none⟩ = some (.slice A j c) := by
  have e : W.cell? ⟨g3, 5, none⟩ = some (.slice A (l.wants.take j).length c) := row_cell h.ab.r3 5
  rw [take_len _ _ (by have := h.ab.le; omega)] at e
  exact e
theorem AL2.app (h : AL2 w W l p g1 g2 g3 lo j A1 c1 A c) (hj : j < l.wants.length) (hg : W.grownBy W' (Value.slice A j c).ownBlock)
    (ho : W'.ownsRow lo 24 32 (.slice A' (j + 1) c') (j + 1) (idc (l.wants.take j) ++ (b8s (l.wants[j])))) :
    W'.cell? ⟨g3, 5, none⟩ = some (.slice A j c) ∧ W'.frozen? ⟨g3, 5, none⟩ = false ∧ AL2 w (W'.setCell ⟨g3, 5, none⟩ (.slice A' (j + 1) c')) l p g1 g2 g3 lo (j + 1) A1 c1 A' c' := by
  have hlo : ∀ b, (Value.slice A j c).ownBlock = some b → lo ≤ b := fun b e => (h.own.lt b e).1
  have h3 := h.ab.grow hg hlo
  have gr := grown_set (w := W') g3 5 (.slice A' (j + 1) c')
  have e1 : W'.cell? ⟨g3, 5, none⟩ = some (.slice A (l.wants.take j).length c) := row_cell h3.r3 5
  rw [take_len _ _ (by omega)] at e1
  have hr := row_wants (p := ⟨A1, c1, A, c, none, 0, p.dA, p.dc⟩) h3.r3 A' c' (l.wants.take (j + 1))
  rw [take_len _ _ (by omega)] at hr
  have hle := h.ab.le
  refine ⟨e1, row_free h3.r3 5, h3.set gr hr (by omega), ?_, ⟨(h.k1.1.far hg (fun b e => .inl (hlo b e))).far gr (fun b e => .inr (.inl (by cases e; exact Nat.le_refl _))), h.k1.2⟩⟩
  rw [take_idc _ _ hj]
  exact own_far ho h.ab.ne.2.2.2.2.2.1 gr
end

/-- loop 3: j of the haves are copied -/
structure AL3 (w W : World) (l : Lt) (p : LtP) (g1 g2 g3 lo j : Nat) (A1 : Option Addr) (c1 : Nat) (A2 : Option Addr) (c2 : Nat) (A : Option Addr) (c : Nat) : Prop where
  ab : AB w W l p g1 g2 g3 lo l.refs.length l.wants.length j ⟨A1, c1, A2, c2, A, c, p.dA, p.dc⟩
  own : W.ownsRow lo 24 32 (.slice A j c) j (idc (l.haves.take j))
  k1 : Kp W lo g2 g3 A1 (rfc l.refs) ∧ l.refs.length ≤ c1 ∧ c1 ≤ 9223372036854775807
  k2 : Kp W lo g2 g3 A2 (idc l.wants) ∧ l.wants.length ≤ c2 ∧ c2 ≤ 9223372036854775807
section

variable {w W W' : World} {l : Lt} {p : LtP} {g1 g2 g3 lo j : Nat} {A A' : Option Addr} {c c' : Nat} {A1 : Option Addr} {c1 : Nat} {A2 : Option Addr} {c2 : Nat}

theorem AL3.below (h : AL3 w W l p g1 g2 g3 lo j A1 c1 A2 c2 A c) (hb : Below W.heap.size W W') : AL3 w W' l p g1 g2 g3 lo j A1 c1 A2 c2 A c := ⟨h.ab.below hb, own_below h.own hb, ⟨h.k1.1.below hb, h.k1.2⟩, ⟨h.k2.1.below hb, h.k2.2⟩⟩
theorem AL3.cell (h : AL3 w W l p g1 g2 g3 lo j A1 c1 A2 c2 A c) : W.cell? ⟨g3, 6, none⟩ = some (.slice A j c) := by
  have e : W.cell? ⟨g3, 6, none⟩ = some (.slice A (l.haves.take j).length c) := row_cell h.ab.r3 6
  rw [take_len _ _ (by have := h.ab.le; omega)] at e
  exact e
theorem AL3.app (h : AL3 w W l p g1 g2 g3 lo j A1 c1 A2 c2 A c) (hj : j < l.haves.length) (hg : W.grownBy W' (Value.slice A j c).ownBlock)
    (ho : W'.ownsRow lo 24 32 (.slice A' (j + 1) c') (j + 1) (idc (l.haves.take j) ++ (b8s (l.haves[j])))) :
    W'.cell? ⟨g3, 6, none⟩ = some (.slice A j c) ∧ W'.frozen? ⟨g3, 6, none⟩ = false ∧ AL3 w (W'.setCell ⟨g3, 6, none⟩ (.slice A' (j + 1) c')) l p g1 g2 g3 lo (j + 1) A1 c1 A2 c2 A' c' := by
  have hlo : ∀ b, (Value.slice A j c).ownBlock = some b → lo ≤ b := fun b e => (h.own.lt b e).1
  have h3 := h.ab.grow hg hlo
  have gr := grown_set (w := W') g3 6 (.slice A' (j + 1) c')
  have e1 : W'.cell? ⟨g3, 6, none⟩ = some (.slice A (l.haves.take j).length c) := row_cell h3.r3 6
  rw [take_len _ _ (by omega)] at e1
  have hr := row_haves (p := ⟨A1, c1, A2, c2, A, c, p.dA, p.dc⟩) h3.r3 A' c' (l.haves.take (j + 1))
  rw [take_len _ _ (by omega)] at hr
  have hle := h.ab.le
  refine ⟨e1, row_free h3.r3 6, h3.set gr hr (by omega), ?_, ⟨(h.k1.1.far hg (fun b e => .inl (hlo b e))).far gr (fun b e => .inr (.inl (by cases e; exact Nat.le_refl _))), h.k1.2⟩, ⟨(h.k2.1.far hg (fun b e => .inl (hlo b e))).far gr (fun b e => .inr (.inl (by cases e; exact Nat.le_refl _))), h.k2.2⟩⟩
  rw [take_idc _ _ hj]
  exact own_far ho h.ab.ne.2.2.2.2.2.1 gr
end

theorem AL1.next {w W : World} {l : Lt} {p : LtP} {g1 g2 g3 lo : Nat} {A : Option Addr} {c : Nat} (h : AL1 w W l p g1 g2 g3 lo l.refs.length A c) : AL2 w W l p g1 g2 g3 W.heap.size 0 A c none 0 := by
  have hk := Kp.of_own h.own h.ab.ne.2.2.2.2.1 h.ab.ne.2.2.2.2.2.1
  obtain ⟨B, d, e, b1, b2, _⟩ := own_slice h.own
  cases e
  rw [List.take_length] at hk
  exact ⟨h.ab.lift, World.ownsRow_nil _ _ _ _, hk, b1, by unfold maxLen at b2; exact b2⟩
theorem AL2.next {w W : World} {l : Lt} {p : LtP} {g1 g2 g3 lo : Nat} {A A1 : Option Addr} {c c1 : Nat} (h : AL2 w W l p g1 g2 g3 lo l.wants.length A1 c1 A c) : AL3 w W l p g1 g2 g3 W.heap.size 0 A1 c1 A c none 0 := by
  have hk := Kp.of_own h.own h.ab.ne.2.2.2.2.1 h.ab.ne.2.2.2.2.2.1
  obtain ⟨B, d, e, b1, b2, _⟩ := own_slice h.own
  cases e
  rw [List.take_length] at hk
  exact ⟨h.ab.lift, World.ownsRow_nil _ _ _ _, ⟨h.k1.1.lift h.ab.ne.2.2.2.2.2.2.2.2, h.k1.2⟩, hk, b1, by unfold maxLen at b2; exact b2⟩
/-- the result's row is written -/
theorem AL3.out {w W W' : World} {l : Lt} {p : LtP} {g1 g2 g3 lo : Nat} {A A1 A2 : Option Addr} {c c1 c2 : Nat} (h : AL3 w W l p g1 g2 g3 lo l.haves.length A1 c1 A2 c2 A c) (hin : LtIn w l p) (hg : W.grownBy W' (some g2)) (hb : Below w.heap.size w W') : LtIn W' l ⟨A1, c1, A2, c2, A, c, p.dA, p.dc⟩ := by
  have k := hin.below hb
  have ho := own_far h.own h.ab.ne.2.2.2.2.1 hg
  obtain ⟨B, d, e, b1, b2, _⟩ := own_slice ho
  cases e
  have hr := own_rd ho
  rw [List.take_length] at hr
  have k1 := h.k1.1.far hg (fun b e => .inr (.inr (by cases e; exact Nat.le_refl _)))
  have k2 := h.k2.1.far hg (fun b e => .inr (.inr (by cases e; exact Nat.le_refl _)))
  exact ⟨hin.len, hin.rok, hin.wok, hin.hok, ⟨k1.1, h.k1.2⟩, ⟨k2.1, h.k2.2⟩, ⟨hr, b1, by unfold maxLen at b2; exact b2⟩, k.dr⟩
def AsOut (w w' : World) (e : Ending) (l : Lt) : Prop := ∃ q, e = .returned (l.val q) ∧ LtIn w' l q ∧ Below w.heap.size w w'

set_option maxRecDepth 100000 in
set_option maxHeartbeats 8000000 in
theorem as_any (l : Lt) (p : LtP) (w : World) (hin : LtIn w l p) (hr1 : l.refs.length * 48 ≤ reachBytes) (hr2 : l.wants.length * 32 ≤ reachBytes) (hr3 : l.haves.length * 32 ≤ reachBytes) :
    Calls Try.prog 11 #[l.val p] w fun e w' => AsOut w w' e l := by
  have hre : reachBytes = 140737488351232 := by decide
  rw [hre] at hr1 hr2 hr3
  clear hre
  have HB1 := Lib.hid hr1
  have HB2 := Lib.hid hr2
  have HB3 := Lib.hid hr3
  clear hr1 hr2 hr3
  have HIN := Lib.hid hin
  have hlen := hin.len
  have HLEN := Lib.hid hlen
  obtain ⟨W1, hW1⟩ : ∃ W, w.alloc (.cells (l.cells p).toArray 28) = W := ⟨_, rfl⟩
  obtain ⟨q1, b1, s1⟩ := new_row hW1
  obtain ⟨W2, hW2⟩ : ∃ W, W1.alloc (.cells #[Value.int .i64 0, Value.int .i64 0, Value.int .i64 0, Value.int .i64 0, Value.slice none 0 0, Value.slice none 0 0, Value.slice none 0 0, Value.int .i64 0, Value.int .i64 0, Value.int .u8 0, Value.int .u8 0, Value.int .u8 0, Value.int .u8 0, Value.int .u8 0, Value.int .u8 0, Value.int .u8 0, Value.int .u8 0, Value.int .u8 0, Value.int .u8 0, Value.int .u8 0, Value.int .u8 0, Value.int .u8 0, Value.int .u8 0, Value.int .u8 0, Value.int .u8 0, Value.int .u8 0, Value.int .u8 0, Value.int .u8 0, Value.int .u8 0, Value.int .u8 0, Value.int .u8 0, Value.int .u8 0, Value.int .u8 0, Value.int .u8 0, Value.int .u8 0, Value.int .u8 0, Value.int .u8 0, Value.int .u8 0, Value.int .u8 0, Value.int .u8 0, Value.int .u8 0, Value.slice none 0 0] 37) = W := ⟨_, rfl⟩
  obtain ⟨q2, b2, s2⟩ := new_row hW2
  obtain ⟨W3, hW3⟩ : ∃ W, W2.alloc (.cells #[Value.int .i64 0, Value.int .i64 0, Value.int .i64 0, Value.int .i64 0, Value.slice none 0 0, Value.slice none 0 0, Value.slice none 0 0, Value.int .i64 0, Value.int .i64 0, Value.int .u8 0, Value.int .u8 0, Value.int .u8 0, Value.int .u8 0, Value.int .u8 0, Value.int .u8 0, Value.int .u8 0, Value.int .u8 0, Value.int .u8 0, Value.int .u8 0, Value.int .u8 0, Value.int .u8 0, Value.int .u8 0, Value.int .u8 0, Value.int .u8 0, Value.int .u8 0, Value.int .u8 0, Value.int .u8 0, Value.int .u8 0, Value.int .u8 0, Value.int .u8 0, Value.int .u8 0, Value.int .u8 0, Value.int .u8 0, Value.int .u8 0, Value.int .u8 0, Value.int .u8 0, Value.int .u8 0, Value.int .u8 0, Value.int .u8 0, Value.int .u8 0, Value.int .u8 0, Value.slice none 0 0] 37) = W := ⟨_, rfl⟩
  obtain ⟨q3, b3, s3⟩ := new_row hW3
  rw [← lt0_cells] at q2 q3
  obtain ⟨g1, hg1⟩ : ∃ g, w.heap.size = g := ⟨_, rfl⟩
  obtain ⟨g2, hg2⟩ : ∃ g, W1.heap.size = g := ⟨_, rfl⟩
  obtain ⟨g3, hg3⟩ : ∃ g, W2.heap.size = g := ⟨_, rfl⟩
  rw [hg1] at q1
  rw [hg2] at q2
  rw [hg3] at q3
  have hr12 := (b2.block _ (Array.getElem?_eq_some_iff.1 q1).1).trans q1
  obtain ⟨k0, k1, k2, k3, k4, k5, k6, k7, k8, k41, k9⟩ := ltRow_of hr12 hlen
  have H9 := Lib.hid k9
  have HI9 := Lib.hid (info_id32' l.pack hlen).1
  have HBU := Lib.hid (built_let l.kind l.from_ l.to_ l.session l.off l.total l.pack hlen p.dA l.data.length p.dc)
  have hbb := ext_trans b1 (ext_trans b2 b3)
  obtain ⟨W4, hW4, HTH, HR4, HB4, HO4, HS4⟩ := let_write (m := asL l 0 0 0) (q := ⟨none, 0, none, 0, none, 0, p.dA, p.dc⟩) q3 rfl hlen hbb hbb.size (by omega)
  have HW4 := Lib.hid hW4
  have HIL4 := Lib.hid (info_rleta (asL l 0 0 0) ⟨none, 0, none, 0, none, 0, p.dA, p.dc⟩ hlen)
  have HOL4 := Lib.hid (all_oneCell_toArray ((asL l 0 0 0).cells_one ⟨none, 0, none, 0, none, 0, p.dA, p.dc⟩))
  have h13 : g1 ≠ g3 := by omega
  have h23 : g2 ≠ g3 := by omega
  have e14 := (HO4.out g1 h13).trans ((b3.block _ (Array.getElem?_eq_some_iff.1 hr12).1).trans hr12)
  have e24 := (HO4.out g2 h23).trans ((b3.block _ (Array.getElem?_eq_some_iff.1 q2).1).trans q2)
  have hsz := HS4.out
  have HAL : Hid (AL1 w W4 l p g1 g2 g3 W4.heap.size 0 none 0) := Lib.hid ⟨⟨e14, e24, HR4.out, ⟨by omega, by omega, by omega⟩, HB4.out, ⟨by omega, by omega, by omega, by omega, by omega, by omega, h13, h23, Nat.le_refl _⟩⟩, World.ownsRow_nil _ _ _ _⟩
  obtain ⟨m0, m1, m2, m3, m4, m5, m6, m7, m8, m41, m9⟩ := ltRow_of e14 hlen
  clear q1 q2 q3 b1 b2 b3 s1 s2 s3 hr12 k9 hbb hW4 h13 h23 e14 e24 hsz HO4 HS4 m0 m1 m2 m3 m5 m6 m7 m8 m41 m9 hlen k4 k5 k6
  unfold Lt.val
  go_enter Try.func11, Try.ntmps11
  go_wp2_with (first
    | ((with_reducible (refine wpList_load_cells 25 _ g1 9 (b8s l.pack) H9.out Try.underlying25 rfl HI9.out ?_ rfl ?_ ?_)); (exact rfl); (exact rfl))
    | ((with_reducible (refine wpList_built ?_ _ #[(0, .tmp 11), (1, .tmp 13), (2, .tmp 15), (3, .tmp 17), (7, .tmp 19), (8, .tmp 21), (9, .tmp 23), (10, .tmp 25)] ?_ _ ?_ _ HBU.out ?_)); (exact rfl); (exact rfl); (exact rfl))
    | ((with_reducible (refine wpList_store_mid rfl _ _ _ rfl ?_ ?_ ?_ ?_ ?_ ?_ ?_ ?_ ?_)); (exact g3); (exact 0); (exact ((asL l 0 0 0).cells ⟨none, 0, none, 0, none, 0, p.dA, p.dc⟩).toArray); (exact rfl); (exact rfl); (exact HTH.out); (exact HIL4.out); (exact HOL4.out); rw [HW4.out]))
  clear hW1 hW2 hW3 hg1 hg2 hg3 m4 k0 k1 k2 k3 k7 k8 k41 HBU H9 HI9 HTH HR4 HB4 HIL4 HOL4
  obtain ⟨lo, hlo⟩ : ∃ lo, W4.heap.size = lo := ⟨_, rfl⟩
  rw [hlo] at HAL
  clear hlo
  go_loopg [30] (l.refs.length * 1) (fun gk_ s wr => ∃ (k : Nat) (A : Option Addr) (c : Nat), k ≤ l.refs.length ∧ gk_ = l.refs.length - k ∧ s = .int .i64 (k : Int) ∧ Hid (AL1 w wr l p g1 g2 g3 lo k A c))
  case atStart => exact ⟨0, none, 0, by omega, by omega, rfl, HAL⟩
  case round =>
  clear HAL
  obtain ⟨k, A, c, hk, rfl, rfl, HAL⟩ := hrel
  by_cases hlt : k < l.refs.length
  · have hlb := HB1.out
    have i1 : (k : Int) < (l.refs.length : Int) := by omega
    have hpos : 0 < (rfc l.refs).length := by rw [rfc_length HIN.out.rok]; omega
    have hrd := HIN.out.rr.1.below HAL.out.ab.bel
    have hpc := HIN.out.rr.2
    obtain ⟨b, off, hA, _⟩ := hrd.all hpos
    rw [hA] at hrd
    have HA := Lib.hid hA
    clear hA
    have RS := rd_ref hrd HIN.out.rok k hlt
    have hso := rOk_get HIN.out.rok k hlt
    obtain ⟨s, hs⟩ : ∃ s, l.refs[k] = s := ⟨_, rfl⟩
    rw [hs] at RS hso
    have HSS := Lib.hid hs
    have HSO := Lib.hid hso
    have HIS := Lib.hid (info_ref s hso)
    have HIA : Hid ((Try.prog.info? 52).map (·.size) = some s.cells.toArray.size) := Lib.hid (by rw [List.size_toArray]; exact info_ref s hso)
    have HIW := Lib.hid (info_id32 s.id hso.1)
    obtain ⟨Wa, W5, hWa0, hW5, HTH, HRS, HB5⟩ := row_place (w := wr) 52 refZ s.cells (by rw [RefM.len hso]; rfl)
    have hWa : wr.alloc (.cells #[Value.string ⟨#[]⟩, Value.int .u8 0, Value.int .u8 0, Value.int .u8 0, Value.int .u8 0, Value.int .u8 0, Value.int .u8 0, Value.int .u8 0, Value.int .u8 0, Value.int .u8 0, Value.int .u8 0, Value.int .u8 0, Value.int .u8 0, Value.int .u8 0, Value.int .u8 0, Value.int .u8 0, Value.int .u8 0, Value.int .u8 0, Value.int .u8 0, Value.int .u8 0, Value.int .u8 0, Value.int .u8 0, Value.int .u8 0, Value.int .u8 0, Value.int .u8 0, Value.int .u8 0, Value.int .u8 0, Value.int .u8 0, Value.int .u8 0, Value.int .u8 0, Value.int .u8 0, Value.int .u8 0, Value.int .u8 0] 52) = Wa := hWa0
    have HW5 := Lib.hid hW5
    have hrow := range_of_row HRS.out
    have c0 := ref_cell0 hrow
    have HC1 := Lib.hid (ref_range1 hrow)
    have HAL5 := Lib.hid (HAL.out.below HB5.out)
    have c4 := HAL5.out.cell
    have HBR : Hid (Try.prog.built 64 [(0, .string s.name), (1, .agg (b8s s.id).toArray)] = some s.cells.toArray) := Lib.hid (ref_built s.name s.id hso.1)
    obtain ⟨W6, hW6⟩ : ∃ W, W5.alloc (.cells s.cells.toArray 64) = W := ⟨_, rfl⟩
    obtain ⟨r6, b6, s6⟩ := new_row hW6
    have HW6 := Lib.hid hW6
    have HAL6 := Lib.hid (HAL5.out.below b6)
    have HR6 : Hid (Rd W6 (some ⟨W5.heap.size, 0, none⟩) s.cells) := Lib.hid (range_rd (range_of_row r6))
    have HBA := Lib.hid HAL6.out.ab.ne.2.2.2.2.2.2.2.2
    have HAPP : Hid (∀ A' c' W', W6.grownBy W' (Value.slice A k c).ownBlock → W'.ownsRow lo 64 33 (.slice A' (k + 1) c') (k + 1) (rfc (l.refs.take k) ++ s.cells) →
        W'.cell? ⟨g3, 4, none⟩ = some (.slice A k c) ∧ W'.frozen? ⟨g3, 4, none⟩ = false ∧ Hid (AL1 w (W'.setCell ⟨g3, 4, none⟩ (.slice A' (k + 1) c')) l p g1 g2 g3 lo (k + 1) A' c')) := Lib.hid (by
      intro A' c' W' hg ho
      have h := HAL6.out.app (A' := A') (c' := c') hlt hg (by rw [HSS.out]; exact ho)
      exact ⟨h.1, h.2.1, Lib.hid h.2.2⟩)
    clear hrd hpos hs hW5 hWa0 hrow hso r6 b6 s6 hW6
    rw [HA.out]
    go_wp2_with (first
      | ((with_reducible (refine wpList_load_cells 52 _ b (off + k * 33) (s.cells) RS Try.underlying52 rfl HIS.out ?_ rfl ?_ ?_)); (exact rfl); (exact rfl))
      | ((with_reducible (refine wpList_store_mid rfl _ _ _ rfl ?_ ?_ ?_ ?_ ?_ ?_ ?_ ?_ ?_)); (exact wr.heap.size); (exact 0); (exact (s.cells).toArray); (exact rfl); (exact rfl); (exact HTH.out); (exact HIA.out); (exact all_oneCell_toArray s.one); rw [HW5.out])
      | ((with_reducible (refine wpList_load_cells 25 _ wr.heap.size 1 (b8s s.id) HC1.out Try.underlying25 rfl HIW.out ?_ rfl ?_ ?_)); (exact rfl); (exact rfl))
      | ((with_reducible (refine wpList_built ?_ _ #[(0, .tmp 37), (1, .tmp 39)] ?_ _ ?_ _ HBR.out ?_)); (exact rfl); (exact rfl); (exact rfl))
      | (refine wpList_build1 rfl _ 64 _ rfl s.cells rfl Try.underlying34 (by rw [RefM.len HSO.out]; exact info_rref1) (by rw [RefM.len HSO.out]; decide) (by rw [RefM.len HSO.out]; decide) ?_; rw [HW6.out])
      | (at_builtin; refine wpList_append_rd _ rfl _ _ 34 rfl lo 64 _ 33 48 Try.underlying34 info_rref2 (by unfold refZ; rw [zeros32_cells]; rfl) (by decide) (.slice A k c) k (rfc (l.refs.take k)) rfl HAL6.out.own _ 1 1 s.cells rfl (by rw [RefM.len HSO.out]) HR6.out (RefM.one _) (by unfold maxLen; omega) (by omega) HBA.out ?_; intro v7 w7 ho7 hg7 hvb7; obtain ⟨A5, c5, e5, _⟩ := own_slice ho7; subst e5; obtain ⟨x7, y7, HRX⟩ := HAPP.out _ _ _ hg7 ho7; clear ho7 hg7 hvb7))
    rw [← HA.out]
    clear c4 c0 RS hWa
    go_roundg (l.refs.length - (k + 1))
    case measure => omega
    case rel => exact ⟨k + 1, A5, c5, by omega, rfl, by first | rfl | exact congrArg (Value.int .i64) (by omega) | go_num, HRX⟩
  obtain rfl : k = l.refs.length := by omega
  clear hlt hk
  obtain ⟨A1, hA1⟩ : ∃ x, x = A := ⟨_, rfl⟩
  obtain ⟨c1, hc1⟩ : ∃ x, x = c := ⟨_, rfl⟩
  subst hA1 hc1
  have HALN := Lib.hid HAL.out.next
  have hle_ := ltRow_of HALN.out.ab.r1 HLEN.out
  have mC := hle_.2.2.2.2.2.1
  clear hle_ HAL
  go_wp2
  clear mC
  obtain ⟨lo2, hlo2⟩ : ∃ lo, wr.heap.size = lo := ⟨_, rfl⟩
  rw [hlo2] at HALN
  clear hlo2
  go_loopg [48] (l.wants.length * 1) (fun gk_ s wr => ∃ (k : Nat) (A : Option Addr) (c : Nat), k ≤ l.wants.length ∧ gk_ = l.wants.length - k ∧ s = .int .i64 (k : Int) ∧ Hid (AL2 w wr l p g1 g2 g3 lo2 k A1 c1 A c))
  case atStart => exact ⟨0, none, 0, by omega, by omega, rfl, HALN⟩
  case round =>
  clear HALN
  obtain ⟨k, A, c, hk, rfl, rfl, HAL⟩ := hrel
  by_cases hlt : k < l.wants.length
  · have hlb := HB2.out
    have i1 : (k : Int) < (l.wants.length : Int) := by omega
    have hpos : 0 < (idc l.wants).length := by rw [idc_length HIN.out.wok]; omega
    have hrd := HIN.out.wr.1.below HAL.out.ab.bel
    have hpc := HIN.out.wr.2
    obtain ⟨b, off, hA, _⟩ := hrd.all hpos
    rw [hA] at hrd
    have HA := Lib.hid hA
    clear hA
    have RS := rd_id hrd HIN.out.wok k hlt
    have hso := iOk_get HIN.out.wok k hlt
    obtain ⟨s, hs⟩ : ∃ s, l.wants[k] = s := ⟨_, rfl⟩
    rw [hs] at RS hso
    have HSS := Lib.hid hs
    have HSO := Lib.hid hso
    have HIS := Lib.hid (info_id32' s hso).1
    have HIA := Lib.hid (info_id32' s hso).2
    obtain ⟨Wa, W5, hWa0, hW5, HTH, HRS, HB5⟩ := row_place (w := wr) 25 (b8s zeros32) (b8s s) (by rw [b8s_length, b8s_length, hso]; rfl)
    have hWa : wr.alloc (.cells #[Value.int .u8 0, Value.int .u8 0, Value.int .u8 0, Value.int .u8 0, Value.int .u8 0, Value.int .u8 0, Value.int .u8 0, Value.int .u8 0, Value.int .u8 0, Value.int .u8 0, Value.int .u8 0, Value.int .u8 0, Value.int .u8 0, Value.int .u8 0, Value.int .u8 0, Value.int .u8 0, Value.int .u8 0, Value.int .u8 0, Value.int .u8 0, Value.int .u8 0, Value.int .u8 0, Value.int .u8 0, Value.int .u8 0, Value.int .u8 0, Value.int .u8 0, Value.int .u8 0, Value.int .u8 0, Value.int .u8 0, Value.int .u8 0, Value.int .u8 0, Value.int .u8 0, Value.int .u8 0] 25) = Wa := hWa0
    have HW5 := Lib.hid hW5
    have HRW := Lib.hid (range_of_row HRS.out)
    have HAL5 := Lib.hid (HAL.out.below HB5.out)
    have c4 := HAL5.out.cell
    obtain ⟨W6, hW6⟩ : ∃ W, W5.alloc (.cells (b8s s).toArray 24) = W := ⟨_, rfl⟩
    obtain ⟨r6, b6, s6⟩ := new_row hW6
    have HW6 := Lib.hid hW6
    have HAL6 := Lib.hid (HAL5.out.below b6)
    have HR6 : Hid (Rd W6 (some ⟨W5.heap.size, 0, none⟩) (b8s s)) := Lib.hid (range_rd (range_of_row r6))
    have HBA := Lib.hid HAL6.out.ab.ne.2.2.2.2.2.2.2.2
    have HAPP : Hid (∀ A' c' W', W6.grownBy W' (Value.slice A k c).ownBlock → W'.ownsRow lo2 24 32 (.slice A' (k + 1) c') (k + 1) (idc (l.wants.take k) ++ b8s s) →
        W'.cell? ⟨g3, 5, none⟩ = some (.slice A k c) ∧ W'.frozen? ⟨g3, 5, none⟩ = false ∧ Hid (AL2 w (W'.setCell ⟨g3, 5, none⟩ (.slice A' (k + 1) c')) l p g1 g2 g3 lo2 (k + 1) A1 c1 A' c')) := Lib.hid (by
      intro A' c' W' hg ho
      have h := HAL6.out.app (A' := A') (c' := c') hlt hg (by rw [HSS.out]; exact ho)
      exact ⟨h.1, h.2.1, Lib.hid h.2.2⟩)
    clear hrd hpos hs hW5 hWa0 hso r6 b6 s6 hW6
    rw [HA.out]
    go_wp2_with (first
      | ((with_reducible (refine wpList_load_cells 25 _ b (off + k * 32) (b8s s) RS Try.underlying25 rfl HIS.out ?_ rfl ?_ ?_)); (exact rfl); (exact rfl))
      | ((with_reducible (refine wpList_store_mid rfl _ _ _ rfl ?_ ?_ ?_ ?_ ?_ ?_ ?_ ?_ ?_)); (exact wr.heap.size); (exact 0); (exact (b8s s).toArray); (exact rfl); (exact rfl); (exact HTH.out); (exact HIA.out); (exact all_oneCell_toArray (b8s_one' _)); rw [HW5.out])
      | ((with_reducible (refine wpList_load_cells 25 _ wr.heap.size 0 (b8s s) HRW.out Try.underlying25 rfl HIS.out ?_ rfl ?_ ?_)); (exact rfl); (exact rfl))
      | (refine wpList_build1 rfl _ 24 _ rfl (b8s s) rfl Try.underlying35 (by rw [b8s_length, HSO.out]; exact info_rid1) (by rw [b8s_length, HSO.out]; decide) (by rw [b8s_length, HSO.out]; decide) ?_; rw [HW6.out])
      | (at_builtin; refine wpList_append_rd _ rfl _ _ 35 rfl lo2 24 _ 32 32 Try.underlying35 info_rid2 (by rw [zeros32_cells]; rfl) (by decide) (.slice A k c) k (idc (l.wants.take k)) rfl HAL6.out.own _ 1 1 (b8s s) rfl (by rw [b8s_length, HSO.out]) HR6.out (b8s_one' _) (by unfold maxLen; omega) (by omega) HBA.out ?_; intro v7 w7 ho7 hg7 hvb7; obtain ⟨A5, c5, e5, _⟩ := own_slice ho7; subst e5; obtain ⟨x7, y7, HRX⟩ := HAPP.out _ _ _ hg7 ho7; clear ho7 hg7 hvb7))
    rw [← HA.out]
    clear c4 RS hWa
    go_roundg (l.wants.length - (k + 1))
    case measure => omega
    case rel => exact ⟨k + 1, A5, c5, by omega, rfl, by first | rfl | exact congrArg (Value.int .i64) (by omega) | go_num, HRX⟩
  obtain rfl : k = l.wants.length := by omega
  clear hlt hk
  obtain ⟨A2, hA2_⟩ : ∃ x, x = A := ⟨_, rfl⟩
  obtain ⟨c2, hc2_⟩ : ∃ x, x = c := ⟨_, rfl⟩
  subst hA2_ hc2_
  have HALN := Lib.hid HAL.out.next
  have hle_ := ltRow_of HALN.out.ab.r1 HLEN.out
  have mC := hle_.2.2.2.2.2.2.1
  clear hle_ HAL
  go_wp2
  clear mC
  obtain ⟨lo3, hlo3⟩ : ∃ lo, wr.heap.size = lo := ⟨_, rfl⟩
  rw [hlo3] at HALN
  clear hlo3
  go_loopg [62] (l.haves.length * 1) (fun gk_ s wr => ∃ (k : Nat) (A : Option Addr) (c : Nat), k ≤ l.haves.length ∧ gk_ = l.haves.length - k ∧ s = .int .i64 (k : Int) ∧ Hid (AL3 w wr l p g1 g2 g3 lo3 k A1 c1 A2 c2 A c))
  case atStart => exact ⟨0, none, 0, by omega, by omega, rfl, HALN⟩
  case round =>
  clear HALN
  obtain ⟨k, A, c, hk, rfl, rfl, HAL⟩ := hrel
  by_cases hlt : k < l.haves.length
  · have hlb := HB3.out
    have i1 : (k : Int) < (l.haves.length : Int) := by omega
    have hpos : 0 < (idc l.haves).length := by rw [idc_length HIN.out.hok]; omega
    have hrd := HIN.out.hr.1.below HAL.out.ab.bel
    have hpc := HIN.out.hr.2
    obtain ⟨b, off, hA, _⟩ := hrd.all hpos
    rw [hA] at hrd
    have HA := Lib.hid hA
    clear hA
    have RS := rd_id hrd HIN.out.hok k hlt
    have hso := iOk_get HIN.out.hok k hlt
    obtain ⟨s, hs⟩ : ∃ s, l.haves[k] = s := ⟨_, rfl⟩
    rw [hs] at RS hso
    have HSS := Lib.hid hs
    have HSO := Lib.hid hso
    have HIS := Lib.hid (info_id32' s hso).1
    have HIA := Lib.hid (info_id32' s hso).2
    obtain ⟨Wa, W5, hWa0, hW5, HTH, HRS, HB5⟩ := row_place (w := wr) 25 (b8s zeros32) (b8s s) (by rw [b8s_length, b8s_length, hso]; rfl)
    have hWa : wr.alloc (.cells #[Value.int .u8 0, Value.int .u8 0, Value.int .u8 0, Value.int .u8 0, Value.int .u8 0, Value.int .u8 0, Value.int .u8 0, Value.int .u8 0, Value.int .u8 0, Value.int .u8 0, Value.int .u8 0, Value.int .u8 0, Value.int .u8 0, Value.int .u8 0, Value.int .u8 0, Value.int .u8 0, Value.int .u8 0, Value.int .u8 0, Value.int .u8 0, Value.int .u8 0, Value.int .u8 0, Value.int .u8 0, Value.int .u8 0, Value.int .u8 0, Value.int .u8 0, Value.int .u8 0, Value.int .u8 0, Value.int .u8 0, Value.int .u8 0, Value.int .u8 0, Value.int .u8 0, Value.int .u8 0] 25) = Wa := hWa0
    have HW5 := Lib.hid hW5
    have HRW := Lib.hid (range_of_row HRS.out)
    have HAL5 := Lib.hid (HAL.out.below HB5.out)
    have c4 := HAL5.out.cell
    obtain ⟨W6, hW6⟩ : ∃ W, W5.alloc (.cells (b8s s).toArray 24) = W := ⟨_, rfl⟩
    obtain ⟨r6, b6, s6⟩ := new_row hW6
    have HW6 := Lib.hid hW6
    have HAL6 := Lib.hid (HAL5.out.below b6)
    have HR6 : Hid (Rd W6 (some ⟨W5.heap.size, 0, none⟩) (b8s s)) := Lib.hid (range_rd (range_of_row r6))
    have HBA := Lib.hid HAL6.out.ab.ne.2.2.2.2.2.2.2.2
    have HAPP : Hid (∀ A' c' W', W6.grownBy W' (Value.slice A k c).ownBlock → W'.ownsRow lo3 24 32 (.slice A' (k + 1) c') (k + 1) (idc (l.haves.take k) ++ b8s s) →
        W'.cell? ⟨g3, 6, none⟩ = some (.slice A k c) ∧ W'.frozen? ⟨g3, 6, none⟩ = false ∧ Hid (AL3 w (W'.setCell ⟨g3, 6, none⟩ (.slice A' (k + 1) c')) l p g1 g2 g3 lo3 (k + 1) A1 c1 A2 c2 A' c')) := Lib.hid (by
      intro A' c' W' hg ho
      have h := HAL6.out.app (A' := A') (c' := c') hlt hg (by rw [HSS.out]; exact ho)
      exact ⟨h.1, h.2.1, Lib.hid h.2.2⟩)
    clear hrd hpos hs hW5 hWa0 hso r6 b6 s6 hW6
    rw [HA.out]
    go_wp2_with (first
      | ((with_reducible (refine wpList_load_cells 25 _ b (off + k * 32) (b8s s) RS Try.underlying25 rfl HIS.out ?_ rfl ?_ ?_)); (exact rfl); (exact rfl))
      | ((with_reducible (refine wpList_store_mid rfl _ _ _ rfl ?_ ?_ ?_ ?_ ?_ ?_ ?_ ?_ ?_)); (exact wr.heap.size); (exact 0); (exact (b8s s).toArray); (exact rfl); (exact rfl); (exact HTH.out); (exact HIA.out); (exact all_oneCell_toArray (b8s_one' _)); rw [HW5.out])
      | ((with_reducible (refine wpList_load_cells 25 _ wr.heap.size 0 (b8s s) HRW.out Try.underlying25 rfl HIS.out ?_ rfl ?_ ?_)); (exact rfl); (exact rfl))
      | (refine wpList_build1 rfl _ 24 _ rfl (b8s s) rfl Try.underlying35 (by rw [b8s_length, HSO.out]; exact info_rid1) (by rw [b8s_length, HSO.out]; decide) (by rw [b8s_length, HSO.out]; decide) ?_; rw [HW6.out])
      | (at_builtin; refine wpList_append_rd _ rfl _ _ 35 rfl lo3 24 _ 32 32 Try.underlying35 info_rid2 (by rw [zeros32_cells]; rfl) (by decide) (.slice A k c) k (idc (l.haves.take k)) rfl HAL6.out.own _ 1 1 (b8s s) rfl (by rw [b8s_length, HSO.out]) HR6.out (b8s_one' _) (by unfold maxLen; omega) (by omega) HBA.out ?_; intro v7 w7 ho7 hg7 hvb7; obtain ⟨A5, c5, e5, _⟩ := own_slice ho7; subst e5; obtain ⟨x7, y7, HRX⟩ := HAPP.out _ _ _ hg7 ho7; clear ho7 hg7 hvb7))
    rw [← HA.out]
    clear c4 RS hWa
    go_roundg (l.haves.length - (k + 1))
    case measure => omega
    case rel => exact ⟨k + 1, A5, c5, by omega, rfl, by first | rfl | exact congrArg (Value.int .i64) (by omega) | go_num, HRX⟩
  obtain rfl : k = l.haves.length := by omega
  clear hlt hk
  obtain ⟨A3, hA3_⟩ : ∃ x, x = A := ⟨_, rfl⟩
  obtain ⟨c3, hc3_⟩ : ∃ x, x = c := ⟨_, rfl⟩
  subst hA3_ hc3_
  have HALZ := HAL
  have HR3 := Lib.hid HAL.out.ab.r3
  have HR2 := Lib.hid HAL.out.ab.r2
  have HNE := Lib.hid HAL.out.ab.ne
  have HBL := Lib.hid HAL.out.ab.bel
  rw [asL_all] at HR3
  clear HAL
  obtain ⟨WZ, hWZ, HTZ, HRZ, HBZ, HOZ, HSZ⟩ := let_write (m := l) (q := ⟨A1, c1, A2, c2, A3, c3, p.dA, p.dc⟩) HR2.out rfl HLEN.out HBL.out HBL.out.size HNE.out.2.1
  have HWZ := Lib.hid hWZ
  have HILZ := Lib.hid (info_rleta l ⟨A1, c1, A2, c2, A3, c3, p.dA, p.dc⟩ HLEN.out)
  have HOLZ := Lib.hid (all_oneCell_toArray (l.cells_one ⟨A1, c1, A2, c2, A3, c3, p.dA, p.dc⟩))
  have hgz := setCells_grown g2 (l.cells ⟨A1, c1, A2, c2, A3, c3, p.dA, p.dc⟩).toArray.toList 0 wr
  rw [hWZ] at hgz
  have HOUT := Lib.hid (HALZ.out.out HIN.out hgz HBZ.out)
  clear hWZ hgz HALZ
  go_wp2_with (first
    | ((with_reducible (refine wpList_load_row_w _ _ rfl _ rfl _ _ _ _ HR3.out Try.underlying37 rfl HILZ.out ?_ ?_)); (focus (rfl)))
    | ((with_reducible (refine wpList_store_mid rfl _ _ _ rfl ?_ ?_ ?_ ?_ ?_ ?_ ?_ ?_ ?_)); (exact g2); (exact 0); (exact (l.cells ⟨A1, c1, A2, c2, A3, c3, p.dA, p.dc⟩).toArray); (exact rfl); (exact rfl); (exact HTZ.out); (exact HILZ.out); (exact HOLZ.out); rw [HWZ.out]))
  refine bodyPost_ret (results_row1 rfl _ _ _ _ _ _ _ rfl HRZ.out Try.underlying37 rfl HILZ.out) rfl ?_
  exact ⟨_, rfl, HOUT.out, HBZ.out⟩
end Go.Proofs.Ytfjfidhhmidflaa

/-! WireWrites: the walk. (Printed by wip/genWWr.py.) -/

namespace Go.Proofs.Ytfjfidhhmidflaa

set_option linter.unusedVariables false

set_option linter.unusedSimpArgs false

open Go.RowKit

def tot64 (l : Lt) : Prop := -9223372036854775808 ≤ l.total ∧ l.total ≤ 9223372036854775807
def off64 (l : Lt) : Prop := -9223372036854775808 ≤ l.off ∧ l.off ≤ 9223372036854775807
def reachL (l : Lt) : Prop := l.refs.length * 48 ≤ reachBytes ∧ l.wants.length * 32 ≤ reachBytes ∧ l.haves.length * 32 ≤ reachBytes
theorem as_b (l : Lt) (p : LtP) (w : World) (hin : LtIn w l p) (hr : reachL l) : Calls Try.prog 11 #[l.val p] w fun e w' => AsOut w w' e l := as_any l p w hin hr.1 hr.2.1 hr.2.2
theorem sameL_own (a : Lt) : sameL a a = true := (sameL_iff a a).2 rfl

set_option maxRecDepth 100000 in
set_option maxHeartbeats 8000000 in
theorem wireWrites_f (a b : Lt) (p q : LtP) (w : World) (ha : LtIn w a p) (hb : LtIn w b q) (hta : tot64 a) (hoa : off64 a) (hra : reachL a) (hrb : reachL b) (ra : rightL a = false) :
    Calls Try.prog 3 #[a.val p, b.val q] w fun e w' => e = .returned (.bool true) ∧ Below w.heap.size w w' := by
  obtain ⟨W1, W2, g, g', hg, hg', hW1, hW2, HGS, HRA, HRB, HB2⟩ := two_lets (w := w) 28 a b p q ha.len hb.len
  have HIA := Lib.hid (ha.below (hg ▸ HB2.out))
  have HIB := Lib.hid (hb.below (hg ▸ HB2.out))
  have HTA := Lib.hid hta
  have HOA := Lib.hid hoa
  have HRE := Lib.hid hra
  have HRF := Lib.hid hrb
  have HFA : Hid (∀ W, Below W2.heap.size W2 W → W.heap[g]? = some (.cells (a.cells p).toArray 28 (0, 0))) := Lib.hid (fun W h => (h.block g HGS.out.1).trans HRA.out)
  have HFB : Hid (∀ W, Below W2.heap.size W2 W → W.heap[g']? = some (.cells (b.cells q).toArray 28 (0, 0))) := Lib.hid (fun W h => (h.block g' HGS.out.2.1).trans HRB.out)
  have HBW : Hid (∀ W, Below W2.heap.size W2 W → Below g w W) := Lib.hid (fun W h => HB2.out.trans (h.mono HGS.out.2.2.2))
  have HIL := Lib.hid (info_leta a p ha.len)
  have HIM := Lib.hid (info_leta b q hb.len)
  have HILL := Lib.hid (info_let a p ha.len)
  have HIML := Lib.hid (info_let b q hb.len)
  have HR := Lib.hid ra
  unfold Lt.val
  rw [hg]
  clear ha hb hta hoa hra hrb ra
  go_enter Try.func3, Try.ntmps3
  go_wp2_with fail
  clear hg hg' hW1 hW2
  refine (alive_any W2).mono ?_
  rintro e w3 ⟨rfl, hb3⟩
  have HB3 := Lib.hid hb3
  have HR3 := Lib.hid (HFA.out _ hb3)
  have HIA3 := Lib.hid (HIA.out.below hb3)
  clear hb3
  go_wp2_with ((with_reducible (refine wpList_load_row_w _ _ rfl _ rfl _ _ _ _ HR3.out Try.underlying28 rfl HIL.out ?_ ?_)); (focus (rfl)))
  refine (write_bad a p w3 HIA3.out HTA.out HR.out).mono ?_
  rintro e w4 ⟨rfl, hb4⟩
  have HB34 := Lib.hid hb4
  have HB4 := Lib.hid (ext_trans HB3.out hb4)
  have HR4 := Lib.hid (HFA.out _ HB4.out)
  have HIA4 := Lib.hid (HIA.out.below HB4.out)
  clear hb4
  go_wp2_with ((with_reducible (refine wpList_load_row_w _ _ rfl _ rfl _ _ _ _ HR4.out Try.underlying28 rfl HIL.out ?_ ?_)); (focus (rfl)))
  refine (as_b a p w4 HIA4.out HRE.out).mono ?_
  rintro e w5 ⟨q5, rfl, hin5, hb5⟩
  have HB45 := Lib.hid hb5
  have HB5 := Lib.hid (ext_trans HB4.out hb5)
  have HI5 := Lib.hid hin5
  clear hb5 hin5
  go_wp2_with fail
  refine (rright_any a q5 w5 HI5.out HOA.out).mono ?_
  rintro e w6 ⟨rfl, hb6⟩
  rw [HR.out]
  have HB46 := Lib.hid (ext_trans HB45.out hb6)
  have HB6 := Lib.hid (ext_trans HB5.out hb6)
  clear hb6
  go_wp2_with fail
  refine wp_region_sched (fun w' => Below W2.heap.size W2 w') [(true, 0), (true, 2), (false, 1), (true, 3), (true, 4), (true, 5), (true, 6), (true, 8), (true, 10), (false, 7), (false, 9), (false, 11), (false, 12), (true, 13), (true, 14)] (by kernel_rfl) (by kernel_rfl) rfl (by kernel_rfl) HB6.out.drew ?_
  refine wpS_load _ rfl (by rfl) _ _ rfl _ _ rfl (a.cells p) _ (fun w' hS' => range_of_row (HFA.out w' hS')) Try.underlying28 rfl HILL.out ?_
  simp only [Act.put, List.getElem_toArray, List.getElem_cons_zero, List.getElem_cons_succ, List.setIfInBounds_toArray, List.set_cons_zero, List.set_cons_succ]
  (repeat (first | (refine wpS_pass _ rfl (by rfl) ?_; simp only [Act.put, List.getElem_toArray, List.getElem_cons_zero, List.getElem_cons_succ, List.setIfInBounds_toArray, List.set_cons_zero, List.set_cons_succ]) | (refine wpS_take _ ?_ rfl (by rfl) ?_ ?_; rotate_left; (focus (intro w' hS'; (try dsimp only at hS'); (repeat (have hS1 := hS'.1; replace hS' := hS'.2)); go_simp; (try with_reducible rfl); done)); simp only [Act.put, List.getElem_toArray, List.getElem_cons_zero, List.getElem_cons_succ, List.setIfInBounds_toArray, List.set_cons_zero, List.set_cons_succ])))
  refine wpS_do _ rfl (by rfl) (fun K hK => ?_)
  go_simp
  refine (lright_any a p w6.drew (HIA.out.below HB6.out.drew) HTA.out).mono ?_
  rintro e w7 ⟨rfl, hb7⟩
  rw [HR.out]
  have HB47 := Lib.hid (ext_trans HB46.out.drew hb7)
  have HB7 := Lib.hid (ext_trans HB6.out.drew hb7)
  clear hb7
  refine hK.out _ _ HB7.out (fun hS => ?_)
  clear hK hS
  (repeat (first | (refine wpS_pass _ rfl (by rfl) ?_; simp only [Act.put, List.getElem_toArray, List.getElem_cons_zero, List.getElem_cons_succ, List.setIfInBounds_toArray, List.set_cons_zero, List.set_cons_succ]) | (refine wpS_take _ ?_ rfl (by rfl) ?_ ?_; rotate_left; (focus (intro w' hS'; (try dsimp only at hS'); (repeat (have hS1 := hS'.1; replace hS' := hS'.2)); go_simp; (try with_reducible rfl); done)); simp only [Act.put, List.getElem_toArray, List.getElem_cons_zero, List.getElem_cons_succ, List.setIfInBounds_toArray, List.set_cons_zero, List.set_cons_succ])))
  refine wpS_load _ rfl (by rfl) _ _ rfl _ _ rfl (a.cells p) _ (fun w' hS' => range_of_row (HFA.out w' hS')) Try.underlying28 rfl HILL.out ?_
  simp only [Act.put, List.getElem_toArray, List.getElem_cons_zero, List.getElem_cons_succ, List.setIfInBounds_toArray, List.set_cons_zero, List.set_cons_succ]
  refine wpS_load _ rfl (by rfl) _ _ rfl _ _ rfl (b.cells q) _ (fun w' hS' => range_of_row (HFB.out w' hS')) Try.underlying28 rfl HIML.out ?_
  simp only [Act.put, List.getElem_toArray, List.getElem_cons_zero, List.getElem_cons_succ, List.setIfInBounds_toArray, List.set_cons_zero, List.set_cons_succ]
  refine wpS_load _ rfl (by rfl) _ _ rfl _ _ rfl (a.cells p) _ (fun w' hS' => range_of_row (HFA.out w' hS')) Try.underlying28 rfl HILL.out ?_
  simp only [Act.put, List.getElem_toArray, List.getElem_cons_zero, List.getElem_cons_succ, List.setIfInBounds_toArray, List.set_cons_zero, List.set_cons_succ]
  refine wpS_load _ rfl (by rfl) _ _ rfl _ _ rfl (b.cells q) _ (fun w' hS' => range_of_row (HFB.out w' hS')) Try.underlying28 rfl HIML.out ?_
  simp only [Act.put, List.getElem_toArray, List.getElem_cons_zero, List.getElem_cons_succ, List.setIfInBounds_toArray, List.set_cons_zero, List.set_cons_succ]
  refine wpS_do _ rfl (by rfl) (fun K hK => ?_)
  go_simp
  refine (lsame_any a b p q w7 (HIA.out.below HB7.out) (HIB.out.below HB7.out)).mono ?_
  rintro e w8 ⟨rfl, hb8⟩
  have HB48 := Lib.hid (ext_trans HB47.out hb8)
  have HB8 := Lib.hid (ext_trans HB7.out hb8)
  clear hb8
  obtain ⟨V, hV⟩ : ∃ V, sameL a b = V := ⟨_, rfl⟩
  rw [hV]
  have HV := Lib.hid hV
  clear hV
  refine hK.out _ _ HB8.out (fun hS => ?_)
  clear hK hS
  refine wpS_do _ rfl (by rfl) (fun K hK => ?_)
  go_simp
  refine (as_b a p w8 (HIA.out.below HB8.out) HRE.out).mono ?_
  rintro e w9 ⟨q9, rfl, hin9, hb9⟩
  have HI9 := Lib.hid hin9
  have HB49 := Lib.hid (ext_trans HB48.out hb9)
  have HB9 := Lib.hid (ext_trans HB8.out hb9)
  clear hb9 hin9
  refine hK.out _ _ HB9.out (fun hS => ?_)
  clear hK hS
  refine wpS_do _ rfl (by rfl) (fun K hK => ?_)
  go_simp
  refine (as_b b q w9 (HIB.out.below HB9.out) HRF.out).mono ?_
  rintro e w10 ⟨q10, rfl, hin10, hb10⟩
  have HI10 := Lib.hid hin10
  have HI9' := Lib.hid (HI9.out.below hb10)
  have HB410 := Lib.hid (ext_trans HB49.out hb10)
  have HB10 := Lib.hid (ext_trans HB9.out hb10)
  clear hb10 hin10
  refine hK.out _ _ HB10.out (fun hS => ?_)
  clear hK hS
  refine wpS_do _ rfl (by rfl) (fun K hK => ?_)
  go_simp
  refine (rlsame_any a b q9 q10 w10 HI9'.out HI10.out).mono ?_
  rintro e w11 ⟨rfl, hb11⟩
  rw [HV.out]
  have HB411 := Lib.hid (ext_trans HB410.out hb11)
  have HB11 := Lib.hid (ext_trans HB10.out hb11)
  clear hb11
  refine hK.out _ _ HB11.out (fun hS => ?_)
  clear hK hS HV
  have hz : (V != V) = false := by cases V <;> rfl
  (repeat (first | (refine wpS_pass _ rfl (by rfl) ?_; simp only [Act.put, List.getElem_toArray, List.getElem_cons_zero, List.getElem_cons_succ, List.setIfInBounds_toArray, List.set_cons_zero, List.set_cons_succ]) | (refine wpS_take _ ?_ rfl (by rfl) ?_ ?_; rotate_left; (focus (intro w' hS'; (try dsimp only at hS'); (repeat (have hS1 := hS'.1; replace hS' := hS'.2)); go_simp; (try with_reducible rfl); done)); simp only [Act.put, List.getElem_toArray, List.getElem_cons_zero, List.getElem_cons_succ, List.setIfInBounds_toArray, List.set_cons_zero, List.set_cons_succ])))
  refine wpS_done ?_
  go_wp2_with fail
  go_ret
  exact ⟨rfl, HBW.out _ HB11.out⟩

set_option maxRecDepth 100000 in
set_option maxHeartbeats 8000000 in
theorem wireWrites_t (a b : Lt) (p q : LtP) (w : World) (ha : LtIn w a p) (hb : LtIn w b q) (hta : tot64 a) (hoa : off64 a) (hra : reachL a) (hrb : reachL b) (ra : rightL a = true) :
    Calls Try.prog 3 #[a.val p, b.val q] w fun e w' => e = .returned (.bool true) ∧ Below w.heap.size w w' := by
  obtain ⟨W1, W2, g, g', hg, hg', hW1, hW2, HGS, HRA, HRB, HB2⟩ := two_lets (w := w) 28 a b p q ha.len hb.len
  have HIA := Lib.hid (ha.below (hg ▸ HB2.out))
  have HIB := Lib.hid (hb.below (hg ▸ HB2.out))
  have HTA := Lib.hid hta
  have HOA := Lib.hid hoa
  have HRE := Lib.hid hra
  have HRF := Lib.hid hrb
  have HFA : Hid (∀ W, Below W2.heap.size W2 W → W.heap[g]? = some (.cells (a.cells p).toArray 28 (0, 0))) := Lib.hid (fun W h => (h.block g HGS.out.1).trans HRA.out)
  have HFB : Hid (∀ W, Below W2.heap.size W2 W → W.heap[g']? = some (.cells (b.cells q).toArray 28 (0, 0))) := Lib.hid (fun W h => (h.block g' HGS.out.2.1).trans HRB.out)
  have HBW : Hid (∀ W, Below W2.heap.size W2 W → Below g w W) := Lib.hid (fun W h => HB2.out.trans (h.mono HGS.out.2.2.2))
  have HIL := Lib.hid (info_leta a p ha.len)
  have HIM := Lib.hid (info_leta b q hb.len)
  have HILL := Lib.hid (info_let a p ha.len)
  have HIML := Lib.hid (info_let b q hb.len)
  have HR := Lib.hid ra
  unfold Lt.val
  rw [hg]
  clear ha hb hta hoa hra hrb ra
  go_enter Try.func3, Try.ntmps3
  go_wp2_with fail
  clear hg hg' hW1 hW2
  refine (alive_any W2).mono ?_
  rintro e w3 ⟨rfl, hb3⟩
  have HB3 := Lib.hid hb3
  have HR3 := Lib.hid (HFA.out _ hb3)
  have HIA3 := Lib.hid (HIA.out.below hb3)
  clear hb3
  go_wp2_with ((with_reducible (refine wpList_load_row_w _ _ rfl _ rfl _ _ _ _ HR3.out Try.underlying28 rfl HIL.out ?_ ?_)); (focus (rfl)))
  refine (write_ok a p w3 HIA3.out HTA.out HR.out).mono ?_
  rintro e w4 ⟨v4, rfl, hs4, hb4⟩
  have HS4 := Lib.hid hs4
  clear hs4
  have HB34 := Lib.hid hb4
  have HB4 := Lib.hid (ext_trans HB3.out hb4)
  have HR4 := Lib.hid (HFA.out _ HB4.out)
  have HIA4 := Lib.hid (HIA.out.below HB4.out)
  clear hb4
  go_wp2_with ((with_reducible (refine wpList_load_row_w _ _ rfl _ rfl _ _ _ _ HR4.out Try.underlying28 rfl HIL.out ?_ ?_)); (focus (rfl)))
  refine (as_b a p w4 HIA4.out HRE.out).mono ?_
  rintro e w5 ⟨q5, rfl, hin5, hb5⟩
  have HB45 := Lib.hid hb5
  have HB5 := Lib.hid (ext_trans HB4.out hb5)
  have HI5 := Lib.hid hin5
  clear hb5 hin5
  go_wp2_with fail
  refine (rright_any a q5 w5 HI5.out HOA.out).mono ?_
  rintro e w6 ⟨rfl, hb6⟩
  rw [HR.out]
  have HB46 := Lib.hid (ext_trans HB45.out hb6)
  have HB6 := Lib.hid (ext_trans HB5.out hb6)
  clear hb6
  go_wp2_with fail
  refine wp_region_sched (fun w' => Below W2.heap.size W2 w') [(true, 0), (true, 2), (false, 1), (true, 3), (true, 4), (true, 5), (true, 6), (true, 8), (true, 10), (false, 7), (false, 9), (false, 11), (false, 12), (true, 13), (true, 14)] (by kernel_rfl) (by kernel_rfl) rfl (by kernel_rfl) HB6.out.drew ?_
  refine wpS_load _ rfl (by rfl) _ _ rfl _ _ rfl (a.cells p) _ (fun w' hS' => range_of_row (HFA.out w' hS')) Try.underlying28 rfl HILL.out ?_
  simp only [Act.put, List.getElem_toArray, List.getElem_cons_zero, List.getElem_cons_succ, List.setIfInBounds_toArray, List.set_cons_zero, List.set_cons_succ]
  (repeat (first | (refine wpS_pass _ rfl (by rfl) ?_; simp only [Act.put, List.getElem_toArray, List.getElem_cons_zero, List.getElem_cons_succ, List.setIfInBounds_toArray, List.set_cons_zero, List.set_cons_succ]) | (refine wpS_take _ ?_ rfl (by rfl) ?_ ?_; rotate_left; (focus (intro w' hS'; (try dsimp only at hS'); (repeat (have hS1 := hS'.1; replace hS' := hS'.2)); go_simp; (try with_reducible rfl); done)); simp only [Act.put, List.getElem_toArray, List.getElem_cons_zero, List.getElem_cons_succ, List.setIfInBounds_toArray, List.set_cons_zero, List.set_cons_succ])))
  refine wpS_do _ rfl (by rfl) (fun K hK => ?_)
  go_simp
  refine (lright_any a p w6.drew (HIA.out.below HB6.out.drew) HTA.out).mono ?_
  rintro e w7 ⟨rfl, hb7⟩
  rw [HR.out]
  have HB47 := Lib.hid (ext_trans HB46.out.drew hb7)
  have HB7 := Lib.hid (ext_trans HB6.out.drew hb7)
  clear hb7
  refine hK.out _ _ HB7.out (fun hS => ?_)
  clear hK hS
  (repeat (first | (refine wpS_pass _ rfl (by rfl) ?_; simp only [Act.put, List.getElem_toArray, List.getElem_cons_zero, List.getElem_cons_succ, List.setIfInBounds_toArray, List.set_cons_zero, List.set_cons_succ]) | (refine wpS_take _ ?_ rfl (by rfl) ?_ ?_; rotate_left; (focus (intro w' hS'; (try dsimp only at hS'); (repeat (have hS1 := hS'.1; replace hS' := hS'.2)); go_simp; (try with_reducible rfl); done)); simp only [Act.put, List.getElem_toArray, List.getElem_cons_zero, List.getElem_cons_succ, List.setIfInBounds_toArray, List.set_cons_zero, List.set_cons_succ])))
  refine wpS_load _ rfl (by rfl) _ _ rfl _ _ rfl (a.cells p) _ (fun w' hS' => range_of_row (HFA.out w' hS')) Try.underlying28 rfl HILL.out ?_
  simp only [Act.put, List.getElem_toArray, List.getElem_cons_zero, List.getElem_cons_succ, List.setIfInBounds_toArray, List.set_cons_zero, List.set_cons_succ]
  refine wpS_load _ rfl (by rfl) _ _ rfl _ _ rfl (b.cells q) _ (fun w' hS' => range_of_row (HFB.out w' hS')) Try.underlying28 rfl HIML.out ?_
  simp only [Act.put, List.getElem_toArray, List.getElem_cons_zero, List.getElem_cons_succ, List.setIfInBounds_toArray, List.set_cons_zero, List.set_cons_succ]
  refine wpS_load _ rfl (by rfl) _ _ rfl _ _ rfl (a.cells p) _ (fun w' hS' => range_of_row (HFA.out w' hS')) Try.underlying28 rfl HILL.out ?_
  simp only [Act.put, List.getElem_toArray, List.getElem_cons_zero, List.getElem_cons_succ, List.setIfInBounds_toArray, List.set_cons_zero, List.set_cons_succ]
  refine wpS_load _ rfl (by rfl) _ _ rfl _ _ rfl (b.cells q) _ (fun w' hS' => range_of_row (HFB.out w' hS')) Try.underlying28 rfl HIML.out ?_
  simp only [Act.put, List.getElem_toArray, List.getElem_cons_zero, List.getElem_cons_succ, List.setIfInBounds_toArray, List.set_cons_zero, List.set_cons_succ]
  refine wpS_do _ rfl (by rfl) (fun K hK => ?_)
  go_simp
  refine (lsame_any a b p q w7 (HIA.out.below HB7.out) (HIB.out.below HB7.out)).mono ?_
  rintro e w8 ⟨rfl, hb8⟩
  have HB48 := Lib.hid (ext_trans HB47.out hb8)
  have HB8 := Lib.hid (ext_trans HB7.out hb8)
  clear hb8
  obtain ⟨V, hV⟩ : ∃ V, sameL a b = V := ⟨_, rfl⟩
  rw [hV]
  have HV := Lib.hid hV
  clear hV
  refine hK.out _ _ HB8.out (fun hS => ?_)
  clear hK hS
  refine wpS_do _ rfl (by rfl) (fun K hK => ?_)
  go_simp
  refine (as_b a p w8 (HIA.out.below HB8.out) HRE.out).mono ?_
  rintro e w9 ⟨q9, rfl, hin9, hb9⟩
  have HI9 := Lib.hid hin9
  have HB49 := Lib.hid (ext_trans HB48.out hb9)
  have HB9 := Lib.hid (ext_trans HB8.out hb9)
  clear hb9 hin9
  refine hK.out _ _ HB9.out (fun hS => ?_)
  clear hK hS
  refine wpS_do _ rfl (by rfl) (fun K hK => ?_)
  go_simp
  refine (as_b b q w9 (HIB.out.below HB9.out) HRF.out).mono ?_
  rintro e w10 ⟨q10, rfl, hin10, hb10⟩
  have HI10 := Lib.hid hin10
  have HI9' := Lib.hid (HI9.out.below hb10)
  have HB410 := Lib.hid (ext_trans HB49.out hb10)
  have HB10 := Lib.hid (ext_trans HB9.out hb10)
  clear hb10 hin10
  refine hK.out _ _ HB10.out (fun hS => ?_)
  clear hK hS
  refine wpS_do _ rfl (by rfl) (fun K hK => ?_)
  go_simp
  refine (rlsame_any a b q9 q10 w10 HI9'.out HI10.out).mono ?_
  rintro e w11 ⟨rfl, hb11⟩
  rw [HV.out]
  have HB411 := Lib.hid (ext_trans HB410.out hb11)
  have HB11 := Lib.hid (ext_trans HB10.out hb11)
  clear hb11
  refine hK.out _ _ HB11.out (fun hS => ?_)
  clear hK hS HV
  have hz : (V != V) = false := by cases V <;> rfl
  (repeat (first | (refine wpS_pass _ rfl (by rfl) ?_; simp only [Act.put, List.getElem_toArray, List.getElem_cons_zero, List.getElem_cons_succ, List.setIfInBounds_toArray, List.set_cons_zero, List.set_cons_succ]) | (refine wpS_take _ ?_ rfl (by rfl) ?_ ?_; rotate_left; (focus (intro w' hS'; (try dsimp only at hS'); (repeat (have hS1 := hS'.1; replace hS' := hS'.2)); go_simp; (try with_reducible rfl); done)); simp only [Act.put, List.getElem_toArray, List.getElem_cons_zero, List.getElem_cons_succ, List.setIfInBounds_toArray, List.set_cons_zero, List.set_cons_succ])))
  refine wpS_done ?_
  go_wp2_with fail
  have HS11 := Lib.hid (HS4.out.below HB411.out)
  have HRD := Lib.hid (read_s v4 _ w11 HS11.out)
  rw [read_write a HR.out HIA.out.lok] at HRD
  refine HRD.out.mono ?_
  rintro e w12 ⟨q12, rfl, hin12, hb12⟩
  obtain ⟨WX, hWX⟩ : ∃ W, w12.alloc (.cells #[Value.int .i64 0, Value.int .i64 0, Value.int .i64 0, Value.int .i64 0, Value.slice none 0 0, Value.slice none 0 0, Value.slice none 0 0, Value.int .i64 0, Value.int .i64 0, Value.int .u8 0, Value.int .u8 0, Value.int .u8 0, Value.int .u8 0, Value.int .u8 0, Value.int .u8 0, Value.int .u8 0, Value.int .u8 0, Value.int .u8 0, Value.int .u8 0, Value.int .u8 0, Value.int .u8 0, Value.int .u8 0, Value.int .u8 0, Value.int .u8 0, Value.int .u8 0, Value.int .u8 0, Value.int .u8 0, Value.int .u8 0, Value.int .u8 0, Value.int .u8 0, Value.int .u8 0, Value.int .u8 0, Value.int .u8 0, Value.int .u8 0, Value.int .u8 0, Value.int .u8 0, Value.int .u8 0, Value.int .u8 0, Value.int .u8 0, Value.int .u8 0, Value.int .u8 0, Value.slice none 0 0] 28) = W := ⟨_, rfl⟩
  obtain ⟨qx, bx, sx⟩ := new_row hWX
  rw [← lt0_cells] at qx
  obtain ⟨gx, hgx⟩ : ∃ g, w12.heap.size = g := ⟨_, rfl⟩
  rw [hgx] at qx
  obtain ⟨WY, hWY, HTHx, HRx, HBx, _, _⟩ := let_write (q := q12) (m := a) qx rfl HIA.out.len bx bx.size (Nat.le_of_eq hgx)
  have HWY := Lib.hid hWY
  have HBY : Hid (Below w12.heap.size w12 WY) := HBx
  have HILx := Lib.hid (info_leta a q12 HIA.out.len)
  have HOLx := Lib.hid (all_oneCell_toArray (a.cells_one q12))
  have HBWY := Lib.hid (ext_trans HB11.out (ext_trans hb12 HBY.out))
  have HRg := Lib.hid (HFA.out _ HBWY.out)
  have HINx := Lib.hid (hin12.below HBY.out)
  have HIAy := Lib.hid (HIA.out.below HBWY.out)
  have HSY := Lib.hid (HS11.out.below (ext_trans hb12 HBY.out))
  clear qx bx sx hWY HBx hin12 hb12 HRD
  go_wp2_with (first
    | ((with_reducible (refine wpList_store_mid rfl _ _ _ rfl ?_ ?_ ?_ ?_ ?_ ?_ ?_ ?_ ?_)); (exact gx); (exact 0); (exact (a.cells q12).toArray); (exact rfl); (exact rfl); (exact HTHx.out); (exact HILx.out); (exact HOLx.out); rw [HWY.out])
    | ((with_reducible (refine wpList_load_row_w _ _ rfl _ rfl _ _ _ _ HRg.out Try.underlying28 rfl HIL.out ?_ ?_)); (focus (rfl))))
  clear hWX hgx
  refine (as_b a p WY HIAy.out HRE.out).mono ?_
  rintro e w14 ⟨q14, rfl, hin14, hb14⟩
  have HI14 := Lib.hid hin14
  have HB14 := Lib.hid hb14
  clear hin14 hb14
  go_wp2_with fail
  refine (rwrite_ok a q14 w14 HI14.out HR.out).mono ?_
  rintro e w15 ⟨v15, rfl, hs15, hb15⟩
  have HS15 := Lib.hid hs15
  have HBY15 := Lib.hid (ext_trans HB14.out hb15)
  clear hs15 hb15
  go_wp2_with fail
  refine (same_s v4 v15 (writeB a) (writeB a) w15 (HSY.out.below HBY15.out) HS15.out).mono ?_
  rintro e w16 ⟨rfl, hb16⟩
  rw [show decide (writeB a = writeB a) = true from decide_eq_true rfl]
  have HBY16 := Lib.hid (ext_trans HBY15.out hb16)
  clear hb16
  have HBW16 := Lib.hid (ext_trans HBWY.out HBY16.out)
  have HRg16 := Lib.hid (HFA.out _ HBW16.out)
  have HRx16 := Lib.hid ((HBY16.out.block _ (Array.getElem?_eq_some_iff.1 HRx.out).1).trans HRx.out)
  have HINx16 := Lib.hid (HINx.out.below HBY16.out)
  have HIA16 := Lib.hid (HIA.out.below HBW16.out)
  go_wp2_with (first
    | ((with_reducible (refine wpList_load_row_w _ _ rfl _ rfl _ _ _ _ HRx16.out Try.underlying28 rfl HILx.out ?_ ?_)); (focus (rfl)))
    | ((with_reducible (refine wpList_load_row_w _ _ rfl _ rfl _ _ _ _ HRg16.out Try.underlying28 rfl HIL.out ?_ ?_)); (focus (rfl))))
  refine (lsame_any a a q12 p w16 HINx16.out HIA16.out).mono ?_
  rintro e w17 ⟨rfl, hb17⟩
  rw [sameL_own]
  go_wp2_with fail
  go_ret
  exact ⟨rfl, HBW.out _ (ext_trans HBW16.out hb17)⟩

theorem wireWrites_any (a b : Lt) (p q : LtP) (w : World) (ha : LtIn w a p) (hb : LtIn w b q) (hta : tot64 a) (hoa : off64 a) (hra : reachL a) (hrb : reachL b) :
    Calls Try.prog 3 #[a.val p, b.val q] w fun e w' => e = .returned (.bool true) ∧ Below w.heap.size w w' := by
  cases r : rightL a
  · exact wireWrites_f a b p q w ha hb hta hoa hra hrb r
  · exact wireWrites_t a b p q w ha hb hta hoa hra hrb r
end Go.Proofs.Ytfjfidhhmidflaa

/-! WireWrites: for every input the law returns true, and what came in reads as it did. -/

namespace Go.Proofs.Ytfjfidhhmidflaa

open Go.ChangeShapes Go.WideShapes Go.ChangeAt Go.RowKit

open Go.ChangeMaps (open_string shut_string)

set_option linter.unusedVariables false

set_option maxRecDepth 100000 in
theorem wireWrites_owed (H : Type) (enc : TypeId × Value → H) : WalkOwed H enc 3 Try.f3 (fun _ => True) := by
  intro W base args ds ps hval hA hre _
  rw [Try.params3] at hA hval hre
  obtain ⟨v0, vs0, d0, ds0, p0, q0, hargs, rfl, rfl, h0, r0⟩ := trodAll_cons hA
  obtain ⟨v1, vs1, d1, ds1, p1, q1, rfl, rfl, rfl, h1, r1⟩ := trodAll_cons r0
  obtain ⟨rfl, rfl, rfl⟩ := trodAll_nil r1
  obtain rfl : args = #[v0, v1] := by cases args; simp_all
  obtain ⟨a, q0_, oi0, rfl, tot0, off0⟩ := open_let (hval 0 28 v0 rfl rfl) h0
  obtain ⟨b, q1_, oi1, rfl, tot1, off1⟩ := open_let (hval 1 28 v1 rfl rfl) h1
  have re0 := let_reach h0 (fun k hk => by simpa using List.all_eq_true.1 hre _ (DataW.weights_mem_each (j := 0) rfl rfl k hk))
  have re1 := let_reach h1 (fun k hk => by simpa using List.all_eq_true.1 hre _ (DataW.weights_mem_each (j := 1) rfl rfl k hk))
  exact wireWrites_any a b q0_ q1_ W oi0 oi1 tot0 off0 re0 re1

set_option maxRecDepth 100000 in
theorem wireWrites_over : Rows.wireWritesRow.holds Try.pinned (OpenSpec.ofChange Rows.wireWritesSpec) :=
  OpenClaim.holds_of_wide 3 Try.f3 rfl rfl rfl rfl rfl rfl rfl ⟨rfl, rfl, rfl, rfl, rfl⟩ rfl rfl rfl rfl rfl (by kernel_rfl) Try.func3 (by kernel_rfl)
    (of_decide_eq_true (by kernel_rfl)) (by unfold Func.isWrapper; first | (rw [if_pos (by decide +kernel)]; kernel_rfl) | (rw [if_neg (by decide +kernel)]; exact ⟨rfl, rfl⟩))
    (fun os started H enc _ => law_lifted (f := 3) (fn := Try.f3) (s := Rows.wireWritesSpec) (bt := 4) started (by kernel_rfl) Try.func3
      (ChangeSpec.witness6 (enc := enc) (C := Try.checked) false ⟨#[], #[.agg #[.int .i64 0, .int .i64 0, .int .i64 0, .int .i64 0, .slice none 0 0, .slice none 0 0, .slice none 0 0, .int .i64 0, .int .i64 0, .int .u8 0, .int .u8 0, .int .u8 0, .int .u8 0, .int .u8 0, .int .u8 0, .int .u8 0, .int .u8 0, .int .u8 0, .int .u8 0, .int .u8 0, .int .u8 0, .int .u8 0, .int .u8 0, .int .u8 0, .int .u8 0, .int .u8 0, .int .u8 0, .int .u8 0, .int .u8 0, .int .u8 0, .int .u8 0, .int .u8 0, .int .u8 0, .int .u8 0, .int .u8 0, .int .u8 0, .int .u8 0, .int .u8 0, .int .u8 0, .int .u8 0, .int .u8 0, .slice none 0 0], .agg #[.int .i64 0, .int .i64 0, .int .i64 0, .int .i64 0, .slice none 0 0, .slice none 0 0, .slice none 0 0, .int .i64 0, .int .i64 0, .int .u8 0, .int .u8 0, .int .u8 0, .int .u8 0, .int .u8 0, .int .u8 0, .int .u8 0, .int .u8 0, .int .u8 0, .int .u8 0, .int .u8 0, .int .u8 0, .int .u8 0, .int .u8 0, .int .u8 0, .int .u8 0, .int .u8 0, .int .u8 0, .int .u8 0, .int .u8 0, .int .u8 0, .int .u8 0, .int .u8 0, .int .u8 0, .int .u8 0, .int .u8 0, .int .u8 0, .int .u8 0, .int .u8 0, .int .u8 0, .int .u8 0, .int .u8 0, .slice none 0 0]], []⟩ 8 (by kernel_rfl) (by kernel_rfl) (by kernel_rfl) (by kernel_rfl))
      rfl Try.underlying4 rfl (by rw [Try.params3]; intro t ht; simp only [List.mem_cons, List.not_mem_nil, or_false] at ht; rcases ht with rfl | rfl <;> exact ⟨by kernel_rfl, of_decide_eq_true (by kernel_rfl)⟩)
      (by intro ds hd; match ds, hd with | [d0, d1], _ => rfl) (wireWrites_owed H enc))

/-- the statement -/
theorem wireWrites_holds : Rows.WireWritesSaid := wireWrites_over
end Go.Proofs.Ytfjfidhhmidflaa
