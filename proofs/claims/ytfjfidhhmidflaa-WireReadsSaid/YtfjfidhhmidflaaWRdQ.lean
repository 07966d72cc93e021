
/- WireReads: for every input the law returns true, and what came in reads as it did. (With the texts that it stands on.) -/

import Derived.Test.YtfjfidhhmidflaaRows

import Derived.Test.YtfjfidhhmidflaaBase

import Derived.ProofKit

import Derived.OpenShut

import Derived.ShutString

import Derived.ChangeOld

import Derived.SizedLaws

import Derived.SliceStrings

import Derived.JoinedCond

import Derived.Deep.CondSized

import Derived.Test.YtfjfidhhmidflaaLet21

import Derived.Test.YtfjfidhhmidflaaInV

import Derived.Test.YtfjfidhhmidflaaLet15

import Derived.Test.YtfjfidhhmidflaaLet11

import Derived.Test.YtfjfidhhmidflaaLet11b

import Derived.Test.YtfjfidhhmidflaaLet11c

import Derived.Test.YtfjfidhhmidflaaLet16

import Derived.Test.YtfjfidhhmidflaaLet8

import Derived.Test.YtfjfidhhmidflaaLet10

/-! The frame of every law's row: what the walk owes, for the first form and for the second. No condition of its own. -/

namespace Go.Proofs.Ytfjfidhhmidflaa

open Go.ChangeShapes Go.WideShapes Go.ChangeAt Go.RowKit

open Go.ChangeMaps (open_string shut_string)

theorem own : ownKnob Try.prog.godebug = none := by kernel_rfl
theorem laidOut : laidOutB Try.prog = true := by kernel_rfl

theorem trodAll_below {H : Type} {enc : TypeId × Value → H} {P : Program} {W W' : World} (hl : laidOutB P = true) (hb : Below W.heap.size W W') :
    ∀ {ts : List TypeId} {vs : List Value} {ds : List (DataW H)} {ps : List MemPlace}, (∀ t ∈ ts, P.readableRec t = true ∧ t < P.types.size) →
      DataW.TrodAll enc P W 0 (fun _ => true) true ts vs ds ps → (∀ x ∈ ps, x.block < W.heap.size) → DataW.TrodAll enc P W' 0 (fun b => decide (b < W.heap.size)) true ts vs ds ps
  | [], vs, ds, ps, _, h, _ => by
    obtain ⟨rfl, rfl, rfl⟩ := trodAll_nil h
    exact trodAll_mk0
  | t :: ts, vs, ds, ps, ht, h, hlt => by
    obtain ⟨v, vs', d, ds', p, p', rfl, rfl, rfl, h0, h1⟩ := trodAll_cons h
    have h0' := Below.trod hl (ht t (by simp)).1 (ht t (by simp)).2 h0 hb (fun x hx => hlt x (by simp [hx]))
    exact trodAll_cons_mk h0' (trodAll_below hl hb (fun t' h' => ht t' (by simp [h'])) h1 (fun x hx => hlt x (by simp [hx])))

theorem trodAll_len {H : Type} {enc : TypeId × Value → H} {P : Program} {W : World} {ts : List TypeId} {vs : List Value} {ds : List (DataW H)} {ps : List MemPlace} {base : Nat} {sp : Nat → Bool} {hd : Bool}
    (h : DataW.TrodAll enc P W base sp hd ts vs ds ps) : ds.length = ts.length := by
  induction ts generalizing vs ds ps with
  | nil => obtain ⟨rfl, rfl, rfl⟩ := trodAll_nil h; rfl
  | cons t ts ih =>
    obtain ⟨v, vs', d, ds', p, p', rfl, rfl, rfl, h0, h1⟩ := trodAll_cons h
    simp [ih h1]

/-- WHAT A LAW's WALK OWES: called with whatever reads as data it returns true and writes nothing that was there -/
def WalkOwed (H : Type) (enc : TypeId × Value → H) (f : FuncId) (fn : Func) (k : List (DataW H) → Prop) : Prop :=
  ∀ (W : World) (base : Nat) (args : Array Value) (ds : List (DataW H)) (ps : List MemPlace),
    (∀ (j : Nat) t v, fn.params[j]? = some t → args[j]? = some v → Value.okWide Try.prog W .any base t v) →
    DataW.TrodAll enc Try.prog W 0 (fun _ => true) true fn.params.toList args.toList ds ps →
    (DataW.weightsEach Try.prog fn.params.toList ds).all (· ≤ reachBytes) = true → k ds →
    Calls Try.prog f args W fun e W' => e = .returned (.bool true) ∧ Below W.heap.size W W'

set_option maxRecDepth 100000 in
theorem law_contract {H : Type} {enc : TypeId × Value → H} {f : FuncId} {fn : Func} {s : ChangeSpec} {bt : TypeId} {k : List (DataW H) → Prop}
    (hvars : s.vars = []) (hbt : Try.prog.underlying bt = some .bool) (hres : fn.resultTypes = #[bt])
    (hread : ∀ t ∈ fn.params.toList, Try.prog.readableRec t = true ∧ t < Try.prog.types.size)
    (hs : ∀ ds : List (DataW H), ds.length = fn.params.toList.length → s.fn H (ds ++ []) = { results := [.lit (.bool true)], args := ds })
    (walk : WalkOwed H enc f fn k)
    (W : World) (base : Nat) (args : Array Value) (ds gs : List (DataW H)) (before : List MemPlace)
    (hval : ∀ (j : Nat) t v, fn.params[j]? = some t → args[j]? = some v → Value.okWide Try.prog W .any base t v)
    (hW : DataW.Whole enc Try.prog fn.params.toList s.vars false W args.toList ds gs before)
    (hreach : (DataW.weightsEach Try.prog (fn.params.toList ++ s.plain.varTypes Try.prog) (ds ++ gs)).all (· ≤ reachBytes) = true) (hk : k ds) :
    Calls Try.prog f args W fun e W' => ∃ v, e = .returned v ∧ s.post enc Try.prog fn false true false false W args v W' := by
  have hW' := hW
  have hlt : ∀ p ∈ before, p.block < W.heap.size := fun p hp => hW.lt p hp
  obtain ⟨p, q, hA, hV, rfl, hfz, hnd⟩ := hW
  rw [hvars] at hV
  obtain ⟨rfl, rfl⟩ := trodVars_none hV
  have hlen := trodAll_len hA
  have hre : (DataW.weightsEach Try.prog fn.params.toList ds).all (· ≤ reachBytes) = true := by
    have hvt : s.plain.varTypes Try.prog = [] := by
      unfold ChangeSpec.plain DataSpec.varTypes
      simp [hvars]
    rw [hvt, List.append_nil, List.append_nil] at hreach
    exact hreach
  refine (walk W base args ds p hval hA hre hk).mono fun e W' ⟨he, bel⟩ => ?_
  subst he
  have hsp := hs ds hlen
  refine ⟨_, rfl, ds, [], p ++ [], [], p, [], hW', ?_, ?_, ?_, bel.frame _, fun h => by cases h⟩
  · rw [hsp, hres]
    exact trodAll_mk1 (shut_bool hbt _)
  · rw [hsp]
    exact trodAll_below laidOut bel hread hA (fun x hx => hlt x (by simp [hx]))
  · rw [hsp, hvars]; rfl

set_option maxRecDepth 100000 in
theorem law_lifted {os : Os} (started : os.Started) {H : Type} {enc : TypeId × Value → H} {f : FuncId} {fn : Func} {s : ChangeSpec} {bt : TypeId}
    (noInit : Try.prog.inits.idxOf? f = none) (hfn : Try.prog.funcs[f]? = some fn)
    (witness : ∃ (w : World) (tape : Tape) (i : Input), w.os = os ∧ (w.forCall tape i).Shaped Try.prog ∧ i.vars = [] ∧ Input.okWide Try.prog (w.forCall tape i) .any w.heap.size f i ∧
      s.pre6 enc Try.prog fn [] false (w.forCall tape i).memory i.args ∧ Assume.holds {} Try.prog (lone (Frame.enter Try.prog f i.args .normal) [] (w.forCall tape i)))
    (hvars : s.vars = []) (hbt : Try.prog.underlying bt = some .bool) (hres : fn.resultTypes = #[bt])
    (hread : ∀ t ∈ fn.params.toList, Try.prog.readableRec t = true ∧ t < Try.prog.types.size)
    (hs : ∀ ds : List (DataW H), ds.length = fn.params.toList.length → s.fn H (ds ++ []) = { results := [.lit (.bool true)], args := ds })
    (walk : WalkOwed H enc f fn (fun _ => True)) :
    ReturnsInHanded {} Try.checked os f .any (s.pre6 enc Try.prog fn [] false) (s.post enc Try.prog fn false true false false) := by
  refine returnsInHanded_of_change_sized (C := Try.checked) own started noInit hfn witness ?_
  intro W base args ds gs before hval hW _ hreach _
  exact law_contract hvars hbt hres hread hs walk W base args ds gs before hval hW hreach trivial

theorem bound_of {H : Type} {ds : List (DataW H)} (hk : Rows.uptoSmall H (ds ++ []) = true) : Rows.uptoBulkAll ds ≤ 1048576 := by
  rw [List.append_nil] at hk
  exact of_decide_eq_true hk

/-! ### the second form -/

theorem bulk_part {H : Type} {d : DataW H} {l : List (DataW H)} (h : d ∈ l) : Rows.uptoBulk d ≤ Rows.uptoBulkAll l := by
  induction l with
  | nil => cases h
  | cons x r ih =>
    simp only [Rows.uptoBulkAll]
    cases List.mem_cons.1 h with
    | inl e => subst e; omega
    | inr e => have := ih e; omega
theorem bulk_one {H : Type} (d : DataW H) : 1 ≤ Rows.uptoBulk d := by
  cases d with
  | lit l => cases l <;> simp [Rows.uptoBulk]
  | nil => simp [Rows.uptoBulk]
  | ptr d => simp [Rows.uptoBulk]
  | slice elems spare => simp [Rows.uptoBulk]
  | agg parts => simp [Rows.uptoBulk]
  | iface t d => simp [Rows.uptoBulk]
  | map entries => simp [Rows.uptoBulk]
  | held h => simp [Rows.uptoBulk]
theorem bulk_len {H : Type} (l : List (DataW H)) : l.length ≤ Rows.uptoBulkAll l := by
  induction l with
  | nil => simp [Rows.uptoBulkAll]
  | cons x r ih => have := bulk_one x; simp only [Rows.uptoBulkAll, List.length_cons]; omega
theorem bulk_slice {H : Type} (elems spare : List (DataW H)) : elems.length + spare.length + 1 ≤ Rows.uptoBulk (.slice elems spare) := by
  have h1 := bulk_len elems
  have h2 := bulk_len spare
  simp only [Rows.uptoBulk]
  omega
theorem bulk_string {H : Type} (bytes : List UInt8) : Rows.uptoBulk (DataW.lit (H := H) (.string bytes)) = bytes.length + 1 := by
  simp [Rows.uptoBulk]
/-- the bound of an argument that is a slice: its capacity -/
theorem bulk_cap {H : Type} {d : DataW H} {ds : List (DataW H)} {n c : Nat} (hm : d ∈ ds) (hk : Rows.uptoBulkAll ds ≤ 1048576)
    (hd : (d = .nil ∧ n = 0 ∧ c = 0) ∨ ∃ el sp, d = .slice el sp ∧ el.length + sp.length = c) : c ≤ 1048576 := by
  rcases hd with ⟨_, _, h⟩ | ⟨el, sp, rfl, h⟩
  · omega
  · have h1 := bulk_part hm
    have h2 := bulk_slice el sp
    omega

set_option maxRecDepth 100000 in
theorem law_lifted_upto {os : Os} (started : os.Started) {H : Type} {enc : TypeId × Value → H} {f : FuncId} {fn : Func} {s : ChangeSpec} {bt : TypeId} {F : Stop.Interp}
    (noInit : Try.prog.inits.idxOf? f = none) (hfn : Try.prog.funcs[f]? = some fn)
    (witness : ∃ (w : World) (tape : Tape) (i : Input), w.os = os ∧ (w.forCall tape i).Shaped Try.prog ∧ i.vars = [] ∧ Input.okWide Try.prog (w.forCall tape i) .any w.heap.size f i ∧
      (Rows.OpenSpec.upto s).pre6 enc Try.prog fn [] false (w.forCall tape i).memory i.args ∧ Assume.holds {} Try.prog (lone (Frame.enter Try.prog f i.args .normal) [] (w.forCall tape i)))
    (hvars : s.vars = []) (hbt : Try.prog.underlying bt = some .bool) (hres : fn.resultTypes = #[bt])
    (hread : ∀ t ∈ fn.params.toList, Try.prog.readableRec t = true ∧ t < Try.prog.types.size)
    (hs : ∀ ds : List (DataW H), ds.length = fn.params.toList.length → s.fn H (ds ++ []) = { results := [.lit (.bool true)], args := ds })
    (walk : WalkOwed H enc f fn (fun ds => Rows.uptoBulkAll ds ≤ 1048576)) :
    ReturnsInHanded {} Try.checked os f .any ((Rows.OpenSpec.upto s).pre6 enc Try.prog fn [] false) (((Rows.OpenSpec.upto s).at F).post enc Try.prog fn false true false false) := by
  refine returnsInHanded_of_cond_sized (C := Try.checked) (s := Rows.OpenSpec.upto s) (k := Rows.uptoSmall) rfl own started noInit hfn witness ?_
  intro W base args ds gs before hval hW _ hk hreach _
  have hgs : gs = [] := by
    have hV := hW
    obtain ⟨p, q, hA, hV, rfl, hfz, hnd⟩ := hV
    have hv : (Rows.OpenSpec.upto s).vars = [] := hvars
    rw [hv] at hV
    exact (trodVars_none hV).1
  subst hgs
  exact law_contract hvars hbt hres hread hs walk W base args ds [] before hval hW hreach (bound_of hk)
end Go.Proofs.Ytfjfidhhmidflaa

/-! Arguments laid open: slices of integers, bytes and strings that read as data, as lists of cells. No condition of its own. -/

namespace Go.Proofs.Ytfjfidhhmidflaa

open Go.ChangeShapes Go.WideShapes Go.ChangeAt Go.RowKit

theorem rd_of_cells {w : World} {a : Addr} {cs : List Value} (h : ∀ j u, cs[j]? = some u → w.cell? (a.add j) = some u) : Rd w (some a) cs := fun j u hu => by
  obtain ⟨b, o, s⟩ := a
  have h0 := h j u hu
  by_cases hj : j = 0
  · subst hj
    have hs : s = none := by simpa [Addr.add] using World.cell?_spot h0
    subst hs
    exact ⟨b, o, rfl, by rw [← Addr.add_lit]; exact h0⟩
  · have hz : cs[0]? = some (cs[0]'(by have := (List.getElem?_eq_some_iff.1 hu).1; omega)) := List.getElem?_eq_getElem _
    have h1 := h 0 _ hz
    have hs : s = none := by simpa [Addr.add] using World.cell?_spot h1
    subst hs
    exact ⟨b, o, rfl, by rw [← Addr.add_lit]; exact h0⟩

section

variable {H : Type} {enc : TypeId × Value → H} {P : Program} {w : World}

/-- a slice of integers that came in -/
theorem open_ints_rd {t e : TypeId} {k : IntKind} {v : Value} {d : DataW H} {p : List MemPlace} {base : Nat} {r : Reach} (ht : P.underlying t = some (.slice e)) (he : P.underlying e = some (.int k)) (hc : P.cellsOf e = 1)
    (hok : Value.okWide P w r base t v) (h : DataW.Trod enc P w 0 (fun _ => true) true t v d p) :
    ∃ (A : Option Addr) (c : Nat) (zs : List Int), v = .slice A zs.length c ∧ zs.length ≤ c ∧ c ≤ maxLen ∧ Rd w A (zs.map (Value.int k)) ∧ (∀ n ∈ zs, (Lit.int k n).wf = true) ∧ (A = none → zs = [] ∧ c = 0) ∧
      ((d = .nil ∧ zs = [] ∧ c = 0 ∧ A = none) ∨ ∃ el sp, d = .slice el sp ∧ el.length = zs.length ∧ el.length + sp.length = c) := by
  obtain ⟨A, len, cap, rfl⟩ := okWide_slice ht hok
  obtain ⟨fuel, hf⟩ := h
  rcases open_ints ht he hc hf with ⟨hcs, hx⟩ | ⟨x, l, c, zs, hcs, _, hl, hm, hz, hx, hcell, hwz⟩
  · simp [Value.cells] at hcs
    obtain ⟨rfl, rfl, rfl⟩ := hcs
    simp only [Prod.mk.injEq] at hx
    exact ⟨none, 0, [], rfl, by simp, by unfold maxLen; omega, Rd.nil, by simp, by simp, .inl ⟨hx.1, rfl, rfl, rfl⟩⟩
  · simp [Value.cells] at hcs
    obtain ⟨rfl, rfl, rfl⟩ := hcs
    simp only [if_true] at hz
    simp only [Prod.mk.injEq] at hx
    have hlen : (zs.take len).length = len := by rw [List.length_take]; omega
    refine ⟨some x, cap, zs.take len, by rw [hlen], by omega, hm, ?_, fun n hn => hwz n (List.mem_of_mem_take hn), (fun e => by cases e), .inr ⟨_, _, hx.1, by simp [lits], ?_⟩⟩
    · refine rd_of_cells fun j u hu => ?_
      rw [List.getElem?_map, List.getElem?_take] at hu
      split at hu
      · rename_i hj
        have hj' : j < zs.length := by omega
        rw [hcell j hj']
        simpa [List.getD, hj'] using hu
      · simp at hu
    · simp [lits]; omega

/-- a slice of bytes that came in -/
theorem open_bytes_rd {t e : TypeId} {v : Value} {d : DataW H} {p : List MemPlace} {base : Nat} {r : Reach} (ht : P.underlying t = some (.slice e)) (he : P.underlying e = some (.int .u8)) (hc : P.cellsOf e = 1)
    (hok : Value.okWide P w r base t v) (h : DataW.Trod enc P w 0 (fun _ => true) true t v d p) :
    ∃ (A : Option Addr) (c : Nat) (bs : List UInt8), v = .slice A bs.length c ∧ bs.length ≤ c ∧ c ≤ maxLen ∧ Rd w A (b8s bs) ∧ (A = none → bs = [] ∧ c = 0) ∧
      ((d = .nil ∧ bs = [] ∧ c = 0 ∧ A = none) ∨ ∃ el sp, d = .slice el sp ∧ el.length = bs.length ∧ el.length + sp.length = c) := by
  obtain ⟨A, c, zs, rfl, hl, hm, hr, hw, hn, hd⟩ := open_ints_rd ht he hc hok h
  have hlen : (asBytes zs).length = zs.length := by simp [asBytes]
  rw [asBytes_cells hw] at hr
  refine ⟨A, c, asBytes zs, by rw [hlen], by omega, hm, hr, fun e => ?_, ?_⟩
  · obtain ⟨rfl, h'⟩ := hn e
    exact ⟨rfl, h'⟩
  · rcases hd with ⟨h1, rfl, h3, h4⟩ | ⟨el, sp, h1, h2, h3⟩
    · exact .inl ⟨h1, rfl, h3, h4⟩
    · exact .inr ⟨el, sp, h1, by rw [hlen]; exact h2, h3⟩

/-- a slice of strings that came in -/
theorem open_strs_rd {t e : TypeId} {v : Value} {d : DataW H} {p : List MemPlace} {base : Nat} {r : Reach} (ht : P.underlying t = some (.slice e)) (he : P.underlying e = some .string) (hc : P.cellsOf e = 1)
    (hok : Value.okWide P w r base t v) (h : DataW.Trod enc P w 0 (fun _ => true) true t v d p) :
    ∃ (A : Option Addr) (c : Nat) (ss : List ByteArray), v = .slice A ss.length c ∧ ss.length ≤ c ∧ c ≤ maxLen ∧ Rd w A (ss.map Value.string) ∧ (∀ s ∈ ss, s.size ≤ maxLen) ∧ (A = none → ss = [] ∧ c = 0) ∧
      ((d = .nil ∧ ss = [] ∧ c = 0 ∧ A = none) ∨ ∃ el sp, d = .slice el sp ∧ el = strs ss ∧ el.length + sp.length = c) := by
  obtain ⟨A, len, cap, rfl⟩ := okWide_slice ht hok
  obtain ⟨fuel, hf⟩ := h
  rcases open_strings ht he hc hf with ⟨hcs, hx⟩ | ⟨x, l, c, ss, hcs, _, hl, hm, hz, hx, hcell, hwz⟩
  · simp [Value.cells] at hcs
    obtain ⟨rfl, rfl, rfl⟩ := hcs
    simp only [Prod.mk.injEq] at hx
    exact ⟨none, 0, [], rfl, by simp, by unfold maxLen; omega, Rd.nil, by simp, by simp, .inl ⟨hx.1, rfl, rfl, rfl⟩⟩
  · simp [Value.cells] at hcs
    obtain ⟨rfl, rfl, rfl⟩ := hcs
    simp only [if_true] at hz
    simp only [Prod.mk.injEq] at hx
    have hlen : (ss.take len).length = len := by rw [List.length_take]; omega
    refine ⟨some x, cap, ss.take len, by rw [hlen], by omega, hm, ?_, fun n hn => hwz n (List.mem_of_mem_take hn), (fun e => by cases e), .inr ⟨_, _, hx.1, rfl, ?_⟩⟩
    · refine rd_of_cells fun j u hu => ?_
      rw [List.getElem?_map, List.getElem?_take] at hu
      split at hu
      · rename_i hj
        have hj' : j < ss.length := by omega
        rw [hcell j hj']
        simpa [List.getD, hj'] using hu
      · simp at hu
    · simp [strs]; omega

/-- an array of bytes, as bytes -/
def byteOf : Value → UInt8 | .int _ z => UInt8.ofNat z.toNat | _ => 0
theorem trod_bytes_array {t e : TypeId} {n fuel base : Nat} {spare : Nat → Bool} {held : Bool} {cs : List Value} {x : DataW H × List MemPlace} (ht : P.underlying t = some (.array n e)) (he : P.underlying e = some (.int .u8)) (hc : P.cellsOf e = 1)
    (hn : P.cellsOf t = n) (h : DataW.trod enc P w base spare held fuel t cs = some x) : ∃ id : List UInt8, id.length = n ∧ cs = b8s id ∧ x.2 = [] := by
  obtain ⟨xs, m, _, hx, hl, hxl, hi⟩ := DataW.trod_array ht h
  rw [hn] at hl
  have key : ∀ i (h : i < cs.length), cs[i] = .int .u8 ((byteOf cs[i]).toNat : Int) ∧ ∀ y, xs[i]? = some y → y.2 = [] := by
    intro i hlt
    have h1 := hi i (by omega)
    rw [hc, Nat.mul_one, List.getElem?_eq_getElem (by omega)] at h1
    have hd : (cs.drop i).take 1 = [cs[i]] := by
      rw [List.drop_eq_getElem_cons hlt]; rfl
    rw [hd] at h1
    obtain ⟨z, hz, hp, wf⟩ := DataW.trod_int he h1
    have hz' : cs[i] = .int .u8 z := by simpa using hz
    have hb : 0 ≤ z ∧ z ≤ 255 := by simpa [Lit.wf, IntKind.min, IntKind.max, IntKind.signed, IntKind.bits] using wf
    refine ⟨?_, ?_⟩
    · rw [hz']
      simp only [byteOf, UInt8.toNat_ofNat']
      congr 1
      omega
    · intro y hy
      rw [List.getElem?_eq_getElem (by omega)] at hy
      cases hy
      rw [hp]
  refine ⟨cs.map byteOf, by simpa using hl, ?_, ?_⟩
  · refine List.ext_getElem (by simp [b8s]) fun i h1 h2 => ?_
    rw [(key i h1).1]
    simp [b8s]
  · rw [hx]
    simp only [List.flatMap_eq_nil_iff]
    intro y hy
    obtain ⟨i, hlt, rfl⟩ := List.getElem_of_mem hy
    exact (key i (by omega)).2 _ (List.getElem?_eq_getElem hlt)

theorem open_id {t e : TypeId} {n : Nat} {v : Value} {d : DataW H} {p : List MemPlace} {base : Nat} {r : Reach} (ht : P.underlying t = some (.array n e)) (he : P.underlying e = some (.int .u8)) (hc : P.cellsOf e = 1) (hn : P.cellsOf t = n)
    (hok : Value.okWide P w r base t v) (h : DataW.Trod enc P w 0 (fun _ => true) true t v d p) : ∃ id : List UInt8, id.length = n ∧ v = .agg (b8s id).toArray := by
  unfold Value.okWide at hok
  rw [ht] at hok
  obtain ⟨cs, rfl, hsz, _⟩ := hok
  obtain ⟨fuel, hf⟩ := h
  obtain ⟨id, h1, h2, _⟩ := trod_bytes_array ht he hc hn hf
  refine ⟨id, h1, ?_⟩
  have : cs = (b8s id).toArray := by
    have h3 : cs.toList = b8s id := h2
    rw [← h3]
  rw [this]
end

end Go.Proofs.Ytfjfidhhmidflaa

/-! as: a letter as the document's. -/

namespace Go.Proofs.Ytfjfidhhmidflaa

set_option linter.unusedVariables false

set_option linter.unusedSimpArgs false

open Go.RowKit

theorem fill_val (place : Nat → Option (Nat × Nat)) (p r : List Value) (x v : Value) (rest : List (Nat × Value)) (i : Nat) (hv : v.cells = #[v]) (hpl : place i = some (p.length, 1)) :
    Instr.fill place (p ++ [x] ++ r).toArray ((i, v) :: rest) = Instr.fill place (p ++ [v] ++ r).toArray rest := by
  have h2 := fold_splice p.length [v] p [x] r 0 (by simp) rfl
  simp only [Instr.fill, hpl, hv]
  rw [if_neg (by simp)]
  congr 1
def placesL : Array (Nat × Nat) := #[(0, 1), (1, 1), (2, 1), (3, 1), (4, 1), (5, 1), (6, 1), (7, 1), (8, 1), (9, 32), (41, 1)]
theorem built_eq (parts : List (Nat × Value)) : Try.prog.built 37 parts = Instr.fill (placesL[·]?) #[Value.int .i64 0, Value.int .i64 0, Value.int .i64 0, Value.int .i64 0, Value.slice none 0 0, Value.slice none 0 0, Value.slice none 0 0, Value.int .i64 0, Value.int .i64 0, Value.int .u8 0, Value.int .u8 0, Value.int .u8 0, Value.int .u8 0, Value.int .u8 0, Value.int .u8 0, Value.int .u8 0, Value.int .u8 0, Value.int .u8 0, Value.int .u8 0, Value.int .u8 0, Value.int .u8 0, Value.int .u8 0, Value.int .u8 0, Value.int .u8 0, Value.int .u8 0, Value.int .u8 0, Value.int .u8 0, Value.int .u8 0, Value.int .u8 0, Value.int .u8 0, Value.int .u8 0, Value.int .u8 0, Value.int .u8 0, Value.int .u8 0, Value.int .u8 0, Value.int .u8 0, Value.int .u8 0, Value.int .u8 0, Value.int .u8 0, Value.int .u8 0, Value.int .u8 0, Value.slice none 0 0] parts := by kernel_rfl
theorem built_let (k f u s o tt : Int) (pk : List UInt8) (hpk : pk.length = 32) (A : Option Addr) (n c : Nat) :
    Try.prog.built 37 [(0, .int .i64 k), (1, .int .i64 f), (2, .int .i64 u), (3, .int .i64 s), (7, .int .i64 o), (8, .int .i64 tt), (9, .agg (b8s pk).toArray), (10, .slice A n c)]
      = some ([Value.int .i64 k, .int .i64 f, .int .i64 u, .int .i64 s, .slice none 0 0, .slice none 0 0, .slice none 0 0, .int .i64 o, .int .i64 tt] ++ (b8s pk ++ [Value.slice A n c])).toArray := by
  rw [built_eq]
  refine (fill_val _ [] _ _ _ _ 0 rfl rfl).trans ?_
  refine (fill_val _ [_] _ _ _ _ 1 rfl rfl).trans ?_
  refine (fill_val _ [_, _] _ _ _ _ 2 rfl rfl).trans ?_
  refine (fill_val _ [_, _, _] _ _ _ _ 3 rfl rfl).trans ?_
  refine (fill_val _ [_, _, _, _, _, _, _] _ _ _ _ 7 rfl rfl).trans ?_
  refine (fill_val _ [_, _, _, _, _, _, _, _] _ _ _ _ 8 rfl rfl).trans ?_
  refine (fill_one _ [_, _, _, _, _, _, _, _, _] (b8s zeros32) _ (b8s pk) _ 9 (by rw [b8s_length, hpk]; rfl) (by rw [b8s_length, b8s_length, hpk]; rfl)).trans ?_
  have e : ([Value.int .i64 k, .int .i64 f, .int .i64 u, .int .i64 s, .slice none 0 0, .slice none 0 0, .slice none 0 0, .int .i64 o, .int .i64 tt] ++ b8s pk ++ [Value.slice none 0 0]).toArray = (([Value.int .i64 k, .int .i64 f, .int .i64 u, .int .i64 s, .slice none 0 0, .slice none 0 0, .slice none 0 0, .int .i64 o, .int .i64 tt] ++ b8s pk) ++ [Value.slice none 0 0] ++ []).toArray := by simp
  refine (congrArg (fun x => Instr.fill (placesL[·]?) x [(10, .slice A n c)]) e).trans ?_
  refine (fill_val _ _ [] _ _ _ 10 rfl (by rw [List.length_append, b8s_length, hpk]; rfl)).trans ?_
  simp [Instr.fill]
/-- the letter so far: the first of its refs, wants, haves -/
def asL (l : Lt) (a b c : Nat) : Lt := ⟨l.kind, l.from_, l.to_, l.session, l.refs.take a, l.wants.take b, l.haves.take c, l.off, l.total, l.pack, l.data⟩
theorem asL_all (l : Lt) : asL l l.refs.length l.wants.length l.haves.length = l := by unfold asL; rw [List.take_length, List.take_length, List.take_length]
structure AW (w W : World) (l : Lt) (p : LtP) (g1 g2 g3 lo j1 j2 j3 : Nat) (q : LtP) : Prop where
  r1 : W.heap[g1]? = some (.cells (l.cells p).toArray 28 (0, 0))
  r2 : W.heap[g2]? = some (.cells (lt0.cells p0).toArray 37 (0, 0))
  r3 : W.heap[g3]? = some (.cells ((asL l j1 j2 j3).cells q).toArray 37 (0, 0))
  o1 : W.ownsRow lo 64 33 (.slice q.rA j1 q.rc) j1 (rfc (l.refs.take j1))
  o2 : W.ownsRow lo 25 32 (.slice q.wA j2 q.wc) j2 (idc (l.wants.take j2))
  o3 : W.ownsRow lo 25 32 (.slice q.hA j3 q.hc) j3 (idc (l.haves.take j3))
  dd : q.dA = p.dA ∧ q.dc = p.dc ∧ j1 ≤ l.refs.length ∧ j2 ≤ l.wants.length ∧ j3 ≤ l.haves.length
  bel : Below w.heap.size w W
  ne : w.heap.size ≤ g1 ∧ w.heap.size ≤ g2 ∧ w.heap.size ≤ g3 ∧ g1 < lo ∧ g2 < lo ∧ g3 < lo ∧ g1 ≠ g3 ∧ g2 ≠ g3 ∧ lo ≤ W.heap.size
section

variable {w W W' : World} {l : Lt} {p q : LtP} {g1 g2 g3 lo j1 j2 j3 : Nat}

theorem AW.below (h : AW w W l p g1 g2 g3 lo j1 j2 j3 q) (hb : Below W.heap.size W W') : AW w W' l p g1 g2 g3 lo j1 j2 j3 q :=
  ⟨(hb.block _ (Array.getElem?_eq_some_iff.1 h.r1).1).trans h.r1, (hb.block _ (Array.getElem?_eq_some_iff.1 h.r2).1).trans h.r2, (hb.block _ (Array.getElem?_eq_some_iff.1 h.r3).1).trans h.r3,
    own_below h.o1 hb, own_below h.o2 hb, own_below h.o3 hb, h.dd, ext_trans h.bel hb,
    ⟨h.ne.1, h.ne.2.1, h.ne.2.2.1, h.ne.2.2.2.1, h.ne.2.2.2.2.1, h.ne.2.2.2.2.2.1, h.ne.2.2.2.2.2.2.1, h.ne.2.2.2.2.2.2.2.1, Nat.le_trans h.ne.2.2.2.2.2.2.2.2 hb.size⟩⟩
/-- the letter whole -/
theorem AW.out (h : AW w W l p g1 g2 g3 lo l.refs.length l.wants.length l.haves.length q) (hin : LtIn w l p) : LtIn W l q := by
  have k := hin.below h.bel
  obtain ⟨_, _, e1, a1, b1, _⟩ := own_slice h.o1
  obtain ⟨_, _, e2, a2, b2, _⟩ := own_slice h.o2
  obtain ⟨_, _, e3, a3, b3, _⟩ := own_slice h.o3
  cases e1; cases e2; cases e3
  have d1 := own_rd h.o1
  have d2 := own_rd h.o2
  have d3 := own_rd h.o3
  rw [List.take_length] at d1 d2 d3
  unfold maxLen at b1 b2 b3
  exact ⟨hin.len, hin.rok, hin.wok, hin.hok, ⟨d1, a1, b1⟩, ⟨d2, a2, b2⟩, ⟨d3, a3, b3⟩, by rw [h.dd.1, h.dd.2.1]; exact k.dr⟩
end

end Go.Proofs.Ytfjfidhhmidflaa

/-! as: the walk. A letter comes out as the document's letter of the same parts. (Printed by wip/genAs.py.) -/

namespace Go.Proofs.Ytfjfidhhmidflaa

set_option linter.unusedVariables false

set_option linter.unusedSimpArgs false

open Go.RowKit

section

variable {P : Program} {ops : Array Oper} {rest : List Oper} {o : Oper} {a : Act} {w : World} {Q : Exit → Act → World → Prop}

theorem wpList_built (hg : o.guard = none) (t : TypeId) (parts : Array (Nat × Operand)) (ho : o.op = .build t parts) (ps : List (Nat × Value)) (hps : (parts.toList.map fun (i, x) => (i, a.eval x)) = ps) (cs : Array Value)
    (hf : P.built t ps = some cs) (h : wpList P ops Q rest (a.put o.dst (.agg cs)) w) : wpList P ops Q (o :: rest) a w := by
  have e : (parts.map fun (i, x) => (i, a.eval x)).toList = ps := by rw [Array.toList_map]; exact hps
  refine wpList_build hg t parts ho (by rw [e, hf]; rfl) ?_
  rw [e, hf]
  exact h
end

theorem ref_built (s : ByteArray) (id : List UInt8) (hid : id.length = 32) : Try.prog.built 64 [(0, .string s), (1, .agg (b8s id).toArray)] = some (RefM.mk s id).cells.toArray := by
  have h : Try.prog.built 64 [(0, .string s), (1, .agg (b8s id).toArray)] = Instr.fill ((#[(0, 1), (1, 32)] : Array (Nat × Nat))[·]?) #[Value.string ⟨#[]⟩, Value.int .u8 0, Value.int .u8 0, Value.int .u8 0, Value.int .u8 0, Value.int .u8 0, Value.int .u8 0, Value.int .u8 0, Value.int .u8 0, Value.int .u8 0, Value.int .u8 0, Value.int .u8 0, Value.int .u8 0, Value.int .u8 0, Value.int .u8 0, Value.int .u8 0, Value.int .u8 0, Value.int .u8 0, Value.int .u8 0, Value.int .u8 0, Value.int .u8 0, Value.int .u8 0, Value.int .u8 0, Value.int .u8 0, Value.int .u8 0, Value.int .u8 0, Value.int .u8 0, Value.int .u8 0, Value.int .u8 0, Value.int .u8 0, Value.int .u8 0, Value.int .u8 0, Value.int .u8 0] [(0, .string s), (1, .agg (b8s id).toArray)] := by kernel_rfl
  rw [h]
  refine (fill_val _ [] _ _ _ _ 0 rfl rfl).trans ?_
  refine (fill_one _ [_] (b8s zeros32) [] (b8s id) _ 1 (by rw [b8s_length, hid]; rfl) (by rw [b8s_length, b8s_length, hid]; rfl)).trans ?_
  simp [Instr.fill, RefM.cells]
theorem info_rref1 : (Try.prog.info? 64).map (fun i => (i.size, i.zero.isSome)) = some (33, true) := by kernel_rfl
theorem info_rref2 : (Try.prog.info? 64).map (fun i => (i.zero, i.size, i.bytes)) = some (some (.agg refZ.toArray), 33, 48) := by unfold refZ; rw [zeros32_cells]; kernel_rfl
theorem info_rid1 : (Try.prog.info? 24).map (fun i => (i.size, i.zero.isSome)) = some (32, true) := by kernel_rfl
theorem info_rid2 : (Try.prog.info? 24).map (fun i => (i.zero, i.size, i.bytes)) = some (some (.agg (b8s zeros32).toArray), 32, 32) := by rw [zeros32_cells]; kernel_rfl

theorem info_rleta (l : Lt) (p : LtP) (h : l.pack.length = 32) : (Try.prog.info? 37).map (·.size) = some (l.cells p).toArray.size := by rw [List.size_toArray, l.cells_len p h]; kernel_rfl
/-- a list that is done: it lies below lo, and not in row g3 -/
def Kp (W : World) (lo g2 g3 : Nat) (A : Option Addr) (cs : List Value) : Prop := Rd W A cs ∧ ∀ ad, A = some ad → ad.block < lo ∧ g2 < ad.block ∧ g3 < ad.block
section

variable {W W' : World} {lo lo' g2 g3 : Nat} {A : Option Addr} {cs : List Value}

theorem Kp.nil : Kp W lo g2 g3 none [] := ⟨Rd.nil, fun _ e => by cases e⟩
theorem Kp.below (h : Kp W lo g2 g3 A cs) (hb : Below W.heap.size W W') : Kp W' lo g2 g3 A cs := ⟨h.1.below hb, h.2⟩
theorem Kp.far (h : Kp W lo g2 g3 A cs) {row : Option Nat} (hg : W.grownBy W' row) (hr : ∀ b, row = some b → lo ≤ b ∨ b ≤ g3 ∨ b ≤ g2) : Kp W' lo g2 g3 A cs :=
  ⟨h.1.grown hg (fun ad e hx => by have h1 := h.2 ad e; rcases hr _ hx.symm with h2 | h2 | h2 <;> omega), h.2⟩
theorem Kp.lift (h : Kp W lo g2 g3 A cs) (hl : lo ≤ lo') : Kp W lo' g2 g3 A cs := ⟨h.1, fun ad e => ⟨Nat.lt_of_lt_of_le (h.2 ad e).1 hl, (h.2 ad e).2⟩⟩
theorem Kp.of_own {E : TypeId} {sz n c : Nat} {xs : List Value} (h : W.ownsRow lo E sz (.slice A n c) n xs) (hg2 : g2 < lo) (hg : g3 < lo) : Kp W W.heap.size g2 g3 A xs := by
  obtain ⟨B, d, e, h1, h2, h3, _⟩ := own_slice h
  cases e
  exact ⟨own_rd h, fun ad e => ⟨(h3 ad e).2, by have := (h3 ad e).1; omega, by have := (h3 ad e).1; omega⟩⟩
end

/-- the rows of the copy -/
structure AB (w W : World) (l : Lt) (p : LtP) (g1 g2 g3 lo j1 j2 j3 : Nat) (q : LtP) : Prop where
  r1 : W.heap[g1]? = some (.cells (l.cells p).toArray 28 (0, 0))
  r2 : W.heap[g2]? = some (.cells (lt0.cells p0).toArray 37 (0, 0))
  r3 : W.heap[g3]? = some (.cells ((asL l j1 j2 j3).cells q).toArray 37 (0, 0))
  le : j1 ≤ l.refs.length ∧ j2 ≤ l.wants.length ∧ j3 ≤ l.haves.length
  bel : Below w.heap.size w W
  ne : w.heap.size ≤ g1 ∧ w.heap.size ≤ g2 ∧ w.heap.size ≤ g3 ∧ g1 < lo ∧ g2 < lo ∧ g3 < lo ∧ g1 ≠ g3 ∧ g2 ≠ g3 ∧ lo ≤ W.heap.size
section

variable {w W W' : World} {l : Lt} {p q : LtP} {g1 g2 g3 lo j1 j2 j3 : Nat}

theorem AB.below (h : AB w W l p g1 g2 g3 lo j1 j2 j3 q) (hb : Below W.heap.size W W') : AB w W' l p g1 g2 g3 lo j1 j2 j3 q := by
  obtain ⟨n1, n2, n3, n4, n5, n6, n7, n8, n9⟩ := h.ne
  exact ⟨(hb.block _ (Array.getElem?_eq_some_iff.1 h.r1).1).trans h.r1, (hb.block _ (Array.getElem?_eq_some_iff.1 h.r2).1).trans h.r2, (hb.block _ (Array.getElem?_eq_some_iff.1 h.r3).1).trans h.r3,
    h.le, ext_trans h.bel hb, ⟨n1, n2, n3, n4, n5, n6, n7, n8, Nat.le_trans n9 hb.size⟩⟩
theorem AB.lift (h : AB w W l p g1 g2 g3 lo j1 j2 j3 q) : AB w W l p g1 g2 g3 W.heap.size j1 j2 j3 q := by
  obtain ⟨n1, n2, n3, n4, n5, n6, n7, n8, n9⟩ := h.ne
  exact ⟨h.r1, h.r2, h.r3, h.le, h.bel, ⟨n1, n2, n3, by omega, by omega, by omega, n7, n8, Nat.le_refl _⟩⟩
/-- what grows lies from lo on -/
theorem AB.grow (h : AB w W l p g1 g2 g3 lo j1 j2 j3 q) {row : Option Nat} (hg : W.grownBy W' row) (hr : ∀ b, row = some b → lo ≤ b) : AB w W' l p g1 g2 g3 lo j1 j2 j3 q := by
  obtain ⟨n1, n2, n3, n4, n5, n6, n7, n8, n9⟩ := h.ne
  have hgg : ∀ i, i < lo → i < W.heap.size → W'.heap[i]? = W.heap[i]? := fun i hi hl => hg.block i hl (fun e => by have := hr i e.symm; omega)
  refine ⟨(hgg _ n4 (Array.getElem?_eq_some_iff.1 h.r1).1).trans h.r1, (hgg _ n5 (Array.getElem?_eq_some_iff.1 h.r2).1).trans h.r2, (hgg _ n6 (Array.getElem?_eq_some_iff.1 h.r3).1).trans h.r3, h.le, ?_, ⟨n1, n2, n3, n4, n5, n6, n7, n8, Nat.le_trans n9 hg.size⟩⟩
  cases hv : row with
  | none => rw [hv] at hg; exact h.bel.trans ((grown_none hg).mono h.bel.size)
  | some b => rw [hv] at hg; exact bel_grown h.bel h.bel.size hg (by have := hr b hv; omega)
theorem AB.set (h : AB w W l p g1 g2 g3 lo j1 j2 j3 q) {i1 i2 i3 : Nat} {q' : LtP} (hg : W.grownBy W' (some g3)) (hr : W'.heap[g3]? = some (.cells ((asL l i1 i2 i3).cells q').toArray 37 (0, 0)))
    (hl : i1 ≤ l.refs.length ∧ i2 ≤ l.wants.length ∧ i3 ≤ l.haves.length) : AB w W' l p g1 g2 g3 lo i1 i2 i3 q' := by
  obtain ⟨n1, n2, n3, n4, n5, n6, n7, n8, n9⟩ := h.ne
  exact ⟨(hg.block _ (Array.getElem?_eq_some_iff.1 h.r1).1 (by simpa using n7)).trans h.r1, (hg.block _ (Array.getElem?_eq_some_iff.1 h.r2).1 (by simpa using n8)).trans h.r2, hr, hl, bel_grown h.bel h.bel.size hg n3,
    ⟨n1, n2, n3, n4, n5, n6, n7, n8, Nat.le_trans n9 hg.size⟩⟩
end

theorem take_rfc (rs : List RefM) (k : Nat) (h : k < rs.length) : rfc (rs.take (k + 1)) = rfc (rs.take k) ++ rs[k].cells := by rw [List.take_succ_eq_append_getElem h, rfc_snoc]
theorem take_idc (rs : List (List UInt8)) (k : Nat) (h : k < rs.length) : idc (rs.take (k + 1)) = idc (rs.take k) ++ b8s rs[k] := by rw [List.take_succ_eq_append_getElem h, idc_snoc]
theorem take_len {α : Type} (xs : List α) (k : Nat) (h : k ≤ xs.length) : (xs.take k).length = k := by rw [List.length_take]; omega

/-- loop 1: j of the refs are copied -/
structure AL1 (w W : World) (l : Lt) (p : LtP) (g1 g2 g3 lo j : Nat) (A : Option Addr) (c : Nat) : Prop where
  ab : AB w W l p g1 g2 g3 lo j 0 0 ⟨A, c, none, 0, none, 0, p.dA, p.dc⟩
  own : W.ownsRow lo 64 33 (.slice A j c) j (rfc (l.refs.take j))
section

variable {w W W' : World} {l : Lt} {p : LtP} {g1 g2 g3 lo j : Nat} {A A' : Option Addr} {c c' : Nat}

theorem AL1.below (h : AL1 w W l p g1 g2 g3 lo j A c) (hb : Below W.heap.size W W') : AL1 w W' l p g1 g2 g3 lo j A c := ⟨h.ab.below hb, own_below h.own hb⟩
theorem AL1.cell (h : AL1 w W l p g1 g2 g3 lo j A c) : W.cell? ⟨g3, 4, none⟩ = some (.slice A j c) := by
  have e : W.cell? ⟨g3, 4, none⟩ = some (.slice A (l.refs.take j).length c) := row_cell h.ab.r3 4
  rw [take_len _ _ (by have := h.ab.le; omega)] at e
  exact e
theorem AL1.app (h : AL1 w W l p g1 g2 g3 lo j A c) (hj : j < l.refs.length) (hg : W.grownBy W' (Value.slice A j c).ownBlock)
    (ho : W'.ownsRow lo 64 33 (.slice A' (j + 1) c') (j + 1) (rfc (l.refs.take j) ++ (l.refs[j]).cells)) :
    W'.cell? ⟨g3, 4, none⟩ = some (.slice A j c) ∧ W'.frozen? ⟨g3, 4, none⟩ = false ∧ AL1 w (W'.setCell ⟨g3, 4, none⟩ (.slice A' (j + 1) c')) l p g1 g2 g3 lo (j + 1) A' c' := by
  have hlo : ∀ b, (Value.slice A j c).ownBlock = some b → lo ≤ b := fun b e => (h.own.lt b e).1
  have h3 := h.ab.grow hg hlo
  have gr := grown_set (w := W') g3 4 (.slice A' (j + 1) c')
  have e1 : W'.cell? ⟨g3, 4, none⟩ = some (.slice A (l.refs.take j).length c) := row_cell h3.r3 4
  rw [take_len _ _ (by omega)] at e1
  have hr := row_refs (p := ⟨A, c, none, 0, none, 0, p.dA, p.dc⟩) h3.r3 A' c' (l.refs.take (j + 1))
  rw [take_len _ _ (by omega)] at hr
  have hle := h.ab.le
  refine ⟨e1, row_free h3.r3 4, h3.set gr hr (by omega), ?_⟩
  rw [take_rfc _ _ hj]
  exact own_far ho h.ab.ne.2.2.2.2.2.1 gr
end

/-- loop 2: j of the wants are copied -/
structure AL2 (w W : World) (l : Lt) (p : LtP) (g1 g2 g3 lo j : Nat) (A1 : Option Addr) (c1 : Nat) (A : Option Addr) (c : Nat) : Prop where
  ab : AB w W l p g1 g2 g3 lo l.refs.length j 0 ⟨A1, c1, A, c, none, 0, p.dA, p.dc⟩
  own : W.ownsRow lo 24 32 (.slice A j c) j (idc (l.wants.take j))
  k1 : Kp W lo g2 g3 A1 (rfc l.refs) ∧ l.refs.length ≤ c1 ∧ c1 ≤ 9223372036854775807
section

variable {w W W' : World} {l : Lt} {p : LtP} {g1 g2 g3 lo j : Nat} {A A' : Option Addr} {c c' : Nat} {A1 : Option Addr} {c1 : Nat}

theorem AL2.below (h : AL2 w W l p g1 g2 g3 lo j A1 c1 A c) (hb : Below W.heap.size W W') : AL2 w W' l p g1 g2 g3 lo j A1 c1 A c := ⟨h.ab.below hb, own_below h.own hb, ⟨h.k1.1.below hb, h.k1.2⟩⟩
theorem AL2.cell (h : AL2 w W l p g1 g2 g3 lo j A1 c1 A c) : W.cell? ⟨g3, 5, none⟩ = some (.slice A j c) := by
  have e : W.cell? ⟨g3, 5, none⟩ = some (.slice A (l.wants.take j).length c) := row_cell h.ab.r3 5
  rw [take_len _ _ (by have := h.ab.le; omega)] at e
  exact e
theorem AL2.app (h : AL2 w W l p g1 g2 g3 lo j A1 c1 A c) (hj : j < l.wants.length) (hg : W.grownBy W' (Value.slice A j c).ownBlock)
    (ho : W'.ownsRow lo 24 32 (.slice A' (j + 1) c') (j + 1) (idc (l.wants.take j) ++ (b8s (l.wants[j])))) :
    W'.cell? ⟨g3, 5, none⟩ = some (.slice A j c) ∧ W'.frozen? ⟨g3, 5, none⟩ = false ∧ AL2 w (W'.setCell ⟨g3, 5, none⟩ (.slice A' (j + 1) c')) l p g1 g2 g3 lo (j + 1) A1 c1 A' c' := by
  have hlo : ∀ b, (Value.slice A j c).ownBlock = some b → lo ≤ b := fun b e => (h.own.lt b e).1
  have h3 := h.ab.grow hg hlo
  have gr := grown_set (w := W') g3 5 (.slice A' (j + 1) c')
  have e1 : W'.cell? ⟨g3, 5, none⟩ = some (.slice A (l.wants.take j).length c) := row_cell h3.r3 5
  rw [take_len _ _ (by omega)] at e1
  have hr := row_wants (p := ⟨A1, c1, A, c, none, 0, p.dA, p.dc⟩) h3.r3 A' c' (l.wants.take (j + 1))
  rw [take_len _ _ (by omega)] at hr
  have hle := h.ab.le
  refine ⟨e1, row_free h3.r3 5, h3.set gr hr (by omega), ?_, ⟨(h.k1.1.far hg (fun b e => .inl (hlo b e))).far gr (fun b e => .inr (.inl (by cases e; exact Nat.le_refl _))), h.k1.2⟩⟩
  rw [take_idc _ _ hj]
  exact own_far ho h.ab.ne.2.2.2.2.2.1 gr
end

/-- loop 3: j of the haves are copied -/
structure AL3 (w W : World) (l : Lt) (p : LtP) (g1 g2 g3 lo j : Nat) (A1 : Option Addr) (c1 : Nat) (A2 : Option Addr) (c2 : Nat) (A : Option Addr) (c : Nat) : Prop where
  ab : AB w W l p g1 g2 g3 lo l.refs.length l.wants.length j ⟨A1, c1, A2, c2, A, c, p.dA, p.dc⟩
  own : W.ownsRow lo 24 32 (.slice A j c) j (idc (l.haves.take j))
  k1 : Kp W lo g2 g3 A1 (rfc l.refs) ∧ l.refs.length ≤ c1 ∧ c1 ≤ 9223372036854775807
  k2 : Kp W lo g2 g3 A2 (idc l.wants) ∧ l.wants.length ≤ c2 ∧ c2 ≤ 9223372036854775807
section

variable {w W W' : World} {l : Lt} {p : LtP} {g1 g2 g3 lo j : Nat} {A A' : Option Addr} {c c' : Nat} {A1 : Option Addr} {c1 : Nat} {A2 : Option Addr} {c2 : Nat}

theorem AL3.below (h : AL3 w W l p g1 g2 g3 lo j A1 c1 A2 c2 A c) (hb : Below W.heap.size W W') : AL3 w W' l p g1 g2 g3 lo j A1 c1 A2 c2 A c := ⟨h.ab.below hb, own_below h.own hb, ⟨h.k1.1.below hb, h.k1.2⟩, ⟨h.k2.1.below hb, h.k2.2⟩⟩
theorem AL3.cell (h : AL3 w W l p g1 g2 g3 lo j A1 c1 A2 c2 A c) : W.cell? ⟨g3, 6, none⟩ = some (.slice A j c) := by
  have e : W.cell? ⟨g3, 6, none⟩ = some (.slice A (l.haves.take j).length c) := row_cell h.ab.r3 6
  rw [take_len _ _ (by have := h.ab.le; omega)] at e
  exact e
theorem AL3.app (h : AL3 w W l p g1 g2 g3 lo j A1 c1 A2 c2 A c) (hj : j < l.haves.length) (hg : W.grownBy W' (Value.slice A j c).ownBlock)
    (ho : W'.ownsRow lo 24 32 (.slice A' (j + 1) c') (j + 1) (idc (l.haves.take j) ++ (b8s (l.haves[j])))) :
    W'.cell? ⟨g3, 6, none⟩ = some (.slice A j c) ∧ W'.frozen? ⟨g3, 6, none⟩ = false ∧ AL3 w (W'.setCell ⟨g3, 6, none⟩ (.slice A' (j + 1) c')) l p g1 g2 g3 lo (j + 1) A1 c1 A2 c2 A' c' := by
  have hlo : ∀ b, (Value.slice A j c).ownBlock = some b → lo ≤ b := fun b e => (h.own.lt b e).1
  have h3 := h.ab.grow hg hlo
  have gr := grown_set (w := W') g3 6 (.slice A' (j + 1) c')
  have e1 : W'.cell? ⟨g3, 6, none⟩ = some (.slice A (l.haves.take j).length c) := row_cell h3.r3 6
  rw [take_len _ _ (by omega)] at e1
  have hr := row_haves (p := ⟨A1, c1, A2, c2, A, c, p.dA, p.dc⟩) h3.r3 A' c' (l.haves.take (j + 1))
  rw [take_len _ _ (by omega)] at hr
  have hle := h.ab.le
  refine ⟨e1, row_free h3.r3 6, h3.set gr hr (by omega), ?_, ⟨(h.k1.1.far hg (fun b e => .inl (hlo b e))).far gr (fun b e => .inr (.inl (by cases e; exact Nat.le_refl _))), h.k1.2⟩, ⟨(h.k2.1.far hg (fun b e => .inl (hlo b e))).far gr (fun b e => .inr (.inl (by cases e; exact Nat.le_refl _))), h.k2.2⟩⟩
  rw [take_idc _ _ hj]
  exact own_far ho h.ab.ne.2.2.2.2.2.1 gr
end

theorem AL1.next {w W : World} {l : Lt} {p : LtP} {g1 g2 g3 lo : Nat} {A : Option Addr} {c : Nat} (h : AL1 w W l p g1 g2 g3 lo l.refs.length A c) : AL2 w W l p g1 g2 g3 W.heap.size 0 A c none 0 := by
  have hk := Kp.of_own h.own h.ab.ne.2.2.2.2.1 h.ab.ne.2.2.2.2.2.1
  obtain ⟨B, d, e, b1, b2, _⟩ := own_slice h.own
  cases e
  rw [List.take_length] at hk
  exact ⟨h.ab.lift, World.ownsRow_nil _ _ _ _, hk, b1, by unfold maxLen at b2; exact b2⟩
theorem AL2.next {w W : World} {l : Lt} {p : LtP} {g1 g2 g3 lo : Nat} {A A1 : Option Addr} {c c1 : Nat} (h : AL2 w W l p g1 g2 g3 lo l.wants.length A1 c1 A c) : AL3 w W l p g1 g2 g3 W.heap.size 0 A1 c1 A c none 0 := by
  have hk := Kp.of_own h.own h.ab.ne.2.2.2.2.1 h.ab.ne.2.2.2.2.2.1
  obtain ⟨B, d, e, b1, b2, _⟩ := own_slice h.own
  cases e
  rw [List.take_length] at hk
  exact ⟨h.ab.lift, World.ownsRow_nil _ _ _ _, ⟨h.k1.1.lift h.ab.ne.2.2.2.2.2.2.2.2, h.k1.2⟩, hk, b1, by unfold maxLen at b2; exact b2⟩
/-- the result's row is written -/
theorem AL3.out {w W W' : World} {l : Lt} {p : LtP} {g1 g2 g3 lo : Nat} {A A1 A2 : Option Addr} {c c1 c2 : Nat} (h : AL3 w W l p g1 g2 g3 lo l.haves.length A1 c1 A2 c2 A c) (hin : LtIn w l p) (hg : W.grownBy W' (some g2)) (hb : Below w.heap.size w W') : LtIn W' l ⟨A1, c1, A2, c2, A, c, p.dA, p.dc⟩ := by
  have k := hin.below hb
  have ho := own_far h.own h.ab.ne.2.2.2.2.1 hg
  obtain ⟨B, d, e, b1, b2, _⟩ := own_slice ho
  cases e
  have hr := own_rd ho
  rw [List.take_length] at hr
  have k1 := h.k1.1.far hg (fun b e => .inr (.inr (by cases e; exact Nat.le_refl _)))
  have k2 := h.k2.1.far hg (fun b e => .inr (.inr (by cases e; exact Nat.le_refl _)))
  exact ⟨hin.len, hin.rok, hin.wok, hin.hok, ⟨k1.1, h.k1.2⟩, ⟨k2.1, h.k2.2⟩, ⟨hr, b1, by unfold maxLen at b2; exact b2⟩, k.dr⟩
def AsOut (w w' : World) (e : Ending) (l : Lt) : Prop := ∃ q, e = .returned (l.val q) ∧ LtIn w' l q ∧ Below w.heap.size w w'

set_option maxRecDepth 100000 in
set_option maxHeartbeats 8000000 in
theorem as_any (l : Lt) (p : LtP) (w : World) (hin : LtIn w l p) (hr1 : l.refs.length * 48 ≤ reachBytes) (hr2 : l.wants.length * 32 ≤ reachBytes) (hr3 : l.haves.length * 32 ≤ reachBytes) :
    Calls Try.prog 11 #[l.val p] w fun e w' => AsOut w w' e l := by
  have hre : reachBytes = 140737488351232 := by decide
  rw [hre] at hr1 hr2 hr3
  clear hre
  have HB1 := Lib.hid hr1
  have HB2 := Lib.hid hr2
  have HB3 := Lib.hid hr3
  clear hr1 hr2 hr3
  have HIN := Lib.hid hin
  have hlen := hin.len
  have HLEN := Lib.hid hlen
  obtain ⟨W1, hW1⟩ : ∃ W, w.alloc (.cells (l.cells p).toArray 28) = W := ⟨_, rfl⟩
  obtain ⟨q1, b1, s1⟩ := new_row hW1
  obtain ⟨W2, hW2⟩ : ∃ W, W1.alloc (.cells #[Value.int .i64 0, Value.int .i64 0, Value.int .i64 0, Value.int .i64 0, Value.slice none 0 0, Value.slice none 0 0, Value.slice none 0 0, Value.int .i64 0, Value.int .i64 0, Value.int .u8 0, Value.int .u8 0, Value.int .u8 0, Value.int .u8 0, Value.int .u8 0, Value.int .u8 0, Value.int .u8 0, Value.int .u8 0, Value.int .u8 0, Value.int .u8 0, Value.int .u8 0, Value.int .u8 0, Value.int .u8 0, Value.int .u8 0, Value.int .u8 0, Value.int .u8 0, Value.int .u8 0, Value.int .u8 0, Value.int .u8 0, Value.int .u8 0, Value.int .u8 0, Value.int .u8 0, Value.int .u8 0, Value.int .u8 0, Value.int .u8 0, Value.int .u8 0, Value.int .u8 0, Value.int .u8 0, Value.int .u8 0, Value.int .u8 0, Value.int .u8 0, Value.int .u8 0, Value.slice none 0 0] 37) = W := ⟨_, rfl⟩
  obtain ⟨q2, b2, s2⟩ := new_row hW2
  obtain ⟨W3, hW3⟩ : ∃ W, W2.alloc (.cells #[Value.int .i64 0, Value.int .i64 0, Value.int .i64 0, Value.int .i64 0, Value.slice none 0 0, Value.slice none 0 0, Value.slice none 0 0, Value.int .i64 0, Value.int .i64 0, Value.int .u8 0, Value.int .u8 0, Value.int .u8 0, Value.int .u8 0, Value.int .u8 0, Value.int .u8 0, Value.int .u8 0, Value.int .u8 0, Value.int .u8 0, Value.int .u8 0, Value.int .u8 0, Value.int .u8 0, Value.int .u8 0, Value.int .u8 0, Value.int .u8 0, Value.int .u8 0, Value.int .u8 0, Value.int .u8 0, Value.int .u8 0, Value.int .u8 0, Value.int .u8 0, Value.int .u8 0, Value.int .u8 0, Value.int .u8 0, Value.int .u8 0, Value.int .u8 0, Value.int .u8 0, Value.int .u8 0, Value.int .u8 0, Value.int .u8 0, Value.int .u8 0, Value.int .u8 0, Value.slice none 0 0] 37) = W := ⟨_, rfl⟩
  obtain ⟨q3, b3, s3⟩ := new_row hW3
  rw [← lt0_cells] at q2 q3
  obtain ⟨g1, hg1⟩ : ∃ g, w.heap.size = g := ⟨_, rfl⟩
  obtain ⟨g2, hg2⟩ : ∃ g, W1.heap.size = g := ⟨_, rfl⟩
  obtain ⟨g3, hg3⟩ : ∃ g, W2.heap.size = g := ⟨_, rfl⟩
  rw [hg1] at q1
  rw [hg2] at q2
  rw [hg3] at q3
  have hr12 := (b2.block _ (Array.getElem?_eq_some_iff.1 q1).1).trans q1
  obtain ⟨k0, k1, k2, k3, k4, k5, k6, k7, k8, k41, k9⟩ := ltRow_of hr12 hlen
  have H9 := Lib.hid k9
  have HI9 := Lib.hid (info_id32' l.pack hlen).1
  have HBU := Lib.hid (built_let l.kind l.from_ l.to_ l.session l.off l.total l.pack hlen p.dA l.data.length p.dc)
  have hbb := ext_trans b1 (ext_trans b2 b3)
  obtain ⟨W4, hW4, HTH, HR4, HB4, HO4, HS4⟩ := let_write (m := asL l 0 0 0) (q := ⟨none, 0, none, 0, none, 0, p.dA, p.dc⟩) q3 rfl hlen hbb hbb.size (by omega)
  have HW4 := Lib.hid hW4
  have HIL4 := Lib.hid (info_rleta (asL l 0 0 0) ⟨none, 0, none, 0, none, 0, p.dA, p.dc⟩ hlen)
  have HOL4 := Lib.hid (all_oneCell_toArray ((asL l 0 0 0).cells_one ⟨none, 0, none, 0, none, 0, p.dA, p.dc⟩))
  have h13 : g1 ≠ g3 := by omega
  have h23 : g2 ≠ g3 := by omega
  have e14 := (HO4.out g1 h13).trans ((b3.block _ (Array.getElem?_eq_some_iff.1 hr12).1).trans hr12)
  have e24 := (HO4.out g2 h23).trans ((b3.block _ (Array.getElem?_eq_some_iff.1 q2).1).trans q2)
  have hsz := HS4.out
  have HAL : Hid (AL1 w W4 l p g1 g2 g3 W4.heap.size 0 none 0) := Lib.hid ⟨⟨e14, e24, HR4.out, ⟨by omega, by omega, by omega⟩, HB4.out, ⟨by omega, by omega, by omega, by omega, by omega, by omega, h13, h23, Nat.le_refl _⟩⟩, World.ownsRow_nil _ _ _ _⟩
  obtain ⟨m0, m1, m2, m3, m4, m5, m6, m7, m8, m41, m9⟩ := ltRow_of e14 hlen
  clear q1 q2 q3 b1 b2 b3 s1 s2 s3 hr12 k9 hbb hW4 h13 h23 e14 e24 hsz HO4 HS4 m0 m1 m2 m3 m5 m6 m7 m8 m41 m9 hlen k4 k5 k6
  unfold Lt.val
  go_enter Try.func11, Try.ntmps11
  go_wp2_with (first
    | ((with_reducible (refine wpList_load_cells 25 _ g1 9 (b8s l.pack) H9.out Try.underlying25 rfl HI9.out ?_ rfl ?_ ?_)); (exact rfl); (exact rfl))
    | ((with_reducible (refine wpList_built ?_ _ #[(0, .tmp 11), (1, .tmp 13), (2, .tmp 15), (3, .tmp 17), (7, .tmp 19), (8, .tmp 21), (9, .tmp 23), (10, .tmp 25)] ?_ _ ?_ _ HBU.out ?_)); (exact rfl); (exact rfl); (exact rfl))
    | ((with_reducible (refine wpList_store_mid rfl _ _ _ rfl ?_ ?_ ?_ ?_ ?_ ?_ ?_ ?_ ?_)); (exact g3); (exact 0); (exact ((asL l 0 0 0).cells ⟨none, 0, none, 0, none, 0, p.dA, p.dc⟩).toArray); (exact rfl); (exact rfl); (exact HTH.out); (exact HIL4.out); (exact HOL4.out); rw [HW4.out]))
  clear hW1 hW2 hW3 hg1 hg2 hg3 m4 k0 k1 k2 k3 k7 k8 k41 HBU H9 HI9 HTH HR4 HB4 HIL4 HOL4
  obtain ⟨lo, hlo⟩ : ∃ lo, W4.heap.size = lo := ⟨_, rfl⟩
  rw [hlo] at HAL
  clear hlo
  go_loopg [30] (l.refs.length * 1) (fun gk_ s wr => ∃ (k : Nat) (A : Option Addr) (c : Nat), k ≤ l.refs.length ∧ gk_ = l.refs.length - k ∧ s = .int .i64 (k : Int) ∧ Hid (AL1 w wr l p g1 g2 g3 lo k A c))
  case atStart => exact ⟨0, none, 0, by omega, by omega, rfl, HAL⟩
  case round =>
  clear HAL
  obtain ⟨k, A, c, hk, rfl, rfl, HAL⟩ := hrel
  by_cases hlt : k < l.refs.length
  · have hlb := HB1.out
    have i1 : (k : Int) < (l.refs.length : Int) := by omega
    have hpos : 0 < (rfc l.refs).length := by rw [rfc_length HIN.out.rok]; omega
    have hrd := HIN.out.rr.1.below HAL.out.ab.bel
    have hpc := HIN.out.rr.2
    obtain ⟨b, off, hA, _⟩ := hrd.all hpos
    rw [hA] at hrd
    have HA := Lib.hid hA
    clear hA
    have RS := rd_ref hrd HIN.out.rok k hlt
    have hso := rOk_get HIN.out.rok k hlt
    obtain ⟨s, hs⟩ : ∃ s, l.refs[k] = s := ⟨_, rfl⟩
    rw [hs] at RS hso
    have HSS := Lib.hid hs
    have HSO := Lib.hid hso
    have HIS := Lib.hid (info_ref s hso)
    have HIA : Hid ((Try.prog.info? 52).map (·.size) = some s.cells.toArray.size) := Lib.hid (by rw [List.size_toArray]; exact info_ref s hso)
    have HIW := Lib.hid (info_id32 s.id hso.1)
    obtain ⟨Wa, W5, hWa0, hW5, HTH, HRS, HB5⟩ := row_place (w := wr) 52 refZ s.cells (by rw [RefM.len hso]; rfl)
    have hWa : wr.alloc (.cells #[Value.string ⟨#[]⟩, Value.int .u8 0, Value.int .u8 0, Value.int .u8 0, Value.int .u8 0, Value.int .u8 0, Value.int .u8 0, Value.int .u8 0, Value.int .u8 0, Value.int .u8 0, Value.int .u8 0, Value.int .u8 0, Value.int .u8 0, Value.int .u8 0, Value.int .u8 0, Value.int .u8 0, Value.int .u8 0, Value.int .u8 0, Value.int .u8 0, Value.int .u8 0, Value.int .u8 0, Value.int .u8 0, Value.int .u8 0, Value.int .u8 0, Value.int .u8 0, Value.int .u8 0, Value.int .u8 0, Value.int .u8 0, Value.int .u8 0, Value.int .u8 0, Value.int .u8 0, Value.int .u8 0, Value.int .u8 0] 52) = Wa := hWa0
    have HW5 := Lib.hid hW5
    have hrow := range_of_row HRS.out
    have c0 := ref_cell0 hrow
    have HC1 := Lib.hid (ref_range1 hrow)
    have HAL5 := Lib.hid (HAL.out.below HB5.out)
    have c4 := HAL5.out.cell
    have HBR : Hid (Try.prog.built 64 [(0, .string s.name), (1, .agg (b8s s.id).toArray)] = some s.cells.toArray) := Lib.hid (ref_built s.name s.id hso.1)
    obtain ⟨W6, hW6⟩ : ∃ W, W5.alloc (.cells s.cells.toArray 64) = W := ⟨_, rfl⟩
    obtain ⟨r6, b6, s6⟩ := new_row hW6
    have HW6 := Lib.hid hW6
    have HAL6 := Lib.hid (HAL5.out.below b6)
    have HR6 : Hid (Rd W6 (some ⟨W5.heap.size, 0, none⟩) s.cells) := Lib.hid (range_rd (range_of_row r6))
    have HBA := Lib.hid HAL6.out.ab.ne.2.2.2.2.2.2.2.2
    have HAPP : Hid (∀ A' c' W', W6.grownBy W' (Value.slice A k c).ownBlock → W'.ownsRow lo 64 33 (.slice A' (k + 1) c') (k + 1) (rfc (l.refs.take k) ++ s.cells) →
        W'.cell? ⟨g3, 4, none⟩ = some (.slice A k c) ∧ W'.frozen? ⟨g3, 4, none⟩ = false ∧ Hid (AL1 w (W'.setCell ⟨g3, 4, none⟩ (.slice A' (k + 1) c')) l p g1 g2 g3 lo (k + 1) A' c')) := Lib.hid (by
      intro A' c' W' hg ho
      have h := HAL6.out.app (A' := A') (c' := c') hlt hg (by rw [HSS.out]; exact ho)
      exact ⟨h.1, h.2.1, Lib.hid h.2.2⟩)
    clear hrd hpos hs hW5 hWa0 hrow hso r6 b6 s6 hW6
    rw [HA.out]
    go_wp2_with (first
      | ((with_reducible (refine wpList_load_cells 52 _ b (off + k * 33) (s.cells) RS Try.underlying52 rfl HIS.out ?_ rfl ?_ ?_)); (exact rfl); (exact rfl))
      | ((with_reducible (refine wpList_store_mid rfl _ _ _ rfl ?_ ?_ ?_ ?_ ?_ ?_ ?_ ?_ ?_)); (exact wr.heap.size); (exact 0); (exact (s.cells).toArray); (exact rfl); (exact rfl); (exact HTH.out); (exact HIA.out); (exact all_oneCell_toArray s.one); rw [HW5.out])
      | ((with_reducible (refine wpList_load_cells 25 _ wr.heap.size 1 (b8s s.id) HC1.out Try.underlying25 rfl HIW.out ?_ rfl ?_ ?_)); (exact rfl); (exact rfl))
      | ((with_reducible (refine wpList_built ?_ _ #[(0, .tmp 37), (1, .tmp 39)] ?_ _ ?_ _ HBR.out ?_)); (exact rfl); (exact rfl); (exact rfl))
      | (refine wpList_build1 rfl _ 64 _ rfl s.cells rfl Try.underlying34 (by rw [RefM.len HSO.out]; exact info_rref1) (by rw [RefM.len HSO.out]; decide) (by rw [RefM.len HSO.out]; decide) ?_; rw [HW6.out])
      | (at_builtin; refine wpList_append_rd _ rfl _ _ 34 rfl lo 64 _ 33 48 Try.underlying34 info_rref2 (by unfold refZ; rw [zeros32_cells]; rfl) (by decide) (.slice A k c) k (rfc (l.refs.take k)) rfl HAL6.out.own _ 1 1 s.cells rfl (by rw [RefM.len HSO.out]) HR6.out (RefM.one _) (by unfold maxLen; omega) (by omega) HBA.out ?_; intro v7 w7 ho7 hg7 hvb7; obtain ⟨A5, c5, e5, _⟩ := own_slice ho7; subst e5; obtain ⟨x7, y7, HRX⟩ := HAPP.out _ _ _ hg7 ho7; clear ho7 hg7 hvb7))
    rw [← HA.out]
    clear c4 c0 RS hWa
    go_roundg (l.refs.length - (k + 1))
    case measure => omega
    case rel => exact ⟨k + 1, A5, c5, by omega, rfl, by first | rfl | exact congrArg (Value.int .i64) (by omega) | go_num, HRX⟩
  obtain rfl : k = l.refs.length := by omega
  clear hlt hk
  obtain ⟨A1, hA1⟩ : ∃ x, x = A := ⟨_, rfl⟩
  obtain ⟨c1, hc1⟩ : ∃ x, x = c := ⟨_, rfl⟩
  subst hA1 hc1
  have HALN := Lib.hid HAL.out.next
  have hle_ := ltRow_of HALN.out.ab.r1 HLEN.out
  have mC := hle_.2.2.2.2.2.1
  clear hle_ HAL
  go_wp2
  clear mC
  obtain ⟨lo2, hlo2⟩ : ∃ lo, wr.heap.size = lo := ⟨_, rfl⟩
  rw [hlo2] at HALN
  clear hlo2
  go_loopg [48] (l.wants.length * 1) (fun gk_ s wr => ∃ (k : Nat) (A : Option Addr) (c : Nat), k ≤ l.wants.length ∧ gk_ = l.wants.length - k ∧ s = .int .i64 (k : Int) ∧ Hid (AL2 w wr l p g1 g2 g3 lo2 k A1 c1 A c))
  case atStart => exact ⟨0, none, 0, by omega, by omega, rfl, HALN⟩
  case round =>
  clear HALN
  obtain ⟨k, A, c, hk, rfl, rfl, HAL⟩ := hrel
  by_cases hlt : k < l.wants.length
  · have hlb := HB2.out
    have i1 : (k : Int) < (l.wants.length : Int) := by omega
    have hpos : 0 < (idc l.wants).length := by rw [idc_length HIN.out.wok]; omega
    have hrd := HIN.out.wr.1.below HAL.out.ab.bel
    have hpc := HIN.out.wr.2
    obtain ⟨b, off, hA, _⟩ := hrd.all hpos
    rw [hA] at hrd
    have HA := Lib.hid hA
    clear hA
    have RS := rd_id hrd HIN.out.wok k hlt
    have hso := iOk_get HIN.out.wok k hlt
    obtain ⟨s, hs⟩ : ∃ s, l.wants[k] = s := ⟨_, rfl⟩
    rw [hs] at RS hso
    have HSS := Lib.hid hs
    have HSO := Lib.hid hso
    have HIS := Lib.hid (info_id32' s hso).1
    have HIA := Lib.hid (info_id32' s hso).2
    obtain ⟨Wa, W5, hWa0, hW5, HTH, HRS, HB5⟩ := row_place (w := wr) 25 (b8s zeros32) (b8s s) (by rw [b8s_length, b8s_length, hso]; rfl)
    have hWa : wr.alloc (.cells #[Value.int .u8 0, Value.int .u8 0, Value.int .u8 0, Value.int .u8 0, Value.int .u8 0, Value.int .u8 0, Value.int .u8 0, Value.int .u8 0, Value.int .u8 0, Value.int .u8 0, Value.int .u8 0, Value.int .u8 0, Value.int .u8 0, Value.int .u8 0, Value.int .u8 0, Value.int .u8 0, Value.int .u8 0, Value.int .u8 0, Value.int .u8 0, Value.int .u8 0, Value.int .u8 0, Value.int .u8 0, Value.int .u8 0, Value.int .u8 0, Value.int .u8 0, Value.int .u8 0, Value.int .u8 0, Value.int .u8 0, Value.int .u8 0, Value.int .u8 0, Value.int .u8 0, Value.int .u8 0] 25) = Wa := hWa0
    have HW5 := Lib.hid hW5
    have HRW := Lib.hid (range_of_row HRS.out)
    have HAL5 := Lib.hid (HAL.out.below HB5.out)
    have c4 := HAL5.out.cell
    obtain ⟨W6, hW6⟩ : ∃ W, W5.alloc (.cells (b8s s).toArray 24) = W := ⟨_, rfl⟩
    obtain ⟨r6, b6, s6⟩ := new_row hW6
    have HW6 := Lib.hid hW6
    have HAL6 := Lib.hid (HAL5.out.below b6)
    have HR6 : Hid (Rd W6 (some ⟨W5.heap.size, 0, none⟩) (b8s s)) := Lib.hid (range_rd (range_of_row r6))
    have HBA := Lib.hid HAL6.out.ab.ne.2.2.2.2.2.2.2.2
    have HAPP : Hid (∀ A' c' W', W6.grownBy W' (Value.slice A k c).ownBlock → W'.ownsRow lo2 24 32 (.slice A' (k + 1) c') (k + 1) (idc (l.wants.take k) ++ b8s s) →
        W'.cell? ⟨g3, 5, none⟩ = some (.slice A k c) ∧ W'.frozen? ⟨g3, 5, none⟩ = false ∧ Hid (AL2 w (W'.setCell ⟨g3, 5, none⟩ (.slice A' (k + 1) c')) l p g1 g2 g3 lo2 (k + 1) A1 c1 A' c')) := Lib.hid (by
      intro A' c' W' hg ho
      have h := HAL6.out.app (A' := A') (c' := c') hlt hg (by rw [HSS.out]; exact ho)
      exact ⟨h.1, h.2.1, Lib.hid h.2.2⟩)
    clear hrd hpos hs hW5 hWa0 hso r6 b6 s6 hW6
    rw [HA.out]
    go_wp2_with (first
      | ((with_reducible (refine wpList_load_cells 25 _ b (off + k * 32) (b8s s) RS Try.underlying25 rfl HIS.out ?_ rfl ?_ ?_)); (exact rfl); (exact rfl))
      | ((with_reducible (refine wpList_store_mid rfl _ _ _ rfl ?_ ?_ ?_ ?_ ?_ ?_ ?_ ?_ ?_)); (exact wr.heap.size); (exact 0); (exact (b8s s).toArray); (exact rfl); (exact rfl); (exact HTH.out); (exact HIA.out); (exact all_oneCell_toArray (b8s_one' _)); rw [HW5.out])
      | ((with_reducible (refine wpList_load_cells 25 _ wr.heap.size 0 (b8s s) HRW.out Try.underlying25 rfl HIS.out ?_ rfl ?_ ?_)); (exact rfl); (exact rfl))
      | (refine wpList_build1 rfl _ 24 _ rfl (b8s s) rfl Try.underlying35 (by rw [b8s_length, HSO.out]; exact info_rid1) (by rw [b8s_length, HSO.out]; decide) (by rw [b8s_length, HSO.out]; decide) ?_; rw [HW6.out])
      | (at_builtin; refine wpList_append_rd _ rfl _ _ 35 rfl lo2 24 _ 32 32 Try.underlying35 info_rid2 (by rw [zeros32_cells]; rfl) (by decide) (.slice A k c) k (idc (l.wants.take k)) rfl HAL6.out.own _ 1 1 (b8s s) rfl (by rw [b8s_length, HSO.out]) HR6.out (b8s_one' _) (by unfold maxLen; omega) (by omega) HBA.out ?_; intro v7 w7 ho7 hg7 hvb7; obtain ⟨A5, c5, e5, _⟩ := own_slice ho7; subst e5; obtain ⟨x7, y7, HRX⟩ := HAPP.out _ _ _ hg7 ho7; clear ho7 hg7 hvb7))
    rw [← HA.out]
    clear c4 RS hWa
    go_roundg (l.wants.length - (k + 1))
    case measure => omega
    case rel => exact ⟨k + 1, A5, c5, by omega, rfl, by first | rfl | exact congrArg (Value.int .i64) (by omega) | go_num, HRX⟩
  obtain rfl : k = l.wants.length := by omega
  clear hlt hk
  obtain ⟨A2, hA2_⟩ : ∃ x, x = A := ⟨_, rfl⟩
  obtain ⟨c2, hc2_⟩ : ∃ x, x = c := ⟨_, rfl⟩
  subst hA2_ hc2_
  have HALN := Lib.hid HAL.out.next
  have hle_ := ltRow_of HALN.out.ab.r1 HLEN.out
  have mC := hle_.2.2.2.2.2.2.1
  clear hle_ HAL
  go_wp2
  clear mC
  obtain ⟨lo3, hlo3⟩ : ∃ lo, wr.heap.size = lo := ⟨_, rfl⟩
  rw [hlo3] at HALN
  clear hlo3
  go_loopg [62] (l.haves.length * 1) (fun gk_ s wr => ∃ (k : Nat) (A : Option Addr) (c : Nat), k ≤ l.haves.length ∧ gk_ = l.haves.length - k ∧ s = .int .i64 (k : Int) ∧ Hid (AL3 w wr l p g1 g2 g3 lo3 k A1 c1 A2 c2 A c))
  case atStart => exact ⟨0, none, 0, by omega, by omega, rfl, HALN⟩
  case round =>
  clear HALN
  obtain ⟨k, A, c, hk, rfl, rfl, HAL⟩ := hrel
  by_cases hlt : k < l.haves.length
  · have hlb := HB3.out
    have i1 : (k : Int) < (l.haves.length : Int) := by omega
    have hpos : 0 < (idc l.haves).length := by rw [idc_length HIN.out.hok]; omega
    have hrd := HIN.out.hr.1.below HAL.out.ab.bel
    have hpc := HIN.out.hr.2
    obtain ⟨b, off, hA, _⟩ := hrd.all hpos
    rw [hA] at hrd
    have HA := Lib.hid hA
    clear hA
    have RS := rd_id hrd HIN.out.hok k hlt
    have hso := iOk_get HIN.out.hok k hlt
    obtain ⟨s, hs⟩ : ∃ s, l.haves[k] = s := ⟨_, rfl⟩
    rw [hs] at RS hso
    have HSS := Lib.hid hs
    have HSO := Lib.hid hso
    have HIS := Lib.hid (info_id32' s hso).1
    have HIA := Lib.hid (info_id32' s hso).2
    obtain ⟨Wa, W5, hWa0, hW5, HTH, HRS, HB5⟩ := row_place (w := wr) 25 (b8s zeros32) (b8s s) (by rw [b8s_length, b8s_length, hso]; rfl)
    have hWa : wr.alloc (.cells #[Value.int .u8 0, Value.int .u8 0, Value.int .u8 0, Value.int .u8 0, Value.int .u8 0, Value.int .u8 0, Value.int .u8 0, Value.int .u8 0, Value.int .u8 0, Value.int .u8 0, Value.int .u8 0, Value.int .u8 0, Value.int .u8 0, Value.int .u8 0, Value.int .u8 0, Value.int .u8 0, Value.int .u8 0, Value.int .u8 0, Value.int .u8 0, Value.int .u8 0, Value.int .u8 0, Value.int .u8 0, Value.int .u8 0, Value.int .u8 0, Value.int .u8 0, Value.int .u8 0, Value.int .u8 0, Value.int .u8 0, Value.int .u8 0, Value.int .u8 0, Value.int .u8 0, Value.int .u8 0] 25) = Wa := hWa0
    have HW5 := Lib.hid hW5
    have HRW := Lib.hid (range_of_row HRS.out)
    have HAL5 := Lib.hid (HAL.out.below HB5.out)
    have c4 := HAL5.out.cell
    obtain ⟨W6, hW6⟩ : ∃ W, W5.alloc (.cells (b8s s).toArray 24) = W := ⟨_, rfl⟩
    obtain ⟨r6, b6, s6⟩ := new_row hW6
    have HW6 := Lib.hid hW6
    have HAL6 := Lib.hid (HAL5.out.below b6)
    have HR6 : Hid (Rd W6 (some ⟨W5.heap.size, 0, none⟩) (b8s s)) := Lib.hid (range_rd (range_of_row r6))
    have HBA := Lib.hid HAL6.out.ab.ne.2.2.2.2.2.2.2.2
    have HAPP : Hid (∀ A' c' W', W6.grownBy W' (Value.slice A k c).ownBlock → W'.ownsRow lo3 24 32 (.slice A' (k + 1) c') (k + 1) (idc (l.haves.take k) ++ b8s s) →
        W'.cell? ⟨g3, 6, none⟩ = some (.slice A k c) ∧ W'.frozen? ⟨g3, 6, none⟩ = false ∧ Hid (AL3 w (W'.setCell ⟨g3, 6, none⟩ (.slice A' (k + 1) c')) l p g1 g2 g3 lo3 (k + 1) A1 c1 A2 c2 A' c')) := Lib.hid (by
      intro A' c' W' hg ho
      have h := HAL6.out.app (A' := A') (c' := c') hlt hg (by rw [HSS.out]; exact ho)
      exact ⟨h.1, h.2.1, Lib.hid h.2.2⟩)
    clear hrd hpos hs hW5 hWa0 hso r6 b6 s6 hW6
    rw [HA.out]
    go_wp2_with (first
      | ((with_reducible (refine wpList_load_cells 25 _ b (off + k * 32) (b8s s) RS Try.underlying25 rfl HIS.out ?_ rfl ?_ ?_)); (exact rfl); (exact rfl))
      | ((with_reducible (refine wpList_store_mid rfl _ _ _ rfl ?_ ?_ ?_ ?_ ?_ ?_ ?_ ?_ ?_)); (exact wr.heap.size); (exact 0); (exact (b8s s).toArray); (exact rfl); (exact rfl); (exact HTH.out); (exact HIA.out); (exact all_oneCell_toArray (b8s_one' _)); rw [HW5.out])
      | ((with_reducible (refine wpList_load_cells 25 _ wr.heap.size 0 (b8s s) HRW.out Try.underlying25 rfl HIS.out ?_ rfl ?_ ?_)); (exact rfl); (exact rfl))
      | (refine wpList_build1 rfl _ 24 _ rfl (b8s s) rfl Try.underlying35 (by rw [b8s_length, HSO.out]; exact info_rid1) (by rw [b8s_length, HSO.out]; decide) (by rw [b8s_length, HSO.out]; decide) ?_; rw [HW6.out])
      | (at_builtin; refine wpList_append_rd _ rfl _ _ 35 rfl lo3 24 _ 32 32 Try.underlying35 info_rid2 (by rw [zeros32_cells]; rfl) (by decide) (.slice A k c) k (idc (l.haves.take k)) rfl HAL6.out.own _ 1 1 (b8s s) rfl (by rw [b8s_length, HSO.out]) HR6.out (b8s_one' _) (by unfold maxLen; omega) (by omega) HBA.out ?_; intro v7 w7 ho7 hg7 hvb7; obtain ⟨A5, c5, e5, _⟩ := own_slice ho7; subst e5; obtain ⟨x7, y7, HRX⟩ := HAPP.out _ _ _ hg7 ho7; clear ho7 hg7 hvb7))
    rw [← HA.out]
    clear c4 RS hWa
    go_roundg (l.haves.length - (k + 1))
    case measure => omega
    case rel => exact ⟨k + 1, A5, c5, by omega, rfl, by first | rfl | exact congrArg (Value.int .i64) (by omega) | go_num, HRX⟩
  obtain rfl : k = l.haves.length := by omega
  clear hlt hk
  obtain ⟨A3, hA3_⟩ : ∃ x, x = A := ⟨_, rfl⟩
  obtain ⟨c3, hc3_⟩ : ∃ x, x = c := ⟨_, rfl⟩
  subst hA3_ hc3_
  have HALZ := HAL
  have HR3 := Lib.hid HAL.out.ab.r3
  have HR2 := Lib.hid HAL.out.ab.r2
  have HNE := Lib.hid HAL.out.ab.ne
  have HBL := Lib.hid HAL.out.ab.bel
  rw [asL_all] at HR3
  clear HAL
  obtain ⟨WZ, hWZ, HTZ, HRZ, HBZ, HOZ, HSZ⟩ := let_write (m := l) (q := ⟨A1, c1, A2, c2, A3, c3, p.dA, p.dc⟩) HR2.out rfl HLEN.out HBL.out HBL.out.size HNE.out.2.1
  have HWZ := Lib.hid hWZ
  have HILZ := Lib.hid (info_rleta l ⟨A1, c1, A2, c2, A3, c3, p.dA, p.dc⟩ HLEN.out)
  have HOLZ := Lib.hid (all_oneCell_toArray (l.cells_one ⟨A1, c1, A2, c2, A3, c3, p.dA, p.dc⟩))
  have hgz := setCells_grown g2 (l.cells ⟨A1, c1, A2, c2, A3, c3, p.dA, p.dc⟩).toArray.toList 0 wr
  rw [hWZ] at hgz
  have HOUT := Lib.hid (HALZ.out.out HIN.out hgz HBZ.out)
  clear hWZ hgz HALZ
  go_wp2_with (first
    | ((with_reducible (refine wpList_load_row_w _ _ rfl _ rfl _ _ _ _ HR3.out Try.underlying37 rfl HILZ.out ?_ ?_)); (focus (rfl)))
    | ((with_reducible (refine wpList_store_mid rfl _ _ _ rfl ?_ ?_ ?_ ?_ ?_ ?_ ?_ ?_ ?_)); (exact g2); (exact 0); (exact (l.cells ⟨A1, c1, A2, c2, A3, c3, p.dA, p.dc⟩).toArray); (exact rfl); (exact rfl); (exact HTZ.out); (exact HILZ.out); (exact HOLZ.out); rw [HWZ.out]))
  refine bodyPost_ret (results_row1 rfl _ _ _ _ _ _ _ rfl HRZ.out Try.underlying37 rfl HILZ.out) rfl ?_
  exact ⟨_, rfl, HOUT.out, HBZ.out⟩
end Go.Proofs.Ytfjfidhhmidflaa

/-! The document's reader, with a bound on the block of the bytes that are left. (Printed by wip/genI.py.) -/

namespace Go.Proofs.Ytfjfidhhmidflaa

set_option linter.unusedVariables false

set_option linter.unusedSimpArgs false

open Go.RowKit

def InK (w : World) (KB : Nat) (v : Value) : St → Prop
  | some bs => ∃ A n c, v = .agg #[.slice A n c, .bool false] ∧ n = bs.length ∧ n ≤ c ∧ c ≤ maxLen ∧ Rd w A (b8s bs) ∧ (bs ≠ [] → ∀ ad, A = some ad → ad.block < KB)
  | none => v = .agg #[.slice none 0 0, .bool true]
theorem InK.v {w : World} {KB : Nat} {v : Value} {st : St} (h : InK w KB v st) : InV w v st := by
  cases st with
  | none => exact h
  | some bs =>
    obtain ⟨A, n, c, h0, h1, h2, h3, h4, _⟩ := h
    exact ⟨A, n, c, h0, h1, h2, h3, h4⟩
theorem InV.k {w : World} {v : Value} {st : St} (h : InV w v st) : InK w w.heap.size v st := by
  cases st with
  | none => exact h
  | some bs =>
    obtain ⟨A, n, c, h0, h1, h2, h3, h4⟩ := h
    refine ⟨A, n, c, h0, h1, h2, h3, h4, fun hne ad hA => ?_⟩
    subst hA
    exact h4.lt (by rw [b8s_length]; exact List.length_pos_iff.2 hne)
theorem InK.below {w w' : World} {KB : Nat} {v : Value} {st : St} (h : InK w KB v st) (hb : Below w.heap.size w w') : InK w' KB v st := by
  cases st with
  | none => exact h
  | some bs =>
    obtain ⟨A, n, c, h0, h1, h2, h3, h4, h5⟩ := h
    exact ⟨A, n, c, h0, h1, h2, h3, h4.below hb, h5⟩
/-- a row from KB on is written -/
theorem InK.far {w w' : World} {KB B : Nat} {v : Value} {st : St} (h : InK w KB v st) (hK : KB ≤ B) (hg : w.grownBy w' (some B)) : InK w' KB v st := by
  cases st with
  | none => exact h
  | some bs =>
    obtain ⟨A, n, c, h0, h1, h2, h3, h4, h5⟩ := h
    refine ⟨A, n, c, h0, h1, h2, h3, ?_, h5⟩
    by_cases hne : bs = []
    · subst hne; exact Rd.nil
    · exact h4.grown hg (fun ad hA e => by have := h5 hne ad hA; have := Option.some.inj e; omega)
theorem in_dropK {w : World} {KB b o n c k : Nat} {bs : List UInt8} (hkb : bs ≠ [] → ∀ ad, some (⟨b, o, none⟩ : Addr) = some ad → ad.block < KB) (h : Rd w (some ⟨b, o, none⟩) (b8s bs)) (hn : n = bs.length) (hk : k + 1 ≤ n) (h2 : n ≤ c) (h3 : c ≤ maxLen) :
    InK w KB (.agg #[.slice (if c = k + 1 then some ⟨b, o, none⟩ else some ⟨b, o + (k + 1), none⟩) (n - (k + 1)) (c - (k + 1)), .bool false]) (some (bs.drop (k + 1))) := by
  have hd := Rd.drop (k := k + 1) (size := 1) (cap := c) h (by rw [b8s_length]; omega)
  refine ⟨_, _, _, rfl, by rw [List.length_drop]; omega, by omega, by omega, ?_, ?_⟩
  · simpa [b8s, Addr.add] using hd
  · intro _ ad e
    have hb := hkb (by intro e; subst e; simp at hn; omega) _ rfl
    dsimp only at hb
    split at e <;> (cases e; exact hb)
theorem in_keep {KB k c : Nat} {bs : List UInt8} {A A' : Option Addr} (hkb : bs ≠ [] → ∀ ad, A = some ad → ad.block < KB) (hA : A' = if c = k then A else Option.map (fun x => x.add k) A) : bs.drop k ≠ [] → ∀ ad, A' = some ad → ad.block < KB := by
  intro hne ad e
  have hb := hkb (by intro e; subst e; simp at hne)
  subst hA
  split at e
  · exact hb ad e
  · cases A with
    | none => cases e
    | some x =>
      have e2 := Option.some.inj e
      subst e2
      have := hb x rfl
      show (x.add k).block < KB
      obtain ⟨b, o, s⟩ := x
      simp only [Addr.add]
      split <;> exact this
theorem in_keep2 {KB c : Nat} {bs : List UInt8} {A A' : Option Addr} (hkb : bs ≠ [] → ∀ ad, A = some ad → ad.block < KB) (hA : (if c = 32 then A else Option.map (fun x => (⟨x.block, x.off + 32, none⟩ : Addr)) A) = A') : bs.drop 32 ≠ [] → ∀ ad, A' = some ad → ad.block < KB := by
  intro hne ad e
  have hb := hkb (by intro e; subst e; simp at hne)
  subst hA
  split at e
  · exact hb ad e
  · cases A with
    | none => cases e
    | some x =>
      cases e
      exact hb x rfl

set_option maxRecDepth 100000 in
set_option maxHeartbeats 2000000 in
theorem igetnum_k (KB : Nat) (st : St) (v : Value) (most : Int) (w : World) (h : InK w KB v st) :
    Calls Try.prog 50 #[v, .int .i64 most] w fun e w' => ∃ u, e = .returned (.tuple #[.int .i64 ((getNum st most).1 : Int), u]) ∧ InK w' KB u (getNum st most).2 ∧ Below w.heap.size w w' := by
  have hst := numFrom_start most st
  generalize getNum st most = R at *
  have HR := Lib.hid hst
  clear hst
  cases st with
  | none =>
    cases h
    obtain ⟨W1, hW1, hb, hc, hbel, hsz⟩ := in_entry w (.slice none 0 0) (.bool true)
    have cb0 : W1.cell? ⟨w.heap.size, 0, none⟩ = some (.slice none 0 0) := row_cell hb 0
    have cb1 : W1.cell? ⟨w.heap.size, 1, none⟩ = some (.bool true) := row_cell hb 1
    have HC := Lib.hid hc
    have Hsz := Lib.hid hsz
    clear hb hc hsz
    go_enter Try.func50, Try.ntmps50
    go_wp2_with fail
    clear hW1
    go_loop [6, 7, 8, 9] (fun a u i l => a = .int .i64 0 ∧ u = .int .i64 1 ∧ i = .int .i64 0) (fun _ _ _ _ => 0)
    case atStart => exact ⟨rfl, rfl, rfl⟩
    case round =>
      obtain ⟨rfl, rfl, rfl⟩ := hrel
      go_wp2_with fail
      refine (failed_any _).mono ?_
      rintro e w1 ⟨rfl, hbl⟩
      have hc := (hbl.block _ (by rw [Hsz.out]; omega)).trans HC.out
      have f0 := row_free hc 0
      have f1 := row_free hc 1
      have c0 : w1.cell? ⟨w.heap.size + 1, 0, none⟩ = some (.slice none 0 0) := row_cell hc 0
      have c1 : w1.cell? ⟨w.heap.size + 1, 1, none⟩ = some (.bool false) := row_cell hc 1
      have Hc := Lib.hid hc
      clear hc
      go_wp2_with fail
      have hs1 : w.heap.size ≤ W1.heap.size := by rw [Hsz.out]; omega
      have : R = (0, none) := by rw [← HR.out]; rfl
      subst this
      exact bodyPost_ret (results_tmp_row rfl _ _ _ _ _ _ _ rfl (row_set2 Hc.out _ _) Try.underlying86 rfl info_in) rfl ⟨_, rfl, rfl, bel_set2 (hbel.trans (hbl.mono hs1)) (Nat.le_trans hs1 hbl.size) (by omega) _ _⟩
  | some bs =>
    obtain ⟨A, n, c, rfl, hn, h2, h3, h4, hkb⟩ := h
    obtain ⟨W1, hW1, hb, hc, hbel, hsz⟩ := in_entry w (.slice A n c) (.bool false)
    have cb0 : W1.cell? ⟨w.heap.size, 0, none⟩ = some (.slice A n c) := row_cell hb 0
    have cb1 : W1.cell? ⟨w.heap.size, 1, none⟩ = some (.bool false) := row_cell hb 1
    have HC := Lib.hid hc
    have Hsz := Lib.hid hsz
    have Hn := Lib.hid hn
    have H4 := Lib.hid h4
    have HKB := Lib.hid hkb
    clear hb hc hsz hn h4 hkb
    go_enter Try.func50, Try.ntmps50
    go_wp2_with fail
    clear hW1
    go_loop [6, 7, 8, 9] (fun a u i l => ∃ (k acc U : Nat), k ≤ bs.length ∧ k ≤ 9 ∧ a = .int .i64 (acc : Int) ∧ u = .int .i64 (U : Int) ∧ i = .int .i64 (k : Int) ∧ Hid (acc < 128 ^ k) ∧ acc < 9223372036854775808 ∧ Hid (U = 128 ^ min k 8) ∧ U ≤ 72057594037927936 ∧ Hid (numFrom most k acc (some (bs.drop k)) = R)) (fun _ _ i _ => 9 - (intOf i).toNat)
    case atStart => exact ⟨0, 0, 1, by omega, by omega, rfl, rfl, rfl, by show 0 < 128 ^ 0; decide, by omega, by show 1 = 128 ^ min 0 8; decide, by omega, HR.out⟩
    case round =>
      obtain ⟨k, acc, U, hk, hk9, rfl, rfl, rfl, hacc, hacc2, hU, hU2, hR⟩ := hrel
      by_cases hlt : k < bs.length
      · by_cases hlt9 : k < 9
        · have hn := Hn.out
          have hlt' : k < n := by omega
          clear hn
          obtain ⟨b, o, rfl, hcell⟩ := (H4.out.below hbel).byte k hlt
          have hdrop : bs.drop k = bs[k] :: bs.drop (k + 1) := List.drop_eq_getElem_cons hlt
          have hR' := hR.out
          rw [hdrop] at hR'
          have hmore := numFrom_more most k acc hlt9 bs[k] (bs.drop (k + 1))
          have hbad := numFrom_bad most k acc hlt9 bs[k] (bs.drop (k + 1))
          have hgood := numFrom_good most k acc hlt9 bs[k] (bs.drop (k + 1))
          have hV1 := acc_le k acc bs[k] hlt9 hacc.out
          have hV2 := acc_lt k acc bs[k] hacc.out
          have hUk : 128 ^ k = U := by rw [hU.out, Nat.min_eq_left (by omega)]
          rw [hUk] at hmore hbad hgood hV1 hV2
          have hc8 := bs[k].toNat_lt
          generalize bs[k] = x at *
          have hx : x.toNat % 128 ≤ 127 := by omega
          have e1 : ((x.toNat : Int) % 128) = ((x.toNat % 128 : Nat) : Int) := by omega
          have hm : x.toNat % 128 * U < 9223372036854775808 := by omega
          have e2 : ((x.toNat % 128 : Nat) : Int) * (U : Int) = ((x.toNat % 128 * U : Nat) : Int) := by simp
          have hbig : k = 8 → 64 < x.toNat % 128 → 4611686018427387904 < acc + x.toNat % 128 * U := by
            intro h8 h64
            have : U = 72057594037927936 := by rw [hU.out, h8]; decide
            subst this
            omega
          have hH1 := Lib.hid hmore
          have hH2 := Lib.hid hbad
          have hH3 := Lib.hid hgood
          have hH4 := Lib.hid hbig
          have hH5 := Lib.hid hV2
          have hH6 := Lib.hid hR'
          clear hmore hbad hgood hbig hV2 hR' hdrop hR hacc HR
          generalize x.toNat % 128 = m at *
          generalize m * U = M at *
          by_cases h8 : k = 8
          · subst h8
            by_cases hm64 : 64 < m
            · have hm64' : (64 : Int) < (m : Int) := by omega
              have hRR : R = (0, none) := by
                rw [← hH6.out]
                by_cases hx8 : 128 ≤ x.toNat
                · rw [hH1.out hx8]; exact numFrom_end _ _ _
                · exact hH2.out (by omega) (.inl (hH4.out rfl hm64))
              have HRR := Lib.hid hRR
              clear hRR
              go_wp2_with fail
              refine (failed_any _).mono ?_
              rintro e w1 ⟨rfl, hbl⟩
              have hc := (hbl.block _ (by rw [Hsz.out]; omega)).trans HC.out
              have f0 := row_free hc 0
              have f1 := row_free hc 1
              have c0 : w1.cell? ⟨w.heap.size + 1, 0, none⟩ = some (.slice none 0 0) := row_cell hc 0
              have c1 : w1.cell? ⟨w.heap.size + 1, 1, none⟩ = some (.bool false) := row_cell hc 1
              have Hc := Lib.hid hc
              clear hc
              go_wp2_with fail
              have hs1 : w.heap.size ≤ W1.heap.size := by rw [Hsz.out]; omega
              have : R = (0, none) := HRR.out
              subst this
              exact bodyPost_ret (results_tmp_row rfl _ _ _ _ _ _ _ rfl (row_set2 Hc.out _ _) Try.underlying86 rfl info_in) rfl ⟨_, rfl, rfl, bel_set2 (hbel.trans (hbl.mono hs1)) (Nat.le_trans hs1 hbl.size) (by omega) _ _⟩
            · have hm64' : ¬ (64 : Int) < (m : Int) := by omega
              by_cases hx8 : 128 ≤ x.toNat
              · have hx8' : ¬ (x.toNat : Int) < 128 := by omega
                go_wp2_with fail
                go_round
                case rel => exact ⟨9, acc + M, U, by omega, by omega, by go_num, by go_num, by go_num, hH5, hV1, by show _ = _; rw [hU.out]; decide, by omega, by show _ = _; rw [← hH1.out hx8]; exact hH6.out⟩
                case measure => simp [intOf]
              · have hx8' : (x.toNat : Int) < 128 := by omega
                have e9 : IntKind.i64.wrap (8 + 1) = 9 := rfl
                have e9' : IntKind.i64.wrap 9 = 9 := rfl
                go_wp2_with fail
                all_goals first
                  | (
                      refine (failed_any _).mono ?_
                      rintro e w1 ⟨rfl, hbl⟩
                      have hc := (hbl.block _ (by rw [Hsz.out]; omega)).trans HC.out
                      have f0 := row_free hc 0
                      have f1 := row_free hc 1
                      have c0 : w1.cell? ⟨w.heap.size + 1, 0, none⟩ = some (.slice none 0 0) := row_cell hc 0
                      have c1 : w1.cell? ⟨w.heap.size + 1, 1, none⟩ = some (.bool false) := row_cell hc 1
                      have Hc := Lib.hid hc
                      clear hc
                      go_wp2_with fail
                      have hs1 : w.heap.size ≤ W1.heap.size := by rw [Hsz.out]; omega
                      have : R = (0, none) := by rw [← hH6.out]; exact hH2.out (by omega) (by omega)
                      subst this
                      exact bodyPost_ret (results_tmp_row rfl _ _ _ _ _ _ _ rfl (row_set2 Hc.out _ _) Try.underlying86 rfl info_in) rfl ⟨_, rfl, rfl, bel_set2 (hbel.trans (hbl.mono hs1)) (Nat.le_trans hs1 hbl.size) (by omega) _ _⟩)
                  | (
                      have hs1 : w.heap.size ≤ W1.heap.size := by rw [Hsz.out]; omega
                      have hk1 : 9 ≤ n := by omega
                      have hki : (9 : Int) ≤ (n : Int) := by omega
                      have hk2 : 1 ≤ n := by omega
                      have hk3 : (1 : Int) ≤ (n : Int) := by omega
                      have ew1 : IntKind.i64.wrap 1 = 1 := rfl

                      refine wp_region_sched (fun w' => w'.cell? ⟨w.heap.size, 0, none⟩ = some (.slice (some ⟨b, o, none⟩) n c)) [(true, 0), (true, 1), (true, 2), (true, 3), (true, 4), (true, 5), (true, 6), (true, 7), (false, 8)] (by kernel_rfl) (by kernel_rfl) rfl (by kernel_rfl) cb0 ?_
                      (repeat (first | (refine wpS_pass _ rfl (by rfl) ?_; simp only [Act.put, List.getElem_toArray, List.getElem_cons_zero, List.getElem_cons_succ, List.setIfInBounds_toArray, List.set_cons_zero, List.set_cons_succ]) | (refine wpS_take _ ?_ rfl (by rfl) ?_ ?_; rotate_left; (focus (intro w' hS'; (try dsimp only at hS'); (repeat (have hS1 := hS'.1; replace hS' := hS'.2)); go_simp; (try with_reducible rfl); done)); simp only [Act.put, List.getElem_toArray, List.getElem_cons_zero, List.getElem_cons_succ, List.setIfInBounds_toArray, List.set_cons_zero, List.set_cons_succ])))
                      (skip
                       obtain ⟨A', hA'⟩ : ∃ A', (if c = 9 then some (⟨b, o, none⟩ : Addr) else some ⟨b, o + 9, none⟩) = A' := ⟨_, rfl⟩
                       rw [hA']
                       have HA := Lib.hid hA'
                       clear hA'
                       refine wpS_do _ rfl (by rfl) (fun K hK => ?_)
                       have hc := HC.out
                       have f0 : W1.frozen? ⟨w.heap.size + 1, 0, none⟩ = false := row_free hc 0
                       have f1 : W1.frozen? ⟨w.heap.size + 1, 1, none⟩ = false := row_free hc 1
                       have c0 : W1.cell? ⟨w.heap.size + 1, 0, none⟩ = some (.slice none 0 0) := row_cell hc 0
                       have c1 : W1.cell? ⟨w.heap.size + 1, 1, none⟩ = some (.bool false) := row_cell hc 1
                       clear hc
                       go_simp
                       refine hK.out _ _ (by rw [set2_far _ _ _ _ _ (by simp)]; exact cb0) (fun hS => ?_)
                       clear hS hK f0 f1 c0 c1
                       refine wpS_done ?_
                       go_wp2_with fail
                       have hR := hH6.out
                       rw [hH3.out (by omega) (by omega)] at hR
                       subst hR
                       have hbl := (bel_set2 hbel hs1 (g := w.heap.size + 1) (by omega) (.slice A' (n - 9) (c - 9)) (.bool false)).drew
                       refine bodyPost_ret (results_tmp_row rfl _ _ _ _ _ _ _ rfl (row_set2d HC.out _ _) Try.underlying86 rfl info_in) rfl ?_
                       refine ⟨.agg #[.slice A' (n - 9) (c - 9), .bool false], by show Ending.returned (.tuple #[.int .i64 ((acc : Int) + (M : Int)), _]) = .returned (.tuple #[.int .i64 ((acc + M : Nat) : Int), _]); rw [Int.natCast_add], ?_, hbl⟩
                       have hI := in_dropK HKB.out (k := 8) (H4.out.below hbl) Hn.out (by omega) h2 h3
                       simp only [Nat.reduceAdd] at hI
                       rw [HA.out] at hI
                       exact hI))
          · have h8' : ¬ (k : Int) = 8 := by omega
            by_cases hx8 : 128 ≤ x.toNat
            · have hx8' : ¬ (x.toNat : Int) < 128 := by omega
              have hU7 : U ≤ 562949953421312 := by
                have := hU.out
                have h7 : 128 ^ min k 8 ≤ 128 ^ 7 := Nat.pow_le_pow_right (by decide) (by omega)
                have h77 : (128 : Nat) ^ 7 = 562949953421312 := by decide
                omega
              have hmin := minpow k (by omega)
              have hk8i : (k : Int) < 8 := by omega
              have HM := Lib.hid hmin
              clear hmin
              go_wp2_with fail
              go_round
              case rel => exact ⟨k + 1, acc + M, U * 128, by omega, by omega, by go_num, by go_num, by go_num, hH5, hV1, by show _ = _; rw [← HM.out, hU.out], by omega, by show _ = _; rw [← hH1.out hx8]; exact hH6.out⟩
              case measure => simp [intOf]; omega
            · have hx8' : (x.toNat : Int) < 128 := by omega
              go_wp2_with fail
              all_goals first
                | (
                    refine (failed_any _).mono ?_
                    rintro e w1 ⟨rfl, hbl⟩
                    have hc := (hbl.block _ (by rw [Hsz.out]; omega)).trans HC.out
                    have f0 := row_free hc 0
                    have f1 := row_free hc 1
                    have c0 : w1.cell? ⟨w.heap.size + 1, 0, none⟩ = some (.slice none 0 0) := row_cell hc 0
                    have c1 : w1.cell? ⟨w.heap.size + 1, 1, none⟩ = some (.bool false) := row_cell hc 1
                    have Hc := Lib.hid hc
                    clear hc
                    go_wp2_with fail
                    have hs1 : w.heap.size ≤ W1.heap.size := by rw [Hsz.out]; omega
                    have : R = (0, none) := by rw [← hH6.out]; exact hH2.out (by omega) (by omega)
                    subst this
                    exact bodyPost_ret (results_tmp_row rfl _ _ _ _ _ _ _ rfl (row_set2 Hc.out _ _) Try.underlying86 rfl info_in) rfl ⟨_, rfl, rfl, bel_set2 (hbel.trans (hbl.mono hs1)) (Nat.le_trans hs1 hbl.size) (by omega) _ _⟩)
                | (
                    have hs1 : w.heap.size ≤ W1.heap.size := by rw [Hsz.out]; omega
                    have hk1 : k + 1 ≤ n := by omega
                    have hki : (k : Int) + 1 ≤ (n : Int) := by omega
                    have hk2 : 1 ≤ n := by omega
                    have hk3 : (1 : Int) ≤ (n : Int) := by omega
                    have ew1 : IntKind.i64.wrap 1 = 1 := rfl
                    have ewk : IntKind.i64.wrap ((k : Int) + 1) = (k : Int) + 1 := by rw [IntKind.wrap_i64]; omega
                    have ewn : ((k : Int) + 1).toNat = k + 1 := by omega
                    have ewp : 0 ≤ (k : Int) + 1 := by omega
                    refine wp_region_sched (fun w' => w'.cell? ⟨w.heap.size, 0, none⟩ = some (.slice (some ⟨b, o, none⟩) n c)) [(true, 0), (true, 1), (true, 2), (true, 3), (true, 4), (true, 5), (true, 6), (true, 7), (false, 8)] (by kernel_rfl) (by kernel_rfl) rfl (by kernel_rfl) cb0 ?_
                    (repeat (first | (refine wpS_pass _ rfl (by rfl) ?_; simp only [Act.put, List.getElem_toArray, List.getElem_cons_zero, List.getElem_cons_succ, List.setIfInBounds_toArray, List.set_cons_zero, List.set_cons_succ]) | (refine wpS_take _ ?_ rfl (by rfl) ?_ ?_; rotate_left; (focus (intro w' hS'; (try dsimp only at hS'); (repeat (have hS1 := hS'.1; replace hS' := hS'.2)); go_simp; (try with_reducible rfl); done)); simp only [Act.put, List.getElem_toArray, List.getElem_cons_zero, List.getElem_cons_succ, List.setIfInBounds_toArray, List.set_cons_zero, List.set_cons_succ])))
                    first
                      | (obtain ⟨A', hA'⟩ : ∃ A', (if c = k + 1 then some (⟨b, o, none⟩ : Addr) else some ⟨b, o + (k + 1), none⟩) = A' := ⟨_, rfl⟩
                         rw [hA']
                         have HA := Lib.hid hA'
                         clear hA'
                         refine wpS_do _ rfl (by rfl) (fun K hK => ?_)
                         have hc := HC.out
                         have f0 : W1.frozen? ⟨w.heap.size + 1, 0, none⟩ = false := row_free hc 0
                         have f1 : W1.frozen? ⟨w.heap.size + 1, 1, none⟩ = false := row_free hc 1
                         have c0 : W1.cell? ⟨w.heap.size + 1, 0, none⟩ = some (.slice none 0 0) := row_cell hc 0
                         have c1 : W1.cell? ⟨w.heap.size + 1, 1, none⟩ = some (.bool false) := row_cell hc 1
                         clear hc
                         go_simp
                         refine hK.out _ _ (by rw [set2_far _ _ _ _ _ (by simp)]; exact cb0) (fun hS => ?_)
                         clear hS hK f0 f1 c0 c1
                         refine wpS_done ?_
                         go_wp2_with fail
                         have hR := hH6.out
                         rw [hH3.out (by omega) (by omega)] at hR
                         subst hR
                         have hbl := (bel_set2 hbel hs1 (g := w.heap.size + 1) (by omega) (.slice A' (n - (k + 1)) (c - (k + 1))) (.bool false)).drew
                         refine bodyPost_ret (results_tmp_row rfl _ _ _ _ _ _ _ rfl (row_set2d HC.out _ _) Try.underlying86 rfl info_in) rfl ?_
                         refine ⟨.agg #[.slice A' (n - (k + 1)) (c - (k + 1)), .bool false], by show Ending.returned (.tuple #[.int .i64 ((acc : Int) + (M : Int)), _]) = .returned (.tuple #[.int .i64 ((acc + M : Nat) : Int), _]); rw [Int.natCast_add], ?_, hbl⟩
                         have hI := in_dropK HKB.out (k := k) (H4.out.below hbl) Hn.out (by omega) h2 h3
                         rw [HA.out] at hI
                         exact hI)
                      | (obtain rfl : k = 0 := by assumption
                         obtain ⟨A', hA'⟩ : ∃ A', (if c = 1 then some (⟨b, o, none⟩ : Addr) else some ⟨b, o + 1, none⟩) = A' := ⟨_, rfl⟩
                         rw [hA']
                         have HA := Lib.hid hA'
                         clear hA'
                         refine wpS_do _ rfl (by rfl) (fun K hK => ?_)
                         have hc := HC.out
                         have f0 : W1.frozen? ⟨w.heap.size + 1, 0, none⟩ = false := row_free hc 0
                         have f1 : W1.frozen? ⟨w.heap.size + 1, 1, none⟩ = false := row_free hc 1
                         have c0 : W1.cell? ⟨w.heap.size + 1, 0, none⟩ = some (.slice none 0 0) := row_cell hc 0
                         have c1 : W1.cell? ⟨w.heap.size + 1, 1, none⟩ = some (.bool false) := row_cell hc 1
                         clear hc
                         go_simp
                         refine hK.out _ _ (by rw [set2_far _ _ _ _ _ (by simp)]; exact cb0) (fun hS => ?_)
                         clear hS hK f0 f1 c0 c1
                         refine wpS_done ?_
                         go_wp2_with fail
                         have hR := hH6.out
                         rw [hH3.out (by omega) (by omega)] at hR
                         subst hR
                         have hbl := (bel_set2 hbel hs1 (g := w.heap.size + 1) (by omega) (.slice A' (n - 1) (c - 1)) (.bool false)).drew
                         refine bodyPost_ret (results_tmp_row rfl _ _ _ _ _ _ _ rfl (row_set2d HC.out _ _) Try.underlying86 rfl info_in) rfl ?_
                         refine ⟨.agg #[.slice A' (n - 1) (c - 1), .bool false], by show Ending.returned (.tuple #[.int .i64 ((acc : Int) + (M : Int)), _]) = .returned (.tuple #[.int .i64 ((acc + M : Nat) : Int), _]); rw [Int.natCast_add], ?_, hbl⟩
                         have hI := in_dropK HKB.out (k := 0) (H4.out.below hbl) Hn.out (by omega) h2 h3
                         simp only [Nat.zero_add] at hI
                         rw [HA.out] at hI
                         exact hI))
        · have : k = 9 := by omega
          subst this
          have hR' := hR.out
          rw [numFrom_end] at hR'
          have HR' := Lib.hid hR'
          clear hR hR' hU hacc HR
          have hn := Hn.out
          have hlt' : 9 < n := by omega
          clear hn
          go_wp2_with fail
          refine (failed_any _).mono ?_
          rintro e w1 ⟨rfl, hbl⟩
          have hc := (hbl.block _ (by rw [Hsz.out]; omega)).trans HC.out
          have f0 := row_free hc 0
          have f1 := row_free hc 1
          have c0 : w1.cell? ⟨w.heap.size + 1, 0, none⟩ = some (.slice none 0 0) := row_cell hc 0
          have c1 : w1.cell? ⟨w.heap.size + 1, 1, none⟩ = some (.bool false) := row_cell hc 1
          have Hc := Lib.hid hc
          clear hc
          go_wp2_with fail
          have hs1 : w.heap.size ≤ W1.heap.size := by rw [Hsz.out]; omega
          have : R = (0, none) := by rw [← HR'.out]
          subst this
          exact bodyPost_ret (results_tmp_row rfl _ _ _ _ _ _ _ rfl (row_set2 Hc.out _ _) Try.underlying86 rfl info_in) rfl ⟨_, rfl, rfl, bel_set2 (hbel.trans (hbl.mono hs1)) (Nat.le_trans hs1 hbl.size) (by omega) _ _⟩
      · have hn := Hn.out
        have hlt' : ¬ k < n := by omega
        have hR' := hR.out
        have hk0 : k = bs.length := by omega
        have hR2 : (0, none) = R := by
          rw [← hR', List.drop_of_length_le (by omega)]
          by_cases h9 : k < 9
          · exact (numFrom_none most k acc h9 (some []) (by intro b hb; cases hb; simp)).symm
          · obtain rfl : k = 9 := by omega
            exact (numFrom_end _ _ _).symm
        have HR' := Lib.hid hR2
        clear hR hR' hU hacc HR hn hk0 hR2
        go_wp2_with fail
        refine (failed_any _).mono ?_
        rintro e w1 ⟨rfl, hbl⟩
        have hc := (hbl.block _ (by rw [Hsz.out]; omega)).trans HC.out
        have f0 := row_free hc 0
        have f1 := row_free hc 1
        have c0 : w1.cell? ⟨w.heap.size + 1, 0, none⟩ = some (.slice none 0 0) := row_cell hc 0
        have c1 : w1.cell? ⟨w.heap.size + 1, 1, none⟩ = some (.bool false) := row_cell hc 1
        have Hc := Lib.hid hc
        clear hc
        go_wp2_with fail
        have hs1 : w.heap.size ≤ W1.heap.size := by rw [Hsz.out]; omega
        have : R = (0, none) := by rw [← HR'.out]
        subst this
        exact bodyPost_ret (results_tmp_row rfl _ _ _ _ _ _ _ rfl (row_set2 Hc.out _ _) Try.underlying86 rfl info_in) rfl ⟨_, rfl, rfl, bel_set2 (hbel.trans (hbl.mono hs1)) (Nat.le_trans hs1 hbl.size) (by omega) _ _⟩

set_option maxRecDepth 100000 in
set_option maxHeartbeats 2000000 in
theorem igettext_k (KB : Nat) (st : St) (v : Value) (most : Int) (w : World) (h : InK w KB v st) :
    Calls Try.prog 51 #[v, .int .i64 most] w fun e w' => ∃ u, e = .returned (.tuple #[.string ⟨(getText st most).1.toArray⟩, u]) ∧ InK w' KB u (getText st most).2 ∧ Below w.heap.size w w' := by
  have hv : ∃ x y, v = .agg #[x, y] := by
    cases st with
    | none => exact ⟨_, _, h⟩
    | some bs => obtain ⟨A, n, c, rfl, _⟩ := h; exact ⟨_, _, rfl⟩
  obtain ⟨x, y, rfl⟩ := hv
  have hgn := fun w1 (hb : Below w.heap.size w w1) => igetnum_k KB st (.agg #[x, y]) most w1 (h.below hb)
  have hle := getNum_le st most
  have hcases := st_cases (getNum st most).2 (getNum st most).1
  have hT : getText st most = getN (getNum st most).2 (getNum st most).1 := rfl
  generalize getText st most = T at *
  generalize getNum st most = R at *
  obtain ⟨n, st2⟩ := R
  dsimp only at hgn hle hcases hT
  have HG := Lib.hid hgn
  have HT := Lib.hid hT
  obtain ⟨W1, hW1, hb, hc, hbel, hsz⟩ := in_entry w x y
  have cb0 : W1.cell? ⟨w.heap.size, 0, none⟩ = some x := row_cell hb 0
  have cb1 : W1.cell? ⟨w.heap.size, 1, none⟩ = some y := row_cell hb 1
  have HB := Lib.hid hb
  have HC := Lib.hid hc
  have Hsz := Lib.hid hsz
  clear hb hc hsz hgn hT h
  go_enter Try.func51, Try.ntmps51
  go_wp2_with (refine wpList_load_row rfl _ _ rfl _ rfl _ _ _ _ HB.out Try.underlying86 rfl info_in ?_)
  refine (HG.out W1 hbel).mono ?_
  rintro e w2 ⟨u, rfl, hu, hb2⟩
  have hs1 : w.heap.size ≤ W1.heap.size := by rw [Hsz.out]; omega
  have hc2 := (hb2.block _ (by rw [Hsz.out]; omega)).trans HC.out
  have HC2 := Lib.hid hc2
  have hbl2 := hbel.trans (hb2.mono hs1)
  have hs2 := hb2.size
  clear hc2 hW1 cb0 cb1 HG
  rcases hcases with ⟨bs, rfl, hlen⟩ | hno
  · obtain ⟨A2, n2, c2, rfl, hn2, h2, h3, h4, hkb⟩ := hu
    have hl : ¬ (n2 : Int) < (n : Int) := by omega
    have Hn2 := Lib.hid hn2
    have Hlen := Lib.hid hlen
    have H4 := Lib.hid h4
    have HKB := Lib.hid hkb
    clear hn2 hlen h4 hb2 hkb
    go_wp2_with fail
    obtain ⟨W3, hW3⟩ : ∃ W3, w2.alloc (.cells #[.slice A2 n2 c2, .bool false] 86) = W3 := ⟨_, rfl⟩
    have hcy : W3.heap[w2.heap.size]? = some (.cells #[.slice A2 n2 c2, .bool false] 86 (0, 0)) := by rw [← hW3]; exact heap_alloc_new w2 _
    have cy0 : W3.cell? ⟨w2.heap.size, 0, none⟩ = some (.slice A2 n2 c2) := row_cell hcy 0
    have hb3 : Below w2.heap.size w2 W3 := by rw [← hW3]; exact (Below.refl _ _).alloc (Nat.le_refl _) _
    have hc3 := (hb3.block _ (by have := Hsz.out; omega)).trans HC2.out
    have HC3 := Lib.hid hc3
    have hr3 : Rd W3 A2 (b8s bs) := H4.out.below hb3
    have hlen := Hlen.out
    have hn2 := Hn2.out
    have hn1 : (n : Int) ≤ (n2 : Int) := by omega
    have hn3 : n ≤ n2 := by omega
    have hn4 : n ≤ c2 := by omega
    have hn5 : (n : Int) ≤ (c2 : Int) := by omega
    rw [hW3]
    clear hW3 hcy hc3 hn2 hlen
    refine wp_region_sched (fun w' => w'.cell? ⟨w2.heap.size, 0, none⟩ = some (.slice A2 n2 c2) ∧ Rd w' A2 (b8s bs)) [(true, 0), (true, 1), (true, 2), (true, 3), (true, 4), (true, 5), (true, 6), (true, 7), (true, 8), (true, 9), (true, 10), (false, 11)] (by kernel_rfl) (by kernel_rfl) rfl (by kernel_rfl) ⟨cy0, hr3⟩ ?_
    (repeat (first | (refine wpS_pass _ rfl (by rfl) ?_; simp only [Act.put, List.getElem_toArray, List.getElem_cons_zero, List.getElem_cons_succ, List.setIfInBounds_toArray, List.set_cons_zero, List.set_cons_succ]) | (refine wpS_take _ ?_ rfl (by rfl) ?_ ?_; rotate_left; (focus (intro w' hS'; (try dsimp only at hS'); (repeat (have hS1 := hS'.1; replace hS' := hS'.2)); go_simp; (try with_reducible rfl); done)); simp only [Act.put, List.getElem_toArray, List.getElem_cons_zero, List.getElem_cons_succ, List.setIfInBounds_toArray, List.set_cons_zero, List.set_cons_succ])))
    refine wpS_take _ (.string ⟨(bs.take n).toArray⟩) rfl (by rfl) (fun w' hS' => ?_) ?_
    · have htk : Rd w' A2 (b8s (bs.take n)) := by have := hS'.2.take n; rwa [← b8s_take] at this
      have hcv := run_str_of_bytes (P := Try.prog) (src := 26) (dst := 9) (e := 5) n c2 (by have := Hlen.out; rw [List.length_take]; omega) Try.underlying26 Try.underlying5 Try.underlying9 htk
      go_simp
    simp only [Act.put, List.getElem_toArray, List.getElem_cons_zero, List.getElem_cons_succ, List.setIfInBounds_toArray, List.set_cons_zero, List.set_cons_succ]
    (repeat (first | (refine wpS_pass _ rfl (by rfl) ?_; simp only [Act.put, List.getElem_toArray, List.getElem_cons_zero, List.getElem_cons_succ, List.setIfInBounds_toArray, List.set_cons_zero, List.set_cons_succ]) | (refine wpS_take _ ?_ rfl (by rfl) ?_ ?_; rotate_left; (focus (intro w' hS'; (try dsimp only at hS'); (repeat (have hS1 := hS'.1; replace hS' := hS'.2)); go_simp; (try with_reducible rfl); done)); simp only [Act.put, List.getElem_toArray, List.getElem_cons_zero, List.getElem_cons_succ, List.setIfInBounds_toArray, List.set_cons_zero, List.set_cons_succ])))
    obtain ⟨A', hA'⟩ : ∃ A', (if c2 = n then A2 else Option.map (fun x => x.add n) A2) = A' := ⟨_, rfl⟩
    rw [hA']
    have HA := Lib.hid hA'
    clear hA'
    refine wpS_do _ rfl (by rfl) (fun K hK => ?_)
    have hc := HC3.out
    have f0 : W3.frozen? ⟨w.heap.size + 1, 0, none⟩ = false := row_free hc 0
    have f1 : W3.frozen? ⟨w.heap.size + 1, 1, none⟩ = false := row_free hc 1
    have c0 : W3.cell? ⟨w.heap.size + 1, 0, none⟩ = some (.slice none 0 0) := row_cell hc 0
    have c1 : W3.cell? ⟨w.heap.size + 1, 1, none⟩ = some (.bool false) := row_cell hc 1
    clear hc
    go_simp
    have hr4 := fun x y => rd_keep_row HC3.out (fun z => by simp) (fun z => by simp) hr3 (grown_set2 W3 (w.heap.size + 1) x y)
    refine hK.out _ _ ⟨by rw [set2_far _ _ _ _ _ (by have := Hsz.out; dsimp only; omega)]; exact cy0, hr4 _ _⟩ (fun hS => ?_)
    have HR4 := Lib.hid hS.2
    clear hS hK f0 f1 c0 c1 hr4 hr3 cy0
    refine wpS_done ?_
    go_wp2_with fail
    have hT := HT.out
    rw [getN_yes Hlen.out] at hT
    subst hT
    have hbl3 := hbl2.trans (hb3.mono (by omega))
    have hbl := (bel_set2 hbl3 (by have := hb3.size; omega) (g := w.heap.size + 1) (by omega) (.slice A' (n2 - n) (c2 - n)) (.bool false)).drew
    refine bodyPost_ret (results_tmp_row rfl _ _ _ _ _ _ _ rfl (row_set2d HC3.out _ _) Try.underlying86 rfl info_in) rfl ?_
    refine ⟨.agg #[.slice A' (n2 - n) (c2 - n), .bool false], rfl, ?_, hbl⟩
    have hd := Rd.drop (k := n) (size := 1) (cap := c2) HR4.out (by rw [b8s_length]; have := Hn2.out; omega)
    rw [Nat.mul_one, ← b8s_drop, HA.out] at hd
    exact ⟨_, _, _, rfl, by have := Hn2.out; rw [List.length_drop]; omega, by omega, by omega, hd, in_keep HKB.out (by rw [← HA.out]) ⟩
  · cases st2 with
    | none =>
      cases hu
      go_wp2_with fail
      refine (failed_any _).mono ?_
      rintro e w5 ⟨rfl, hb5⟩
      have hb25 : Below w2.heap.size w2 w5 := ((Below.refl _ _).alloc (Nat.le_refl _) _).trans (hb5.mono (by simp))
      have hc := (hb25.block _ (by have := Hsz.out; omega)).trans HC2.out
      have f0 := row_free hc 0
      have f1 := row_free hc 1
      have c0 : w5.cell? ⟨w.heap.size + 1, 0, none⟩ = some (.slice none 0 0) := row_cell hc 0
      have c1 : w5.cell? ⟨w.heap.size + 1, 1, none⟩ = some (.bool false) := row_cell hc 1
      have Hc := Lib.hid hc
      clear hc
      go_wp2_with fail
      have := HT.out
      rw [getN_no hno] at this
      subst this
      have hs5 := hb5.size
      exact bodyPost_ret (results_tmp_row rfl _ _ _ _ _ _ _ rfl (row_set2 Hc.out _ _) Try.underlying86 rfl info_in) rfl ⟨_, rfl, rfl, bel_set2 (hbl2.trans (hb25.mono (by omega))) (by have := hb25.size; omega) (by omega) _ _⟩
    | some bs =>
      have hl := hno bs rfl
      obtain ⟨A2, n2, c2, rfl, hn2, h2, h3, h4, hkb⟩ := hu
      have hl' : (n2 : Int) < (n : Int) := by omega
      have hl2 : n2 < n := by omega
      clear hl hn2 h4 hkb
      go_wp2_with fail
      refine (failed_any _).mono ?_
      rintro e w5 ⟨rfl, hb5⟩
      have hb25 : Below w2.heap.size w2 w5 := ((Below.refl _ _).alloc (Nat.le_refl _) _).trans (hb5.mono (by simp))
      have hc := (hb25.block _ (by have := Hsz.out; omega)).trans HC2.out
      have f0 := row_free hc 0
      have f1 := row_free hc 1
      have c0 : w5.cell? ⟨w.heap.size + 1, 0, none⟩ = some (.slice none 0 0) := row_cell hc 0
      have c1 : w5.cell? ⟨w.heap.size + 1, 1, none⟩ = some (.bool false) := row_cell hc 1
      have Hc := Lib.hid hc
      clear hc
      go_wp2_with fail
      have := HT.out
      rw [getN_no hno] at this
      subst this
      have hs5 := hb5.size
      exact bodyPost_ret (results_tmp_row rfl _ _ _ _ _ _ _ rfl (row_set2 Hc.out _ _) Try.underlying86 rfl info_in) rfl ⟨_, rfl, rfl, bel_set2 (hbl2.trans (hb25.mono (by omega))) (by have := hb25.size; omega) (by omega) _ _⟩

set_option maxRecDepth 100000 in
set_option maxHeartbeats 400000 in
theorem igetid_k (KB : Nat) (st : St) (v : Value) (w : World) (h : InK w KB v st) :
    Calls Try.prog 52 #[v] w fun e w' => ∃ u, e = .returned (.tuple #[.agg (b8s (getId st).1).toArray, u]) ∧ InK w' KB u (getId st).2 ∧ Below w.heap.size w w' := by
  have hcases := st_cases st 32
  have hT : getId st = (padId (getN st 32).1, (getN st 32).2) := rfl
  generalize getId st = T at *
  have HT := Lib.hid hT
  clear hT
  rcases hcases with ⟨bs, rfl, hlen⟩ | hno
  · obtain ⟨A, n, c, rfl, hn, h2, h3, h4, hkb⟩ := h
    have hl : ¬ (n : Int) < 32 := by omega
    have Hn := Lib.hid hn
    have H4 := Lib.hid h4
    have HKB := Lib.hid hkb
    obtain ⟨Wa, Wb, Wc, W1, hWa, hWb, hWc, hW1, hsa, hsb, hsc, hs1, ha, hb, hc, hd, hbel⟩ := id_entry w (.slice A n c) (.bool false)
    have hWb' : Wa.alloc (.cells #[Value.int .u8 0, Value.int .u8 0, Value.int .u8 0, Value.int .u8 0, Value.int .u8 0, Value.int .u8 0, Value.int .u8 0, Value.int .u8 0, Value.int .u8 0, Value.int .u8 0, Value.int .u8 0, Value.int .u8 0, Value.int .u8 0, Value.int .u8 0, Value.int .u8 0, Value.int .u8 0, Value.int .u8 0, Value.int .u8 0, Value.int .u8 0, Value.int .u8 0, Value.int .u8 0, Value.int .u8 0, Value.int .u8 0, Value.int .u8 0, Value.int .u8 0, Value.int .u8 0, Value.int .u8 0, Value.int .u8 0, Value.int .u8 0, Value.int .u8 0, Value.int .u8 0, Value.int .u8 0] 24) = Wb := hWb
    have hW1' : Wc.alloc (.cells #[Value.int .u8 0, Value.int .u8 0, Value.int .u8 0, Value.int .u8 0, Value.int .u8 0, Value.int .u8 0, Value.int .u8 0, Value.int .u8 0, Value.int .u8 0, Value.int .u8 0, Value.int .u8 0, Value.int .u8 0, Value.int .u8 0, Value.int .u8 0, Value.int .u8 0, Value.int .u8 0, Value.int .u8 0, Value.int .u8 0, Value.int .u8 0, Value.int .u8 0, Value.int .u8 0, Value.int .u8 0, Value.int .u8 0, Value.int .u8 0, Value.int .u8 0, Value.int .u8 0, Value.int .u8 0, Value.int .u8 0, Value.int .u8 0, Value.int .u8 0, Value.int .u8 0, Value.int .u8 0] 24) = W1 := hW1
    have hthere : W1.there (w.heap.size + 1 + 1 + 1) 0 32 := there_of_row hd
    have HT4 := Lib.hid hthere
    obtain ⟨W2, hW2, ha, hb, hc, hd, hbel, hs2⟩ := id_second ha hb hc hd hbel hs1
    have ca0 : W2.cell? ⟨w.heap.size, 0, none⟩ = some (.slice A n c) := row_cell ha 0
    have ca1 : W2.cell? ⟨w.heap.size, 1, none⟩ = some (.bool false) := row_cell ha 1
    have Ha := Lib.hid ha
    have Hb := Lib.hid hb
    have Hc := Lib.hid hc
    have Hd := Lib.hid hd
    have Hs2 := Lib.hid hs2
    clear hn h4 hkb hWb hW1 ha hb hc hd hthere hs2
    go_enter Try.func52, Try.ntmps52
    go_wp2_with ((with_reducible (refine wpList_store_mid rfl _ _ _ rfl ?_ ?_ ?_ ?_ ?_ ?_ ?_ ?_ ?_)); (exact w.heap.size + 1 + 1 + 1); (exact 0); (exact #[Value.int .u8 0, Value.int .u8 0, Value.int .u8 0, Value.int .u8 0, Value.int .u8 0, Value.int .u8 0, Value.int .u8 0, Value.int .u8 0, Value.int .u8 0, Value.int .u8 0, Value.int .u8 0, Value.int .u8 0, Value.int .u8 0, Value.int .u8 0, Value.int .u8 0, Value.int .u8 0, Value.int .u8 0, Value.int .u8 0, Value.int .u8 0, Value.int .u8 0, Value.int .u8 0, Value.int .u8 0, Value.int .u8 0, Value.int .u8 0, Value.int .u8 0, Value.int .u8 0, Value.int .u8 0, Value.int .u8 0, Value.int .u8 0, Value.int .u8 0, Value.int .u8 0, Value.int .u8 0]); (focus (simp [Act.eval]; done)); (focus (simp [Act.eval]; done)); (exact zl_there HT4.out); (exact info_zl); (exact zl_one); rw [hW2])
    clear hWa hWc hWb' hW1' hW2 hsa hsb hsc hs1 HT4
    go_loopw [5] (fun i wr => ∃ (k : Nat), k ≤ 32 ∧ i = .int .i64 (k : Int) ∧ wr.heap[w.heap.size]? = some (.cells #[.slice A n c, .bool false] 86 (0, 0)) ∧ Hid (wr.heap[w.heap.size + 1]? = some (.cells (b8s zeros32).toArray 24 (0, 0))) ∧ Hid (wr.heap[w.heap.size + 1 + 1]? = some (.cells #[.slice none 0 0, .bool false] 86 (0, 0))) ∧
      wr.heap[w.heap.size + 1 + 1 + 1]? = some (.cells (b8s (part bs k)).toArray 24 (0, 0)) ∧ Below w.heap.size w wr ∧ w.heap.size + 1 + 1 + 1 < wr.heap.size) (fun i _ => 32 - (intOf i).toNat)
    case atStart => exact ⟨0, by omega, rfl, Ha.out, Hb, Hc, Hd.out, hbel, Hs2.out⟩
    case round =>
      clear ca0 ca1 Ha Hb Hc Hd hbel Hs2
      obtain ⟨k, hk, rfl, ha, Hb, Hc, hd, hbel, hsz⟩ := hrel
      have ca0 : wr.cell? ⟨w.heap.size, 0, none⟩ = some (.slice A n c) := row_cell ha 0
      have Ha := Lib.hid ha
      have Hd := Lib.hid hd
      by_cases hlt : k < 32
      · obtain ⟨b, o, rfl, hcell⟩ := (H4.out.below hbel).byte k (by omega)
        have hkn : (k : Int) < (n : Int) := by have := Hn.out; omega
        have hkn2 : k < n := by have := Hn.out; omega
        obtain ⟨v0, hv0⟩ := part_cell bs k (by omega) hlt
        have hd0 : wr.cell? ⟨w.heap.size + 1 + 1 + 1, k, none⟩ = some v0 := (row_cell hd k).trans hv0
        have hf0 : wr.frozen? ⟨w.heap.size + 1 + 1 + 1, k, none⟩ = false := row_free hd k
        clear ha hd hv0
        have hgs := grown_set (w := wr) (w.heap.size + 1 + 1 + 1) k (.int .u8 (bs[k].toNat : Int))
        go_wp2_with fail
        go_roundw
        case rel =>
          refine ⟨k + 1, by omega, by go_num, ?_, ?_, ?_, ?_, ?_, ?_⟩
          · exact (hgs.block _ (by omega) (by simp; omega)).trans Ha.out
          · exact (hgs.block _ (by omega) (by simp)).trans Hb.out
          · exact (hgs.block _ (by omega) (by simp)).trans Hc.out
          · have := row_set Hd.out k (.int .u8 (bs[k].toNat : Int))
            rw [part_step bs k (by omega) hlt] at this
            exact this
          · exact bel_grown hbel (by omega) hgs (by omega)
          · exact Nat.lt_of_lt_of_le hsz hgs.size
        case measure => simp [intOf]; omega
      · obtain rfl : k = 32 := by omega
        rw [part_done] at Hd
        have hn32 : 32 ≤ n := by have := Hn.out; omega
        have hn32i : (32 : Int) ≤ (n : Int) := by omega
        have hbi : (bs.take 32).length = 32 := by rw [List.length_take]; omega
        go_wp2_with fail
        refine wp_region_sched (fun w' => w'.heap[w.heap.size + 1 + 1 + 1]? = some (.cells (b8s (bs.take 32)).toArray 24 (0, 0)) ∧ w'.cell? ⟨w.heap.size, 0, none⟩ = some (.slice A n c)) [(true, 0), (true, 1), (true, 2), (true, 3), (true, 4), (false, 5), (false, 6)] (by kernel_rfl) (by kernel_rfl) rfl (by kernel_rfl) ⟨Hd.out, ca0⟩ ?_
        refine wpS_load _ rfl (by rfl) _ _ rfl _ _ rfl (b8s (bs.take 32)) _ (fun w' hS' => range_of_row hS'.1) Try.underlying24 rfl (by rw [b8s_length, hbi]; exact info_arr) ?_
        simp only [Act.put, List.getElem_toArray, List.getElem_cons_zero, List.getElem_cons_succ, List.setIfInBounds_toArray, List.set_cons_zero, List.set_cons_succ]
        (repeat (first | (refine wpS_pass _ rfl (by rfl) ?_; simp only [Act.put, List.getElem_toArray, List.getElem_cons_zero, List.getElem_cons_succ, List.setIfInBounds_toArray, List.set_cons_zero, List.set_cons_succ]) | (refine wpS_take _ ?_ rfl (by rfl) ?_ ?_; rotate_left; (focus (intro w' hS'; (try dsimp only at hS'); (repeat (have hS1 := hS'.1; replace hS' := hS'.2)); go_simp; (try with_reducible rfl); done)); simp only [Act.put, List.getElem_toArray, List.getElem_cons_zero, List.getElem_cons_succ, List.setIfInBounds_toArray, List.set_cons_zero, List.set_cons_succ])))
        obtain ⟨A', hA'⟩ : ∃ A', (if c = 32 then A else Option.map (fun x => (⟨x.block, x.off + 32, none⟩ : Addr)) A) = A' := ⟨_, rfl⟩
        rw [hA']
        have HA := Lib.hid hA'
        clear hA'
        generalize hI : bs.take 32 = idv at *
        have hth : wr.drew.there (w.heap.size + 1) 0 (b8s idv).toArray.size := by
          have e : (b8s idv).toArray.size = 32 := by simp [b8s, hbi]
          rw [e]
          exact there_of_row (w := wr.drew) Hb.out
        have hinf : (Try.prog.info? 24).map (·.size) = some (b8s idv).toArray.size := by
          have e : (b8s idv).toArray.size = 32 := by simp [b8s, hbi]
          rw [e]
          exact info_arr
        have hsc := setCells_grown (w.heap.size + 1) (b8s idv) 0 wr.drew
        have hrb := row_setAll (w := wr.drew) (vs := b8s idv) Hb.out (by rw [b8s_length, b8s_length, hbi]; rfl)
        have hlist : ((b8s idv).toArray).toList = b8s idv := rfl
        refine wpS_do _ rfl (by rfl) (fun K hK => ?_)
        refine wp_store_mid _ _ _ rfl (w.heap.size + 1) 0 (b8s idv).toArray rfl rfl hth hinf (all_oneCell_toArray (b8s_one' _)) ?_
        rw [hlist]
        generalize wr.drew.setCells (w.heap.size + 1) 0 (b8s idv) = w5 at *
        have hszd : wr.drew.heap.size = wr.heap.size := rfl
        have ha5 := (hsc.block w.heap.size (by omega) (by first | (simp; done) | (simp; omega))).trans Ha.out
        have hc5 := (hsc.block (w.heap.size + 1 + 1) (by omega) (by first | (simp; done) | (simp; omega))).trans Hc.out
        have hd5 := (hsc.block (w.heap.size + 1 + 1 + 1) (by omega) (by first | (simp; done) | (simp; omega))).trans Hd.out
        have hb5 := bel_grown (w1 := wr.drew) hbel.drew (by omega) hsc (by omega)
        have hs5 := hsc.size
        have ca5 : w5.cell? ⟨w.heap.size, 0, none⟩ = some (.slice A n c) := row_cell ha5 0
        refine hK.out _ _ ⟨hd5, ca5⟩ (fun hS => ?_)
        clear hK hS
        have Hb5 := Lib.hid hrb
        have Hc5 := Lib.hid hc5
        have Hd5 := Lib.hid hd5
        have hinf2 := hinf
        clear hrb hc5 hd5 ha5 hsc hth hinf hlist Ha Hb Hc Hd ca0
        refine wpS_do _ rfl (by rfl) (fun K hK => ?_)
        simp only [Act.put, List.getElem_toArray, List.getElem_cons_zero, List.getElem_cons_succ, List.setIfInBounds_toArray, List.set_cons_zero, List.set_cons_succ]
        have f0 : w5.frozen? ⟨w.heap.size + 1 + 1, 0, none⟩ = false := row_free Hc5.out 0
        have f1 : w5.frozen? ⟨w.heap.size + 1 + 1, 1, none⟩ = false := row_free Hc5.out 1
        have c0 : w5.cell? ⟨w.heap.size + 1 + 1, 0, none⟩ = some (.slice none 0 0) := row_cell Hc5.out 0
        have c1 : w5.cell? ⟨w.heap.size + 1 + 1, 1, none⟩ = some (.bool false) := row_cell Hc5.out 1
        go_simp
        refine hK.out _ _ ⟨?_, ?_⟩ (fun hS => ?_)
        · have := (grown_set2 w5 (w.heap.size + 1 + 1) (.slice A' (n - 32) (c - 32)) (.bool false)).block (w.heap.size + 1 + 1 + 1) (by omega) (by first | (simp; done) | (simp; omega))
          exact this.trans Hd5.out
        · exact (set2_far _ _ _ _ _ (by dsimp only; omega)).trans ca5
        clear hK hS f0 f1 c0 c1 ca5
        refine wpS_done ?_
        have hg6 := grown_set2 w5 (w.heap.size + 1 + 1) (.slice A' (n - 32) (c - 32)) (.bool false)
        have hb6 := (hg6.block (w.heap.size + 1) (by omega) (by first | (simp; done) | (simp; omega))).trans Hb5.out
        have hc6 := row_set2 Hc5.out (.slice A' (n - 32) (c - 32)) (.bool false)
        have hbel6 := bel_set2 hb5 (by omega) (g := w.heap.size + 1 + 1) (by omega) (.slice A' (n - 32) (c - 32)) (.bool false)
        have HB6 := Lib.hid hb6
        have HC6 := Lib.hid hc6
        clear hb6 hc6 hg6
        go_wp2_with fail
        have hT := HT.out
        rw [getN_yes hlen] at hT
        have hpad : padId (bs.take 32) = idv := by
          rw [hI]
          unfold padId
          rw [if_neg (by intro h0; rw [h0] at hbi; simp at hbi)]
        dsimp only at hT
        rw [hpad] at hT
        subst hT
        refine bodyPost_ret (results_row_row rfl _ _ _ _ _ _ _ _ _ _ _ _ rfl HC6.out Try.underlying86 rfl info_in rfl HB6.out Try.underlying24 rfl hinf2) rfl ?_
        refine ⟨.agg #[.slice A' (n - 32) (c - 32), .bool false], rfl, ?_, hbel6⟩
        have hd := Rd.drop (k := 32) (size := 1) (cap := c) (H4.out.below hbel6) (by rw [b8s_length]; have := Hn.out; omega)
        rw [Nat.mul_one, ← b8s_drop] at hd
        refine ⟨_, _, _, rfl, by have := Hn.out; rw [List.length_drop]; omega, by omega, by omega, ?_, ?_⟩; rotate_left; exact in_keep2 HKB.out HA.out
        have hA2 : (if c = 32 then A else A.map (·.add 32)) = A' := by
          rw [← HA.out]
          obtain ⟨b, o, hA, _⟩ := H4.out.byte 0 (by omega)
          rw [hA]
          simp [Addr.add]
        rw [hA2] at hd
        exact hd
  · have hT := HT.out
    rw [getN_no hno] at hT
    have HT2 := Lib.hid hT
    clear hT HT
    cases st with
    | none =>
      cases h
      obtain ⟨Wa, Wb, Wc, W1, hWa, hWb, hWc, hW1, hsa, hsb, hsc, hs1, ha, hb, hc, hd, hbel⟩ := id_entry w (.slice none 0 0) (.bool true)
      have hWb' : Wa.alloc (.cells #[Value.int .u8 0, Value.int .u8 0, Value.int .u8 0, Value.int .u8 0, Value.int .u8 0, Value.int .u8 0, Value.int .u8 0, Value.int .u8 0, Value.int .u8 0, Value.int .u8 0, Value.int .u8 0, Value.int .u8 0, Value.int .u8 0, Value.int .u8 0, Value.int .u8 0, Value.int .u8 0, Value.int .u8 0, Value.int .u8 0, Value.int .u8 0, Value.int .u8 0, Value.int .u8 0, Value.int .u8 0, Value.int .u8 0, Value.int .u8 0, Value.int .u8 0, Value.int .u8 0, Value.int .u8 0, Value.int .u8 0, Value.int .u8 0, Value.int .u8 0, Value.int .u8 0, Value.int .u8 0] 24) = Wb := hWb
      have hW1' : Wc.alloc (.cells #[Value.int .u8 0, Value.int .u8 0, Value.int .u8 0, Value.int .u8 0, Value.int .u8 0, Value.int .u8 0, Value.int .u8 0, Value.int .u8 0, Value.int .u8 0, Value.int .u8 0, Value.int .u8 0, Value.int .u8 0, Value.int .u8 0, Value.int .u8 0, Value.int .u8 0, Value.int .u8 0, Value.int .u8 0, Value.int .u8 0, Value.int .u8 0, Value.int .u8 0, Value.int .u8 0, Value.int .u8 0, Value.int .u8 0, Value.int .u8 0, Value.int .u8 0, Value.int .u8 0, Value.int .u8 0, Value.int .u8 0, Value.int .u8 0, Value.int .u8 0, Value.int .u8 0, Value.int .u8 0] 24) = W1 := hW1
      have hthere : W1.there (w.heap.size + 1 + 1 + 1) 0 32 := there_of_row hd
      have HT4 := Lib.hid hthere
      obtain ⟨W2, hW2, ha, hb, hc, hd, hbel, hs2⟩ := id_second ha hb hc hd hbel hs1
      have ca0 : W2.cell? ⟨w.heap.size, 0, none⟩ = some (.slice none 0 0) := row_cell ha 0
      have ca1 : W2.cell? ⟨w.heap.size, 1, none⟩ = some (.bool true) := row_cell ha 1
      have Ha := Lib.hid ha
      have Hb := Lib.hid hb
      have Hc := Lib.hid hc
      have Hd := Lib.hid hd
      have Hs2 := Lib.hid hs2
      clear hWb hW1 ha hb hc hd hthere hs2
      go_enter Try.func52, Try.ntmps52
      go_wp2_with ((with_reducible (refine wpList_store_mid rfl _ _ _ rfl ?_ ?_ ?_ ?_ ?_ ?_ ?_ ?_ ?_)); (exact w.heap.size + 1 + 1 + 1); (exact 0); (exact #[Value.int .u8 0, Value.int .u8 0, Value.int .u8 0, Value.int .u8 0, Value.int .u8 0, Value.int .u8 0, Value.int .u8 0, Value.int .u8 0, Value.int .u8 0, Value.int .u8 0, Value.int .u8 0, Value.int .u8 0, Value.int .u8 0, Value.int .u8 0, Value.int .u8 0, Value.int .u8 0, Value.int .u8 0, Value.int .u8 0, Value.int .u8 0, Value.int .u8 0, Value.int .u8 0, Value.int .u8 0, Value.int .u8 0, Value.int .u8 0, Value.int .u8 0, Value.int .u8 0, Value.int .u8 0, Value.int .u8 0, Value.int .u8 0, Value.int .u8 0, Value.int .u8 0, Value.int .u8 0]); (focus (simp [Act.eval]; done)); (focus (simp [Act.eval]; done)); (exact zl_there HT4.out); (exact info_zl); (exact zl_one); rw [hW2])
      clear hWa hWc hWb' hW1' hW2 hsa hsb hsc hs1 HT4 ca0 ca1
      refine wp_region_sched (fun w' => w'.heap[w.heap.size + 1 + 1 + 1]? = some (.cells (b8s zeros32).toArray 24 (0, 0))) [(true, 0), (false, 1), (false, 2), (false, 3)] (by kernel_rfl) (by kernel_rfl) rfl (by kernel_rfl) Hd.out ?_
      refine wpS_load _ rfl (by rfl) _ _ rfl _ _ rfl (b8s zeros32) _ (fun w' hS' => range_of_row hS') Try.underlying24 rfl (by rw [b8s_length]; exact info_arr) ?_
      simp only [Act.put, List.getElem_toArray, List.getElem_cons_zero, List.getElem_cons_succ, List.setIfInBounds_toArray, List.set_cons_zero, List.set_cons_succ]
      generalize hZ : b8s zeros32 = Z at *
      refine wpS_do _ rfl (by rfl) (fun K hK => ?_)
      go_simp
      refine (failed_any _).mono ?_
      rintro e w3 ⟨rfl, hb3⟩
      have hs2 := Hs2.out
      have hd3 := (hb3.block (w.heap.size + 1 + 1 + 1) (by simpa using hs2)).trans Hd.out
      have hc3 := (hb3.block (w.heap.size + 1 + 1) (by show _ < W2.heap.size; omega)).trans Hc.out
      have hr3 := (hb3.block (w.heap.size + 1) (by show _ < W2.heap.size; omega)).trans Hb.out
      have hbel3 := hbel.trans ((show Below W2.heap.size W2 w3 from ⟨hb3.os, hb3.tape, hb3.output, hb3.size, hb3.block⟩).mono (by omega))
      have hs3 : W2.heap.size ≤ w3.heap.size := hb3.size
      refine hK.out _ _ hd3 (fun hS => ?_)
      clear hK hS
      have hzl : Z.length = 32 := by rw [← hZ, b8s_length]; rfl
      have hzs : Z.toArray.size = 32 := by rw [List.size_toArray]; exact hzl
      have hth : w3.there (w.heap.size + 1) 0 Z.toArray.size := there_of_row hr3
      have hinf : (Try.prog.info? 24).map (·.size) = some Z.toArray.size := by rw [hzs]; exact info_arr
      have hone : Z.toArray.all (·.oneCell') = true := by rw [← hZ]; exact all_oneCell_toArray (b8s_one' _)
      have hsc := setCells_grown (w.heap.size + 1) Z 0 w3
      have hrb := row_setAll (vs := Z) hr3 rfl
      refine wpS_do _ rfl (by rfl) (fun K hK => ?_)
      refine wp_store_mid _ _ _ rfl (w.heap.size + 1) 0 Z.toArray rfl rfl hth hinf hone ?_
      rw [show Z.toArray.toList = Z from rfl]
      generalize w3.setCells (w.heap.size + 1) 0 Z = w5 at *
      have hc5 := (hsc.block (w.heap.size + 1 + 1) (by omega) (by first | (simp; done) | (simp; omega))).trans hc3
      have hd5 := (hsc.block (w.heap.size + 1 + 1 + 1) (by omega) (by first | (simp; done) | (simp; omega))).trans hd3
      have hb5 := bel_grown hbel3 (by omega) hsc (by omega)
      have hs5 := hsc.size
      refine hK.out _ _ hd5 (fun hS => ?_)
      clear hK hS
      have Hb5 := Lib.hid hrb
      have Hc5 := Lib.hid hc5
      have Hd5 := Lib.hid hd5
      have hinf2 := hinf
      clear hrb hc5 hd5 hsc hth hinf hone Hb Hc Hd hr3 hc3 hd3
      refine wpS_do _ rfl (by rfl) (fun K hK => ?_)
      simp only [Act.put, List.getElem_toArray, List.getElem_cons_zero, List.getElem_cons_succ, List.setIfInBounds_toArray, List.set_cons_zero, List.set_cons_succ]
      have f0 : w5.frozen? ⟨w.heap.size + 1 + 1, 0, none⟩ = false := row_free Hc5.out 0
      have f1 : w5.frozen? ⟨w.heap.size + 1 + 1, 1, none⟩ = false := row_free Hc5.out 1
      have c0 : w5.cell? ⟨w.heap.size + 1 + 1, 0, none⟩ = some (.slice none 0 0) := row_cell Hc5.out 0
      have c1 : w5.cell? ⟨w.heap.size + 1 + 1, 1, none⟩ = some (.bool false) := row_cell Hc5.out 1
      go_simp
      refine hK.out _ _ ?_ (fun hS => ?_)
      · have := (grown_set2 w5 (w.heap.size + 1 + 1) (.slice none 0 0) (.bool true)).block (w.heap.size + 1 + 1 + 1) (by omega) (by first | (simp; done) | (simp; omega))
        exact this.trans Hd5.out
      clear hK hS f0 f1 c0 c1
      refine wpS_done ?_
      have hg6 := grown_set2 w5 (w.heap.size + 1 + 1) (.slice none 0 0) (.bool true)
      have hb6 := (hg6.block (w.heap.size + 1) (by omega) (by first | (simp; done) | (simp; omega))).trans Hb5.out
      have hc6 := row_set2 Hc5.out (.slice none 0 0) (.bool true)
      have hbel6 := bel_set2 hb5 (by omega) (g := w.heap.size + 1 + 1) (by omega) (.slice none 0 0) (.bool true)
      have HB6 := Lib.hid hb6
      have HC6 := Lib.hid hc6
      clear hb6 hc6 hg6
      go_wp2_with fail
      have hT := HT2.out
      subst hT
      subst hZ
      exact bodyPost_ret (results_row_row rfl _ _ _ _ _ _ _ _ _ _ _ _ rfl HC6.out Try.underlying86 rfl info_in rfl HB6.out Try.underlying24 rfl hinf2) rfl ⟨_, rfl, rfl, hbel6⟩
    | some bs =>
      have hl := hno bs rfl
      obtain ⟨A, n, c, rfl, hn, h2, h3, h4, hkb⟩ := h
      have hl' : (n : Int) < 32 := by omega
      clear hl hn h4 hkb
      obtain ⟨Wa, Wb, Wc, W1, hWa, hWb, hWc, hW1, hsa, hsb, hsc, hs1, ha, hb, hc, hd, hbel⟩ := id_entry w (.slice A n c) (.bool false)
      have hWb' : Wa.alloc (.cells #[Value.int .u8 0, Value.int .u8 0, Value.int .u8 0, Value.int .u8 0, Value.int .u8 0, Value.int .u8 0, Value.int .u8 0, Value.int .u8 0, Value.int .u8 0, Value.int .u8 0, Value.int .u8 0, Value.int .u8 0, Value.int .u8 0, Value.int .u8 0, Value.int .u8 0, Value.int .u8 0, Value.int .u8 0, Value.int .u8 0, Value.int .u8 0, Value.int .u8 0, Value.int .u8 0, Value.int .u8 0, Value.int .u8 0, Value.int .u8 0, Value.int .u8 0, Value.int .u8 0, Value.int .u8 0, Value.int .u8 0, Value.int .u8 0, Value.int .u8 0, Value.int .u8 0, Value.int .u8 0] 24) = Wb := hWb
      have hW1' : Wc.alloc (.cells #[Value.int .u8 0, Value.int .u8 0, Value.int .u8 0, Value.int .u8 0, Value.int .u8 0, Value.int .u8 0, Value.int .u8 0, Value.int .u8 0, Value.int .u8 0, Value.int .u8 0, Value.int .u8 0, Value.int .u8 0, Value.int .u8 0, Value.int .u8 0, Value.int .u8 0, Value.int .u8 0, Value.int .u8 0, Value.int .u8 0, Value.int .u8 0, Value.int .u8 0, Value.int .u8 0, Value.int .u8 0, Value.int .u8 0, Value.int .u8 0, Value.int .u8 0, Value.int .u8 0, Value.int .u8 0, Value.int .u8 0, Value.int .u8 0, Value.int .u8 0, Value.int .u8 0, Value.int .u8 0] 24) = W1 := hW1
      have hthere : W1.there (w.heap.size + 1 + 1 + 1) 0 32 := there_of_row hd
      have HT4 := Lib.hid hthere
      obtain ⟨W2, hW2, ha, hb, hc, hd, hbel, hs2⟩ := id_second ha hb hc hd hbel hs1
      have ca0 : W2.cell? ⟨w.heap.size, 0, none⟩ = some (.slice A n c) := row_cell ha 0
      have ca1 : W2.cell? ⟨w.heap.size, 1, none⟩ = some (.bool false) := row_cell ha 1
      have Ha := Lib.hid ha
      have Hb := Lib.hid hb
      have Hc := Lib.hid hc
      have Hd := Lib.hid hd
      have Hs2 := Lib.hid hs2
      clear hWb hW1 ha hb hc hd hthere hs2
      go_enter Try.func52, Try.ntmps52
      go_wp2_with ((with_reducible (refine wpList_store_mid rfl _ _ _ rfl ?_ ?_ ?_ ?_ ?_ ?_ ?_ ?_ ?_)); (exact w.heap.size + 1 + 1 + 1); (exact 0); (exact #[Value.int .u8 0, Value.int .u8 0, Value.int .u8 0, Value.int .u8 0, Value.int .u8 0, Value.int .u8 0, Value.int .u8 0, Value.int .u8 0, Value.int .u8 0, Value.int .u8 0, Value.int .u8 0, Value.int .u8 0, Value.int .u8 0, Value.int .u8 0, Value.int .u8 0, Value.int .u8 0, Value.int .u8 0, Value.int .u8 0, Value.int .u8 0, Value.int .u8 0, Value.int .u8 0, Value.int .u8 0, Value.int .u8 0, Value.int .u8 0, Value.int .u8 0, Value.int .u8 0, Value.int .u8 0, Value.int .u8 0, Value.int .u8 0, Value.int .u8 0, Value.int .u8 0, Value.int .u8 0]); (focus (simp [Act.eval]; done)); (focus (simp [Act.eval]; done)); (exact zl_there HT4.out); (exact info_zl); (exact zl_one); rw [hW2])
      clear hWa hWc hWb' hW1' hW2 hsa hsb hsc hs1 HT4 ca0 ca1
      refine wp_region_sched (fun w' => w'.heap[w.heap.size + 1 + 1 + 1]? = some (.cells (b8s zeros32).toArray 24 (0, 0))) [(true, 0), (false, 1), (false, 2), (false, 3)] (by kernel_rfl) (by kernel_rfl) rfl (by kernel_rfl) Hd.out ?_
      refine wpS_load _ rfl (by rfl) _ _ rfl _ _ rfl (b8s zeros32) _ (fun w' hS' => range_of_row hS') Try.underlying24 rfl (by rw [b8s_length]; exact info_arr) ?_
      simp only [Act.put, List.getElem_toArray, List.getElem_cons_zero, List.getElem_cons_succ, List.setIfInBounds_toArray, List.set_cons_zero, List.set_cons_succ]
      generalize hZ : b8s zeros32 = Z at *
      refine wpS_do _ rfl (by rfl) (fun K hK => ?_)
      go_simp
      refine (failed_any _).mono ?_
      rintro e w3 ⟨rfl, hb3⟩
      have hs2 := Hs2.out
      have hd3 := (hb3.block (w.heap.size + 1 + 1 + 1) (by simpa using hs2)).trans Hd.out
      have hc3 := (hb3.block (w.heap.size + 1 + 1) (by show _ < W2.heap.size; omega)).trans Hc.out
      have hr3 := (hb3.block (w.heap.size + 1) (by show _ < W2.heap.size; omega)).trans Hb.out
      have hbel3 := hbel.trans ((show Below W2.heap.size W2 w3 from ⟨hb3.os, hb3.tape, hb3.output, hb3.size, hb3.block⟩).mono (by omega))
      have hs3 : W2.heap.size ≤ w3.heap.size := hb3.size
      refine hK.out _ _ hd3 (fun hS => ?_)
      clear hK hS
      have hzl : Z.length = 32 := by rw [← hZ, b8s_length]; rfl
      have hzs : Z.toArray.size = 32 := by rw [List.size_toArray]; exact hzl
      have hth : w3.there (w.heap.size + 1) 0 Z.toArray.size := there_of_row hr3
      have hinf : (Try.prog.info? 24).map (·.size) = some Z.toArray.size := by rw [hzs]; exact info_arr
      have hone : Z.toArray.all (·.oneCell') = true := by rw [← hZ]; exact all_oneCell_toArray (b8s_one' _)
      have hsc := setCells_grown (w.heap.size + 1) Z 0 w3
      have hrb := row_setAll (vs := Z) hr3 rfl
      refine wpS_do _ rfl (by rfl) (fun K hK => ?_)
      refine wp_store_mid _ _ _ rfl (w.heap.size + 1) 0 Z.toArray rfl rfl hth hinf hone ?_
      rw [show Z.toArray.toList = Z from rfl]
      generalize w3.setCells (w.heap.size + 1) 0 Z = w5 at *
      have hc5 := (hsc.block (w.heap.size + 1 + 1) (by omega) (by first | (simp; done) | (simp; omega))).trans hc3
      have hd5 := (hsc.block (w.heap.size + 1 + 1 + 1) (by omega) (by first | (simp; done) | (simp; omega))).trans hd3
      have hb5 := bel_grown hbel3 (by omega) hsc (by omega)
      have hs5 := hsc.size
      refine hK.out _ _ hd5 (fun hS => ?_)
      clear hK hS
      have Hb5 := Lib.hid hrb
      have Hc5 := Lib.hid hc5
      have Hd5 := Lib.hid hd5
      have hinf2 := hinf
      clear hrb hc5 hd5 hsc hth hinf hone Hb Hc Hd hr3 hc3 hd3
      refine wpS_do _ rfl (by rfl) (fun K hK => ?_)
      simp only [Act.put, List.getElem_toArray, List.getElem_cons_zero, List.getElem_cons_succ, List.setIfInBounds_toArray, List.set_cons_zero, List.set_cons_succ]
      have f0 : w5.frozen? ⟨w.heap.size + 1 + 1, 0, none⟩ = false := row_free Hc5.out 0
      have f1 : w5.frozen? ⟨w.heap.size + 1 + 1, 1, none⟩ = false := row_free Hc5.out 1
      have c0 : w5.cell? ⟨w.heap.size + 1 + 1, 0, none⟩ = some (.slice none 0 0) := row_cell Hc5.out 0
      have c1 : w5.cell? ⟨w.heap.size + 1 + 1, 1, none⟩ = some (.bool false) := row_cell Hc5.out 1
      go_simp
      refine hK.out _ _ ?_ (fun hS => ?_)
      · have := (grown_set2 w5 (w.heap.size + 1 + 1) (.slice none 0 0) (.bool true)).block (w.heap.size + 1 + 1 + 1) (by omega) (by first | (simp; done) | (simp; omega))
        exact this.trans Hd5.out
      clear hK hS f0 f1 c0 c1
      refine wpS_done ?_
      have hg6 := grown_set2 w5 (w.heap.size + 1 + 1) (.slice none 0 0) (.bool true)
      have hb6 := (hg6.block (w.heap.size + 1) (by omega) (by first | (simp; done) | (simp; omega))).trans Hb5.out
      have hc6 := row_set2 Hc5.out (.slice none 0 0) (.bool true)
      have hbel6 := bel_set2 hb5 (by omega) (g := w.heap.size + 1 + 1) (by omega) (.slice none 0 0) (.bool true)
      have HB6 := Lib.hid hb6
      have HC6 := Lib.hid hc6
      clear hb6 hc6 hg6
      go_wp2_with fail
      have hT := HT2.out
      subst hT
      subst hZ
      exact bodyPost_ret (results_row_row rfl _ _ _ _ _ _ _ _ _ _ _ _ rfl HC6.out Try.underlying86 rfl info_in rfl HB6.out Try.underlying24 rfl hinf2) rfl ⟨_, rfl, rfl, hbel6⟩
end Go.Proofs.Ytfjfidhhmidflaa

/-! The document's getIDs. -/

namespace Go.Proofs.Ytfjfidhhmidflaa

set_option linter.unusedVariables false

set_option linter.unusedSimpArgs false

open Go.RowKit

/-- the rows of a reading of IDs: the result's (g5), the reader's (g7), the list -/
structure RJ (w W : World) (KB g5 g7 lo : Nat) (A : Option Addr) (n c : Nat) (b : Bool) (st : St) (V : Value) (k : Nat) (L : List (List UInt8)) : Prop where
  r5 : W.heap[g5]? = some (.cells #[.slice none 0 0, .bool false] 86 (0, 0))
  r7 : W.heap[g7]? = some (.cells #[.slice A n c, .bool b] 86 (0, 0))
  in_ : InK W KB (.agg #[.slice A n c, .bool b]) st
  own : W.ownsRow lo 24 32 V k (idc L)
  bel : Below w.heap.size w W
  ne : KB ≤ w.heap.size ∧ w.heap.size ≤ g5 ∧ g5 < g7 ∧ g7 < lo ∧ lo ≤ W.heap.size
section

variable {w W W' : World} {KB g5 g7 lo : Nat} {A A' : Option Addr} {n c n' c' : Nat} {b b' : Bool} {st st' : St} {V V' : Value} {k : Nat} {L : List (List UInt8)}

theorem RJ.below (h : RJ w W KB g5 g7 lo A n c b st V k L) (hb : Below W.heap.size W W') : RJ w W' KB g5 g7 lo A n c b st V k L := by
  obtain ⟨n1, n2, n3, n4, n5⟩ := h.ne
  exact ⟨(hb.block _ (Array.getElem?_eq_some_iff.1 h.r5).1).trans h.r5, (hb.block _ (Array.getElem?_eq_some_iff.1 h.r7).1).trans h.r7, h.in_.below hb, own_below h.own hb, ext_trans h.bel hb, ⟨n1, n2, n3, n4, Nat.le_trans n5 hb.size⟩⟩
/-- the list grows, then the reader's row is written -/
theorem RJ.step (h : RJ w W KB g5 g7 lo A n c b st V k L) {id : List UInt8} (hg : W.grownBy W' V.ownBlock) (ho : W'.ownsRow lo 24 32 V' (k + 1) (idc L ++ b8s id)) (hin : InK W KB (.agg #[.slice A' n' c', .bool b']) st') :
    W'.cell? ⟨g7, 0, none⟩ = some (.slice A n c) ∧ W'.cell? ⟨g7, 1, none⟩ = some (.bool b) ∧ W'.frozen? ⟨g7, 0, none⟩ = false ∧ W'.frozen? ⟨g7, 1, none⟩ = false ∧
      RJ w ((W'.setCell ⟨g7, 0, none⟩ (.slice A' n' c')).setCell ⟨g7, 1, none⟩ (.bool b')) KB g5 g7 lo A' n' c' b' st' V' (k + 1) (L ++ [id]) := by
  obtain ⟨n1, n2, n3, n4, n5⟩ := h.ne
  have hlo : ∀ i, V.ownBlock = some i → lo ≤ i := fun i e => (h.own.lt i e).1
  have hgg : ∀ i, i < lo → i < W.heap.size → W'.heap[i]? = W.heap[i]? := fun i hi hl => hg.block i hl (fun e => by have := hlo i e.symm; omega)
  have q5 := (hgg _ (by omega) (Array.getElem?_eq_some_iff.1 h.r5).1).trans h.r5
  have q7 := (hgg _ (by omega) (Array.getElem?_eq_some_iff.1 h.r7).1).trans h.r7
  have gs : W'.grownBy ((W'.setCell ⟨g7, 0, none⟩ (.slice A' n' c')).setCell ⟨g7, 1, none⟩ (.bool b')) (some g7) := grown_trans1 (grown_set g7 0 _) (grown_set g7 1 _)
  have hbw : Below w.heap.size w W' := by
    cases hv : V.ownBlock with
    | none => rw [hv] at hg; exact h.bel.trans ((grown_none hg).mono h.bel.size)
    | some i => rw [hv] at hg; exact bel_grown h.bel h.bel.size hg (by have := hlo i hv; omega)
  have hin' : InK W' KB (.agg #[.slice A' n' c', .bool b']) st' := by
    cases hv : V.ownBlock with
    | none => rw [hv] at hg; exact hin.below (grown_none hg)
    | some i => rw [hv] at hg; exact hin.far (by have := hlo i hv; omega) hg
  refine ⟨row_cell q7 0, row_cell q7 1, row_free q7 0, row_free q7 1, ⟨(gs.block _ (Array.getElem?_eq_some_iff.1 q5).1 (by simp; omega)).trans q5, row_set2 q7 _ _, hin'.far (by omega) gs, ?_, bel_grown hbw hbw.size gs (by omega), ⟨n1, n2, n3, n4, Nat.le_trans n5 (Nat.le_trans hg.size gs.size)⟩⟩⟩
  rw [idc_snoc]
  exact own_far ho n4 gs
end

theorem zeros32_cells' : (b8s zeros32).toArray = #[Value.int .u8 0, Value.int .u8 0, Value.int .u8 0, Value.int .u8 0, Value.int .u8 0, Value.int .u8 0, Value.int .u8 0, Value.int .u8 0, Value.int .u8 0, Value.int .u8 0, Value.int .u8 0, Value.int .u8 0, Value.int .u8 0, Value.int .u8 0, Value.int .u8 0, Value.int .u8 0, Value.int .u8 0, Value.int .u8 0, Value.int .u8 0, Value.int .u8 0, Value.int .u8 0, Value.int .u8 0, Value.int .u8 0, Value.int .u8 0, Value.int .u8 0, Value.int .u8 0, Value.int .u8 0, Value.int .u8 0, Value.int .u8 0, Value.int .u8 0, Value.int .u8 0, Value.int .u8 0] := by rw [zeros32_cells]
theorem info_rid32 (bs : List UInt8) (h : bs.length = 32) : (Try.prog.info? 24).map (·.size) = some (b8s bs).length := by rw [b8s_length, h]; kernel_rfl
theorem info_rid32' (bs : List UInt8) (h : bs.length = 32) : (Try.prog.info? 24).map (·.size) = some (b8s bs).toArray.size := by rw [List.size_toArray]; exact info_rid32 bs h
theorem info_rin2 {a b : Value} : (Try.prog.info? 86).map (·.size) = some (#[a, b] : Array Value).size := info_in
theorem info_rin : (Try.prog.info? 86).map (·.size) = some (#[Value.slice none 0 0, .bool false] : Array Value).size := by kernel_rfl

set_option maxRecDepth 100000 in
set_option maxHeartbeats 8000000 in
theorem rgetIDs_any (KB : Nat) (st : St) (v : Value) (most : Int) (w : World) (h : InK w KB v st) (hKB : KB ≤ w.heap.size) (hm0 : 0 ≤ most) (hm : most ≤ 100000) :
    Calls Try.prog 53 #[v, .int .i64 most] w fun e w' => ∃ A n c u, e = .returned (.tuple #[.slice A n c, u]) ∧ n = (getIds st most).1.length ∧ w'.ownsRow w.heap.size 24 32 (.slice A n c) n (idc (getIds st most).1) ∧ InK w' KB u (getIds st most).2 ∧ Below w.heap.size w w' := by
  obtain ⟨A0, n0, c0, b0, rfl, _, _⟩ := h.v.form
  obtain ⟨n, hn⟩ : ∃ n, (getNum st most).1 = n := ⟨_, rfl⟩
  obtain ⟨s0, hs0⟩ : ∃ s, (getNum st most).2 = s := ⟨_, rfl⟩
  have HNB : Hid (n ≤ 100000) := Lib.hid (by
    have := getNum_most st most hm0
    omega)
  have HR : Hid (getIds st most = idsK n s0) := Lib.hid (by unfold getIds; rw [hn, hs0])
  rw [HR.out]
  obtain ⟨q2, q5, hb1, hs1⟩ := two_new w #[.slice A0 n0 c0, .bool b0] #[.slice none 0 0, .bool false] 86 86
  have HI := Lib.hid (h.below hb1)
  have HQ5 := Lib.hid q5
  have HB1 := Lib.hid hb1
  have HS1 := Lib.hid hs1
  have HKB := Lib.hid hKB
  have HNN := Lib.hid hn
  have HSS := Lib.hid hs0
  clear h hm hm0 q5 hb1 hs1 hKB hn hs0
  go_enter Try.func53, Try.ntmps53
  go_wp2_with (refine wpList_load_row rfl _ _ rfl _ rfl _ _ _ _ q2 Try.underlying86 rfl info_in ?_)
  clear q2
  generalize ((w.alloc (.cells #[.slice A0 n0 c0, .bool b0] 86)).alloc (.cells #[.slice none 0 0, .bool false] 86)) = W1 at *
  refine (igetnum_k KB st _ most W1 HI.out).mono ?_
  rintro e w3 ⟨u, rfl, hu, hb3⟩
  rw [HNN.out]
  rw [HSS.out] at hu
  obtain ⟨A3, n3, c3, b3, rfl, _, _⟩ := hu.v.form
  obtain ⟨W4, hW4⟩ : ∃ W, w3.alloc (.cells #[.slice A3 n3 c3, .bool b3] 86) = W := ⟨_, rfl⟩
  obtain ⟨r4, b4, s4⟩ := new_row hW4
  obtain ⟨W5, hW5⟩ : ∃ W, W4.alloc (.cells #[] 24) = W := ⟨_, rfl⟩
  obtain ⟨r5, b5, s5⟩ := new_row hW5
  obtain ⟨g5, hg5⟩ : ∃ g, w.heap.size + 1 = g := ⟨_, rfl⟩
  obtain ⟨g7, hg7⟩ : ∃ g, w3.heap.size = g := ⟨_, rfl⟩
  obtain ⟨lo, hlo⟩ : ∃ g, W4.heap.size = g := ⟨_, rfl⟩
  have HRJ : Hid (RJ w W5 KB g5 g7 lo A3 n3 c3 b3 (idsK 0 s0).2 (.slice (some ⟨lo, 0, none⟩) 0 0) 0 (idsK 0 s0).1) := Lib.hid (by
    have h5 := HS1.out
    have h3 := hb3.size
    have hk := HKB.out
    have a5 := (hb3.block _ (Array.getElem?_eq_some_iff.1 HQ5.out).1).trans HQ5.out
    have a6 := (b4.block _ (Array.getElem?_eq_some_iff.1 a5).1).trans a5
    have a7 := (b5.block _ (Array.getElem?_eq_some_iff.1 a6).1).trans a6
    have own := own_new W4 lo 24 32 0 [] (by omega) rfl (by decide)
    rw [hlo] at own
    have e5 : W4.alloc (.cells ([] : List Value).toArray 24) = W5 := hW5
    rw [e5] at own
    exact ⟨by rw [← hg5]; exact a7, by rw [← hg7]; exact (b5.block _ (Array.getElem?_eq_some_iff.1 r4).1).trans r4, (hu.below b4).below b5, own, HB1.out.trans ((hb3.trans ((b4.mono hb3.size).trans (b5.mono (by omega)))).mono (by omega)), ⟨hk, by omega, by omega, by omega, by omega⟩⟩)
  rw [hg5]
  clear hu hb3 r4 b4 s4 r5 b5 s5 HNN HSS HI HQ5 HB1 HS1
  go_wp2_with fail
  clear hW4 hW5 hg7 hlo hg5
  go_loopg [8, 9] (n * 1) (fun gk_ v s wr => ∃ (k : Nat) (A : Option Addr) (m c : Nat) (b : Bool) (Al : Option Addr) (cl : Nat), k ≤ n ∧ gk_ = n - k ∧ v = .slice Al k cl ∧ s = .int .i64 (k : Int) ∧ Hid (RJ w wr KB g5 g7 lo A m c b (idsK k s0).2 (.slice Al k cl) k (idsK k s0).1))
  case atStart => exact ⟨0, A3, n3, c3, b3, some ⟨lo, 0, none⟩, 0, by omega, by omega, rfl, rfl, HRJ⟩
  case round =>
    clear HRJ
    obtain ⟨k, A, m, c, b, Al, cl, hk, rfl, rfl, rfl, HRJ⟩ := hrel
    have hnb := HNB.out
    by_cases hlt : k < n
    · have i1 : (k : Int) < (n : Int) := by omega
      have r7 := HRJ.out.r7
      go_wp2_with (refine wpList_load_row rfl _ _ rfl _ rfl _ _ _ _ r7 Try.underlying86 rfl info_in ?_)
      clear r7
      refine (igetid_k KB (idsK k s0).2 _ wr HRJ.out.in_).mono ?_
      rintro e w6 ⟨u, rfl, hu, hb6⟩
      obtain ⟨id, hid⟩ : ∃ id, (getId (idsK k s0).2).1 = id := ⟨_, rfl⟩
      have hil : id.length = 32 := by rw [← hid]; exact getId_len _
      have hnx : (idsK (k + 1) s0).1 = (idsK k s0).1 ++ [id] := by rw [← hid]; rfl
      have hnx2 : (idsK (k + 1) s0).2 = (getId (idsK k s0).2).2 := rfl
      rw [← hnx2] at hu
      rw [hid]
      have HIL := Lib.hid hil
      have HNX := Lib.hid hnx
      obtain ⟨A6, n6, c6, b6, rfl, _, _⟩ := hu.v.form
      obtain ⟨W7, hW7⟩ : ∃ W, w6.alloc (.cells #[Value.int .u8 0, Value.int .u8 0, Value.int .u8 0, Value.int .u8 0, Value.int .u8 0, Value.int .u8 0, Value.int .u8 0, Value.int .u8 0, Value.int .u8 0, Value.int .u8 0, Value.int .u8 0, Value.int .u8 0, Value.int .u8 0, Value.int .u8 0, Value.int .u8 0, Value.int .u8 0, Value.int .u8 0, Value.int .u8 0, Value.int .u8 0, Value.int .u8 0, Value.int .u8 0, Value.int .u8 0, Value.int .u8 0, Value.int .u8 0, Value.int .u8 0, Value.int .u8 0, Value.int .u8 0, Value.int .u8 0, Value.int .u8 0, Value.int .u8 0, Value.int .u8 0, Value.int .u8 0] 24) = W := ⟨_, rfl⟩
      obtain ⟨q7, p7, s7⟩ := new_row hW7
      obtain ⟨W8, hW8⟩ : ∃ W, W7.alloc (.cells #[.slice none 0 0, .bool false] 86) = W := ⟨_, rfl⟩
      obtain ⟨q8, p8, s8⟩ := new_row hW8
      obtain ⟨ga, hga⟩ : ∃ g, w6.heap.size = g := ⟨_, rfl⟩
      obtain ⟨gb, hgb⟩ : ∃ g, W7.heap.size = g := ⟨_, rfl⟩
      rw [hga] at q7
      rw [hgb] at q8
      have q7' := (p8.block _ (Array.getElem?_eq_some_iff.1 q7).1).trans q7
      rw [← zeros32_cells'] at q7'
      have h68 := ext_trans p7 p8
      obtain ⟨W9, hW9, HTH9, HR9, HB9⟩ := arr_write (new := id) q7' (by rw [hil]; rfl) h68 h68.size (by omega)
      have HW9 := Lib.hid hW9
      have q8' := (setCells_other ga (b8s id).toArray.toList 0 W8 gb (by omega)).trans q8
      rw [hW9] at q8'
      have x0 := row_cell q8' 0
      have x1 := row_cell q8' 1
      have y0 := row_free q8' 0
      have y1 := row_free q8' 1
      have rb := row_set2 q8' (.slice A6 n6 c6) (.bool b6)
      have gsb : W9.grownBy ((W9.setCell ⟨gb, 0, none⟩ (.slice A6 n6 c6)).setCell ⟨gb, 1, none⟩ (.bool b6)) (some gb) := grown_trans1 (grown_set gb 0 _) (grown_set gb 1 _)
      obtain ⟨Wa, hWa⟩ : ∃ W, (W9.setCell ⟨gb, 0, none⟩ (.slice A6 n6 c6)).setCell ⟨gb, 1, none⟩ (.bool b6) = W := ⟨_, rfl⟩
      rw [hWa] at rb gsb
      have h6a := bel_grown HB9.out HB9.out.size gsb (by omega)
      have RBa := Lib.hid rb
      have RAa := Lib.hid (range_of_row ((gsb.block _ (Array.getElem?_eq_some_iff.1 HR9.out).1 (by simp; omega)).trans HR9.out))
      have HIa := Lib.hid (hu.below h6a)
      have HRJa := Lib.hid (HRJ.out.below (ext_trans hb6 h6a))
      have HIA := Lib.hid (info_rid32 id hil)
      have HIB := Lib.hid (info_rid32' id hil)
      obtain ⟨Wb, hWb⟩ : ∃ W, Wa.alloc (.cells (b8s id).toArray 24) = W := ⟨_, rfl⟩
      obtain ⟨rw_, bw_, sw_⟩ := new_row hWb
      have HWb := Lib.hid hWb
      have HRJb := Lib.hid (HRJa.out.below bw_)
      have HRb : Hid (Rd Wb (some ⟨Wa.heap.size, 0, none⟩) (b8s id)) := Lib.hid (range_rd (range_of_row rw_))
      have HBA := Lib.hid HRJb.out.ne.2.2.2.2
      have HAPP : Hid (∀ A' c' W', Wb.grownBy W' (Value.slice Al k cl).ownBlock → W'.ownsRow lo 24 32 (.slice A' (k + 1) c') (k + 1) (idc (idsK k s0).1 ++ b8s id) →
          W'.heap[gb]? = some (.cells #[.slice A6 n6 c6, .bool b6] 86 (0, 0)) ∧ W'.cell? ⟨g7, 0, none⟩ = some (.slice A m c) ∧ W'.cell? ⟨g7, 1, none⟩ = some (.bool b) ∧ W'.frozen? ⟨g7, 0, none⟩ = false ∧ W'.frozen? ⟨g7, 1, none⟩ = false ∧
          Hid (RJ w ((W'.setCell ⟨g7, 0, none⟩ (.slice A6 n6 c6)).setCell ⟨g7, 1, none⟩ (.bool b6)) KB g5 g7 lo A6 n6 c6 b6 (idsK (k + 1) s0).2 (.slice A' (k + 1) c') (k + 1) (idsK (k + 1) s0).1)) := Lib.hid (by
        intro A' c' W' hg ho
        have h := HRJb.out.step (st' := (idsK (k + 1) s0).2) hg ho (HIa.out.below bw_)
        have hlt' := (Array.getElem?_eq_some_iff.1 RBa.out).1
        have rb' := (bw_.block _ hlt').trans RBa.out
        rw [HNX.out]
        refine ⟨(hg.block _ (Array.getElem?_eq_some_iff.1 rb').1 (fun e => ?_)).trans rb', h.1, h.2.1, h.2.2.1, h.2.2.2.1, Lib.hid h.2.2.2.2⟩
        have h1 := (HRJ.out.own.lt _ e.symm).2
        have h2 := hb6.size
        omega)
      clear hid hil hnx hnx2 hu hb6 q7 p7 s7 q8 p8 s8 q7' h68 hW9 q8' rb gsb h6a rw_ bw_ sw_ hWb HRJ
      go_wp2_with (first
        | ((with_reducible (refine wpList_store_mid rfl _ _ _ rfl ?_ ?_ ?_ ?_ ?_ ?_ ?_ ?_ ?_)); (exact ga); (exact 0); (exact (b8s id).toArray); (exact rfl); (exact rfl); (exact HTH9.out); (exact HIB.out); (exact all_oneCell_toArray (b8s_one' _)); rw [HW9.out])
        | ((with_reducible (refine wpList_load_cells 24 _ ga 0 (b8s id) RAa.out Try.underlying24 rfl HIA.out ?_ rfl ?_ ?_)); (exact rfl); (exact rfl))
        | (refine wpList_build1 rfl _ 24 _ rfl (b8s id) rfl Try.underlying35 (by rw [b8s_length, HIL.out]; exact info_rid1) (by rw [b8s_length, HIL.out]; decide) (by rw [b8s_length, HIL.out]; decide) ?_; rw [HWb.out])
        | (at_builtin; refine wpList_append_rd _ rfl _ _ 35 rfl lo 24 _ 32 32 Try.underlying35 info_rid2 (by rw [zeros32_cells]; rfl) (by decide) (.slice Al k cl) k (idc (idsK k s0).1) rfl HRJb.out.own _ 1 1 (b8s id) rfl (by rw [b8s_length, HIL.out]) HRb.out (b8s_one' _) (by unfold maxLen; omega) (by omega) HBA.out ?_; intro v7 w7 ho7 hg7_ hvb7; obtain ⟨A7, c7, e7, _⟩ := own_slice ho7; subst e7; obtain ⟨rgb, z0, z1, z2, z3, HRX⟩ := HAPP.out _ _ _ hg7_ ho7; clear ho7 hg7_ hvb7)
        | (refine wpList_load_row rfl _ _ rfl _ rfl _ _ _ _ rgb Try.underlying86 rfl info_in ?_))
      clear x0 x1 y0 y1 hWa
      go_roundg (n - (k + 1))
      case measure => omega
      case rel => exact ⟨k + 1, A6, n6, c6, b6, A7, c7, by omega, rfl, rfl, by first | rfl | exact congrArg (Value.int .i64) (by omega) | go_num, HRX⟩
    · obtain rfl : k = n := by omega
      clear hlt hk
      go_wp2_with fail
      have hrow7 := range_of_row (cs := [.slice A m c, .bool b]) HRJ.out.r7
      have HR7 := Lib.hid hrow7
      have HT5 : Hid (wr.drew.there g5 0 (#[.slice A m c, .bool b] : Array Value).size) := Lib.hid (there_of_row (cs := #[.slice none 0 0, .bool false]) HRJ.out.r5)
      have HNE := Lib.hid HRJ.out.ne
      have gs := setCells_grown g5 [.slice A m c, .bool b] 0 wr.drew
      have hr5 := row_setAll (cs := [.slice none 0 0, .bool false]) (vs := [.slice A m c, .bool b]) (w := wr.drew) HRJ.out.r5 rfl
      obtain ⟨WE, hWE⟩ : ∃ W, wr.drew.setCells g5 0 (#[.slice A m c, .bool b] : Array Value).toList = W := ⟨_, rfl⟩
      have hWE' : wr.drew.setCells g5 0 [.slice A m c, .bool b] = WE := hWE
      rw [hWE'] at gs hr5
      have HWE := Lib.hid hWE
      have HR5 := Lib.hid hr5
      have HINE : Hid (InK WE KB (.agg #[.slice A m c, .bool b]) (idsK k s0).2) := Lib.hid (InK.far (w := wr.drew) (HRJ.out.in_.below (Below.refl _ _).drew) (by have := HNE.out; omega) gs)
      have HOWN : Hid (WE.ownsRow w.heap.size 24 32 (.slice Al k cl) k (idc (idsK k s0).1)) := Lib.hid (own_mono (own_far (w := wr.drew) (own_below HRJ.out.own (Below.refl _ _).drew) (by have := HNE.out; omega) gs) (by have := HNE.out; omega))
      have HBE : Hid (Below w.heap.size w WE) := Lib.hid (bel_grown HRJ.out.bel.drew HRJ.out.bel.drew.size gs (by have := HNE.out; omega))
      clear hrow7 gs hr5 hWE hWE'
      have HS7 : Hid (WE.heap[g7]? = some (.cells #[.slice A m c, .bool b] 86 (0, 0))) := Lib.hid (by
        rw [← HWE.out]
        exact (setCells_other g5 _ 0 wr.drew g7 (by have := HNE.out; omega)).trans HRJ.out.r7)
      refine wp_region_sched (fun w' => w'.heap[g7]? = some (.cells #[.slice A m c, .bool b] 86 (0, 0))) [(true, 0), (true, 1), (true, 2), (false, 3)] (by kernel_rfl) (by kernel_rfl) rfl (by kernel_rfl) HRJ.out.r7 ?_
      (first | (refine wpS_pass _ rfl (by rfl) ?_; simp only [Act.put, List.getElem_toArray, List.getElem_cons_zero, List.getElem_cons_succ, List.setIfInBounds_toArray, List.set_cons_zero, List.set_cons_succ]) | (refine wpS_take _ ?_ rfl (by rfl) ?_ ?_; rotate_left; (focus (intro w' hS'; (try dsimp only at hS'); (repeat (have hS1 := hS'.1; replace hS' := hS'.2)); go_simp; (try with_reducible rfl); done)); simp only [Act.put, List.getElem_toArray, List.getElem_cons_zero, List.getElem_cons_succ, List.setIfInBounds_toArray, List.set_cons_zero, List.set_cons_succ]))
      refine wpS_load _ rfl (by rfl) _ _ rfl _ _ rfl [.slice A m c, .bool b] _ (fun w' hS' => range_of_row (cs := [.slice A m c, .bool b]) hS') Try.underlying86 rfl info_in ?_
      simp only [Act.put, List.getElem_toArray, List.getElem_cons_zero, List.getElem_cons_succ, List.setIfInBounds_toArray, List.set_cons_zero, List.set_cons_succ]
      (first | (refine wpS_pass _ rfl (by rfl) ?_; simp only [Act.put, List.getElem_toArray, List.getElem_cons_zero, List.getElem_cons_succ, List.setIfInBounds_toArray, List.set_cons_zero, List.set_cons_succ]) | (refine wpS_take _ ?_ rfl (by rfl) ?_ ?_; rotate_left; (focus (intro w' hS'; (try dsimp only at hS'); (repeat (have hS1 := hS'.1; replace hS' := hS'.2)); go_simp; (try with_reducible rfl); done)); simp only [Act.put, List.getElem_toArray, List.getElem_cons_zero, List.getElem_cons_succ, List.setIfInBounds_toArray, List.set_cons_zero, List.set_cons_succ]))
      refine wpS_store_mid _ rfl (by rfl) _ _ _ rfl _ _ _ rfl rfl HT5.out info_rin2 (by simp [Value.oneCell']) (by rw [HWE.out]; exact HS7.out) ?_
      rw [HWE.out]
      simp only [Act.put, List.getElem_toArray, List.getElem_cons_zero, List.getElem_cons_succ, List.setIfInBounds_toArray, List.set_cons_zero, List.set_cons_succ]
      refine wpS_done ?_
      go_wp2_with fail
      refine bodyPost_ret (results_tmp_row rfl _ _ _ _ _ _ _ rfl HR5.out Try.underlying86 rfl info_in) rfl ?_
      exact ⟨_, _, _, _, rfl, (idsK_len k s0).1.symm, HOWN.out, HINE.out, HBE.out⟩
end Go.Proofs.Ytfjfidhhmidflaa

/-! The document's Right, whole. (Printed by wip/genL11.py.) -/

namespace Go.Proofs.Ytfjfidhhmidflaa

set_option linter.unusedVariables false

set_option linter.unusedSimpArgs false

open Go.RowKit

theorem rright_ok (l : Lt) (p : LtP) (w : World) (hin : LtIn w l p) (h : (1 ≤ l.from_ ∧ l.from_ ≤ 65536 ∧ 1 ≤ l.to_ ∧ l.to_ ≤ 65536 ∧ l.from_ ≠ l.to_ ∧ 1 ≤ l.session ∧ l.session ≤ 1099511627776)) (hoff : -9223372036854775808 ≤ l.off ∧ l.off ≤ 9223372036854775807) : Calls Try.prog 10 #[l.val p] w fun e w' => e = .returned (.bool (rightL l)) ∧ Below w.heap.size w w' := by
  by_cases e1 : l.kind = 1
  · exact if c1 : l.wants.length = 0 then (if c2 : l.haves.length = 0 then rright_ok1c l p w hin h e1 c1 c2 hoff else rright_ok1b l p w hin h e1 c1 c2 hoff) else rright_ok1a l p w hin h e1 c1 hoff
  · by_cases e2 : l.kind = 2
    · exact if c1 : l.wants.length = 0 then (if c2 : l.haves.length = 0 then rright_ok2c l p w hin h e1 e2 c1 c2 hoff else rright_ok2b l p w hin h e1 e2 c1 c2 hoff) else rright_ok2a l p w hin h e1 e2 c1 hoff
    · by_cases e3 : l.kind = 3
      · exact if c1 : l.wants.length = 0 then (if c2 : l.haves.length = 0 then rright_ok3c l p w hin h e1 e2 e3 c1 c2 hoff else rright_ok3b l p w hin h e1 e2 e3 c1 c2 hoff) else rright_ok3a l p w hin h e1 e2 e3 c1 hoff
      · by_cases e4 : l.kind = 4
        · exact if c1 : l.wants.length = 0 then (if c2 : l.haves.length = 0 then rright_ok4c l p w hin h e1 e2 e3 e4 c1 c2 hoff else rright_ok4b l p w hin h e1 e2 e3 e4 c1 c2 hoff) else rright_ok4a l p w hin h e1 e2 e3 e4 c1 hoff
        · exact if c1 : l.wants.length = 0 then (if c2 : l.haves.length = 0 then rright_ok0c l p w hin h e1 e2 e3 e4 c1 c2 hoff else rright_ok0b l p w hin h e1 e2 e3 e4 c1 c2 hoff) else rright_ok0a l p w hin h e1 e2 e3 e4 c1 hoff

/-- the document's Right, whole -/
theorem rright_any (l : Lt) (p : LtP) (w : World) (hin : LtIn w l p) (hoff : -9223372036854775808 ≤ l.off ∧ l.off ≤ 9223372036854775807) : Calls Try.prog 10 #[l.val p] w fun e w' => e = .returned (.bool (rightL l)) ∧ Below w.heap.size w w' := by
  by_cases h : (1 ≤ l.from_ ∧ l.from_ ≤ 65536 ∧ 1 ≤ l.to_ ∧ l.to_ ≤ 65536 ∧ l.from_ ≠ l.to_ ∧ 1 ≤ l.session ∧ l.session ≤ 1099511627776)
  · exact rright_ok l p w hin h hoff
  · exact rright_bad l p w hin h
end Go.Proofs.Ytfjfidhhmidflaa

/-! The document's Read: its rows. (Printed by wip/genRRd.py.) -/

namespace Go.Proofs.Ytfjfidhhmidflaa

set_option linter.unusedVariables false

set_option linter.unusedSimpArgs false

open Go.RowKit

def RROut (w w' : World) (e : Ending) (o : Option Lt) : Prop :=
  match o with
  | none => e = .returned (.tuple #[lt0.val p0, .bool false]) ∧ Below w.heap.size w w'
  | some l => ∃ p, e = .returned (.tuple #[l.val p, .bool true]) ∧ LtIn w' l p ∧ Below w.heap.size w w'
theorem rres_zero {w W : World} (hb : Below w.heap.size w W) : RROut w W (.returned (.tuple #[.agg (lt0.cells p0).toArray, .bool false])) none := ⟨rfl, hb⟩
theorem rhead_built (k f u s : Int) : Try.prog.built 37 [(0, .int .i64 k), (1, .int .i64 f), (2, .int .i64 u), (3, .int .i64 s)]
      = some ((⟨k, f, u, s, [], [], [], 0, 0, zeros32, []⟩ : Lt).cells p0).toArray := by
  rw [built_eq]
  refine (fill_val _ [] _ _ _ _ 0 rfl rfl).trans ?_
  refine (fill_val _ [_] _ _ _ _ 1 rfl rfl).trans ?_
  refine (fill_val _ [_, _] _ _ _ _ 2 rfl rfl).trans ?_
  refine (fill_val _ [_, _, _] _ _ _ _ 3 rfl rfl).trans ?_
  simp [Instr.fill, Lt.cells, p0, zeros32_cells]
theorem rzero_built : Try.prog.built 37 [] = some (lt0.cells p0).toArray := by
  rw [built_eq, lt0_cells]
  rfl
/-- the rows of the document's reading: the result's (g2), the reader's (g14), the letter's (g15) -/
structure RR (w W : World) (g2 g14 g15 lo : Nat) (A : Option Addr) (n c : Nat) (b : Bool) (l : Lt) (p : LtP) : Prop where
  r2 : W.heap[g2]? = some (.cells (lt0.cells p0).toArray 37 (0, 0))
  r14 : W.heap[g14]? = some (.cells #[.slice A n c, .bool b] 86 (0, 0))
  r15 : W.heap[g15]? = some (.cells (l.cells p).toArray 37 (0, 0))
  bel : Below w.heap.size w W
  ne : w.heap.size ≤ g2 ∧ g2 < g14 ∧ g14 < g15 ∧ g15 < lo ∧ lo ≤ W.heap.size
  li : LI W 64 24 lo l p
section

variable {w W W' : World} {g2 g14 g15 lo : Nat} {A A' : Option Addr} {n c n' c' : Nat} {b b' : Bool} {l l' : Lt} {p p' : LtP}

theorem RR.below (h : RR w W g2 g14 g15 lo A n c b l p) (hb : Below W.heap.size W W') : RR w W' g2 g14 g15 lo A n c b l p := by
  obtain ⟨n1, n2, n3, n4, n5⟩ := h.ne
  exact ⟨(hb.block _ (Array.getElem?_eq_some_iff.1 h.r2).1).trans h.r2, (hb.block _ (Array.getElem?_eq_some_iff.1 h.r14).1).trans h.r14, (hb.block _ (Array.getElem?_eq_some_iff.1 h.r15).1).trans h.r15, ext_trans h.bel hb, ⟨n1, n2, n3, n4, Nat.le_trans n5 hb.size⟩, h.li.below hb⟩
theorem RR.put15 (h : RR w W g2 g14 g15 lo A n c b l p) (hg : W.grownBy W' (some g15)) (hr : W'.heap[g15]? = some (.cells (l'.cells p').toArray 37 (0, 0))) (hl : LI W' 64 24 lo l' p') : RR w W' g2 g14 g15 lo A n c b l' p' := by
  obtain ⟨n1, n2, n3, n4, n5⟩ := h.ne
  exact ⟨(hg.block _ (Array.getElem?_eq_some_iff.1 h.r2).1 (by simp; omega)).trans h.r2, (hg.block _ (Array.getElem?_eq_some_iff.1 h.r14).1 (by simp; omega)).trans h.r14, hr, bel_grown h.bel h.bel.size hg (by omega), ⟨n1, n2, n3, n4, Nat.le_trans n5 hg.size⟩, hl⟩
theorem RR.lif (h : RR w W g2 g14 g15 lo A n c b l p) (hg : W.grownBy W' (some g15)) : LI W' 64 24 lo l p := h.li.far h.ne.2.2.2.1 hg
/-- the reader's row is written -/
theorem RR.put14 (h : RR w W g2 g14 g15 lo A n c b l p) (A' : Option Addr) (n' c' : Nat) (b' : Bool) : W.cell? ⟨g14, 0, none⟩ = some (.slice A n c) ∧ W.cell? ⟨g14, 1, none⟩ = some (.bool b) ∧ W.frozen? ⟨g14, 0, none⟩ = false ∧ W.frozen? ⟨g14, 1, none⟩ = false ∧
    RR w ((W.setCell ⟨g14, 0, none⟩ (.slice A' n' c')).setCell ⟨g14, 1, none⟩ (.bool b')) g2 g14 g15 lo A' n' c' b' l p ∧ W.grownBy ((W.setCell ⟨g14, 0, none⟩ (.slice A' n' c')).setCell ⟨g14, 1, none⟩ (.bool b')) (some g14) := by
  obtain ⟨n1, n2, n3, n4, n5⟩ := h.ne
  have gs : W.grownBy ((W.setCell ⟨g14, 0, none⟩ (.slice A' n' c')).setCell ⟨g14, 1, none⟩ (.bool b')) (some g14) := grown_trans1 (grown_set g14 0 _) (grown_set g14 1 _)
  exact ⟨row_cell h.r14 0, row_cell h.r14 1, row_free h.r14 0, row_free h.r14 1, ⟨(gs.block _ (Array.getElem?_eq_some_iff.1 h.r2).1 (by simp; omega)).trans h.r2, row_set2 h.r14 _ _, (gs.block _ (Array.getElem?_eq_some_iff.1 h.r15).1 (by simp; omega)).trans h.r15, bel_grown h.bel h.bel.size gs (by omega), ⟨n1, n2, n3, n4, Nat.le_trans n5 gs.size⟩, h.li.far (by omega) gs⟩, gs⟩
end

/-- kind 2: beside them the row g17 of the reader in the loop -/
structure RL (w W : World) (KB g2 g14 g15 g17 lo : Nat) (A14 : Option Addr) (n14 c14 : Nat) (b14 : Bool) (A : Option Addr) (n c : Nat) (b : Bool) (st : St) (l : Lt) (p : LtP) : Prop where
  rr : RR w W g2 g14 g15 lo A14 n14 c14 b14 l p
  r17 : W.heap[g17]? = some (.cells #[.slice A n c, .bool b] 86 (0, 0))
  in_ : InK W KB (.agg #[.slice A n c, .bool b]) st
  n17 : g15 < g17 ∧ g17 < lo ∧ KB ≤ g2
section

variable {w W W' : World} {KB g2 g14 g15 g17 lo : Nat} {A14 : Option Addr} {n14 c14 : Nat} {b14 : Bool} {A A' : Option Addr} {n c n' c' : Nat} {b b' : Bool} {st st' : St} {l : Lt} {p : LtP}

theorem RL.below (h : RL w W KB g2 g14 g15 g17 lo A14 n14 c14 b14 A n c b st l p) (hb : Below W.heap.size W W') : RL w W' KB g2 g14 g15 g17 lo A14 n14 c14 b14 A n c b st l p :=
  ⟨h.rr.below hb, (hb.block _ (Array.getElem?_eq_some_iff.1 h.r17).1).trans h.r17, h.in_.below hb, h.n17⟩
theorem RL.step {k f u s : Int} {rs : List RefM} {Al Al' : Option Addr} {cl cl' j gb : Nat} (h : RL w W KB g2 g14 g15 g17 lo A14 n14 c14 b14 A n c b st ⟨k, f, u, s, rs, [], [], 0, 0, zeros32, []⟩ ⟨Al, cl, none, 0, none, 0, none, 0⟩)
    (x : RefM) (hx : x.ok) (hj : rs.length = j) (hg : W.grownBy W' (Value.slice Al j cl).ownBlock) (ho : W'.ownsRow lo 64 33 (.slice Al' (j + 1) cl') (j + 1) (rfc rs ++ x.cells))
    (hin : InK W KB (.agg #[.slice A' n' c', .bool b']) st') (hb : W.heap[gb]? = some (.cells #[.slice A' n' c', .bool b'] 86 (0, 0))) (hgb : ∀ i, (Value.slice Al j cl).ownBlock = some i → i ≠ gb) (hgb2 : g17 < gb) :
    W'.cell? ⟨g15, 4, none⟩ = some (.slice Al j cl) ∧ W'.frozen? ⟨g15, 4, none⟩ = false ∧ (W'.setCell ⟨g15, 4, none⟩ (.slice Al' (j + 1) cl')).heap[gb]? = some (.cells #[.slice A' n' c', .bool b'] 86 (0, 0)) ∧
    (W'.setCell ⟨g15, 4, none⟩ (.slice Al' (j + 1) cl')).cell? ⟨g17, 0, none⟩ = some (.slice A n c) ∧ (W'.setCell ⟨g15, 4, none⟩ (.slice Al' (j + 1) cl')).cell? ⟨g17, 1, none⟩ = some (.bool b) ∧
    (W'.setCell ⟨g15, 4, none⟩ (.slice Al' (j + 1) cl')).frozen? ⟨g17, 0, none⟩ = false ∧ (W'.setCell ⟨g15, 4, none⟩ (.slice Al' (j + 1) cl')).frozen? ⟨g17, 1, none⟩ = false ∧
    RL w (((W'.setCell ⟨g15, 4, none⟩ (.slice Al' (j + 1) cl')).setCell ⟨g17, 0, none⟩ (.slice A' n' c')).setCell ⟨g17, 1, none⟩ (.bool b')) KB g2 g14 g15 g17 lo A14 n14 c14 b14 A' n' c' b' st' ⟨k, f, u, s, rs ++ [x], [], [], 0, 0, zeros32, []⟩ ⟨Al', cl', none, 0, none, 0, none, 0⟩ := by
  obtain ⟨n1, n2, n3, n4, n5⟩ := h.rr.ne
  obtain ⟨m1, m2, m3⟩ := h.n17
  subst hj
  have hown : W.ownsRow lo 64 33 (.slice Al rs.length cl) rs.length (rfc rs) := h.rr.li.o1
  have hlo : ∀ i, (Value.slice Al rs.length cl).ownBlock = some i → lo ≤ i := fun i e => (hown.lt i e).1
  have hgg : ∀ i, i < lo → i < W.heap.size → W'.heap[i]? = W.heap[i]? := fun i hi hl => hg.block i hl (fun e => by have := hlo i e.symm; omega)
  have q2 := (hgg _ (by omega) (Array.getElem?_eq_some_iff.1 h.rr.r2).1).trans h.rr.r2
  have q14 := (hgg _ (by omega) (Array.getElem?_eq_some_iff.1 h.rr.r14).1).trans h.rr.r14
  have q15 := (hgg _ (by omega) (Array.getElem?_eq_some_iff.1 h.rr.r15).1).trans h.rr.r15
  have q17 := (hgg _ (by omega) (Array.getElem?_eq_some_iff.1 h.r17).1).trans h.r17
  have qb := (hg.block _ (Array.getElem?_eq_some_iff.1 hb).1 (fun e => hgb _ e.symm rfl)).trans hb
  have hbw : Below w.heap.size w W' := by
    cases hv : (Value.slice Al rs.length cl).ownBlock with
    | none => rw [hv] at hg; exact h.rr.bel.trans ((grown_none hg).mono h.rr.bel.size)
    | some i => rw [hv] at hg; exact bel_grown h.rr.bel h.rr.bel.size hg (by have := hlo i hv; omega)
  have hin' : InK W' KB (.agg #[.slice A' n' c', .bool b']) st' := by
    cases hv : (Value.slice Al rs.length cl).ownBlock with
    | none => rw [hv] at hg; exact hin.below (grown_none hg)
    | some i => rw [hv] at hg; exact hin.far (by have := hlo i hv; omega) hg
  have g1 := grown_set (w := W') g15 4 (.slice Al' (rs.length + 1) cl')
  have hr := row_refs q15 Al' cl' (rs ++ [x])
  have el : (rs ++ [x]).length = rs.length + 1 := by simp
  rw [el] at hr
  obtain ⟨W2, hW2⟩ : ∃ W, W'.setCell ⟨g15, 4, none⟩ (.slice Al' (rs.length + 1) cl') = W := ⟨_, rfl⟩
  rw [hW2] at g1 hr ⊢
  have p2 := (g1.block _ (Array.getElem?_eq_some_iff.1 q2).1 (by simp; omega)).trans q2
  have p14 := (g1.block _ (Array.getElem?_eq_some_iff.1 q14).1 (by simp; omega)).trans q14
  have p17 := (g1.block _ (Array.getElem?_eq_some_iff.1 q17).1 (by simp; omega)).trans q17
  have pb := (g1.block _ (Array.getElem?_eq_some_iff.1 qb).1 (by simp; omega)).trans qb
  have hin2 := hin'.far (by omega) g1
  have ho2 := own_far ho n4 g1
  have hb2 := bel_grown hbw hbw.size g1 (by omega)
  have g2_ : W2.grownBy ((W2.setCell ⟨g17, 0, none⟩ (.slice A' n' c')).setCell ⟨g17, 1, none⟩ (.bool b')) (some g17) := grown_trans1 (grown_set g17 0 _) (grown_set g17 1 _)
  have hs := g1.size
  have hs2 := g2_.size
  have hs0 := hg.size
  refine ⟨row_cell q15 4, row_free q15 4, pb, row_cell p17 0, row_cell p17 1, row_free p17 0, row_free p17 1, ⟨⟨(g2_.block _ (Array.getElem?_eq_some_iff.1 p2).1 (by simp; omega)).trans p2, (g2_.block _ (Array.getElem?_eq_some_iff.1 p14).1 (by simp; omega)).trans p14,
    (g2_.block _ (Array.getElem?_eq_some_iff.1 hr).1 (by simp; omega)).trans hr, bel_grown hb2 hb2.size g2_ (by omega), ⟨n1, n2, n3, n4, by omega⟩, ?_⟩, row_set2 p17 _ _, hin2.far (by omega) g2_, ⟨m1, m2, m3⟩⟩⟩
  have hok := h.rr.li.ok
  refine ⟨?_, World.ownsRow_nil _ _ _ _, World.ownsRow_nil _ _ _ _, ⟨Rd.nil, Nat.le_refl _, Nat.zero_le _, fun ad e => by cases e⟩, ⟨fun r hr => ?_, hok.2.1, hok.2.2.1, rfl⟩⟩
  · show World.ownsRow _ lo _ 33 (.slice Al' (rs ++ [x]).length cl') (rs ++ [x]).length (rfc (rs ++ [x]))
    rw [el, rfc_snoc]
    exact own_far ho2 (by omega) g2_
  · rcases List.mem_append.1 hr with h1 | h1
    · exact hok.1 r h1
    · rw [List.mem_singleton.1 h1]; exact hx
end

end Go.Proofs.Ytfjfidhhmidflaa

/-! The document's Read: kind x. (Printed by wip/genRRd.py.) -/

namespace Go.Proofs.Ytfjfidhhmidflaa

set_option linter.unusedVariables false

set_option linter.unusedSimpArgs false

open Go.RowKit

set_option maxRecDepth 100000 in
set_option maxHeartbeats 8000000 in
theorem rread_x (A : Option Addr) (bs : List UInt8) (c : Nat) (w : World) (hr : Rd w A (b8s bs)) (hc : bs.length ≤ c) (hc2 : c ≤ maxLen) (h4 : ¬ bs.length < 4) (h6 : ¬ 65536 < bs.length) (hsum : (getFour (some (bs.drop (bs.length - 4)))).1 = (crc (bs.take (bs.length - 4))).toNat) (hkind : (getNum (some (bs.take (bs.length - 4))) 4).1 ≠ 2 ∧ (getNum (some (bs.take (bs.length - 4))) 4).1 ≠ 3 ∧ (getNum (some (bs.take (bs.length - 4))) 4).1 ≠ 4) :
    Calls Try.prog 18 #[.slice A bs.length c] w fun e w' => RROut w w' e (readL bs) := by
  unfold maxLen at hc2
  obtain ⟨m, hm⟩ : ∃ m, bs.length = m + 4 := ⟨bs.length - 4, by omega⟩
  have e1 : bs.length - 4 = m := by omega
  have HLEN : Hid (¬ (bs.length < 4 ∨ 65536 < bs.length)) := Lib.hid (by omega)
  rw [e1] at hsum hkind
  obtain ⟨n, hn⟩ : ∃ n, bs.length = n := ⟨_, rfl⟩
  have HNM : Hid (n = m + 4) := Lib.hid (by omega)
  rw [hn]
  have HTK : Hid (bs.length - 4 = m) := Lib.hid e1
  obtain ⟨inn, hinn⟩ : ∃ l, bs.take m = l := ⟨_, rfl⟩
  obtain ⟨end_, hend⟩ : ∃ l, bs.drop m = l := ⟨_, rfl⟩
  rw [hinn, hend] at hsum
  rw [hinn] at hkind
  have HKD := Lib.hid hkind
  clear hkind
  have hil : inn.length = m := by rw [← hinn, List.length_take]; omega
  have hel : end_.length = 4 := by rw [← hend, List.length_drop]; omega
  have hr1 : Rd w A (b8s inn) := by
    have := hr.take m
    rwa [show (b8s bs).take m = b8s inn by rw [← hinn]; simp [b8s]] at this
  have hr2 : Rd w (Option.map (fun x => x.add m) A) (b8s end_) := by
    have := hr.drop (k := m) (size := 1) (cap := c) (by rw [b8s_length]; omega)
    rw [if_neg (by omega)] at this
    simpa [b8s, ← hend] using this
  obtain ⟨A2, hA2⟩ : ∃ x, Option.map (fun x => x.add m) A = x := ⟨_, rfl⟩
  rw [hA2] at hr2
  obtain ⟨KB, hKB⟩ : ∃ k, w.heap.size = k := ⟨_, rfl⟩
  have hik : InK w KB (.agg #[.slice A m c, .bool false]) (some inn) := by
    rw [← hKB]
    exact InV.k (st := some inn) ⟨A, m, c, rfl, hil.symm, by omega, by unfold maxLen; omega, hr1⟩
  obtain ⟨W1, hW1⟩ : ∃ W, w.alloc (.cells #[Value.int .i64 0, Value.int .i64 0, Value.int .i64 0, Value.int .i64 0, Value.slice none 0 0, Value.slice none 0 0, Value.slice none 0 0, Value.int .i64 0, Value.int .i64 0, Value.int .u8 0, Value.int .u8 0, Value.int .u8 0, Value.int .u8 0, Value.int .u8 0, Value.int .u8 0, Value.int .u8 0, Value.int .u8 0, Value.int .u8 0, Value.int .u8 0, Value.int .u8 0, Value.int .u8 0, Value.int .u8 0, Value.int .u8 0, Value.int .u8 0, Value.int .u8 0, Value.int .u8 0, Value.int .u8 0, Value.int .u8 0, Value.int .u8 0, Value.int .u8 0, Value.int .u8 0, Value.int .u8 0, Value.int .u8 0, Value.int .u8 0, Value.int .u8 0, Value.int .u8 0, Value.int .u8 0, Value.int .u8 0, Value.int .u8 0, Value.int .u8 0, Value.int .u8 0, Value.slice none 0 0] 37) = W := ⟨_, rfl⟩
  obtain ⟨q1, b1, s1⟩ := new_row hW1
  rw [← lt0_cells] at q1
  obtain ⟨g2, hg2⟩ : ∃ g, w.heap.size = g := ⟨_, rfl⟩
  rw [hg2] at q1
  have HQ1 := Lib.hid q1
  have HB1 := Lib.hid b1
  have HS1 : Hid (W1.heap.size = g2 + 1) := Lib.hid (by omega)
  have HG2 := Lib.hid hg2
  have HKB : Hid (KB = g2) := Lib.hid (by omega)
  have HIK := Lib.hid (hik.below b1)
  have HR1 := Lib.hid (hr1.below b1)
  have HIE : Hid (InV W1 (.agg #[.slice A2 (n - m) (c - m), .bool false]) (some end_)) := Lib.hid ⟨A2, n - m, c - m, rfl, by omega, by omega, by unfold maxLen; omega, hr2.below b1⟩
  have HIL := Lib.hid hil
  have HSUM := Lib.hid hsum
  have HINN := Lib.hid hinn
  have HEND := Lib.hid hend
  have hmc : n ≤ c := by omega
  have HM6 : Hid (m + 4 ≤ 65536) := Lib.hid (by omega)
  have HN4 : Hid (n - 4 = m) := Lib.hid (by omega)
  have hm4 : ¬ (n : Int) < 4 := by omega
  have hm7 : ¬ (65536 : Int) < (n : Int) := by omega
  have hmi : (m : Int) ≤ (c : Int) := by omega
  have hmj : (m : Int) ≤ (n : Int) := by omega
  have hcm : ¬ c = m := by omega
  clear hn e1 hinn hend hil hel hr1 hr2 hr q1 b1 s1 hsum hm h4 h6 hc hik hKB
  go_enter Try.func18, Try.ntmps18
  go_wp2_with fail
  rw [HN4.out, hA2]
  clear hg2 hW1 hA2 hcm
  refine (igetfour_any (some end_) _ W1 HIE.out).mono ?_
  rintro e w2 ⟨u, rfl, hu, hb2⟩
  obtain ⟨A3, n3, c3, b3, rfl, _, _⟩ := hu.form
  obtain ⟨W3, hW3⟩ : ∃ W, w2.alloc (.cells #[.slice A3 n3 c3, .bool b3] 86) = W := ⟨_, rfl⟩
  obtain ⟨r3, p3, s3⟩ := new_row hW3
  have HB13 := Lib.hid (ext_trans hb2 p3)
  have HB := Lib.hid (ext_trans HB1.out HB13.out)
  have HI := Lib.hid (HIK.out.below HB13.out)
  have hsm := rsum_any A inn c W3 (HR1.out.below HB13.out) (by have := HIL.out; have := HM6.out; unfold maxLen; omega)
  rw [HIL.out] at hsm
  have HSM := Lib.hid hsm
  have HQ3 := Lib.hid ((HB13.out.block g2 (Array.getElem?_eq_some_iff.1 HQ1.out).1).trans HQ1.out)
  clear hsm hu hb2 p3 s3 r3 HIE HIK HR1 HQ1
  go_wp2_with fail
  clear hW3
  refine HSM.out.mono ?_
  rintro e w4 ⟨rfl, rfl⟩
  clear HSM
  rw [HSUM.out]
  go_wp2_with fail
  refine (igetnum_k KB (some inn) _ 4 W3 HI.out).mono ?_
  rintro e w4 ⟨u, rfl, hu, hb4⟩
  obtain ⟨k, hk⟩ : ∃ k, (getNum (some inn) 4).1 = k := ⟨_, rfl⟩
  obtain ⟨st1, hs1⟩ : ∃ s, (getNum (some inn) 4).2 = s := ⟨_, rfl⟩
  rw [hk]
  rw [hs1] at hu
  have Hk := Lib.hid hk
  have Hst1 := Lib.hid hs1
  obtain ⟨A4, n4, c4, b4, rfl, _, _⟩ := hu.v.form
  obtain ⟨W4, hW4⟩ : ∃ W, w4.alloc (.cells #[.slice A4 n4 c4, .bool b4] 86) = W := ⟨_, rfl⟩
  obtain ⟨r4, p4, s4⟩ := new_row hW4
  have HI := Lib.hid (hu.below p4)
  have HB := Lib.hid (ext_trans HB.out (ext_trans hb4 p4))
  have HQ3 := Lib.hid (((ext_trans hb4 p4).block g2 (Array.getElem?_eq_some_iff.1 HQ3.out).1).trans HQ3.out)
  clear hk hs1 hu hb4 p4 s4
  go_wp2_with (refine wpList_load_row rfl _ _ rfl _ rfl _ _ _ _ r4 Try.underlying86 rfl info_in ?_)
  clear hW4 r4
  refine (igetnum_k KB st1 _ 65536 W4 HI.out).mono ?_
  rintro e w5 ⟨u, rfl, hu, hb5⟩
  obtain ⟨f, hk⟩ : ∃ k, (getNum st1 65536).1 = k := ⟨_, rfl⟩
  obtain ⟨st2, hs1⟩ : ∃ s, (getNum st1 65536).2 = s := ⟨_, rfl⟩
  rw [hk]
  rw [hs1] at hu
  have Hf := Lib.hid hk
  have Hst2 := Lib.hid hs1
  obtain ⟨A5, n5, c5, b5, rfl, _, _⟩ := hu.v.form
  obtain ⟨W5, hW5⟩ : ∃ W, w5.alloc (.cells #[.slice A5 n5 c5, .bool b5] 86) = W := ⟨_, rfl⟩
  obtain ⟨r5, p5, s5⟩ := new_row hW5
  have HI := Lib.hid (hu.below p5)
  have HB := Lib.hid (ext_trans HB.out (ext_trans hb5 p5))
  have HQ3 := Lib.hid (((ext_trans hb5 p5).block g2 (Array.getElem?_eq_some_iff.1 HQ3.out).1).trans HQ3.out)
  clear hk hs1 hu hb5 p5 s5
  go_wp2_with (refine wpList_load_row rfl _ _ rfl _ rfl _ _ _ _ r5 Try.underlying86 rfl info_in ?_)
  clear hW5 r5
  refine (igetnum_k KB st2 _ 65536 W5 HI.out).mono ?_
  rintro e w6 ⟨u, rfl, hu, hb6⟩
  obtain ⟨t, hk⟩ : ∃ k, (getNum st2 65536).1 = k := ⟨_, rfl⟩
  obtain ⟨st3, hs1⟩ : ∃ s, (getNum st2 65536).2 = s := ⟨_, rfl⟩
  rw [hk]
  rw [hs1] at hu
  have Ht := Lib.hid hk
  have Hst3 := Lib.hid hs1
  obtain ⟨A6, n6, c6, b6, rfl, _, _⟩ := hu.v.form
  obtain ⟨W6, hW6⟩ : ∃ W, w6.alloc (.cells #[.slice A6 n6 c6, .bool b6] 86) = W := ⟨_, rfl⟩
  obtain ⟨r6, p6, s6⟩ := new_row hW6
  have HI := Lib.hid (hu.below p6)
  have HB := Lib.hid (ext_trans HB.out (ext_trans hb6 p6))
  have HQ3 := Lib.hid (((ext_trans hb6 p6).block g2 (Array.getElem?_eq_some_iff.1 HQ3.out).1).trans HQ3.out)
  clear hk hs1 hu hb6 p6 s6
  go_wp2_with (refine wpList_load_row rfl _ _ rfl _ rfl _ _ _ _ r6 Try.underlying86 rfl info_in ?_)
  clear hW6 r6
  refine (igetnum_k KB st3 _ 1099511627776 W6 HI.out).mono ?_
  rintro e w7 ⟨u, rfl, hu, hb7⟩
  obtain ⟨s, hk⟩ : ∃ k, (getNum st3 1099511627776).1 = k := ⟨_, rfl⟩
  obtain ⟨st4, hs1⟩ : ∃ s, (getNum st3 1099511627776).2 = s := ⟨_, rfl⟩
  rw [hk]
  rw [hs1] at hu
  have Hs := Lib.hid hk
  have Hst4 := Lib.hid hs1
  obtain ⟨A7, n7, c7, b7, rfl, _, _⟩ := hu.v.form
  obtain ⟨W7, hW7⟩ : ∃ W, w7.alloc (.cells #[.slice A7 n7 c7, .bool b7] 86) = W := ⟨_, rfl⟩
  obtain ⟨r7, p7, s7⟩ := new_row hW7
  obtain ⟨g14, hg14⟩ : ∃ g, w7.heap.size = g := ⟨_, rfl⟩
  rw [hg14] at r7
  obtain ⟨W8, hW8⟩ : ∃ W, W7.alloc (.cells #[Value.int .i64 0, Value.int .i64 0, Value.int .i64 0, Value.int .i64 0, Value.slice none 0 0, Value.slice none 0 0, Value.slice none 0 0, Value.int .i64 0, Value.int .i64 0, Value.int .u8 0, Value.int .u8 0, Value.int .u8 0, Value.int .u8 0, Value.int .u8 0, Value.int .u8 0, Value.int .u8 0, Value.int .u8 0, Value.int .u8 0, Value.int .u8 0, Value.int .u8 0, Value.int .u8 0, Value.int .u8 0, Value.int .u8 0, Value.int .u8 0, Value.int .u8 0, Value.int .u8 0, Value.int .u8 0, Value.int .u8 0, Value.int .u8 0, Value.int .u8 0, Value.int .u8 0, Value.int .u8 0, Value.int .u8 0, Value.int .u8 0, Value.int .u8 0, Value.int .u8 0, Value.int .u8 0, Value.int .u8 0, Value.int .u8 0, Value.int .u8 0, Value.int .u8 0, Value.slice none 0 0] 37) = W := ⟨_, rfl⟩
  obtain ⟨q8, p8, s8⟩ := new_row hW8
  rw [← lt0_cells] at q8
  obtain ⟨g15, hg15⟩ : ∃ g, W7.heap.size = g := ⟨_, rfl⟩
  obtain ⟨W9, hW9, HTH9, HR9, HB9, HKK9, HSZ9⟩ := let_write (q := p0) (m := ⟨k, f, t, s, [], [], [], 0, 0, zeros32, []⟩) q8 rfl rfl p8 p8.size (Nat.le_refl _)
  have HW9 := Lib.hid hW9
  rw [hg15] at HTH9 HW9 HR9
  have HI := Lib.hid ((hu.below p7).below HB9.out)
  obtain ⟨lo, hlo⟩ : ∃ lo, W9.heap.size = lo := ⟨_, rfl⟩
  have HRR : Hid (RR w W9 g2 g14 g15 lo A7 n7 c7 b7 ⟨k, f, t, s, [], [], [], 0, 0, zeros32, []⟩ p0) := Lib.hid (by
    have h1 := HB.out.size
    have h2 := hb7.size
    have h3 := HG2.out
    have h9 := HSZ9.out
    have hb9 := HB.out.trans ((hb7.trans ((p7.trans (HB9.out.mono (by omega))).mono hb7.size)).mono h1)
    have a2 : W9.heap[g2]? = _ := ((ext_trans hb7 (ext_trans p7 HB9.out)).block g2 (Array.getElem?_eq_some_iff.1 HQ3.out).1).trans HQ3.out
    have a14 : W9.heap[g14]? = _ := (HB9.out.block g14 (Array.getElem?_eq_some_iff.1 r7).1).trans r7
    have lt2 := (Array.getElem?_eq_some_iff.1 HQ3.out).1
    have lt15 := (Array.getElem?_eq_some_iff.1 HR9.out).1
    exact ⟨a2, a14, HR9.out, hb9, ⟨by omega, by omega, by omega, by omega, by omega⟩, LI.start _ _ _ _ _ _ _ _ _ _⟩)
  have HLO : Hid (KB ≤ g2 ∧ lo = W9.heap.size) := Lib.hid ⟨by have := HKB.out; omega, hlo.symm⟩
  have HIB := Lib.hid (info_rleta (⟨k, f, t, s, [], [], [], 0, 0, zeros32, []⟩ : Lt) p0 rfl)
  have HOB := Lib.hid (all_oneCell_toArray ((⟨k, f, t, s, [], [], [], 0, 0, zeros32, []⟩ : Lt).cells_one p0))
  have HBU := Lib.hid (rhead_built k f t s)
  have HKV := HKD
  rw [Hk.out] at HKV
  have d2 : ((k : Int) == 2) = false := by rw [beq_eq_false_iff_ne]; have := HKV.out; omega
  have d3 : ((k : Int) == 3) = false := by rw [beq_eq_false_iff_ne]; have := HKV.out; omega
  have d4 : ((k : Int) == 4) = false := by rw [beq_eq_false_iff_ne]; have := HKV.out; omega
  have R14 := HRR.out.r14
  clear hk hs1 hu hb7 p7 s7 r7 q8 p8 s8 hW9 HR9 HB9 HKK9 HSZ9 HQ3 HKB HG2 hlo HB
  go_wp2_with (first
    | ((with_reducible (refine wpList_built ?_ _ #[(0, .tmp 87), (1, .tmp 88), (2, .tmp 89), (3, .tmp 90)] ?_ _ ?_ _ HBU.out ?_)); (exact rfl); (exact rfl); (exact rfl))
    | ((with_reducible (refine wpList_store_mid rfl _ _ _ rfl ?_ ?_ ?_ ?_ ?_ ?_ ?_ ?_ ?_)); (exact g15); (exact 0); (exact ((⟨k, f, t, s, [], [], [], 0, 0, zeros32, []⟩ : Lt).cells p0).toArray); (exact rfl); (exact rfl); (exact HTH9.out); (exact HIB.out); (exact HOB.out); rw [HW9.out])
    | (refine wpList_load_row rfl _ _ rfl _ rfl _ _ _ _ R14 Try.underlying86 rfl info_in ?_))
  clear hW7 hW8 hg14 hg15 R14 HBU HTH9 HIB HOB HW9 d2 d3 d4
  have HHD : Hid (headR (some inn) = (⟨k, f, t, s, [], [], [], 0, 0, zeros32, []⟩, st4)) := Lib.hid (by
    unfold headR
    simp only [Hk.out, Hst1.out, Hf.out, Hst2.out, Ht.out, Hst3.out, Hs.out, Hst4.out])
  have HRE0 : Hid (readL bs = (if doneS (restR (⟨k, f, t, s, [], [], [], 0, 0, zeros32, []⟩, st4)).2 && rightL (restR (⟨k, f, t, s, [], [], [], 0, 0, zeros32, []⟩, st4)).1 then some (restR (⟨k, f, t, s, [], [], [], 0, 0, zeros32, []⟩, st4)).1 else none)) := Lib.hid (by
    have h := readL_ok HLEN.out (by rw [HTK.out, HINN.out, HEND.out]; exact HSUM.out)
    rw [HTK.out, HINN.out, HHD.out] at h
    exact h)
  have HRES : Hid (readL bs = (if doneS st4 && rightL ⟨k, f, t, s, [], [], [], 0, 0, zeros32, []⟩ then some ⟨k, f, t, s, [], [], [], 0, 0, zeros32, []⟩ else none)) := Lib.hid (by
    have h := HRE0.out
    rw [restR_0 (by have := HKV.out; simp only; omega) (by have := HKV.out; simp only; omega) (by have := HKV.out; simp only; omega)] at h
    exact h)
  have HTB : Hid (-9223372036854775808 ≤ (⟨k, f, t, s, [], [], [], 0, 0, zeros32, []⟩ : Lt).off ∧ (⟨k, f, t, s, [], [], [], 0, 0, zeros32, []⟩ : Lt).off ≤ 9223372036854775807) := Lib.hid (by show (-9223372036854775808 : Int) ≤ 0 ∧ (0 : Int) ≤ 9223372036854775807; decide)
  refine (idone_any st4 _ W9 HI.out.v).mono ?_
  rintro e wz1 ⟨rfl, hbz1⟩
  have HRZ := Lib.hid (HRR.out.below hbz1)
  clear hbz1
  obtain ⟨WE, hWE, HTE, HRE, HBE, _, _⟩ := let_write (q := p0) (m := lt0) HRZ.out.r2 rfl rfl HRZ.out.bel HRZ.out.bel.size HRZ.out.ne.1
  have HWE := Lib.hid hWE
  have HIE := Lib.hid (info_rleta lt0 p0 rfl)
  have HOE := Lib.hid (all_oneCell_toArray (lt0.cells_one p0))
  have HBE' : Hid (Below w.heap.size w WE) := HBE
  have HZB := Lib.hid rzero_built
  clear hWE
  cases hd : doneS st4
  · have HRF : Hid (readL bs = none) := Lib.hid (by rw [HRES.out, hd]; rfl)
    clear hd
    go_wp2_with (first
      | ((with_reducible (refine wpList_built ?_ _ #[] ?_ _ ?_ _ HZB.out ?_)); (exact rfl); (exact rfl); (exact rfl))
      | ((with_reducible (refine wpList_store_mid rfl _ _ _ rfl ?_ ?_ ?_ ?_ ?_ ?_ ?_ ?_ ?_)); (exact g2); (exact 0); (exact (lt0.cells p0).toArray); (exact rfl); (exact rfl); (exact HTE.out); (exact HIE.out); (exact HOE.out); rw [HWE.out]))
    refine bodyPost_ret (results_row_tmp rfl _ _ _ _ _ _ _ rfl HRE.out Try.underlying37 rfl HIE.out) rfl ?_
    rw [HRF.out]
    exact rres_zero HBE'.out
  have HD := Lib.hid hd
  clear hd
  have HR7 := Lib.hid HRZ.out.r15
  have HIL7 := Lib.hid (info_rleta (⟨k, f, t, s, [], [], [], 0, 0, zeros32, []⟩ : Lt) (p0 : LtP) HRZ.out.li.ok.2.2.2)
  have HOL7 := Lib.hid (all_oneCell_toArray (Lt.cells_one (⟨k, f, t, s, [], [], [], 0, 0, zeros32, []⟩ : Lt) (p0 : LtP)))
  have HRL := Lib.hid (rright_any (⟨k, f, t, s, [], [], [], 0, 0, zeros32, []⟩ : Lt) (p0 : LtP) wz1 HRZ.out.li.in_ HTB.out)
  go_wp2_with ((with_reducible (refine wpList_load_row_w _ _ rfl _ rfl _ _ _ _ HR7.out Try.underlying37 rfl HIL7.out ?_ ?_)); (focus (rfl)))
  refine HRL.out.mono ?_
  rintro e wz2 ⟨rfl, hbz⟩
  have HRY := Lib.hid (HRZ.out.below hbz)
  clear hbz HRL HTE HRE HBE HBE' HWE
  cases hrt : rightL (⟨k, f, t, s, [], [], [], 0, 0, zeros32, []⟩ : Lt)
  · have HRF : Hid (readL bs = none) := Lib.hid (by rw [HRES.out, HD.out, hrt]; rfl)
    clear hrt
    obtain ⟨WE, hWE, HTE, HRE, HBE, _, _⟩ := let_write (q := p0) (m := lt0) HRY.out.r2 rfl rfl HRY.out.bel HRY.out.bel.size HRY.out.ne.1
    have HWE := Lib.hid hWE
    have HBE' : Hid (Below w.heap.size w WE) := HBE
    clear hWE
    go_wp2_with (first
      | ((with_reducible (refine wpList_built ?_ _ #[] ?_ _ ?_ _ HZB.out ?_)); (exact rfl); (exact rfl); (exact rfl))
      | ((with_reducible (refine wpList_store_mid rfl _ _ _ rfl ?_ ?_ ?_ ?_ ?_ ?_ ?_ ?_ ?_)); (exact g2); (exact 0); (exact (lt0.cells p0).toArray); (exact rfl); (exact rfl); (exact HTE.out); (exact HIE.out); (exact HOE.out); rw [HWE.out]))
    refine bodyPost_ret (results_row_tmp rfl _ _ _ _ _ _ _ rfl HRE.out Try.underlying37 rfl HIE.out) rfl ?_
    rw [HRF.out]
    exact rres_zero HBE'.out
  have HRF : Hid (readL bs = some (⟨k, f, t, s, [], [], [], 0, 0, zeros32, []⟩ : Lt)) := Lib.hid (by rw [HRES.out, HD.out, hrt]; rfl)
  clear hrt
  obtain ⟨WE, hWE, HTE, HRE, HBE, _, _⟩ := let_write (q := (p0 : LtP)) (m := (⟨k, f, t, s, [], [], [], 0, 0, zeros32, []⟩ : Lt)) HRY.out.r2 rfl HRY.out.li.ok.2.2.2 HRY.out.bel HRY.out.bel.size HRY.out.ne.1
  have HWE := Lib.hid hWE
  have HLE : Hid (LtIn WE (⟨k, f, t, s, [], [], [], 0, 0, zeros32, []⟩ : Lt) (p0 : LtP)) := Lib.hid (by rw [← hWE]; exact (HRY.out.li.far (by have := HRY.out.ne; omega) (setCells_grown _ _ _ _)).in_)
  have HR7' := Lib.hid HRY.out.r15
  have HBE' : Hid (Below w.heap.size w WE) := HBE
  clear hWE
  go_wp2_with (first
    | ((with_reducible (refine wpList_load_row_w _ _ rfl _ rfl _ _ _ _ HR7'.out Try.underlying37 rfl HIL7.out ?_ ?_)); (focus (rfl)))
    | ((with_reducible (refine wpList_store_mid rfl _ _ _ rfl ?_ ?_ ?_ ?_ ?_ ?_ ?_ ?_ ?_)); (exact g2); (exact 0); (exact ((⟨k, f, t, s, [], [], [], 0, 0, zeros32, []⟩ : Lt).cells (p0 : LtP)).toArray); (exact rfl); (exact rfl); (exact HTE.out); (exact HIL7.out); (exact HOL7.out); rw [HWE.out]))
  refine bodyPost_ret (results_row_tmp rfl _ _ _ _ _ _ _ rfl HRE.out Try.underlying37 rfl HIL7.out) rfl ?_
  rw [HRF.out]
  exact ⟨_, rfl, HLE.out, HBE'.out⟩
end Go.Proofs.Ytfjfidhhmidflaa

/-! The document's Read: kind 3. (Printed by wip/genRRd.py.) -/

namespace Go.Proofs.Ytfjfidhhmidflaa

set_option linter.unusedVariables false

set_option linter.unusedSimpArgs false

open Go.RowKit

set_option maxRecDepth 100000 in
set_option maxHeartbeats 8000000 in
theorem rread_3 (A : Option Addr) (bs : List UInt8) (c : Nat) (w : World) (hr : Rd w A (b8s bs)) (hc : bs.length ≤ c) (hc2 : c ≤ maxLen) (h4 : ¬ bs.length < 4) (h6 : ¬ 65536 < bs.length) (hsum : (getFour (some (bs.drop (bs.length - 4)))).1 = (crc (bs.take (bs.length - 4))).toNat) (hkind : (getNum (some (bs.take (bs.length - 4))) 4).1 = 3) :
    Calls Try.prog 18 #[.slice A bs.length c] w fun e w' => RROut w w' e (readL bs) := by
  unfold maxLen at hc2
  obtain ⟨m, hm⟩ : ∃ m, bs.length = m + 4 := ⟨bs.length - 4, by omega⟩
  have e1 : bs.length - 4 = m := by omega
  have HLEN : Hid (¬ (bs.length < 4 ∨ 65536 < bs.length)) := Lib.hid (by omega)
  rw [e1] at hsum hkind
  obtain ⟨n, hn⟩ : ∃ n, bs.length = n := ⟨_, rfl⟩
  have HNM : Hid (n = m + 4) := Lib.hid (by omega)
  rw [hn]
  have HTK : Hid (bs.length - 4 = m) := Lib.hid e1
  obtain ⟨inn, hinn⟩ : ∃ l, bs.take m = l := ⟨_, rfl⟩
  obtain ⟨end_, hend⟩ : ∃ l, bs.drop m = l := ⟨_, rfl⟩
  rw [hinn, hend] at hsum
  rw [hinn] at hkind
  have HKD := Lib.hid hkind
  clear hkind
  have hil : inn.length = m := by rw [← hinn, List.length_take]; omega
  have hel : end_.length = 4 := by rw [← hend, List.length_drop]; omega
  have hr1 : Rd w A (b8s inn) := by
    have := hr.take m
    rwa [show (b8s bs).take m = b8s inn by rw [← hinn]; simp [b8s]] at this
  have hr2 : Rd w (Option.map (fun x => x.add m) A) (b8s end_) := by
    have := hr.drop (k := m) (size := 1) (cap := c) (by rw [b8s_length]; omega)
    rw [if_neg (by omega)] at this
    simpa [b8s, ← hend] using this
  obtain ⟨A2, hA2⟩ : ∃ x, Option.map (fun x => x.add m) A = x := ⟨_, rfl⟩
  rw [hA2] at hr2
  obtain ⟨KB, hKB⟩ : ∃ k, w.heap.size = k := ⟨_, rfl⟩
  have hik : InK w KB (.agg #[.slice A m c, .bool false]) (some inn) := by
    rw [← hKB]
    exact InV.k (st := some inn) ⟨A, m, c, rfl, hil.symm, by omega, by unfold maxLen; omega, hr1⟩
  obtain ⟨W1, hW1⟩ : ∃ W, w.alloc (.cells #[Value.int .i64 0, Value.int .i64 0, Value.int .i64 0, Value.int .i64 0, Value.slice none 0 0, Value.slice none 0 0, Value.slice none 0 0, Value.int .i64 0, Value.int .i64 0, Value.int .u8 0, Value.int .u8 0, Value.int .u8 0, Value.int .u8 0, Value.int .u8 0, Value.int .u8 0, Value.int .u8 0, Value.int .u8 0, Value.int .u8 0, Value.int .u8 0, Value.int .u8 0, Value.int .u8 0, Value.int .u8 0, Value.int .u8 0, Value.int .u8 0, Value.int .u8 0, Value.int .u8 0, Value.int .u8 0, Value.int .u8 0, Value.int .u8 0, Value.int .u8 0, Value.int .u8 0, Value.int .u8 0, Value.int .u8 0, Value.int .u8 0, Value.int .u8 0, Value.int .u8 0, Value.int .u8 0, Value.int .u8 0, Value.int .u8 0, Value.int .u8 0, Value.int .u8 0, Value.slice none 0 0] 37) = W := ⟨_, rfl⟩
  obtain ⟨q1, b1, s1⟩ := new_row hW1
  rw [← lt0_cells] at q1
  obtain ⟨g2, hg2⟩ : ∃ g, w.heap.size = g := ⟨_, rfl⟩
  rw [hg2] at q1
  have HQ1 := Lib.hid q1
  have HB1 := Lib.hid b1
  have HS1 : Hid (W1.heap.size = g2 + 1) := Lib.hid (by omega)
  have HG2 := Lib.hid hg2
  have HKB : Hid (KB = g2) := Lib.hid (by omega)
  have HIK := Lib.hid (hik.below b1)
  have HR1 := Lib.hid (hr1.below b1)
  have HIE : Hid (InV W1 (.agg #[.slice A2 (n - m) (c - m), .bool false]) (some end_)) := Lib.hid ⟨A2, n - m, c - m, rfl, by omega, by omega, by unfold maxLen; omega, hr2.below b1⟩
  have HIL := Lib.hid hil
  have HSUM := Lib.hid hsum
  have HINN := Lib.hid hinn
  have HEND := Lib.hid hend
  have hmc : n ≤ c := by omega
  have HM6 : Hid (m + 4 ≤ 65536) := Lib.hid (by omega)
  have HN4 : Hid (n - 4 = m) := Lib.hid (by omega)
  have hm4 : ¬ (n : Int) < 4 := by omega
  have hm7 : ¬ (65536 : Int) < (n : Int) := by omega
  have hmi : (m : Int) ≤ (c : Int) := by omega
  have hmj : (m : Int) ≤ (n : Int) := by omega
  have hcm : ¬ c = m := by omega
  clear hn e1 hinn hend hil hel hr1 hr2 hr q1 b1 s1 hsum hm h4 h6 hc hik hKB
  go_enter Try.func18, Try.ntmps18
  go_wp2_with fail
  rw [HN4.out, hA2]
  clear hg2 hW1 hA2 hcm
  refine (igetfour_any (some end_) _ W1 HIE.out).mono ?_
  rintro e w2 ⟨u, rfl, hu, hb2⟩
  obtain ⟨A3, n3, c3, b3, rfl, _, _⟩ := hu.form
  obtain ⟨W3, hW3⟩ : ∃ W, w2.alloc (.cells #[.slice A3 n3 c3, .bool b3] 86) = W := ⟨_, rfl⟩
  obtain ⟨r3, p3, s3⟩ := new_row hW3
  have HB13 := Lib.hid (ext_trans hb2 p3)
  have HB := Lib.hid (ext_trans HB1.out HB13.out)
  have HI := Lib.hid (HIK.out.below HB13.out)
  have hsm := rsum_any A inn c W3 (HR1.out.below HB13.out) (by have := HIL.out; have := HM6.out; unfold maxLen; omega)
  rw [HIL.out] at hsm
  have HSM := Lib.hid hsm
  have HQ3 := Lib.hid ((HB13.out.block g2 (Array.getElem?_eq_some_iff.1 HQ1.out).1).trans HQ1.out)
  clear hsm hu hb2 p3 s3 r3 HIE HIK HR1 HQ1
  go_wp2_with fail
  clear hW3
  refine HSM.out.mono ?_
  rintro e w4 ⟨rfl, rfl⟩
  clear HSM
  rw [HSUM.out]
  go_wp2_with fail
  refine (igetnum_k KB (some inn) _ 4 W3 HI.out).mono ?_
  rintro e w4 ⟨u, rfl, hu, hb4⟩
  obtain ⟨k, hk⟩ : ∃ k, (getNum (some inn) 4).1 = k := ⟨_, rfl⟩
  obtain ⟨st1, hs1⟩ : ∃ s, (getNum (some inn) 4).2 = s := ⟨_, rfl⟩
  rw [hk]
  rw [hs1] at hu
  have Hk := Lib.hid hk
  have Hst1 := Lib.hid hs1
  obtain ⟨A4, n4, c4, b4, rfl, _, _⟩ := hu.v.form
  obtain ⟨W4, hW4⟩ : ∃ W, w4.alloc (.cells #[.slice A4 n4 c4, .bool b4] 86) = W := ⟨_, rfl⟩
  obtain ⟨r4, p4, s4⟩ := new_row hW4
  have HI := Lib.hid (hu.below p4)
  have HB := Lib.hid (ext_trans HB.out (ext_trans hb4 p4))
  have HQ3 := Lib.hid (((ext_trans hb4 p4).block g2 (Array.getElem?_eq_some_iff.1 HQ3.out).1).trans HQ3.out)
  clear hk hs1 hu hb4 p4 s4
  go_wp2_with (refine wpList_load_row rfl _ _ rfl _ rfl _ _ _ _ r4 Try.underlying86 rfl info_in ?_)
  clear hW4 r4
  refine (igetnum_k KB st1 _ 65536 W4 HI.out).mono ?_
  rintro e w5 ⟨u, rfl, hu, hb5⟩
  obtain ⟨f, hk⟩ : ∃ k, (getNum st1 65536).1 = k := ⟨_, rfl⟩
  obtain ⟨st2, hs1⟩ : ∃ s, (getNum st1 65536).2 = s := ⟨_, rfl⟩
  rw [hk]
  rw [hs1] at hu
  have Hf := Lib.hid hk
  have Hst2 := Lib.hid hs1
  obtain ⟨A5, n5, c5, b5, rfl, _, _⟩ := hu.v.form
  obtain ⟨W5, hW5⟩ : ∃ W, w5.alloc (.cells #[.slice A5 n5 c5, .bool b5] 86) = W := ⟨_, rfl⟩
  obtain ⟨r5, p5, s5⟩ := new_row hW5
  have HI := Lib.hid (hu.below p5)
  have HB := Lib.hid (ext_trans HB.out (ext_trans hb5 p5))
  have HQ3 := Lib.hid (((ext_trans hb5 p5).block g2 (Array.getElem?_eq_some_iff.1 HQ3.out).1).trans HQ3.out)
  clear hk hs1 hu hb5 p5 s5
  go_wp2_with (refine wpList_load_row rfl _ _ rfl _ rfl _ _ _ _ r5 Try.underlying86 rfl info_in ?_)
  clear hW5 r5
  refine (igetnum_k KB st2 _ 65536 W5 HI.out).mono ?_
  rintro e w6 ⟨u, rfl, hu, hb6⟩
  obtain ⟨t, hk⟩ : ∃ k, (getNum st2 65536).1 = k := ⟨_, rfl⟩
  obtain ⟨st3, hs1⟩ : ∃ s, (getNum st2 65536).2 = s := ⟨_, rfl⟩
  rw [hk]
  rw [hs1] at hu
  have Ht := Lib.hid hk
  have Hst3 := Lib.hid hs1
  obtain ⟨A6, n6, c6, b6, rfl, _, _⟩ := hu.v.form
  obtain ⟨W6, hW6⟩ : ∃ W, w6.alloc (.cells #[.slice A6 n6 c6, .bool b6] 86) = W := ⟨_, rfl⟩
  obtain ⟨r6, p6, s6⟩ := new_row hW6
  have HI := Lib.hid (hu.below p6)
  have HB := Lib.hid (ext_trans HB.out (ext_trans hb6 p6))
  have HQ3 := Lib.hid (((ext_trans hb6 p6).block g2 (Array.getElem?_eq_some_iff.1 HQ3.out).1).trans HQ3.out)
  clear hk hs1 hu hb6 p6 s6
  go_wp2_with (refine wpList_load_row rfl _ _ rfl _ rfl _ _ _ _ r6 Try.underlying86 rfl info_in ?_)
  clear hW6 r6
  refine (igetnum_k KB st3 _ 1099511627776 W6 HI.out).mono ?_
  rintro e w7 ⟨u, rfl, hu, hb7⟩
  obtain ⟨s, hk⟩ : ∃ k, (getNum st3 1099511627776).1 = k := ⟨_, rfl⟩
  obtain ⟨st4, hs1⟩ : ∃ s, (getNum st3 1099511627776).2 = s := ⟨_, rfl⟩
  rw [hk]
  rw [hs1] at hu
  have Hs := Lib.hid hk
  have Hst4 := Lib.hid hs1
  obtain ⟨A7, n7, c7, b7, rfl, _, _⟩ := hu.v.form
  obtain ⟨W7, hW7⟩ : ∃ W, w7.alloc (.cells #[.slice A7 n7 c7, .bool b7] 86) = W := ⟨_, rfl⟩
  obtain ⟨r7, p7, s7⟩ := new_row hW7
  obtain ⟨g14, hg14⟩ : ∃ g, w7.heap.size = g := ⟨_, rfl⟩
  rw [hg14] at r7
  obtain ⟨W8, hW8⟩ : ∃ W, W7.alloc (.cells #[Value.int .i64 0, Value.int .i64 0, Value.int .i64 0, Value.int .i64 0, Value.slice none 0 0, Value.slice none 0 0, Value.slice none 0 0, Value.int .i64 0, Value.int .i64 0, Value.int .u8 0, Value.int .u8 0, Value.int .u8 0, Value.int .u8 0, Value.int .u8 0, Value.int .u8 0, Value.int .u8 0, Value.int .u8 0, Value.int .u8 0, Value.int .u8 0, Value.int .u8 0, Value.int .u8 0, Value.int .u8 0, Value.int .u8 0, Value.int .u8 0, Value.int .u8 0, Value.int .u8 0, Value.int .u8 0, Value.int .u8 0, Value.int .u8 0, Value.int .u8 0, Value.int .u8 0, Value.int .u8 0, Value.int .u8 0, Value.int .u8 0, Value.int .u8 0, Value.int .u8 0, Value.int .u8 0, Value.int .u8 0, Value.int .u8 0, Value.int .u8 0, Value.int .u8 0, Value.slice none 0 0] 37) = W := ⟨_, rfl⟩
  obtain ⟨q8, p8, s8⟩ := new_row hW8
  rw [← lt0_cells] at q8
  obtain ⟨g15, hg15⟩ : ∃ g, W7.heap.size = g := ⟨_, rfl⟩
  obtain ⟨W9, hW9, HTH9, HR9, HB9, HKK9, HSZ9⟩ := let_write (q := p0) (m := ⟨k, f, t, s, [], [], [], 0, 0, zeros32, []⟩) q8 rfl rfl p8 p8.size (Nat.le_refl _)
  have HW9 := Lib.hid hW9
  rw [hg15] at HTH9 HW9 HR9
  have HI := Lib.hid ((hu.below p7).below HB9.out)
  obtain ⟨lo, hlo⟩ : ∃ lo, W9.heap.size = lo := ⟨_, rfl⟩
  have HRR : Hid (RR w W9 g2 g14 g15 lo A7 n7 c7 b7 ⟨k, f, t, s, [], [], [], 0, 0, zeros32, []⟩ p0) := Lib.hid (by
    have h1 := HB.out.size
    have h2 := hb7.size
    have h3 := HG2.out
    have h9 := HSZ9.out
    have hb9 := HB.out.trans ((hb7.trans ((p7.trans (HB9.out.mono (by omega))).mono hb7.size)).mono h1)
    have a2 : W9.heap[g2]? = _ := ((ext_trans hb7 (ext_trans p7 HB9.out)).block g2 (Array.getElem?_eq_some_iff.1 HQ3.out).1).trans HQ3.out
    have a14 : W9.heap[g14]? = _ := (HB9.out.block g14 (Array.getElem?_eq_some_iff.1 r7).1).trans r7
    have lt2 := (Array.getElem?_eq_some_iff.1 HQ3.out).1
    have lt15 := (Array.getElem?_eq_some_iff.1 HR9.out).1
    exact ⟨a2, a14, HR9.out, hb9, ⟨by omega, by omega, by omega, by omega, by omega⟩, LI.start _ _ _ _ _ _ _ _ _ _⟩)
  have HLO : Hid (KB ≤ g2 ∧ lo = W9.heap.size) := Lib.hid ⟨by have := HKB.out; omega, hlo.symm⟩
  have HIB := Lib.hid (info_rleta (⟨k, f, t, s, [], [], [], 0, 0, zeros32, []⟩ : Lt) p0 rfl)
  have HOB := Lib.hid (all_oneCell_toArray ((⟨k, f, t, s, [], [], [], 0, 0, zeros32, []⟩ : Lt).cells_one p0))
  have HBU := Lib.hid (rhead_built k f t s)
  have HKV := HKD
  rw [Hk.out] at HKV
  have d2 : ((k : Int) == 2) = false := by rw [HKV.out]; rfl
  have d3 : ((k : Int) == 3) = true := by rw [HKV.out]; rfl
  have d4 : ((k : Int) == 4) = false := by rw [HKV.out]; rfl
  have R14 := HRR.out.r14
  clear hk hs1 hu hb7 p7 s7 r7 q8 p8 s8 hW9 HR9 HB9 HKK9 HSZ9 HQ3 HKB HG2 hlo HB
  go_wp2_with (first
    | ((with_reducible (refine wpList_built ?_ _ #[(0, .tmp 87), (1, .tmp 88), (2, .tmp 89), (3, .tmp 90)] ?_ _ ?_ _ HBU.out ?_)); (exact rfl); (exact rfl); (exact rfl))
    | ((with_reducible (refine wpList_store_mid rfl _ _ _ rfl ?_ ?_ ?_ ?_ ?_ ?_ ?_ ?_ ?_)); (exact g15); (exact 0); (exact ((⟨k, f, t, s, [], [], [], 0, 0, zeros32, []⟩ : Lt).cells p0).toArray); (exact rfl); (exact rfl); (exact HTH9.out); (exact HIB.out); (exact HOB.out); rw [HW9.out])
    | (refine wpList_load_row rfl _ _ rfl _ rfl _ _ _ _ R14 Try.underlying86 rfl info_in ?_))
  clear hW7 hW8 hg14 hg15 R14 HBU HTH9 HIB HOB HW9 d2 d3 d4
  have HHD : Hid (headR (some inn) = (⟨k, f, t, s, [], [], [], 0, 0, zeros32, []⟩, st4)) := Lib.hid (by
    unfold headR
    simp only [Hk.out, Hst1.out, Hf.out, Hst2.out, Ht.out, Hst3.out, Hs.out, Hst4.out])
  have HRE0 : Hid (readL bs = (if doneS (restR (⟨k, f, t, s, [], [], [], 0, 0, zeros32, []⟩, st4)).2 && rightL (restR (⟨k, f, t, s, [], [], [], 0, 0, zeros32, []⟩, st4)).1 then some (restR (⟨k, f, t, s, [], [], [], 0, 0, zeros32, []⟩, st4)).1 else none)) := Lib.hid (by
    have h := readL_ok HLEN.out (by rw [HTK.out, HINN.out, HEND.out]; exact HSUM.out)
    rw [HTK.out, HINN.out, HHD.out] at h
    exact h)
  refine (rgetIDs_any KB st4 _ 100 W9 HI.out (by have := HLO.out; have := HRR.out.ne; omega) (by decide) (by decide)).mono ?_
  rintro e w10 ⟨Aw, nx, cw, u, rfl, hnx, hox, hu, hb10⟩
  have hkx : iOk (getIds st4 100).1 := (idsK_len _ _).2
  obtain ⟨ws, hk⟩ : ∃ x, (getIds st4 100).1 = x := ⟨_, rfl⟩
  obtain ⟨st5, hs1⟩ : ∃ s, (getIds st4 100).2 = s := ⟨_, rfl⟩
  rw [hk] at hnx hox hkx
  rw [hs1] at hu
  subst hnx
  have Hws := Lib.hid hk
  have Hst5 := Lib.hid hs1
  have HKws := Lib.hid hkx
  obtain ⟨A10, n10, c10, b10, rfl, _, _⟩ := hu.v.form
  obtain ⟨W10, hW10⟩ : ∃ W, w10.alloc (.cells #[.slice A10 n10 c10, .bool b10] 86) = W := ⟨_, rfl⟩
  obtain ⟨r10, p10, s10⟩ := new_row hW10
  have HI := Lib.hid (hu.below p10)
  have HOws := Lib.hid (own_mono (own_below hox p10) (by have := HRR.out.ne; omega : lo ≤ W9.heap.size))
  have HRR := Lib.hid (HRR.out.below (ext_trans hb10 p10))
  clear hk hs1 hu hb10 p10 s10 hkx hox
  go_wp2_with (refine wpList_load_row rfl _ _ rfl _ rfl _ _ _ _ r10 Try.underlying86 rfl info_in ?_)
  clear hW10 r10
  refine (rgetIDs_any KB st5 _ 200 W10 HI.out (by have := HLO.out; have := HRR.out.ne; omega) (by decide) (by decide)).mono ?_
  rintro e w11 ⟨Ah, nx, ch, u, rfl, hnx, hox, hu, hb11⟩
  have hkx : iOk (getIds st5 200).1 := (idsK_len _ _).2
  obtain ⟨hs, hk⟩ : ∃ x, (getIds st5 200).1 = x := ⟨_, rfl⟩
  obtain ⟨st6, hs1⟩ : ∃ s, (getIds st5 200).2 = s := ⟨_, rfl⟩
  rw [hk] at hnx hox hkx
  rw [hs1] at hu
  subst hnx
  have Hhs := Lib.hid hk
  have Hst6 := Lib.hid hs1
  have HKhs := Lib.hid hkx
  obtain ⟨A11, n11, c11, b11, rfl, _, _⟩ := hu.v.form
  obtain ⟨W11, hW11⟩ : ∃ W, w11.alloc (.cells #[.slice A11 n11 c11, .bool b11] 86) = W := ⟨_, rfl⟩
  obtain ⟨r11, p11, s11⟩ := new_row hW11
  have HI := Lib.hid (hu.below p11)
  have HOhs := Lib.hid (own_mono (own_below hox p11) (by have := HRR.out.ne; omega : lo ≤ W10.heap.size))
  have HRR := Lib.hid (HRR.out.below (ext_trans hb11 p11))
  have HOws := Lib.hid (own_below HOws.out (ext_trans hb11 p11))
  clear hk hs1 hu hb11 p11 s11 hkx hox
  go_wp2_with (refine wpList_load_row rfl _ _ rfl _ rfl _ _ _ _ r11 Try.underlying86 rfl info_in ?_)
  clear hW11 r11
  have HSZ11 : Hid (lo ≤ W11.heap.size) := Lib.hid HRR.out.ne.2.2.2.2
  refine (igetnum_k KB st6 _ 1048576 W11 HI.out).mono ?_
  rintro e w12 ⟨u, rfl, hu, hb12⟩
  obtain ⟨o, hk⟩ : ∃ k, (getNum st6 1048576).1 = k := ⟨_, rfl⟩
  obtain ⟨st7, hs1⟩ : ∃ s, (getNum st6 1048576).2 = s := ⟨_, rfl⟩
  rw [hk]
  rw [hs1] at hu
  have Ho := Lib.hid hk
  have Hst7 := Lib.hid hs1
  obtain ⟨A12, n12, c12, b12, rfl, _, _⟩ := hu.v.form
  obtain ⟨W12, hW12⟩ : ∃ W, w12.alloc (.cells #[.slice A12 n12 c12, .bool b12] 86) = W := ⟨_, rfl⟩
  obtain ⟨r12, p12, s12⟩ := new_row hW12
  have HI := Lib.hid (hu.below p12)
  have HRR := Lib.hid (HRR.out.below (ext_trans hb12 p12))
  have HOws := Lib.hid (own_below HOws.out (ext_trans hb12 p12))
  have HOhs := Lib.hid (own_below HOhs.out (ext_trans hb12 p12))
  obtain ⟨g28, hg28⟩ : ∃ g, w12.heap.size = g := ⟨_, rfl⟩
  rw [hg28] at r12
  have hne := HRR.out.ne
  have hg28' : g15 < g28 := by have := HSZ11.out; have := hb12.size; omega
  have hlo := HLO.out
  have g5 := grown_set (w := W12) g15 5 (.slice Aw ws.length cw)
  have c5 := row_cell HRR.out.r15 5
  have f5 := row_free HRR.out.r15 5
  have q5 := row_wants HRR.out.r15 Aw cw ws
  obtain ⟨Xa, hXa⟩ : ∃ W, W12.setCell ⟨g15, 5, none⟩ (.slice Aw ws.length cw) = W := ⟨_, rfl⟩
  rw [hXa] at g5 q5
  have HRRa := Lib.hid (HRR.out.put15 g5 q5 (show LI _ _ _ _ ⟨k, f, t, s, [], ws, [], 0, 0, zeros32, []⟩ ⟨none, 0, Aw, cw, none, 0, none, 0⟩ from (let h := HRR.out.lif g5; ⟨h.o1, own_far HOws.out hne.2.2.2.1 g5, h.o3, h.d, ⟨h.ok.1, HKws.out, h.ok.2.2.1, h.ok.2.2.2⟩⟩)))
  have HOhs := Lib.hid (own_far HOhs.out hne.2.2.2.1 g5)
  have g6 := grown_set (w := Xa) g15 6 (.slice Ah hs.length ch)
  have c6 := row_cell HRRa.out.r15 6
  have f6 := row_free HRRa.out.r15 6
  have q6 := row_haves HRRa.out.r15 Ah ch hs
  obtain ⟨Xb, hXb⟩ : ∃ W, Xa.setCell ⟨g15, 6, none⟩ (.slice Ah hs.length ch) = W := ⟨_, rfl⟩
  rw [hXb] at g6 q6
  have HRRb := Lib.hid (HRRa.out.put15 g6 q6 (show LI _ _ _ _ ⟨k, f, t, s, [], ws, hs, 0, 0, zeros32, []⟩ ⟨none, 0, Aw, cw, Ah, ch, none, 0⟩ from (let h := HRRa.out.lif g6; ⟨h.o1, h.o2, own_far HOhs.out hne.2.2.2.1 g6, h.d, ⟨h.ok.1, HKws.out, HKhs.out, h.ok.2.2.2⟩⟩)))
  have g7 := grown_set (w := Xb) g15 7 (.int .i64 (o : Int))
  have c7_ := row_cell HRRb.out.r15 7
  have f7 := row_free HRRb.out.r15 7
  have q7 := row_off HRRb.out.r15 (o : Int)
  obtain ⟨Xc, hXc⟩ : ∃ W, Xb.setCell ⟨g15, 7, none⟩ (.int .i64 (o : Int)) = W := ⟨_, rfl⟩
  rw [hXc] at g7 q7
  have HRRc : Hid (RR w Xc g2 g14 g15 lo A7 n7 c7 b7 ⟨k, f, t, s, [], ws, hs, o, 0, zeros32, []⟩ ⟨none, 0, Aw, cw, Ah, ch, none, 0⟩) := Lib.hid (HRRb.out.put15 g7 q7 (show LI _ _ _ _ ⟨k, f, t, s, [], ws, hs, o, 0, zeros32, []⟩ ⟨none, 0, Aw, cw, Ah, ch, none, 0⟩ from (let h := HRRb.out.lif g7; ⟨h.o1, h.o2, h.o3, h.d, h.ok⟩)))
  have hgc := grown_trans1 (grown_trans1 g5 g6) g7
  have R28 := (hgc.block g28 (Array.getElem?_eq_some_iff.1 r12).1 (by simp; omega)).trans r12
  have hic := HI.out.far (by omega) hgc
  obtain ⟨x0, x1, y0, y1, hrd, gd⟩ := HRRc.out.put14 A12 n12 c12 b12
  have hid_ := hic.far (by omega) gd
  obtain ⟨Xd, hXd⟩ : ∃ W, (Xc.setCell ⟨g14, 0, none⟩ (.slice A12 n12 c12)).setCell ⟨g14, 1, none⟩ (.bool b12) = W := ⟨_, rfl⟩
  rw [hXd] at hrd hid_
  have HRR := Lib.hid hrd
  have HI := Lib.hid hid_
  have R14 := HRR.out.r14
  have r12' := r12
  clear hk hs1 hu hb12 p12 s12 hne hg28' hlo g5 g6 g7 q5 q6 q7 hgc hic gd hid_ hrd HRRa HRRb HRRc r12
  go_wp2_with (first
    | (refine wpList_load_row rfl _ _ rfl _ rfl _ _ _ _ R28 Try.underlying86 rfl info_in ?_)
    | (refine wpList_load_row rfl _ _ rfl _ rfl _ _ _ _ R14 Try.underlying86 rfl info_in ?_))
  clear hW12 hg28 c5 f5 c6 f6 c7_ f7 x0 x1 y0 y1 hXa hXb hXc hXd R28 R14 r12'
  have HRES : Hid (readL bs = (if doneS st7 && rightL ⟨k, f, t, s, [], ws, hs, o, 0, zeros32, []⟩ then some ⟨k, f, t, s, [], ws, hs, o, 0, zeros32, []⟩ else none)) := Lib.hid (by
    have h := HRE0.out
    rw [restR_3 (by have := HKV.out; simp only; omega)] at h
    simp only [Hws.out, Hst5.out, Hhs.out, Hst6.out, Ho.out, Hst7.out] at h
    exact h)
  have HTB : Hid (-9223372036854775808 ≤ (⟨k, f, t, s, [], ws, hs, o, 0, zeros32, []⟩ : Lt).off ∧ (⟨k, f, t, s, [], ws, hs, o, 0, zeros32, []⟩ : Lt).off ≤ 9223372036854775807) := Lib.hid (by have h := getNum_most st6 1048576 (by decide); rw [Ho.out] at h; show _ ≤ (o : Int) ∧ (o : Int) ≤ _; omega)
  refine (idone_any st7 _ Xd HI.out.v).mono ?_
  rintro e wz1 ⟨rfl, hbz1⟩
  have HRZ := Lib.hid (HRR.out.below hbz1)
  clear hbz1
  obtain ⟨WE, hWE, HTE, HRE, HBE, _, _⟩ := let_write (q := p0) (m := lt0) HRZ.out.r2 rfl rfl HRZ.out.bel HRZ.out.bel.size HRZ.out.ne.1
  have HWE := Lib.hid hWE
  have HIE := Lib.hid (info_rleta lt0 p0 rfl)
  have HOE := Lib.hid (all_oneCell_toArray (lt0.cells_one p0))
  have HBE' : Hid (Below w.heap.size w WE) := HBE
  have HZB := Lib.hid rzero_built
  clear hWE
  cases hd : doneS st7
  · have HRF : Hid (readL bs = none) := Lib.hid (by rw [HRES.out, hd]; rfl)
    clear hd
    go_wp2_with (first
      | ((with_reducible (refine wpList_built ?_ _ #[] ?_ _ ?_ _ HZB.out ?_)); (exact rfl); (exact rfl); (exact rfl))
      | ((with_reducible (refine wpList_store_mid rfl _ _ _ rfl ?_ ?_ ?_ ?_ ?_ ?_ ?_ ?_ ?_)); (exact g2); (exact 0); (exact (lt0.cells p0).toArray); (exact rfl); (exact rfl); (exact HTE.out); (exact HIE.out); (exact HOE.out); rw [HWE.out]))
    refine bodyPost_ret (results_row_tmp rfl _ _ _ _ _ _ _ rfl HRE.out Try.underlying37 rfl HIE.out) rfl ?_
    rw [HRF.out]
    exact rres_zero HBE'.out
  have HD := Lib.hid hd
  clear hd
  have HR7 := Lib.hid HRZ.out.r15
  have HIL7 := Lib.hid (info_rleta (⟨k, f, t, s, [], ws, hs, o, 0, zeros32, []⟩ : Lt) (⟨none, 0, Aw, cw, Ah, ch, none, 0⟩ : LtP) HRZ.out.li.ok.2.2.2)
  have HOL7 := Lib.hid (all_oneCell_toArray (Lt.cells_one (⟨k, f, t, s, [], ws, hs, o, 0, zeros32, []⟩ : Lt) (⟨none, 0, Aw, cw, Ah, ch, none, 0⟩ : LtP)))
  have HRL := Lib.hid (rright_any (⟨k, f, t, s, [], ws, hs, o, 0, zeros32, []⟩ : Lt) (⟨none, 0, Aw, cw, Ah, ch, none, 0⟩ : LtP) wz1 HRZ.out.li.in_ HTB.out)
  go_wp2_with ((with_reducible (refine wpList_load_row_w _ _ rfl _ rfl _ _ _ _ HR7.out Try.underlying37 rfl HIL7.out ?_ ?_)); (focus (rfl)))
  refine HRL.out.mono ?_
  rintro e wz2 ⟨rfl, hbz⟩
  have HRY := Lib.hid (HRZ.out.below hbz)
  clear hbz HRL HTE HRE HBE HBE' HWE
  cases hrt : rightL (⟨k, f, t, s, [], ws, hs, o, 0, zeros32, []⟩ : Lt)
  · have HRF : Hid (readL bs = none) := Lib.hid (by rw [HRES.out, HD.out, hrt]; rfl)
    clear hrt
    obtain ⟨WE, hWE, HTE, HRE, HBE, _, _⟩ := let_write (q := p0) (m := lt0) HRY.out.r2 rfl rfl HRY.out.bel HRY.out.bel.size HRY.out.ne.1
    have HWE := Lib.hid hWE
    have HBE' : Hid (Below w.heap.size w WE) := HBE
    clear hWE
    go_wp2_with (first
      | ((with_reducible (refine wpList_built ?_ _ #[] ?_ _ ?_ _ HZB.out ?_)); (exact rfl); (exact rfl); (exact rfl))
      | ((with_reducible (refine wpList_store_mid rfl _ _ _ rfl ?_ ?_ ?_ ?_ ?_ ?_ ?_ ?_ ?_)); (exact g2); (exact 0); (exact (lt0.cells p0).toArray); (exact rfl); (exact rfl); (exact HTE.out); (exact HIE.out); (exact HOE.out); rw [HWE.out]))
    refine bodyPost_ret (results_row_tmp rfl _ _ _ _ _ _ _ rfl HRE.out Try.underlying37 rfl HIE.out) rfl ?_
    rw [HRF.out]
    exact rres_zero HBE'.out
  have HRF : Hid (readL bs = some (⟨k, f, t, s, [], ws, hs, o, 0, zeros32, []⟩ : Lt)) := Lib.hid (by rw [HRES.out, HD.out, hrt]; rfl)
  clear hrt
  obtain ⟨WE, hWE, HTE, HRE, HBE, _, _⟩ := let_write (q := (⟨none, 0, Aw, cw, Ah, ch, none, 0⟩ : LtP)) (m := (⟨k, f, t, s, [], ws, hs, o, 0, zeros32, []⟩ : Lt)) HRY.out.r2 rfl HRY.out.li.ok.2.2.2 HRY.out.bel HRY.out.bel.size HRY.out.ne.1
  have HWE := Lib.hid hWE
  have HLE : Hid (LtIn WE (⟨k, f, t, s, [], ws, hs, o, 0, zeros32, []⟩ : Lt) (⟨none, 0, Aw, cw, Ah, ch, none, 0⟩ : LtP)) := Lib.hid (by rw [← hWE]; exact (HRY.out.li.far (by have := HRY.out.ne; omega) (setCells_grown _ _ _ _)).in_)
  have HR7' := Lib.hid HRY.out.r15
  have HBE' : Hid (Below w.heap.size w WE) := HBE
  clear hWE
  go_wp2_with (first
    | ((with_reducible (refine wpList_load_row_w _ _ rfl _ rfl _ _ _ _ HR7'.out Try.underlying37 rfl HIL7.out ?_ ?_)); (focus (rfl)))
    | ((with_reducible (refine wpList_store_mid rfl _ _ _ rfl ?_ ?_ ?_ ?_ ?_ ?_ ?_ ?_ ?_)); (exact g2); (exact 0); (exact ((⟨k, f, t, s, [], ws, hs, o, 0, zeros32, []⟩ : Lt).cells (⟨none, 0, Aw, cw, Ah, ch, none, 0⟩ : LtP)).toArray); (exact rfl); (exact rfl); (exact HTE.out); (exact HIL7.out); (exact HOL7.out); rw [HWE.out]))
  refine bodyPost_ret (results_row_tmp rfl _ _ _ _ _ _ _ rfl HRE.out Try.underlying37 rfl HIL7.out) rfl ?_
  rw [HRF.out]
  exact ⟨_, rfl, HLE.out, HBE'.out⟩
end Go.Proofs.Ytfjfidhhmidflaa

/-! The document's Read: kind 4. (Printed by wip/genRRd.py.) -/

namespace Go.Proofs.Ytfjfidhhmidflaa

set_option linter.unusedVariables false

set_option linter.unusedSimpArgs false

open Go.RowKit

set_option maxRecDepth 100000 in
set_option maxHeartbeats 8000000 in
theorem rread_4 (A : Option Addr) (bs : List UInt8) (c : Nat) (w : World) (hr : Rd w A (b8s bs)) (hc : bs.length ≤ c) (hc2 : c ≤ maxLen) (h4 : ¬ bs.length < 4) (h6 : ¬ 65536 < bs.length) (hsum : (getFour (some (bs.drop (bs.length - 4)))).1 = (crc (bs.take (bs.length - 4))).toNat) (hkind : (getNum (some (bs.take (bs.length - 4))) 4).1 = 4) :
    Calls Try.prog 18 #[.slice A bs.length c] w fun e w' => RROut w w' e (readL bs) := by
  unfold maxLen at hc2
  obtain ⟨m, hm⟩ : ∃ m, bs.length = m + 4 := ⟨bs.length - 4, by omega⟩
  have e1 : bs.length - 4 = m := by omega
  have HLEN : Hid (¬ (bs.length < 4 ∨ 65536 < bs.length)) := Lib.hid (by omega)
  rw [e1] at hsum hkind
  obtain ⟨n, hn⟩ : ∃ n, bs.length = n := ⟨_, rfl⟩
  have HNM : Hid (n = m + 4) := Lib.hid (by omega)
  rw [hn]
  have HTK : Hid (bs.length - 4 = m) := Lib.hid e1
  obtain ⟨inn, hinn⟩ : ∃ l, bs.take m = l := ⟨_, rfl⟩
  obtain ⟨end_, hend⟩ : ∃ l, bs.drop m = l := ⟨_, rfl⟩
  rw [hinn, hend] at hsum
  rw [hinn] at hkind
  have HKD := Lib.hid hkind
  clear hkind
  have hil : inn.length = m := by rw [← hinn, List.length_take]; omega
  have hel : end_.length = 4 := by rw [← hend, List.length_drop]; omega
  have hr1 : Rd w A (b8s inn) := by
    have := hr.take m
    rwa [show (b8s bs).take m = b8s inn by rw [← hinn]; simp [b8s]] at this
  have hr2 : Rd w (Option.map (fun x => x.add m) A) (b8s end_) := by
    have := hr.drop (k := m) (size := 1) (cap := c) (by rw [b8s_length]; omega)
    rw [if_neg (by omega)] at this
    simpa [b8s, ← hend] using this
  obtain ⟨A2, hA2⟩ : ∃ x, Option.map (fun x => x.add m) A = x := ⟨_, rfl⟩
  rw [hA2] at hr2
  obtain ⟨KB, hKB⟩ : ∃ k, w.heap.size = k := ⟨_, rfl⟩
  have hik : InK w KB (.agg #[.slice A m c, .bool false]) (some inn) := by
    rw [← hKB]
    exact InV.k (st := some inn) ⟨A, m, c, rfl, hil.symm, by omega, by unfold maxLen; omega, hr1⟩
  obtain ⟨W1, hW1⟩ : ∃ W, w.alloc (.cells #[Value.int .i64 0, Value.int .i64 0, Value.int .i64 0, Value.int .i64 0, Value.slice none 0 0, Value.slice none 0 0, Value.slice none 0 0, Value.int .i64 0, Value.int .i64 0, Value.int .u8 0, Value.int .u8 0, Value.int .u8 0, Value.int .u8 0, Value.int .u8 0, Value.int .u8 0, Value.int .u8 0, Value.int .u8 0, Value.int .u8 0, Value.int .u8 0, Value.int .u8 0, Value.int .u8 0, Value.int .u8 0, Value.int .u8 0, Value.int .u8 0, Value.int .u8 0, Value.int .u8 0, Value.int .u8 0, Value.int .u8 0, Value.int .u8 0, Value.int .u8 0, Value.int .u8 0, Value.int .u8 0, Value.int .u8 0, Value.int .u8 0, Value.int .u8 0, Value.int .u8 0, Value.int .u8 0, Value.int .u8 0, Value.int .u8 0, Value.int .u8 0, Value.int .u8 0, Value.slice none 0 0] 37) = W := ⟨_, rfl⟩
  obtain ⟨q1, b1, s1⟩ := new_row hW1
  rw [← lt0_cells] at q1
  obtain ⟨g2, hg2⟩ : ∃ g, w.heap.size = g := ⟨_, rfl⟩
  rw [hg2] at q1
  have HQ1 := Lib.hid q1
  have HB1 := Lib.hid b1
  have HS1 : Hid (W1.heap.size = g2 + 1) := Lib.hid (by omega)
  have HG2 := Lib.hid hg2
  have HKB : Hid (KB = g2) := Lib.hid (by omega)
  have HIK := Lib.hid (hik.below b1)
  have HR1 := Lib.hid (hr1.below b1)
  have HIE : Hid (InV W1 (.agg #[.slice A2 (n - m) (c - m), .bool false]) (some end_)) := Lib.hid ⟨A2, n - m, c - m, rfl, by omega, by omega, by unfold maxLen; omega, hr2.below b1⟩
  have HIL := Lib.hid hil
  have HSUM := Lib.hid hsum
  have HINN := Lib.hid hinn
  have HEND := Lib.hid hend
  have hmc : n ≤ c := by omega
  have HM6 : Hid (m + 4 ≤ 65536) := Lib.hid (by omega)
  have HN4 : Hid (n - 4 = m) := Lib.hid (by omega)
  have hm4 : ¬ (n : Int) < 4 := by omega
  have hm7 : ¬ (65536 : Int) < (n : Int) := by omega
  have hmi : (m : Int) ≤ (c : Int) := by omega
  have hmj : (m : Int) ≤ (n : Int) := by omega
  have hcm : ¬ c = m := by omega
  clear hn e1 hinn hend hil hel hr1 hr2 hr q1 b1 s1 hsum hm h4 h6 hc hik hKB
  go_enter Try.func18, Try.ntmps18
  go_wp2_with fail
  rw [HN4.out, hA2]
  clear hg2 hW1 hA2 hcm
  refine (igetfour_any (some end_) _ W1 HIE.out).mono ?_
  rintro e w2 ⟨u, rfl, hu, hb2⟩
  obtain ⟨A3, n3, c3, b3, rfl, _, _⟩ := hu.form
  obtain ⟨W3, hW3⟩ : ∃ W, w2.alloc (.cells #[.slice A3 n3 c3, .bool b3] 86) = W := ⟨_, rfl⟩
  obtain ⟨r3, p3, s3⟩ := new_row hW3
  have HB13 := Lib.hid (ext_trans hb2 p3)
  have HB := Lib.hid (ext_trans HB1.out HB13.out)
  have HI := Lib.hid (HIK.out.below HB13.out)
  have hsm := rsum_any A inn c W3 (HR1.out.below HB13.out) (by have := HIL.out; have := HM6.out; unfold maxLen; omega)
  rw [HIL.out] at hsm
  have HSM := Lib.hid hsm
  have HQ3 := Lib.hid ((HB13.out.block g2 (Array.getElem?_eq_some_iff.1 HQ1.out).1).trans HQ1.out)
  clear hsm hu hb2 p3 s3 r3 HIE HIK HR1 HQ1
  go_wp2_with fail
  clear hW3
  refine HSM.out.mono ?_
  rintro e w4 ⟨rfl, rfl⟩
  clear HSM
  rw [HSUM.out]
  go_wp2_with fail
  refine (igetnum_k KB (some inn) _ 4 W3 HI.out).mono ?_
  rintro e w4 ⟨u, rfl, hu, hb4⟩
  obtain ⟨k, hk⟩ : ∃ k, (getNum (some inn) 4).1 = k := ⟨_, rfl⟩
  obtain ⟨st1, hs1⟩ : ∃ s, (getNum (some inn) 4).2 = s := ⟨_, rfl⟩
  rw [hk]
  rw [hs1] at hu
  have Hk := Lib.hid hk
  have Hst1 := Lib.hid hs1
  obtain ⟨A4, n4, c4, b4, rfl, _, _⟩ := hu.v.form
  obtain ⟨W4, hW4⟩ : ∃ W, w4.alloc (.cells #[.slice A4 n4 c4, .bool b4] 86) = W := ⟨_, rfl⟩
  obtain ⟨r4, p4, s4⟩ := new_row hW4
  have HI := Lib.hid (hu.below p4)
  have HB := Lib.hid (ext_trans HB.out (ext_trans hb4 p4))
  have HQ3 := Lib.hid (((ext_trans hb4 p4).block g2 (Array.getElem?_eq_some_iff.1 HQ3.out).1).trans HQ3.out)
  clear hk hs1 hu hb4 p4 s4
  go_wp2_with (refine wpList_load_row rfl _ _ rfl _ rfl _ _ _ _ r4 Try.underlying86 rfl info_in ?_)
  clear hW4 r4
  refine (igetnum_k KB st1 _ 65536 W4 HI.out).mono ?_
  rintro e w5 ⟨u, rfl, hu, hb5⟩
  obtain ⟨f, hk⟩ : ∃ k, (getNum st1 65536).1 = k := ⟨_, rfl⟩
  obtain ⟨st2, hs1⟩ : ∃ s, (getNum st1 65536).2 = s := ⟨_, rfl⟩
  rw [hk]
  rw [hs1] at hu
  have Hf := Lib.hid hk
  have Hst2 := Lib.hid hs1
  obtain ⟨A5, n5, c5, b5, rfl, _, _⟩ := hu.v.form
  obtain ⟨W5, hW5⟩ : ∃ W, w5.alloc (.cells #[.slice A5 n5 c5, .bool b5] 86) = W := ⟨_, rfl⟩
  obtain ⟨r5, p5, s5⟩ := new_row hW5
  have HI := Lib.hid (hu.below p5)
  have HB := Lib.hid (ext_trans HB.out (ext_trans hb5 p5))
  have HQ3 := Lib.hid (((ext_trans hb5 p5).block g2 (Array.getElem?_eq_some_iff.1 HQ3.out).1).trans HQ3.out)
  clear hk hs1 hu hb5 p5 s5
  go_wp2_with (refine wpList_load_row rfl _ _ rfl _ rfl _ _ _ _ r5 Try.underlying86 rfl info_in ?_)
  clear hW5 r5
  refine (igetnum_k KB st2 _ 65536 W5 HI.out).mono ?_
  rintro e w6 ⟨u, rfl, hu, hb6⟩
  obtain ⟨t, hk⟩ : ∃ k, (getNum st2 65536).1 = k := ⟨_, rfl⟩
  obtain ⟨st3, hs1⟩ : ∃ s, (getNum st2 65536).2 = s := ⟨_, rfl⟩
  rw [hk]
  rw [hs1] at hu
  have Ht := Lib.hid hk
  have Hst3 := Lib.hid hs1
  obtain ⟨A6, n6, c6, b6, rfl, _, _⟩ := hu.v.form
  obtain ⟨W6, hW6⟩ : ∃ W, w6.alloc (.cells #[.slice A6 n6 c6, .bool b6] 86) = W := ⟨_, rfl⟩
  obtain ⟨r6, p6, s6⟩ := new_row hW6
  have HI := Lib.hid (hu.below p6)
  have HB := Lib.hid (ext_trans HB.out (ext_trans hb6 p6))
  have HQ3 := Lib.hid (((ext_trans hb6 p6).block g2 (Array.getElem?_eq_some_iff.1 HQ3.out).1).trans HQ3.out)
  clear hk hs1 hu hb6 p6 s6
  go_wp2_with (refine wpList_load_row rfl _ _ rfl _ rfl _ _ _ _ r6 Try.underlying86 rfl info_in ?_)
  clear hW6 r6
  refine (igetnum_k KB st3 _ 1099511627776 W6 HI.out).mono ?_
  rintro e w7 ⟨u, rfl, hu, hb7⟩
  obtain ⟨s, hk⟩ : ∃ k, (getNum st3 1099511627776).1 = k := ⟨_, rfl⟩
  obtain ⟨st4, hs1⟩ : ∃ s, (getNum st3 1099511627776).2 = s := ⟨_, rfl⟩
  rw [hk]
  rw [hs1] at hu
  have Hs := Lib.hid hk
  have Hst4 := Lib.hid hs1
  obtain ⟨A7, n7, c7, b7, rfl, _, _⟩ := hu.v.form
  obtain ⟨W7, hW7⟩ : ∃ W, w7.alloc (.cells #[.slice A7 n7 c7, .bool b7] 86) = W := ⟨_, rfl⟩
  obtain ⟨r7, p7, s7⟩ := new_row hW7
  obtain ⟨g14, hg14⟩ : ∃ g, w7.heap.size = g := ⟨_, rfl⟩
  rw [hg14] at r7
  obtain ⟨W8, hW8⟩ : ∃ W, W7.alloc (.cells #[Value.int .i64 0, Value.int .i64 0, Value.int .i64 0, Value.int .i64 0, Value.slice none 0 0, Value.slice none 0 0, Value.slice none 0 0, Value.int .i64 0, Value.int .i64 0, Value.int .u8 0, Value.int .u8 0, Value.int .u8 0, Value.int .u8 0, Value.int .u8 0, Value.int .u8 0, Value.int .u8 0, Value.int .u8 0, Value.int .u8 0, Value.int .u8 0, Value.int .u8 0, Value.int .u8 0, Value.int .u8 0, Value.int .u8 0, Value.int .u8 0, Value.int .u8 0, Value.int .u8 0, Value.int .u8 0, Value.int .u8 0, Value.int .u8 0, Value.int .u8 0, Value.int .u8 0, Value.int .u8 0, Value.int .u8 0, Value.int .u8 0, Value.int .u8 0, Value.int .u8 0, Value.int .u8 0, Value.int .u8 0, Value.int .u8 0, Value.int .u8 0, Value.int .u8 0, Value.slice none 0 0] 37) = W := ⟨_, rfl⟩
  obtain ⟨q8, p8, s8⟩ := new_row hW8
  rw [← lt0_cells] at q8
  obtain ⟨g15, hg15⟩ : ∃ g, W7.heap.size = g := ⟨_, rfl⟩
  obtain ⟨W9, hW9, HTH9, HR9, HB9, HKK9, HSZ9⟩ := let_write (q := p0) (m := ⟨k, f, t, s, [], [], [], 0, 0, zeros32, []⟩) q8 rfl rfl p8 p8.size (Nat.le_refl _)
  have HW9 := Lib.hid hW9
  rw [hg15] at HTH9 HW9 HR9
  have HI := Lib.hid ((hu.below p7).below HB9.out)
  obtain ⟨lo, hlo⟩ : ∃ lo, W9.heap.size = lo := ⟨_, rfl⟩
  have HRR : Hid (RR w W9 g2 g14 g15 lo A7 n7 c7 b7 ⟨k, f, t, s, [], [], [], 0, 0, zeros32, []⟩ p0) := Lib.hid (by
    have h1 := HB.out.size
    have h2 := hb7.size
    have h3 := HG2.out
    have h9 := HSZ9.out
    have hb9 := HB.out.trans ((hb7.trans ((p7.trans (HB9.out.mono (by omega))).mono hb7.size)).mono h1)
    have a2 : W9.heap[g2]? = _ := ((ext_trans hb7 (ext_trans p7 HB9.out)).block g2 (Array.getElem?_eq_some_iff.1 HQ3.out).1).trans HQ3.out
    have a14 : W9.heap[g14]? = _ := (HB9.out.block g14 (Array.getElem?_eq_some_iff.1 r7).1).trans r7
    have lt2 := (Array.getElem?_eq_some_iff.1 HQ3.out).1
    have lt15 := (Array.getElem?_eq_some_iff.1 HR9.out).1
    exact ⟨a2, a14, HR9.out, hb9, ⟨by omega, by omega, by omega, by omega, by omega⟩, LI.start _ _ _ _ _ _ _ _ _ _⟩)
  have HLO : Hid (KB ≤ g2 ∧ lo = W9.heap.size) := Lib.hid ⟨by have := HKB.out; omega, hlo.symm⟩
  have HIB := Lib.hid (info_rleta (⟨k, f, t, s, [], [], [], 0, 0, zeros32, []⟩ : Lt) p0 rfl)
  have HOB := Lib.hid (all_oneCell_toArray ((⟨k, f, t, s, [], [], [], 0, 0, zeros32, []⟩ : Lt).cells_one p0))
  have HBU := Lib.hid (rhead_built k f t s)
  have HKV := HKD
  rw [Hk.out] at HKV
  have d2 : ((k : Int) == 2) = false := by rw [HKV.out]; rfl
  have d3 : ((k : Int) == 3) = false := by rw [HKV.out]; rfl
  have d4 : ((k : Int) == 4) = true := by rw [HKV.out]; rfl
  have R14 := HRR.out.r14
  clear hk hs1 hu hb7 p7 s7 r7 q8 p8 s8 hW9 HR9 HB9 HKK9 HSZ9 HQ3 HKB HG2 hlo HB
  go_wp2_with (first
    | ((with_reducible (refine wpList_built ?_ _ #[(0, .tmp 87), (1, .tmp 88), (2, .tmp 89), (3, .tmp 90)] ?_ _ ?_ _ HBU.out ?_)); (exact rfl); (exact rfl); (exact rfl))
    | ((with_reducible (refine wpList_store_mid rfl _ _ _ rfl ?_ ?_ ?_ ?_ ?_ ?_ ?_ ?_ ?_)); (exact g15); (exact 0); (exact ((⟨k, f, t, s, [], [], [], 0, 0, zeros32, []⟩ : Lt).cells p0).toArray); (exact rfl); (exact rfl); (exact HTH9.out); (exact HIB.out); (exact HOB.out); rw [HW9.out])
    | (refine wpList_load_row rfl _ _ rfl _ rfl _ _ _ _ R14 Try.underlying86 rfl info_in ?_))
  clear hW7 hW8 hg14 hg15 R14 HBU HTH9 HIB HOB HW9 d2 d3 d4
  have HHD : Hid (headR (some inn) = (⟨k, f, t, s, [], [], [], 0, 0, zeros32, []⟩, st4)) := Lib.hid (by
    unfold headR
    simp only [Hk.out, Hst1.out, Hf.out, Hst2.out, Ht.out, Hst3.out, Hs.out, Hst4.out])
  have HRE0 : Hid (readL bs = (if doneS (restR (⟨k, f, t, s, [], [], [], 0, 0, zeros32, []⟩, st4)).2 && rightL (restR (⟨k, f, t, s, [], [], [], 0, 0, zeros32, []⟩, st4)).1 then some (restR (⟨k, f, t, s, [], [], [], 0, 0, zeros32, []⟩, st4)).1 else none)) := Lib.hid (by
    have h := readL_ok HLEN.out (by rw [HTK.out, HINN.out, HEND.out]; exact HSUM.out)
    rw [HTK.out, HINN.out, HHD.out] at h
    exact h)
  refine (igetid_k KB st4 _ W9 HI.out).mono ?_
  rintro e w10 ⟨u, rfl, hu, hb6⟩
  obtain ⟨pk, hk⟩ : ∃ k, (getId st4).1 = k := ⟨_, rfl⟩
  obtain ⟨st5, hs1⟩ : ∃ s, (getId st4).2 = s := ⟨_, rfl⟩
  have hil : pk.length = 32 := by rw [← hk]; exact getId_len _
  rw [hk]
  rw [hs1] at hu
  have Hpk := Lib.hid hk
  have Hst5 := Lib.hid hs1
  have HPL := Lib.hid hil
  obtain ⟨A6_, n6_, c6_, b6_, rfl, _, _⟩ := hu.v.form
  obtain ⟨Y7, hY7⟩ : ∃ W, w10.alloc (.cells #[Value.int .u8 0, Value.int .u8 0, Value.int .u8 0, Value.int .u8 0, Value.int .u8 0, Value.int .u8 0, Value.int .u8 0, Value.int .u8 0, Value.int .u8 0, Value.int .u8 0, Value.int .u8 0, Value.int .u8 0, Value.int .u8 0, Value.int .u8 0, Value.int .u8 0, Value.int .u8 0, Value.int .u8 0, Value.int .u8 0, Value.int .u8 0, Value.int .u8 0, Value.int .u8 0, Value.int .u8 0, Value.int .u8 0, Value.int .u8 0, Value.int .u8 0, Value.int .u8 0, Value.int .u8 0, Value.int .u8 0, Value.int .u8 0, Value.int .u8 0, Value.int .u8 0, Value.int .u8 0] 24) = W := ⟨_, rfl⟩
  obtain ⟨q7, p7, s7⟩ := new_row hY7
  obtain ⟨Y8, hY8⟩ : ∃ W, Y7.alloc (.cells #[.slice none 0 0, .bool false] 86) = W := ⟨_, rfl⟩
  obtain ⟨q8, p8, s8⟩ := new_row hY8
  obtain ⟨ga, hga⟩ : ∃ g, w10.heap.size = g := ⟨_, rfl⟩
  obtain ⟨gb, hgb⟩ : ∃ g, Y7.heap.size = g := ⟨_, rfl⟩
  rw [hga] at q7
  rw [hgb] at q8
  have q7' := (p8.block _ (Array.getElem?_eq_some_iff.1 q7).1).trans q7
  rw [← zeros32_cells'] at q7'
  have h68 := ext_trans p7 p8
  obtain ⟨Y9, hY9, HTH9_, HR9_, HB9_⟩ := arr_write (new := pk) q7' (by rw [hil]; rfl) h68 h68.size (by omega)
  have HY9 := Lib.hid hY9
  have q8' := (setCells_other ga (b8s pk).toArray.toList 0 Y8 gb (by omega)).trans q8
  rw [hY9] at q8'
  have x0 := row_cell q8' 0
  have x1 := row_cell q8' 1
  have y0 := row_free q8' 0
  have y1 := row_free q8' 1
  have rb := row_set2 q8' (.slice A6_ n6_ c6_) (.bool b6_)
  have gsb : Y9.grownBy ((Y9.setCell ⟨gb, 0, none⟩ (.slice A6_ n6_ c6_)).setCell ⟨gb, 1, none⟩ (.bool b6_)) (some gb) := grown_trans1 (grown_set gb 0 _) (grown_set gb 1 _)
  obtain ⟨Ya, hYa⟩ : ∃ W, (Y9.setCell ⟨gb, 0, none⟩ (.slice A6_ n6_ c6_)).setCell ⟨gb, 1, none⟩ (.bool b6_) = W := ⟨_, rfl⟩
  rw [hYa] at rb gsb
  have h6a := bel_grown HB9_.out HB9_.out.size gsb (by omega)
  have RBa := Lib.hid rb
  have RAr := Lib.hid ((gsb.block _ (Array.getElem?_eq_some_iff.1 HR9_.out).1 (by simp; omega)).trans HR9_.out)
  have RAa := Lib.hid (range_of_row RAr.out)
  have HI := Lib.hid (hu.below h6a)
  have HBY := Lib.hid (ext_trans hb6 h6a)
  have HGB : Hid (W9.heap.size ≤ ga ∧ ga < gb) := Lib.hid ⟨by rw [← hga]; exact hb6.size, by omega⟩
  have HIA_ := Lib.hid (info_rid32 pk hil)
  have HIB_ := Lib.hid (info_rid32' pk hil)
  clear hk hs1 hil hu hb6 q7 p7 s7 q8 p8 s8 q7' h68 hY9 q8' rb gsb h6a
  have HRR := Lib.hid (HRR.out.below HBY.out)
  have rgb := RBa.out
  go_wp2_with (first
    | ((with_reducible (refine wpList_store_mid rfl _ _ _ rfl ?_ ?_ ?_ ?_ ?_ ?_ ?_ ?_ ?_)); (exact ga); (exact 0); (exact (b8s pk).toArray); (exact rfl); (exact rfl); (exact HTH9_.out); (exact HIB_.out); (exact all_oneCell_toArray (b8s_one' _)); rw [HY9.out])
    | (refine wpList_load_row rfl _ _ rfl _ rfl _ _ _ _ rgb Try.underlying86 rfl info_in ?_))
  clear x0 x1 y0 y1 hYa hY7 hY8 hga hgb
  clear rgb
  refine (igetnum_k KB st5 _ 1048576 Ya HI.out).mono ?_
  rintro e w13 ⟨u, rfl, hu, hb13⟩
  obtain ⟨o, hk⟩ : ∃ k, (getNum st5 1048576).1 = k := ⟨_, rfl⟩
  obtain ⟨st6, hs1⟩ : ∃ s, (getNum st5 1048576).2 = s := ⟨_, rfl⟩
  rw [hk]
  rw [hs1] at hu
  have Ho := Lib.hid hk
  have Hst6 := Lib.hid hs1
  obtain ⟨A13, n13, c13, b13, rfl, _, _⟩ := hu.v.form
  obtain ⟨W13, hW13⟩ : ∃ W, w13.alloc (.cells #[.slice A13 n13 c13, .bool b13] 86) = W := ⟨_, rfl⟩
  obtain ⟨r13, p13, s13⟩ := new_row hW13
  have HI := Lib.hid (hu.below p13)
  have HRR := Lib.hid (HRR.out.below (ext_trans hb13 p13))
  have RAr := Lib.hid (((ext_trans hb13 p13).block _ (Array.getElem?_eq_some_iff.1 RAr.out).1).trans RAr.out)
  clear hk hs1 hu hb13 p13 s13
  go_wp2_with (refine wpList_load_row rfl _ _ rfl _ rfl _ _ _ _ r13 Try.underlying86 rfl info_in ?_)
  clear hW13 r13
  refine (igetnum_k KB st6 _ 1048576 W13 HI.out).mono ?_
  rintro e w14 ⟨u, rfl, hu, hb14⟩
  obtain ⟨tt, hk⟩ : ∃ k, (getNum st6 1048576).1 = k := ⟨_, rfl⟩
  obtain ⟨st7, hs1⟩ : ∃ s, (getNum st6 1048576).2 = s := ⟨_, rfl⟩
  rw [hk]
  rw [hs1] at hu
  have Htt := Lib.hid hk
  have Hst7 := Lib.hid hs1
  obtain ⟨A14, n14, c14, b14, rfl, _, _⟩ := hu.v.form
  obtain ⟨W14, hW14⟩ : ∃ W, w14.alloc (.cells #[.slice A14 n14 c14, .bool b14] 86) = W := ⟨_, rfl⟩
  obtain ⟨r14, p14, s14⟩ := new_row hW14
  have HI := Lib.hid (hu.below p14)
  have HRR := Lib.hid (HRR.out.below (ext_trans hb14 p14))
  have RAr := Lib.hid (((ext_trans hb14 p14).block _ (Array.getElem?_eq_some_iff.1 RAr.out).1).trans RAr.out)
  clear hk hs1 hu hb14 p14 s14
  go_wp2_with (refine wpList_load_row rfl _ _ rfl _ rfl _ _ _ _ r14 Try.underlying86 rfl info_in ?_)
  clear hW14 r14
  refine (igettext_k KB st7 _ 500 W14 HI.out).mono ?_
  rintro e w15 ⟨u, rfl, hu, hb15⟩
  have hdl : (getText st7 500).1.length ≤ 500 := by
    have h1 : (getText st7 500).1.length ≤ (getNum st7 500).1 := by
      unfold getText getN
      split
      · exact Nat.zero_le _
      · split
        · simp; omega
        · exact Nat.zero_le _
    have h2 := getNum_most st7 500 (by decide)
    omega
  obtain ⟨dt, hk⟩ : ∃ k, (getText st7 500).1 = k := ⟨_, rfl⟩
  obtain ⟨st8, hs1⟩ : ∃ s, (getText st7 500).2 = s := ⟨_, rfl⟩
  rw [hk] at hdl
  rw [hk]
  rw [hs1] at hu
  have Hdt := Lib.hid hk
  have Hst8 := Lib.hid hs1
  have HDL := Lib.hid hdl
  obtain ⟨S, hS⟩ : ∃ S : ByteArray, (⟨dt.toArray⟩ : ByteArray) = S := ⟨_, rfl⟩
  have hSs : S.size = dt.length := by rw [← hS]; show dt.toArray.size = _; rw [List.size_toArray]
  have hSl : S.data.toList = dt := by rw [← hS]
  rw [hS]
  obtain ⟨A15, n15, c15, b15, rfl, _, _⟩ := hu.v.form
  obtain ⟨W15, hW15⟩ : ∃ W, w15.alloc (.cells #[.slice A15 n15 c15, .bool b15] 86) = W := ⟨_, rfl⟩
  obtain ⟨r15, p15, s15⟩ := new_row hW15
  have HI := Lib.hid (hu.below p15)
  have hrr := HRR.out.below (ext_trans hb15 p15)
  have RAr := Lib.hid (((ext_trans hb15 p15).block _ (Array.getElem?_eq_some_iff.1 RAr.out).1).trans RAr.out)
  obtain ⟨g36, hg36⟩ : ∃ g, w15.heap.size = g := ⟨_, rfl⟩
  rw [hg36] at r15
  have hne := hrr.ne
  have hg36' : lo ≤ g36 := by have := hb15.size; have := HRR.out.ne; omega
  have hlo := HLO.out
  have HLG : Hid (W9.heap.size ≤ ga) := Lib.hid HGB.out.1
  have hga_ : lo ≤ ga := by have := HLG.out; omega
  -- the stores
  have g1 := setCells_grown g15 (b8s pk) 9 W15
  have q1 := row_pack hrr.r15 pk (by rw [HPL.out]; rfl)
  obtain ⟨X1, hX1⟩ : ∃ W, W15.setCells g15 9 (b8s pk).toArray.toList = W := ⟨_, rfl⟩
  have hX1' : W15.setCells g15 9 (b8s pk) = X1 := hX1
  rw [hX1'] at g1 q1
  have HX1 := Lib.hid hX1
  have HTP : Hid (W15.there g15 9 (b8s pk).toArray.size) := Lib.hid (fun j hj => by
    rw [List.size_toArray, b8s_length, HPL.out] at hj
    refine ⟨?_, row_free hrr.r15 _⟩
    rw [row_cell hrr.r15, Array.getElem?_eq_getElem (by rw [List.size_toArray, Lt.cells_len _ _ rfl]; omega)]
    rfl)
  have HIP := Lib.hid (info_rid32' pk HPL.out)
  have RAx := Lib.hid (range_of_row RAr.out)
  have hr1 := hrr.put15 g1 q1 (show LI _ _ _ _ ⟨k, f, t, s, [], [], [], 0, 0, pk, []⟩ p0 from (let h := hrr.lif g1; ⟨h.o1, h.o2, h.o3, h.d, ⟨h.ok.1, h.ok.2.1, h.ok.2.2.1, HPL.out⟩⟩))
  have g2_ := grown_set (w := X1) g15 7 (.int .i64 (o : Int))
  have c7_ := row_cell hr1.r15 7
  have f7 := row_free hr1.r15 7
  have q2 := row_off hr1.r15 (o : Int)
  obtain ⟨X2, hX2⟩ : ∃ W, X1.setCell ⟨g15, 7, none⟩ (.int .i64 (o : Int)) = W := ⟨_, rfl⟩
  rw [hX2] at g2_ q2
  have hr2 := hr1.put15 g2_ q2 (show LI _ _ _ _ ⟨k, f, t, s, [], [], [], o, 0, pk, []⟩ p0 from (let h := hr1.lif g2_; ⟨h.o1, h.o2, h.o3, h.d, h.ok⟩))
  have g3_ := grown_set (w := X2) g15 8 (.int .i64 (tt : Int))
  have c8_ := row_cell hr2.r15 8
  have f8 := row_free hr2.r15 8
  have q3 := row_total hr2.r15 (tt : Int)
  obtain ⟨X3, hX3⟩ : ∃ W, X2.setCell ⟨g15, 8, none⟩ (.int .i64 (tt : Int)) = W := ⟨_, rfl⟩
  rw [hX3] at g3_ q3
  have hr3 := hr2.put15 g3_ q3 (show LI _ _ _ _ ⟨k, f, t, s, [], [], [], o, tt, pk, []⟩ p0 from (let h := hr2.lif g3_; ⟨h.o1, h.o2, h.o3, h.d, h.ok⟩))
  have hcv := run_bytes_of_string (P := Try.prog) X3 9 26 5 S Try.underlying9 Try.underlying26 Try.underlying5
  have hrd := rd_bytesRow X3.drew S (grownCap X3 S.size 0 5) 5 ((bytesRow S (grownCap X3 S.size 0 5)).size, (bytesRow S (grownCap X3 S.size 0 5)).size + 1)
  have hbb : Below X3.heap.size X3 (X3.drew.alloc (.cells (bytesRow S (grownCap X3 S.size 0 5)) 5 ((bytesRow S (grownCap X3 S.size 0 5)).size, (bytesRow S (grownCap X3 S.size 0 5)).size + 1))) := (Below.refl _ _).drew.alloc (Nat.le_refl _) _
  have hcap : S.size ≤ grownCap X3 S.size 0 5 ∧ grownCap X3 S.size 0 5 ≤ maxLen := ⟨grownCap_ge _ _ _ _, grownCap_le_maxLen _ _ _ _ (by have := HDL.out; rw [hSs]; unfold maxLen; omega)⟩
  obtain ⟨X4, hX4⟩ : ∃ W, (X3.drew.alloc (.cells (bytesRow S (grownCap X3 S.size 0 5)) 5 ((bytesRow S (grownCap X3 S.size 0 5)).size, (bytesRow S (grownCap X3 S.size 0 5)).size + 1))) = W := ⟨_, rfl⟩
  rw [hX4] at hcv hrd hbb
  generalize grownCap X3 S.size 0 5 = cap at *
  rw [hSl] at hrd
  rw [hSs] at hcv hcap
  have e40 : X3.drew.heap.size = X3.heap.size := rfl
  obtain ⟨g40, hg40⟩ : ∃ g, X3.heap.size = g := ⟨_, rfl⟩
  rw [e40, hg40] at hrd
  rw [hg40] at hcv
  have hr4 := hr3.below hbb
  have hl40 : lo ≤ g40 := by have := hr3.ne; omega
  obtain ⟨_, _, _, _, _, _, _, _, _, c41, _⟩ := ltRow_of hr4.r15 HPL.out
  have f41 := row_free hr4.r15 41
  have g5_ := grown_set (w := X4) g15 41 (.slice (some ⟨g40, 0, none⟩) dt.length cap)
  have q5 := row_data hr4.r15 HPL.out (some ⟨g40, 0, none⟩) cap dt
  have hrd2 : Rd (X4.setCell ⟨g15, 41, none⟩ (.slice (some ⟨g40, 0, none⟩) dt.length cap)) (some ⟨g40, 0, none⟩) (b8s dt) := hrd.setCell (fun ad e => by cases e; show g40 ≠ g15; omega) _
  obtain ⟨X5, hX5⟩ : ∃ W, X4.setCell ⟨g15, 41, none⟩ (.slice (some ⟨g40, 0, none⟩) dt.length cap) = W := ⟨_, rfl⟩
  rw [hX5] at g5_ q5 hrd2
  have hr5 : RR w X5 g2 g14 g15 lo A7 n7 c7 b7 ⟨k, f, t, s, [], [], [], o, tt, pk, dt⟩ ⟨none, 0, none, 0, none, 0, some ⟨g40, 0, none⟩, cap⟩ := hr4.put15 g5_ q5 (show LI _ _ _ _ ⟨k, f, t, s, [], [], [], o, tt, pk, dt⟩ ⟨none, 0, none, 0, none, 0, some ⟨g40, 0, none⟩, cap⟩ from (let h := hr4.lif g5_; ⟨h.o1, h.o2, h.o3, ⟨hrd2, hcap.1, hcap.2, fun ad e => by cases e; exact hl40⟩, ⟨h.ok.1, h.ok.2.1, h.ok.2.2.1, HPL.out⟩⟩))
  have hg13 := grown_trans1 (grown_trans1 g1 g2_) g3_
  have hg15 := grown_trans1 (grown_trans1 hg13 (grown_of_below hbb)) g5_
  have R36 := (hg15.block g36 (Array.getElem?_eq_some_iff.1 r15).1 (by simp; omega)).trans r15
  have hic := HI.out.far (by omega) hg15
  obtain ⟨x0, x1, y0, y1, hrd_, gd⟩ := hr5.put14 A15 n15 c15 b15
  have hid_ := hic.far (by omega) gd
  obtain ⟨X6, hX6⟩ : ∃ W, (X5.setCell ⟨g14, 0, none⟩ (.slice A15 n15 c15)).setCell ⟨g14, 1, none⟩ (.bool b15) = W := ⟨_, rfl⟩
  rw [hX6] at hrd_ hid_
  have HRR := Lib.hid hrd_
  have HI := Lib.hid hid_
  have R14 := HRR.out.r14
  clear hk hs1 hu hb15 p15 s15 hne hg36' hlo hga_ g1 q1 hX1 hX1' hr1 g2_ q2 hr2 g3_ q3 hr3 hrd hbb hcap e40 hr4 hl40 g5_ q5 hrd2 hr5 hg13 hg15 hic gd hid_ hrd_ hrr r15 hdl hSs hSl hS hX4
  go_wp2_with (first
    | ((with_reducible (refine wpList_load_cells 24 _ ga 0 (b8s pk) RAx.out Try.underlying24 rfl HIA_.out ?_ rfl ?_ ?_)); (exact rfl); (exact rfl))
    | ((with_reducible (refine wpList_store_mid rfl _ _ _ rfl ?_ ?_ ?_ ?_ ?_ ?_ ?_ ?_ ?_)); (exact g15); (exact 9); (exact (b8s pk).toArray); (exact rfl); (exact rfl); (exact HTP.out); (exact HIP.out); (exact all_oneCell_toArray (b8s_one' _)); rw [HX1.out])
    | (refine wpList_load_row rfl _ _ rfl _ rfl _ _ _ _ R36 Try.underlying86 rfl info_in ?_)
    | (refine wpList_load_row rfl _ _ rfl _ rfl _ _ _ _ R14 Try.underlying86 rfl info_in ?_))
  clear hW15 hg36 hg40 c7_ f7 c8_ f8 c41 f41 x0 x1 y0 y1 hX2 hX3 hX5 hX6 R36 R14 hcv
  have HRES : Hid (readL bs = (if doneS st8 && rightL ⟨k, f, t, s, [], [], [], o, tt, pk, dt⟩ then some ⟨k, f, t, s, [], [], [], o, tt, pk, dt⟩ else none)) := Lib.hid (by
    have h := HRE0.out
    rw [restR_4 (by have := HKV.out; simp only; omega)] at h
    simp only [Hpk.out, Hst5.out, Ho.out, Hst6.out, Htt.out, Hst7.out, Hdt.out, Hst8.out] at h
    exact h)
  have HTB : Hid (-9223372036854775808 ≤ (⟨k, f, t, s, [], [], [], o, tt, pk, dt⟩ : Lt).off ∧ (⟨k, f, t, s, [], [], [], o, tt, pk, dt⟩ : Lt).off ≤ 9223372036854775807) := Lib.hid (by have h := getNum_most st5 1048576 (by decide); rw [Ho.out] at h; show _ ≤ (o : Int) ∧ (o : Int) ≤ _; omega)
  refine (idone_any st8 _ X6 HI.out.v).mono ?_
  rintro e wz1 ⟨rfl, hbz1⟩
  have HRZ := Lib.hid (HRR.out.below hbz1)
  clear hbz1
  obtain ⟨WE, hWE, HTE, HRE, HBE, _, _⟩ := let_write (q := p0) (m := lt0) HRZ.out.r2 rfl rfl HRZ.out.bel HRZ.out.bel.size HRZ.out.ne.1
  have HWE := Lib.hid hWE
  have HIE := Lib.hid (info_rleta lt0 p0 rfl)
  have HOE := Lib.hid (all_oneCell_toArray (lt0.cells_one p0))
  have HBE' : Hid (Below w.heap.size w WE) := HBE
  have HZB := Lib.hid rzero_built
  clear hWE
  cases hd : doneS st8
  · have HRF : Hid (readL bs = none) := Lib.hid (by rw [HRES.out, hd]; rfl)
    clear hd
    go_wp2_with (first
      | ((with_reducible (refine wpList_built ?_ _ #[] ?_ _ ?_ _ HZB.out ?_)); (exact rfl); (exact rfl); (exact rfl))
      | ((with_reducible (refine wpList_store_mid rfl _ _ _ rfl ?_ ?_ ?_ ?_ ?_ ?_ ?_ ?_ ?_)); (exact g2); (exact 0); (exact (lt0.cells p0).toArray); (exact rfl); (exact rfl); (exact HTE.out); (exact HIE.out); (exact HOE.out); rw [HWE.out]))
    refine bodyPost_ret (results_row_tmp rfl _ _ _ _ _ _ _ rfl HRE.out Try.underlying37 rfl HIE.out) rfl ?_
    rw [HRF.out]
    exact rres_zero HBE'.out
  have HD := Lib.hid hd
  clear hd
  have HR7 := Lib.hid HRZ.out.r15
  have HIL7 := Lib.hid (info_rleta (⟨k, f, t, s, [], [], [], o, tt, pk, dt⟩ : Lt) (⟨none, 0, none, 0, none, 0, some ⟨g40, 0, none⟩, cap⟩ : LtP) HRZ.out.li.ok.2.2.2)
  have HOL7 := Lib.hid (all_oneCell_toArray (Lt.cells_one (⟨k, f, t, s, [], [], [], o, tt, pk, dt⟩ : Lt) (⟨none, 0, none, 0, none, 0, some ⟨g40, 0, none⟩, cap⟩ : LtP)))
  have HRL := Lib.hid (rright_any (⟨k, f, t, s, [], [], [], o, tt, pk, dt⟩ : Lt) (⟨none, 0, none, 0, none, 0, some ⟨g40, 0, none⟩, cap⟩ : LtP) wz1 HRZ.out.li.in_ HTB.out)
  go_wp2_with ((with_reducible (refine wpList_load_row_w _ _ rfl _ rfl _ _ _ _ HR7.out Try.underlying37 rfl HIL7.out ?_ ?_)); (focus (rfl)))
  refine HRL.out.mono ?_
  rintro e wz2 ⟨rfl, hbz⟩
  have HRY := Lib.hid (HRZ.out.below hbz)
  clear hbz HRL HTE HRE HBE HBE' HWE
  cases hrt : rightL (⟨k, f, t, s, [], [], [], o, tt, pk, dt⟩ : Lt)
  · have HRF : Hid (readL bs = none) := Lib.hid (by rw [HRES.out, HD.out, hrt]; rfl)
    clear hrt
    obtain ⟨WE, hWE, HTE, HRE, HBE, _, _⟩ := let_write (q := p0) (m := lt0) HRY.out.r2 rfl rfl HRY.out.bel HRY.out.bel.size HRY.out.ne.1
    have HWE := Lib.hid hWE
    have HBE' : Hid (Below w.heap.size w WE) := HBE
    clear hWE
    go_wp2_with (first
      | ((with_reducible (refine wpList_built ?_ _ #[] ?_ _ ?_ _ HZB.out ?_)); (exact rfl); (exact rfl); (exact rfl))
      | ((with_reducible (refine wpList_store_mid rfl _ _ _ rfl ?_ ?_ ?_ ?_ ?_ ?_ ?_ ?_ ?_)); (exact g2); (exact 0); (exact (lt0.cells p0).toArray); (exact rfl); (exact rfl); (exact HTE.out); (exact HIE.out); (exact HOE.out); rw [HWE.out]))
    refine bodyPost_ret (results_row_tmp rfl _ _ _ _ _ _ _ rfl HRE.out Try.underlying37 rfl HIE.out) rfl ?_
    rw [HRF.out]
    exact rres_zero HBE'.out
  have HRF : Hid (readL bs = some (⟨k, f, t, s, [], [], [], o, tt, pk, dt⟩ : Lt)) := Lib.hid (by rw [HRES.out, HD.out, hrt]; rfl)
  clear hrt
  obtain ⟨WE, hWE, HTE, HRE, HBE, _, _⟩ := let_write (q := (⟨none, 0, none, 0, none, 0, some ⟨g40, 0, none⟩, cap⟩ : LtP)) (m := (⟨k, f, t, s, [], [], [], o, tt, pk, dt⟩ : Lt)) HRY.out.r2 rfl HRY.out.li.ok.2.2.2 HRY.out.bel HRY.out.bel.size HRY.out.ne.1
  have HWE := Lib.hid hWE
  have HLE : Hid (LtIn WE (⟨k, f, t, s, [], [], [], o, tt, pk, dt⟩ : Lt) (⟨none, 0, none, 0, none, 0, some ⟨g40, 0, none⟩, cap⟩ : LtP)) := Lib.hid (by rw [← hWE]; exact (HRY.out.li.far (by have := HRY.out.ne; omega) (setCells_grown _ _ _ _)).in_)
  have HR7' := Lib.hid HRY.out.r15
  have HBE' : Hid (Below w.heap.size w WE) := HBE
  clear hWE
  go_wp2_with (first
    | ((with_reducible (refine wpList_load_row_w _ _ rfl _ rfl _ _ _ _ HR7'.out Try.underlying37 rfl HIL7.out ?_ ?_)); (focus (rfl)))
    | ((with_reducible (refine wpList_store_mid rfl _ _ _ rfl ?_ ?_ ?_ ?_ ?_ ?_ ?_ ?_ ?_)); (exact g2); (exact 0); (exact ((⟨k, f, t, s, [], [], [], o, tt, pk, dt⟩ : Lt).cells (⟨none, 0, none, 0, none, 0, some ⟨g40, 0, none⟩, cap⟩ : LtP)).toArray); (exact rfl); (exact rfl); (exact HTE.out); (exact HIL7.out); (exact HOL7.out); rw [HWE.out]))
  refine bodyPost_ret (results_row_tmp rfl _ _ _ _ _ _ _ rfl HRE.out Try.underlying37 rfl HIL7.out) rfl ?_
  rw [HRF.out]
  exact ⟨_, rfl, HLE.out, HBE'.out⟩
end Go.Proofs.Ytfjfidhhmidflaa

/-! The document's Read: kind 2. (Printed by wip/genRRd.py.) -/

namespace Go.Proofs.Ytfjfidhhmidflaa

set_option linter.unusedVariables false

set_option linter.unusedSimpArgs false

open Go.RowKit

set_option maxRecDepth 100000 in
set_option maxHeartbeats 8000000 in
theorem rread_2 (A : Option Addr) (bs : List UInt8) (c : Nat) (w : World) (hr : Rd w A (b8s bs)) (hc : bs.length ≤ c) (hc2 : c ≤ maxLen) (h4 : ¬ bs.length < 4) (h6 : ¬ 65536 < bs.length) (hsum : (getFour (some (bs.drop (bs.length - 4)))).1 = (crc (bs.take (bs.length - 4))).toNat) (hkind : (getNum (some (bs.take (bs.length - 4))) 4).1 = 2) :
    Calls Try.prog 18 #[.slice A bs.length c] w fun e w' => RROut w w' e (readL bs) := by
  unfold maxLen at hc2
  obtain ⟨m, hm⟩ : ∃ m, bs.length = m + 4 := ⟨bs.length - 4, by omega⟩
  have e1 : bs.length - 4 = m := by omega
  have HLEN : Hid (¬ (bs.length < 4 ∨ 65536 < bs.length)) := Lib.hid (by omega)
  rw [e1] at hsum hkind
  obtain ⟨n, hn⟩ : ∃ n, bs.length = n := ⟨_, rfl⟩
  have HNM : Hid (n = m + 4) := Lib.hid (by omega)
  rw [hn]
  have HTK : Hid (bs.length - 4 = m) := Lib.hid e1
  obtain ⟨inn, hinn⟩ : ∃ l, bs.take m = l := ⟨_, rfl⟩
  obtain ⟨end_, hend⟩ : ∃ l, bs.drop m = l := ⟨_, rfl⟩
  rw [hinn, hend] at hsum
  rw [hinn] at hkind
  have HKD := Lib.hid hkind
  clear hkind
  have hil : inn.length = m := by rw [← hinn, List.length_take]; omega
  have hel : end_.length = 4 := by rw [← hend, List.length_drop]; omega
  have hr1 : Rd w A (b8s inn) := by
    have := hr.take m
    rwa [show (b8s bs).take m = b8s inn by rw [← hinn]; simp [b8s]] at this
  have hr2 : Rd w (Option.map (fun x => x.add m) A) (b8s end_) := by
    have := hr.drop (k := m) (size := 1) (cap := c) (by rw [b8s_length]; omega)
    rw [if_neg (by omega)] at this
    simpa [b8s, ← hend] using this
  obtain ⟨A2, hA2⟩ : ∃ x, Option.map (fun x => x.add m) A = x := ⟨_, rfl⟩
  rw [hA2] at hr2
  obtain ⟨KB, hKB⟩ : ∃ k, w.heap.size = k := ⟨_, rfl⟩
  have hik : InK w KB (.agg #[.slice A m c, .bool false]) (some inn) := by
    rw [← hKB]
    exact InV.k (st := some inn) ⟨A, m, c, rfl, hil.symm, by omega, by unfold maxLen; omega, hr1⟩
  obtain ⟨W1, hW1⟩ : ∃ W, w.alloc (.cells #[Value.int .i64 0, Value.int .i64 0, Value.int .i64 0, Value.int .i64 0, Value.slice none 0 0, Value.slice none 0 0, Value.slice none 0 0, Value.int .i64 0, Value.int .i64 0, Value.int .u8 0, Value.int .u8 0, Value.int .u8 0, Value.int .u8 0, Value.int .u8 0, Value.int .u8 0, Value.int .u8 0, Value.int .u8 0, Value.int .u8 0, Value.int .u8 0, Value.int .u8 0, Value.int .u8 0, Value.int .u8 0, Value.int .u8 0, Value.int .u8 0, Value.int .u8 0, Value.int .u8 0, Value.int .u8 0, Value.int .u8 0, Value.int .u8 0, Value.int .u8 0, Value.int .u8 0, Value.int .u8 0, Value.int .u8 0, Value.int .u8 0, Value.int .u8 0, Value.int .u8 0, Value.int .u8 0, Value.int .u8 0, Value.int .u8 0, Value.int .u8 0, Value.int .u8 0, Value.slice none 0 0] 37) = W := ⟨_, rfl⟩
  obtain ⟨q1, b1, s1⟩ := new_row hW1
  rw [← lt0_cells] at q1
  obtain ⟨g2, hg2⟩ : ∃ g, w.heap.size = g := ⟨_, rfl⟩
  rw [hg2] at q1
  have HQ1 := Lib.hid q1
  have HB1 := Lib.hid b1
  have HS1 : Hid (W1.heap.size = g2 + 1) := Lib.hid (by omega)
  have HG2 := Lib.hid hg2
  have HKB : Hid (KB = g2) := Lib.hid (by omega)
  have HIK := Lib.hid (hik.below b1)
  have HR1 := Lib.hid (hr1.below b1)
  have HIE : Hid (InV W1 (.agg #[.slice A2 (n - m) (c - m), .bool false]) (some end_)) := Lib.hid ⟨A2, n - m, c - m, rfl, by omega, by omega, by unfold maxLen; omega, hr2.below b1⟩
  have HIL := Lib.hid hil
  have HSUM := Lib.hid hsum
  have HINN := Lib.hid hinn
  have HEND := Lib.hid hend
  have hmc : n ≤ c := by omega
  have HM6 : Hid (m + 4 ≤ 65536) := Lib.hid (by omega)
  have HN4 : Hid (n - 4 = m) := Lib.hid (by omega)
  have hm4 : ¬ (n : Int) < 4 := by omega
  have hm7 : ¬ (65536 : Int) < (n : Int) := by omega
  have hmi : (m : Int) ≤ (c : Int) := by omega
  have hmj : (m : Int) ≤ (n : Int) := by omega
  have hcm : ¬ c = m := by omega
  clear hn e1 hinn hend hil hel hr1 hr2 hr q1 b1 s1 hsum hm h4 h6 hc hik hKB
  go_enter Try.func18, Try.ntmps18
  go_wp2_with fail
  rw [HN4.out, hA2]
  clear hg2 hW1 hA2 hcm
  refine (igetfour_any (some end_) _ W1 HIE.out).mono ?_
  rintro e w2 ⟨u, rfl, hu, hb2⟩
  obtain ⟨A3, n3, c3, b3, rfl, _, _⟩ := hu.form
  obtain ⟨W3, hW3⟩ : ∃ W, w2.alloc (.cells #[.slice A3 n3 c3, .bool b3] 86) = W := ⟨_, rfl⟩
  obtain ⟨r3, p3, s3⟩ := new_row hW3
  have HB13 := Lib.hid (ext_trans hb2 p3)
  have HB := Lib.hid (ext_trans HB1.out HB13.out)
  have HI := Lib.hid (HIK.out.below HB13.out)
  have hsm := rsum_any A inn c W3 (HR1.out.below HB13.out) (by have := HIL.out; have := HM6.out; unfold maxLen; omega)
  rw [HIL.out] at hsm
  have HSM := Lib.hid hsm
  have HQ3 := Lib.hid ((HB13.out.block g2 (Array.getElem?_eq_some_iff.1 HQ1.out).1).trans HQ1.out)
  clear hsm hu hb2 p3 s3 r3 HIE HIK HR1 HQ1
  go_wp2_with fail
  clear hW3
  refine HSM.out.mono ?_
  rintro e w4 ⟨rfl, rfl⟩
  clear HSM
  rw [HSUM.out]
  go_wp2_with fail
  refine (igetnum_k KB (some inn) _ 4 W3 HI.out).mono ?_
  rintro e w4 ⟨u, rfl, hu, hb4⟩
  obtain ⟨k, hk⟩ : ∃ k, (getNum (some inn) 4).1 = k := ⟨_, rfl⟩
  obtain ⟨st1, hs1⟩ : ∃ s, (getNum (some inn) 4).2 = s := ⟨_, rfl⟩
  rw [hk]
  rw [hs1] at hu
  have Hk := Lib.hid hk
  have Hst1 := Lib.hid hs1
  obtain ⟨A4, n4, c4, b4, rfl, _, _⟩ := hu.v.form
  obtain ⟨W4, hW4⟩ : ∃ W, w4.alloc (.cells #[.slice A4 n4 c4, .bool b4] 86) = W := ⟨_, rfl⟩
  obtain ⟨r4, p4, s4⟩ := new_row hW4
  have HI := Lib.hid (hu.below p4)
  have HB := Lib.hid (ext_trans HB.out (ext_trans hb4 p4))
  have HQ3 := Lib.hid (((ext_trans hb4 p4).block g2 (Array.getElem?_eq_some_iff.1 HQ3.out).1).trans HQ3.out)
  clear hk hs1 hu hb4 p4 s4
  go_wp2_with (refine wpList_load_row rfl _ _ rfl _ rfl _ _ _ _ r4 Try.underlying86 rfl info_in ?_)
  clear hW4 r4
  refine (igetnum_k KB st1 _ 65536 W4 HI.out).mono ?_
  rintro e w5 ⟨u, rfl, hu, hb5⟩
  obtain ⟨f, hk⟩ : ∃ k, (getNum st1 65536).1 = k := ⟨_, rfl⟩
  obtain ⟨st2, hs1⟩ : ∃ s, (getNum st1 65536).2 = s := ⟨_, rfl⟩
  rw [hk]
  rw [hs1] at hu
  have Hf := Lib.hid hk
  have Hst2 := Lib.hid hs1
  obtain ⟨A5, n5, c5, b5, rfl, _, _⟩ := hu.v.form
  obtain ⟨W5, hW5⟩ : ∃ W, w5.alloc (.cells #[.slice A5 n5 c5, .bool b5] 86) = W := ⟨_, rfl⟩
  obtain ⟨r5, p5, s5⟩ := new_row hW5
  have HI := Lib.hid (hu.below p5)
  have HB := Lib.hid (ext_trans HB.out (ext_trans hb5 p5))
  have HQ3 := Lib.hid (((ext_trans hb5 p5).block g2 (Array.getElem?_eq_some_iff.1 HQ3.out).1).trans HQ3.out)
  clear hk hs1 hu hb5 p5 s5
  go_wp2_with (refine wpList_load_row rfl _ _ rfl _ rfl _ _ _ _ r5 Try.underlying86 rfl info_in ?_)
  clear hW5 r5
  refine (igetnum_k KB st2 _ 65536 W5 HI.out).mono ?_
  rintro e w6 ⟨u, rfl, hu, hb6⟩
  obtain ⟨t, hk⟩ : ∃ k, (getNum st2 65536).1 = k := ⟨_, rfl⟩
  obtain ⟨st3, hs1⟩ : ∃ s, (getNum st2 65536).2 = s := ⟨_, rfl⟩
  rw [hk]
  rw [hs1] at hu
  have Ht := Lib.hid hk
  have Hst3 := Lib.hid hs1
  obtain ⟨A6, n6, c6, b6, rfl, _, _⟩ := hu.v.form
  obtain ⟨W6, hW6⟩ : ∃ W, w6.alloc (.cells #[.slice A6 n6 c6, .bool b6] 86) = W := ⟨_, rfl⟩
  obtain ⟨r6, p6, s6⟩ := new_row hW6
  have HI := Lib.hid (hu.below p6)
  have HB := Lib.hid (ext_trans HB.out (ext_trans hb6 p6))
  have HQ3 := Lib.hid (((ext_trans hb6 p6).block g2 (Array.getElem?_eq_some_iff.1 HQ3.out).1).trans HQ3.out)
  clear hk hs1 hu hb6 p6 s6
  go_wp2_with (refine wpList_load_row rfl _ _ rfl _ rfl _ _ _ _ r6 Try.underlying86 rfl info_in ?_)
  clear hW6 r6
  refine (igetnum_k KB st3 _ 1099511627776 W6 HI.out).mono ?_
  rintro e w7 ⟨u, rfl, hu, hb7⟩
  obtain ⟨s, hk⟩ : ∃ k, (getNum st3 1099511627776).1 = k := ⟨_, rfl⟩
  obtain ⟨st4, hs1⟩ : ∃ s, (getNum st3 1099511627776).2 = s := ⟨_, rfl⟩
  rw [hk]
  rw [hs1] at hu
  have Hs := Lib.hid hk
  have Hst4 := Lib.hid hs1
  obtain ⟨A7, n7, c7, b7, rfl, _, _⟩ := hu.v.form
  obtain ⟨W7, hW7⟩ : ∃ W, w7.alloc (.cells #[.slice A7 n7 c7, .bool b7] 86) = W := ⟨_, rfl⟩
  obtain ⟨r7, p7, s7⟩ := new_row hW7
  obtain ⟨g14, hg14⟩ : ∃ g, w7.heap.size = g := ⟨_, rfl⟩
  rw [hg14] at r7
  obtain ⟨W8, hW8⟩ : ∃ W, W7.alloc (.cells #[Value.int .i64 0, Value.int .i64 0, Value.int .i64 0, Value.int .i64 0, Value.slice none 0 0, Value.slice none 0 0, Value.slice none 0 0, Value.int .i64 0, Value.int .i64 0, Value.int .u8 0, Value.int .u8 0, Value.int .u8 0, Value.int .u8 0, Value.int .u8 0, Value.int .u8 0, Value.int .u8 0, Value.int .u8 0, Value.int .u8 0, Value.int .u8 0, Value.int .u8 0, Value.int .u8 0, Value.int .u8 0, Value.int .u8 0, Value.int .u8 0, Value.int .u8 0, Value.int .u8 0, Value.int .u8 0, Value.int .u8 0, Value.int .u8 0, Value.int .u8 0, Value.int .u8 0, Value.int .u8 0, Value.int .u8 0, Value.int .u8 0, Value.int .u8 0, Value.int .u8 0, Value.int .u8 0, Value.int .u8 0, Value.int .u8 0, Value.int .u8 0, Value.int .u8 0, Value.slice none 0 0] 37) = W := ⟨_, rfl⟩
  obtain ⟨q8, p8, s8⟩ := new_row hW8
  rw [← lt0_cells] at q8
  obtain ⟨g15, hg15⟩ : ∃ g, W7.heap.size = g := ⟨_, rfl⟩
  obtain ⟨W9, hW9, HTH9, HR9, HB9, HKK9, HSZ9⟩ := let_write (q := p0) (m := ⟨k, f, t, s, [], [], [], 0, 0, zeros32, []⟩) q8 rfl rfl p8 p8.size (Nat.le_refl _)
  have HW9 := Lib.hid hW9
  rw [hg15] at HTH9 HW9 HR9
  have HI := Lib.hid ((hu.below p7).below HB9.out)
  obtain ⟨lo, hlo⟩ : ∃ lo, W9.heap.size = lo := ⟨_, rfl⟩
  have HRR : Hid (RR w W9 g2 g14 g15 lo A7 n7 c7 b7 ⟨k, f, t, s, [], [], [], 0, 0, zeros32, []⟩ p0) := Lib.hid (by
    have h1 := HB.out.size
    have h2 := hb7.size
    have h3 := HG2.out
    have h9 := HSZ9.out
    have hb9 := HB.out.trans ((hb7.trans ((p7.trans (HB9.out.mono (by omega))).mono hb7.size)).mono h1)
    have a2 : W9.heap[g2]? = _ := ((ext_trans hb7 (ext_trans p7 HB9.out)).block g2 (Array.getElem?_eq_some_iff.1 HQ3.out).1).trans HQ3.out
    have a14 : W9.heap[g14]? = _ := (HB9.out.block g14 (Array.getElem?_eq_some_iff.1 r7).1).trans r7
    have lt2 := (Array.getElem?_eq_some_iff.1 HQ3.out).1
    have lt15 := (Array.getElem?_eq_some_iff.1 HR9.out).1
    exact ⟨a2, a14, HR9.out, hb9, ⟨by omega, by omega, by omega, by omega, by omega⟩, LI.start _ _ _ _ _ _ _ _ _ _⟩)
  have HLO : Hid (KB ≤ g2 ∧ lo = W9.heap.size) := Lib.hid ⟨by have := HKB.out; omega, hlo.symm⟩
  have HIB := Lib.hid (info_rleta (⟨k, f, t, s, [], [], [], 0, 0, zeros32, []⟩ : Lt) p0 rfl)
  have HOB := Lib.hid (all_oneCell_toArray ((⟨k, f, t, s, [], [], [], 0, 0, zeros32, []⟩ : Lt).cells_one p0))
  have HBU := Lib.hid (rhead_built k f t s)
  have HKV := HKD
  rw [Hk.out] at HKV
  have d2 : ((k : Int) == 2) = true := by rw [HKV.out]; rfl
  have d3 : ((k : Int) == 3) = false := by rw [HKV.out]; rfl
  have d4 : ((k : Int) == 4) = false := by rw [HKV.out]; rfl
  have R14 := HRR.out.r14
  clear hk hs1 hu hb7 p7 s7 r7 q8 p8 s8 hW9 HR9 HB9 HKK9 HSZ9 HQ3 HKB HG2 hlo HB
  go_wp2_with (first
    | ((with_reducible (refine wpList_built ?_ _ #[(0, .tmp 87), (1, .tmp 88), (2, .tmp 89), (3, .tmp 90)] ?_ _ ?_ _ HBU.out ?_)); (exact rfl); (exact rfl); (exact rfl))
    | ((with_reducible (refine wpList_store_mid rfl _ _ _ rfl ?_ ?_ ?_ ?_ ?_ ?_ ?_ ?_ ?_)); (exact g15); (exact 0); (exact ((⟨k, f, t, s, [], [], [], 0, 0, zeros32, []⟩ : Lt).cells p0).toArray); (exact rfl); (exact rfl); (exact HTH9.out); (exact HIB.out); (exact HOB.out); rw [HW9.out])
    | (refine wpList_load_row rfl _ _ rfl _ rfl _ _ _ _ R14 Try.underlying86 rfl info_in ?_))
  clear hW7 hW8 hg14 hg15 R14 HBU HTH9 HIB HOB HW9 d2 d3 d4
  have HHD : Hid (headR (some inn) = (⟨k, f, t, s, [], [], [], 0, 0, zeros32, []⟩, st4)) := Lib.hid (by
    unfold headR
    simp only [Hk.out, Hst1.out, Hf.out, Hst2.out, Ht.out, Hst3.out, Hs.out, Hst4.out])
  have HRE0 : Hid (readL bs = (if doneS (restR (⟨k, f, t, s, [], [], [], 0, 0, zeros32, []⟩, st4)).2 && rightL (restR (⟨k, f, t, s, [], [], [], 0, 0, zeros32, []⟩, st4)).1 then some (restR (⟨k, f, t, s, [], [], [], 0, 0, zeros32, []⟩, st4)).1 else none)) := Lib.hid (by
    have h := readL_ok HLEN.out (by rw [HTK.out, HINN.out, HEND.out]; exact HSUM.out)
    rw [HTK.out, HINN.out, HHD.out] at h
    exact h)
  refine (igetnum_k KB st4 _ 100 W9 HI.out).mono ?_
  rintro e w10 ⟨u, rfl, hu, hb10⟩
  obtain ⟨nr, hk⟩ : ∃ k, (getNum st4 100).1 = k := ⟨_, rfl⟩
  obtain ⟨st5, hs1⟩ : ∃ s, (getNum st4 100).2 = s := ⟨_, rfl⟩
  rw [hk]
  rw [hs1] at hu
  have Hnr := Lib.hid hk
  have Hst5 := Lib.hid hs1
  obtain ⟨A10, n10, c10, b10, rfl, _, _⟩ := hu.v.form
  obtain ⟨W10, hW10⟩ : ∃ W, w10.alloc (.cells #[.slice A10 n10 c10, .bool b10] 86) = W := ⟨_, rfl⟩
  obtain ⟨r10, p10, s10⟩ := new_row hW10
  obtain ⟨g17, hg17⟩ : ∃ g, w10.heap.size = g := ⟨_, rfl⟩
  rw [hg17] at r10
  obtain ⟨lo2, hlo2⟩ : ∃ g, W10.heap.size = g := ⟨_, rfl⟩
  have HNB : Hid (nr ≤ 100) := Lib.hid (by have := getNum_most st4 100 (by decide); rw [hk] at this; omega)
  have HRL : Hid (RL w W10 KB g2 g14 g15 g17 lo2 A7 n7 c7 b7 A10 n10 c10 b10 (refsK 0 st5).2 ⟨k, f, t, s, (refsK 0 st5).1, [], [], 0, 0, zeros32, []⟩ ⟨none, 0, none, 0, none, 0, none, 0⟩) := Lib.hid (by
    have h := HRR.out.below (ext_trans hb10 p10)
    have h1 := HRR.out.ne
    have h2 := hb10.size
    have h3 := HLO.out
    exact ⟨⟨h.r2, h.r14, h.r15, h.bel, ⟨h1.1, h1.2.1, h1.2.2.1, by omega, by omega⟩, LI.start _ _ _ _ _ _ _ _ _ _⟩, r10, hu.below p10, ⟨by omega, by omega, h3.1⟩⟩)
  clear hk hs1 hu hb10 p10 s10 r10 HRR HI
  go_wp2_with fail
  clear hW10 hg17 hlo2
  go_loopg [18] (nr * 1) (fun gk_ s_ wr => ∃ (j : Nat) (A17 : Option Addr) (n17 c17 : Nat) (b17 : Bool) (Al : Option Addr) (cl : Nat), j ≤ nr ∧ gk_ = nr - j ∧ s_ = .int .i64 (j : Int) ∧ Hid (RL w wr KB g2 g14 g15 g17 lo2 A7 n7 c7 b7 A17 n17 c17 b17 (refsK j st5).2 ⟨k, f, t, s, (refsK j st5).1, [], [], 0, 0, zeros32, []⟩ ⟨Al, cl, none, 0, none, 0, none, 0⟩))
  case atStart => exact ⟨0, A10, n10, c10, b10, none, 0, by omega, by omega, rfl, HRL⟩
  case round =>
  clear HRL
  obtain ⟨j, A17, n17, c17, b17, Al, cl, hj, rfl, rfl, HRL⟩ := hrel
  by_cases hlt : j < nr
  · have hnb := HNB.out
    have i1 : (j : Int) < (nr : Int) := by omega
    have r17 := HRL.out.r17
    go_wp2_with (refine wpList_load_row rfl _ _ rfl _ rfl _ _ _ _ r17 Try.underlying86 rfl info_in ?_)
    clear r17
    refine (igettext_k KB (refsK j st5).2 _ 60 wr HRL.out.in_).mono ?_
    rintro e w19 ⟨u, rfl, hu, hb19⟩
    obtain ⟨S, hS⟩ : ∃ S : ByteArray, (⟨(getText (refsK j st5).2 60).1.toArray⟩ : ByteArray) = S := ⟨_, rfl⟩
    obtain ⟨stT, hs1⟩ : ∃ s, (getText (refsK j st5).2 60).2 = s := ⟨_, rfl⟩
    have hsz : S.size ≤ 4611686018427387904 := by rw [← hS]; exact getText_size _ 60
    rw [hS]
    rw [hs1] at hu
    have HSS := Lib.hid hS
    have HST := Lib.hid hs1
    have HSZ := Lib.hid hsz
    obtain ⟨A19, n19, c19, b19, rfl, _, _⟩ := hu.v.form
    obtain ⟨W19, hW19⟩ : ∃ W, w19.alloc (.cells #[.slice A19 n19 c19, .bool b19] 86) = W := ⟨_, rfl⟩
    obtain ⟨r19, p19, s19⟩ := new_row hW19
    have HI := Lib.hid (hu.below p19)
    have HRL19 := Lib.hid (HRL.out.below (ext_trans hb19 p19))
    have HSZ19 := Lib.hid (ext_trans hb19 p19).size
    clear hS hs1 hsz hu hb19 p19 s19
    go_wp2_with (refine wpList_load_row rfl _ _ rfl _ rfl _ _ _ _ r19 Try.underlying86 rfl info_in ?_)
    clear hW19 r19
    refine (igetid_k KB stT _ W19 HI.out).mono ?_
    rintro e w21 ⟨u, rfl, hu, hb6⟩
    obtain ⟨idv, hk⟩ : ∃ k, (getId stT).1 = k := ⟨_, rfl⟩
    obtain ⟨stI, hs1⟩ : ∃ s, (getId stT).2 = s := ⟨_, rfl⟩
    have hil : idv.length = 32 := by rw [← hk]; exact getId_len _
    rw [hk]
    rw [hs1] at hu
    have Hidv := Lib.hid hk
    have HstI := Lib.hid hs1
    have HPL := Lib.hid hil
    obtain ⟨A6_, n6_, c6_, b6_, rfl, _, _⟩ := hu.v.form
    obtain ⟨Y7, hY7⟩ : ∃ W, w21.alloc (.cells #[Value.int .u8 0, Value.int .u8 0, Value.int .u8 0, Value.int .u8 0, Value.int .u8 0, Value.int .u8 0, Value.int .u8 0, Value.int .u8 0, Value.int .u8 0, Value.int .u8 0, Value.int .u8 0, Value.int .u8 0, Value.int .u8 0, Value.int .u8 0, Value.int .u8 0, Value.int .u8 0, Value.int .u8 0, Value.int .u8 0, Value.int .u8 0, Value.int .u8 0, Value.int .u8 0, Value.int .u8 0, Value.int .u8 0, Value.int .u8 0, Value.int .u8 0, Value.int .u8 0, Value.int .u8 0, Value.int .u8 0, Value.int .u8 0, Value.int .u8 0, Value.int .u8 0, Value.int .u8 0] 24) = W := ⟨_, rfl⟩
    obtain ⟨q7, p7, s7⟩ := new_row hY7
    obtain ⟨Y8, hY8⟩ : ∃ W, Y7.alloc (.cells #[.slice none 0 0, .bool false] 86) = W := ⟨_, rfl⟩
    obtain ⟨q8, p8, s8⟩ := new_row hY8
    obtain ⟨ga, hga⟩ : ∃ g, w21.heap.size = g := ⟨_, rfl⟩
    obtain ⟨gb, hgb⟩ : ∃ g, Y7.heap.size = g := ⟨_, rfl⟩
    rw [hga] at q7
    rw [hgb] at q8
    have q7' := (p8.block _ (Array.getElem?_eq_some_iff.1 q7).1).trans q7
    rw [← zeros32_cells'] at q7'
    have h68 := ext_trans p7 p8
    obtain ⟨Y9, hY9, HTH9_, HR9_, HB9_⟩ := arr_write (new := idv) q7' (by rw [hil]; rfl) h68 h68.size (by omega)
    have HY9 := Lib.hid hY9
    have q8' := (setCells_other ga (b8s idv).toArray.toList 0 Y8 gb (by omega)).trans q8
    rw [hY9] at q8'
    have x0 := row_cell q8' 0
    have x1 := row_cell q8' 1
    have y0 := row_free q8' 0
    have y1 := row_free q8' 1
    have rb := row_set2 q8' (.slice A6_ n6_ c6_) (.bool b6_)
    have gsb : Y9.grownBy ((Y9.setCell ⟨gb, 0, none⟩ (.slice A6_ n6_ c6_)).setCell ⟨gb, 1, none⟩ (.bool b6_)) (some gb) := grown_trans1 (grown_set gb 0 _) (grown_set gb 1 _)
    obtain ⟨Ya, hYa⟩ : ∃ W, (Y9.setCell ⟨gb, 0, none⟩ (.slice A6_ n6_ c6_)).setCell ⟨gb, 1, none⟩ (.bool b6_) = W := ⟨_, rfl⟩
    rw [hYa] at rb gsb
    have h6a := bel_grown HB9_.out HB9_.out.size gsb (by omega)
    have RBa := Lib.hid rb
    have RAr := Lib.hid ((gsb.block _ (Array.getElem?_eq_some_iff.1 HR9_.out).1 (by simp; omega)).trans HR9_.out)
    have RAa := Lib.hid (range_of_row RAr.out)
    have HI := Lib.hid (hu.below h6a)
    have HBY := Lib.hid (ext_trans hb6 h6a)
    have HGB : Hid (W19.heap.size ≤ ga ∧ ga < gb) := Lib.hid ⟨by rw [← hga]; exact hb6.size, by omega⟩
    have HIA_ := Lib.hid (info_rid32 idv hil)
    have HIB_ := Lib.hid (info_rid32' idv hil)
    have hxo : (RefM.mk S idv).ok := ⟨hil, by have := HSZ.out; show S.size ≤ _; omega⟩
    clear hk hs1 hil hu hb6 q7 p7 s7 q8 p8 s8 q7' h68 hY9 q8' rb gsb h6a
    have HXO := Lib.hid hxo
    have HRLa := Lib.hid (HRL19.out.below HBY.out)
    have HLN : Hid ((refsK j st5).1.length = j) := Lib.hid (refsK_len j st5).1
    have c4 : Ya.cell? ⟨g15, 4, none⟩ = some (.slice Al j cl) := by
      have h : Ya.cell? ⟨g15, 4, none⟩ = some (.slice Al (refsK j st5).1.length cl) := row_cell HRLa.out.rr.r15 4
      rw [HLN.out] at h
      exact h
    have HBR : Hid (Try.prog.built 64 [(0, .string S), (1, .agg (b8s idv).toArray)] = some (RefM.mk S idv).cells.toArray) := Lib.hid (ref_built S idv HPL.out)
    have HNX : Hid ((refsK (j + 1) st5).1 = (refsK j st5).1 ++ [RefM.mk S idv]) := Lib.hid (by
      show (refsK j st5).1 ++ [_] = _
      rw [HST.out, Hidv.out, HSS.out])
    have HNX2 : Hid ((refsK (j + 1) st5).2 = stI) := Lib.hid (by
      show (getId (getText (refsK j st5).2 60).2).2 = _
      rw [HST.out, HstI.out])
    obtain ⟨Yb, hYb⟩ : ∃ W, Ya.alloc (.cells (RefM.mk S idv).cells.toArray 64) = W := ⟨_, rfl⟩
    obtain ⟨rb_, pb_, sb_⟩ := new_row hYb
    have HYb := Lib.hid hYb
    have HRLb := Lib.hid (HRLa.out.below pb_)
    have HRb : Hid (Rd Yb (some ⟨Ya.heap.size, 0, none⟩) (RefM.mk S idv).cells) := Lib.hid (range_rd (range_of_row rb_))
    have HOb : Hid (Yb.ownsRow lo2 64 33 (.slice Al j cl) j (rfc (refsK j st5).1)) := Lib.hid (by
      have h := HRLb.out.rr.li.o1
      rw [show ((⟨k, f, t, s, (refsK j st5).1, [], [], 0, 0, zeros32, []⟩ : Lt)).refs.length = j from HLN.out] at h
      exact h)
    have HBA := Lib.hid HRLb.out.rr.ne.2.2.2.2
    have HAPP : Hid (∀ A' c' W', Yb.grownBy W' (Value.slice Al j cl).ownBlock → W'.ownsRow lo2 64 33 (.slice A' (j + 1) c') (j + 1) (rfc (refsK j st5).1 ++ (RefM.mk S idv).cells) →
        W'.cell? ⟨g15, 4, none⟩ = some (.slice Al j cl) ∧ W'.frozen? ⟨g15, 4, none⟩ = false ∧ (W'.setCell ⟨g15, 4, none⟩ (.slice A' (j + 1) c')).heap[gb]? = some (.cells #[.slice A6_ n6_ c6_, .bool b6_] 86 (0, 0)) ∧
        (W'.setCell ⟨g15, 4, none⟩ (.slice A' (j + 1) c')).cell? ⟨g17, 0, none⟩ = some (.slice A17 n17 c17) ∧ (W'.setCell ⟨g15, 4, none⟩ (.slice A' (j + 1) c')).cell? ⟨g17, 1, none⟩ = some (.bool b17) ∧
        (W'.setCell ⟨g15, 4, none⟩ (.slice A' (j + 1) c')).frozen? ⟨g17, 0, none⟩ = false ∧ (W'.setCell ⟨g15, 4, none⟩ (.slice A' (j + 1) c')).frozen? ⟨g17, 1, none⟩ = false ∧
        Hid (RL w (((W'.setCell ⟨g15, 4, none⟩ (.slice A' (j + 1) c')).setCell ⟨g17, 0, none⟩ (.slice A6_ n6_ c6_)).setCell ⟨g17, 1, none⟩ (.bool b6_)) KB g2 g14 g15 g17 lo2 A7 n7 c7 b7 A6_ n6_ c6_ b6_ (refsK (j + 1) st5).2 ⟨k, f, t, s, (refsK (j + 1) st5).1, [], [], 0, 0, zeros32, []⟩ ⟨A', c', none, 0, none, 0, none, 0⟩)) := Lib.hid (by
      intro A' c' W' hg ho
      have hrb := (pb_.block _ (Array.getElem?_eq_some_iff.1 RBa.out).1).trans RBa.out
      have hown : wr.ownsRow lo2 64 33 (.slice Al j cl) j (rfc (refsK j st5).1) := by
        have h := HRL.out.rr.li.o1
        rw [show ((⟨k, f, t, s, (refsK j st5).1, [], [], 0, 0, zeros32, []⟩ : Lt)).refs.length = j from HLN.out] at h
        exact h
      have h := HRLb.out.step (st' := (refsK (j + 1) st5).2) (RefM.mk S idv) HXO.out HLN.out hg ho (by rw [HNX2.out]; exact HI.out.below pb_) hrb (fun i e => by have := (hown.lt i e).2; have := HSZ19.out; have := HGB.out; omega) (by have h1 := HRL.out.n17; have h2 := HRL.out.rr.ne; have := HSZ19.out; have := HGB.out; omega)
      rw [HNX.out]
      exact ⟨h.1, h.2.1, h.2.2.1, h.2.2.2.1, h.2.2.2.2.1, h.2.2.2.2.2.1, h.2.2.2.2.2.2.1, Lib.hid h.2.2.2.2.2.2.2⟩)
    clear hxo rb_ pb_ sb_ hYb
    go_wp2_with (first
      | ((with_reducible (refine wpList_store_mid rfl _ _ _ rfl ?_ ?_ ?_ ?_ ?_ ?_ ?_ ?_ ?_)); (exact ga); (exact 0); (exact (b8s idv).toArray); (exact rfl); (exact rfl); (exact HTH9_.out); (exact HIB_.out); (exact all_oneCell_toArray (b8s_one' _)); rw [HY9.out])
      | ((with_reducible (refine wpList_load_cells 24 _ ga 0 (b8s idv) RAa.out Try.underlying24 rfl HIA_.out ?_ rfl ?_ ?_)); (exact rfl); (exact rfl))
      | ((with_reducible (refine wpList_built ?_ _ #[(0, .tmp 117), (1, .tmp 118)] ?_ _ ?_ _ HBR.out ?_)); (exact rfl); (exact rfl); (exact rfl))
      | (refine wpList_build1 rfl _ 64 _ rfl (RefM.mk S idv).cells rfl Try.underlying34 (by rw [RefM.len HXO.out]; exact info_rref1) (by rw [RefM.len HXO.out]; decide) (by rw [RefM.len HXO.out]; decide) ?_; rw [HYb.out])
      | (at_builtin; refine wpList_append_rd _ rfl _ _ 34 rfl lo2 64 _ 33 48 Try.underlying34 info_rref2 (by unfold refZ; rw [zeros32_cells]; rfl) (by decide) (.slice Al j cl) j (rfc (refsK j st5).1) rfl HOb.out _ 1 1 (RefM.mk S idv).cells rfl (by rw [RefM.len HXO.out]) HRb.out (RefM.one _) (by unfold maxLen; omega) (by omega) HBA.out ?_; intro v7 w7_ ho7 hg7_ hvb7; obtain ⟨A5_, c5_, e5, _⟩ := own_slice ho7; subst e5; obtain ⟨z1, z2, rgb, z3, z4, z5, z6, HRX⟩ := HAPP.out _ _ _ hg7_ ho7; clear ho7 hg7_ hvb7)
      | (refine wpList_load_row rfl _ _ rfl _ rfl _ _ _ _ rgb Try.underlying86 rfl info_in ?_))
    clear c4
    clear x0 x1 y0 y1 hYa hY7 hY8 hga hgb
    go_roundg (nr - (j + 1))
    case measure => omega
    case rel => exact ⟨j + 1, A6_, n6_, c6_, b6_, A5_, c5_, by omega, rfl, by first | rfl | exact congrArg (Value.int .i64) (by omega) | go_num, HRX⟩
  obtain rfl : j = nr := by omega
  clear hlt hj
  have r17 := HRL.out.r17
  obtain ⟨x0, x1, y0, y1, hrd_, gd⟩ := HRL.out.rr.put14 A17 n17 c17 b17
  have hid_ := HRL.out.in_.far (by have := HRL.out.n17; have := HRL.out.rr.ne; omega) gd
  obtain ⟨X6, hX6⟩ : ∃ W, (wr.setCell ⟨g14, 0, none⟩ (.slice A17 n17 c17)).setCell ⟨g14, 1, none⟩ (.bool b17) = W := ⟨_, rfl⟩
  rw [hX6] at hrd_ hid_
  have HRR := Lib.hid hrd_
  have HI := Lib.hid hid_
  have R14 := HRR.out.r14
  clear gd hid_ hrd_
  go_wp2_with (first
    | (refine wpList_load_row rfl _ _ rfl _ rfl _ _ _ _ r17 Try.underlying86 rfl info_in ?_)
    | (refine wpList_load_row rfl _ _ rfl _ rfl _ _ _ _ R14 Try.underlying86 rfl info_in ?_))
  clear r17 x0 x1 y0 y1 hX6 R14 HRL
  have HRES : Hid (readL bs = (if doneS (refsK j st5).2 && rightL ⟨k, f, t, s, (refsK j st5).1, [], [], 0, 0, zeros32, []⟩ then some ⟨k, f, t, s, (refsK j st5).1, [], [], 0, 0, zeros32, []⟩ else none)) := Lib.hid (by
    have h := HRE0.out
    rw [restR_2 (by have := HKV.out; simp only; omega)] at h
    have e : getRefs st4 = refsK j st5 := by unfold getRefs; rw [Hnr.out, Hst5.out]
    rw [e] at h
    exact h)
  have HTB : Hid (-9223372036854775808 ≤ (⟨k, f, t, s, (refsK j st5).1, [], [], 0, 0, zeros32, []⟩ : Lt).off ∧ (⟨k, f, t, s, (refsK j st5).1, [], [], 0, 0, zeros32, []⟩ : Lt).off ≤ 9223372036854775807) := Lib.hid (by show (-9223372036854775808 : Int) ≤ 0 ∧ (0 : Int) ≤ 9223372036854775807; decide)
  refine (idone_any (refsK j st5).2 _ X6 HI.out.v).mono ?_
  rintro e wz1 ⟨rfl, hbz1⟩
  have HRZ := Lib.hid (HRR.out.below hbz1)
  clear hbz1
  obtain ⟨WE, hWE, HTE, HRE, HBE, _, _⟩ := let_write (q := p0) (m := lt0) HRZ.out.r2 rfl rfl HRZ.out.bel HRZ.out.bel.size HRZ.out.ne.1
  have HWE := Lib.hid hWE
  have HIE := Lib.hid (info_rleta lt0 p0 rfl)
  have HOE := Lib.hid (all_oneCell_toArray (lt0.cells_one p0))
  have HBE' : Hid (Below w.heap.size w WE) := HBE
  have HZB := Lib.hid rzero_built
  clear hWE
  cases hd : doneS (refsK j st5).2
  · have HRF : Hid (readL bs = none) := Lib.hid (by rw [HRES.out, hd]; rfl)
    clear hd
    go_wp2_with (first
      | ((with_reducible (refine wpList_built ?_ _ #[] ?_ _ ?_ _ HZB.out ?_)); (exact rfl); (exact rfl); (exact rfl))
      | ((with_reducible (refine wpList_store_mid rfl _ _ _ rfl ?_ ?_ ?_ ?_ ?_ ?_ ?_ ?_ ?_)); (exact g2); (exact 0); (exact (lt0.cells p0).toArray); (exact rfl); (exact rfl); (exact HTE.out); (exact HIE.out); (exact HOE.out); rw [HWE.out]))
    refine bodyPost_ret (results_row_tmp rfl _ _ _ _ _ _ _ rfl HRE.out Try.underlying37 rfl HIE.out) rfl ?_
    rw [HRF.out]
    exact rres_zero HBE'.out
  have HD := Lib.hid hd
  clear hd
  have HR7 := Lib.hid HRZ.out.r15
  have HIL7 := Lib.hid (info_rleta (⟨k, f, t, s, (refsK j st5).1, [], [], 0, 0, zeros32, []⟩ : Lt) (⟨Al, cl, none, 0, none, 0, none, 0⟩ : LtP) HRZ.out.li.ok.2.2.2)
  have HOL7 := Lib.hid (all_oneCell_toArray (Lt.cells_one (⟨k, f, t, s, (refsK j st5).1, [], [], 0, 0, zeros32, []⟩ : Lt) (⟨Al, cl, none, 0, none, 0, none, 0⟩ : LtP)))
  have HRL := Lib.hid (rright_any (⟨k, f, t, s, (refsK j st5).1, [], [], 0, 0, zeros32, []⟩ : Lt) (⟨Al, cl, none, 0, none, 0, none, 0⟩ : LtP) wz1 HRZ.out.li.in_ HTB.out)
  go_wp2_with ((with_reducible (refine wpList_load_row_w _ _ rfl _ rfl _ _ _ _ HR7.out Try.underlying37 rfl HIL7.out ?_ ?_)); (focus (rfl)))
  refine HRL.out.mono ?_
  rintro e wz2 ⟨rfl, hbz⟩
  have HRY := Lib.hid (HRZ.out.below hbz)
  clear hbz HRL HTE HRE HBE HBE' HWE
  cases hrt : rightL (⟨k, f, t, s, (refsK j st5).1, [], [], 0, 0, zeros32, []⟩ : Lt)
  · have HRF : Hid (readL bs = none) := Lib.hid (by rw [HRES.out, HD.out, hrt]; rfl)
    clear hrt
    obtain ⟨WE, hWE, HTE, HRE, HBE, _, _⟩ := let_write (q := p0) (m := lt0) HRY.out.r2 rfl rfl HRY.out.bel HRY.out.bel.size HRY.out.ne.1
    have HWE := Lib.hid hWE
    have HBE' : Hid (Below w.heap.size w WE) := HBE
    clear hWE
    go_wp2_with (first
      | ((with_reducible (refine wpList_built ?_ _ #[] ?_ _ ?_ _ HZB.out ?_)); (exact rfl); (exact rfl); (exact rfl))
      | ((with_reducible (refine wpList_store_mid rfl _ _ _ rfl ?_ ?_ ?_ ?_ ?_ ?_ ?_ ?_ ?_)); (exact g2); (exact 0); (exact (lt0.cells p0).toArray); (exact rfl); (exact rfl); (exact HTE.out); (exact HIE.out); (exact HOE.out); rw [HWE.out]))
    refine bodyPost_ret (results_row_tmp rfl _ _ _ _ _ _ _ rfl HRE.out Try.underlying37 rfl HIE.out) rfl ?_
    rw [HRF.out]
    exact rres_zero HBE'.out
  have HRF : Hid (readL bs = some (⟨k, f, t, s, (refsK j st5).1, [], [], 0, 0, zeros32, []⟩ : Lt)) := Lib.hid (by rw [HRES.out, HD.out, hrt]; rfl)
  clear hrt
  obtain ⟨WE, hWE, HTE, HRE, HBE, _, _⟩ := let_write (q := (⟨Al, cl, none, 0, none, 0, none, 0⟩ : LtP)) (m := (⟨k, f, t, s, (refsK j st5).1, [], [], 0, 0, zeros32, []⟩ : Lt)) HRY.out.r2 rfl HRY.out.li.ok.2.2.2 HRY.out.bel HRY.out.bel.size HRY.out.ne.1
  have HWE := Lib.hid hWE
  have HLE : Hid (LtIn WE (⟨k, f, t, s, (refsK j st5).1, [], [], 0, 0, zeros32, []⟩ : Lt) (⟨Al, cl, none, 0, none, 0, none, 0⟩ : LtP)) := Lib.hid (by rw [← hWE]; exact (HRY.out.li.far (by have := HRY.out.ne; omega) (setCells_grown _ _ _ _)).in_)
  have HR7' := Lib.hid HRY.out.r15
  have HBE' : Hid (Below w.heap.size w WE) := HBE
  clear hWE
  go_wp2_with (first
    | ((with_reducible (refine wpList_load_row_w _ _ rfl _ rfl _ _ _ _ HR7'.out Try.underlying37 rfl HIL7.out ?_ ?_)); (focus (rfl)))
    | ((with_reducible (refine wpList_store_mid rfl _ _ _ rfl ?_ ?_ ?_ ?_ ?_ ?_ ?_ ?_ ?_)); (exact g2); (exact 0); (exact ((⟨k, f, t, s, (refsK j st5).1, [], [], 0, 0, zeros32, []⟩ : Lt).cells (⟨Al, cl, none, 0, none, 0, none, 0⟩ : LtP)).toArray); (exact rfl); (exact rfl); (exact HTE.out); (exact HIL7.out); (exact HOL7.out); rw [HWE.out]))
  refine bodyPost_ret (results_row_tmp rfl _ _ _ _ _ _ _ rfl HRE.out Try.underlying37 rfl HIL7.out) rfl ?_
  rw [HRF.out]
  exact ⟨_, rfl, HLE.out, HBE'.out⟩
end Go.Proofs.Ytfjfidhhmidflaa

/-! The document's Read: whole. (Printed by wip/genRRd.py.) -/

namespace Go.Proofs.Ytfjfidhhmidflaa

set_option linter.unusedVariables false

set_option linter.unusedSimpArgs false

open Go.RowKit

set_option maxRecDepth 100000 in
set_option maxHeartbeats 8000000 in
theorem rread_sum (A : Option Addr) (bs : List UInt8) (c : Nat) (w : World) (hr : Rd w A (b8s bs)) (hc : bs.length ≤ c) (hc2 : c ≤ maxLen) (h4 : ¬ bs.length < 4) (h6 : ¬ 65536 < bs.length) (hsum : (getFour (some (bs.drop (bs.length - 4)))).1 ≠ (crc (bs.take (bs.length - 4))).toNat) :
    Calls Try.prog 18 #[.slice A bs.length c] w fun e w' => RROut w w' e (readL bs) := by
  unfold maxLen at hc2
  obtain ⟨m, hm⟩ : ∃ m, bs.length = m + 4 := ⟨bs.length - 4, by omega⟩
  have e1 : bs.length - 4 = m := by omega
  have HLEN : Hid (¬ (bs.length < 4 ∨ 65536 < bs.length)) := Lib.hid (by omega)
  rw [e1] at hsum
  obtain ⟨n, hn⟩ : ∃ n, bs.length = n := ⟨_, rfl⟩
  have HNM : Hid (n = m + 4) := Lib.hid (by omega)
  rw [hn]
  have HTK : Hid (bs.length - 4 = m) := Lib.hid e1
  obtain ⟨inn, hinn⟩ : ∃ l, bs.take m = l := ⟨_, rfl⟩
  obtain ⟨end_, hend⟩ : ∃ l, bs.drop m = l := ⟨_, rfl⟩
  rw [hinn, hend] at hsum
  have hil : inn.length = m := by rw [← hinn, List.length_take]; omega
  have hel : end_.length = 4 := by rw [← hend, List.length_drop]; omega
  have hr1 : Rd w A (b8s inn) := by
    have := hr.take m
    rwa [show (b8s bs).take m = b8s inn by rw [← hinn]; simp [b8s]] at this
  have hr2 : Rd w (Option.map (fun x => x.add m) A) (b8s end_) := by
    have := hr.drop (k := m) (size := 1) (cap := c) (by rw [b8s_length]; omega)
    rw [if_neg (by omega)] at this
    simpa [b8s, ← hend] using this
  obtain ⟨A2, hA2⟩ : ∃ x, Option.map (fun x => x.add m) A = x := ⟨_, rfl⟩
  rw [hA2] at hr2
  obtain ⟨KB, hKB⟩ : ∃ k, w.heap.size = k := ⟨_, rfl⟩
  have hik : InK w KB (.agg #[.slice A m c, .bool false]) (some inn) := by
    rw [← hKB]
    exact InV.k (st := some inn) ⟨A, m, c, rfl, hil.symm, by omega, by unfold maxLen; omega, hr1⟩
  obtain ⟨W1, hW1⟩ : ∃ W, w.alloc (.cells #[Value.int .i64 0, Value.int .i64 0, Value.int .i64 0, Value.int .i64 0, Value.slice none 0 0, Value.slice none 0 0, Value.slice none 0 0, Value.int .i64 0, Value.int .i64 0, Value.int .u8 0, Value.int .u8 0, Value.int .u8 0, Value.int .u8 0, Value.int .u8 0, Value.int .u8 0, Value.int .u8 0, Value.int .u8 0, Value.int .u8 0, Value.int .u8 0, Value.int .u8 0, Value.int .u8 0, Value.int .u8 0, Value.int .u8 0, Value.int .u8 0, Value.int .u8 0, Value.int .u8 0, Value.int .u8 0, Value.int .u8 0, Value.int .u8 0, Value.int .u8 0, Value.int .u8 0, Value.int .u8 0, Value.int .u8 0, Value.int .u8 0, Value.int .u8 0, Value.int .u8 0, Value.int .u8 0, Value.int .u8 0, Value.int .u8 0, Value.int .u8 0, Value.int .u8 0, Value.slice none 0 0] 37) = W := ⟨_, rfl⟩
  obtain ⟨q1, b1, s1⟩ := new_row hW1
  rw [← lt0_cells] at q1
  obtain ⟨g2, hg2⟩ : ∃ g, w.heap.size = g := ⟨_, rfl⟩
  rw [hg2] at q1
  have HQ1 := Lib.hid q1
  have HB1 := Lib.hid b1
  have HS1 : Hid (W1.heap.size = g2 + 1) := Lib.hid (by omega)
  have HG2 := Lib.hid hg2
  have HKB : Hid (KB = g2) := Lib.hid (by omega)
  have HIK := Lib.hid (hik.below b1)
  have HR1 := Lib.hid (hr1.below b1)
  have HIE : Hid (InV W1 (.agg #[.slice A2 (n - m) (c - m), .bool false]) (some end_)) := Lib.hid ⟨A2, n - m, c - m, rfl, by omega, by omega, by unfold maxLen; omega, hr2.below b1⟩
  have HIL := Lib.hid hil
  have HSUM := Lib.hid hsum
  have HINN := Lib.hid hinn
  have HEND := Lib.hid hend
  have hmc : n ≤ c := by omega
  have HM6 : Hid (m + 4 ≤ 65536) := Lib.hid (by omega)
  have HN4 : Hid (n - 4 = m) := Lib.hid (by omega)
  have hm4 : ¬ (n : Int) < 4 := by omega
  have hm7 : ¬ (65536 : Int) < (n : Int) := by omega
  have hmi : (m : Int) ≤ (c : Int) := by omega
  have hmj : (m : Int) ≤ (n : Int) := by omega
  have hcm : ¬ c = m := by omega
  clear hn e1 hinn hend hil hel hr1 hr2 hr q1 b1 s1 hsum hm h4 h6 hc hik hKB
  go_enter Try.func18, Try.ntmps18
  go_wp2_with fail
  rw [HN4.out, hA2]
  clear hg2 hW1 hA2 hcm
  refine (igetfour_any (some end_) _ W1 HIE.out).mono ?_
  rintro e w2 ⟨u, rfl, hu, hb2⟩
  obtain ⟨A3, n3, c3, b3, rfl, _, _⟩ := hu.form
  obtain ⟨W3, hW3⟩ : ∃ W, w2.alloc (.cells #[.slice A3 n3 c3, .bool b3] 86) = W := ⟨_, rfl⟩
  obtain ⟨r3, p3, s3⟩ := new_row hW3
  have HB13 := Lib.hid (ext_trans hb2 p3)
  have HB := Lib.hid (ext_trans HB1.out HB13.out)
  have HI := Lib.hid (HIK.out.below HB13.out)
  have hsm := rsum_any A inn c W3 (HR1.out.below HB13.out) (by have := HIL.out; have := HM6.out; unfold maxLen; omega)
  rw [HIL.out] at hsm
  have HSM := Lib.hid hsm
  have HQ3 := Lib.hid ((HB13.out.block g2 (Array.getElem?_eq_some_iff.1 HQ1.out).1).trans HQ1.out)
  clear hsm hu hb2 p3 s3 r3 HIE HIK HR1 HQ1
  go_wp2_with fail
  clear hW3
  refine HSM.out.mono ?_
  rintro e w4 ⟨rfl, rfl⟩
  clear HSM
  have hz : (((getFour (some end_)).1 : Int) != ((crc inn).toNat : Int)) = true := by rw [bne_iff_ne]; have := HSUM.out; omega
  obtain ⟨WE, hWE, HTE, HRE, HBE, _, _⟩ := let_write (q := p0) (m := lt0) HQ3.out rfl rfl HB.out HB.out.size (Nat.le_of_eq HG2.out)
  have HWE := Lib.hid hWE
  have HIE := Lib.hid (info_rleta lt0 p0 rfl)
  have HOE := Lib.hid (all_oneCell_toArray (lt0.cells_one p0))
  have HBE' : Hid (Below w.heap.size w WE) := HBE
  have HZB := Lib.hid rzero_built
  clear hWE
  go_wp2_with (first
    | ((with_reducible (refine wpList_built ?_ _ #[] ?_ _ ?_ _ HZB.out ?_)); (exact rfl); (exact rfl); (exact rfl))
    | ((with_reducible (refine wpList_store_mid rfl _ _ _ rfl ?_ ?_ ?_ ?_ ?_ ?_ ?_ ?_ ?_)); (exact g2); (exact 0); (exact (lt0.cells p0).toArray); (exact rfl); (exact rfl); (exact HTE.out); (exact HIE.out); (exact HOE.out); rw [HWE.out]))
  refine bodyPost_ret (results_row_tmp rfl _ _ _ _ _ _ _ rfl HRE.out Try.underlying37 rfl HIE.out) rfl ?_
  have hrf : readL bs = none := by
    unfold readL
    rw [if_neg HLEN.out, if_pos (by rw [HTK.out, HINN.out, HEND.out]; exact HSUM.out)]
  rw [hrf]
  exact rres_zero HBE'.out

set_option maxRecDepth 100000 in
set_option maxHeartbeats 4000000 in
theorem rread_len (A : Option Addr) (bs : List UInt8) (c : Nat) (w : World) (h : bs.length < 4 ∨ 65536 < bs.length) (hl : bs.length ≤ maxLen) :
    Calls Try.prog 18 #[.slice A bs.length c] w fun e w' => RROut w w' e (readL bs) := by
  unfold maxLen at hl
  have HRF : Hid (readL bs = none) := Lib.hid (by unfold readL; rw [if_pos h])
  obtain ⟨n, hn⟩ : ∃ n, bs.length = n := ⟨_, rfl⟩
  rw [hn] at h hl ⊢
  clear hn
  obtain ⟨W1, hW1⟩ : ∃ W, w.alloc (.cells #[Value.int .i64 0, Value.int .i64 0, Value.int .i64 0, Value.int .i64 0, Value.slice none 0 0, Value.slice none 0 0, Value.slice none 0 0, Value.int .i64 0, Value.int .i64 0, Value.int .u8 0, Value.int .u8 0, Value.int .u8 0, Value.int .u8 0, Value.int .u8 0, Value.int .u8 0, Value.int .u8 0, Value.int .u8 0, Value.int .u8 0, Value.int .u8 0, Value.int .u8 0, Value.int .u8 0, Value.int .u8 0, Value.int .u8 0, Value.int .u8 0, Value.int .u8 0, Value.int .u8 0, Value.int .u8 0, Value.int .u8 0, Value.int .u8 0, Value.int .u8 0, Value.int .u8 0, Value.int .u8 0, Value.int .u8 0, Value.int .u8 0, Value.int .u8 0, Value.int .u8 0, Value.int .u8 0, Value.int .u8 0, Value.int .u8 0, Value.int .u8 0, Value.int .u8 0, Value.slice none 0 0] 37) = W := ⟨_, rfl⟩
  obtain ⟨q1, b1, s1⟩ := new_row hW1
  rw [← lt0_cells] at q1
  obtain ⟨g2, hg2⟩ : ∃ g, w.heap.size = g := ⟨_, rfl⟩
  rw [hg2] at q1
  obtain ⟨WE, hWE, HTE, HRE, HBE, _, _⟩ := let_write (q := p0) (m := lt0) q1 rfl rfl b1 b1.size (Nat.le_of_eq hg2)
  have HWE := Lib.hid hWE
  have HIE := Lib.hid (info_rleta lt0 p0 rfl)
  have HOE := Lib.hid (all_oneCell_toArray (lt0.cells_one p0))
  have HBE' : Hid (Below w.heap.size w WE) := HBE
  have HZB := Lib.hid rzero_built
  clear hWE q1 b1 s1 HBE
  by_cases h4 : n < 4
  · have i1 : (n : Int) < 4 := by omega
    clear h
    go_enter Try.func18, Try.ntmps18
    go_wp2_with (first
      | ((with_reducible (refine wpList_built ?_ _ #[] ?_ _ ?_ _ HZB.out ?_)); (exact rfl); (exact rfl); (exact rfl))
      | ((with_reducible (refine wpList_store_mid rfl _ _ _ rfl ?_ ?_ ?_ ?_ ?_ ?_ ?_ ?_ ?_)); (exact g2); (exact 0); (exact (lt0.cells p0).toArray); (exact rfl); (exact rfl); (exact HTE.out); (exact HIE.out); (exact HOE.out); rw [HWE.out]))
    refine bodyPost_ret (results_row_tmp rfl _ _ _ _ _ _ _ rfl HRE.out Try.underlying37 rfl HIE.out) rfl ?_
    rw [HRF.out]
    exact rres_zero HBE'.out
  · have i1 : ¬ (n : Int) < 4 := by omega
    have i2 : (65536 : Int) < (n : Int) := by omega
    clear h
    go_enter Try.func18, Try.ntmps18
    go_wp2_with (first
      | ((with_reducible (refine wpList_built ?_ _ #[] ?_ _ ?_ _ HZB.out ?_)); (exact rfl); (exact rfl); (exact rfl))
      | ((with_reducible (refine wpList_store_mid rfl _ _ _ rfl ?_ ?_ ?_ ?_ ?_ ?_ ?_ ?_ ?_)); (exact g2); (exact 0); (exact (lt0.cells p0).toArray); (exact rfl); (exact rfl); (exact HTE.out); (exact HIE.out); (exact HOE.out); rw [HWE.out]))
    refine bodyPost_ret (results_row_tmp rfl _ _ _ _ _ _ _ rfl HRE.out Try.underlying37 rfl HIE.out) rfl ?_
    rw [HRF.out]
    exact rres_zero HBE'.out
theorem rread_any (A : Option Addr) (bs : List UInt8) (c : Nat) (w : World) (hr : Rd w A (b8s bs)) (hc : bs.length ≤ c) (hc2 : c ≤ maxLen) :
    Calls Try.prog 18 #[.slice A bs.length c] w fun e w' => RROut w w' e (readL bs) := by
  by_cases h : bs.length < 4 ∨ 65536 < bs.length
  · exact rread_len A bs c w h (Nat.le_trans hc hc2)
  · have h4 : ¬ bs.length < 4 := fun e => h (.inl e)
    have h6 : ¬ 65536 < bs.length := fun e => h (.inr e)
    by_cases hs : (getFour (some (bs.drop (bs.length - 4)))).1 = (crc (bs.take (bs.length - 4))).toNat
    · by_cases k2 : (getNum (some (bs.take (bs.length - 4))) 4).1 = 2
      · exact rread_2 A bs c w hr hc hc2 h4 h6 hs k2
      · by_cases k3 : (getNum (some (bs.take (bs.length - 4))) 4).1 = 3
        · exact rread_3 A bs c w hr hc hc2 h4 h6 hs k3
        · by_cases k4 : (getNum (some (bs.take (bs.length - 4))) 4).1 = 4
          · exact rread_4 A bs c w hr hc hc2 h4 h6 hs k4
          · exact rread_x A bs c w hr hc hc2 h4 h6 hs ⟨k2, k3, k4⟩
    · exact rread_sum A bs c w hr hc hc2 h4 h6 hs
end Go.Proofs.Ytfjfidhhmidflaa

/-! WireReads: the walk. -/

namespace Go.Proofs.Ytfjfidhhmidflaa

set_option linter.unusedVariables false

set_option linter.unusedSimpArgs false

open Go.RowKit

theorem right_lens {l : Lt} (h : rightL l = true) : l.refs.length ≤ 200 ∧ l.wants.length ≤ 200 ∧ l.haves.length ≤ 200 := by
  have h' := h
  rw [← rrL_right] at h'
  unfold rrL at h'
  rw [Bool.and_eq_true] at h'
  have hk := h'.2
  rcases right_kind h with e | e | e | e
  · rw [kindR_1 e] at hk; simp only [refs0, want0, Bool.and_eq_true, decide_eq_true_eq] at hk; omega
  · rw [kindR_2 e] at hk; simp only [refs0, want0, Bool.and_eq_true, decide_eq_true_eq] at hk; omega
  · rw [kindR_3 e] at hk; simp only [refs0, want0, Bool.and_eq_true, decide_eq_true_eq] at hk; omega
  · rw [kindR_4 e] at hk; simp only [refs0, want0, Bool.and_eq_true, decide_eq_true_eq] at hk; omega
theorem read_right {bs : List UInt8} {l : Lt} (h : readL bs = some l) : rightL l = true := by
  unfold readL at h
  split at h
  · cases h
  · split at h
    · cases h
    · dsimp only at h
      split at h
      · rename_i hc
        rw [Bool.and_eq_true] at hc
        cases h
        exact hc.2
      · cases h
theorem as_read {bs : List UInt8} {l : Lt} (h : readL bs = some l) (p : LtP) (w : World) (hin : LtIn w l p) : Calls Try.prog 11 #[l.val p] w fun e w' => AsOut w w' e l := by
  have hl := right_lens (read_right h)
  have hb : reachBytes = 140737488351232 := by decide
  exact as_any l p w hin (by omega) (by omega) (by omega)
section

variable {P : Program} {ops : Array Oper} {rest : List Oper} {o : Oper} {a : Act} {w : World} {Q : Exit → Act → World → Prop}

/-- built by an operation with a guard that lets it by -/
theorem wpList_built_w (hg : Region.wanted o (yielded ops a.tmps) = true) (t : TypeId) (parts : Array (Nat × Operand)) (ho : o.op = .build t parts) (ps : List (Nat × Value)) (hps : (parts.toList.map fun (i, x) => (i, a.eval x)) = ps) (cs : Array Value)
    (hf : P.built t ps = some cs) (h : wpList P ops Q rest (a.put o.dst (.agg cs)) w) : wpList P ops Q (o :: rest) a w := by
  have e : (parts.map fun (i, x) => (i, a.eval x)).toList = ps := by rw [Array.toList_map]; exact hps
  refine wpList_wanted hg fun K hK => wp_build t parts ho (by rw [e, hf]; rfl) ?_
  rw [e, hf]
  exact hK _ _ h
end

theorem lzero_built : Try.prog.built 28 [] = some (lt0.cells p0).toArray := by
  rw [lt0_cells]
  kernel_rfl
theorem sameL_zero : sameL lt0 lt0 = true := (sameL_iff lt0 lt0).2 rfl

set_option maxRecDepth 100000 in
set_option maxHeartbeats 4000000 in
theorem wireReads_big (A : Option Addr) (n c : Nat) (w : World) (h : 70000 < n) :
    Calls Try.prog 4 #[.slice A n c] w fun e w' => e = .returned (.bool true) ∧ Below w.heap.size w w' := by
  have i1 : (70000 : Int) < (n : Int) := by omega
  go_enter Try.func4, Try.ntmps4
  go_wp2_with fail
  refine (alive_any w).mono ?_
  rintro e w2 ⟨rfl, hb2⟩
  have HB2 := Lib.hid hb2
  clear hb2
  go_wp2_with fail
  go_ret
  exact ⟨rfl, HB2.out⟩

set_option maxRecDepth 100000 in
set_option maxHeartbeats 8000000 in
theorem wireReads_none (A : Option Addr) (bs : List UInt8) (c : Nat) (w : World) (hr : Rd w A (b8s bs)) (hc : bs.length ≤ c) (hc2 : c ≤ maxLen) (h : ¬ 70000 < bs.length) (hl : readL bs = none) :
    Calls Try.prog 4 #[.slice A bs.length c] w fun e w' => e = .returned (.bool true) ∧ Below w.heap.size w w' := by
  have i1 : ¬ (70000 : Int) < (bs.length : Int) := by omega
  have HC := Lib.hid hc
  have HC2 := Lib.hid hc2
  have HL := Lib.hid hl
  have HRA := Lib.hid hr
  clear hc hc2 hl hr h
  go_enter Try.func4, Try.ntmps4
  go_wp2_with fail
  refine (alive_any w).mono ?_
  rintro e w2 ⟨rfl, hb2⟩
  have HB2 := Lib.hid hb2
  have HRA2 := Lib.hid (HRA.out.below hb2)
  clear hb2
  go_wp2_with fail
  have HRD := Lib.hid (lread_any A bs c w2 HRA2.out HC.out (by have := HC2.out; unfold maxLen at this; omega))
  rw [HL.out] at HRD
  refine HRD.out.mono ?_
  rintro e w3 ⟨rfl, hb3⟩
  clear HRD
  obtain ⟨WX, hWX⟩ : ∃ W, w3.alloc (.cells #[Value.int .i64 0, Value.int .i64 0, Value.int .i64 0, Value.int .i64 0, Value.slice none 0 0, Value.slice none 0 0, Value.slice none 0 0, Value.int .i64 0, Value.int .i64 0, Value.int .u8 0, Value.int .u8 0, Value.int .u8 0, Value.int .u8 0, Value.int .u8 0, Value.int .u8 0, Value.int .u8 0, Value.int .u8 0, Value.int .u8 0, Value.int .u8 0, Value.int .u8 0, Value.int .u8 0, Value.int .u8 0, Value.int .u8 0, Value.int .u8 0, Value.int .u8 0, Value.int .u8 0, Value.int .u8 0, Value.int .u8 0, Value.int .u8 0, Value.int .u8 0, Value.int .u8 0, Value.int .u8 0, Value.int .u8 0, Value.int .u8 0, Value.int .u8 0, Value.int .u8 0, Value.int .u8 0, Value.int .u8 0, Value.int .u8 0, Value.int .u8 0, Value.int .u8 0, Value.slice none 0 0] 28) = W := ⟨_, rfl⟩
  obtain ⟨qx, bx, sx⟩ := new_row hWX
  rw [← lt0_cells] at qx
  obtain ⟨gx, hgx⟩ : ∃ g, w3.heap.size = g := ⟨_, rfl⟩
  rw [hgx] at qx
  obtain ⟨WY, hWY, HTHx, HRx, HBx, _, _⟩ := let_write (q := p0) (m := lt0) qx rfl rfl bx bx.size (Nat.le_of_eq hgx)
  have HWY := Lib.hid hWY
  have HILx := Lib.hid (info_leta lt0 p0 rfl)
  have HOLx := Lib.hid (all_oneCell_toArray (lt0.cells_one p0))
  have HBY : Hid (Below w3.heap.size w3 WY) := HBx
  have HB4 := Lib.hid (ext_trans HB2.out (ext_trans hb3 HBY.out))
  have HRA4 := Lib.hid ((HRA2.out.below hb3).below HBY.out)
  clear qx bx sx hWY hb3
  unfold Lt.val
  go_wp2_with ((with_reducible (refine wpList_store_mid rfl _ _ _ rfl ?_ ?_ ?_ ?_ ?_ ?_ ?_ ?_ ?_)); (exact gx); (exact 0); (exact (lt0.cells p0).toArray); (exact rfl); (exact rfl); (exact HTHx.out); (exact HILx.out); (exact HOLx.out); rw [HWY.out])
  clear hWX hgx
  have HRD := Lib.hid (rread_any A bs c WY HRA4.out HC.out HC2.out)
  rw [HL.out] at HRD
  refine HRD.out.mono ?_
  rintro e w5 ⟨rfl, hb5⟩
  clear HRD
  obtain ⟨WZ, hWZ⟩ : ∃ W, w5.alloc (.cells #[Value.int .i64 0, Value.int .i64 0, Value.int .i64 0, Value.int .i64 0, Value.slice none 0 0, Value.slice none 0 0, Value.slice none 0 0, Value.int .i64 0, Value.int .i64 0, Value.int .u8 0, Value.int .u8 0, Value.int .u8 0, Value.int .u8 0, Value.int .u8 0, Value.int .u8 0, Value.int .u8 0, Value.int .u8 0, Value.int .u8 0, Value.int .u8 0, Value.int .u8 0, Value.int .u8 0, Value.int .u8 0, Value.int .u8 0, Value.int .u8 0, Value.int .u8 0, Value.int .u8 0, Value.int .u8 0, Value.int .u8 0, Value.int .u8 0, Value.int .u8 0, Value.int .u8 0, Value.int .u8 0, Value.int .u8 0, Value.int .u8 0, Value.int .u8 0, Value.int .u8 0, Value.int .u8 0, Value.int .u8 0, Value.int .u8 0, Value.int .u8 0, Value.int .u8 0, Value.slice none 0 0] 37) = W := ⟨_, rfl⟩
  obtain ⟨qz, bz, sz⟩ := new_row hWZ
  rw [← lt0_cells] at qz
  obtain ⟨gz, hgz⟩ : ∃ g, w5.heap.size = g := ⟨_, rfl⟩
  rw [hgz] at qz
  obtain ⟨WV, hWV, HTHz, HRz, HBz, _, _⟩ := let_write (q := p0) (m := lt0) qz rfl rfl bz bz.size (Nat.le_of_eq hgz)
  have HWV := Lib.hid hWV
  have HILz := Lib.hid (info_rleta lt0 p0 rfl)
  have HBV : Hid (Below w5.heap.size w5 WV) := HBz
  have hbyv := ext_trans hb5 HBV.out
  have HB6 := Lib.hid (ext_trans HB4.out hbyv)
  have HRx6 := Lib.hid ((hbyv.block _ (Array.getElem?_eq_some_iff.1 HRx.out).1).trans HRx.out)
  have HZB := Lib.hid lzero_built
  have HLZ : Hid (LtIn WV lt0 p0) := Lib.hid (LI.start WV 0 0 0 0 0 0 0 0 0).in_
  clear qz bz sz hWV hb5 hbyv
  unfold Lt.val
  go_wp2_with (first
    | ((with_reducible (refine wpList_store_mid rfl _ _ _ rfl ?_ ?_ ?_ ?_ ?_ ?_ ?_ ?_ ?_)); (exact gz); (exact 0); (exact (lt0.cells p0).toArray); (exact rfl); (exact rfl); (exact HTHz.out); (exact HILz.out); (exact HOLx.out); rw [HWV.out])
    | ((with_reducible (refine wpList_load_row_w _ _ rfl _ rfl _ _ _ _ HRx6.out Try.underlying28 rfl HILx.out ?_ ?_)); (focus (rfl)))
    | ((with_reducible (refine wpList_built_w ?_ _ #[] ?_ _ ?_ _ HZB.out ?_)); (focus (rfl)); (exact rfl); (exact rfl)))
  clear hWZ hgz
  refine (lsame_any lt0 lt0 p0 p0 WV HLZ.out HLZ.out).mono ?_
  rintro e w7 ⟨rfl, hb7⟩
  rw [sameL_zero]
  go_wp2_with fail
  go_ret
  exact ⟨rfl, ext_trans HB6.out hb7⟩

set_option maxRecDepth 100000 in
set_option maxHeartbeats 8000000 in
theorem wireReads_some (A : Option Addr) (bs : List UInt8) (c : Nat) (w : World) (hr : Rd w A (b8s bs)) (hc : bs.length ≤ c) (hc2 : c ≤ maxLen) (h : ¬ 70000 < bs.length) (l : Lt) (hl : readL bs = some l) :
    Calls Try.prog 4 #[.slice A bs.length c] w fun e w' => e = .returned (.bool true) ∧ Below w.heap.size w w' := by
  have i1 : ¬ (70000 : Int) < (bs.length : Int) := by omega
  have HC := Lib.hid hc
  have HC2 := Lib.hid hc2
  have HL := Lib.hid hl
  have HRA := Lib.hid hr
  clear hc hc2 hl hr h
  go_enter Try.func4, Try.ntmps4
  go_wp2_with fail
  refine (alive_any w).mono ?_
  rintro e w2 ⟨rfl, hb2⟩
  have HB2 := Lib.hid hb2
  have HRA2 := Lib.hid (HRA.out.below hb2)
  clear hb2
  go_wp2_with fail
  have HRD := Lib.hid (lread_any A bs c w2 HRA2.out HC.out (by have := HC2.out; unfold maxLen at this; omega))
  rw [HL.out] at HRD
  refine HRD.out.mono ?_
  rintro e w3 ⟨p, rfl, hin3, hb3⟩
  clear HRD
  obtain ⟨WX, hWX⟩ : ∃ W, w3.alloc (.cells #[Value.int .i64 0, Value.int .i64 0, Value.int .i64 0, Value.int .i64 0, Value.slice none 0 0, Value.slice none 0 0, Value.slice none 0 0, Value.int .i64 0, Value.int .i64 0, Value.int .u8 0, Value.int .u8 0, Value.int .u8 0, Value.int .u8 0, Value.int .u8 0, Value.int .u8 0, Value.int .u8 0, Value.int .u8 0, Value.int .u8 0, Value.int .u8 0, Value.int .u8 0, Value.int .u8 0, Value.int .u8 0, Value.int .u8 0, Value.int .u8 0, Value.int .u8 0, Value.int .u8 0, Value.int .u8 0, Value.int .u8 0, Value.int .u8 0, Value.int .u8 0, Value.int .u8 0, Value.int .u8 0, Value.int .u8 0, Value.int .u8 0, Value.int .u8 0, Value.int .u8 0, Value.int .u8 0, Value.int .u8 0, Value.int .u8 0, Value.int .u8 0, Value.int .u8 0, Value.slice none 0 0] 28) = W := ⟨_, rfl⟩
  obtain ⟨qx, bx, sx⟩ := new_row hWX
  rw [← lt0_cells] at qx
  obtain ⟨gx, hgx⟩ : ∃ g, w3.heap.size = g := ⟨_, rfl⟩
  rw [hgx] at qx
  obtain ⟨WY, hWY, HTHx, HRx, HBx, _, _⟩ := let_write (q := p) (m := l) qx rfl hin3.len bx bx.size (Nat.le_of_eq hgx)
  have HWY := Lib.hid hWY
  have HILx := Lib.hid (info_leta l p hin3.len)
  have HILXX := Lib.hid (info_let l p hin3.len)
  have HOLx := Lib.hid (all_oneCell_toArray (l.cells_one p))
  have HBY : Hid (Below w3.heap.size w3 WY) := HBx
  have HB4 := Lib.hid (ext_trans HB2.out (ext_trans hb3 HBY.out))
  have HRA4 := Lib.hid ((HRA2.out.below hb3).below HBY.out)
  have HIN4 := Lib.hid (hin3.below HBY.out)
  clear qx bx sx hWY hb3 hin3
  unfold Lt.val
  go_wp2_with ((with_reducible (refine wpList_store_mid rfl _ _ _ rfl ?_ ?_ ?_ ?_ ?_ ?_ ?_ ?_ ?_)); (exact gx); (exact 0); (exact (l.cells p).toArray); (exact rfl); (exact rfl); (exact HTHx.out); (exact HILx.out); (exact HOLx.out); rw [HWY.out])
  clear hWX hgx
  have HRD := Lib.hid (rread_any A bs c WY HRA4.out HC.out HC2.out)
  rw [HL.out] at HRD
  refine HRD.out.mono ?_
  rintro e w5 ⟨q, rfl, hin5, hb5⟩
  clear HRD
  obtain ⟨WZ, hWZ⟩ : ∃ W, w5.alloc (.cells #[Value.int .i64 0, Value.int .i64 0, Value.int .i64 0, Value.int .i64 0, Value.slice none 0 0, Value.slice none 0 0, Value.slice none 0 0, Value.int .i64 0, Value.int .i64 0, Value.int .u8 0, Value.int .u8 0, Value.int .u8 0, Value.int .u8 0, Value.int .u8 0, Value.int .u8 0, Value.int .u8 0, Value.int .u8 0, Value.int .u8 0, Value.int .u8 0, Value.int .u8 0, Value.int .u8 0, Value.int .u8 0, Value.int .u8 0, Value.int .u8 0, Value.int .u8 0, Value.int .u8 0, Value.int .u8 0, Value.int .u8 0, Value.int .u8 0, Value.int .u8 0, Value.int .u8 0, Value.int .u8 0, Value.int .u8 0, Value.int .u8 0, Value.int .u8 0, Value.int .u8 0, Value.int .u8 0, Value.int .u8 0, Value.int .u8 0, Value.int .u8 0, Value.int .u8 0, Value.slice none 0 0] 37) = W := ⟨_, rfl⟩
  obtain ⟨qz, bz, sz⟩ := new_row hWZ
  rw [← lt0_cells] at qz
  obtain ⟨gz, hgz⟩ : ∃ g, w5.heap.size = g := ⟨_, rfl⟩
  rw [hgz] at qz
  obtain ⟨WV, hWV, HTHz, HRz, HBz, _, _⟩ := let_write (q := q) (m := l) qz rfl hin5.len bz bz.size (Nat.le_of_eq hgz)
  have HWV := Lib.hid hWV
  have HILz := Lib.hid (info_rleta l q hin5.len)
  have HILZZ : Hid ((Try.prog.info? 37).map (·.size) = some (l.cells q).length) := Lib.hid (by have := HILz.out; rwa [List.size_toArray] at this)
  have HOLz := Lib.hid (all_oneCell_toArray (l.cells_one q))
  have HBV : Hid (Below w5.heap.size w5 WV) := HBz
  have hbyv := ext_trans hb5 HBV.out
  have HB6 := Lib.hid (ext_trans HB4.out hbyv)
  have HRx6 := Lib.hid ((hbyv.block _ (Array.getElem?_eq_some_iff.1 HRx.out).1).trans HRx.out)
  have HIN6 := Lib.hid (HIN4.out.below hbyv)
  have HINz := Lib.hid (hin5.below HBV.out)
  clear qz bz sz hWV hb5 hbyv hin5
  unfold Lt.val
  go_wp2_with ((with_reducible (refine wpList_store_mid rfl _ _ _ rfl ?_ ?_ ?_ ?_ ?_ ?_ ?_ ?_ ?_)); (exact gz); (exact 0); (exact (l.cells q).toArray); (exact rfl); (exact rfl); (exact HTHz.out); (exact HILz.out); (exact HOLz.out); rw [HWV.out])
  clear hWZ hgz
  have HFX : Hid (∀ W, Below WV.heap.size WV W → W.heap[gx]? = some (.cells (l.cells p).toArray 28 (0, 0))) := Lib.hid (fun W h => (h.block _ (Array.getElem?_eq_some_iff.1 HRx6.out).1).trans HRx6.out)
  have HFZ : Hid (∀ W, Below WV.heap.size WV W → W.heap[gz]? = some (.cells (l.cells q).toArray 37 (0, 0))) := Lib.hid (fun W h => (h.block _ (Array.getElem?_eq_some_iff.1 HRz.out).1).trans HRz.out)
  refine wp_region_sched (fun w' => Below WV.heap.size WV w') [(true, 0), (true, 1), (true, 2), (true, 3), (true, 5), (false, 4), (false, 6), (true, 7), (true, 8)] (by kernel_rfl) (by kernel_rfl) rfl (by kernel_rfl) (Below.refl _ _).drew ?_
  (repeat (first | (refine wpS_pass _ rfl (by rfl) ?_; simp only [Act.put, List.getElem_toArray, List.getElem_cons_zero, List.getElem_cons_succ, List.setIfInBounds_toArray, List.set_cons_zero, List.set_cons_succ]) | (refine wpS_take _ ?_ rfl (by rfl) ?_ ?_; rotate_left; (focus (intro w' hS'; (try dsimp only at hS'); (repeat (have hS1 := hS'.1; replace hS' := hS'.2)); go_simp; (try with_reducible rfl); done)); simp only [Act.put, List.getElem_toArray, List.getElem_cons_zero, List.getElem_cons_succ, List.setIfInBounds_toArray, List.set_cons_zero, List.set_cons_succ])))
  refine wpS_load _ rfl (by rfl) _ _ rfl _ _ rfl (l.cells p) _ (fun w' hS' => range_of_row (HFX.out w' hS')) Try.underlying28 rfl HILXX.out ?_
  simp only [Act.put, List.getElem_toArray, List.getElem_cons_zero, List.getElem_cons_succ, List.setIfInBounds_toArray, List.set_cons_zero, List.set_cons_succ]
  refine wpS_load _ rfl (by rfl) _ _ rfl _ _ rfl (l.cells q) _ (fun w' hS' => range_of_row (HFZ.out w' hS')) Try.underlying37 rfl HILZZ.out ?_
  simp only [Act.put, List.getElem_toArray, List.getElem_cons_zero, List.getElem_cons_succ, List.setIfInBounds_toArray, List.set_cons_zero, List.set_cons_succ]
  refine wpS_do _ rfl (by rfl) (fun K hK => ?_)
  go_simp
  refine (as_read HL.out p WV.drew (HIN6.out.below (Below.refl _ _).drew)).mono ?_
  rintro e w7 ⟨q7, rfl, hin7, hb7⟩
  have HB7 := Lib.hid (ext_trans (Below.refl WV.heap.size WV).drew hb7)
  have HI7 := Lib.hid hin7
  have HIQ := Lib.hid (HINz.out.below HB7.out)
  clear hb7 hin7
  refine hK.out _ _ HB7.out (fun hS => ?_)
  clear hK hS
  refine wpS_do _ rfl (by rfl) (fun K hK => ?_)
  go_simp
  refine (rlsame_any l l q7 q w7 HI7.out HIQ.out).mono ?_
  rintro e w8 ⟨rfl, hb8⟩
  rw [show sameL l l = true from (sameL_iff l l).2 rfl]
  have HB8 := Lib.hid (ext_trans HB7.out hb8)
  clear hb8
  refine hK.out _ _ HB8.out (fun hS => ?_)
  clear hK hS
  (repeat (first | (refine wpS_pass _ rfl (by rfl) ?_; simp only [Act.put, List.getElem_toArray, List.getElem_cons_zero, List.getElem_cons_succ, List.setIfInBounds_toArray, List.set_cons_zero, List.set_cons_succ]) | (refine wpS_take _ ?_ rfl (by rfl) ?_ ?_; rotate_left; (focus (intro w' hS'; (try dsimp only at hS'); (repeat (have hS1 := hS'.1; replace hS' := hS'.2)); go_simp; (try with_reducible rfl); done)); simp only [Act.put, List.getElem_toArray, List.getElem_cons_zero, List.getElem_cons_succ, List.setIfInBounds_toArray, List.set_cons_zero, List.set_cons_succ])))
  refine wpS_done ?_
  go_wp2_with fail
  go_ret
  exact ⟨rfl, ext_trans HB6.out HB8.out⟩
theorem wireReads_any (A : Option Addr) (bs : List UInt8) (c : Nat) (w : World) (hr : Rd w A (b8s bs)) (hc : bs.length ≤ c) (hc2 : c ≤ maxLen) :
    Calls Try.prog 4 #[.slice A bs.length c] w fun e w' => e = .returned (.bool true) ∧ Below w.heap.size w w' := by
  by_cases h : 70000 < bs.length
  · exact wireReads_big A bs.length c w h
  · cases hl : readL bs with
    | none => exact wireReads_none A bs c w hr hc hc2 h hl
    | some l => exact wireReads_some A bs c w hr hc hc2 h l hl
end Go.Proofs.Ytfjfidhhmidflaa

/-! WireReads: for every input the law returns true, and what came in reads as it did. -/

namespace Go.Proofs.Ytfjfidhhmidflaa

open Go.ChangeShapes Go.WideShapes Go.ChangeAt Go.RowKit

open Go.ChangeMaps (open_string shut_string)

set_option linter.unusedVariables false

set_option maxRecDepth 100000 in
theorem wireReads_owed (H : Type) (enc : TypeId × Value → H) : WalkOwed H enc 4 Try.f4 (fun _ => True) := by
  intro W base args ds ps hval hA hre _
  rw [Try.params4] at hA hval hre
  obtain ⟨v0, vs0, d0, ds0, p0, q0, hargs, rfl, rfl, h0, r0⟩ := trodAll_cons hA
  obtain ⟨rfl, rfl, rfl⟩ := trodAll_nil r0
  obtain rfl : args = #[v0] := by cases args; simp_all
  obtain ⟨A0, c0, b, rfl, l0, m0, rd0, nn0, dd0⟩ := open_bytes_rd Try.underlying26 Try.underlying5 (by kernel_rfl) (hval 0 26 v0 rfl rfl) h0
  exact wireReads_any A0 b c0 W rd0 l0 m0

set_option maxRecDepth 100000 in
theorem wireReads_over : Rows.wireReadsRow.holds Try.pinned (OpenSpec.ofChange Rows.wireReadsSpec) :=
  OpenClaim.holds_of_wide 4 Try.f4 rfl rfl rfl rfl rfl rfl rfl ⟨rfl, rfl, rfl, rfl, rfl⟩ rfl rfl rfl rfl rfl (by kernel_rfl) Try.func4 (by kernel_rfl)
    (of_decide_eq_true (by kernel_rfl)) (by unfold Func.isWrapper; first | (rw [if_pos (by decide +kernel)]; kernel_rfl) | (rw [if_neg (by decide +kernel)]; exact ⟨rfl, rfl⟩))
    (fun os started H enc _ => law_lifted (f := 4) (fn := Try.f4) (s := Rows.wireReadsSpec) (bt := 4) started (by kernel_rfl) Try.func4
      (ChangeSpec.witness6 (enc := enc) (C := Try.checked) false ⟨#[], #[.slice none 0 0], []⟩ 8 (by kernel_rfl) (by kernel_rfl) (by kernel_rfl) (by kernel_rfl))
      rfl Try.underlying4 rfl (by rw [Try.params4]; intro t ht; simp at ht; subst ht; exact ⟨by kernel_rfl, of_decide_eq_true (by kernel_rfl)⟩)
      (by intro ds hd; match ds, hd with | [d0], _ => rfl) (wireReads_owed H enc))

/-- the statement -/
theorem wireReads_holds : Rows.WireReadsSaid := wireReads_over
end Go.Proofs.Ytfjfidhhmidflaa
