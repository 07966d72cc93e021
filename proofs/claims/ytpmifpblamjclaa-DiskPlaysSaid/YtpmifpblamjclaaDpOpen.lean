
/- The steps of DiskPlays that came in. -/

import Derived.Test.YtpmifpblamjclaaPartsOpen

import Derived.SizedLaws

namespace Go.Proofs.Ytpmifpblamjclaa

set_option maxRecDepth 100000

set_option linter.unusedVariables false

open Go.ChangeShapes Go.WideShapes Go.ChangeAt Go.RowKit

/-- a step that came in -/
structure OpP where
  k : Int
  S : ByteArray
  Z : ByteArray
  n : Int
  Ab : Option Addr
  cb : Nat
  bs : List UInt8
  Ak : Option Addr
  ck : Nat
  ks : List Int
def opC (o : OpP) : List Value := [.int .i64 o.k, .string o.S, .string o.Z, .int .i64 o.n, .slice o.Ab o.bs.length o.cb, .slice o.Ak o.ks.length o.ck]
structure OpP.ok (w : World) (o : OpP) : Prop where
  n : -9223372036854775808 ≤ o.n ∧ o.n ≤ 9223372036854775807
  S : o.S.size ≤ maxLen
  Z : o.Z.size ≤ maxLen
  rb : Rd w o.Ab (b8s o.bs)
  lb : o.bs.length ≤ 140737488355328
  rk : Rd w o.Ak (o.ks.map (Value.int .i64))
  lk : o.ks.length ≤ o.ck ∧ o.ck ≤ 9223372036854775807

section

variable {H : Type} {enc : TypeId × Value → H} {w : World}

theorem slice_reach' {t e : TypeId} {n0 n c : Nat} {A : Option Addr} {x : DataW H × List MemPlace} (hu : Try.prog.underlying t = some (.slice e)) (h : DataW.trod enc Try.prog w 0 (fun _ => true) true n0 t [.slice A n c] = some x)
    (hw : ∀ k ∈ x.1.weights Try.prog t, k ≤ reachBytes) : n * Try.prog.bytesOf e ≤ reachBytes := by
  rcases Go.Deep.open_slice hu h with ⟨hcs, _⟩ | ⟨a, len, cap, m, n', D, Pl, hcs, _, hle, hm, hmm, hx, hel⟩
  · cases hcs; rw [Nat.zero_mul]; exact Nat.zero_le _
  · cases hcs
    have h1 := hw ((((List.range n).map D).length + ((List.range (m - n)).map fun j => D (n + j)).length) * Try.prog.bytesOf e) (by rw [hx]; simp [DataW.weights, hu])
    simp only [List.length_map, List.length_range] at h1
    exact Nat.le_trans (Nat.mul_le_mul_right _ (by omega)) h1
theorem weights_all {P : Program} {e : TypeId} {l : List (DataW H)} {d : DataW H} (h : d ∈ l) : ∀ k ∈ d.weights P e, k ∈ DataW.weightsAll P e l := by
  induction l with
  | nil => cases h
  | cons x r ih =>
    intro k hk
    simp only [DataW.weightsAll, List.mem_append]
    rcases List.mem_cons.1 h with rfl | h
    · exact .inl hk
    · exact .inr (ih h k hk)
theorem trod_i64 {fuel : Nat} {cs : List Value} {x : DataW H × List MemPlace} (h : DataW.trod enc Try.prog w 0 (fun _ => true) true fuel 3 cs = some x) : ∃ z : Int, cs = [.int .i64 z] ∧ -9223372036854775808 ≤ z ∧ z ≤ 9223372036854775807 := by
  obtain ⟨z, g, _, hw⟩ := DataW.trod_int Try.underlying3 h
  refine ⟨z, g, ?_⟩
  simpa [Lit.wf, IntKind.min, IntKind.max, IntKind.signed, IntKind.bits] using hw
/-- a slice of integers in a step -/
theorem open_keep {n : Nat} {cs : List Value} {x : DataW H × List MemPlace} (h : DataW.trod enc Try.prog w 0 (fun _ => true) true n 39 cs = some x) :
    ∃ (A : Option Addr) (c : Nat) (ks : List Int), cs = [.slice A ks.length c] ∧ Rd w A (ks.map (Value.int .i64)) ∧ ks.length ≤ c ∧ c ≤ 9223372036854775807 := by
  have z : Try.prog.cellsOf 3 = 1 := by kernel_rfl
  rcases Go.Deep.open_slice Try.underlying39 h with ⟨hcs, _⟩ | ⟨a, len, cap, m, n', D, Pl, hcs, _, hle, hm, hmm, _, hel⟩
  · exact ⟨none, 0, [], hcs, Rd.nil, Nat.le_refl _, by decide⟩
  · rw [z] at hel
    have hlm : len ≤ m := by rw [hmm]; split <;> omega
    obtain ⟨os, hos, hall⟩ := lst_of_all (p := fun i (s : Int) => w.cells? 0 (a.add (i * 1)) 1 = some [.int .i64 s]) len (fun i hi => by
      obtain ⟨cs', h1, h2⟩ := hel i (by omega)
      obtain ⟨s, hs, _⟩ := trod_i64 h2
      exact ⟨s, by rw [h1, hs]⟩)
    have hrd := rd_of_rows (f := fun c : Int => [Value.int .i64 c]) (m := 1) (w := w) (a := a) (os := os) (by decide) (fun x hx => rfl) (fun i hi => hall i hi)
    have e : os.flatMap (fun c : Int => [Value.int .i64 c]) = os.map (Value.int .i64) := by
      clear hos hall hrd
      induction os with
      | nil => rfl
      | cons x os ih => rw [List.flatMap_cons, ih]; rfl
    rw [e] at hrd
    exact ⟨some a, cap, os, by rw [hos]; exact hcs, hrd, by omega, by unfold maxLen at hm; omega⟩

/-- a step that came in -/
theorem open_opP {n : Nat} {cs : List Value} {x : DataW H × List MemPlace} (h : DataW.trod enc Try.prog w 0 (fun _ => true) true n 53 cs = some x) (hw : ∀ k ∈ x.1.weights Try.prog 53, k ≤ reachBytes) (hlen : cs.length = 6) :
    ∃ o : OpP, cs = opC o ∧ o.ok w := by
  obtain ⟨a, b, c, d, e, f, rfl⟩ : ∃ a b c d e f, cs = [a, b, c, d, e, f] := by
    match cs, hlen with
    | [a, b, c, d, e, f], _ => exact ⟨a, b, c, d, e, f, rfl⟩
  obtain ⟨xs, n', _, hx, hl, hxl, hfs⟩ := DataW.trod_struct Try.underlying53 h
  have z1 : Try.prog.cellsOf 3 = 1 := by kernel_rfl
  have z3 : Try.prog.cellsOf 9 = 1 := by kernel_rfl
  have z5 : Try.prog.cellsOf 27 = 1 := by kernel_rfl
  have z6 : Try.prog.cellsOf 39 = 1 := by kernel_rfl
  have hxl6 : xs.length = 6 := hxl
  have f0 : DataW.trod enc Try.prog w 0 (fun _ => true) true n' 3 (([a, b, c, d, e, f].drop 0).take (Try.prog.cellsOf 3)) = xs[0]? := hfs 0 _ rfl
  have f1 : DataW.trod enc Try.prog w 0 (fun _ => true) true n' 9 (([a, b, c, d, e, f].drop 1).take (Try.prog.cellsOf 9)) = xs[1]? := hfs 1 _ rfl
  have f2 : DataW.trod enc Try.prog w 0 (fun _ => true) true n' 9 (([a, b, c, d, e, f].drop 2).take (Try.prog.cellsOf 9)) = xs[2]? := hfs 2 _ rfl
  have f3 : DataW.trod enc Try.prog w 0 (fun _ => true) true n' 3 (([a, b, c, d, e, f].drop 3).take (Try.prog.cellsOf 3)) = xs[3]? := hfs 3 _ rfl
  have f4 : DataW.trod enc Try.prog w 0 (fun _ => true) true n' 27 (([a, b, c, d, e, f].drop 4).take (Try.prog.cellsOf 27)) = xs[4]? := hfs 4 _ rfl
  have f5 : DataW.trod enc Try.prog w 0 (fun _ => true) true n' 39 (([a, b, c, d, e, f].drop 5).take (Try.prog.cellsOf 39)) = xs[5]? := hfs 5 _ rfl
  rw [List.getElem?_eq_getElem (by omega)] at f0 f1 f2 f3 f4 f5
  rw [z1] at f0 f3
  rw [z3] at f1 f2
  rw [z5] at f4
  rw [z6] at f5
  obtain ⟨k, g0, _⟩ := trod_i64 f0
  obtain ⟨S, g1, _, hS⟩ := DataW.trod_string Try.underlying9 f1
  obtain ⟨Z, g2, _, hZ⟩ := DataW.trod_string Try.underlying9 f2
  obtain ⟨nn, g3, hn1, hn2⟩ := trod_i64 f3
  obtain ⟨Ab, cb, bs, g4, rb, _, _⟩ := open_dat f4
  obtain ⟨Ak, ck, ks, g5, rk, lk⟩ := open_keep f5
  have hd : x.1 = .agg (xs.map (·.1)) := congrArg Prod.fst hx
  have hW4 : ∀ k ∈ (xs[4]'(by omega)).1.weights Try.prog 27, k ≤ reachBytes := by
    intro k hk
    refine hw k ?_
    rw [hd]
    simp only [DataW.weights, Try.underlying53]
    exact DataW.weights_mem_each (j := 4) rfl (by rw [List.getElem?_map, List.getElem?_eq_getElem (by omega)]; rfl) k hk
  rw [g4] at f4
  have r4 := slice_reach' Try.underlying27 f4 hW4
  have b1 : Try.prog.bytesOf 5 = 1 := by kernel_rfl
  have hre : reachBytes = 140737488351232 := by decide
  rw [b1, hre] at r4
  have r4' : bs.length ≤ 140737488355328 := by omega
  refine ⟨⟨k, S, Z, nn, Ab, cb, bs, Ak, ck, ks⟩, ?_, ⟨hn1, hn2⟩, hS, hZ, rb, r4', rk, lk⟩
  simp only [List.drop_zero, List.drop_succ_cons, List.take_succ_cons, List.take_zero, List.cons.injEq, and_true] at g0 g1 g2 g3 g4 g5
  rw [g0, g1, g2, g3, g4, g5]
  rfl

/-- a slice of steps that came in -/
theorem open_ops {v : Value} {d : DataW H} {p : List MemPlace} {b0 : Nat} {r : Reach} (hok : Value.okWide Try.prog w r b0 45 v) (h : DataW.Trod enc Try.prog w 0 (fun _ => true) true 45 v d p) (hw : ∀ k ∈ d.weights Try.prog 45, k ≤ reachBytes) :
    ∃ (A : Option Addr) (c : Nat) (os : List OpP), v = .slice A os.length c ∧ os.length ≤ 9223372036854775807 ∧ Rd w A (os.flatMap opC) ∧ ∀ o ∈ os, o.ok w := by
  obtain ⟨A, len, cap, rfl⟩ := okWide_slice Try.underlying45 hok
  obtain ⟨fuel, hf⟩ := h
  have z : Try.prog.cellsOf 53 = 6 := by kernel_rfl
  rcases Go.Deep.open_slice Try.underlying45 hf with ⟨hcs, _⟩ | ⟨a, len', cap', m, n', D, Pl, hcs, _, hle, hm, hmm, hx, hel⟩
  · simp [Value.cells] at hcs
    obtain ⟨rfl, rfl, rfl⟩ := hcs
    exact ⟨none, 0, [], rfl, by simp, Rd.nil, by simp⟩
  · simp [Value.cells] at hcs
    obtain ⟨rfl, rfl, rfl⟩ := hcs
    rw [z] at hel
    have hlm : len ≤ m := by rw [hmm]; split <;> omega
    have hd : d = .slice ((List.range len).map D) ((List.range (m - len)).map fun j => D (len + j)) := congrArg Prod.fst hx
    obtain ⟨os, hos, hall⟩ := lst_of_all (p := fun i (o : OpP) => w.cells? 0 (a.add (i * 6)) 6 = some (opC o) ∧ o.ok w) len (fun i hi => by
      obtain ⟨cs', h1, h2⟩ := hel i (by omega)
      obtain ⟨o, h3, h4⟩ := open_opP h2 (fun k hk => hw k (by
        rw [hd]
        simp only [DataW.weights, Try.underlying45, List.mem_cons, List.mem_append]
        exact .inr (.inl (weights_all (List.mem_map.2 ⟨i, List.mem_range.2 hi, rfl⟩) k hk)))) (World.cells?_some h1).2.1
      exact ⟨o, by rw [h1, h3], h4⟩)
    have hrd := rd_of_rows (f := opC) (m := 6) (w := w) (a := a) (os := os) (by decide) (fun x hx => rfl) (fun i hi => (hall i hi).1)
    refine ⟨some a, cap, os, by rw [hos], by unfold maxLen at hm; omega, hrd, fun o ho => ?_⟩
    obtain ⟨i, hi, rfl⟩ := List.getElem_of_mem ho
    exact (hall i hi).2
end

end Go.Proofs.Ytpmifpblamjclaa
