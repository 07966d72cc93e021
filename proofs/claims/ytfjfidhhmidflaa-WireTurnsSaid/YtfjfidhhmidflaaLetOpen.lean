
/- A letter that came in. -/

import Derived.Test.YtfjfidhhmidflaaOpen

import Derived.Test.YtfjfidhhmidflaaLet1

import Derived.Deep.Slices

namespace Go.Proofs.Ytfjfidhhmidflaa

set_option maxRecDepth 100000

set_option linter.unusedVariables false

open Go.ChangeShapes Go.WideShapes Go.ChangeAt Go.RowKit

theorem lst_of_all {α : Type} {p : Nat → α → Prop} : ∀ (n : Nat), (∀ i, i < n → ∃ s, p i s) → ∃ os : List α, os.length = n ∧ ∀ i (h : i < os.length), p i os[i]
  | 0, _ => ⟨[], rfl, fun i h => by simp at h⟩
  | n + 1, h => by
    obtain ⟨os, hl, hos⟩ := lst_of_all n (fun i hi => h i (by omega))
    obtain ⟨s, hs⟩ := h n (by omega)
    refine ⟨os ++ [s], by simp [hl], fun i hi => ?_⟩
    by_cases hlt : i < os.length
    · rw [List.getElem_append_left hlt]; exact hos i hlt
    · have : i = os.length := by simp at hi; omega
      subst this
      simp
      rw [hl]
      exact hs
theorem cut_at {cs : List Value} (a n : Nat) : cs.drop a = (cs.drop a).take n ++ cs.drop (a + n) := by
  rw [← List.drop_drop, List.take_append_drop]
/-- rows that lie one behind the other are read as their cells -/
theorem rd_of_rows {α : Type} {f : α → List Value} {m : Nat} {w : World} {a : Addr} {os : List α} (hm : 0 < m) (hf : ∀ x ∈ os, (f x).length = m) (h : ∀ i (hi : i < os.length), w.cells? 0 (a.add (i * m)) m = some (f os[i])) : Rd w (some a) (os.flatMap f) := by
  refine rd_of_cells fun j u hu => ?_
  have hj := (List.getElem?_eq_some_iff.1 hu).1
  rw [flat_length os hf] at hj
  have hi : j / m < os.length := Nat.div_lt_of_lt_mul (by rw [Nat.mul_comm]; exact hj)
  have hr : j % m < m := Nat.mod_lt _ hm
  have hdj : j / m * m + j % m = j := by rw [Nat.mul_comm]; exact Nat.div_add_mod j m
  have hcell := (World.cells?_some (h (j / m) hi)).2
  have hlen := hf _ (List.getElem_mem hi)
  have hg : (f os[j / m])[j % m]? = some u := by
    have hx := flat_get os hf (j / m) hi (j % m) ((f os[j / m])[j % m]'(by omega)) (List.getElem?_eq_getElem _)
    rw [hdj] at hx
    rw [hu] at hx
    cases hx
    exact List.getElem?_eq_getElem _
  have := hcell.2 (j % m) hr
  rw [Addr.add_add, hdj] at this
  rw [this]
  exact hg

section

variable {H : Type} {enc : TypeId × Value → H} {w : World} {base : Nat} {sp : Nat → Bool} {held : Bool}

theorem trod_ref {fuel : Nat} {cs : List Value} {x : DataW H × List MemPlace} (h : DataW.trod enc Try.prog w base sp held fuel 52 cs = some x) : ∃ r : RefM, cs = r.cells ∧ r.ok := by
  obtain ⟨y0, y1, n, _, hl, h0, h1⟩ := trod_struct2 Try.underlying52 h
  have hc : Try.prog.cellsOf 52 = 33 := by kernel_rfl
  have e0 : Try.prog.cellsOf 9 = 1 := by kernel_rfl
  have e1 : Try.prog.cellsOf 25 = 32 := by kernel_rfl
  rw [hc] at hl
  dsimp only at h0 h1
  rw [e0] at h0
  rw [e1] at h1
  obtain ⟨nm, g0, _, hnm⟩ := DataW.trod_string Try.underlying9 h0
  obtain ⟨da, hda, g1, _⟩ := trod_bytes_array Try.underlying25 Try.underlying5 (by kernel_rfl) (by kernel_rfl) h1
  refine ⟨⟨nm, da⟩, ?_, hda, by unfold maxLen at hnm; show nm.size ≤ _; omega⟩
  have hend : cs.drop 33 = [] := List.drop_of_length_le (by omega)
  have h0 : cs = cs.drop 0 := rfl
  rw [h0, cut_at 0 1, cut_at (0 + 1) 32]
  simp only [Nat.reduceAdd, hend, List.append_nil]
  rw [g0, g1]
  rfl
theorem trod_id {fuel : Nat} {cs : List Value} {x : DataW H × List MemPlace} (h : DataW.trod enc Try.prog w base sp held fuel 25 cs = some x) : ∃ i : List UInt8, cs = b8s i ∧ i.length = 32 := by
  obtain ⟨da, hda, g1, _⟩ := trod_bytes_array Try.underlying25 Try.underlying5 (by kernel_rfl) (by kernel_rfl) h
  exact ⟨da, g1, hda⟩
theorem open_refs {n : Nat} {cs : List Value} {x : DataW H × List MemPlace} (h : DataW.trod enc Try.prog w 0 (fun _ => true) true n 22 cs = some x) :
    ∃ (A : Option Addr) (c : Nat) (rs : List RefM), cs = [.slice A rs.length c] ∧ rOk rs ∧ Rd w A (rfc rs) ∧ rs.length ≤ c ∧ c ≤ 9223372036854775807 := by
  have z : Try.prog.cellsOf 52 = 33 := by kernel_rfl
  rcases Go.Deep.open_slice Try.underlying22 h with ⟨hcs, _⟩ | ⟨a, len, cap, m, n', D, Pl, hcs, _, hle, hm, hmm, _, hel⟩
  · exact ⟨none, 0, [], hcs, fun r hr => (by cases hr), Rd.nil, Nat.le_refl _, by decide⟩
  · rw [z] at hel
    have hlm : len ≤ m := by rw [hmm]; split <;> omega
    obtain ⟨os, hos, hall⟩ := lst_of_all (p := fun i (s : RefM) => w.cells? 0 (a.add (i * 33)) 33 = some s.cells ∧ s.ok) len (fun i hi => by
      obtain ⟨cs', h1, h2⟩ := hel i (by omega)
      obtain ⟨s, hs, hok⟩ := trod_ref h2
      exact ⟨s, by rw [h1, hs], hok⟩)
    have hok : rOk os := fun r hr => by
      obtain ⟨i, hi, rfl⟩ := List.getElem_of_mem hr
      exact (hall i hi).2
    exact ⟨some a, cap, os, by rw [hos]; exact hcs, hok, rd_of_rows (by decide) (fun x hx => RefM.len (hok x hx)) (fun i hi => (hall i hi).1), by omega, by unfold maxLen at hm; omega⟩
theorem open_idl {n : Nat} {cs : List Value} {x : DataW H × List MemPlace} (h : DataW.trod enc Try.prog w 0 (fun _ => true) true n 23 cs = some x) :
    ∃ (A : Option Addr) (c : Nat) (ids : List (List UInt8)), cs = [.slice A ids.length c] ∧ iOk ids ∧ Rd w A (idc ids) ∧ ids.length ≤ c ∧ c ≤ 9223372036854775807 := by
  have z : Try.prog.cellsOf 25 = 32 := by kernel_rfl
  rcases Go.Deep.open_slice Try.underlying23 h with ⟨hcs, _⟩ | ⟨a, len, cap, m, n', D, Pl, hcs, _, hle, hm, hmm, _, hel⟩
  · exact ⟨none, 0, [], hcs, fun r hr => (by cases hr), Rd.nil, Nat.le_refl _, by decide⟩
  · rw [z] at hel
    have hlm : len ≤ m := by rw [hmm]; split <;> omega
    obtain ⟨os, hos, hall⟩ := lst_of_all (p := fun i (s : List UInt8) => w.cells? 0 (a.add (i * 32)) 32 = some (b8s s) ∧ s.length = 32) len (fun i hi => by
      obtain ⟨cs', h1, h2⟩ := hel i (by omega)
      obtain ⟨s, hs, hok⟩ := trod_id h2
      exact ⟨s, by rw [h1, hs], hok⟩)
    have hok : iOk os := fun r hr => by
      obtain ⟨i, hi, rfl⟩ := List.getElem_of_mem hr
      exact (hall i hi).2
    exact ⟨some a, cap, os, by rw [hos]; exact hcs, hok, rd_of_rows (by decide) (fun x hx => by rw [b8s_length]; exact hok x hx) (fun i hi => (hall i hi).1), by omega, by unfold maxLen at hm; omega⟩
theorem trod_u8 {fuel : Nat} {cs : List Value} {x : DataW H × List MemPlace} (h : DataW.trod enc Try.prog w base sp held fuel 5 cs = some x) : ∃ c : UInt8, cs = b8s [c] := by
  obtain ⟨z, g, _, hw⟩ := DataW.trod_int Try.underlying5 h
  have hb : 0 ≤ z ∧ z ≤ 255 := by simpa [Lit.wf, IntKind.min, IntKind.max, IntKind.signed, IntKind.bits] using hw
  refine ⟨UInt8.ofNat z.toNat, ?_⟩
  rw [g]
  simp only [b8s, List.map_cons, List.map_nil, UInt8.toNat_ofNat']
  congr 2
  omega
theorem open_dat {n : Nat} {cs : List Value} {x : DataW H × List MemPlace} (h : DataW.trod enc Try.prog w 0 (fun _ => true) true n 26 cs = some x) :
    ∃ (A : Option Addr) (c : Nat) (bs : List UInt8), cs = [.slice A bs.length c] ∧ Rd w A (b8s bs) ∧ bs.length ≤ c ∧ c ≤ 9223372036854775807 := by
  have z : Try.prog.cellsOf 5 = 1 := by kernel_rfl
  rcases Go.Deep.open_slice Try.underlying26 h with ⟨hcs, _⟩ | ⟨a, len, cap, m, n', D, Pl, hcs, _, hle, hm, hmm, _, hel⟩
  · exact ⟨none, 0, [], hcs, Rd.nil, Nat.le_refl _, by decide⟩
  · rw [z] at hel
    have hlm : len ≤ m := by rw [hmm]; split <;> omega
    obtain ⟨os, hos, hall⟩ := lst_of_all (p := fun i (s : UInt8) => w.cells? 0 (a.add (i * 1)) 1 = some (b8s [s])) len (fun i hi => by
      obtain ⟨cs', h1, h2⟩ := hel i (by omega)
      obtain ⟨s, hs⟩ := trod_u8 h2
      exact ⟨s, by rw [h1, hs]⟩)
    have hrd := rd_of_rows (f := fun c : UInt8 => b8s [c]) (m := 1) (w := w) (a := a) (os := os) (by decide) (fun x hx => rfl) (fun i hi => hall i hi)
    have e : os.flatMap (fun c : UInt8 => b8s [c]) = b8s os := by
      clear hos hall hrd
      induction os with
      | nil => rfl
      | cons x os ih => rw [List.flatMap_cons, ih]; rfl
    rw [e] at hrd
    exact ⟨some a, cap, os, by rw [hos]; exact hcs, hrd, by omega, by unfold maxLen at hm; omega⟩

theorem open_let {v : Value} {d : DataW H} {p : List MemPlace} {b0 : Nat} {r : Reach}
    (hok : Value.okWide Try.prog w r b0 28 v) (h : DataW.Trod enc Try.prog w 0 (fun _ => true) true 28 v d p) : ∃ (l : Lt) (q : LtP), LtIn w l q ∧ v = l.val q ∧
      (-9223372036854775808 ≤ l.total ∧ l.total ≤ 9223372036854775807) ∧ (-9223372036854775808 ≤ l.off ∧ l.off ≤ 9223372036854775807) := by
  obtain ⟨cs, rfl, hsz⟩ := okWide_struct Try.underlying28 hok
  obtain ⟨fuel, hf⟩ := h
  obtain ⟨xs, n, _, _, hl, hxl, hfs⟩ := DataW.trod_struct Try.underlying28 hf
  have hc : Try.prog.cellsOf 28 = 42 := by kernel_rfl
  have z1 : Try.prog.cellsOf 3 = 1 := by kernel_rfl
  have z2 : Try.prog.cellsOf 2 = 1 := by kernel_rfl
  have z3 : Try.prog.cellsOf 22 = 1 := by kernel_rfl
  have z4 : Try.prog.cellsOf 25 = 32 := by kernel_rfl
  have z5 : Try.prog.cellsOf 23 = 1 := by kernel_rfl
  have z6 : Try.prog.cellsOf 26 = 1 := by kernel_rfl
  have hxl7 : xs.length = 11 := hxl
  simp only [Value.cells] at hl hfs
  obtain ⟨l, hlc⟩ : ∃ l, cs.toList = l := ⟨_, rfl⟩
  have hll : l = cs.toList := hlc.symm
  rw [hlc] at hl hfs
  have f0 : DataW.trod enc Try.prog w 0 (fun _ => true) true n 3 ((l.drop 0).take (Try.prog.cellsOf 3)) = xs[0]? := hfs 0 _ rfl
  have f1 : DataW.trod enc Try.prog w 0 (fun _ => true) true n 3 ((l.drop 1).take (Try.prog.cellsOf 3)) = xs[1]? := hfs 1 _ rfl
  have f2 : DataW.trod enc Try.prog w 0 (fun _ => true) true n 3 ((l.drop 2).take (Try.prog.cellsOf 3)) = xs[2]? := hfs 2 _ rfl
  have f3 : DataW.trod enc Try.prog w 0 (fun _ => true) true n 2 ((l.drop 3).take (Try.prog.cellsOf 2)) = xs[3]? := hfs 3 _ rfl
  have f4 : DataW.trod enc Try.prog w 0 (fun _ => true) true n 22 ((l.drop 4).take (Try.prog.cellsOf 22)) = xs[4]? := hfs 4 _ rfl
  have f5 : DataW.trod enc Try.prog w 0 (fun _ => true) true n 23 ((l.drop 5).take (Try.prog.cellsOf 23)) = xs[5]? := hfs 5 _ rfl
  have f6 : DataW.trod enc Try.prog w 0 (fun _ => true) true n 23 ((l.drop 6).take (Try.prog.cellsOf 23)) = xs[6]? := hfs 6 _ rfl
  have f7 : DataW.trod enc Try.prog w 0 (fun _ => true) true n 3 ((l.drop 7).take (Try.prog.cellsOf 3)) = xs[7]? := hfs 7 _ rfl
  have f8 : DataW.trod enc Try.prog w 0 (fun _ => true) true n 3 ((l.drop 8).take (Try.prog.cellsOf 3)) = xs[8]? := hfs 8 _ rfl
  have f9 : DataW.trod enc Try.prog w 0 (fun _ => true) true n 25 ((l.drop 9).take (Try.prog.cellsOf 25)) = xs[9]? := hfs 9 _ rfl
  have f10 : DataW.trod enc Try.prog w 0 (fun _ => true) true n 26 ((l.drop 41).take (Try.prog.cellsOf 26)) = xs[10]? := hfs 10 _ rfl
  rw [List.getElem?_eq_getElem (by omega)] at f0 f1 f2 f3 f4 f5 f6 f7 f8 f9 f10
  rw [z1] at f0 f1 f2 f7 f8
  rw [z2] at f3
  rw [z3] at f4
  rw [z5] at f5 f6
  rw [z4] at f9
  rw [z6] at f10
  obtain ⟨k, g0, _, _⟩ := DataW.trod_int Try.underlying3 f0
  obtain ⟨fr, g1, _, _⟩ := DataW.trod_int Try.underlying3 f1
  obtain ⟨to_, g2, _, _⟩ := DataW.trod_int Try.underlying3 f2
  obtain ⟨se, g3, _, _⟩ := DataW.trod_int Try.underlying2 f3
  obtain ⟨A4, c4, rs, g4, rk, rr, rl, rm⟩ := open_refs f4
  obtain ⟨A5, c5, ws, g5, wk, wr, wl, wm⟩ := open_idl f5
  obtain ⟨A6, c6, hs, g6, hk, hr, hl6, hm⟩ := open_idl f6
  obtain ⟨o, g7, _, wo⟩ := DataW.trod_int Try.underlying3 f7
  obtain ⟨tt, g8, _, wt⟩ := DataW.trod_int Try.underlying3 f8
  obtain ⟨pk, hpk, g9, _⟩ := trod_bytes_array Try.underlying25 Try.underlying5 (by kernel_rfl) (by kernel_rfl) f9
  obtain ⟨A10, c10, dt, g10, dr, dl, dm⟩ := open_dat f10
  refine ⟨⟨k, fr, to_, se, rs, ws, hs, o, tt, pk, dt⟩, ⟨A4, c4, A5, c5, A6, c6, A10, c10⟩, ⟨hpk, rk, wk, hk, ⟨rr, rl, rm⟩, ⟨wr, wl, wm⟩, ⟨hr, hl6, hm⟩, ⟨dr, dl, dm⟩⟩, ?_, by simpa [Lit.wf, IntKind.min, IntKind.max, IntKind.signed, IntKind.bits] using wt, by simpa [Lit.wf, IntKind.min, IntKind.max, IntKind.signed, IntKind.bits] using wo⟩
  have hlen : l.length = 42 := by rw [hl, hc]
  have hl2 : l = (⟨k, fr, to_, se, rs, ws, hs, o, tt, pk, dt⟩ : Lt).cells ⟨A4, c4, A5, c5, A6, c6, A10, c10⟩ := by
    have hend : l.drop 42 = [] := List.drop_of_length_le (by omega)
    have h0 : l = l.drop 0 := rfl
    rw [h0, cut_at 0 1, cut_at (0 + 1) 1, cut_at (0 + 1 + 1) 1, cut_at (0 + 1 + 1 + 1) 1, cut_at (0 + 1 + 1 + 1 + 1) 1, cut_at (0 + 1 + 1 + 1 + 1 + 1) 1, cut_at (0 + 1 + 1 + 1 + 1 + 1 + 1) 1, cut_at (0 + 1 + 1 + 1 + 1 + 1 + 1 + 1) 1, cut_at (0 + 1 + 1 + 1 + 1 + 1 + 1 + 1 + 1) 1, cut_at (0 + 1 + 1 + 1 + 1 + 1 + 1 + 1 + 1 + 1) 32, cut_at (0 + 1 + 1 + 1 + 1 + 1 + 1 + 1 + 1 + 1 + 32) 1]
    simp only [Nat.reduceAdd, hend, List.append_nil]
    rw [g0, g1, g2, g3, g4, g5, g6, g7, g8, g9, g10]
    simp [Lt.cells]
  unfold Lt.val
  rw [← hl2, hll]
end

end Go.Proofs.Ytfjfidhhmidflaa
