
/- Arguments laid open: slices of integers, bytes and strings that read as data, as lists of cells. No condition of its own. -/

import Derived.Test.YtabkgoandfpclaaBase

import Derived.ProofKit

import Derived.OpenShut

import Derived.SizedLaws

import Derived.SliceStrings

namespace Go.Proofs.Ytabkgoandfpclaa

open Go.ChangeShapes Go.WideShapes Go.ChangeAt Go.RowKit

theorem rd_of_cells {w : World} {a : Addr} {cs : List Value} (h : ∀ j u, cs[j]? = some u → w.cell? (a.add j) = some u) : Rd w (some a) cs := fun j u hu => by
  obtain ⟨b, o, s⟩ := a
  have h0 := h j u hu
  by_cases hj : j = 0
  · subst hj
    have hs : s = none := by simpa [Addr.add] using World.cell?_spot h0
    subst hs
    exact ⟨b, o, rfl, by rw [← Addr.add_lit]; exact h0⟩
  · have hz : cs[0]? = some (cs[0]'(by have := (List.getElem?_eq_some_iff.1 hu).1; omega)) := List.getElem?_eq_getElem _
    have h1 := h 0 _ hz
    have hs : s = none := by simpa [Addr.add] using World.cell?_spot h1
    subst hs
    exact ⟨b, o, rfl, by rw [← Addr.add_lit]; exact h0⟩

section

variable {H : Type} {enc : TypeId × Value → H} {P : Program} {w : World}

/-- a slice of integers that came in -/
theorem open_ints_rd {t e : TypeId} {k : IntKind} {v : Value} {d : DataW H} {p : List MemPlace} {base : Nat} {r : Reach} (ht : P.underlying t = some (.slice e)) (he : P.underlying e = some (.int k)) (hc : P.cellsOf e = 1)
    (hok : Value.okWide P w r base t v) (h : DataW.Trod enc P w 0 (fun _ => true) true t v d p) :
    ∃ (A : Option Addr) (c : Nat) (zs : List Int), v = .slice A zs.length c ∧ zs.length ≤ c ∧ c ≤ maxLen ∧ Rd w A (zs.map (Value.int k)) ∧ (∀ n ∈ zs, (Lit.int k n).wf = true) ∧ (A = none → zs = [] ∧ c = 0) ∧
      ((d = .nil ∧ zs = [] ∧ c = 0 ∧ A = none) ∨ ∃ el sp, d = .slice el sp ∧ el.length = zs.length ∧ el.length + sp.length = c) := by
  obtain ⟨A, len, cap, rfl⟩ := okWide_slice ht hok
  obtain ⟨fuel, hf⟩ := h
  rcases open_ints ht he hc hf with ⟨hcs, hx⟩ | ⟨x, l, c, zs, hcs, _, hl, hm, hz, hx, hcell, hwz⟩
  · simp [Value.cells] at hcs
    obtain ⟨rfl, rfl, rfl⟩ := hcs
    simp only [Prod.mk.injEq] at hx
    exact ⟨none, 0, [], rfl, by simp, by unfold maxLen; omega, Rd.nil, by simp, by simp, .inl ⟨hx.1, rfl, rfl, rfl⟩⟩
  · simp [Value.cells] at hcs
    obtain ⟨rfl, rfl, rfl⟩ := hcs
    simp only [if_true] at hz
    simp only [Prod.mk.injEq] at hx
    have hlen : (zs.take len).length = len := by rw [List.length_take]; omega
    refine ⟨some x, cap, zs.take len, by rw [hlen], by omega, hm, ?_, fun n hn => hwz n (List.mem_of_mem_take hn), (fun e => by cases e), .inr ⟨_, _, hx.1, by simp [lits], ?_⟩⟩
    · refine rd_of_cells fun j u hu => ?_
      rw [List.getElem?_map, List.getElem?_take] at hu
      split at hu
      · rename_i hj
        have hj' : j < zs.length := by omega
        rw [hcell j hj']
        simpa [List.getD, hj'] using hu
      · simp at hu
    · simp [lits]; omega

/-- a slice of bytes that came in -/
theorem open_bytes_rd {t e : TypeId} {v : Value} {d : DataW H} {p : List MemPlace} {base : Nat} {r : Reach} (ht : P.underlying t = some (.slice e)) (he : P.underlying e = some (.int .u8)) (hc : P.cellsOf e = 1)
    (hok : Value.okWide P w r base t v) (h : DataW.Trod enc P w 0 (fun _ => true) true t v d p) :
    ∃ (A : Option Addr) (c : Nat) (bs : List UInt8), v = .slice A bs.length c ∧ bs.length ≤ c ∧ c ≤ maxLen ∧ Rd w A (b8s bs) ∧ (A = none → bs = [] ∧ c = 0) ∧
      ((d = .nil ∧ bs = [] ∧ c = 0 ∧ A = none) ∨ ∃ el sp, d = .slice el sp ∧ el.length = bs.length ∧ el.length + sp.length = c) := by
  obtain ⟨A, c, zs, rfl, hl, hm, hr, hw, hn, hd⟩ := open_ints_rd ht he hc hok h
  have hlen : (asBytes zs).length = zs.length := by simp [asBytes]
  rw [asBytes_cells hw] at hr
  refine ⟨A, c, asBytes zs, by rw [hlen], by omega, hm, hr, fun e => ?_, ?_⟩
  · obtain ⟨rfl, h'⟩ := hn e
    exact ⟨rfl, h'⟩
  · rcases hd with ⟨h1, rfl, h3, h4⟩ | ⟨el, sp, h1, h2, h3⟩
    · exact .inl ⟨h1, rfl, h3, h4⟩
    · exact .inr ⟨el, sp, h1, by rw [hlen]; exact h2, h3⟩

/-- a slice of strings that came in -/
theorem open_strs_rd {t e : TypeId} {v : Value} {d : DataW H} {p : List MemPlace} {base : Nat} {r : Reach} (ht : P.underlying t = some (.slice e)) (he : P.underlying e = some .string) (hc : P.cellsOf e = 1)
    (hok : Value.okWide P w r base t v) (h : DataW.Trod enc P w 0 (fun _ => true) true t v d p) :
    ∃ (A : Option Addr) (c : Nat) (ss : List ByteArray), v = .slice A ss.length c ∧ ss.length ≤ c ∧ c ≤ maxLen ∧ Rd w A (ss.map Value.string) ∧ (∀ s ∈ ss, s.size ≤ maxLen) ∧ (A = none → ss = [] ∧ c = 0) ∧
      ((d = .nil ∧ ss = [] ∧ c = 0 ∧ A = none) ∨ ∃ el sp, d = .slice el sp ∧ el = strs ss ∧ el.length + sp.length = c) := by
  obtain ⟨A, len, cap, rfl⟩ := okWide_slice ht hok
  obtain ⟨fuel, hf⟩ := h
  rcases open_strings ht he hc hf with ⟨hcs, hx⟩ | ⟨x, l, c, ss, hcs, _, hl, hm, hz, hx, hcell, hwz⟩
  · simp [Value.cells] at hcs
    obtain ⟨rfl, rfl, rfl⟩ := hcs
    simp only [Prod.mk.injEq] at hx
    exact ⟨none, 0, [], rfl, by simp, by unfold maxLen; omega, Rd.nil, by simp, by simp, .inl ⟨hx.1, rfl, rfl, rfl⟩⟩
  · simp [Value.cells] at hcs
    obtain ⟨rfl, rfl, rfl⟩ := hcs
    simp only [if_true] at hz
    simp only [Prod.mk.injEq] at hx
    have hlen : (ss.take len).length = len := by rw [List.length_take]; omega
    refine ⟨some x, cap, ss.take len, by rw [hlen], by omega, hm, ?_, fun n hn => hwz n (List.mem_of_mem_take hn), (fun e => by cases e), .inr ⟨_, _, hx.1, rfl, ?_⟩⟩
    · refine rd_of_cells fun j u hu => ?_
      rw [List.getElem?_map, List.getElem?_take] at hu
      split at hu
      · rename_i hj
        have hj' : j < ss.length := by omega
        rw [hcell j hj']
        simpa [List.getD, hj'] using hu
      · simp at hu
    · simp [strs]; omega

/-- an array of bytes, as bytes -/
def byteOf : Value → UInt8 | .int _ z => UInt8.ofNat z.toNat | _ => 0
theorem trod_bytes_array {t e : TypeId} {n fuel base : Nat} {spare : Nat → Bool} {held : Bool} {cs : List Value} {x : DataW H × List MemPlace} (ht : P.underlying t = some (.array n e)) (he : P.underlying e = some (.int .u8)) (hc : P.cellsOf e = 1)
    (hn : P.cellsOf t = n) (h : DataW.trod enc P w base spare held fuel t cs = some x) : ∃ id : List UInt8, id.length = n ∧ cs = b8s id ∧ x.2 = [] := by
  obtain ⟨xs, m, _, hx, hl, hxl, hi⟩ := DataW.trod_array ht h
  rw [hn] at hl
  have key : ∀ i (h : i < cs.length), cs[i] = .int .u8 ((byteOf cs[i]).toNat : Int) ∧ ∀ y, xs[i]? = some y → y.2 = [] := by
    intro i hlt
    have h1 := hi i (by omega)
    rw [hc, Nat.mul_one, List.getElem?_eq_getElem (by omega)] at h1
    have hd : (cs.drop i).take 1 = [cs[i]] := by
      rw [List.drop_eq_getElem_cons hlt]; rfl
    rw [hd] at h1
    obtain ⟨z, hz, hp, wf⟩ := DataW.trod_int he h1
    have hz' : cs[i] = .int .u8 z := by simpa using hz
    have hb : 0 ≤ z ∧ z ≤ 255 := by simpa [Lit.wf, IntKind.min, IntKind.max, IntKind.signed, IntKind.bits] using wf
    refine ⟨?_, ?_⟩
    · rw [hz']
      simp only [byteOf, UInt8.toNat_ofNat']
      congr 1
      omega
    · intro y hy
      rw [List.getElem?_eq_getElem (by omega)] at hy
      cases hy
      rw [hp]
  refine ⟨cs.map byteOf, by simpa using hl, ?_, ?_⟩
  · refine List.ext_getElem (by simp [b8s]) fun i h1 h2 => ?_
    rw [(key i h1).1]
    simp [b8s]
  · rw [hx]
    simp only [List.flatMap_eq_nil_iff]
    intro y hy
    obtain ⟨i, hlt, rfl⟩ := List.getElem_of_mem hy
    exact (key i (by omega)).2 _ (List.getElem?_eq_getElem hlt)

theorem open_id {t e : TypeId} {n : Nat} {v : Value} {d : DataW H} {p : List MemPlace} {base : Nat} {r : Reach} (ht : P.underlying t = some (.array n e)) (he : P.underlying e = some (.int .u8)) (hc : P.cellsOf e = 1) (hn : P.cellsOf t = n)
    (hok : Value.okWide P w r base t v) (h : DataW.Trod enc P w 0 (fun _ => true) true t v d p) : ∃ id : List UInt8, id.length = n ∧ v = .agg (b8s id).toArray := by
  unfold Value.okWide at hok
  rw [ht] at hok
  obtain ⟨cs, rfl, hsz, _⟩ := hok
  obtain ⟨fuel, hf⟩ := h
  obtain ⟨id, h1, h2, _⟩ := trod_bytes_array ht he hc hn hf
  refine ⟨id, h1, ?_⟩
  have : cs = (b8s id).toArray := by
    have h3 : cs.toList = b8s id := h2
    rw [← h3]
  rw [this]
end

end Go.Proofs.Ytabkgoandfpclaa
