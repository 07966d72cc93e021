
/- A disk's Names. -/

import Derived.Test.YtelbofikcpchiaaGreatQE

import Derived.Test.YtelbofikcpchiaaGreatDkIter

namespace Go.Proofs.YtelbofikcpchiaaGreat

set_option linter.unusedVariables false

set_option linter.unusedSimpArgs false

set_option linter.unusedSectionVars false

open Go.RowKit

open Go.Sort

theorem bytes_lt {x y : List UInt8} (h : bytesBefore x y = true) : x < y := by
  induction x generalizing y with
  | nil => cases y with
    | nil => cases h
    | cons b s => exact List.nil_lt_cons b s
  | cons a r ih => cases y with
    | nil => cases h
    | cons b s =>
      simp only [bytesBefore, Bool.or_eq_true, decide_eq_true_eq, Bool.and_eq_true, beq_iff_eq] at h
      rw [List.cons_lt_cons_iff]
      rcases h with h | ⟨h1, h2⟩
      · exact .inl h
      · exact .inr ⟨h1, ih h2⟩
theorem keys_sorted {ns : NM} (h : risesN ns) : (ns.map (·.1)).mergeSort (fun x y => decide (x ≤ y)) = ns.map (·.1) := by
  refine List.mergeSort_of_pairwise ?_
  rw [List.pairwise_map]
  refine h.imp fun {a b} hab => ?_
  rw [decide_eq_true_eq]
  exact List.le_of_lt (bytes_lt hab)
theorem strKeys_names (bs : List Nat) (ns : NM) : strKeys (namesD bs ns) = ns.map (·.1) := by
  show (ns.map (entD bs)).map (fun p => strOf p.1) = _
  rw [List.map_map]
  rfl
/-- names as cells -/
def namesC (ns : NM) : List Value := ns.map fun p => strV p.1

set_option maxRecDepth 100000 in
set_option maxHeartbeats 4000000 in
theorem names_any (N g : Nat) (m : DM) (d : DA) (w : World) (h : DiskIn N w g m d) (hB : Bnd m) :
    Calls Tryz.prog 63 #[.pointer (some ⟨g, 0, none⟩)] w fun e w' => ∃ v, e = .returned v ∧ w'.ownsRow w.heap.size 9 1 v m.now.length (namesC m.now) ∧ Below w.heap.size w w' := by
  have c0 := h.cells.1
  have hown := h.now
  have hsz := namesD_size d.bs m.now
  have hn := hB.now
  have HK : Hid (∀ ss : List (List UInt8), ss.Perm (strKeys (namesD d.bs m.now)) → ss.length = m.now.length ∧ (ss.mergeSort (fun x y => decide (x ≤ y))).map strV = namesC m.now) := Lib.hid (fun ss hp => by
    rw [strKeys_names] at hp
    refine ⟨by rw [hp.length_eq, List.length_map], ?_⟩
    have h1 := mergeSort_of_perm hp
    have h2 : (ss.mergeSort (fun x y => decide (x ≤ y))) = ss.mergeSort leB := rfl
    rw [h2, h1]
    have h3 := keys_sorted hB.rn
    have h4 : ((m.now.map (·.1)).mergeSort leB) = m.now.map (·.1) := h3
    rw [h4, List.map_map]
    rfl)
  have hSO := fun W (ho : World.ownsMap W Tryz.prog 9 ptrR d.mb m.now.length (namesD d.bs m.now)) => Tryz.slices_Sorted_keys_35_95 d.mb m.now.length (namesD d.bs m.now) ptrR W ho (by rw [hsz]; unfold maxLen; omega) (by rw [hsz]; omega)
  have HSO := Lib.hid (hSO w hown)
  clear h hsz hn hB hSO hown
  refine (callsIn_wide (n := 6)).1 ?_
  have hfK : Fence.wide.fn 95 := trivial
  have hfS : Fence.wide.fn 35 := trivial
  refine callsIn_of_wp Tryz.func63 rfl trivial ?_ rfl
  simp only [Tryz.ntmps63, List.size_toArray, List.length_cons, List.length_nil, Nat.reduceAdd, Nat.reduceSub, Array.replicate_succ, Array.replicate_zero, List.push_toArray, List.append_toArray, List.nil_append, List.cons_append]
  gi_wp2_with (first
    | (gi_at_call 95; refine (Tryz.maps_Keys_95 _ _).mono ?_; rintro e w' ⟨rfl, rfl⟩)
    | (gi_at_call 35; refine HSO.out.mono ?_; rintro e w' ⟨v, ss, rfl, hS, hrow, hnil, hb⟩))
  go_ret
  obtain ⟨k1, k2⟩ := HK.out ss hS
  refine ⟨v, rfl, ?_, ((Below.refl _ w).alloc (Nat.le_refl _) _).trans (hb.mono (by simp))⟩
  have h2 : (ss.mergeSort (fun x y => decide (x ≤ y))).map encStr = namesC m.now := k2
  rw [h2, k1] at hrow
  exact own_mono hrow (by simp)
end Go.Proofs.YtelbofikcpchiaaGreat
