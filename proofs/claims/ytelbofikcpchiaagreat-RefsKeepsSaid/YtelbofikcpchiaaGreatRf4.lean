
/- Refs: Names, Log. -/

import Derived.Test.YtelbofikcpchiaaGreatQG

import Derived.Test.YtelbofikcpchiaaGreatRfIter

namespace Go.Proofs.YtelbofikcpchiaaGreat

set_option linter.unusedVariables false

set_option linter.unusedSimpArgs false

set_option linter.unusedSectionVars false

open Go.RowKit

open Go.Sort

theorem keysA_sorted {α : Type} {ns : AL α} (h : risesA ns) : (ns.map (·.1)).mergeSort (fun x y => decide (x ≤ y)) = ns.map (·.1) := by
  refine List.mergeSort_of_pairwise ?_
  rw [List.pairwise_map]
  refine h.imp fun {a b} hab => ?_
  rw [decide_eq_true_eq]
  exact List.le_of_lt (bytes_lt hab)
theorem strKeys_mapA {α : Type} (g : α → DataW Unit) (ns : AL α) : strKeys (mapA g ns) = ns.map (·.1) := by
  show (ns.map (entA g)).map (fun p => strOf p.1) = _
  rw [List.map_map]
  rfl
/-- keys as cells -/
def keysC {α : Type} (ns : AL α) : List Value := ns.map fun p => strV p.1

set_option maxRecDepth 100000 in
set_option maxHeartbeats 4000000 in
theorem rnames_any {N gr g : Nat} {w : World} {r : RfM} {q : QA} (h : RfIn N w gr g r q) (hk : RfOk r) (hl : r.all.length ≤ 1000000) :
    Calls Tryz.prog 11 #[.pointer (some ⟨gr, 0, none⟩)] w fun e w' => ∃ v, e = .returned v ∧ w'.ownsRow w.heap.size 9 1 v r.all.length (keysC r.all) ∧ Below w.heap.size w w' := by
  have c1 := h.cells.2.1
  have hsz := mapA_size idD r.all
  have hown := h.map
  have HK : Hid (∀ ss : List (List UInt8), ss.Perm (strKeys (mapA idD r.all)) → ss.length = r.all.length ∧ (ss.mergeSort (fun x y => decide (x ≤ y))).map strV = keysC r.all) := Lib.hid (fun ss hp => by
    rw [strKeys_mapA] at hp
    refine ⟨by rw [hp.length_eq, List.length_map], ?_⟩
    have h1 := mergeSort_of_perm hp
    have h2 : (ss.mergeSort (fun x y => decide (x ≤ y))) = ss.mergeSort leB := rfl
    rw [h2, h1]
    have h3 := keysA_sorted hk.rn
    have h4 : ((r.all.map (·.1)).mergeSort leB) = r.all.map (·.1) := h3
    rw [h4, List.map_map]
    rfl)
  have hSO := fun W (ho : World.ownsMap W Tryz.prog 9 idR q.mb r.all.length (mapA idD r.all)) => Tryz.slices_Sorted_keys_35_36 q.mb r.all.length (mapA idD r.all) idR W ho (by rw [hsz]; unfold maxLen; omega) (by rw [hsz]; omega)
  have HSO := Lib.hid (hSO w hown)
  clear h hsz hk hSO hown
  refine (callsIn_wide (n := 6)).1 ?_
  have hfK : Fence.wide.fn 36 := trivial
  have hfS : Fence.wide.fn 35 := trivial
  refine callsIn_of_wp Tryz.func11 rfl trivial ?_ rfl
  simp only [Tryz.ntmps11, List.size_toArray, List.length_cons, List.length_nil, Nat.reduceAdd, Nat.reduceSub, Array.replicate_succ, Array.replicate_zero, List.push_toArray, List.append_toArray, List.nil_append, List.cons_append]
  gi_wp2_with (first
    | (gi_at_call 36; refine (Tryz.maps_Keys_36 _ _).mono ?_; rintro e w' ⟨rfl, rfl⟩)
    | (gi_at_call 35; refine HSO.out.mono ?_; rintro e w' ⟨v, ss, rfl, hS, hrow, hnil, hb⟩))
  go_ret
  obtain ⟨k1, k2⟩ := HK.out ss hS
  refine ⟨v, rfl, ?_, ((Below.refl _ w).alloc (Nat.le_refl _) _).trans (hb.mono (by simp))⟩
  have h2 : (ss.mergeSort (fun x y => decide (x ≤ y))).map encStr = keysC r.all := k2
  rw [h2, k1] at hrow
  exact own_mono hrow (by simp)

theorem info_up65 : (Tryz.prog.info? 31).map (fun i => (i.zero, i.size, i.bytes)) = some (some (.agg (#[.string ⟨#[]⟩] ++ (b8s (List.replicate 64 0)).toArray)), 65, 80) := by kernel_rfl
theorem rd_none_upd {w : World} {us : List UpM} (h : Rd w none (upsC us)) : us = [] := by
  cases us with
  | nil => rfl
  | cons u r =>
    obtain ⟨b, o, hA, _⟩ := h.at_ 0 (by simp [upsC, upC])
    cases hA

set_option maxRecDepth 100000 in
set_option maxHeartbeats 2000000 in
theorem clone_up (A : Option Addr) (us : List UpM) (n c : Nat) (w : World) (hn : us.length = n) (hk : ∀ u ∈ us, upOk u) (hr : Rd w A (upsC us)) (hm : n ≤ 1000000) :
    Calls Tryz.prog 37 #[.slice A n c] w fun e w' => ∃ A' c', e = .returned (.slice A' n c') ∧ w'.ownsRow w.heap.size 31 65 (.slice A' n c') n (upsC us) ∧ Below w.heap.size w w' := by
  have hnil := fun (w : World) (n c : Nat) => Lib.run_eql_slice_nil (P := Tryz.prog) w 26 31 A n c 0 0 Tryz.underlying26
  have HN := Lib.hid hn
  cases A with
  | none =>
    have h0 := rd_none_upd hr
    subst h0
    have : n = 0 := by rw [← hn]; rfl
    subst this
    clear hn hr hk
    go_enter Tryz.func37, Tryz.ntmps37
    go_wp2_with fail
    go_ret
    exact ⟨none, 0, rfl, World.ownsRow_nil _ _ _ _, Below.refl _ _⟩
  | some ad =>
    obtain ⟨W1, hW1⟩ : ∃ W, w.alloc (.cells #[] 31) = W := ⟨_, rfl⟩
    have b1 : Below w.heap.size w W1 := by rw [← hW1]; exact (Below.refl _ _).alloc (Nat.le_refl _) _
    have ho1 : W1.ownsRow w.heap.size 31 65 (.slice (some ⟨w.heap.size, 0, none⟩) 0 0) 0 [] := by
      rw [← hW1]
      exact own_new w w.heap.size 31 65 0 [] (Nat.le_refl _) (by simp) (by unfold maxLen; omega)
    have HO1 := Lib.hid ho1
    have HR1 := Lib.hid (hr.below b1)
    have HB1 := Lib.hid b1
    have HLN : Hid ((upsC us).length = n * 65) := Lib.hid (by rw [upsC_len hk, hn])
    clear hn hr hk ho1 b1
    go_enter Tryz.func37, Tryz.ntmps37
    go_wp2_with (at_builtin; refine wpList_append_rd _ rfl _ _ 26 rfl w.heap.size 31 _ 65 80 Tryz.underlying26 info_up65 (by simp [Value.cells, b8s]) (by decide) (.slice (some ⟨w.heap.size, 0, none⟩) 0 0) 0 _ rfl HO1.out _ n _ (upsC us) rfl HLN.out HR1.out (upsC_one us) (by unfold maxLen; omega) (by omega) HB1.out.size ?_; intro v7 w7 ho7 hg7 hvb7; obtain ⟨A7, c7, e7, _⟩ := own_slice ho7; subst e7; have HO7 := Lib.hid ho7; have HB7 : Hid (Below w.heap.size w w7) := Lib.hid (below_grown_own HB1.out HO1.out hg7 HB1.out.size); clear ho7 hg7 hvb7)
    go_ret
    rw [Nat.zero_add, List.nil_append] at HO7
    exact ⟨A7, c7, rfl, HO7.out, HB7.out⟩

set_option maxRecDepth 100000 in
theorem log_any {N gr g : Nat} {w : World} {r : RfM} {q : QA} (h : RfIn N w gr g r q) (hk : RfOk r) (hl : r.log.length ≤ 1000000) :
    Calls Tryz.prog 12 #[.pointer (some ⟨gr, 0, none⟩)] w fun e w' => ∃ A' c', e = .returned (.slice A' r.log.length c') ∧ w'.ownsRow w.heap.size 31 65 (.slice A' r.log.length c') r.log.length (upsC r.log) ∧ Below w.heap.size w w' := by
  have c35 := (h.tail hk.al).1
  obtain ⟨A, c, hv, _⟩ := own_slice h.log
  have hlog := h.log
  rw [hv] at c35 hlog
  have HC := Lib.hid (clone_up A r.log r.log.length c w rfl hk.log (own_rd hlog) hl)
  generalize r.log.length = n at *
  clear h hk hlog hv
  go_enter Tryz.func12, Tryz.ntmps12
  go_wp2_with fail
  refine HC.out.mono ?_
  rintro e w2 ⟨A', c', rfl, ho, hb⟩
  go_wp2_with fail
  go_ret
  exact ⟨A', c', rfl, ho, hb⟩
end Go.Proofs.YtelbofikcpchiaaGreat
