
/- A turn done to names; a disk's turn. -/

import Derived.Test.YtpmifpblamjclaaDk2

namespace Go.Proofs.Ytpmifpblamjclaa

set_option linter.unusedVariables false

set_option linter.unusedSimpArgs false

set_option linter.unusedSectionVars false

open Go.RowKit

theorem names_eq (a b : ByteArray) : (a.toList == b.toList) = decide (a = b) := by
  rw [ByteArray.toList_eq, ByteArray.toList_eq]
  by_cases h : a = b
  · subst h; simp
  · have h2 : ¬ a.data = b.data := fun e => h (by
      obtain ⟨x⟩ := a
      obtain ⟨y⟩ := b
      simp at e
      rw [e])
    simp [h, h2]
theorem bin_streq {P : Program} {t : TypeId} (ht : P.underlying t = some .string) (x y : ByteArray) (w : World) : (binOp .eql t (.string x) (.string y)).run P w = .ok (.bool (decide (x = y))) w := by
  simp [binOp, Op.stringOp, go_sem, run_underlying ht, names_eq]
theorem bin_strne {P : Program} {t : TypeId} (ht : P.underlying t = some .string) (x y : ByteArray) (w : World) : (binOp .neq t (.string x) (.string y)).run P w = .ok (.bool (!decide (x = y))) w := by
  have h : (x.toList != y.toList) = !(x.toList == y.toList) := rfl
  simp [binOp, Op.stringOp, go_sem, run_underlying ht, h, names_eq]
theorem ba_ext {x y : ByteArray} (h : x.data.toList = y.data.toList) : x = y := by
  obtain ⟨⟨x⟩⟩ := x
  obtain ⟨⟨y⟩⟩ := y
  have : x = y := h
  rw [this]
theorem empty_list {S : ByteArray} : S.data.toList = [] ↔ S = ⟨#[]⟩ := ⟨fun h => ba_ext h, fun h => by rw [h]⟩
theorem own_exact {w : World} {b n : Nat} {D : DataW Unit} (h : w.ownsMap Try.prog 9 ptrR b n D) : w.ownsMap Try.prog 9 ptrR b (Maps.size D) D := by
  obtain ⟨es, clock, h1, h2, h3, h4⟩ := h
  refine ⟨es, clock, h1, h2, ?_, h4⟩
  rw [h4]
  show es.size ≤ (List.foldr DataW.insert [] _).length
  rw [length_sorted]
  simp
theorem own_names {w : World} {b n : Nat} {bs : List Nat} {ns : NM} (h : w.ownsMap Try.prog 9 ptrR b n (namesD bs ns)) : w.ownsMap Try.prog 9 ptrR b ns.length (namesD bs ns) := by
  have := own_exact h
  rwa [namesD_size] at this

set_option maxRecDepth 100000 in
set_option maxHeartbeats 4000000 in
theorem do_any (b n : Nat) (bs : List Nat) (ns : NM) (S T : ByteArray) (p : Option Addr) (f : Nat) (w : World) (h : w.ownsMap Try.prog 9 ptrR b n (namesD bs ns)) (hn : n < maxLen) (hS : S.size ≤ maxLen) (hT : T.size ≤ maxLen) (hp : T.data.toList ≠ [] → p = some ⟨bs.getD f 0, 0, none⟩) :
    Calls Try.prog 35 #[.map (some b), .agg #[.string S, .string T, .pointer p]] w fun e w' => e = .returned (.tuple #[]) ∧
      w'.ownsMap Try.prog 9 ptrR b (doN ns ⟨S.data.toList, T.data.toList, f⟩).length (namesD bs (doN ns ⟨S.data.toList, T.data.toList, f⟩)) ∧ w.grownBy w' (some b) := by
  obtain ⟨W1, hW1⟩ : ∃ W, w.alloc (.cells #[.string S, .string T, .pointer p] 77) = W := ⟨_, rfl⟩
  obtain ⟨r1, b1, s1⟩ := new_row hW1
  have HG1 : Hid (w.grownBy W1 (some b)) := Lib.hid (by rw [← hW1]; exact World.grownBy_alloc _ _ _)
  have HO1 : Hid (W1.ownsMap Try.prog 9 ptrR b n (namesD bs ns)) := Lib.hid (by rw [← hW1]; exact h.alloc _)
  have HLT := Lib.hid h.lt
  have k0 : W1.cell? ⟨w.heap.size, 0, none⟩ = some (.string S) := row_cell r1 0
  have k1 : W1.cell? ⟨w.heap.size, 1, none⟩ = some (.string T) := row_cell r1 1
  have k2 : W1.cell? ⟨w.heap.size, 2, none⟩ = some (.pointer p) := row_cell r1 2
  have HR1 := Lib.hid r1
  have HKS := Lib.hid (WideMaps.keyOf_string_mk (P := Try.prog) Try.underlying9 hS)
  have HKT := Lib.hid (WideMaps.keyOf_string_mk (P := Try.prog) Try.underlying9 hT)
  have hbS := bin_strne (P := Try.prog) Try.underlying9 S ⟨#[]⟩
  have hbT := bin_strne (P := Try.prog) Try.underlying9 T ⟨#[]⟩
  have HLW : Hid (w.heap.size < W1.heap.size) := Lib.hid (by omega)
  clear r1 b1 s1 h
  by_cases hs : S = ⟨#[]⟩
  · have hs' : S.data.toList = [] := empty_list.2 hs
    rw [decide_eq_true hs] at hbS
    have zs : S.toList.isEmpty = true := by rw [ByteArray.toList_eq, hs']; rfl
    by_cases ht : T = ⟨#[]⟩
    · have ht' : T.data.toList = [] := empty_list.2 ht
      rw [decide_eq_true ht] at hbT
      have zt : T.toList.isEmpty = true := by rw [ByteArray.toList_eq, ht']; rfl
      have e1 : doN ns ⟨S.data.toList, T.data.toList, f⟩ = ns := by unfold doN; simp [hs', ht']
      rw [e1]
      clear hs ht e1 hs' ht'
      go_enter Try.func35, Try.ntmps35
      go_wp2_with fail
      go_end0
      exact ⟨rfl, own_names HO1.out, HG1.out⟩
    · have ht' : ¬ T.data.toList = [] := fun e => ht (empty_list.1 e)
      rw [decide_eq_false ht] at hbT
      have zt : T.toList.isEmpty = false := by rw [ByteArray.toList_eq, List.isEmpty_eq_false_iff]; exact ht'
      obtain ⟨x, hx⟩ : ∃ x, bs.getD f 0 = x := ⟨_, rfl⟩
      have hpx := hp ht'
      rw [hx] at hpx
      subst hpx
      have HV : Hid (ptrR (.pointer (some ⟨x, 0, none⟩)) = some (fileD bs f, [])) := Lib.hid (by unfold fileD; rw [hx]; rfl)
      have e1 : doN ns ⟨S.data.toList, T.data.toList, f⟩ = putN ns T.data.toList f := by unfold doN; simp [hs', ht']
      rw [e1]
      clear hs ht e1 hs' ht' hp hx
      go_enter Try.func35, Try.ntmps35
      go_wp2_with (at_mapUpdate; refine wpList_mapUpdate_in _ rfl _ _ _ 66 rfl 9 72 keyed_str Try.underlying66 ptrR b n _ rfl HO1.out hn _ _ _ rfl rfl HKT.out (fileD bs f) [] HV.out ?_; intro w2 ho2 hm2; have HO2 := Lib.hid ho2; have HM2 := Lib.hid hm2.grown; clear ho2 hm2)
      go_end0
      refine ⟨rfl, own_names (n := n + 1) ?_, HG1.out.trans HM2.out⟩
      rw [← namesD_put]
      exact HO2.out
  · have hs' : ¬ S.data.toList = [] := fun e => hs (empty_list.1 e)
    rw [decide_eq_false hs] at hbS
    have zs : S.toList.isEmpty = false := by rw [ByteArray.toList_eq, List.isEmpty_eq_false_iff]; exact hs'
    by_cases ht : T = ⟨#[]⟩
    · have ht' : T.data.toList = [] := empty_list.2 ht
      rw [decide_eq_true ht] at hbT
      have zt : T.toList.isEmpty = true := by rw [ByteArray.toList_eq, ht']; rfl
      have e1 : doN ns ⟨S.data.toList, T.data.toList, f⟩ = delN ns S.data.toList := by unfold doN; simp [hs', ht']
      rw [e1]
      clear hs ht e1 hs' ht'
      go_enter Try.func35, Try.ntmps35
      go_wp2_with (at_delete; refine wpList_delete_own _ rfl _ _ 66 9 rfl 72 keyed_str Try.underlying66 ptrR b n _ rfl HO1.out _ _ rfl HKS.out ?_; intro w2 ho2 hm2; have HO2 := Lib.hid ho2; have HM2 := Lib.hid hm2.grown; have q1 : w2.cell? ⟨w.heap.size, 1, none⟩ = some (.string T) := (World.cell?_of_block (a := ⟨w.heap.size, 1, none⟩) (hm2.grown.block _ HLW.out (by have := HLT.out; simp; omega))).trans k1; clear ho2 hm2)
      go_end0
      refine ⟨rfl, own_names (n := n) ?_, HG1.out.trans HM2.out⟩
      rw [← namesD_del]
      exact HO2.out
    · have ht' : ¬ T.data.toList = [] := fun e => ht (empty_list.1 e)
      rw [decide_eq_false ht] at hbT
      have zt : T.toList.isEmpty = false := by rw [ByteArray.toList_eq, List.isEmpty_eq_false_iff]; exact ht'
      obtain ⟨x, hx⟩ : ∃ x, bs.getD f 0 = x := ⟨_, rfl⟩
      have hpx := hp ht'
      rw [hx] at hpx
      subst hpx
      have HV : Hid (ptrR (.pointer (some ⟨x, 0, none⟩)) = some (fileD bs f, [])) := Lib.hid (by unfold fileD; rw [hx]; rfl)
      have e1 : doN ns ⟨S.data.toList, T.data.toList, f⟩ = putN (delN ns S.data.toList) T.data.toList f := by unfold doN; simp [hs', ht']
      rw [e1]
      clear hs ht e1 hs' ht' hp hx
      go_enter Try.func35, Try.ntmps35
      go_wp2_with (first
        | (at_delete; refine wpList_delete_own _ rfl _ _ 66 9 rfl 72 keyed_str Try.underlying66 ptrR b n _ rfl HO1.out _ _ rfl HKS.out ?_; intro w2 ho2 hm2; have HO2 := Lib.hid ho2; have HM2 := Lib.hid hm2.grown; have q1 : w2.cell? ⟨w.heap.size, 1, none⟩ = some (.string T) := (World.cell?_of_block (a := ⟨w.heap.size, 1, none⟩) (hm2.grown.block _ HLW.out (by have := HLT.out; simp; omega))).trans k1; have q2 := (World.cell?_of_block (a := ⟨w.heap.size, 2, none⟩) (hm2.grown.block _ HLW.out (by have := HLT.out; simp; omega))).trans k2; clear ho2 hm2)
        | (at_mapUpdate; refine wpList_mapUpdate_in _ rfl _ _ _ 66 rfl 9 72 keyed_str Try.underlying66 ptrR b n _ rfl HO2.out hn _ _ _ rfl rfl HKT.out (fileD bs f) [] HV.out ?_; intro w3 ho3 hm3; have HO3 := Lib.hid ho3; have HM3 := Lib.hid hm3.grown; clear ho3 hm3))
      go_end0
      refine ⟨rfl, own_names (n := n + 1) ?_, (HG1.out.trans HM2.out).trans HM3.out⟩
      rw [← namesD_put, ← namesD_del]
      exact HO3.out
end Go.Proofs.Ytpmifpblamjclaa
