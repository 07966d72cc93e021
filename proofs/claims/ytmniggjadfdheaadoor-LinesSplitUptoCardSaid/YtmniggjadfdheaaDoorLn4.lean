
/- Reverse of a row of edits. -/

import Derived.Test.YtmniggjadfdheaaDoorLn3

import Derived.Test.YtmniggjadfdheaaDoorSchedT

namespace Go.Proofs.YtmniggjadfdheaaDoor

set_option linter.unusedVariables false

set_option linter.unusedSimpArgs false

set_option linter.unusedSectionVars false

open Go.RowKit

section

variable {P : Program} {ops : Array Oper} {S : World → Prop} {Q : Exit → Act → World → Prop} {i : Nat} {a : Act} {w : World} {R : Act → World → Prop}

theorem doStep_load (o : Oper) (ho : ops[i]? = some o) (hw : Region.wanted o (yielded ops a.tmps) = true) (ty : TypeId) (x : Operand) (hop : o.op = .load ty x) (b off : Nat) (hx : a.eval x = .pointer (some ⟨b, off, none⟩))
    (cs : List Value) (d : TypeDesc) (hs : w.rangeAt b off cs) (hu : P.underlying ty = some d) (hd : d.isRow = true) (hi : (P.info? ty).map (·.size) = some cs.length) (hS : S w) (h : R (a.put o.dst (.agg cs.toArray)) w) : doStep P ops S Q i R a w :=
  doStep_do o ho hw fun K hK => wp_load_mid ty x hop b off hx cs d hs hu hd hi (hK.out _ _ hS (fun _ => h))
end

theorem info_ed' {a b : Value} : (Tryd.prog.info? 36).map (·.size) = some (#[a, b] : Array Value).size := info_eds
theorem edc_cons (e : EdM) (s : List EdM) : edc (e :: s) = e.cells ++ edc s := by simp [edc]
/-- a row of edits -/
def RowE (w : World) (g : Nat) (t : List EdM) (sp : List Value) : Prop := w.heap[g]? = some (.cells (edc t ++ sp).toArray 36 (0, 0))
theorem RowE.range {w : World} {g : Nat} {t : List EdM} {sp : List Value} (h : RowE w g t sp) (m : Nat) (hm : m < t.length) : w.rangeAt g (m * 2) t[m].cells := by
  have h1 := rd_ed (range_rd (range_of_row h)).front m hm
  rwa [Nat.zero_add] at h1
theorem RowE.there_ {w : World} {g : Nat} {t : List EdM} {sp : List Value} (h : RowE w g t sp) (m : Nat) (hm : m < t.length) (e : EdM) : w.there g (m * 2) e.cells.toArray.size := fun j hj => by
  have hj' : j < 2 := hj
  refine ⟨?_, row_free h _⟩
  rw [row_cell h, Array.getElem?_eq_getElem (by rw [List.size_toArray, List.length_append, edc_len]; omega)]
  rfl
theorem RowE.set {w : World} {g : Nat} {t : List EdM} {sp : List Value} (h : RowE w g t sp) (m : Nat) (hm : m < t.length) (e : EdM) : RowE (w.setCells g (m * 2) e.cells) g (t.set m e) sp := by
  have h0 : w.heap[g]? = some (.cells (edc (t.take m) ++ t[m].cells ++ (edc (t.drop (m + 1)) ++ sp)).toArray 36 (0, 0)) := by
    have e1 : edc t = edc (t.take m) ++ t[m].cells ++ edc (t.drop (m + 1)) := by
      have : t = t.take m ++ t[m] :: t.drop (m + 1) := by rw [← List.drop_eq_getElem_cons hm, List.take_append_drop]
      have e2 : edc t = edc (t.take m ++ t[m] :: t.drop (m + 1)) := congrArg edc this
      rw [e2, edc_app, edc_cons, List.append_assoc]
    unfold RowE at h
    rw [h, e1, List.append_assoc, List.append_assoc]
  have h1 := row_setCells e.cells (edc (t.take m)) t[m].cells _ w h0 rfl
  have e3 : (edc (t.take m)).length = m * 2 := by rw [edc_len, List.length_take]; omega
  rw [e3] at h1
  unfold RowE
  rw [h1]
  have e4 : edc (t.set m e) = edc (t.take m) ++ e.cells ++ edc (t.drop (m + 1)) := by
    rw [List.set_eq_take_append_cons_drop, if_pos hm, edc_app, edc_cons, List.append_assoc]
  rw [e4]
  simp [List.append_assoc]
/-- i at either end have changed places -/
def revI (s t : List EdM) (i : Nat) : Prop := t.length = s.length ∧ ∀ m, m < s.length → t[m]? = if m < i ∨ s.length - i ≤ m then s[s.length - 1 - m]? else s[m]?
theorem revI_start (s : List EdM) : revI s s 0 := ⟨rfl, fun m hm => by rw [if_neg (by omega)]⟩
theorem revI_step {s t : List EdM} {i j : Nat} (h : revI s t i) (hj : i + j + 1 = s.length) (hlt : i < j) (hi : i < t.length) (hj' : j < t.length) : revI s ((t.set i t[j]).set j t[i]) (i + 1) := by
  refine ⟨by simp [h.1], fun m hm => ?_⟩
  have a1 := h.2 i (by omega)
  have a2 := h.2 j (by omega)
  rw [if_neg (by omega), List.getElem?_eq_getElem hi] at a1
  rw [if_neg (by omega), List.getElem?_eq_getElem hj'] at a2
  by_cases e1 : m = j
  · subst e1
    rw [List.getElem?_set_self (by simp; omega), if_pos (by omega), a1]
    congr 1; omega
  · rw [List.getElem?_set_ne (by omega)]
    by_cases e2 : m = i
    · subst e2
      rw [List.getElem?_set_self (by omega), if_pos (by omega), a2]
      congr 1; omega
    · rw [List.getElem?_set_ne (by omega), h.2 m hm]
      by_cases c : m < i ∨ s.length - i ≤ m
      · rw [if_pos c, if_pos (by omega)]
      · rw [if_neg c, if_neg (by omega)]
theorem revI_end {s t : List EdM} {i j : Nat} (h : revI s t i) (hj : i + j + 1 = s.length) (hge : ¬ i < j) (hij : i ≤ j + 1) : t = s.reverse := by
  apply List.ext_getElem?
  intro m
  by_cases hm : m < s.length
  · rw [h.2 m hm, List.getElem?_reverse hm]
    by_cases c : m < i ∨ s.length - i ≤ m
    · rw [if_pos c]
    · rw [if_neg c]; congr 1; omega
  · rw [List.getElem?_eq_none (by rw [h.1]; omega), List.getElem?_eq_none (by simp; omega)]

set_option maxRecDepth 100000 in
set_option maxHeartbeats 4000000 in
theorem rev_row (g : Nat) (s : List EdM) (sp : List Value) (c : Nat) (w : World) (hr : RowE w g s sp) (hl : s.length ≤ 1000000) (h0 : 0 < s.length) (hc : s.length ≤ c) :
    Calls Tryd.prog 29 #[.slice (some ⟨g, 0, none⟩) s.length c] w fun e w' => e = .returned (.tuple #[]) ∧ RowE w' g s.reverse sp ∧ w.grownBy w' (some g) := by
  have HR := Lib.hid hr
  obtain ⟨n, hn⟩ : ∃ n, s.length = n := ⟨_, rfl⟩
  have HN := Lib.hid hn
  rw [hn] at hl h0 hc ⊢
  clear hr hn
  go_enter Tryd.func29, Tryd.ntmps29
  go_wp2_with fail
  go_loopg [2, 3] (n * 1) (fun gk_ u v wr => ∃ (i j : Nat) (t : List EdM), i + j + 1 = n ∧ i ≤ j + 1 ∧ gk_ = n - i ∧ u = .int .i64 (i : Int) ∧ v = .int .i64 (j : Int) ∧ Hid (RowE wr g t sp) ∧ Hid (revI s t i) ∧ Hid (w.grownBy wr (some g)))
  case atStart => exact ⟨0, n - 1, s, by omega, by omega, by omega, rfl, by first | rfl | exact congrArg (Value.int .i64) (by omega), HR, Lib.hid (revI_start s), Lib.hid (World.grownBy.refl _ _)⟩
  case round =>
  clear HR
  obtain ⟨i, j, t, hij, hji, rfl, rfl, rfl, HR, HV, HG⟩ := hrel
  have HIJ := Lib.hid hij
  have hjn : j < n := by omega
  have hin : i ≤ n := by omega
  clear hij
  by_cases hlt : i < j
  · have i1 : (i : Int) < (j : Int) := by omega
    have i2 : (i : Int) < (n : Int) := by omega
    have i3 : (j : Int) < (n : Int) := by omega
    have htl : t.length = n := by rw [HV.out.1, HN.out]
    have ht1 : i < t.length := by omega
    have ht2 : j < t.length := by omega
    have R1 := HR.out.range i ht1
    have R2 := HR.out.range j ht2
    have T1 := HR.out.there_ i ht1 t[j]
    have HR3 := Lib.hid (HR.out.set i ht1 t[j])
    have T2 := HR3.out.there_ j (by simp; omega) t[i]
    have HR4 := Lib.hid (HR3.out.set j (by simp; omega) t[i])
    have HV4 := Lib.hid (revI_step HV.out (by rw [HN.out]; exact HIJ.out) hlt ht1 ht2)
    have gd : w.grownBy wr.drew (some g) := ⟨HG.out.os, HG.out.tape, HG.out.output, HG.out.size, HG.out.block⟩
    have g1 := setCells_grown g t[j].cells (i * 2) wr.drew
    have g2 := setCells_grown g t[i].cells (j * 2) (wr.drew.setCells g (i * 2) t[j].cells)
    have HG4 := Lib.hid (grown_trans1 gd (grown_trans1 g1 g2))
    obtain ⟨e1, he1⟩ : ∃ e, t[i] = e := ⟨_, rfl⟩
    obtain ⟨e2, he2⟩ : ∃ e, t[j] = e := ⟨_, rfl⟩
    rw [he1, he2] at HR4 HV4 HG4
    rw [he1] at R1 T2
    rw [he2] at R2 T1 T2
    have HR1 := Lib.hid R1
    have HR2 := Lib.hid R2
    have HT1 := Lib.hid T1
    have HT2 : Hid ((wr.setCells g (i * 2) e2.cells).there g (j * 2) e1.cells.toArray.size) := Lib.hid T2
    obtain ⟨k1, l1⟩ := e1
    obtain ⟨k2, l2⟩ := e2
    clear R1 R2 T1 T2 g1 g2 gd he1 he2 HR3 HV htl ht1 ht2
    go_wp2_with fail
    refine wp_region_sched2 (fun _ => True) [(true, 0), (true, 1), (true, 2), (true, 3), (true, 4), (true, 5), (true, 6), (true, 8), (true, 9), (true, 10)] 7 11 [(true, 12), (false, 13), (true, 14), (false, 15)] (by kernel_rfl) (by kernel_rfl) rfl (by kernel_rfl) trivial ?_
    (repeat ((refine wpS2_take _ ?_ rfl (by rfl) ?_ ?_; rotate_left; (focus (intro w' hS'; (try dsimp only at hS'); (repeat (have hS1 := hS'.1; replace hS' := hS'.2)); go_simp; (try with_reducible rfl); done)); simp only [Act.put, List.getElem_toArray, List.getElem_cons_zero, List.getElem_cons_succ, List.setIfInBounds_toArray, List.set_cons_zero, List.set_cons_succ])))
    refine wpS2_both ?_ ?_
    · refine doStep_load _ rfl (by rfl) _ _ rfl _ _ rfl [.int .i64 k2, .string l2] _ HR2.out Tryd.underlying36 rfl info_ed trivial ?_
      simp only [Act.put, List.getElem_toArray, List.getElem_cons_zero, List.getElem_cons_succ, List.setIfInBounds_toArray, List.set_cons_zero, List.set_cons_succ]
      refine doStep_load _ rfl (by rfl) _ _ rfl _ _ rfl [.int .i64 k1, .string l1] _ HR1.out Tryd.underlying36 rfl info_ed trivial ?_
      simp only [Act.put, List.getElem_toArray, List.getElem_cons_zero, List.getElem_cons_succ, List.setIfInBounds_toArray, List.set_cons_zero, List.set_cons_succ]
      (first | (refine wpS_pass _ rfl (by rfl) ?_; simp only [Act.put, List.getElem_toArray, List.getElem_cons_zero, List.getElem_cons_succ, List.setIfInBounds_toArray, List.set_cons_zero, List.set_cons_succ]) | (refine wpS_take _ ?_ rfl (by rfl) ?_ ?_; rotate_left; (focus (intro w' hS'; (try dsimp only at hS'); (repeat (have hS1 := hS'.1; replace hS' := hS'.2)); go_simp; (try with_reducible rfl); done)); simp only [Act.put, List.getElem_toArray, List.getElem_cons_zero, List.getElem_cons_succ, List.setIfInBounds_toArray, List.set_cons_zero, List.set_cons_succ]))
      refine wpS_store_mid _ rfl (by rfl) _ _ _ rfl _ _ _ rfl rfl HT1.out info_ed' (by simp [Value.oneCell']) trivial ?_
      simp only [Act.put, List.getElem_toArray, List.getElem_cons_zero, List.getElem_cons_succ, List.setIfInBounds_toArray, List.set_cons_zero, List.set_cons_succ]
      (first | (refine wpS_pass _ rfl (by rfl) ?_; simp only [Act.put, List.getElem_toArray, List.getElem_cons_zero, List.getElem_cons_succ, List.setIfInBounds_toArray, List.set_cons_zero, List.set_cons_succ]) | (refine wpS_take _ ?_ rfl (by rfl) ?_ ?_; rotate_left; (focus (intro w' hS'; (try dsimp only at hS'); (repeat (have hS1 := hS'.1; replace hS' := hS'.2)); go_simp; (try with_reducible rfl); done)); simp only [Act.put, List.getElem_toArray, List.getElem_cons_zero, List.getElem_cons_succ, List.setIfInBounds_toArray, List.set_cons_zero, List.set_cons_succ]))
      refine wpS_store_mid _ rfl (by rfl) _ _ _ rfl _ _ _ rfl rfl HT2.out info_ed' (by simp [Value.oneCell']) trivial ?_
      simp only [Act.put, List.getElem_toArray, List.getElem_cons_zero, List.getElem_cons_succ, List.setIfInBounds_toArray, List.set_cons_zero, List.set_cons_succ]
      refine wpS_done ?_
      go_wp2_with fail
      go_roundg (n - (i + 1))
      case measure => omega
      case rel => exact ⟨i + 1, j - 1, _, by have := HIJ.out; omega, by omega, rfl, by first | rfl | exact congrArg (Value.int .i64) (by omega) | go_num, by first | rfl | exact congrArg (Value.int .i64) (by omega) | go_num, HR4, HV4, HG4⟩
    · refine doStep_load _ rfl (by rfl) _ _ rfl _ _ rfl [.int .i64 k1, .string l1] _ HR1.out Tryd.underlying36 rfl info_ed trivial ?_
      simp only [Act.put, List.getElem_toArray, List.getElem_cons_zero, List.getElem_cons_succ, List.setIfInBounds_toArray, List.set_cons_zero, List.set_cons_succ]
      refine doStep_load _ rfl (by rfl) _ _ rfl _ _ rfl [.int .i64 k2, .string l2] _ HR2.out Tryd.underlying36 rfl info_ed trivial ?_
      simp only [Act.put, List.getElem_toArray, List.getElem_cons_zero, List.getElem_cons_succ, List.setIfInBounds_toArray, List.set_cons_zero, List.set_cons_succ]
      (first | (refine wpS_pass _ rfl (by rfl) ?_; simp only [Act.put, List.getElem_toArray, List.getElem_cons_zero, List.getElem_cons_succ, List.setIfInBounds_toArray, List.set_cons_zero, List.set_cons_succ]) | (refine wpS_take _ ?_ rfl (by rfl) ?_ ?_; rotate_left; (focus (intro w' hS'; (try dsimp only at hS'); (repeat (have hS1 := hS'.1; replace hS' := hS'.2)); go_simp; (try with_reducible rfl); done)); simp only [Act.put, List.getElem_toArray, List.getElem_cons_zero, List.getElem_cons_succ, List.setIfInBounds_toArray, List.set_cons_zero, List.set_cons_succ]))
      refine wpS_store_mid _ rfl (by rfl) _ _ _ rfl _ _ _ rfl rfl HT1.out info_ed' (by simp [Value.oneCell']) trivial ?_
      simp only [Act.put, List.getElem_toArray, List.getElem_cons_zero, List.getElem_cons_succ, List.setIfInBounds_toArray, List.set_cons_zero, List.set_cons_succ]
      (first | (refine wpS_pass _ rfl (by rfl) ?_; simp only [Act.put, List.getElem_toArray, List.getElem_cons_zero, List.getElem_cons_succ, List.setIfInBounds_toArray, List.set_cons_zero, List.set_cons_succ]) | (refine wpS_take _ ?_ rfl (by rfl) ?_ ?_; rotate_left; (focus (intro w' hS'; (try dsimp only at hS'); (repeat (have hS1 := hS'.1; replace hS' := hS'.2)); go_simp; (try with_reducible rfl); done)); simp only [Act.put, List.getElem_toArray, List.getElem_cons_zero, List.getElem_cons_succ, List.setIfInBounds_toArray, List.set_cons_zero, List.set_cons_succ]))
      refine wpS_store_mid _ rfl (by rfl) _ _ _ rfl _ _ _ rfl rfl HT2.out info_ed' (by simp [Value.oneCell']) trivial ?_
      simp only [Act.put, List.getElem_toArray, List.getElem_cons_zero, List.getElem_cons_succ, List.setIfInBounds_toArray, List.set_cons_zero, List.set_cons_succ]
      refine wpS_done ?_
      go_wp2_with fail
      go_roundg (n - (i + 1))
      case measure => omega
      case rel => exact ⟨i + 1, j - 1, _, by have := HIJ.out; omega, by omega, rfl, by first | rfl | exact congrArg (Value.int .i64) (by omega) | go_num, by first | rfl | exact congrArg (Value.int .i64) (by omega) | go_num, HR4, HV4, HG4⟩
  · go_wp2_with fail
    go_end0
    refine ⟨rfl, ?_, HG.out⟩
    rw [← revI_end HV.out (by rw [HN.out]; exact HIJ.out) hlt hji]
    exact HR.out
end Go.Proofs.YtmniggjadfdheaaDoor
