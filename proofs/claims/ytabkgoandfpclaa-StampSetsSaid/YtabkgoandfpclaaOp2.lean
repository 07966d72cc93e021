
/- Edits, right or not. -/

import Derived.Test.YtabkgoandfpclaaOp1

namespace Go.Proofs.Ytabkgoandfpclaa

set_option linter.unusedVariables false

set_option linter.unusedSimpArgs false

open Go.RowKit

def stm0 : Stm := ⟨0, 0⟩
/-- is the i-th stamp of a list right, older than the operation, younger than the one before it? -/
def prevOk (os : List Stm) (s : Stm) : Nat → Bool
  | 0 => true
  | j + 1 => match os[j]? with | none => true | some p => decide (cmpS p s < 0)
def okAt (a : Stm) (os : List Stm) (i : Nat) : Bool := match os[i]? with | none => true | some s => rightB s && decide (cmpS s a < 0) && prevOk os s i
def goodOver (a : Stm) (os : List Stm) : Bool := (List.range os.length).all (okAt a os)
def goodEdit (o : OpM) : Bool := decide (cmpS o.node o.at_ < 0) && decide (o.par = stm0) && o.name.toList.isEmpty && !decide (o.data = zeros32) && decide (o.os.length ≤ 64) && goodOver o.at_ o.os

theorem neq_stm (s t : Stm) (w : World) : (binOp .neq 23 s.val t.val).run Try.prog w = .ok (.bool (!decide (s = t))) w := by
  obtain ⟨a, b⟩ := s
  obtain ⟨c, d⟩ := t
  unfold Stm.val
  simp [go_sem]
  by_cases h1 : a = c
  · by_cases h2 : b = d
    · simp [h1, h2]
    · simp [h1, h2]
  · simp [h1]

theorem okAt_get (a : Stm) (os : List Stm) (i : Nat) (h : i < os.length) : okAt a os i = (rightB os[i] && decide (cmpS os[i] a < 0) && prevOk os os[i] i) := by
  unfold okAt
  rw [List.getElem?_eq_getElem h]
theorem prevOk_succ (os : List Stm) (s : Stm) (j : Nat) (h : j < os.length) : prevOk os s (j + 1) = decide (cmpS os[j] s < 0) := by
  show (match os[j]? with | none => true | some p => decide (cmpS p s < 0)) = _
  rw [List.getElem?_eq_getElem h]
theorem goodOver_all {a : Stm} {os : List Stm} (h : ∀ j < os.length, okAt a os j = true) : goodOver a os = true := by
  unfold goodOver
  rw [List.all_eq_true]
  intro j hj
  exact h j (by simpa using hj)
theorem goodOver_bad {a : Stm} {os : List Stm} (i : Nat) (hi : i < os.length) (h : okAt a os i = false) : goodOver a os = false := by
  unfold goodOver
  rw [List.all_eq_false]
  exact ⟨i, by simpa using hi, by rw [h]; decide⟩
/-- a row, made and written whole -/
theorem row_place {w : World} (t : TypeId) (zs vs : List Value) (hl : zs.length = vs.length) : ∃ Wa W5, w.alloc (.cells zs.toArray t) = Wa ∧ Wa.setCells w.heap.size 0 vs.toArray.toList = W5 ∧ Hid (Wa.there w.heap.size 0 vs.toArray.size) ∧ Hid (W5.heap[w.heap.size]? = some (.cells vs.toArray t (0, 0))) ∧ Hid (Below w.heap.size w W5) := by
  have hrow : (w.alloc (.cells zs.toArray t)).heap[w.heap.size]? = some (.cells zs.toArray t (0, 0)) := heap_alloc_new w _
  have hb : Below w.heap.size w (w.alloc (.cells zs.toArray t)) := (Below.refl _ _).alloc (Nat.le_refl _) _
  refine ⟨_, _, rfl, rfl, Lib.hid ?_, Lib.hid ?_, Lib.hid (bel_grown hb hb.size (setCells_grown _ _ _ _) (Nat.le_refl _))⟩
  · have := there_of_row hrow
    simpa [hl] using this
  · simpa using row_setAll (cs := zs) (vs := vs) hrow hl
theorem Stm.cells_one (s : Stm) : s.cells.toArray.all (·.oneCell') = true := all_oneCell_toArray (by
  intro v hv
  simp [Stm.cells] at hv
  rcases hv with rfl | rfl <;> rfl)
theorem range_below {w w' : World} {g off : Nat} {cs : List Value} (h : w.rangeAt g off cs) (hg : g < w.heap.size) (hb : Below w.heap.size w w') : w'.rangeAt g off cs := fun j v hv =>
  (World.cell?_of_block (a := ⟨g, off + j, none⟩) (hb.block g hg)).trans (h j v hv)
theorem cell_below {w w' : World} {g off : Nat} {v : Value} (h : w.cell? ⟨g, off, none⟩ = some v) (hg : g < w.heap.size) (hb : Below w.heap.size w w') : w'.cell? ⟨g, off, none⟩ = some v :=
  (World.cell?_of_block (a := ⟨g, off, none⟩) (hb.block g hg)).trans h
/-- the i-th stamp of a list in memory -/
theorem rd_stm {w : World} {b off : Nat} {os : List Stm} (h : Rd w (some ⟨b, off, none⟩) (stc os)) (i : Nat) (hi : i < os.length) : w.rangeAt b (off + i * 2) os[i].cells := by
  obtain ⟨h0, h1⟩ := stc_get os i hi
  intro j v hv
  match j, hv with
  | 0, hv =>
    simp [Stm.cells] at hv; subst hv
    obtain ⟨b', o', he, hc⟩ := h _ _ h0
    cases he
    exact hc
  | 1, hv =>
    simp [Stm.cells] at hv; subst hv
    obtain ⟨b', o', he, hc⟩ := h _ _ h1
    cases he
    rw [show off + i * 2 + 1 = off + (i * 2 + 1) by omega]
    exact hc
  | j + 2, hv => simp [Stm.cells] at hv
section

variable {P : Program} {ops : Array Oper} {S : World → Prop} {Q : Exit → Act → World → Prop} {r : List (Bool × Nat)} {a : Act} {w : World}

theorem wpS_load_stm {i : Nat} (op : Oper) (ho : ops[i]? = some op) (hw : Region.wanted op (yielded ops a.tmps) = true) (ty : TypeId) (x : Operand) (hop : op.op = .load ty x)
    (b off : Nat) (hx : a.eval x = .pointer (some ⟨b, off, none⟩)) (s : Stm) (d : TypeDesc) (hS : ∀ w, S w → w.rangeAt b off s.cells)
    (hu : P.underlying ty = some d) (hd : d.isRow = true) (hi : (P.info? ty).map (·.size) = some 2)
    (h : wpS P ops S Q r (a.put op.dst s.val) w) : wpS P ops S Q ((true, i) :: r) a w :=
  wpS_load op ho hw ty x hop b off hx s.cells d hS hu hd hi h
end

theorem guard_stm (b : BinOp) (x y : Operand) (s t : Stm) (w : World) : (eqGuard b 23 x y s.val t.val).run Try.prog w = .ok () w := by
  obtain ⟨a, b⟩ := s
  obtain ⟨c, d⟩ := t
  unfold Stm.val
  simp [go_sem]

set_option maxRecDepth 100000 in
set_option maxHeartbeats 2000000 in
theorem edit_any (o : OpM) (w : World) (h : OpIn w o) : Calls Try.prog 41 #[o.val] w fun e w' => e = .returned (.bool (goodEdit o)) ∧ Below w.heap.size w w' := by
  obtain ⟨W1, hW1⟩ : ∃ W1, w.alloc (.cells o.cells.toArray 33) = W1 := ⟨_, rfl⟩
  have hrow : W1.heap[w.heap.size]? = some (.cells o.cells.toArray 33 (0, 0)) := by rw [← hW1]; exact heap_alloc_new w _
  have hb1 : Below w.heap.size w W1 := by rw [← hW1]; exact (Below.refl _ _).alloc (Nat.le_refl _) _
  obtain ⟨g, hg⟩ : ∃ g, w.heap.size = g := ⟨_, rfl⟩
  rw [hg] at hrow hb1
  have HID := Lib.hid (info_data o.data h.len)
  have HR1 := Lib.hid hrow
  have HL1 := Lib.hid (Array.getElem?_eq_some_iff.1 hrow).1
  have HB1 := Lib.hid hb1
  have R1 := opRow_of hrow h.len
  have HL := Lib.hid h.len
  have HN := Lib.hid h.nm
  obtain ⟨A, c, hov, hrd, hcl, hcm⟩ := h.ov
  have HOV := Lib.hid hov
  have HRD : Hid (∀ W, Below g w W → Rd W A (stc o.os)) := Lib.hid (fun W hb => hrd.below (by rw [hg]; exact hb))
  obtain ⟨V, hV⟩ : ∃ V, goodEdit o = V := ⟨_, rfl⟩
  have HV := Lib.hid hV
  unfold OpM.val
  rw [hg, hV]
  clear hrow hb1 h hV hov hrd
  go_enter Try.func41, Try.ntmps41
  go_wp2_with (first | ((with_reducible (refine wpList_load_stm 23 _ g 1 o.at_ R1.at_ Try.underlying23 rfl info_stm ?_ rfl ?_ ?_)); (exact rfl); (exact rfl)) | ((with_reducible (refine wpList_load_stm 23 _ g 3 o.node R1.node Try.underlying23 rfl info_stm ?_ rfl ?_ ?_)); (exact rfl); (exact rfl)) | ((with_reducible (refine wpList_load_stm 23 _ g 5 o.par R1.par Try.underlying23 rfl info_stm ?_ rfl ?_ ?_)); (exact rfl); (exact rfl)) | ((with_reducible (refine wpList_load_b8 30 _ g 8 o.data R1.data Try.underlying30 rfl HID.out ?_ rfl ?_ ?_)); (exact rfl); (exact rfl)))
  clear hg hW1
  refine (cmp_any o.node o.at_ W1).mono ?_
  rintro e w2 ⟨rfl, hb2⟩
  have HB2 := Lib.hid (HB1.out.trans (hb2.mono (Nat.le_of_lt HL1.out)))
  have hr2 := (hb2.block _ HL1.out).trans HR1.out
  have R2 := opRow_of hr2 HL.out
  have HR2 := Lib.hid hr2
  have HL2 := Lib.hid (Array.getElem?_eq_some_iff.1 hr2).1
  clear hb2 R1 hr2
  by_cases h1 : cmpS o.node o.at_ < 0
  · have h1' : decide (0 ≤ cmpS o.node o.at_) = false := decide_eq_false (by omega)
    have hpg : ∀ b x y w, (eqGuard b 23 x y o.par.val (.agg #[.int .i64 0, .int .i64 0])).run Try.prog w = .ok () w := fun b x y w => guard_stm b x y o.par stm0 w
    have hpe : ∀ w, (binOp .neq 23 o.par.val (.agg #[.int .i64 0, .int .i64 0])).run Try.prog w = .ok (.bool (!decide (o.par = stm0))) w := fun w => neq_stm o.par stm0 w
    have hed := fun w => eqin_zero o.data HL.out w
    have hv := R2.ov
    rw [HOV.out] at hv
    have hon := R2.name
    by_cases hok : o.par = stm0 ∧ o.name.toList = [] ∧ ¬ o.data = zeros32 ∧ o.os.length ≤ 64
    · obtain ⟨k1, k2, k3, k4⟩ := hok
      have hge : goodEdit o = goodOver o.at_ o.os := by
        unfold goodEdit
        rw [decide_eq_true h1, k1, k2, decide_eq_false k3, decide_eq_true k4]
        simp
      have HGE := Lib.hid hge
      have j1 : decide (o.par = stm0) = true := decide_eq_true k1
      have j2 : o.name.toList.isEmpty = true := by rw [k2]; rfl
      have j3 : decide (o.data = zeros32) = false := decide_eq_false k3
      have j4 : decide ((64 : Int) < (o.os.length : Int)) = false := decide_eq_false (by omega)
      rw [j1] at hpe
      rw [j3] at hed
      have hB0 := Below.refl w2.heap.size w2
      clear hge k1 k2 k3 j1 j3
      go_wp2_with (first | ((with_reducible (refine wpList_load_stm 23 _ g 1 o.at_ R2.at_ Try.underlying23 rfl info_stm ?_ rfl ?_ ?_)); (exact rfl); (exact rfl)) | ((with_reducible (refine wpList_load_stm 23 _ g 3 o.node R2.node Try.underlying23 rfl info_stm ?_ rfl ?_ ?_)); (exact rfl); (exact rfl)) | ((with_reducible (refine wpList_load_stm 23 _ g 5 o.par R2.par Try.underlying23 rfl info_stm ?_ rfl ?_ ?_)); (exact rfl); (exact rfl)) | ((with_reducible (refine wpList_load_b8 30 _ g 8 o.data R2.data Try.underlying30 rfl HID.out ?_ rfl ?_ ?_)); (exact rfl); (exact rfl)))
      go_loopg [37] (o.os.length * 1) (fun gk_ s wr => ∃ k : Nat, k ≤ o.os.length ∧ gk_ = o.os.length - k ∧ s = .int .i64 (k : Int) ∧ Below w2.heap.size w2 wr ∧ Hid (∀ j < k, okAt o.at_ o.os j = true))
      case atStart => exact ⟨0, by omega, by omega, rfl, hB0, Lib.hid (fun j hj => absurd hj (Nat.not_lt_zero _))⟩
      case round =>
        clear hv hon hed hpe hpg hB0 j2 j4 h1'
        obtain ⟨k, hk, rfl, rfl, hB, HOK⟩ := hrel
        by_cases hlt : k < o.os.length
        · have hpos : 0 < (stc o.os).length := by rw [stc_length]; omega
          have hBw := HB2.out.trans (hB.mono (Nat.le_of_lt HL2.out))
          have hrd2 := HRD.out wr hBw
          obtain ⟨b, off, hA, _⟩ := hrd2.all hpos
          subst hA
          have hbw := hrd2.lt hpos
          have RS := rd_stm hrd2 k hlt
          obtain ⟨s, hs⟩ : ∃ s, o.os[k] = s := ⟨_, rfl⟩
          rw [hs] at RS
          obtain ⟨Wa, W5, hWa, hW5, HTH, HRS, HB5⟩ := row_place (w := wr) 23 [.int .i64 0, .int .i64 0] s.cells rfl
          have HW5 := Lib.hid hW5
          have i1 : (k : Int) < (o.os.length : Int) := by omega
          have i2 : (o.os.length : Int) ≤ (c : Int) := by omega
          clear hW5
          go_wp2_with (first
            | ((with_reducible (refine wpList_load_stm 23 _ b (off + k * 2) s RS Try.underlying23 rfl info_stm ?_ rfl ?_ ?_)); (exact rfl); (exact rfl))
            | ((with_reducible (refine wpList_store_mid rfl _ _ _ rfl ?_ ?_ ?_ ?_ ?_ ?_ ?_ ?_ ?_)); (exact wr.heap.size); (exact 0); (exact s.cells.toArray); (exact rfl); (exact rfl); (exact HTH.out); (exact info_stm); (exact s.cells_one); rw [HW5.out]))
          have hr5 : W5.heap[g]? = some (.cells o.cells.toArray 33 (0, 0)) := (HB5.out.block _ (Nat.lt_of_lt_of_le HL2.out hB.size)).trans ((hB.block _ HL2.out).trans HR2.out)
          have R5 := opRow_of hr5 HL.out
          have HV5 : Hid (W5.cell? ⟨g, 40, none⟩ = some (.slice (some ⟨b, off, none⟩) o.os.length c)) := Lib.hid (by rw [R5.ov, HOV.out])
          have HG5 := Lib.hid (Array.getElem?_eq_some_iff.1 hr5).1
          have HS5 := Lib.hid (range_of_row HRS.out)
          have HL5 := Lib.hid (Array.getElem?_eq_some_iff.1 HRS.out).1
          have HBW := Lib.hid (hBw.trans (HB5.out.mono (Nat.le_of_lt (Nat.lt_of_lt_of_le HL2.out hB.size))))
          have HRD5 := Lib.hid (hrd2.below HB5.out)
          have HAT := Lib.hid R5.at_
          have HBL5 := Lib.hid (Nat.lt_of_lt_of_le hbw HB5.out.size)
          have HGET : Hid (okAt o.at_ o.os k = (rightB s && decide (cmpS s o.at_ < 0) && prevOk o.os s k)) := Lib.hid (by rw [okAt_get _ _ _ hlt, hs])
          have hBB := hB.trans (HB5.out.mono hB.size)
          have HL25 : Hid (w2.heap.size ≤ W5.heap.size) := Lib.hid hBB.size
          clear hr5 R5 hrd2 hbw RS hBw hpos hB
          refine wp_region_sched (fun w' => Below W5.heap.size W5 w' ∧ w'.cell? ⟨g, 40, none⟩ = some (.slice (some ⟨b, off, none⟩) o.os.length c))
            [(true, 0), (false, 1), (true, 2), (true, 3), (true, 4), (true, 5), (true, 6), (false, 7), (true, 8), (true, 9), (true, 10), (true, 11), (true, 12), (true, 13), (true, 14), (true, 15), (true, 16), (true, 17), (true, 18), (true, 19), (true, 20), (false, 21), (true, 22), (true, 23), (true, 24)] (by kernel_rfl) (by kernel_rfl) rfl (by kernel_rfl) ⟨(Below.refl _ _).drew, HV5.out⟩ ?_
          refine wpS_load_stm _ rfl (by rfl) _ _ rfl _ _ rfl s _ (fun w' hS' => range_below HS5.out HL5.out hS'.1) Try.underlying23 rfl info_stm ?_
          simp only [Act.put, List.getElem_toArray, List.getElem_cons_zero, List.getElem_cons_succ, List.setIfInBounds_toArray, List.set_cons_zero, List.set_cons_succ]
          refine wpS_do _ rfl (by rfl) (fun K hK => ?_)
          go_simp
          refine (right_any s _).mono ?_
          rintro e w3 ⟨rfl, hb3⟩
          have hb53 : Below W5.heap.size W5 w3 := (Below.refl _ _).drew.trans hb3
          refine hK.out _ _ ⟨hb53, cell_below HV5.out HG5.out hb53⟩ (fun hS => ?_)
          clear hK
          cases c1 : rightB s
          · (repeat (first | (refine wpS_pass _ rfl (by rfl) ?_; simp only [Act.put, List.getElem_toArray, List.getElem_cons_zero, List.getElem_cons_succ, List.setIfInBounds_toArray, List.set_cons_zero, List.set_cons_succ]) | (refine wpS_take _ ?_ rfl (by rfl) ?_ ?_; rotate_left; (focus (intro w' hS'; (try dsimp only at hS'); (repeat (have hS1 := hS'.1; replace hS' := hS'.2)); go_simp; (try with_reducible rfl); done)); simp only [Act.put, List.getElem_toArray, List.getElem_cons_zero, List.getElem_cons_succ, List.setIfInBounds_toArray, List.set_cons_zero, List.set_cons_succ])))
            refine wpS_skip _ rfl (by rfl) hS ?_
            simp only [Act.put, List.getElem_toArray, List.getElem_cons_zero, List.getElem_cons_succ, List.setIfInBounds_toArray, List.set_cons_zero, List.set_cons_succ]
            (repeat (first | (refine wpS_pass _ rfl (by rfl) ?_; simp only [Act.put, List.getElem_toArray, List.getElem_cons_zero, List.getElem_cons_succ, List.setIfInBounds_toArray, List.set_cons_zero, List.set_cons_succ]) | (refine wpS_take _ ?_ rfl (by rfl) ?_ ?_; rotate_left; (focus (intro w' hS'; (try dsimp only at hS'); (repeat (have hS1 := hS'.1; replace hS' := hS'.2)); go_simp; (try with_reducible rfl); done)); simp only [Act.put, List.getElem_toArray, List.getElem_cons_zero, List.getElem_cons_succ, List.setIfInBounds_toArray, List.set_cons_zero, List.set_cons_succ])))
            refine wpS_skip _ rfl (by rfl) hS ?_
            simp only [Act.put, List.getElem_toArray, List.getElem_cons_zero, List.getElem_cons_succ, List.setIfInBounds_toArray, List.set_cons_zero, List.set_cons_succ]
            (repeat (first | (refine wpS_pass _ rfl (by rfl) ?_; simp only [Act.put, List.getElem_toArray, List.getElem_cons_zero, List.getElem_cons_succ, List.setIfInBounds_toArray, List.set_cons_zero, List.set_cons_succ]) | (refine wpS_take _ ?_ rfl (by rfl) ?_ ?_; rotate_left; (focus (intro w' hS'; (try dsimp only at hS'); (repeat (have hS1 := hS'.1; replace hS' := hS'.2)); go_simp; (try with_reducible rfl); done)); simp only [Act.put, List.getElem_toArray, List.getElem_cons_zero, List.getElem_cons_succ, List.setIfInBounds_toArray, List.set_cons_zero, List.set_cons_succ])))
            refine wpS_done ?_
            go_wp2_with fail
            go_ret
            exact ⟨ret_bool (by rw [← HV.out, HGE.out]; exact (goodOver_bad k hlt (by rw [HGET.out, c1, Bool.false_and, Bool.false_and])).symm), HBW.out.trans (hb53.mono (Nat.le_of_lt HG5.out))⟩
          · (repeat (first | (refine wpS_pass _ rfl (by rfl) ?_; simp only [Act.put, List.getElem_toArray, List.getElem_cons_zero, List.getElem_cons_succ, List.setIfInBounds_toArray, List.set_cons_zero, List.set_cons_succ]) | (refine wpS_take _ ?_ rfl (by rfl) ?_ ?_; rotate_left; (focus (intro w' hS'; (try dsimp only at hS'); (repeat (have hS1 := hS'.1; replace hS' := hS'.2)); go_simp; (try with_reducible rfl); done)); simp only [Act.put, List.getElem_toArray, List.getElem_cons_zero, List.getElem_cons_succ, List.setIfInBounds_toArray, List.set_cons_zero, List.set_cons_succ])))
            refine wpS_load_stm _ rfl (by rfl) _ _ rfl _ _ rfl s _ (fun w' hS' => range_below HS5.out HL5.out hS'.1) Try.underlying23 rfl info_stm ?_
            simp only [Act.put, List.getElem_toArray, List.getElem_cons_zero, List.getElem_cons_succ, List.setIfInBounds_toArray, List.set_cons_zero, List.set_cons_succ]
            (repeat (first | (refine wpS_pass _ rfl (by rfl) ?_; simp only [Act.put, List.getElem_toArray, List.getElem_cons_zero, List.getElem_cons_succ, List.setIfInBounds_toArray, List.set_cons_zero, List.set_cons_succ]) | (refine wpS_take _ ?_ rfl (by rfl) ?_ ?_; rotate_left; (focus (intro w' hS'; (try dsimp only at hS'); (repeat (have hS1 := hS'.1; replace hS' := hS'.2)); go_simp; (try with_reducible rfl); done)); simp only [Act.put, List.getElem_toArray, List.getElem_cons_zero, List.getElem_cons_succ, List.setIfInBounds_toArray, List.set_cons_zero, List.set_cons_succ])))
            refine wpS_load_stm _ rfl (by rfl) _ _ rfl _ _ rfl o.at_ _ (fun w' hS' => range_below HAT.out HG5.out hS'.1) Try.underlying23 rfl info_stm ?_
            simp only [Act.put, List.getElem_toArray, List.getElem_cons_zero, List.getElem_cons_succ, List.setIfInBounds_toArray, List.set_cons_zero, List.set_cons_succ]
            clear hS
            refine wpS_do _ rfl (by rfl) (fun K hK => ?_)
            go_simp
            refine (cmp_any s o.at_ _).mono ?_
            rintro e w4 ⟨rfl, hb4⟩
            have hb54 := hb53.trans (hb4.mono hb53.size)
            refine hK.out _ _ ⟨hb54, cell_below HV5.out HG5.out hb54⟩ (fun hS => ?_)
            clear hK
            by_cases c2 : cmpS s o.at_ < 0
            · have d2 : decide (0 ≤ cmpS s o.at_) = false := decide_eq_false (by omega)
              by_cases hk0 : k = 0
              · have d3 : decide ((0 : Int) < (k : Int)) = false := decide_eq_false (by omega)
                (repeat (first | (refine wpS_pass _ rfl (by rfl) ?_; simp only [Act.put, List.getElem_toArray, List.getElem_cons_zero, List.getElem_cons_succ, List.setIfInBounds_toArray, List.set_cons_zero, List.set_cons_succ]) | (refine wpS_take _ ?_ rfl (by rfl) ?_ ?_; rotate_left; (focus (intro w' hS'; (try dsimp only at hS'); (repeat (have hS1 := hS'.1; replace hS' := hS'.2)); go_simp; (try with_reducible rfl); done)); simp only [Act.put, List.getElem_toArray, List.getElem_cons_zero, List.getElem_cons_succ, List.setIfInBounds_toArray, List.set_cons_zero, List.set_cons_succ])))
                refine wpS_skip _ rfl (by rfl) hS ?_
                simp only [Act.put, List.getElem_toArray, List.getElem_cons_zero, List.getElem_cons_succ, List.setIfInBounds_toArray, List.set_cons_zero, List.set_cons_succ]
                (repeat (first | (refine wpS_pass _ rfl (by rfl) ?_; simp only [Act.put, List.getElem_toArray, List.getElem_cons_zero, List.getElem_cons_succ, List.setIfInBounds_toArray, List.set_cons_zero, List.set_cons_succ]) | (refine wpS_take _ ?_ rfl (by rfl) ?_ ?_; rotate_left; (focus (intro w' hS'; (try dsimp only at hS'); (repeat (have hS1 := hS'.1; replace hS' := hS'.2)); go_simp; (try with_reducible rfl); done)); simp only [Act.put, List.getElem_toArray, List.getElem_cons_zero, List.getElem_cons_succ, List.setIfInBounds_toArray, List.set_cons_zero, List.set_cons_succ])))
                refine wpS_done ?_
                go_wp2_with fail
                go_roundg (o.os.length - (k + 1))
                case measure => omega
                case rel => exact ⟨k + 1, by omega, rfl, by first | rfl | exact congrArg (Value.int .i64) (by omega) | go_num, hBB.trans (hb54.mono HL25.out), Lib.hid (fun j hj => by
                  rcases Nat.lt_or_ge j k with h | h
                  · exact HOK.out j h
                  · obtain rfl : j = k := by omega
                    rw [HGET.out]; rw [c1, decide_eq_true c2, hk0]; rfl)⟩
              · have d3 : decide ((0 : Int) < (k : Int)) = true := decide_eq_true (by omega)
                have d3n : 0 < k := by omega
                have d3m : decide (0 < k) = true := decide_eq_true d3n
                obtain ⟨j, hj⟩ : ∃ j, k = j + 1 := ⟨k - 1, by omega⟩
                have hjl : j < o.os.length := by omega
                obtain ⟨p, hp⟩ : ∃ p, o.os[j] = p := ⟨_, rfl⟩
                have RP := rd_stm HRD5.out j hjl
                rw [hp] at RP
                have HRP := Lib.hid RP
                have HPV : Hid (prevOk o.os s k = decide (cmpS p s < 0)) := Lib.hid (by rw [hj, prevOk_succ _ _ _ hjl, hp])
                have hsub := fun w => bin_sub (P := Try.prog) (t := 3) (k : Int) 1 (j : Int) w (by omega) (by omega) (by omega)
                have l1 : (j : Int) < (o.os.length : Int) := by omega
                clear hp RP hj
                (first | (refine wpS_pass _ rfl (by rfl) ?_; simp only [Act.put, List.getElem_toArray, List.getElem_cons_zero, List.getElem_cons_succ, List.setIfInBounds_toArray, List.set_cons_zero, List.set_cons_succ]) | (refine wpS_take _ ?_ rfl (by rfl) ?_ ?_; rotate_left; (focus (intro w' hS'; (try dsimp only at hS'); (repeat (have hS1 := hS'.1; replace hS' := hS'.2)); go_simp; (try with_reducible rfl); done)); simp only [Act.put, List.getElem_toArray, List.getElem_cons_zero, List.getElem_cons_succ, List.setIfInBounds_toArray, List.set_cons_zero, List.set_cons_succ]))
                (first | (refine wpS_pass _ rfl (by rfl) ?_; simp only [Act.put, List.getElem_toArray, List.getElem_cons_zero, List.getElem_cons_succ, List.setIfInBounds_toArray, List.set_cons_zero, List.set_cons_succ]) | (refine wpS_take _ ?_ rfl (by rfl) ?_ ?_; rotate_left; (focus (intro w' hS'; (try dsimp only at hS'); (repeat (have hS1 := hS'.1; replace hS' := hS'.2)); go_simp; (try with_reducible rfl); done)); simp only [Act.put, List.getElem_toArray, List.getElem_cons_zero, List.getElem_cons_succ, List.setIfInBounds_toArray, List.set_cons_zero, List.set_cons_succ]))
                (first | (refine wpS_pass _ rfl (by rfl) ?_; simp only [Act.put, List.getElem_toArray, List.getElem_cons_zero, List.getElem_cons_succ, List.setIfInBounds_toArray, List.set_cons_zero, List.set_cons_succ]) | (refine wpS_take _ ?_ rfl (by rfl) ?_ ?_; rotate_left; (focus (intro w' hS'; (try dsimp only at hS'); (repeat (have hS1 := hS'.1; replace hS' := hS'.2)); go_simp; (try with_reducible rfl); done)); simp only [Act.put, List.getElem_toArray, List.getElem_cons_zero, List.getElem_cons_succ, List.setIfInBounds_toArray, List.set_cons_zero, List.set_cons_succ]))
                (first | (refine wpS_pass _ rfl (by rfl) ?_; simp only [Act.put, List.getElem_toArray, List.getElem_cons_zero, List.getElem_cons_succ, List.setIfInBounds_toArray, List.set_cons_zero, List.set_cons_succ]) | (refine wpS_take _ ?_ rfl (by rfl) ?_ ?_; rotate_left; (focus (intro w' hS'; (try dsimp only at hS'); (repeat (have hS1 := hS'.1; replace hS' := hS'.2)); go_simp; (try with_reducible rfl); done)); simp only [Act.put, List.getElem_toArray, List.getElem_cons_zero, List.getElem_cons_succ, List.setIfInBounds_toArray, List.set_cons_zero, List.set_cons_succ]))
                (first | (refine wpS_pass _ rfl (by rfl) ?_; simp only [Act.put, List.getElem_toArray, List.getElem_cons_zero, List.getElem_cons_succ, List.setIfInBounds_toArray, List.set_cons_zero, List.set_cons_succ]) | (refine wpS_take _ ?_ rfl (by rfl) ?_ ?_; rotate_left; (focus (intro w' hS'; (try dsimp only at hS'); (repeat (have hS1 := hS'.1; replace hS' := hS'.2)); go_simp; (try with_reducible rfl); done)); simp only [Act.put, List.getElem_toArray, List.getElem_cons_zero, List.getElem_cons_succ, List.setIfInBounds_toArray, List.set_cons_zero, List.set_cons_succ]))
                (first | (refine wpS_pass _ rfl (by rfl) ?_; simp only [Act.put, List.getElem_toArray, List.getElem_cons_zero, List.getElem_cons_succ, List.setIfInBounds_toArray, List.set_cons_zero, List.set_cons_succ]) | (refine wpS_take _ ?_ rfl (by rfl) ?_ ?_; rotate_left; (focus (intro w' hS'; (try dsimp only at hS'); (repeat (have hS1 := hS'.1; replace hS' := hS'.2)); go_simp; (try with_reducible rfl); done)); simp only [Act.put, List.getElem_toArray, List.getElem_cons_zero, List.getElem_cons_succ, List.setIfInBounds_toArray, List.set_cons_zero, List.set_cons_succ]))
                (first | (refine wpS_pass _ rfl (by rfl) ?_; simp only [Act.put, List.getElem_toArray, List.getElem_cons_zero, List.getElem_cons_succ, List.setIfInBounds_toArray, List.set_cons_zero, List.set_cons_succ]) | (refine wpS_take _ ?_ rfl (by rfl) ?_ ?_; rotate_left; (focus (intro w' hS'; (try dsimp only at hS'); (repeat (have hS1 := hS'.1; replace hS' := hS'.2)); go_simp; (try with_reducible rfl); done)); simp only [Act.put, List.getElem_toArray, List.getElem_cons_zero, List.getElem_cons_succ, List.setIfInBounds_toArray, List.set_cons_zero, List.set_cons_succ]))
                (first | (refine wpS_pass _ rfl (by rfl) ?_; simp only [Act.put, List.getElem_toArray, List.getElem_cons_zero, List.getElem_cons_succ, List.setIfInBounds_toArray, List.set_cons_zero, List.set_cons_succ]) | (refine wpS_take _ ?_ rfl (by rfl) ?_ ?_; rotate_left; (focus (intro w' hS'; (try dsimp only at hS'); (repeat (have hS1 := hS'.1; replace hS' := hS'.2)); go_simp; (try with_reducible rfl); done)); simp only [Act.put, List.getElem_toArray, List.getElem_cons_zero, List.getElem_cons_succ, List.setIfInBounds_toArray, List.set_cons_zero, List.set_cons_succ]))
                (first | (refine wpS_pass _ rfl (by rfl) ?_; simp only [Act.put, List.getElem_toArray, List.getElem_cons_zero, List.getElem_cons_succ, List.setIfInBounds_toArray, List.set_cons_zero, List.set_cons_succ]) | (refine wpS_take _ ?_ rfl (by rfl) ?_ ?_; rotate_left; (focus (intro w' hS'; (try dsimp only at hS'); (repeat (have hS1 := hS'.1; replace hS' := hS'.2)); go_simp; (try with_reducible rfl); done)); simp only [Act.put, List.getElem_toArray, List.getElem_cons_zero, List.getElem_cons_succ, List.setIfInBounds_toArray, List.set_cons_zero, List.set_cons_succ]))
                refine wpS_take _ _ rfl (by rfl) (fun w' hS' => exec_bin _ _ _ _ _ rfl _ _ _ rfl rfl rfl (hsub w')) ?_
                simp only [Act.put, List.getElem_toArray, List.getElem_cons_zero, List.getElem_cons_succ, List.setIfInBounds_toArray, List.set_cons_zero, List.set_cons_succ]
                clear hsub
                (first | (refine wpS_pass _ rfl (by rfl) ?_; simp only [Act.put, List.getElem_toArray, List.getElem_cons_zero, List.getElem_cons_succ, List.setIfInBounds_toArray, List.set_cons_zero, List.set_cons_succ]) | (refine wpS_take _ ?_ rfl (by rfl) ?_ ?_; rotate_left; (focus (intro w' hS'; (try dsimp only at hS'); (repeat (have hS1 := hS'.1; replace hS' := hS'.2)); go_simp; (try with_reducible rfl); done)); simp only [Act.put, List.getElem_toArray, List.getElem_cons_zero, List.getElem_cons_succ, List.setIfInBounds_toArray, List.set_cons_zero, List.set_cons_succ]))
                refine wpS_load_stm _ rfl (by rfl) _ _ rfl b (off + j * 2) rfl p _ (fun w' hS' => range_below HRP.out HBL5.out hS'.1) Try.underlying23 rfl info_stm ?_
                simp only [Act.put, List.getElem_toArray, List.getElem_cons_zero, List.getElem_cons_succ, List.setIfInBounds_toArray, List.set_cons_zero, List.set_cons_succ]
                refine wpS_load_stm _ rfl (by rfl) _ _ rfl _ _ rfl s _ (fun w' hS' => range_below HS5.out HL5.out hS'.1) Try.underlying23 rfl info_stm ?_
                simp only [Act.put, List.getElem_toArray, List.getElem_cons_zero, List.getElem_cons_succ, List.setIfInBounds_toArray, List.set_cons_zero, List.set_cons_succ]
                clear hS
                refine wpS_do _ rfl (by rfl) (fun K hK => ?_)
                go_simp
                refine (cmp_any p s _).mono ?_
                rintro e w6 ⟨rfl, hb6⟩
                have hb56 := hb54.trans (hb6.mono hb54.size)
                refine hK.out _ _ ⟨hb56, cell_below HV5.out HG5.out hb56⟩ (fun hS => ?_)
                clear hK
                by_cases c3 : cmpS p s < 0
                · have d4 : decide (0 ≤ cmpS p s) = false := decide_eq_false (by omega)
                  (repeat (first | (refine wpS_pass _ rfl (by rfl) ?_; simp only [Act.put, List.getElem_toArray, List.getElem_cons_zero, List.getElem_cons_succ, List.setIfInBounds_toArray, List.set_cons_zero, List.set_cons_succ]) | (refine wpS_take _ ?_ rfl (by rfl) ?_ ?_; rotate_left; (focus (intro w' hS'; (try dsimp only at hS'); (repeat (have hS1 := hS'.1; replace hS' := hS'.2)); go_simp; (try with_reducible rfl); done)); simp only [Act.put, List.getElem_toArray, List.getElem_cons_zero, List.getElem_cons_succ, List.setIfInBounds_toArray, List.set_cons_zero, List.set_cons_succ])))
                  refine wpS_done ?_
                  go_wp2_with fail
                  go_roundg (o.os.length - (k + 1))
                  case measure => omega
                  case rel => exact ⟨k + 1, by omega, rfl, by first | rfl | exact congrArg (Value.int .i64) (by omega) | go_num, hBB.trans (hb56.mono HL25.out), Lib.hid (fun j hj => by
                    rcases Nat.lt_or_ge j k with h | h
                    · exact HOK.out j h
                    · obtain rfl : j = k := by omega
                      rw [HGET.out]; rw [c1, decide_eq_true c2, HPV.out, decide_eq_true c3]; rfl)⟩
                · have d4 : decide (0 ≤ cmpS p s) = true := decide_eq_true (by omega)
                  (repeat (first | (refine wpS_pass _ rfl (by rfl) ?_; simp only [Act.put, List.getElem_toArray, List.getElem_cons_zero, List.getElem_cons_succ, List.setIfInBounds_toArray, List.set_cons_zero, List.set_cons_succ]) | (refine wpS_take _ ?_ rfl (by rfl) ?_ ?_; rotate_left; (focus (intro w' hS'; (try dsimp only at hS'); (repeat (have hS1 := hS'.1; replace hS' := hS'.2)); go_simp; (try with_reducible rfl); done)); simp only [Act.put, List.getElem_toArray, List.getElem_cons_zero, List.getElem_cons_succ, List.setIfInBounds_toArray, List.set_cons_zero, List.set_cons_succ])))
                  refine wpS_done ?_
                  go_wp2_with fail
                  go_ret
                  exact ⟨ret_bool (by rw [← HV.out, HGE.out]; exact (goodOver_bad k hlt (by rw [HGET.out, HPV.out, decide_eq_false (show ¬ cmpS p s < 0 by omega), Bool.and_false])).symm), HBW.out.trans (hb56.mono (Nat.le_of_lt HG5.out))⟩
            · have d2 : decide (0 ≤ cmpS s o.at_) = true := decide_eq_true (by omega)
              (repeat (first | (refine wpS_pass _ rfl (by rfl) ?_; simp only [Act.put, List.getElem_toArray, List.getElem_cons_zero, List.getElem_cons_succ, List.setIfInBounds_toArray, List.set_cons_zero, List.set_cons_succ]) | (refine wpS_take _ ?_ rfl (by rfl) ?_ ?_; rotate_left; (focus (intro w' hS'; (try dsimp only at hS'); (repeat (have hS1 := hS'.1; replace hS' := hS'.2)); go_simp; (try with_reducible rfl); done)); simp only [Act.put, List.getElem_toArray, List.getElem_cons_zero, List.getElem_cons_succ, List.setIfInBounds_toArray, List.set_cons_zero, List.set_cons_succ])))
              refine wpS_skip _ rfl (by rfl) hS ?_
              simp only [Act.put, List.getElem_toArray, List.getElem_cons_zero, List.getElem_cons_succ, List.setIfInBounds_toArray, List.set_cons_zero, List.set_cons_succ]
              (repeat (first | (refine wpS_pass _ rfl (by rfl) ?_; simp only [Act.put, List.getElem_toArray, List.getElem_cons_zero, List.getElem_cons_succ, List.setIfInBounds_toArray, List.set_cons_zero, List.set_cons_succ]) | (refine wpS_take _ ?_ rfl (by rfl) ?_ ?_; rotate_left; (focus (intro w' hS'; (try dsimp only at hS'); (repeat (have hS1 := hS'.1; replace hS' := hS'.2)); go_simp; (try with_reducible rfl); done)); simp only [Act.put, List.getElem_toArray, List.getElem_cons_zero, List.getElem_cons_succ, List.setIfInBounds_toArray, List.set_cons_zero, List.set_cons_succ])))
              refine wpS_done ?_
              go_wp2_with fail
              go_ret
              exact ⟨ret_bool (by rw [← HV.out, HGE.out]; exact (goodOver_bad k hlt (by rw [HGET.out, decide_eq_false (show ¬ cmpS s o.at_ < 0 by omega), Bool.and_false, Bool.false_and])).symm), HBW.out.trans (hb54.mono (Nat.le_of_lt HG5.out))⟩
        · obtain rfl : k = o.os.length := by omega
          go_wp2_with fail
          go_ret
          exact ⟨ret_bool (by rw [← HV.out, HGE.out, goodOver_all HOK.out]), HB2.out.trans (hB.mono (Nat.le_of_lt HL2.out))⟩
    · go_wp2_with (first | ((with_reducible (refine wpList_load_stm 23 _ g 1 o.at_ R2.at_ Try.underlying23 rfl info_stm ?_ rfl ?_ ?_)); (exact rfl); (exact rfl)) | ((with_reducible (refine wpList_load_stm 23 _ g 3 o.node R2.node Try.underlying23 rfl info_stm ?_ rfl ?_ ?_)); (exact rfl); (exact rfl)) | ((with_reducible (refine wpList_load_stm 23 _ g 5 o.par R2.par Try.underlying23 rfl info_stm ?_ rfl ?_ ?_)); (exact rfl); (exact rfl)) | ((with_reducible (refine wpList_load_b8 30 _ g 8 o.data R2.data Try.underlying30 rfl HID.out ?_ rfl ?_ ?_)); (exact rfl); (exact rfl)))
      all_goals first
        | (go_ret
           exact ⟨ret_bool (by rw [← HV.out]; unfold goodEdit; first | (simp_all; done) | (rw [decide_eq_false (show ¬ o.os.length ≤ 64 by omega)]; simp)), HB2.out⟩)
        | (exfalso
           exact hok ⟨by assumption, by assumption, by assumption, by omega⟩)
  · have h1' : decide (0 ≤ cmpS o.node o.at_) = true := decide_eq_true (by omega)
    go_wp2_with (first | ((with_reducible (refine wpList_load_stm 23 _ g 1 o.at_ R2.at_ Try.underlying23 rfl info_stm ?_ rfl ?_ ?_)); (exact rfl); (exact rfl)) | ((with_reducible (refine wpList_load_stm 23 _ g 3 o.node R2.node Try.underlying23 rfl info_stm ?_ rfl ?_ ?_)); (exact rfl); (exact rfl)) | ((with_reducible (refine wpList_load_stm 23 _ g 5 o.par R2.par Try.underlying23 rfl info_stm ?_ rfl ?_ ?_)); (exact rfl); (exact rfl)) | ((with_reducible (refine wpList_load_b8 30 _ g 8 o.data R2.data Try.underlying30 rfl HID.out ?_ rfl ?_ ?_)); (exact rfl); (exact rfl)))
    go_ret
    exact ⟨ret_bool (by rw [← HV.out]; unfold goodEdit; rw [decide_eq_false (by omega)]; simp), HB2.out⟩
end Go.Proofs.Ytabkgoandfpclaa
