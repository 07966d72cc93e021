
/- Operations as values; a stamp of a row is read whole; an operation's own row. -/

import Derived.Test.YtabkgoandfpclaaName4

namespace Go.Proofs.Ytabkgoandfpclaa

set_option linter.unusedVariables false

set_option linter.unusedSimpArgs false

open Go.RowKit

def Stm.cells (s : Stm) : List Value := [.int .i64 s.t, .int .i64 s.r]
theorem Stm.val_cells (s : Stm) : s.val = .agg s.cells.toArray := rfl
def stc (os : List Stm) : List Value := os.flatMap Stm.cells
theorem stc_length (os : List Stm) : (stc os).length = os.length * 2 := by
  induction os with
  | nil => rfl
  | cons s os ih => simp [stc, Stm.cells] at ih ⊢; omega
theorem stc_get (os : List Stm) : ∀ (i : Nat) (h : i < os.length), (stc os)[i * 2]? = some (.int .i64 os[i].t) ∧ (stc os)[i * 2 + 1]? = some (.int .i64 os[i].r) := by
  induction os with
  | nil => intro i h; simp at h
  | cons s os ih =>
    intro i h
    cases i with
    | zero => exact ⟨rfl, rfl⟩
    | succ i =>
      have := ih i (by simpa using h)
      have e1 : (i + 1) * 2 = i * 2 + 2 := by omega
      rw [e1]
      exact this

structure OpM where
  kind : Int
  at_ : Stm
  node : Stm
  par : Stm
  name : ByteArray
  data : List UInt8
  ov : Value
  os : List Stm
def OpM.cells (o : OpM) : List Value := [.int .i64 o.kind, .int .i64 o.at_.t, .int .i64 o.at_.r, .int .i64 o.node.t, .int .i64 o.node.r, .int .i64 o.par.t, .int .i64 o.par.r, .string o.name] ++ (b8s o.data ++ [o.ov])
def OpM.val (o : OpM) : Value := .agg o.cells.toArray
/-- an operation whose list lies in memory -/
structure OpIn (w : World) (o : OpM) : Prop where
  len : o.data.length = 32
  nm : o.name.size ≤ 9223372036854775807
  ov : ∃ A c, o.ov = .slice A o.os.length c ∧ Rd w A (stc o.os) ∧ o.os.length ≤ c ∧ c ≤ 9223372036854775807
theorem OpIn.below {w w' : World} {o : OpM} (h : OpIn w o) (hb : Below w.heap.size w w') : OpIn w' o :=
  ⟨h.len, h.nm, by obtain ⟨A, c, h1, h2, h3, h4⟩ := h.ov; exact ⟨A, c, h1, h2.below hb, h3, h4⟩⟩
theorem OpM.cells_len (o : OpM) (h : o.data.length = 32) : o.cells.length = 41 := by simp [OpM.cells, b8s, h]
theorem OpM.cells_one (o : OpM) (h : ∃ A n c, o.ov = .slice A n c) : ∀ v ∈ o.cells, v.oneCell' = true := by
  obtain ⟨A, n, c, h⟩ := h
  intro v hv
  simp only [OpM.cells, List.mem_append, List.mem_cons, List.not_mem_nil, or_false] at hv
  rcases hv with (rfl | rfl | rfl | rfl | rfl | rfl | rfl | rfl) | hv | rfl
  · rfl
  · rfl
  · rfl
  · rfl
  · rfl
  · rfl
  · rfl
  · rfl
  · exact b8s_one' _ v hv
  · rw [h]; rfl

/-- the row of an operation -/
structure OpRow (w : World) (g : Nat) (o : OpM) : Prop where
  kind : w.cell? ⟨g, 0, none⟩ = some (.int .i64 o.kind)
  at_ : w.rangeAt g 1 o.at_.cells
  node : w.rangeAt g 3 o.node.cells
  par : w.rangeAt g 5 o.par.cells
  name : w.cell? ⟨g, 7, none⟩ = some (.string o.name)
  data : w.rangeAt g 8 (b8s o.data)
  ov : w.cell? ⟨g, 40, none⟩ = some o.ov
theorem opRow_of {w : World} {g : Nat} {o : OpM} {t : TypeId} (h : w.heap[g]? = some (.cells o.cells.toArray t (0, 0))) (hl : o.data.length = 32) : OpRow w g o := by
  have hc : ∀ i, w.cell? ⟨g, i, none⟩ = o.cells[i]? := fun i => by rw [row_cell h]; simp
  have h2 : ∀ (k : Nat) (s : Stm), o.cells[k]? = some (.int .i64 s.t) → o.cells[k + 1]? = some (.int .i64 s.r) → w.rangeAt g k s.cells := by
    intro k s h0 h1 j v hv
    match j, hv with
    | 0, hv => simp [Stm.cells] at hv; subst hv; rw [hc]; exact h0
    | 1, hv => simp [Stm.cells] at hv; subst hv; rw [hc]; exact h1
    | j + 2, hv => simp [Stm.cells] at hv
  refine ⟨by rw [hc]; rfl, h2 1 _ rfl rfl, h2 3 _ rfl rfl, h2 5 _ rfl rfl, by rw [hc]; rfl, fun j v hv => ?_, ?_⟩
  · rw [hc]
    have hj : j < (b8s o.data).length := (List.getElem?_eq_some_iff.1 hv).1
    unfold OpM.cells
    rw [List.getElem?_append_right (by simp)]
    simp only [List.length_cons, List.length_nil]
    rw [show 8 + j - (0 + 1 + 1 + 1 + 1 + 1 + 1 + 1 + 1) = j by omega, List.getElem?_append_left hj]
    exact hv
  · rw [hc]
    unfold OpM.cells
    rw [List.getElem?_append_right (by simp)]
    simp only [List.length_cons, List.length_nil]
    rw [List.getElem?_append_right (by rw [b8s_length, hl]; decide), b8s_length, hl]
    rfl

section

variable {P : Program} {ops : Array Oper} {rest : List Oper} {op : Oper} {a : Act} {w : World} {Q : Exit → Act → World → Prop}

theorem wpList_load_stm (ty : TypeId) (x : Operand) (g off : Nat) (s : Stm) (hs : w.rangeAt g off s.cells) {d : TypeDesc} (hu : P.underlying ty = some d) (hd : d.isRow = true) (hi : (P.info? ty).map (·.size) = some 2)
    (hw : Region.wanted op (yielded ops a.tmps) = true) (ho : op.op = .load ty x) (hx : a.eval x = .pointer (some ⟨g, off, none⟩))
    (h : wpList P ops Q rest (a.put op.dst s.val) w) : wpList P ops Q (op :: rest) a w :=
  wpList_wanted hw fun _ hK => wp_load_mid ty x ho g off hx s.cells d hs hu hd hi (hK _ _ h)
theorem wpList_load_b8 (ty : TypeId) (x : Operand) (g off : Nat) (bs : List UInt8) (hs : w.rangeAt g off (b8s bs)) {d : TypeDesc} (hu : P.underlying ty = some d) (hd : d.isRow = true) (hi : (P.info? ty).map (·.size) = some (b8s bs).length)
    (hw : Region.wanted op (yielded ops a.tmps) = true) (ho : op.op = .load ty x) (hx : a.eval x = .pointer (some ⟨g, off, none⟩))
    (h : wpList P ops Q rest (a.put op.dst (.agg (b8s bs).toArray)) w) : wpList P ops Q (op :: rest) a w :=
  wpList_wanted hw fun _ hK => wp_load_mid ty x ho g off hx (b8s bs) d hs hu hd hi (hK _ _ h)
theorem wpList_load_op (ty : TypeId) (x : Operand) (g : Nat) (o : OpM) {t : TypeId} {fr : Nat × Nat} (hs : w.heap[g]? = some (.cells o.cells.toArray t fr)) {d : TypeDesc} (hu : P.underlying ty = some d) (hd : d.isRow = true) (hi : (P.info? ty).map (·.size) = some o.cells.toArray.size)
    (hw : Region.wanted op (yielded ops a.tmps) = true) (ho : op.op = .load ty x) (hx : a.eval x = .pointer (some ⟨g, 0, none⟩))
    (h : wpList P ops Q rest (a.put op.dst o.val) w) : wpList P ops Q (op :: rest) a w :=
  wpList_load_row_w ty x ho g hx t o.cells.toArray fr d hs hu (by revert hd; cases d <;> exact id) hi hw h
end

theorem info_stm : (Try.prog.info? 23).map (·.size) = some 2 := by kernel_rfl
theorem info_op : (Try.prog.info? 33).map (·.size) = some 41 := by kernel_rfl
theorem info_data (bs : List UInt8) (h : bs.length = 32) : (Try.prog.info? 30).map (·.size) = some (b8s bs).length := by rw [b8s_length, h]; kernel_rfl

theorem eql_stm (s t : Stm) (w : World) : (binOp .eql 23 s.val t.val).run Try.prog w = .ok (.bool (decide (s = t))) w := by
  obtain ⟨a, b⟩ := s
  obtain ⟨c, d⟩ := t
  unfold Stm.val
  simp [go_sem]
  by_cases h1 : a = c
  · by_cases h2 : b = d
    · simp [h1, h2]
    · simp [h1, h2]
  · simp [h1]

theorem eqin_zero (d : List UInt8) (h : d.length = 32) (w : World) : (Op.equalIn 10000 30 (.agg (b8s d).toArray) (.agg #[Value.int .u8 0, Value.int .u8 0, Value.int .u8 0, Value.int .u8 0, Value.int .u8 0, Value.int .u8 0, Value.int .u8 0, Value.int .u8 0, Value.int .u8 0, Value.int .u8 0, Value.int .u8 0, Value.int .u8 0, Value.int .u8 0, Value.int .u8 0, Value.int .u8 0, Value.int .u8 0, Value.int .u8 0, Value.int .u8 0, Value.int .u8 0, Value.int .u8 0, Value.int .u8 0, Value.int .u8 0, Value.int .u8 0, Value.int .u8 0, Value.int .u8 0, Value.int .u8 0, Value.int .u8 0, Value.int .u8 0, Value.int .u8 0, Value.int .u8 0, Value.int .u8 0, Value.int .u8 0])).run Try.prog w = .ok (decide (d = zeros32)) w := by
  obtain ⟨i, hi⟩ := Option.isSome_iff_exists.1 (show (Try.prog.info? 5).isSome = true by kernel_rfl)
  exact run_eq_bytes (P := Try.prog) (t := 30) (e := 5) (n := 32) 9998 d zeros32 w Try.underlying30 Try.underlying5 hi (by kernel_rfl) (by kernel_rfl) h rfl

def goodMove (o : OpM) : Bool := decide (cmpS o.node o.at_ ≤ 0) && (rightB o.par || fixedB o.par) && nameS o.name && decide (o.data = zeros32) && ((o.os.length : Int) == 0)

set_option maxRecDepth 100000 in
set_option maxHeartbeats 1000000 in
theorem move_any (o : OpM) (w : World) (h : OpIn w o) : Calls Try.prog 40 #[o.val] w fun e w' => e = .returned (.bool (goodMove o)) ∧ Below w.heap.size w w' := by
  obtain ⟨W1, hW1⟩ : ∃ W1, w.alloc (.cells o.cells.toArray 33) = W1 := ⟨_, rfl⟩
  have hrow : W1.heap[w.heap.size]? = some (.cells o.cells.toArray 33 (0, 0)) := by rw [← hW1]; exact heap_alloc_new w _
  have hb1 : Below w.heap.size w W1 := by rw [← hW1]; exact (Below.refl _ _).alloc (Nat.le_refl _) _
  obtain ⟨g, hg⟩ : ∃ g, w.heap.size = g := ⟨_, rfl⟩
  rw [hg] at hrow hb1
  have HID := Lib.hid (info_data o.data h.len)
  have HR1 := Lib.hid hrow
  have HL1 := Lib.hid (Array.getElem?_eq_some_iff.1 hrow).1
  have HB1 := Lib.hid hb1
  have R1 := opRow_of hrow h.len
  have HL := Lib.hid h.len
  have HN := Lib.hid h.nm
  obtain ⟨A, c, hov, hrd, hcl, hcm⟩ := h.ov
  have HOV := Lib.hid hov
  have HRD := Lib.hid hrd
  obtain ⟨V, hV⟩ : ∃ V, goodMove o = V := ⟨_, rfl⟩
  have HV := Lib.hid hV
  unfold OpM.val
  rw [hg, hV]
  clear hrow hb1 h hV hov hrd
  go_enter Try.func40, Try.ntmps40
  go_wp2_with (first | ((with_reducible (refine wpList_load_stm 23 _ g 1 o.at_ R1.at_ Try.underlying23 rfl info_stm ?_ rfl ?_ ?_)); (exact rfl); (exact rfl)) | ((with_reducible (refine wpList_load_stm 23 _ g 3 o.node R1.node Try.underlying23 rfl info_stm ?_ rfl ?_ ?_)); (exact rfl); (exact rfl)) | ((with_reducible (refine wpList_load_stm 23 _ g 5 o.par R1.par Try.underlying23 rfl info_stm ?_ rfl ?_ ?_)); (exact rfl); (exact rfl)) | ((with_reducible (refine wpList_load_b8 30 _ g 8 o.data R1.data Try.underlying30 rfl HID.out ?_ rfl ?_ ?_)); (exact rfl); (exact rfl)))
  clear hg hW1
  refine (cmp_any o.node o.at_ W1).mono ?_
  rintro e w2 ⟨rfl, hb2⟩
  have HB2 := Lib.hid (HB1.out.trans (hb2.mono (Nat.le_of_lt HL1.out)))
  have hr2 := (hb2.block _ HL1.out).trans HR1.out
  have R2 := opRow_of hr2 HL.out
  have HR2 := Lib.hid hr2
  have HL2 := Lib.hid (Array.getElem?_eq_some_iff.1 hr2).1
  clear hb2 R1 hr2
  by_cases h1 : cmpS o.node o.at_ ≤ 0
  · go_wp2_with (first | ((with_reducible (refine wpList_load_stm 23 _ g 1 o.at_ R2.at_ Try.underlying23 rfl info_stm ?_ rfl ?_ ?_)); (exact rfl); (exact rfl)) | ((with_reducible (refine wpList_load_stm 23 _ g 3 o.node R2.node Try.underlying23 rfl info_stm ?_ rfl ?_ ?_)); (exact rfl); (exact rfl)) | ((with_reducible (refine wpList_load_stm 23 _ g 5 o.par R2.par Try.underlying23 rfl info_stm ?_ rfl ?_ ?_)); (exact rfl); (exact rfl)) | ((with_reducible (refine wpList_load_b8 30 _ g 8 o.data R2.data Try.underlying30 rfl HID.out ?_ rfl ?_ ?_)); (exact rfl); (exact rfl)))
    refine (right_any o.par w2).mono ?_
    rintro e w3 ⟨rfl, hb3⟩
    have HB3 := Lib.hid (HB2.out.trans (hb3.mono (Nat.le_of_lt HL2.out)))
    have hr3 := (hb3.block _ HL2.out).trans HR2.out
    have R3 := opRow_of hr3 HL.out
    have HR3 := Lib.hid hr3
    have HL3 := Lib.hid (Array.getElem?_eq_some_iff.1 hr3).1
    clear hb3 R2 hr3
    cases h2 : rightB o.par
    · go_wp2_with (first | ((with_reducible (refine wpList_load_stm 23 _ g 1 o.at_ R3.at_ Try.underlying23 rfl info_stm ?_ rfl ?_ ?_)); (exact rfl); (exact rfl)) | ((with_reducible (refine wpList_load_stm 23 _ g 3 o.node R3.node Try.underlying23 rfl info_stm ?_ rfl ?_ ?_)); (exact rfl); (exact rfl)) | ((with_reducible (refine wpList_load_stm 23 _ g 5 o.par R3.par Try.underlying23 rfl info_stm ?_ rfl ?_ ?_)); (exact rfl); (exact rfl)) | ((with_reducible (refine wpList_load_b8 30 _ g 8 o.data R3.data Try.underlying30 rfl HID.out ?_ rfl ?_ ?_)); (exact rfl); (exact rfl)))
      refine (fixed_any o.par w3).mono ?_
      rintro e w4 ⟨rfl, hb4⟩
      have HB4 := Lib.hid (HB3.out.trans (hb4.mono (Nat.le_of_lt HL3.out)))
      have hr4 := (hb4.block _ HL3.out).trans HR3.out
      have R4 := opRow_of hr4 HL.out
      have HR4 := Lib.hid hr4
      have HL4 := Lib.hid (Array.getElem?_eq_some_iff.1 hr4).1
      clear hb4 R3 hr4
      cases h3 : fixedB o.par
      · go_wp2_with (first | ((with_reducible (refine wpList_load_stm 23 _ g 1 o.at_ R4.at_ Try.underlying23 rfl info_stm ?_ rfl ?_ ?_)); (exact rfl); (exact rfl)) | ((with_reducible (refine wpList_load_stm 23 _ g 3 o.node R4.node Try.underlying23 rfl info_stm ?_ rfl ?_ ?_)); (exact rfl); (exact rfl)) | ((with_reducible (refine wpList_load_stm 23 _ g 5 o.par R4.par Try.underlying23 rfl info_stm ?_ rfl ?_ ?_)); (exact rfl); (exact rfl)) | ((with_reducible (refine wpList_load_b8 30 _ g 8 o.data R4.data Try.underlying30 rfl HID.out ?_ rfl ?_ ?_)); (exact rfl); (exact rfl)))
        go_ret
        exact ⟨ret_bool (by rw [← HV.out]; simp [goodMove, h2, h3]), HB4.out⟩
      · have hon := R4.name
        go_wp2_with (first | ((with_reducible (refine wpList_load_stm 23 _ g 1 o.at_ R4.at_ Try.underlying23 rfl info_stm ?_ rfl ?_ ?_)); (exact rfl); (exact rfl)) | ((with_reducible (refine wpList_load_stm 23 _ g 3 o.node R4.node Try.underlying23 rfl info_stm ?_ rfl ?_ ?_)); (exact rfl); (exact rfl)) | ((with_reducible (refine wpList_load_stm 23 _ g 5 o.par R4.par Try.underlying23 rfl info_stm ?_ rfl ?_ ?_)); (exact rfl); (exact rfl)) | ((with_reducible (refine wpList_load_b8 30 _ g 8 o.data R4.data Try.underlying30 rfl HID.out ?_ rfl ?_ ?_)); (exact rfl); (exact rfl)))
        refine (name_any o.name HN.out w4).mono ?_
        rintro e w5 ⟨rfl, hb5⟩
        clear hon
        have HB5 := Lib.hid (HB4.out.trans (hb5.mono (Nat.le_of_lt HL4.out)))
        have hr5 := (hb5.block _ HL4.out).trans HR4.out
        have R5 := opRow_of hr5 HL.out
        have HR5 := Lib.hid hr5
        have HL5 := Lib.hid (Array.getElem?_eq_some_iff.1 hr5).1
        clear hb5 R4 hr5
        cases h5 : nameS o.name
        · go_wp2_with (first | ((with_reducible (refine wpList_load_stm 23 _ g 1 o.at_ R5.at_ Try.underlying23 rfl info_stm ?_ rfl ?_ ?_)); (exact rfl); (exact rfl)) | ((with_reducible (refine wpList_load_stm 23 _ g 3 o.node R5.node Try.underlying23 rfl info_stm ?_ rfl ?_ ?_)); (exact rfl); (exact rfl)) | ((with_reducible (refine wpList_load_stm 23 _ g 5 o.par R5.par Try.underlying23 rfl info_stm ?_ rfl ?_ ?_)); (exact rfl); (exact rfl)) | ((with_reducible (refine wpList_load_b8 30 _ g 8 o.data R5.data Try.underlying30 rfl HID.out ?_ rfl ?_ ?_)); (exact rfl); (exact rfl)))
          go_ret
          exact ⟨ret_bool (by rw [← HV.out]; simp [goodMove, h5]), HB5.out⟩
        · have hv := R5.ov
          rw [HOV.out] at hv
          have hed := fun w => eqin_zero o.data HL.out w
          go_wp2_with (first | ((with_reducible (refine wpList_load_stm 23 _ g 1 o.at_ R5.at_ Try.underlying23 rfl info_stm ?_ rfl ?_ ?_)); (exact rfl); (exact rfl)) | ((with_reducible (refine wpList_load_stm 23 _ g 3 o.node R5.node Try.underlying23 rfl info_stm ?_ rfl ?_ ?_)); (exact rfl); (exact rfl)) | ((with_reducible (refine wpList_load_stm 23 _ g 5 o.par R5.par Try.underlying23 rfl info_stm ?_ rfl ?_ ?_)); (exact rfl); (exact rfl)) | ((with_reducible (refine wpList_load_b8 30 _ g 8 o.data R5.data Try.underlying30 rfl HID.out ?_ rfl ?_ ?_)); (exact rfl); (exact rfl)))
          all_goals
            go_ret
            exact ⟨ret_bool (by rw [← HV.out]; simp_all [goodMove]), HB5.out⟩
    · have hon := R3.name
      go_wp2_with (first | ((with_reducible (refine wpList_load_stm 23 _ g 1 o.at_ R3.at_ Try.underlying23 rfl info_stm ?_ rfl ?_ ?_)); (exact rfl); (exact rfl)) | ((with_reducible (refine wpList_load_stm 23 _ g 3 o.node R3.node Try.underlying23 rfl info_stm ?_ rfl ?_ ?_)); (exact rfl); (exact rfl)) | ((with_reducible (refine wpList_load_stm 23 _ g 5 o.par R3.par Try.underlying23 rfl info_stm ?_ rfl ?_ ?_)); (exact rfl); (exact rfl)) | ((with_reducible (refine wpList_load_b8 30 _ g 8 o.data R3.data Try.underlying30 rfl HID.out ?_ rfl ?_ ?_)); (exact rfl); (exact rfl)))
      refine (name_any o.name HN.out w3).mono ?_
      rintro e w5 ⟨rfl, hb5⟩
      clear hon
      have HB5 := Lib.hid (HB3.out.trans (hb5.mono (Nat.le_of_lt HL3.out)))
      have hr5 := (hb5.block _ HL3.out).trans HR3.out
      have R5 := opRow_of hr5 HL.out
      have HR5 := Lib.hid hr5
      have HL5 := Lib.hid (Array.getElem?_eq_some_iff.1 hr5).1
      clear hb5 R3 hr5
      cases h5 : nameS o.name
      · go_wp2_with (first | ((with_reducible (refine wpList_load_stm 23 _ g 1 o.at_ R5.at_ Try.underlying23 rfl info_stm ?_ rfl ?_ ?_)); (exact rfl); (exact rfl)) | ((with_reducible (refine wpList_load_stm 23 _ g 3 o.node R5.node Try.underlying23 rfl info_stm ?_ rfl ?_ ?_)); (exact rfl); (exact rfl)) | ((with_reducible (refine wpList_load_stm 23 _ g 5 o.par R5.par Try.underlying23 rfl info_stm ?_ rfl ?_ ?_)); (exact rfl); (exact rfl)) | ((with_reducible (refine wpList_load_b8 30 _ g 8 o.data R5.data Try.underlying30 rfl HID.out ?_ rfl ?_ ?_)); (exact rfl); (exact rfl)))
        go_ret
        exact ⟨ret_bool (by rw [← HV.out]; simp [goodMove, h5]), HB5.out⟩
      · have hv := R5.ov
        rw [HOV.out] at hv
        have hed := fun w => eqin_zero o.data HL.out w
        go_wp2_with (first | ((with_reducible (refine wpList_load_stm 23 _ g 1 o.at_ R5.at_ Try.underlying23 rfl info_stm ?_ rfl ?_ ?_)); (exact rfl); (exact rfl)) | ((with_reducible (refine wpList_load_stm 23 _ g 3 o.node R5.node Try.underlying23 rfl info_stm ?_ rfl ?_ ?_)); (exact rfl); (exact rfl)) | ((with_reducible (refine wpList_load_stm 23 _ g 5 o.par R5.par Try.underlying23 rfl info_stm ?_ rfl ?_ ?_)); (exact rfl); (exact rfl)) | ((with_reducible (refine wpList_load_b8 30 _ g 8 o.data R5.data Try.underlying30 rfl HID.out ?_ rfl ?_ ?_)); (exact rfl); (exact rfl)))
        all_goals
          go_ret
          exact ⟨ret_bool (by rw [← HV.out]; simp_all [goodMove]), HB5.out⟩
  · go_wp2_with fail
    go_ret
    exact ⟨ret_bool (by rw [← HV.out]; unfold goodMove; rw [decide_eq_false (by omega)]; simp), HB2.out⟩
end Go.Proofs.Ytabkgoandfpclaa
