
/- Plain: selecting the least behind the last, over and over, sorts (the document's Sort). No program. (With the texts that it stands on.) -/

import Derived.Test.YtabkgoandfpclaaSs7

import Derived.Test.YtabkgoandfpclaaSs8

import Derived.Test.YtabkgoandfpclaaGet3

import Derived.Test.YtabkgoandfpclaaOp6

import Derived.Test.YtabkgoandfpclaaSchedT

/-! slices.Clone of operations and of stamps; rows of operations. Conditions: what is cloned has at most 2^47 bytes. -/

namespace Go.Proofs.Ytabkgoandfpclaa

set_option linter.unusedVariables false

set_option linter.unusedSimpArgs false

set_option linter.unusedSectionVars false

open Go.Shelf Go.RowKit Go.Lib Go.Sort Go.Proofs

/-- a row of the call's own behind a call: its cells, what of memory stands -/
structure OwnV (N : Nat) (w0 w : World) (e : TypeId) (k : Nat) (v : Value) (n : Nat) (xs : List Value) : Prop where
  own : w.ownsRow N e k v n xs
  bel : Below N w0 w
  sz : N ≤ w.heap.size
theorem rd_none_nil' {w : World} {xs : List Value} (h : Rd w none xs) : xs = [] := by
  cases xs with
  | nil => rfl
  | cons c bs =>
    obtain ⟨b, o, hA, _⟩ := h 0 c rfl
    cases hA
theorem info_op3 : (Try.prog.info? 33).map (fun i => (i.zero, i.size, i.bytes)) = some (some (.agg op0.cells.toArray), 41, 128) := by kernel_rfl

set_option maxHeartbeats 400000 in
theorem cloneOps_any (A : Option Addr) (n c : Nat) (xs : List Value) (w : World) (hr : Rd w A xs) (hn : xs.length = n * 41) (h1 : ∀ u ∈ xs, u.oneCell' = true) (hm : n * 128 ≤ 140737488355328) :
    Calls Try.prog 61 #[.slice A n c] w fun e w' => ∃ v, e = .returned v ∧ OwnV w.heap.size w w' 33 41 v n xs := by
  have hnil := fun (w : World) (n c : Nat) => Lib.run_eql_slice_nil (P := Try.prog) w 53 33 A n c 0 0 Try.underlying53
  cases A with
  | none =>
    have := rd_none_nil' hr
    subst this
    have hn0 : n = 0 := by rw [List.length_nil] at hn; omega
    subst hn0
    go_enter Try.func61, Try.ntmps61
    go_wp2
    go_ret
    exact ⟨_, rfl, World.ownsRow_nil _ _ _ _, Below.refl _ _, Nat.le_refl _⟩
  | some ad =>
    obtain ⟨N, hN⟩ : ∃ N, N = w.heap.size := ⟨_, rfl⟩
    have hst : (w.alloc (.cells #[] 33)).ownsRow N 33 41 (.slice (some ⟨w.heap.size, 0, none⟩) 0 0) 0 [] := World.ownsRow_made w #[] 0 (hN ▸ Nat.le_refl _) (by unfold maxLen; omega) rfl
    have hb0 : Below N w (w.alloc (.cells #[] 33)) := (Below.refl _ _).alloc (hN ▸ Nat.le_refl _) _
    have hs0 : N ≤ (w.alloc (.cells #[] 33)).heap.size := by rw [hN]; simp
    have hr' := hr.alloc (.cells #[] 33)
    rw [← hN]
    rw [← hN] at hst
    have HN := Lib.hid hN
    have HB0 := Lib.hid hb0
    clear hb0
    go_enter Try.func61, Try.ntmps61
    go_wp2_with (at_builtin; refine wpList_append_rd _ rfl _ _ 53 rfl N 33 (.agg op0.cells.toArray) 41 128 Try.underlying53 info_op3 rfl (by decide) _ 0 [] rfl (by first | exact hst | (rw [HN.out]; rw [HN.out] at hst; exact hst)) _ n c xs rfl hn hr' h1 (by unfold maxLen; omega) (by omega) hs0 ?_; intro v1 w2 hown hg hob)
    go_ret
    refine ⟨_, rfl, by simpa using hown, ?_, ?_⟩
    · exact below_grown_own HB0.out (by first | exact hst | (rw [HN.out]; rw [HN.out] at hst; exact hst)) hg hs0
    · have := hg.size
      omega

set_option maxHeartbeats 400000 in
theorem cloneStms_any (A : Option Addr) (n c : Nat) (xs : List Value) (w : World) (hr : Rd w A xs) (hn : xs.length = n * 2) (h1 : ∀ u ∈ xs, u.oneCell' = true) (hm : n * 16 ≤ 140737488355328) :
    Calls Try.prog 62 #[.slice A n c] w fun e w' => ∃ v, e = .returned v ∧ OwnV w.heap.size w w' 23 2 v n xs := by
  have hnil := fun (w : World) (n c : Nat) => Lib.run_eql_slice_nil (P := Try.prog) w 31 23 A n c 0 0 Try.underlying31
  cases A with
  | none =>
    have := rd_none_nil' hr
    subst this
    have hn0 : n = 0 := by rw [List.length_nil] at hn; omega
    subst hn0
    go_enter Try.func62, Try.ntmps62
    go_wp2
    go_ret
    exact ⟨_, rfl, World.ownsRow_nil _ _ _ _, Below.refl _ _, Nat.le_refl _⟩
  | some ad =>
    obtain ⟨N, hN⟩ : ∃ N, N = w.heap.size := ⟨_, rfl⟩
    have hst : (w.alloc (.cells #[] 23)).ownsRow N 23 2 (.slice (some ⟨w.heap.size, 0, none⟩) 0 0) 0 [] := World.ownsRow_made w #[] 0 (hN ▸ Nat.le_refl _) (by unfold maxLen; omega) rfl
    have hb0 : Below N w (w.alloc (.cells #[] 23)) := (Below.refl _ _).alloc (hN ▸ Nat.le_refl _) _
    have hs0 : N ≤ (w.alloc (.cells #[] 23)).heap.size := by rw [hN]; simp
    have hr' := hr.alloc (.cells #[] 23)
    rw [← hN]
    rw [← hN] at hst
    have HN := Lib.hid hN
    have HB0 := Lib.hid hb0
    clear hb0
    go_enter Try.func62, Try.ntmps62
    go_wp2_with (at_builtin; refine wpList_append_rd _ rfl _ _ 31 rfl N 23 (.agg #[.int .i64 0, .int .i64 0]) 2 16 Try.underlying31 info_stm3 rfl (by decide) _ 0 [] rfl (by first | exact hst | (rw [HN.out]; rw [HN.out] at hst; exact hst)) _ n c xs rfl hn hr' h1 (by unfold maxLen; omega) (by omega) hs0 ?_; intro v1 w2 hown hg hob)
    go_ret
    refine ⟨_, rfl, by simpa using hown, ?_, ?_⟩
    · exact below_grown_own HB0.out (by first | exact hst | (rw [HN.out]; rw [HN.out] at hst; exact hst)) hg hs0
    · have := hg.size
      omega

/-! ### rows of operations -/

section

variable {α : Type} {f : α → List Value} {m : Nat}

theorem flat_length (xs : List α) (h : ∀ x ∈ xs, (f x).length = m) : (xs.flatMap f).length = xs.length * m := by
  induction xs with
  | nil => simp
  | cons x xs ih =>
    have h1 := h x (by simp)
    have h2 := ih (fun y hy => h y (by simp [hy]))
    rw [List.flatMap_cons, List.length_append, h1, h2, List.length_cons, Nat.succ_mul]
    omega
theorem flat_get (xs : List α) (h : ∀ x ∈ xs, (f x).length = m) : ∀ (i : Nat) (hi : i < xs.length) (j : Nat) (u : Value), (f xs[i])[j]? = some u → (xs.flatMap f)[i * m + j]? = some u := by
  induction xs with
  | nil => intro i hi; simp at hi
  | cons x xs ih =>
    intro i hi j u hu
    have h1 := h x (by simp)
    rw [List.flatMap_cons]
    cases i with
    | zero =>
      have hj := (List.getElem?_eq_some_iff.1 hu).1
      rw [Nat.zero_mul, Nat.zero_add, List.getElem?_append_left (by simpa using hj)]
      exact hu
    | succ i =>
      rw [List.getElem?_append_right (by rw [h1, Nat.succ_mul]; omega), h1, show (i + 1) * m + j - m = i * m + j by rw [Nat.succ_mul]; omega]
      exact ih (fun y hy => h y (by simp [hy])) i (by simpa using hi) j u hu
end

def oc (os : List OpM) : List Value := os.flatMap OpM.cells
/-- a row's cells lie in block g, as those of the operations, not frozen -/
def RowO (w : World) (g : Nat) (os : List OpM) : Prop := ∀ (i : Nat) (hi : i < os.length) (j : Nat) (u : Value), os[i].cells[j]? = some u → w.cell? ⟨g, i * 41 + j, none⟩ = some u ∧ w.frozen? ⟨g, i * 41 + j, none⟩ = false
theorem oc_len {os : List OpM} (h : ∀ o ∈ os, o.data.length = 32) : (oc os).length = os.length * 41 := flat_length os fun o ho => o.cells_len (h o ho)
theorem oc_at {os : List OpM} (h : ∀ o ∈ os, o.data.length = 32) (i : Nat) (hi : i < os.length) (j : Nat) (u : Value) (hu : os[i].cells[j]? = some u) : (oc os)[i * 41 + j]? = some u := flat_get os (fun o ho => o.cells_len (h o ho)) i hi j u hu
theorem RowO.get {w : World} {g : Nat} {os : List OpM} (h : RowO w g os) (hl : ∀ o ∈ os, o.data.length = 32) (j : Nat) (u : Value) (hu : (oc os)[j]? = some u) : w.cell? ⟨g, j, none⟩ = some u ∧ w.frozen? ⟨g, j, none⟩ = false := by
  have hj := (List.getElem?_eq_some_iff.1 hu).1
  rw [oc_len hl] at hj
  have hi : j / 41 < os.length := Nat.div_lt_of_lt_mul (by rw [Nat.mul_comm]; exact hj)
  have hr : j % 41 < 41 := Nat.mod_lt _ (by omega)
  have hd : j / 41 * 41 + j % 41 = j := by omega
  have hlen := os[j / 41].cells_len (hl _ (List.getElem_mem hi))
  have hg := oc_at hl (j / 41) hi (j % 41) (os[j / 41].cells[j % 41]'(by omega)) (List.getElem?_eq_getElem _)
  rw [hd, hu] at hg
  have := h (j / 41) hi (j % 41) u (by rw [List.getElem?_eq_getElem (by omega)]; exact hg.symm)
  rw [hd] at this
  exact this
theorem RowO.rd {w : World} {g : Nat} {os : List OpM} (h : RowO w g os) (hl : ∀ o ∈ os, o.data.length = 32) : Rd w (some ⟨g, 0, none⟩) (oc os) := fun j u hu => ⟨g, 0, rfl, by rw [Nat.zero_add]; exact (h.get hl j u hu).1⟩
theorem rowO_of {w : World} {g : Nat} {cur : Array Value} {t : TypeId} {n : Nat} {os : List OpM} (h : w.heap[g]? = some (.cells cur t (0, 0))) (hc : cur.toList.take n = oc os) (hl : ∀ o ∈ os, o.data.length = 32) : RowO w g os := by
  intro i hi j u hu
  have h1 := oc_at hl i hi j u hu
  rw [← hc] at h1
  have h2 : cur.toList[i * 41 + j]? = some u := by
    rw [List.getElem?_take] at h1
    split at h1
    · exact h1
    · cases h1
  exact ⟨by rw [row_cell h]; simpa using h2, row_free h _⟩
theorem RowO.lt {w : World} {g : Nat} {os : List OpM} (h : RowO w g os) (hl : ∀ o ∈ os, o.data.length = 32) (h0 : 0 < os.length) : g < w.heap.size := by
  have := (h 0 h0 0 _ (List.getElem?_eq_getElem (by rw [os[0].cells_len (hl _ (List.getElem_mem h0))]; omega))).1
  exact World.block_lt_of_cell? w _ this
/-- nothing of the block has changed -/
theorem RowO.keep {w w' : World} {g : Nat} {os : List OpM} (h : RowO w g os) (hb : w'.heap[g]? = w.heap[g]?) : RowO w' g os := fun i hi j u hu => by
  obtain ⟨h1, h2⟩ := h i hi j u hu
  exact ⟨(World.cell?_of_block (a := ⟨g, i * 41 + j, none⟩) hb).trans h1, (World.frozen?_of_block (a := ⟨g, i * 41 + j, none⟩) hb).trans h2⟩
def OpM.setOv (o : OpM) (v : Value) : OpM := { o with ov := v }
theorem setOv_cells (o : OpM) (v : Value) (j : Nat) (u : Value) (hl : o.data.length = 32) (hu : (o.setOv v).cells[j]? = some u) : (j = 40 ∧ u = v) ∨ (j < 40 ∧ o.cells[j]? = some u) := by
  have hp : ([.int .i64 o.kind, .int .i64 o.at_.t, .int .i64 o.at_.r, .int .i64 o.node.t, .int .i64 o.node.r, .int .i64 o.par.t, .int .i64 o.par.r, .string o.name] ++ b8s o.data : List Value).length = 40 := by rw [List.length_append, b8s_length, hl]; rfl
  have e1 : ∀ x : Value, ({ o with ov := x } : OpM).cells = ([.int .i64 o.kind, .int .i64 o.at_.t, .int .i64 o.at_.r, .int .i64 o.node.t, .int .i64 o.node.r, .int .i64 o.par.t, .int .i64 o.par.r, .string o.name] ++ b8s o.data) ++ [x] := fun x => by simp [OpM.cells]
  have e2 : o.cells = ([.int .i64 o.kind, .int .i64 o.at_.t, .int .i64 o.at_.r, .int .i64 o.node.t, .int .i64 o.node.r, .int .i64 o.par.t, .int .i64 o.par.r, .string o.name] ++ b8s o.data) ++ [o.ov] := e1 o.ov
  have hu' : ({ o with ov := v } : OpM).cells[j]? = some u := hu
  rw [e1] at hu'
  by_cases hj : j < 40
  · right
    refine ⟨hj, ?_⟩
    rw [e2]
    rw [List.getElem?_append_left (by rw [hp]; exact hj)] at hu' ⊢
    exact hu'
  · left
    rw [List.getElem?_append_right (by rw [hp]; omega), hp] at hu'
    have := (List.getElem?_eq_some_iff.1 hu').1
    simp at this
    have hj40 : j = 40 := by omega
    subst hj40
    simp at hu'
    exact ⟨rfl, hu'.symm⟩
theorem ov_cell (o : OpM) (hl : o.data.length = 32) : o.cells[40]? = some o.ov := by
  have hp : ([.int .i64 o.kind, .int .i64 o.at_.t, .int .i64 o.at_.r, .int .i64 o.node.t, .int .i64 o.node.r, .int .i64 o.par.t, .int .i64 o.par.r, .string o.name] ++ b8s o.data : List Value).length = 40 := by rw [List.length_append, b8s_length, hl]; rfl
  have e2 : o.cells = ([.int .i64 o.kind, .int .i64 o.at_.t, .int .i64 o.at_.r, .int .i64 o.node.t, .int .i64 o.node.r, .int .i64 o.par.t, .int .i64 o.par.r, .string o.name] ++ b8s o.data) ++ [o.ov] := by simp [OpM.cells]
  rw [e2, List.getElem?_append_right (by rw [hp]; omega), hp]
  rfl
/-- the list of the i-th operation is replaced -/
theorem RowO.setOv {w : World} {g : Nat} {os : List OpM} (h : RowO w g os) (hl : ∀ o ∈ os, o.data.length = 32) (i : Nat) (hi : i < os.length) (v : Value) : RowO (w.setCell ⟨g, i * 41 + 40, none⟩ v) g (os.set i (os[i].setOv v)) := by
  intro k hk j u hu
  have hk' : k < os.length := by simpa using hk
  have hfr : ∀ a, (w.setCell ⟨g, i * 41 + 40, none⟩ v).frozen? a = w.frozen? a := fun a => World.frozen?_setCell _ _ _ _
  by_cases hki : i = k
  · subst hki
    simp only [List.getElem_set_self] at hu
    rcases setOv_cells _ v j u (hl _ (List.getElem_mem hi)) hu with ⟨rfl, rfl⟩ | ⟨hj, hu⟩
    · have hc := h i hi 40 _ (ov_cell _ (hl _ (List.getElem_mem hi)))
      exact ⟨World.cell?_setCell_same' _ _ _ (by rw [hc.1]; rfl), by rw [hfr]; exact hc.2⟩
    · have hc := h i hi j u hu
      exact ⟨by rw [World.cell?_setCell_other _ _ _ _ (fun e => by injection e; omega)]; exact hc.1, by rw [hfr]; exact hc.2⟩
  · simp only [List.getElem_set_ne hki] at hu
    have hc := h k hk' j u hu
    have hj : j < 41 := by rw [← os[k].cells_len (hl _ (List.getElem_mem hk'))]; exact (List.getElem?_eq_some_iff.1 hu).1
    exact ⟨by rw [World.cell?_setCell_other _ _ _ _ (fun e => by injection e; omega)]; exact hc.1, by rw [hfr]; exact hc.2⟩
/-- the rows of operations that are elements -/
def unE (l : List OpE) : List OpM := l.map (·.1)
theorem unE_len (l : List OpE) : (unE l).length = l.length := List.length_map _
theorem unE_data (l : List OpE) : ∀ o ∈ unE l, o.data.length = 32 := fun o ho => by
  obtain ⟨x, _, rfl⟩ := List.mem_map.1 ho
  exact x.2.1
theorem preK_row {w : World} {g : Nat} {C : List OpE} (h : PreK encE w g 0 41 C) : RowO w g (unE C) := fun i hi j u hu => by
  have hi' : i < C.length := by simpa [unE] using hi
  have := h i hi' j u (by simpa [unE, encE] using hu)
  rw [Nat.zero_add] at this
  exact this
theorem holds_row {w : World} {g : Nat} {d : Array OpE} (h : RowO w g (unE d.toList)) : HoldsK encE 41 w g 0 d := fun t ht => by
  have ht' : t < d.size * 41 := by simpa using ht
  rw [get_flatK _ _ _ _ ht', Nat.zero_add]
  have hi : t / 41 < d.size := Nat.div_lt_of_lt_mul (by rw [Nat.mul_comm]; exact ht')
  have hr : t % 41 < 41 := Nat.mod_lt _ (by omega)
  have hd : t / 41 * 41 + t % 41 = t := by omega
  have e : d[t / 41]! = d[t / 41] := getElem!_pos d _ hi
  have e2 : (unE d.toList)[t / 41]'(by simpa [unE] using hi) = d[t / 41].1 := by simp [unE]
  have hl := encE_len d[t / 41]
  rw [e, getElem!_pos (encE d[t / 41]) (t % 41) (by omega)]
  have := h (t / 41) (by simpa [unE] using hi) (t % 41) ((encE d[t / 41])[t % 41]'(by omega)) (by rw [e2]; exact List.getElem?_eq_getElem (l := encE d[t / 41]) (by omega))
  rw [hd] at this
  exact this
end Go.Proofs.Ytabkgoandfpclaa

/-! stamp.Sort: what it leaves: a row of its own, sorted by At, one of each; the lists copied. Conditions: at most 1000000 operations, lists of at most 2^47 bytes. -/

namespace Go.Proofs.Ytabkgoandfpclaa

set_option linter.unusedVariables false

set_option linter.unusedSimpArgs false

set_option linter.unusedSectionVars false

open Go.Shelf Go.RowKit Go.Lib Go.Sort Go.Proofs

/-- an operation whose list lies in a block of its own, not the row g -/
structure OvO (W : World) (N g : Nat) (o : OpM) : Prop where
  dl : o.data.length = 32
  nm : o.name.size ≤ 9223372036854775807
  ov : (o.ov = .slice none 0 0 ∧ o.os = []) ∨ ∃ b c, o.ov = .slice (some ⟨b, 0, none⟩) o.os.length c ∧ N ≤ b ∧ b ≠ g ∧ b < W.heap.size ∧
    (∀ j u, (stc o.os)[j]? = some u → W.cell? ⟨b, j, none⟩ = some u ∧ W.frozen? ⟨b, j, none⟩ = false) ∧ o.os.length ≤ c ∧ c ≤ 9223372036854775807
theorem OvO.opIn {W : World} {N g : Nat} {o : OpM} (h : OvO W N g o) : OpIn W o := by
  refine ⟨h.dl, h.nm, ?_⟩
  rcases h.ov with ⟨h1, h2⟩ | ⟨b, c, h1, h2, h3, h4, h5, h6, h7⟩
  · exact ⟨none, 0, by rw [h1, h2]; rfl, by rw [h2]; exact Rd.nil, by rw [h2]; exact Nat.le_refl _, by omega⟩
  · exact ⟨some ⟨b, 0, none⟩, c, h1, fun j u hu => ⟨b, 0, rfl, by rw [Nat.zero_add]; exact (h5 j u hu).1⟩, h6, h7⟩
theorem OvO.keep {W W' : World} {N g : Nat} {o : OpM} (h : OvO W N g o) (hs : W.heap.size ≤ W'.heap.size) (hb : ∀ b, b ≠ g → b < W.heap.size → W'.heap[b]? = W.heap[b]?) : OvO W' N g o := by
  refine ⟨h.dl, h.nm, ?_⟩
  rcases h.ov with h1 | ⟨b, c, h1, h2, h3, h4, h5, h6, h7⟩
  · exact .inl h1
  · refine .inr ⟨b, c, h1, h2, h3, by omega, fun j u hu => ?_, h6, h7⟩
    obtain ⟨k1, k2⟩ := h5 j u hu
    exact ⟨(World.cell?_of_block (a := ⟨b, j, none⟩) (hb b h3 h4)).trans k1, (World.frozen?_of_block (a := ⟨b, j, none⟩) (hb b h3 h4)).trans k2⟩
theorem ovO_of {W w' : World} {N K g : Nat} {o : OpM} {v : Value} (hd : o.data.length = 32) (hn : o.name.size ≤ 9223372036854775807) (h : w'.ownsRow K 23 2 v o.os.length (stc o.os)) (hK : g < K) (hN : N ≤ K) : OvO w' N g (o.setOv v) := by
  refine ⟨hd, hn, ?_⟩
  rcases h.2 with ⟨h1, h2⟩ | ⟨b, cap, cur, h1, h2, h3, h4, h5, h6, h7⟩
  · exact .inl ⟨h1, List.eq_nil_of_length_eq_zero h2⟩
  · refine .inr ⟨b, cap, h1, by omega, by omega, (Array.getElem?_eq_some_iff.1 h3).1, fun j u hu => ?_, h4, by unfold maxLen at h5; exact h5⟩
    refine ⟨?_, row_free h3 j⟩
    have hu' : (stc o.os)[j]? = some u := hu
    rw [← h7, List.getElem?_take] at hu'
    split at hu'
    · rw [row_cell h3]; simpa using hu'
    · cases hu'
def OpM.bare (o : OpM) : OpM := { o with ov := .slice none 0 0 }
/-- the state of Sort's first loop -/
structure SL (N g : Nat) (w W : World) (os osi : List OpM) (i : Nat) : Prop where
  len : osi.length = os.length
  row : RowO W g osi
  bel : Below N w W
  Ng : N ≤ g
  gl : g < W.heap.size
  done : ∀ k (h : k < osi.length), k < i → OvO W N g osi[k]
  rest : ∀ k (h : k < osi.length) (h' : k < os.length), i ≤ k → osi[k] = os[k]
  bare : osi.map OpM.bare = os.map OpM.bare
  dl : ∀ o ∈ osi, o.data.length = 32
theorem SL.step {N g : Nat} {w W w2 : World} {os osi : List OpM} {i : Nat} {v : Value} (h : SL N g w W os osi i) (hN : w.heap.size = N) (hin : ∀ o ∈ os, OpIn w o) (hi : i < osi.length) (hi' : i < os.length) (ho : OwnV W.heap.size W w2 23 2 v os[i].os.length (stc os[i].os)) :
    SL N g w (w2.setCell ⟨g, i * 41 + 40, none⟩ v) os (osi.set i (osi[i].setOv v)) (i + 1) := by
  have hge : w2.heap[g]? = W.heap[g]? := ho.bel.block g h.gl
  have hr2 := h.row.keep hge
  have e1 := h.rest i hi hi' (Nat.le_refl _)
  have hin1 := hin _ (List.getElem_mem hi')
  have hother : ∀ b, b ≠ g → b < W.heap.size → (w2.setCell ⟨g, i * 41 + 40, none⟩ v).heap[b]? = W.heap[b]? := fun b hb hl => (Below.heap_setCell _ _ _ _ hb).trans (ho.bel.block b hl)
  have hsz : (w2.setCell ⟨g, i * 41 + 40, none⟩ v).heap.size = w2.heap.size := by simp [World.setCell]
  refine ⟨by simpa using h.len, hr2.setOv h.dl i hi v, ?_, h.Ng, by rw [hsz]; have := ho.sz; have := h.gl; omega, fun k hk hki => ?_, fun k hk hk' hki => ?_, ?_, fun o ho' => ?_⟩
  · exact (h.bel.trans (ho.bel.mono (by have := h.bel.size; omega))).setCell h.Ng v
  · have hk' : k < osi.length := by simpa using hk
    by_cases e : i = k
    · subst e
      rw [List.getElem_set_self, e1]
      have h3 := ovO_of (N := N) (g := g) (o := os[i]) (v := v) (W := W) hin1.len hin1.nm ho.own h.gl (by have := h.bel.size; omega)
      exact h3.keep (by rw [hsz]; exact Nat.le_refl _) (fun b hb _ => Below.heap_setCell _ _ _ _ hb)
    · rw [List.getElem_set_ne e]
      exact (h.done k hk' (by omega)).keep (by rw [hsz]; exact ho.sz) hother
  · have hk1 : k < osi.length := by simpa using hk
    rw [List.getElem_set_ne (by omega)]
    exact h.rest k hk1 hk' (by omega)
  · rw [← h.bare, List.map_set]
    have : (osi[i].setOv v).bare = (osi.map OpM.bare)[i]'(by simpa using hi) := by simp [OpM.bare, OpM.setOv]
    rw [this, List.set_getElem_self]
  · rcases List.mem_or_eq_of_mem_set ho' with h4 | h4
    · exact h.dl o h4
    · rw [h4]; exact (h.dl osi[i] (List.getElem_mem hi) :)

/-- a list of elements for operations that are right -/
theorem toE (l : List OpM) (h : ∀ o ∈ l, o.data.length = 32 ∧ ∃ A n c, o.ov = .slice A n c) : ∃ e : List OpE, unE e = l := by
  induction l with
  | nil => exact ⟨[], rfl⟩
  | cons o l ih =>
    obtain ⟨e, he⟩ := ih (fun x hx => h x (List.mem_cons_of_mem _ hx))
    exact ⟨⟨o, h o List.mem_cons_self⟩ :: e, congrArg (o :: ·) he⟩
/-- what Sort answers: a row of its own -/
structure OwnOps (N : Nat) (w w' : World) (v : Value) (outs : List OpM) : Prop where
  v : ∃ A c, v = .slice A outs.length c ∧ outs.length ≤ c ∧ c ≤ 9223372036854775807 ∧ (outs = [] ∨ ∃ g, A = some ⟨g, 0, none⟩ ∧ N ≤ g ∧ g < w'.heap.size ∧ RowO w' g outs ∧ ∀ o ∈ outs, OvO w' N g o)
  bel : Below N w w'
/-- by rising At; of each At the first -/
structure IsSort (os outs : List OpM) : Prop where
  up : outs.Pairwise fun a b => cmpS a.at_ b.at_ < 0
  one : ∀ t : Stm, (outs.filter fun o => decide (o.at_ = t)).map OpM.bare = ((os.filter fun o => decide (o.at_ = t)).take 1).map OpM.bare

set_option maxRecDepth 100000 in
theorem sortNil_any (A : Option Addr) (c : Nat) (w : World) : Calls Try.prog 63 #[.slice A 0 c, .func (.func 64) #[] #[]] w fun e w' => e = .returned (.tuple #[]) ∧ w = w' := by
  have hins : ∀ w, Calls Try.prog 78 #[.slice A 0 c, .int .i64 0, .int .i64 0, .func (.func 64) #[] #[]] w fun e w' => e = .returned (.tuple #[]) ∧ w = w' := fun w => by
    go_enter Try.func78, Try.ntmps78
    go_wp2
    go_loopg [8] 0 (fun g1 vi wr => vi = .int .i64 1 ∧ wr = w)
    case atStart => exact ⟨rfl, rfl⟩
    case round =>
      obtain ⟨rfl, rfl⟩ := hrel
      go_wp2
      go_end0
      exact ⟨rfl, rfl⟩
  have hst : ∀ w, Calls Try.prog 73 #[.slice A 0 c, .int .i64 0, .func (.func 64) #[] #[]] w fun e w' => e = .returned (.tuple #[]) ∧ w = w' := fun w => by
    go_enter Try.func73, Try.ntmps73
    go_wp2
    go_loopg [7, 8] 0 (fun g1 va vb wr => va = .int .i64 0 ∧ vb = .int .i64 20 ∧ wr = w)
    case atStart => exact ⟨rfl, rfl, rfl⟩
    case round =>
      obtain ⟨rfl, rfl, rfl⟩ := hrel
      go_wp2_with fail
      refine (hins _).mono ?_
      rintro e w' ⟨rfl, rfl⟩
      go_wp2_with fail
      go_loopg [6] 0 (fun g1 vs wr2 => vs = .int .i64 20 ∧ wr2 = wr)
      case atStart => exact ⟨rfl, rfl⟩
      case round =>
        obtain ⟨rfl, rfl⟩ := hrel
        go_wp2
        go_end0
        exact ⟨rfl, rfl⟩
  go_enter Try.func63, Try.ntmps63
  go_wp2_with fail
  refine (hst _).mono ?_
  rintro e w' ⟨rfl, rfl⟩
  go_wp2_with fail
  go_end0
  exact ⟨rfl, rfl⟩
set_option maxRecDepth 100000 in
theorem compactNil_any (A : Option Addr) (c : Nat) (w : World) : Calls Try.prog 65 #[.slice A 0 c, .func (.func 66) #[] #[]] w fun e w' => e = .returned (.slice A 0 c) ∧ w = w' := by
  go_enter Try.func65, Try.ntmps65
  go_wp2
  go_ret
  exact ⟨rfl, rfl⟩

theorem zero_op (w : World) : (zeroValue 33).run Try.prog w = .ok (.agg op0.cells.toArray) w := by
  cases hi : Try.prog.info? 33 with
  | none => have := info_op3; rw [hi] at this; cases this
  | some i =>
    have h := info_op3
    rw [hi] at h
    simp only [Option.map_some, Option.some.injEq, Prod.mk.injEq] at h
    simp [zeroValue, typeInfo, hi, h.1]
theorem zero_cells_one (n : Nat) : ∀ v ∈ (Builtin.zeroCells (Value.agg op0.cells.toArray).cells n).toList, v.oneCell' = true := by
  intro v hv
  simp only [Builtin.zeroCells, Array.toList_map, List.mem_map] at hv
  obtain ⟨i, hi, rfl⟩ := hv
  have h41 : (Value.agg op0.cells.toArray).cells = op0.cells.toArray := rfl
  have hsz : op0.cells.toArray.size = 41 := size_op op0 rfl
  rw [h41, hsz]
  have hlt : i % 41 < op0.cells.toArray.size := by rw [hsz]; exact Nat.mod_lt _ (by omega)
  rw [getElem!_pos op0.cells.toArray (i % 41) hlt]
  have := op0.cells_one ⟨_, _, _, rfl⟩ (op0.cells.toArray[i % 41]) (by simp)
  exact this

/-! ### plain: what Sort answers -/

theorem cmpS_self' (u : Stm) : cmpS u u = 0 := by
  unfold cmpS cmpI
  simp
theorem cmpI_lt {a b : Int} (h : a < b) : cmpI a b = -1 := by unfold cmpI; rw [if_pos h]
theorem cmpI_gt {a b : Int} (h : b < a) : cmpI a b = 1 := by unfold cmpI; rw [if_neg (by omega), if_pos h]
theorem cmpI_eq (a : Int) : cmpI a a = 0 := by unfold cmpI; rw [if_neg (by omega), if_neg (by omega)]
theorem cmpS_lt {a b : Stm} : cmpS a b < 0 ↔ a.t < b.t ∨ (a.t = b.t ∧ a.r < b.r) := by
  unfold cmpS
  rcases Int.lt_trichotomy a.t b.t with h | h | h
  · rw [cmpI_lt h, if_neg (by omega)]
    omega
  · rw [h, cmpI_eq, if_pos rfl]
    rcases Int.lt_trichotomy a.r b.r with k | k | k
    · rw [cmpI_lt k]; omega
    · rw [k, cmpI_eq]; omega
    · rw [cmpI_gt k]; omega
  · rw [cmpI_gt h, if_neg (by omega)]
    omega
theorem cmpS_irr (a : Stm) : ¬ cmpS a a < 0 := by rw [cmpS_lt]; omega
theorem cmpS_tr {a b c : Stm} (h : cmpS a b < 0) (k : cmpS b c < 0) : cmpS a c < 0 := by
  rw [cmpS_lt] at *
  omega
theorem cmpS_ng {a b c : Stm} (h : ¬ cmpS a b < 0) (k : ¬ cmpS b c < 0) : ¬ cmpS a c < 0 := by
  rw [cmpS_lt] at *
  omega
theorem cmpS_eq {a b : Stm} (h : ¬ cmpS a b < 0) (k : ¬ cmpS b a < 0) : a = b := by
  obtain ⟨t, r⟩ := a
  obtain ⟨t', r'⟩ := b
  rw [cmpS_lt] at h k
  dsimp only at h k
  have h1 : t = t' := by omega
  have h2 : r = r' := by omega
  rw [h1, h2]
/-- the order of operations -/
def oE : Lt OpE := ⟨ltOf cfE, fun a => decide_eq_false (cmpS_irr _), fun h k => decide_eq_true (cmpS_tr (of_decide_eq_true h) (of_decide_eq_true k)), fun h k => decide_eq_false (cmpS_ng (of_decide_eq_false h) (of_decide_eq_false k))⟩
theorem oE_lt (x y : OpE) : oE.lt x y = decide (cmpS x.1.at_ y.1.at_ < 0) := rfl
theorem oE_eqv (x a : OpE) : oE.eqv x a = decide (a.1.at_ = x.1.at_) := by
  unfold Lt.eqv
  rw [oE_lt, oE_lt]
  by_cases h : a.1.at_ = x.1.at_
  · rw [h]
    simp [cmpS_irr]
  · rw [decide_eq_false h]
    by_cases h1 : cmpS x.1.at_ a.1.at_ < 0
    · simp [h1]
    · by_cases h2 : cmpS a.1.at_ x.1.at_ < 0
      · simp [h2]
      · exact absurd (cmpS_eq h2 h1) h
def atE (t : Stm) (x : OpE) : Bool := decide (x.1.at_ = t)
theorem take1_app {α : Type} (a b : List α) (h : a ≠ []) : (a ++ b).take 1 = a.take 1 := by
  cases a with
  | nil => exact absurd rfl h
  | cons x r => rfl
theorem cpt_law {L C : List OpE} (h : Cpt (fun x y => decide (x.1.at_ = y.1.at_)) L C) : oE.Srt L → (C.Pairwise fun a b => cmpS a.1.at_ b.1.at_ < 0) ∧ (∀ t, C.filter (atE t) = (L.filter (atE t)).take 1) ∧ (∀ c ∈ C, c ∈ L) := by
  induction h with
  | nil => exact fun _ => ⟨List.Pairwise.nil, fun _ => rfl, fun c hc => hc⟩
  | one x =>
    refine fun _ => ⟨List.pairwise_singleton _ _, fun t => ?_, fun c hc => hc⟩
    by_cases hx : atE t x = true
    · rw [List.filter_cons_of_pos hx]; rfl
    · rw [List.filter_cons_of_neg hx]; rfl
  | same h he ih =>
    rename_i l c z x
    intro hs
    rw [show l ++ [z, x] = (l ++ [z]) ++ [x] by simp] at hs ⊢
    obtain ⟨i1, i2, i3⟩ := ih (Lt.srt_app.1 hs).1
    have he' : x.1.at_ = z.1.at_ := of_decide_eq_true he
    refine ⟨i1, fun t => ?_, fun c hc => List.mem_append_left _ (i3 c hc)⟩
    rw [i2 t, List.filter_append (l ++ [z]) [x]]
    by_cases hx : atE t x = true
    · have hz : atE t z = true := by unfold atE at hx ⊢; rw [← he']; exact hx
      rw [take1_app _ _ (fun e => by
        have : z ∈ (l ++ [z]).filter (atE t) := List.mem_filter.2 ⟨by simp, hz⟩
        rw [e] at this
        cases this)]
    · rw [List.filter_cons_of_neg (l := []) hx]
      simp
  | diff h he ih =>
    rename_i l c z x
    intro hs
    rw [show l ++ [z, x] = (l ++ [z]) ++ [x] by simp] at hs ⊢
    obtain ⟨i1, i2, i3⟩ := ih (Lt.srt_app.1 hs).1
    have he' : ¬ x.1.at_ = z.1.at_ := of_decide_eq_false he
    have hzx : cmpS z.1.at_ x.1.at_ < 0 := by
      have h1 := (Lt.srt_app.1 hs).2.2 z (by simp) x (by simp)
      rw [oE_lt] at h1
      have h2 := of_decide_eq_false h1
      by_cases h3 : cmpS z.1.at_ x.1.at_ < 0
      · exact h3
      · exact absurd (cmpS_eq h2 h3) he'
    have hall : ∀ y ∈ l ++ [z], cmpS y.1.at_ x.1.at_ < 0 := by
      have h5 := Lt.front (o := oE) (x := x) (Lt.srt_app.1 hs).1 (decide_eq_true hzx)
      exact fun y hy => of_decide_eq_true (h5 y hy)
    refine ⟨List.pairwise_append.2 ⟨i1, List.pairwise_singleton _ _, fun a ha b hb => ?_⟩, fun t => ?_, fun y hy => ?_⟩
    · rw [List.mem_singleton.1 hb]
      exact hall a (i3 a ha)
    · rw [List.filter_append, List.filter_append (l ++ [z]) [x], i2 t]
      by_cases hx : atE t x = true
      · have hn : (l ++ [z]).filter (atE t) = [] := by
          rw [List.filter_eq_nil_iff]
          intro y hy hyt
          have h6 := hall y hy
          have e1 : y.1.at_ = t := of_decide_eq_true hyt
          have e2 : x.1.at_ = t := of_decide_eq_true hx
          rw [e1, e2] at h6
          exact cmpS_irr _ h6
        rw [hn, List.filter_cons_of_pos hx]
        rfl
      · rw [List.filter_cons_of_neg (l := []) hx]
        simp
    · rcases List.mem_append.1 hy with hy | hy
      · exact List.mem_append_left _ (i3 y hy)
      · exact List.mem_append_right _ hy
theorem filter_at (l : List OpM) (t : Stm) : (l.filter fun o => decide (o.at_ = t)).map OpM.bare = (l.map OpM.bare).filter fun o => decide (o.at_ = t) := by
  rw [List.filter_map]
  rfl
theorem isSort_of {os : List OpM} {d : Array OpE} {C : List OpE} (hb : (unE d.toList).map OpM.bare = os.map OpM.bare) (hC : Cpt (fun x y => decide (x.1.at_ = y.1.at_)) (stA (ltOf cfE) d).toList C) : IsSort os (unE C) := by
  obtain ⟨s1, s2, s3⟩ := stA_law oE d
  have s1' : oE.Srt (stA (ltOf cfE) d).toList := s1
  have s2' : oE.Stab d.toList (stA (ltOf cfE) d).toList := s2
  obtain ⟨c1, c2, c3⟩ := cpt_law hC s1'
  refine ⟨List.pairwise_map.2 c1, fun t => ?_⟩
  have hst : (stA (ltOf cfE) d).toList.filter (atE t) = d.toList.filter (atE t) := by
    by_cases hx : ∃ x ∈ d.toList, atE t x = true
    · obtain ⟨x, hx, hxt⟩ := hx
      have h1 := s2' x
      have e : oE.eqv x = atE t := by
        funext a
        rw [oE_eqv, of_decide_eq_true hxt]
        rfl
      rw [e] at h1
      exact h1
    · have h1 : ∀ l : List OpE, (∀ x ∈ l, x ∈ d.toList) → l.filter (atE t) = [] := fun l hl => by
        rw [List.filter_eq_nil_iff]
        exact fun x h h2 => hx ⟨x, hl x h, h2⟩
      rw [h1 _ (fun x h => (s2'.mem x).1 h), h1 _ (fun x h => h)]
  have e1 : ∀ l : List OpE, (unE l).filter (fun o => decide (o.at_ = t)) = unE (l.filter (atE t)) := fun l => by
    unfold unE
    rw [List.filter_map]
    rfl
  rw [e1, c2 t, hst]
  have e2 : unE ((d.toList.filter (atE t)).take 1) = ((unE d.toList).filter fun o => decide (o.at_ = t)).take 1 := by rw [e1]; exact List.map_take
  rw [e2, List.map_take, List.map_take, filter_at, filter_at, hb]
end Go.Proofs.Ytabkgoandfpclaa

/-! stamp.Sort, walked: a row of its own, by rising At, one of each (IsSort). Conditions: at most 1000000 operations, their lists of at most 2^47 bytes. -/

namespace Go.Proofs.Ytabkgoandfpclaa

set_option linter.unusedVariables false

set_option linter.unusedSimpArgs false

set_option linter.unusedSectionVars false

open Go.Shelf Go.RowKit Go.Lib Go.Sort Go.Proofs

theorem stc_one (os : List Stm) : ∀ u ∈ stc os, u.oneCell' = true := by
  intro u hu
  obtain ⟨s, _, hs⟩ := List.mem_flatMap.1 hu
  exact s.one u hs
theorem oc_one (os : List OpM) (h : ∀ o ∈ os, ∃ A n c, o.ov = .slice A n c) : ∀ u ∈ oc os, u.oneCell' = true := by
  intro u hu
  obtain ⟨o, ho, hs⟩ := List.mem_flatMap.1 hu
  exact o.cells_one (h o ho) u hs
theorem SL.step' {N g : Nat} {w W w2 : World} {os osi : List OpM} {i : Nat} {v : Value} {o : OpM} {l : Nat} (h : SL N g w W os osi i) (hN : w.heap.size = N) (hin : ∀ o ∈ os, OpIn w o) (hi : i < osi.length) (hi' : i < os.length) (he : o = os[i]) (hl : o.os.length = l) (ho : OwnV W.heap.size W w2 23 2 v l (stc o.os)) :
    SL N g w (w2.setCell ⟨g, i * 41 + 40, none⟩ v) os (osi.set i (osi[i].setOv v)) (i + 1) := by
  subst hl he
  exact SL.step h hN hin hi hi' ho
theorem Cpt.len {α : Type} [Inhabited α] {eq : α → α → Bool} {l c : List α} (h : Cpt eq l c) : c.length ≤ l.length := by
  induction h with
  | nil => exact Nat.le_refl _
  | one x => exact Nat.le_refl _
  | same h he ih => simp at ih ⊢; omega
  | diff h he ih => simp at ih ⊢; omega
/-- the library's part: a row that is sorted and made one of each -/
theorem sort_row {g cap : Nat} {d : Array OpE} {W : World} (hrow : RowO W g (unE d.toList)) (hg : g < W.heap.size) (hsz : d.size < 1099511627776) (hcap : d.size ≤ cap) (hcm : cap ≤ 9223372036854775807) :
    Calls Try.prog 63 #[.slice (some ⟨g, 0, none⟩) d.size cap, .func (.func 64) #[] #[]] W fun e W1 => e = .returned (.tuple #[]) ∧
    Calls Try.prog 65 #[.slice (some ⟨g, 0, none⟩) d.size cap, .func (.func 66) #[] #[]] W1 fun e W2 => ∃ C : List OpE, e = .returned (.slice (some ⟨g, 0, none⟩) C.length cap) ∧ Cpt (fun x y => decide (x.1.at_ = y.1.at_)) (stA (ltOf cfE) d).toList C ∧ RowO W2 g (unE C) ∧ W.grownBy W2 (some g) := by
  have hH := holds_row hrow
  have R : RowK encE 41 W g 0 d := ⟨encE_len, encE_one, hH, hg⟩
  have eg1 : ∀ args w, (callFunc 64 args).run Try.prog w = .ok (.enter 64 args) w := enters_of Try.func64 (by kernel_rfl) rfl
  have eg2 : ∀ args w, (callFunc 66 args).run Try.prog w = .ok (.enter 66 args) w := enters_of Try.func66 (by kernel_rfl) rfl
  have h1 := sortStable_any 41 opSize encE cfE 64 #[] g 0 cap d W R eg1 (cmpLaysE g 0 d.size W) hsz d W rfl (SWK.start hH)
  refine h1.mono ?_
  rintro e W1 ⟨rfl, S1⟩
  refine ⟨rfl, ?_⟩
  have h2 := compact_any 41 opSize encE (fun x y => decide (x.1.at_ = y.1.at_)) 66 #[] g 0 cap d W R eg2 eqLaysE (.agg op0.cells.toArray) zero_op (size_op op0 rfl) zero_cells_one hsz hcap hcm (stA (ltOf cfE) d) W1 (stA_law oE d).2.2 S1
  refine h2.mono ?_
  rintro e W2 ⟨C, h3, h4, h5, h6⟩
  exact ⟨C, h3, h4, preK_row h5, h6⟩

set_option maxHeartbeats 4000000 in
set_option maxRecDepth 100000 in
theorem sort_any (A : Option Addr) (c : Nat) (os : List OpM) (w : World) (hr : Rd w A (oc os)) (hin : ∀ o ∈ os, OpIn w o) (hsm : ∀ o ∈ os, o.os.length * 16 ≤ 140737488355328) (hn : os.length ≤ 1000000) :
    Calls Try.prog 32 #[.slice A os.length c] w fun e w' => ∃ v outs, e = .returned v ∧ OwnOps w.heap.size w w' v outs ∧ IsSort os outs := by
  have mixed : Try.prog.follows .mixedOrders = true := by kernel_rfl
  have hdl : ∀ o ∈ os, o.data.length = 32 := fun o ho => (hin o ho).len
  have hov : ∀ o ∈ os, ∃ A n c, o.ov = .slice A n c := fun o ho => by obtain ⟨A, c, h, _⟩ := (hin o ho).ov; exact ⟨A, _, c, h⟩
  have HCL := Lib.hid (cloneOps_any A os.length c (oc os) w hr (oc_len hdl) (oc_one os hov) (by omega))
  obtain ⟨n, hnn⟩ : ∃ n, os.length = n := ⟨_, rfl⟩
  have HN := Lib.hid hnn
  have HIN := Lib.hid hin
  have HSM := Lib.hid hsm
  have HDL := Lib.hid hdl
  rw [hnn] at HCL hn
  rw [hnn]
  obtain ⟨N, hN⟩ : ∃ N, w.heap.size = N := ⟨_, rfl⟩
  have HW := Lib.hid hN
  rw [hN] at HCL
  rw [hN]
  clear hr hin hsm hdl hov hnn hN
  go_enter Try.func32, Try.ntmps32
  go_wp2_with fail
  refine HCL.out.mono ?_
  rintro e w1 ⟨v, rfl, HV⟩
  have HV1 := Lib.hid HV
  clear HV HCL
  by_cases h0 : n = 0
  · obtain ⟨A', c', hv, hnc, hcm, hblk, hnone⟩ := own_slice HV1.out.own
    subst hv
    have hos : os = [] := List.eq_nil_of_length_eq_zero (HN.out.trans h0)
    have HOS := Lib.hid hos
    subst h0
    clear hblk hnone hos
    go_wp2_with fail
    go_loopg [9] 0 (fun gk_ s9 wr => s9 = .int .i64 0 ∧ wr = w1)
    case atStart => exact ⟨rfl, rfl⟩
    case round =>
      obtain ⟨rfl, rfl⟩ := hrel
      go_wp2_with fail
      refine (sortNil_any A' c' wr).mono ?_
      rintro e w2 ⟨rfl, rfl⟩
      go_wp2_with fail
      refine (compactNil_any A' c' wr).mono ?_
      rintro e w2 ⟨rfl, rfl⟩
      go_wp2_with fail
      go_ret
      exact ⟨_, [], rfl, ⟨⟨A', c', rfl, hnc, by unfold maxLen at hcm; exact hcm, .inl rfl⟩, HV1.out.bel⟩, by rw [HOS.out]; exact ⟨List.Pairwise.nil, fun t => rfl⟩⟩
  rcases HV1.out.own.2 with ⟨hv, h9⟩ | ⟨g, cap, cur, hv, hNg, hgr, hncap, hcapm, hcs, htake⟩
  · exact absurd h9 h0
  · subst hv
    have hcur : RowO w1 g os := rowO_of hgr htake HDL.out
    have HSL : Hid (SL N g w w1 os os 0) := Lib.hid ⟨rfl, hcur, HV1.out.bel, hNg, (Array.getElem?_eq_some_iff.1 hgr).1, fun k _ hk => by omega, fun k _ _ _ => rfl, rfl, HDL.out⟩
    have hcap2 : cap ≤ 9223372036854775807 := by unfold maxLen at hcapm; exact hcapm
    clear hgr htake hcs hcur hcapm
    go_wp2_with fail
    go_loopg [9] n (fun gk_ s9 wr => ∃ (i : Nat) (osi : List OpM), s9 = .int .i64 i ∧ i ≤ n ∧ n - i ≤ gk_ ∧ Hid (SL N g w wr os osi i))
    case atStart => exact ⟨0, os, rfl, by omega, by omega, HSL⟩
    case round =>
      clear HSL
      obtain ⟨i, osi, rfl, hi, hgk, HSL⟩ := hrel
      have HLN : Hid (osi.length = n) := Lib.hid (HSL.out.len.trans HN.out)
      by_cases hlt : i < n
      · have hltz : (i : Int) < (n : Int) := by omega
        have hi1 : i < osi.length := by rw [HLN.out]; exact hlt
        have hi2 : i < os.length := by rw [HN.out]; exact hlt
        have HI1 := Lib.hid hi1
        have HI2 := Lib.hid hi2
        obtain ⟨o, ho⟩ : ∃ o, o = os[i] := ⟨_, rfl⟩
        have e1 : osi[i] = o := by rw [ho]; exact HSL.out.rest i hi1 hi2 (Nat.le_refl _)
        have hmem : o ∈ os := by rw [ho]; exact List.getElem_mem hi2
        have hin1 := HIN.out o hmem
        obtain ⟨A2, c2, hov, hrd, hlc, hc2⟩ := hin1.ov
        obtain ⟨q1, qf1⟩ := HSL.out.row i hi1 40 osi[i].ov (ov_cell _ (HSL.out.dl _ (List.getElem_mem hi1)))
        rw [e1, hov] at q1
        have HCS := Lib.hid (cloneStms_any A2 o.os.length c2 (stc o.os) wr (hrd.below (by rw [HW.out]; exact HSL.out.bel)) (stc_length _) (stc_one _) (HSM.out o hmem))
        obtain ⟨l, hl⟩ : ∃ l, o.os.length = l := ⟨_, rfl⟩
        rw [hl] at HCS q1
        have HO := Lib.hid ho
        have HL := Lib.hid hl
        have HGL : Hid (g < wr.heap.size) := Lib.hid HSL.out.gl
        clear e1 hin1 hov hrd hi1 hi2 hl ho hmem hlc hc2
        go_wp2_with fail
        refine HCS.out.mono ?_
        rintro e w2 ⟨v2, rfl, HV2⟩
        have HV3 := Lib.hid HV2
        obtain ⟨A3, c3, hv3, _, _, _, _⟩ := own_slice HV2.own
        subst hv3
        have hbk : w2.heap[g]? = wr.heap[g]? := HV2.bel.block g HGL.out
        have q2 : w2.cell? ⟨g, i * 41 + 40, none⟩ = some (.slice A2 l c2) := (World.cell?_of_block (a := ⟨g, i * 41 + 40, none⟩) hbk).trans q1
        have qf2 : w2.frozen? ⟨g, i * 41 + 40, none⟩ = false := (World.frozen?_of_block (a := ⟨g, i * 41 + 40, none⟩) hbk).trans qf1
        have HST : Hid (SL N g w (w2.setCell ⟨g, i * 41 + 40, none⟩ (.slice A3 l c3)) os (osi.set i (osi[i]'HI1.out |>.setOv (.slice A3 l c3))) (i + 1)) := Lib.hid (SL.step' HSL.out HW.out HIN.out HI1.out HI2.out HO.out HL.out HV3.out)
        clear HV2 HCS q1 qf1 hbk
        go_wp2_with fail
        go_roundg (n - (i + 1))
        case measure => omega
        case rel => exact ⟨i + 1, _, by go_num, by omega, Nat.le_refl _, HST⟩
      · have hltz : ¬ (i : Int) < (n : Int) := by omega
        have hiN : i = n := by omega
        have HSL2 : Hid (SL N g w wr os osi n) := by rw [← hiN]; exact HSL
        obtain ⟨d, hd⟩ := toE osi (fun o ho => by
          obtain ⟨k, hk, rfl⟩ := List.getElem_of_mem ho
          have h3 := HSL2.out.done k hk (by have := HLN.out; omega)
          obtain ⟨A, c, h4, _⟩ := h3.opIn.ov
          exact ⟨h3.dl, A, _, c, h4⟩)
        have hdn : d.toArray.size = n := by rw [List.size_toArray, ← unE_len, hd]; exact HLN.out
        have hsr := sort_row (g := g) (cap := cap) (d := d.toArray) (W := wr) (by rw [List.toList_toArray, hd]; exact HSL2.out.row) HSL2.out.gl (by omega) (by omega) hcap2
        rw [hdn] at hsr
        have HSR := Lib.hid hsr
        have HD := Lib.hid hd
        clear hsr hdn hd HSL hiN hgk
        go_wp2_with fail
        refine HSR.out.mono ?_
        rintro e w3 ⟨rfl, hcp⟩
        have HCP := Lib.hid hcp
        clear hcp HSR
        go_wp2_with fail
        refine HCP.out.mono ?_
        rintro e w4 ⟨C, rfl, hC1, hC2, hC3⟩
        have HC1 := Lib.hid hC1
        have HC2 := Lib.hid hC2
        have HC3 := Lib.hid hC3
        clear hC1 hC2 hC3 HCP
        go_wp2_with fail
        go_ret
        have hbel := HSL2.out.bel
        have hSd := stA_law oE d.toArray
        have hCd := cpt_law HC1.out hSd.1
        refine ⟨.slice (some ⟨g, 0, none⟩) C.length cap, unE C, rfl, ⟨⟨some ⟨g, 0, none⟩, cap, by rw [unE_len], ?_, hcap2, .inr ⟨g, rfl, hNg, ?_, HC2.out, fun o ho => ?_⟩⟩, ?_⟩, ?_⟩
        · have h6 : C.length ≤ (stA (ltOf cfE) d.toArray).toList.length := Cpt.len HC1.out
          have h7 : (stA (ltOf cfE) d.toArray).toList.length = d.length := (Array.length_toList).trans (hSd.2.2.trans List.size_toArray)
          have h8 := congrArg List.length HD.out
          rw [unE_len] at h8
          have := HLN.out
          rw [unE_len]
          omega
        · have := HC3.out.size
          have := HSL2.out.gl
          omega
        · obtain ⟨x, hx, rfl⟩ := List.mem_map.1 ho
          have hx2 : x ∈ d := by
            have h8 := (hSd.2.1.mem x).1 (hCd.2.2 x hx)
            simpa using h8
          have hx3 : x.1 ∈ osi := by rw [← HD.out]; exact List.mem_map.2 ⟨x, hx2, rfl⟩
          obtain ⟨k, hk, he⟩ := List.getElem_of_mem hx3
          rw [← he]
          exact (HSL2.out.done k hk (by have := HLN.out; omega)).keep HC3.out.size (fun b hb hl => HC3.out.block b hl (fun e => hb (Option.some.inj e)))
        · exact hbel.grown HC3.out (by have := hbel.size; have := HW.out; omega) (fun k hk => by cases hk; exact hNg)
        · exact isSort_of (d := d.toArray) (by rw [List.toList_toArray, HD.out]; exact HSL2.out.bare) HC1.out
end Go.Proofs.Ytabkgoandfpclaa

/-! pollardref03.SameAll of lists that are the same but for where their lists lie; no condition. -/

namespace Go.Proofs.Ytabkgoandfpclaa

set_option linter.unusedVariables false

set_option linter.unusedSimpArgs false

set_option linter.unusedSectionVars false

open Go.RowKit

theorem rd_op {w : World} {b off : Nat} {os : List OpM} (hr : Rd w (some ⟨b, off, none⟩) (oc os)) (h : ∀ o ∈ os, o.data.length = 32) (i : Nat) (hi : i < os.length) : w.rangeAt b (off + i * 41) os[i].cells := by
  intro j v hv
  obtain ⟨b', o', he, hc⟩ := hr _ _ (oc_at h i hi j v hv)
  cases he
  rw [Nat.add_assoc]
  exact hc
theorem rd_some {w : World} {A : Option Addr} {os : List OpM} (hr : Rd w A (oc os)) (h : ∀ o ∈ os, o.data.length = 32) (h0 : 0 < os.length) : ∃ b off, A = some ⟨b, off, none⟩ ∧ b < w.heap.size := by
  obtain ⟨u, hu⟩ : ∃ u, (oc os)[0]? = some u := ⟨_, List.getElem?_eq_getElem (by rw [oc_len h]; omega)⟩
  obtain ⟨b, o, hA, hc⟩ := hr 0 u hu
  exact ⟨b, o, hA, World.block_lt_of_cell? w _ hc⟩
theorem info_opc (o : OpM) (h : o.data.length = 32) : (Try.prog.info? 33).map (·.size) = some o.cells.length := by rw [o.cells_len h]; exact info_op
theorem sameO_bare {a b : OpM} (h : a.bare = b.bare) : sameO a b = true := by
  obtain ⟨k, t, n, p, nm, d, ov, os⟩ := a
  obtain ⟨k', t', n', p', nm', d', ov', os'⟩ := b
  simp only [OpM.bare, OpM.mk.injEq] at h
  obtain ⟨rfl, rfl, rfl, rfl, rfl, rfl, _, rfl⟩ := h
  simp [sameO]

set_option maxRecDepth 100000 in
set_option maxHeartbeats 4000000 in
theorem sameAll_any (A B : Option Addr) (c d : Nat) (xs ys : List OpM) (w : World) (hra : Rd w A (oc xs)) (hrb : Rd w B (oc ys)) (ha : ∀ o ∈ xs, OpIn w o) (hb : ∀ o ∈ ys, OpIn w o) (he : xs.map OpM.bare = ys.map OpM.bare) (hn : xs.length ≤ 9223372036854775807) :
    Calls Try.prog 34 #[.slice A xs.length c, .slice B ys.length d] w fun e w' => e = .returned (.bool true) ∧ Below w.heap.size w w' := by
  have mixed : Try.prog.follows .mixedOrders = true := by kernel_rfl
  have hl : xs.length = ys.length := by have := congrArg List.length he; simpa using this
  rw [← hl]
  obtain ⟨n, hnn⟩ : ∃ n, xs.length = n := ⟨_, rfl⟩
  have HRA := Lib.hid hra
  have HRB := Lib.hid hrb
  have HA := Lib.hid ha
  have HB := Lib.hid hb
  have HE := Lib.hid he
  have HNA := Lib.hid hnn
  have HNB : Hid (ys.length = n) := Lib.hid (hl.symm.trans hnn)
  rw [hnn]
  rw [hnn] at hn
  have hz : ((n : Int) != (n : Int)) = false := by simp
  clear hra hrb ha hb he hl hnn
  go_enter Try.func34, Try.ntmps34
  go_wp2_with fail
  go_loopg [5] n (fun gk_ s5 wr => ∃ k : Nat, k ≤ n ∧ n - k ≤ gk_ ∧ s5 = .int .i64 (k : Int) ∧ Hid (Below w.heap.size w wr))
  case atStart => exact ⟨0, by omega, by omega, rfl, Lib.hid (Below.refl _ _)⟩
  case round =>
    obtain ⟨k, hk, hgk, rfl, HBL⟩ := hrel
    by_cases hlt : k < n
    · have hltz : (k : Int) < (n : Int) := by omega
      have hka : k < xs.length := by rw [HNA.out]; exact hlt
      have hkb : k < ys.length := by rw [HNB.out]; exact hlt
      have hda : ∀ o ∈ xs, o.data.length = 32 := fun o ho => (HA.out o ho).len
      have hdb : ∀ o ∈ ys, o.data.length = 32 := fun o ho => (HB.out o ho).len
      obtain ⟨ba, oa, hA, _⟩ := rd_some HRA.out hda (by omega)
      obtain ⟨bb, ob, hB, _⟩ := rd_some HRB.out hdb (by omega)
      subst hA hB
      have r1 := rd_op (HRA.out.below HBL.out) hda k hka
      have r2 := rd_op (HRB.out.below HBL.out) hdb k hkb
      obtain ⟨_, _, h1, l1⟩ := rd_some (HRA.out.below HBL.out) hda (by omega)
      cases h1
      obtain ⟨_, _, h2, l2⟩ := rd_some (HRB.out.below HBL.out) hdb (by omega)
      cases h2
      have hs : sameO xs[k] ys[k] = true := sameO_bare (by
        have h3 : (xs.map OpM.bare)[k]'(by simpa using hka) = (ys.map OpM.bare)[k]'(by simpa using hkb) := by simp only [HE.out]
        simpa using h3)
      have ia := (HA.out _ (List.getElem_mem hka)).below HBL.out
      have ib := (HB.out _ (List.getElem_mem hkb)).below HBL.out
      obtain ⟨a, hxa⟩ : ∃ a, xs[k] = a := ⟨_, rfl⟩
      obtain ⟨b, hxb⟩ : ∃ b, ys[k] = b := ⟨_, rfl⟩
      rw [hxa] at r1 hs ia
      rw [hxb] at r2 hs ib
      have HC : Hid (∀ W, Below wr.heap.size wr W → Calls Try.prog 21 #[a.val, b.val] W fun e w' => e = .returned (.bool true) ∧ Below W.heap.size W w') := Lib.hid (fun W hW => by
        have h4 := opsameR_any a b W (ia.below hW) (ib.below hW)
        rw [hs] at h4
        exact h4)
      have R1 := Lib.hid r1
      have R2 := Lib.hid r2
      have L1 := Lib.hid l1
      have L2 := Lib.hid l2
      have I1 := Lib.hid (info_opc a ia.len)
      have I2 := Lib.hid (info_opc b ib.len)
      clear r1 r2 l1 l2 hs ia ib hxa hxb hka hkb hda hdb
      go_wp2_with fail
      refine wp_region_sched (fun w' => Below wr.heap.size wr w') [(true, 0), (true, 1), (true, 2), (true, 3), (true, 4), (true, 5), (true, 6), (true, 7), (false, 8), (true, 9)] (by kernel_rfl) (by kernel_rfl) rfl (by kernel_rfl) (Below.refl _ _).drew ?_
      iterate 3 (first | (refine wpS_pass _ rfl (by rfl) ?_; simp only [Act.put, List.getElem_toArray, List.getElem_cons_zero, List.getElem_cons_succ, List.setIfInBounds_toArray, List.set_cons_zero, List.set_cons_succ]) | (refine wpS_take _ ?_ rfl (by rfl) ?_ ?_; rotate_left; (focus (intro w' hS'; (try dsimp only at hS'); (repeat (have hS1 := hS'.1; replace hS' := hS'.2)); go_simp; (try with_reducible rfl); done)); simp only [Act.put, List.getElem_toArray, List.getElem_cons_zero, List.getElem_cons_succ, List.setIfInBounds_toArray, List.set_cons_zero, List.set_cons_succ]))
      refine wpS_load _ rfl (by rfl) 33 _ rfl ba (oa + k * 41) rfl a.cells _ (fun w' hS => range_below R1.out L1.out hS) Try.underlying33 rfl I1.out ?_
      simp only [Act.put, List.getElem_toArray, List.getElem_cons_zero, List.getElem_cons_succ, List.setIfInBounds_toArray, List.set_cons_zero, List.set_cons_succ]
      iterate 3 (first | (refine wpS_pass _ rfl (by rfl) ?_; simp only [Act.put, List.getElem_toArray, List.getElem_cons_zero, List.getElem_cons_succ, List.setIfInBounds_toArray, List.set_cons_zero, List.set_cons_succ]) | (refine wpS_take _ ?_ rfl (by rfl) ?_ ?_; rotate_left; (focus (intro w' hS'; (try dsimp only at hS'); (repeat (have hS1 := hS'.1; replace hS' := hS'.2)); go_simp; (try with_reducible rfl); done)); simp only [Act.put, List.getElem_toArray, List.getElem_cons_zero, List.getElem_cons_succ, List.setIfInBounds_toArray, List.set_cons_zero, List.set_cons_succ]))
      refine wpS_load _ rfl (by rfl) 33 _ rfl bb (ob + k * 41) rfl b.cells _ (fun w' hS => range_below R2.out L2.out hS) Try.underlying33 rfl I2.out ?_
      simp only [Act.put, List.getElem_toArray, List.getElem_cons_zero, List.getElem_cons_succ, List.setIfInBounds_toArray, List.set_cons_zero, List.set_cons_succ]
      refine wpS_do _ rfl (by rfl) (fun K hK => ?_)
      go_simp
      refine (HC.out _ (Below.refl _ _).drew).mono ?_
      rintro e w3 ⟨rfl, hb3⟩
      have HB3 : Hid (Below wr.heap.size wr w3) := Lib.hid ((Below.refl wr.heap.size wr).drew.trans hb3)
      refine hK.out _ _ HB3.out (fun hS => ?_)
      clear hK hS hb3
      (first | (refine wpS_pass _ rfl (by rfl) ?_; simp only [Act.put, List.getElem_toArray, List.getElem_cons_zero, List.getElem_cons_succ, List.setIfInBounds_toArray, List.set_cons_zero, List.set_cons_succ]) | (refine wpS_take _ ?_ rfl (by rfl) ?_ ?_; rotate_left; (focus (intro w' hS'; (try dsimp only at hS'); (repeat (have hS1 := hS'.1; replace hS' := hS'.2)); go_simp; (try with_reducible rfl); done)); simp only [Act.put, List.getElem_toArray, List.getElem_cons_zero, List.getElem_cons_succ, List.setIfInBounds_toArray, List.set_cons_zero, List.set_cons_succ]))
      refine wpS_done ?_
      go_wp2_with fail
      go_roundg (n - (k + 1))
      case measure => omega
      case rel => exact ⟨k + 1, by omega, Nat.le_refl _, by go_num, Lib.hid (HBL.out.trans (HB3.out.mono HBL.out.size))⟩
    · have hltz : ¬ (k : Int) < (n : Int) := by omega
      go_wp2_with fail
      go_ret
      exact ⟨rfl, HBL.out⟩
end Go.Proofs.Ytabkgoandfpclaa

/-! Plain: selecting the least behind the last, over and over, sorts (the document's Sort). No program. -/

namespace Go.Proofs.Ytabkgoandfpclaa

set_option linter.unusedVariables false

set_option linter.unusedSimpArgs false

open Go.RowKit

theorem cmpS_gt {a b : Stm} : 0 < cmpS a b ↔ cmpS b a < 0 := by
  rw [cmpS_lt]
  unfold cmpS
  rcases Int.lt_trichotomy a.t b.t with h | h | h
  · rw [cmpI_lt h, if_neg (by omega)]
    omega
  · rw [h, cmpI_eq, if_pos rfl]
    rcases Int.lt_trichotomy a.r b.r with k | k | k
    · rw [cmpI_lt k]; omega
    · rw [k, cmpI_eq]; omega
    · rw [cmpI_gt k]; omega
  · rw [cmpI_gt h, if_neg (by omega)]
    omega
/-- does an operation stand behind the last of what is out? -/
def behB (out : List OpM) (o : OpM) : Bool := match out.getLast? with | none => true | some l => decide (0 < cmpS o.at_ l.at_)
theorem behB_nil (o : OpM) : behB [] o = true := rfl
theorem behB_snoc (l : List OpM) (x o : OpM) : behB (l ++ [x]) o = decide (0 < cmpS o.at_ x.at_) := by unfold behB; simp
/-- the state of the inner loop: the first of the least that stand behind -/
structure BestI (os out : List OpM) (i : Nat) (b : Option Nat) : Prop where
  no : b = none → ∀ j (h : j < os.length), j < i → behB out os[j] = false
  yes : ∀ k, b = some k → ∃ h : k < os.length, k < i ∧ behB out os[k] = true ∧ (∀ j (hj : j < os.length), j < i → behB out os[j] = true → ¬ cmpS os[j].at_ os[k].at_ < 0) ∧ (∀ j (hj : j < os.length), j < k → behB out os[j] = true → cmpS os[k].at_ os[j].at_ < 0)
theorem BestI.start (os out : List OpM) : BestI os out 0 none := ⟨fun _ j h hj => by omega, fun k hk => (by cases hk)⟩
theorem BestI.skip {os out : List OpM} {i : Nat} {b : Option Nat} (h : BestI os out i b) (hi : i < os.length) (hb : behB out os[i] = false) : BestI os out (i + 1) b := by
  refine ⟨fun e j hj hji => ?_, fun k hk => ?_⟩
  · by_cases hlt : j < i
    · exact h.no e j hj hlt
    · obtain rfl : j = i := by omega
      exact hb
  · obtain ⟨h1, h2, h3, h4, h5⟩ := h.yes k hk
    refine ⟨h1, by omega, h3, fun j hj hji hbj => ?_, h5⟩
    by_cases hlt : j < i
    · exact h4 j hj hlt hbj
    · obtain rfl : j = i := by omega
      rw [hb] at hbj
      cases hbj
theorem BestI.first {os out : List OpM} {i : Nat} (h : BestI os out i none) (hi : i < os.length) (hb : behB out os[i] = true) : BestI os out (i + 1) (some i) := by
  refine ⟨fun e => (by cases e), fun k hk => ?_⟩
  cases hk
  refine ⟨hi, by omega, hb, fun j hj hji hbj => ?_, fun j hj hji hbj => ?_⟩
  · by_cases hlt : j < i
    · rw [h.no rfl j hj hlt] at hbj
      cases hbj
    · obtain rfl : j = i := by omega
      exact cmpS_irr _
  · rw [h.no rfl j hj hji] at hbj
    cases hbj
theorem BestI.keep {os out : List OpM} {i k : Nat} (h : BestI os out i (some k)) (hi : i < os.length) (hk : k < os.length) (hc : ¬ cmpS os[i].at_ os[k].at_ < 0) : BestI os out (i + 1) (some k) := by
  refine ⟨fun e => (by cases e), fun q hq => ?_⟩
  cases hq
  obtain ⟨h1, h2, h3, h4, h5⟩ := h.yes k rfl
  refine ⟨h1, by omega, h3, fun j hj hji hbj => ?_, h5⟩
  by_cases hlt : j < i
  · exact h4 j hj hlt hbj
  · obtain rfl : j = i := by omega
    exact hc
theorem BestI.better {os out : List OpM} {i k : Nat} (h : BestI os out i (some k)) (hi : i < os.length) (hk : k < os.length) (hb : behB out os[i] = true) (hc : cmpS os[i].at_ os[k].at_ < 0) : BestI os out (i + 1) (some i) := by
  refine ⟨fun e => (by cases e), fun q hq => ?_⟩
  cases hq
  obtain ⟨h1, h2, h3, h4, h5⟩ := h.yes k rfl
  have hall : ∀ j (hj : j < os.length), j < i → behB out os[j] = true → cmpS os[i].at_ os[j].at_ < 0 := fun j hj hji hbj => by
    have h6 := h4 j hj hji hbj
    by_cases h7 : cmpS os[i].at_ os[j].at_ < 0
    · exact h7
    · exact absurd hc (cmpS_ng h7 h6)
  refine ⟨hi, by omega, hb, fun j hj hji hbj => ?_, fun j hj hji hbj => hall j hj hji hbj⟩
  by_cases hlt : j < i
  · intro h8
    exact cmpS_irr _ (cmpS_tr (hall j hj hlt hbj) h8)
  · obtain rfl : j = i := by omega
    exact cmpS_irr _
/-- the state of the outer loop: what is out, as far as it goes, is sorted -/
structure OutI (os out : List OpM) : Prop where
  up : out.Pairwise fun a b => cmpS a.at_ b.at_ < 0
  mem : ∀ o ∈ out, o ∈ os
  far : ∀ t, (∃ l, out.getLast? = some l ∧ ¬ cmpS l.at_ t < 0) → out.filter (fun o => decide (o.at_ = t)) = (os.filter fun o => decide (o.at_ = t)).take 1
  len : out.length + (os.filter (behB out)).length ≤ os.length
theorem OutI.start (os : List OpM) : OutI os [] := ⟨List.Pairwise.nil, fun o h => (by cases h), fun t ⟨l, h, _⟩ => (by cases h), by simpa using List.length_filter_le _ _⟩
theorem OutI.below {os out : List OpM} (h : OutI os out) {l : OpM} (hl : out.getLast? = some l) : ∀ o ∈ out, ¬ cmpS l.at_ o.at_ < 0 := by
  obtain ⟨q, rfl⟩ := List.getLast?_eq_some_iff.1 hl
  intro o ho
  rcases List.mem_append.1 ho with ho | ho
  · have := (List.pairwise_append.1 h.up).2.2 o ho l (List.mem_singleton.2 rfl)
    intro h2
    exact cmpS_irr _ (cmpS_tr this h2)
  · rw [List.mem_singleton.1 ho]
    exact cmpS_irr _
theorem beh_of {out : List OpM} {o : OpM} (h : ∀ l, out.getLast? = some l → cmpS l.at_ o.at_ < 0) : behB out o = true := by
  unfold behB
  cases hl : out.getLast? with
  | none => rfl
  | some l => exact decide_eq_true (cmpS_gt.2 (h l hl))
theorem filter_none {os : List OpM} {t : Stm} (h : ∀ o ∈ os, o.at_ ≠ t) : os.filter (fun o => decide (o.at_ = t)) = [] := by
  rw [List.filter_eq_nil_iff]
  exact fun o ho h2 => h o ho (of_decide_eq_true h2)
theorem OutI.noneAt {os out : List OpM} (h : OutI os out) {t : Stm} (hb : ∀ l, out.getLast? = some l → cmpS l.at_ t < 0) : ∀ o ∈ out, o.at_ ≠ t := fun o ho e => by
  cases hl : out.getLast? with
  | none => rw [List.getLast?_eq_none_iff.1 hl] at ho; cases ho
  | some l =>
    have h1 := h.below hl o ho
    rw [e] at h1
    exact h1 (hb l hl)
/-- none stands behind: it is sorted -/
theorem OutI.done {os out : List OpM} (h : OutI os out) (hb : BestI os out os.length Option.none) : IsSort os out := by
  refine ⟨h.up, fun t => ?_⟩
  by_cases hc : ∃ l, out.getLast? = some l ∧ ¬ cmpS l.at_ t < 0
  · rw [h.far t hc]
  · have hlt : ∀ l, out.getLast? = some l → cmpS l.at_ t < 0 := fun l hl => by
      by_cases h1 : cmpS l.at_ t < 0
      · exact h1
      · exact absurd ⟨l, hl, h1⟩ hc
    rw [filter_none (h.noneAt hlt), filter_none (os := os)]
    · rfl
    · intro o ho e
      obtain ⟨j, hj, rfl⟩ := List.getElem_of_mem ho
      have h2 := hb.no rfl j hj hj
      rw [beh_of (fun l hl => by rw [e]; exact hlt l hl)] at h2
      cases h2
theorem first_at {os : List OpM} {k : Nat} (hk : k < os.length) (h : ∀ j (hj : j < os.length), j < k → os[j].at_ ≠ os[k].at_) : (os.filter fun o => decide (o.at_ = os[k].at_)).take 1 = [os[k]] := by
  obtain ⟨P, x, R, e, hl⟩ : ∃ P x R, os = P ++ x :: R ∧ P.length = k := ⟨os.take k, os[k], os.drop (k + 1), by rw [← List.drop_eq_getElem_cons hk, List.take_append_drop], by simp; omega⟩
  have hx : os[k] = x := by
    subst hl
    simp only [e]
    rw [List.getElem_append_right (Nat.le_refl _)]
    simp
  rw [hx] at h ⊢
  have hP : P.filter (fun o => decide (o.at_ = x.at_)) = [] := filter_none (fun o ho e1 => by
    obtain ⟨j, hj, rfl⟩ := List.getElem_of_mem ho
    have h1 := h j (by rw [e]; simp; omega) (by omega)
    simp only [e] at h1
    rw [List.getElem_append_left hj] at h1
    exact h1 e1)
  rw [e, List.filter_append, hP, List.nil_append, List.filter_cons_of_pos (by simp)]
  rfl
/-- the least that stands behind goes out -/
theorem OutI.push {os out : List OpM} (h : OutI os out) {k : Nat} (hb : BestI os out os.length (some k)) (hk : k < os.length) : OutI os (out ++ [os[k]]) ∧ (os.filter (behB (out ++ [os[k]]))).length < (os.filter (behB out)).length := by
  obtain ⟨_, _, h3, h4, h5⟩ := hb.yes k rfl
  have hlast : ∀ l, out.getLast? = some l → cmpS l.at_ os[k].at_ < 0 := fun l hl => by
    unfold behB at h3
    rw [hl] at h3
    exact cmpS_gt.1 (of_decide_eq_true h3)
  have hsub : ∀ o, behB (out ++ [os[k]]) o = true → behB out o = true := fun o ho => by
    rw [behB_snoc] at ho
    have h6 := cmpS_gt.1 (of_decide_eq_true ho)
    exact beh_of (fun l hl => cmpS_tr (hlast l hl) h6)
  have hlen : (os.filter (behB (out ++ [os[k]]))).length < (os.filter (behB out)).length := by
    have e1 : os.filter (behB (out ++ [os[k]])) = (os.filter (behB out)).filter (behB (out ++ [os[k]])) := by
      rw [List.filter_filter]
      refine List.filter_congr (fun o _ => ?_)
      cases hq : behB (out ++ [os[k]]) o with
      | false => simp
      | true => rw [hsub o hq]; rfl
    rw [e1]
    refine List.length_filter_lt_length_iff_exists.2 ⟨os[k], List.mem_filter.2 ⟨List.getElem_mem hk, h3⟩, ?_⟩
    rw [behB_snoc]
    intro h7
    exact cmpS_irr _ (cmpS_gt.1 (of_decide_eq_true h7))
  refine ⟨⟨List.pairwise_append.2 ⟨h.up, List.pairwise_singleton _ _, fun a ha b hb' => ?_⟩, fun o ho => ?_, fun t ht => ?_, ?_⟩, hlen⟩
  · rw [List.mem_singleton.1 hb']
    cases hl : out.getLast? with
    | none => rw [List.getLast?_eq_none_iff.1 hl] at ha; cases ha
    | some l =>
      have h8 := h.below hl a ha
      by_cases h9 : cmpS a.at_ os[k].at_ < 0
      · exact h9
      · exact absurd (hlast l hl) (cmpS_ng h8 h9)
  · rcases List.mem_append.1 ho with ho | ho
    · exact h.mem o ho
    · rw [List.mem_singleton.1 ho]; exact List.getElem_mem hk
  · obtain ⟨l', hl', hlt⟩ := ht
    rw [List.getLast?_append] at hl'
    simp at hl'
    subst hl'
    rw [List.filter_append]
    by_cases he : os[k].at_ = t
    · subst he
      rw [filter_none (h.noneAt hlast), List.filter_cons_of_pos (by simp), List.nil_append, List.filter_nil]
      refine (first_at hk (fun j hj hjk e => ?_)).symm
      have hbj : behB out os[j] = true := beh_of (fun l hl => by rw [e]; exact hlast l hl)
      have h10 := h5 j hj hjk hbj
      rw [e] at h10
      exact cmpS_irr _ h10
    · rw [List.filter_cons_of_neg (by simpa using he), List.filter_nil, List.append_nil]
      by_cases hc : ∃ l, out.getLast? = some l ∧ ¬ cmpS l.at_ t < 0
      · exact h.far t hc
      · have hlt2 : ∀ l, out.getLast? = some l → cmpS l.at_ t < 0 := fun l hl => by
          by_cases h1 : cmpS l.at_ t < 0
          · exact h1
          · exact absurd ⟨l, hl, h1⟩ hc
        rw [filter_none (h.noneAt hlt2), filter_none (os := os)]
        · rfl
        · intro o ho e
          obtain ⟨j, hj, rfl⟩ := List.getElem_of_mem ho
          have hbj : behB out os[j] = true := beh_of (fun l hl => by rw [e]; exact hlt2 l hl)
          have h11 := h4 j hj hj hbj
          rw [e] at h11
          by_cases h12 : cmpS t os[k].at_ < 0
          · exact h11 h12
          · exact he (cmpS_eq hlt h12)
  · have := h.len
    rw [List.length_append, List.length_singleton]
    omega
end Go.Proofs.Ytabkgoandfpclaa
