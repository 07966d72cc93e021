
/- stamp.Get of a move. -/

import Derived.Test.YtabkgoandfpclaaGet1

namespace Go.Proofs.Ytabkgoandfpclaa

set_option linter.unusedVariables false

set_option linter.unusedSimpArgs false

open Go.RowKit

/-- the operation that none is -/
def op0 : OpM := ⟨0, stm0, stm0, stm0, ⟨#[]⟩, zeros32, .slice none 0 0, []⟩
def opK (k : Int) : OpM := { op0 with kind := k }

section

variable {w : World} {g : Nat} {o : OpM} {t : TypeId}

theorem row_at (h : w.heap[g]? = some (.cells o.cells.toArray t (0, 0))) (s : Stm) : (w.setCells g 1 s.cells).heap[g]? = some (.cells ({ o with at_ := s } : OpM).cells.toArray t (0, 0)) :=
  row_setCells s.cells [.int .i64 o.kind] o.at_.cells ([.int .i64 o.node.t, .int .i64 o.node.r, .int .i64 o.par.t, .int .i64 o.par.r, .string o.name] ++ (b8s o.data ++ [o.ov])) w h rfl
theorem row_node (h : w.heap[g]? = some (.cells o.cells.toArray t (0, 0))) (s : Stm) : (w.setCells g 3 s.cells).heap[g]? = some (.cells ({ o with node := s } : OpM).cells.toArray t (0, 0)) :=
  row_setCells s.cells [.int .i64 o.kind, .int .i64 o.at_.t, .int .i64 o.at_.r] o.node.cells ([.int .i64 o.par.t, .int .i64 o.par.r, .string o.name] ++ (b8s o.data ++ [o.ov])) w h rfl
theorem row_par (h : w.heap[g]? = some (.cells o.cells.toArray t (0, 0))) (s : Stm) : (w.setCells g 5 s.cells).heap[g]? = some (.cells ({ o with par := s } : OpM).cells.toArray t (0, 0)) :=
  row_setCells s.cells [.int .i64 o.kind, .int .i64 o.at_.t, .int .i64 o.at_.r, .int .i64 o.node.t, .int .i64 o.node.r] o.par.cells ([.string o.name] ++ (b8s o.data ++ [o.ov])) w h rfl
theorem row_name (h : w.heap[g]? = some (.cells o.cells.toArray t (0, 0))) (s : ByteArray) : (w.setCell ⟨g, 7, none⟩ (.string s)).heap[g]? = some (.cells ({ o with name := s } : OpM).cells.toArray t (0, 0)) := by
  have := row_setCells [.string s] [.int .i64 o.kind, .int .i64 o.at_.t, .int .i64 o.at_.r, .int .i64 o.node.t, .int .i64 o.node.r, .int .i64 o.par.t, .int .i64 o.par.r] [.string o.name] (b8s o.data ++ [o.ov]) w h rfl
  exact this
end

theorem there_mid {w : World} {g : Nat} {cs : Array Value} {t : TypeId} (h : w.heap[g]? = some (.cells cs t (0, 0))) (off n : Nat) (hn : off + n ≤ cs.size) : w.there g off n := fun j hj =>
  ⟨by rw [row_cell h]; simp; omega, row_free h _⟩
theorem cell_in_row {w : World} {g : Nat} {cs : Array Value} {t : TypeId} (h : w.heap[g]? = some (.cells cs t (0, 0))) {i : Nat} {u : Value} (hi : cs[i]? = some u) : w.cell? ⟨g, i, none⟩ = some u := by rw [row_cell h]; exact hi
/-- what the reading of a move says -/
def getMove (st : St) : OpM × St :=
  let a := getS (getNum st 2).2
  let b := getS a.2
  let c := getS b.2
  let d := getText c.2 60
  let o : OpM := { op0 with kind := 1, at_ := a.1, node := b.1, par := c.1, name := ⟨d.1.toArray⟩ }
  if d.2.isSome && goodO o then (o, d.2) else (op0, none)

theorem getN_len (st : St) (n : Nat) : (getN st n).1.length ≤ n := by
  unfold getN
  split
  · exact Nat.zero_le _
  · split
    · simp; omega
    · exact Nat.zero_le _
theorem opIn_plain (w : World) (o : OpM) (h1 : o.data.length = 32) (h2 : o.name.size ≤ 9223372036854775807) (h3 : o.ov = .slice none 0 0) (h4 : o.os = []) : OpIn w o :=
  ⟨h1, h2, none, 0, by rw [h4]; exact h3, by rw [h4]; exact Rd.nil, by rw [h4]; decide, by decide⟩

/-- the rows of a reading: the result's (g), the operation's (g') -/
structure GI (w W : World) (r g g' : Nat) (st : St) (o : OpM) : Prop where
  m : RdrK W r w.heap.size st
  r1 : W.heap[g]? = some (.cells op0.cells.toArray 33 (0, 0))
  r2 : W.heap[g']? = some (.cells o.cells.toArray 33 (0, 0))
  gr : w.grownBy W (some r)
  n1 : g ≠ r
  n2 : g' ≠ r
  n3 : g ≠ g'
  b1 : w.heap.size ≤ g
  b2 : w.heap.size ≤ g'
section

variable {w W W' : World} {r g g' : Nat} {st st' : St} {o : OpM}

theorem GI.lt1 (h : GI w W r g g' st o) : g < W.heap.size := (Array.getElem?_eq_some_iff.1 h.r1).1
theorem GI.lt2 (h : GI w W r g g' st o) : g' < W.heap.size := (Array.getElem?_eq_some_iff.1 h.r2).1
theorem GI.ge (h : GI w W r g g' st o) : w.heap.size ≤ W.heap.size := h.gr.size
theorem GI.call (h : GI w W r g g' st o) (hm : RdrK W' r w.heap.size st') (hg : W.grownBy W' (some r)) : GI w W' r g g' st' o :=
  ⟨hm, (hg.block _ h.lt1 (fun e => h.n1 (Option.some.inj e))).trans h.r1, (hg.block _ h.lt2 (fun e => h.n2 (Option.some.inj e))).trans h.r2, grown_trans1 h.gr hg, h.n1, h.n2, h.n3, h.b1, h.b2⟩
theorem GI.below (h : GI w W r g g' st o) (hb : Below W.heap.size W W') : GI w W' r g g' st o := h.call (h.m.below hb) (grown_of_below hb)
theorem cell_row (h : W.heap[g]? = some (.cells o.cells.toArray 33 (0, 0))) {i : Nat} {u : Value} (hi : o.cells[i]? = some u) : W.cell? ⟨g, i, none⟩ = some u := cell_in_row h (by simpa using hi)
theorem GI.put_at (h : GI w W r g g' st o) (s : Stm) : GI w (W.setCells g' 1 s.cells) r g g' st { o with at_ := s } :=
  ⟨h.m.far (fun e => h.n2 e.symm) h.b2 (setCells_grown _ _ _ _), (setCells_other g' _ _ _ _ h.n3).trans h.r1, row_at h.r2 s, grown_new h.gr h.b2 (setCells_grown _ _ _ _), h.n1, h.n2, h.n3, h.b1, h.b2⟩
theorem GI.put_node (h : GI w W r g g' st o) (s : Stm) : GI w (W.setCells g' 3 s.cells) r g g' st { o with node := s } :=
  ⟨h.m.far (fun e => h.n2 e.symm) h.b2 (setCells_grown _ _ _ _), (setCells_other g' _ _ _ _ h.n3).trans h.r1, row_node h.r2 s, grown_new h.gr h.b2 (setCells_grown _ _ _ _), h.n1, h.n2, h.n3, h.b1, h.b2⟩
theorem GI.put_par (h : GI w W r g g' st o) (s : Stm) : GI w (W.setCells g' 5 s.cells) r g g' st { o with par := s } :=
  ⟨h.m.far (fun e => h.n2 e.symm) h.b2 (setCells_grown _ _ _ _), (setCells_other g' _ _ _ _ h.n3).trans h.r1, row_par h.r2 s, grown_new h.gr h.b2 (setCells_grown _ _ _ _), h.n1, h.n2, h.n3, h.b1, h.b2⟩
theorem GI.put_name (h : GI w W r g g' st o) (s : ByteArray) : GI w (W.setCell ⟨g', 7, none⟩ (.string s)) r g g' st { o with name := s } :=
  ⟨h.m.far (fun e => h.n2 e.symm) h.b2 (grown_set _ _ _), (Below.heap_setCell _ _ _ _ (fun e => h.n3 e)).trans h.r1, row_name h.r2 s, grown_new h.gr h.b2 (grown_set _ _ _), h.n1, h.n2, h.n3, h.b1, h.b2⟩
/-- the result's row is written whole -/
theorem GI.result (h : GI w W r g g' st o) (p : OpM) (hp : p.data.length = 32) : RdrK (W.setCells g 0 p.cells.toArray.toList) r w.heap.size st ∧ (W.setCells g 0 p.cells.toArray.toList).heap[g]? = some (.cells p.cells.toArray 33 (0, 0)) ∧ w.grownBy (W.setCells g 0 p.cells.toArray.toList) (some r) :=
  ⟨h.m.far (fun e => h.n1 e.symm) h.b1 (setCells_grown _ _ _ _), by simpa using row_setAll (cs := op0.cells) (vs := p.cells) h.r1 (by rw [p.cells_len hp]; rfl), grown_new h.gr h.b1 (setCells_grown _ _ _ _)⟩
end

theorem slot_none (o : OpM) (h : o.ov = .slice none 0 0) : o.cells.toArray.all (·.oneCell') = true := all_oneCell_toArray (o.cells_one ⟨_, _, _, h⟩)
theorem size_op (o : OpM) (h : o.data.length = 32) : o.cells.toArray.size = 41 := by rw [List.size_toArray, o.cells_len h]

set_option maxRecDepth 100000 in
set_option maxHeartbeats 4000000 in
theorem get_move (r : Nat) (st : St) (w : World) (h : RdrK w r w.heap.size st) (hk : (getNum st 2).1 = 1) :
    Calls Try.prog 27 #[.pointer (some ⟨r, 0, none⟩)] w fun e w' => e = .returned (getMove st).1.val ∧ RdrK w' r w.heap.size (getMove st).2 ∧ w.grownBy w' (some r) := by
  obtain ⟨W1, hW1⟩ : ∃ W1, w.alloc (.cells #[Value.int .i64 0, Value.int .i64 0, Value.int .i64 0, Value.int .i64 0, Value.int .i64 0, Value.int .i64 0, Value.int .i64 0, Value.string ⟨#[]⟩, Value.int .u8 0, Value.int .u8 0, Value.int .u8 0, Value.int .u8 0, Value.int .u8 0, Value.int .u8 0, Value.int .u8 0, Value.int .u8 0, Value.int .u8 0, Value.int .u8 0, Value.int .u8 0, Value.int .u8 0, Value.int .u8 0, Value.int .u8 0, Value.int .u8 0, Value.int .u8 0, Value.int .u8 0, Value.int .u8 0, Value.int .u8 0, Value.int .u8 0, Value.int .u8 0, Value.int .u8 0, Value.int .u8 0, Value.int .u8 0, Value.int .u8 0, Value.int .u8 0, Value.int .u8 0, Value.int .u8 0, Value.int .u8 0, Value.int .u8 0, Value.int .u8 0, Value.int .u8 0, Value.slice none 0 0] 33) = W1 := ⟨_, rfl⟩
  have hrow : W1.heap[w.heap.size]? = some (.cells op0.cells.toArray 33 (0, 0)) := by rw [← hW1]; exact heap_alloc_new w _
  have hb1 : Below w.heap.size w W1 := by rw [← hW1]; exact (Below.refl _ _).alloc (Nat.le_refl _) _
  have hrl := h.m.lt
  obtain ⟨g, hg⟩ : ∃ g, w.heap.size = g := ⟨_, rfl⟩
  have HG := Lib.hid hg
  have HRW : Hid (W1.heap[g]? = some (.cells op0.cells.toArray 33 (0, 0))) := Lib.hid (by rw [← hg]; exact hrow)
  have HM := Lib.hid (h.below hb1)
  have HGR : Hid (w.grownBy W1 (some r)) := Lib.hid (grown_of_below hb1)
  have HNE : Hid (g ≠ r) := Lib.hid (by omega)
  have HRL := Lib.hid hrl
  have HKK := Lib.hid hk
  clear hrow hb1 h hrl hk
  go_enter Try.func27, Try.ntmps27
  go_wp2_with fail
  clear hg hW1
  refine (rdnum_k w.heap.size r st 2 W1 HM.out).mono ?_
  rintro e w2 ⟨rfl, hm2, hg2⟩
  rw [show (((getNum st 2).1 : Nat) : Int) = 1 by rw [HKK.out]; rfl]
  obtain ⟨s1, hs1⟩ : ∃ s, (getNum st 2).2 = s := ⟨_, rfl⟩
  rw [hs1] at hm2
  have HGM : Hid (getMove st = (let a := getS s1; let b := getS a.2; let c := getS b.2; let d := getText c.2 60; let o : OpM := { op0 with kind := 1, at_ := a.1, node := b.1, par := c.1, name := ⟨d.1.toArray⟩ }; if d.2.isSome && goodO o then (o, d.2) else (op0, none))) := Lib.hid (by unfold getMove; rw [hs1])
  obtain ⟨W2, hW2⟩ : ∃ W2, w2.alloc (.cells #[Value.int .i64 0, Value.int .i64 0, Value.int .i64 0, Value.int .i64 0, Value.int .i64 0, Value.int .i64 0, Value.int .i64 0, Value.string ⟨#[]⟩, Value.int .u8 0, Value.int .u8 0, Value.int .u8 0, Value.int .u8 0, Value.int .u8 0, Value.int .u8 0, Value.int .u8 0, Value.int .u8 0, Value.int .u8 0, Value.int .u8 0, Value.int .u8 0, Value.int .u8 0, Value.int .u8 0, Value.int .u8 0, Value.int .u8 0, Value.int .u8 0, Value.int .u8 0, Value.int .u8 0, Value.int .u8 0, Value.int .u8 0, Value.int .u8 0, Value.int .u8 0, Value.int .u8 0, Value.int .u8 0, Value.int .u8 0, Value.int .u8 0, Value.int .u8 0, Value.int .u8 0, Value.int .u8 0, Value.int .u8 0, Value.int .u8 0, Value.int .u8 0, Value.slice none 0 0] 33) = W2 := ⟨_, rfl⟩
  obtain ⟨W3, hW3⟩ : ∃ W3, W2.setCells w2.heap.size 0 (opK 1).cells.toArray.toList = W3 := ⟨_, rfl⟩
  have hr2 : W2.heap[w2.heap.size]? = some (.cells op0.cells.toArray 33 (0, 0)) := by rw [← hW2]; exact heap_alloc_new w2 _
  have hbb : Below w2.heap.size w2 W2 := by rw [← hW2]; exact (Below.refl _ _).alloc (Nat.le_refl _) _
  have hr3 : W3.heap[w2.heap.size]? = some (.cells (opK 1).cells.toArray 33 (0, 0)) := by
    rw [← hW3]
    simpa using row_setAll (cs := op0.cells) (vs := (opK 1).cells) hr2 rfl
  have hb3 : Below w2.heap.size w2 W3 := by rw [← hW3]; exact bel_grown hbb hbb.size (setCells_grown _ _ _ _) (Nat.le_refl _)
  have hg12 : g < w2.heap.size := Nat.lt_of_lt_of_le (Array.getElem?_eq_some_iff.1 HRW.out).1 hg2.size
  have I3 : GI w W3 r g w2.heap.size s1 (opK 1) := ⟨hm2.below hb3, (hb3.block _ hg12).trans ((hg2.block _ (Array.getElem?_eq_some_iff.1 HRW.out).1 (fun e => HNE.out (Option.some.inj e))).trans HRW.out), hr3, grown_trans1 (grown_trans1 HGR.out hg2) (grown_of_below hb3), HNE.out, by have := HRL.out; have := hm2.m.lt; omega, by omega, by rw [HG.out]; exact Nat.le_refl _, by rw [HG.out]; omega⟩
  have HI3 := Lib.hid I3
  have HTH : Hid (W2.there w2.heap.size 0 (opK 1).cells.toArray.size) := Lib.hid (there_mid hr2 0 _ (by rw [size_op _ rfl, size_op _ rfl]; decide))
  have HW3 := Lib.hid hW3
  have HINF : Hid ((Try.prog.info? 33).map (·.size) = some (opK 1).cells.toArray.size) := Lib.hid (by rw [size_op _ rfl]; exact info_op)
  clear hW3 hr2 hbb hr3 hb3 hg12 I3 hm2 hg2 hs1
  go_wp2_with ((with_reducible (refine wpList_store_mid rfl _ _ _ rfl ?_ ?_ ?_ ?_ ?_ ?_ ?_ ?_ ?_)); (exact w2.heap.size); (exact 0); (exact (opK 1).cells.toArray); (exact rfl); (exact rfl); (exact HTH.out); (exact HINF.out); (exact slot_none _ rfl); rw [HW3.out])
  clear hW2
  refine (gets_any w.heap.size r s1 W3 HI3.out.m (HI3.out.ge)).mono ?_
  rintro e w4 ⟨rfl, hm4, hg4⟩
  obtain ⟨a, s2, hs4⟩ : ∃ a s, getS s1 = (a, s) := ⟨_, _, rfl⟩
  rw [hs4] at hm4 ⊢
  dsimp only at hm4 ⊢
  have I4 := HI3.out.call hm4 hg4
  obtain ⟨W4, hW4⟩ : ∃ W4, w4.setCells w2.heap.size 1 a.cells.toArray.toList = W4 := ⟨_, rfl⟩
  have J4 := I4.put_at a
  change GI w (w4.setCells w2.heap.size 1 a.cells.toArray.toList) _ _ _ _ _ at J4
  rw [hW4] at J4
  have HJ4 := Lib.hid J4
  have HT4 : Hid (w4.there w2.heap.size 1 a.cells.toArray.size) := Lib.hid (there_mid I4.r2 1 _ (by rw [size_op _ rfl]; simp [Stm.cells]))
  have HW4 := Lib.hid hW4
  have HS4 := Lib.hid hs4
  clear hm4 hg4 hs4 I4 hW4 J4
  go_wp2_with ((with_reducible (refine wpList_store_mid rfl _ _ _ rfl ?_ ?_ ?_ ?_ ?_ ?_ ?_ ?_ ?_)); (exact w2.heap.size); (exact 1); (exact a.cells.toArray); (exact rfl); (exact rfl); (exact HT4.out); (exact info_stm); (exact a.cells_one); rw [HW4.out])
  refine (gets_any w.heap.size r s2 W4 HJ4.out.m (HJ4.out.ge)).mono ?_
  rintro e w5 ⟨rfl, hm5, hg5⟩
  obtain ⟨b, s3, hs5⟩ : ∃ a s, getS s2 = (a, s) := ⟨_, _, rfl⟩
  rw [hs5] at hm5 ⊢
  dsimp only at hm5 ⊢
  have I5 := HJ4.out.call hm5 hg5
  obtain ⟨W5, hW5⟩ : ∃ W5, w5.setCells w2.heap.size 3 b.cells.toArray.toList = W5 := ⟨_, rfl⟩
  have J5 := I5.put_node b
  change GI w (w5.setCells w2.heap.size 3 b.cells.toArray.toList) _ _ _ _ _ at J5
  rw [hW5] at J5
  have HJ5 := Lib.hid J5
  have HT5 : Hid (w5.there w2.heap.size 3 b.cells.toArray.size) := Lib.hid (there_mid I5.r2 3 _ (by rw [size_op _ rfl]; simp [Stm.cells]))
  have HW5 := Lib.hid hW5
  have HS5 := Lib.hid hs5
  clear hm5 hg5 hs5 I5 hW5 J5
  have hkc : W5.cell? ⟨w2.heap.size, 0, none⟩ = some (.int .i64 1) := cell_row HJ5.out.r2 (i := 0) rfl
  go_wp2_with ((with_reducible (refine wpList_store_mid rfl _ _ _ rfl ?_ ?_ ?_ ?_ ?_ ?_ ?_ ?_ ?_)); (exact w2.heap.size); (exact 3); (exact b.cells.toArray); (exact rfl); (exact rfl); (exact HT5.out); (exact info_stm); (exact b.cells_one); rw [HW5.out])
  clear hkc
  refine (gets_any w.heap.size r s3 W5 HJ5.out.m (HJ5.out.ge)).mono ?_
  rintro e w6 ⟨rfl, hm6, hg6⟩
  obtain ⟨c, s4, hs6⟩ : ∃ a s, getS s3 = (a, s) := ⟨_, _, rfl⟩
  rw [hs6] at hm6 ⊢
  dsimp only at hm6 ⊢
  have I6 := HJ5.out.call hm6 hg6
  obtain ⟨W6, hW6⟩ : ∃ W6, w6.setCells w2.heap.size 5 c.cells.toArray.toList = W6 := ⟨_, rfl⟩
  have J6 := I6.put_par c
  change GI w (w6.setCells w2.heap.size 5 c.cells.toArray.toList) _ _ _ _ _ at J6
  rw [hW6] at J6
  have HJ6 := Lib.hid J6
  have HT6 : Hid (w6.there w2.heap.size 5 c.cells.toArray.size) := Lib.hid (there_mid I6.r2 5 _ (by rw [size_op _ rfl]; simp [Stm.cells]))
  have HW6 := Lib.hid hW6
  have HS6 := Lib.hid hs6
  clear hm6 hg6 hs6 I6 hW6 J6
  go_wp2_with ((with_reducible (refine wpList_store_mid rfl _ _ _ rfl ?_ ?_ ?_ ?_ ?_ ?_ ?_ ?_ ?_)); (exact w2.heap.size); (exact 5); (exact c.cells.toArray); (exact rfl); (exact rfl); (exact HT6.out); (exact info_stm); (exact c.cells_one); rw [HW6.out])
  refine (rdtext_k w.heap.size r s4 60 W6 HJ6.out.m).mono ?_
  rintro e w7 ⟨rfl, hm7, hg7⟩
  obtain ⟨nm, s5, hs7⟩ : ∃ a s, getText s4 60 = (a, s) := ⟨_, _, rfl⟩
  have hnl : nm.length ≤ 4611686018427387904 := by
    have h1 : (getText s4 60).1.length ≤ _ := getN_len _ _
    rw [hs7] at h1
    exact Nat.le_trans h1 (getNum_le _ _)
  rw [hs7] at hm7 ⊢
  dsimp only at hm7 ⊢
  obtain ⟨NM, hNM⟩ : ∃ NM : ByteArray, (⟨nm.toArray⟩ : ByteArray) = NM := ⟨_, rfl⟩
  have hNs : NM.size ≤ 4611686018427387904 := by rw [← hNM]; exact hnl
  rw [hNM]
  have I7 := HJ6.out.call hm7 hg7
  have n0 := cell_row I7.r2 (i := 7) (u := .string ⟨#[]⟩) rfl
  have n1 := row_free I7.r2 7
  obtain ⟨W7, hW7⟩ : ∃ W7, w7.setCell ⟨w2.heap.size, 7, none⟩ (.string NM) = W7 := ⟨_, rfl⟩
  have J7 := I7.put_name NM
  rw [hW7] at J7
  obtain ⟨o, ho⟩ : ∃ o : OpM, ({ op0 with kind := 1, at_ := a, node := b, par := c, name := NM } : OpM) = o := ⟨_, rfl⟩
  have hJo : GI w W7 r g w2.heap.size s5 o := by rw [← ho]; exact J7
  have HOD : Hid (o.data.length = 32) := Lib.hid (by rw [← ho]; rfl)
  have HON : Hid (o.name.size ≤ 9223372036854775807) := Lib.hid (by rw [← ho]; show NM.size ≤ _; omega)
  have HOV : Hid (o.ov = .slice none 0 0) := Lib.hid (by rw [← ho]; rfl)
  have HOO : Hid (o.os = []) := Lib.hid (by rw [← ho]; rfl)
  have HJ := Lib.hid hJo
  have HFIN : Hid (getMove st = if s5.isSome && goodO o then (o, s5) else (op0, none)) := Lib.hid (by
    rw [HGM.out, HS4.out]
    dsimp only
    rw [HS5.out]
    dsimp only
    rw [HS6.out]
    dsimp only
    rw [hs7]
    dsimp only
    rw [hNM, ho])
  have HSZ : Hid ((Try.prog.info? 33).map (·.size) = some o.cells.toArray.size) := Lib.hid (by rw [size_op _ HOD.out]; exact info_op)
  have HSZ0 : Hid ((Try.prog.info? 33).map (·.size) = some op0.cells.toArray.size) := Lib.hid (by rw [size_op _ rfl]; exact info_op)
  clear hm7 hg7 hs7 hnl hNM hNs I7 J7 ho hJo
  go_wp2_with fail
  clear n0 n1 hW7
  refine (good_any r s5 W7 HJ.out.m.m).mono ?_
  rintro e w8 ⟨rfl, rfl⟩
  cases hsome : s5.isSome
  · go_wp2_with fail
    refine (fail_any r s5 W7 HJ.out.m.m).mono ?_
    rintro e w9 ⟨rfl, hm9, hg9⟩
    have I9 := HJ.out.call (show RdrK w9 r w.heap.size none from hm9) hg9
    obtain ⟨hk9, hrow9, hgr9⟩ := I9.result op0 rfl
    obtain ⟨W9, hW9⟩ : ∃ W9, w9.setCells g 0 op0.cells.toArray.toList = W9 := ⟨_, rfl⟩
    rw [hW9] at hk9 hrow9 hgr9
    have HW9 := Lib.hid hW9
    have HK9 := Lib.hid hk9
    have HR9 := Lib.hid hrow9
    have HG9 := Lib.hid hgr9
    have HT9 : Hid (w9.there g 0 op0.cells.toArray.size) := Lib.hid (there_mid I9.r1 0 _ (by simp))
    clear hW9 hk9 hrow9 hgr9 I9 hm9 hg9
    go_wp2_with ((with_reducible (refine wpList_store_mid rfl _ _ _ rfl ?_ ?_ ?_ ?_ ?_ ?_ ?_ ?_ ?_)); (exact g); (exact 0); (exact op0.cells.toArray); (exact rfl); (exact rfl); (exact HT9.out); (exact HSZ0.out); (exact slot_none _ rfl); rw [HW9.out])
    refine bodyPost_ret (results_row1 rfl _ _ _ _ _ _ _ rfl HR9.out Try.underlying33 rfl HSZ0.out) rfl ?_
    rw [HFIN.out, if_neg (by rw [hsome]; simp)]
    exact ⟨rfl, HK9.out, HG9.out⟩
  · have hrl := HJ.out.r2
    go_wp2_with ((with_reducible (refine wpList_load_op 33 _ w2.heap.size o hrl Try.underlying33 rfl HSZ.out ?_ rfl ?_ ?_)); (exact rfl); (exact rfl))
    refine (good_any' o W7 (opIn_plain W7 o HOD.out HON.out HOV.out HOO.out)).mono ?_
    rintro e w8 ⟨rfl, hb8⟩
    have HI8 := Lib.hid (HJ.out.below hb8)
    clear hrl hb8
    cases hgood : goodO o
    · go_wp2_with fail
      refine (fail_any r s5 w8 HI8.out.m.m).mono ?_
      rintro e w9 ⟨rfl, hm9, hg9⟩
      have I9 := HI8.out.call (show RdrK w9 r w.heap.size none from hm9) hg9
      obtain ⟨hk9, hrow9, hgr9⟩ := I9.result op0 rfl
      obtain ⟨W9, hW9⟩ : ∃ W9, w9.setCells g 0 op0.cells.toArray.toList = W9 := ⟨_, rfl⟩
      rw [hW9] at hk9 hrow9 hgr9
      have HW9 := Lib.hid hW9
      have HK9 := Lib.hid hk9
      have HR9 := Lib.hid hrow9
      have HG9 := Lib.hid hgr9
      have HT9 : Hid (w9.there g 0 op0.cells.toArray.size) := Lib.hid (there_mid I9.r1 0 _ (by simp))
      clear hW9 hk9 hrow9 hgr9 I9 hm9 hg9
      go_wp2_with ((with_reducible (refine wpList_store_mid rfl _ _ _ rfl ?_ ?_ ?_ ?_ ?_ ?_ ?_ ?_ ?_)); (exact g); (exact 0); (exact op0.cells.toArray); (exact rfl); (exact rfl); (exact HT9.out); (exact HSZ0.out); (exact slot_none _ rfl); rw [HW9.out])
      refine bodyPost_ret (results_row1 rfl _ _ _ _ _ _ _ rfl HR9.out Try.underlying33 rfl HSZ0.out) rfl ?_
      rw [HFIN.out, if_neg (by rw [hsome, hgood]; simp)]
      exact ⟨rfl, HK9.out, HG9.out⟩
    · have hrl := HI8.out.r2
      obtain ⟨hk9, hrow9, hgr9⟩ := HI8.out.result o HOD.out
      obtain ⟨W9, hW9⟩ : ∃ W9, w8.setCells g 0 o.cells.toArray.toList = W9 := ⟨_, rfl⟩
      rw [hW9] at hk9 hrow9 hgr9
      have HW9 := Lib.hid hW9
      have HK9 := Lib.hid hk9
      have HR9 := Lib.hid hrow9
      have HG9 := Lib.hid hgr9
      have HT9 : Hid (w8.there g 0 o.cells.toArray.size) := Lib.hid (there_mid HI8.out.r1 0 _ (by rw [size_op _ HOD.out, size_op _ rfl]; decide))
      clear hW9 hk9 hrow9 hgr9
      go_wp2_with (first
        | ((with_reducible (refine wpList_load_op 33 _ w2.heap.size o hrl Try.underlying33 rfl HSZ.out ?_ rfl ?_ ?_)); (exact rfl); (exact rfl))
        | ((with_reducible (refine wpList_store_mid rfl _ _ _ rfl ?_ ?_ ?_ ?_ ?_ ?_ ?_ ?_ ?_)); (exact g); (exact 0); (exact o.cells.toArray); (exact rfl); (exact rfl); (exact HT9.out); (exact HSZ.out); (exact slot_none _ HOV.out); rw [HW9.out]))
      refine bodyPost_ret (results_row1 rfl _ _ _ _ _ _ _ rfl HR9.out Try.underlying33 rfl HSZ.out) rfl ?_
      rw [HFIN.out, if_pos (by rw [hsome, hgood]; rfl)]
      exact ⟨rfl, HK9.out, HG9.out⟩
end Go.Proofs.Ytabkgoandfpclaa
