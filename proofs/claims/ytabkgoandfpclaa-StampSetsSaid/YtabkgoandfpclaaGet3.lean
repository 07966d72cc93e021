
/- stamp.Get of an edit. -/

import Derived.Test.YtabkgoandfpclaaGet2

namespace Go.Proofs.Ytabkgoandfpclaa

set_option linter.unusedVariables false

set_option linter.unusedSimpArgs false

open Go.RowKit

theorem RdrK.grow {w w' : World} {r K : Nat} {st : St} (h : RdrK w r K st) {row : Option Nat} (hg : w.grownBy w' row) (hrow : ∀ b, row = some b → K ≤ b ∧ b ≠ r) : RdrK w' r K st := by
  cases row with
  | none => exact h.below ⟨hg.os, hg.tape, hg.output, hg.size, fun k hk => hg.block k hk (by simp)⟩
  | some b => exact h.far (fun e => (hrow b rfl).2 e.symm) (hrow b rfl).1 hg
/-- so many stamps, one behind the other -/
def getL : Nat → St → List Stm × St
  | 0, st => ([], st)
  | n + 1, st => ((getL n st).1 ++ [(getS (getL n st).2).1], (getS (getL n st).2).2)
def getEdit (st : St) : OpM × St :=
  let a := getS (getNum st 2).2
  let b := getS a.2
  let d := getId b.2
  let n := getNum d.2 64
  let l := getL n.1 n.2
  let o : OpM := { op0 with kind := ((getNum st 2).1 : Int), at_ := a.1, node := b.1, data := d.1, os := l.1 }
  if l.2.isSome && goodO o then (o, l.2) else (op0, none)

section

variable {w : World} {g : Nat} {o : OpM} {t : TypeId}

theorem row_data (h : w.heap[g]? = some (.cells o.cells.toArray t (0, 0))) (hl : o.data.length = 32) (d : List UInt8) (hd : d.length = 32) : (w.setCells g 8 (b8s d)).heap[g]? = some (.cells ({ o with data := d } : OpM).cells.toArray t (0, 0)) := by
  have := row_setCells (b8s d) [.int .i64 o.kind, .int .i64 o.at_.t, .int .i64 o.at_.r, .int .i64 o.node.t, .int .i64 o.node.r, .int .i64 o.par.t, .int .i64 o.par.r, .string o.name] (b8s o.data) [o.ov] w (by rw [List.append_assoc]; exact h) (by rw [b8s_length, b8s_length, hl, hd])
  rw [List.append_assoc] at this
  exact this
theorem row_ov (h : w.heap[g]? = some (.cells o.cells.toArray t (0, 0))) (hl : o.data.length = 32) (v : Value) : (w.setCell ⟨g, 40, none⟩ v).heap[g]? = some (.cells ({ o with ov := v } : OpM).cells.toArray t (0, 0)) := by
  have hp : ([.int .i64 o.kind, .int .i64 o.at_.t, .int .i64 o.at_.r, .int .i64 o.node.t, .int .i64 o.node.r, .int .i64 o.par.t, .int .i64 o.par.r, .string o.name] ++ b8s o.data : List Value).length = 40 := by rw [List.length_append, b8s_length, hl]; rfl
  have := row_setCells [v] ([.int .i64 o.kind, .int .i64 o.at_.t, .int .i64 o.at_.r, .int .i64 o.node.t, .int .i64 o.node.r, .int .i64 o.par.t, .int .i64 o.par.r, .string o.name] ++ b8s o.data) [o.ov] [] w (by rw [List.append_nil, List.append_assoc]; exact h) rfl
  rw [hp, List.append_nil, List.append_assoc] at this
  exact this
end

theorem GI.put_data {w W : World} {r g g' : Nat} {st : St} {o : OpM} (h : GI w W r g g' st o) (ho : o.data.length = 32) (d : List UInt8) (hd : d.length = 32) : GI w (W.setCells g' 8 (b8s d)) r g g' st { o with data := d } :=
  ⟨h.m.far (fun e => h.n2 e.symm) h.b2 (setCells_grown _ _ _ _), (setCells_other g' _ _ _ _ h.n3).trans h.r1, row_data h.r2 ho d hd, grown_new h.gr h.b2 (setCells_grown _ _ _ _), h.n1, h.n2, h.n3, h.b1, h.b2⟩

/-- the operation's row while its list grows -/
structure GO (w W : World) (r g g' NB : Nat) (st : St) (o : OpM) (v : Value) (os : List Stm) : Prop where
  i : GI w W r g g' st { o with ov := v, os := os }
  own : W.ownsRow NB 23 2 v os.length (stc os)
  l1 : r < NB
  l2 : g < NB
  l3 : g' < NB
  nb : NB ≤ W.heap.size
  kb : w.heap.size ≤ NB
theorem GO.step {w W W4 W5 : World} {r g g' NB : Nat} {st st' : St} {o : OpM} {v v5 : Value} {os : List Stm} {s : Stm} (h : GO w W r g g' NB st o v os) (hd : o.data.length = 32) (hm : RdrK W4 r w.heap.size st') (hg : W.grownBy W4 (some r)) (ob : Obj)
    (ho : W5.ownsRow NB 23 2 v5 (os.length + 1) (stc os ++ s.cells)) (hg5 : (W4.alloc ob).grownBy W5 v.ownBlock) : GO w (W5.setCell ⟨g', 40, none⟩ v5) r g g' NB st' o v5 (os ++ [s]) := by
  have hI := (h.i.call hm hg).below ((Below.refl W4.heap.size W4).alloc (Nat.le_refl _) ob)
  have hv : ∀ b, v.ownBlock = some b → NB ≤ b := fun b hb => (h.own.lt b hb).1
  have hne : ∀ j, j < NB → some j ≠ v.ownBlock := fun j hj e => by have := hv j e.symm; omega
  have I5 : GI w W5 r g g' st' { o with ov := v, os := os } := ⟨hI.m.grow hg5 (fun b hb => ⟨Nat.le_trans h.kb (hv b hb), by have := hv b hb; have := h.l1; omega⟩), (hg5.block _ hI.lt1 (hne _ h.l2)).trans hI.r1, (hg5.block _ hI.lt2 (hne _ h.l3)).trans hI.r2,
    ⟨hg5.os.trans hI.gr.os, hg5.tape.trans hI.gr.tape, hg5.output.trans hI.gr.output, Nat.le_trans hI.gr.size hg5.size, fun j hj hn => (hg5.block j (Nat.lt_of_lt_of_le hj hI.gr.size) (hne j (Nat.lt_of_lt_of_le hj h.kb))).trans (hI.gr.block j hj hn)⟩, hI.n1, hI.n2, hI.n3, hI.b1, hI.b2⟩
  refine ⟨⟨I5.m.far (fun e => I5.n2 e.symm) I5.b2 (grown_set _ _ _), (Below.heap_setCell _ _ _ _ (fun e => I5.n3 e)).trans I5.r1, row_ov I5.r2 hd v5, grown_new I5.gr I5.b2 (grown_set _ _ _), I5.n1, I5.n2, I5.n3, I5.b1, I5.b2⟩, ?_, h.l1, h.l2, h.l3, ?_, h.kb⟩
  · have e1 : stc (os ++ [s]) = stc os ++ s.cells := by simp [stc]
    rw [e1, List.length_append]
    exact own_keep ho fun b hb _ => Below.heap_setCell _ _ _ _ (fun e => by have := (ho.lt b hb).1; have := h.l3; have e' : b = g' := e; omega)
  · have h1 := hg.size
    have h2 := hg5.size
    have h3 := h.nb
    simp [World.setCell] at *
    omega
theorem info_stm3 : (Try.prog.info? 23).map (fun i => (i.zero, i.size, i.bytes)) = some (some (.agg #[.int .i64 0, .int .i64 0]), 2, 16) := by kernel_rfl
theorem Stm.one (s : Stm) : ∀ u ∈ s.cells, u.oneCell' = true := by
  intro v hv
  simp [Stm.cells] at hv
  rcases hv with rfl | rfl <;> rfl
theorem getNum_most (st : St) : (getNum st 64).1 ≤ 64 := by
  unfold getNum
  split
  · exact Nat.zero_le _
  · split
    · exact Nat.zero_le _
    · rename_i n r' h
      have := (numS_le _ _ _ _ _ _ _ h).2.1
      dsimp only
      omega

set_option maxRecDepth 100000 in
set_option maxHeartbeats 4000000 in
theorem get_edit (r : Nat) (st : St) (w : World) (h : RdrK w r w.heap.size st) (hk : ¬ (getNum st 2).1 = 1) :
    Calls Try.prog 27 #[.pointer (some ⟨r, 0, none⟩)] w fun e w' => ∃ o, e = .returned o.val ∧ OpIn w' o ∧ ({ o with ov := .slice none 0 0 } : OpM) = (getEdit st).1 ∧ RdrK w' r w.heap.size (getEdit st).2 ∧ w.grownBy w' (some r) := by
  obtain ⟨W1, hW1⟩ : ∃ W1, w.alloc (.cells #[Value.int .i64 0, Value.int .i64 0, Value.int .i64 0, Value.int .i64 0, Value.int .i64 0, Value.int .i64 0, Value.int .i64 0, Value.string ⟨#[]⟩, Value.int .u8 0, Value.int .u8 0, Value.int .u8 0, Value.int .u8 0, Value.int .u8 0, Value.int .u8 0, Value.int .u8 0, Value.int .u8 0, Value.int .u8 0, Value.int .u8 0, Value.int .u8 0, Value.int .u8 0, Value.int .u8 0, Value.int .u8 0, Value.int .u8 0, Value.int .u8 0, Value.int .u8 0, Value.int .u8 0, Value.int .u8 0, Value.int .u8 0, Value.int .u8 0, Value.int .u8 0, Value.int .u8 0, Value.int .u8 0, Value.int .u8 0, Value.int .u8 0, Value.int .u8 0, Value.int .u8 0, Value.int .u8 0, Value.int .u8 0, Value.int .u8 0, Value.int .u8 0, Value.slice none 0 0] 33) = W1 := ⟨_, rfl⟩
  have hrow : W1.heap[w.heap.size]? = some (.cells op0.cells.toArray 33 (0, 0)) := by rw [← hW1]; exact heap_alloc_new w _
  have hb1 : Below w.heap.size w W1 := by rw [← hW1]; exact (Below.refl _ _).alloc (Nat.le_refl _) _
  have hrl := h.m.lt
  obtain ⟨g, hg⟩ : ∃ g, w.heap.size = g := ⟨_, rfl⟩
  have HG := Lib.hid hg
  have HRW : Hid (W1.heap[g]? = some (.cells op0.cells.toArray 33 (0, 0))) := Lib.hid (by rw [← hg]; exact hrow)
  have HM := Lib.hid (h.below hb1)
  have HGR : Hid (w.grownBy W1 (some r)) := Lib.hid (grown_of_below hb1)
  have HNE : Hid (g ≠ r) := Lib.hid (by omega)
  have HRL := Lib.hid hrl
  have HKK := Lib.hid hk
  clear hrow hb1 h hrl hk
  go_enter Try.func27, Try.ntmps27
  go_wp2_with fail
  clear hg hW1
  refine (rdnum_k w.heap.size r st 2 W1 HM.out).mono ?_
  rintro e w2 ⟨rfl, hm2, hg2⟩
  obtain ⟨kk, hkk⟩ : ∃ kk : Int, (((getNum st 2).1 : Nat) : Int) = kk := ⟨_, rfl⟩
  have hk1 : (kk == 1) = false := by rw [beq_eq_false_iff_ne, ← hkk]; have := HKK.out; omega
  rw [hkk]
  have HKV := Lib.hid hkk
  clear hkk
  obtain ⟨s1, hs1⟩ : ∃ s, (getNum st 2).2 = s := ⟨_, rfl⟩
  rw [hs1] at hm2
  have HGM := Lib.hid hs1
  obtain ⟨W2, hW2⟩ : ∃ W2, w2.alloc (.cells #[Value.int .i64 0, Value.int .i64 0, Value.int .i64 0, Value.int .i64 0, Value.int .i64 0, Value.int .i64 0, Value.int .i64 0, Value.string ⟨#[]⟩, Value.int .u8 0, Value.int .u8 0, Value.int .u8 0, Value.int .u8 0, Value.int .u8 0, Value.int .u8 0, Value.int .u8 0, Value.int .u8 0, Value.int .u8 0, Value.int .u8 0, Value.int .u8 0, Value.int .u8 0, Value.int .u8 0, Value.int .u8 0, Value.int .u8 0, Value.int .u8 0, Value.int .u8 0, Value.int .u8 0, Value.int .u8 0, Value.int .u8 0, Value.int .u8 0, Value.int .u8 0, Value.int .u8 0, Value.int .u8 0, Value.int .u8 0, Value.int .u8 0, Value.int .u8 0, Value.int .u8 0, Value.int .u8 0, Value.int .u8 0, Value.int .u8 0, Value.int .u8 0, Value.slice none 0 0] 33) = W2 := ⟨_, rfl⟩
  obtain ⟨W3, hW3⟩ : ∃ W3, W2.setCells w2.heap.size 0 (opK kk).cells.toArray.toList = W3 := ⟨_, rfl⟩
  have hr2 : W2.heap[w2.heap.size]? = some (.cells op0.cells.toArray 33 (0, 0)) := by rw [← hW2]; exact heap_alloc_new w2 _
  have hbb : Below w2.heap.size w2 W2 := by rw [← hW2]; exact (Below.refl _ _).alloc (Nat.le_refl _) _
  have hr3 : W3.heap[w2.heap.size]? = some (.cells (opK kk).cells.toArray 33 (0, 0)) := by
    rw [← hW3]
    simpa using row_setAll (cs := op0.cells) (vs := (opK kk).cells) hr2 rfl
  have hb3 : Below w2.heap.size w2 W3 := by rw [← hW3]; exact bel_grown hbb hbb.size (setCells_grown _ _ _ _) (Nat.le_refl _)
  have hg12 : g < w2.heap.size := Nat.lt_of_lt_of_le (Array.getElem?_eq_some_iff.1 HRW.out).1 hg2.size
  have I3 : GI w W3 r g w2.heap.size s1 (opK kk) := ⟨hm2.below hb3, (hb3.block _ hg12).trans ((hg2.block _ (Array.getElem?_eq_some_iff.1 HRW.out).1 (fun e => HNE.out (Option.some.inj e))).trans HRW.out), hr3, grown_trans1 (grown_trans1 HGR.out hg2) (grown_of_below hb3), HNE.out, by have := HRL.out; have := hm2.m.lt; omega, by omega, by rw [HG.out]; exact Nat.le_refl _, by rw [HG.out]; omega⟩
  have HI3 := Lib.hid I3
  have HTH : Hid (W2.there w2.heap.size 0 (opK kk).cells.toArray.size) := Lib.hid (there_mid hr2 0 _ (by rw [size_op _ rfl, size_op _ rfl]; decide))
  have HW3 := Lib.hid hW3
  have HINF : Hid ((Try.prog.info? 33).map (·.size) = some (opK kk).cells.toArray.size) := Lib.hid (by rw [size_op _ rfl]; exact info_op)
  clear hW3 hr2 hbb hr3 hb3 hg12 I3 hm2 hg2 hs1
  go_wp2_with ((with_reducible (refine wpList_store_mid rfl _ _ _ rfl ?_ ?_ ?_ ?_ ?_ ?_ ?_ ?_ ?_)); (exact w2.heap.size); (exact 0); (exact (opK kk).cells.toArray); (exact rfl); (exact rfl); (exact HTH.out); (exact HINF.out); (exact slot_none _ rfl); rw [HW3.out])
  clear hW2
  refine (gets_any w.heap.size r s1 W3 HI3.out.m (HI3.out.ge)).mono ?_
  rintro e w4 ⟨rfl, hm4, hg4⟩
  obtain ⟨a, s2, hs4⟩ : ∃ a s, getS s1 = (a, s) := ⟨_, _, rfl⟩
  rw [hs4] at hm4 ⊢
  dsimp only at hm4 ⊢
  have I4 := HI3.out.call hm4 hg4
  obtain ⟨W4, hW4⟩ : ∃ W4, w4.setCells w2.heap.size 1 a.cells.toArray.toList = W4 := ⟨_, rfl⟩
  have J4 := I4.put_at a
  change GI w (w4.setCells w2.heap.size 1 a.cells.toArray.toList) _ _ _ _ _ at J4
  rw [hW4] at J4
  have HJ4 := Lib.hid J4
  have HT4 : Hid (w4.there w2.heap.size 1 a.cells.toArray.size) := Lib.hid (there_mid I4.r2 1 _ (by rw [size_op _ rfl]; simp [Stm.cells]))
  have HW4 := Lib.hid hW4
  have HS4 := Lib.hid hs4
  clear hm4 hg4 hs4 I4 hW4 J4
  go_wp2_with ((with_reducible (refine wpList_store_mid rfl _ _ _ rfl ?_ ?_ ?_ ?_ ?_ ?_ ?_ ?_ ?_)); (exact w2.heap.size); (exact 1); (exact a.cells.toArray); (exact rfl); (exact rfl); (exact HT4.out); (exact info_stm); (exact a.cells_one); rw [HW4.out])
  refine (gets_any w.heap.size r s2 W4 HJ4.out.m (HJ4.out.ge)).mono ?_
  rintro e w5 ⟨rfl, hm5, hg5⟩
  obtain ⟨b, s3, hs5⟩ : ∃ a s, getS s2 = (a, s) := ⟨_, _, rfl⟩
  rw [hs5] at hm5 ⊢
  dsimp only at hm5 ⊢
  have I5 := HJ4.out.call hm5 hg5
  obtain ⟨W5, hW5⟩ : ∃ W5, w5.setCells w2.heap.size 3 b.cells.toArray.toList = W5 := ⟨_, rfl⟩
  have J5 := I5.put_node b
  change GI w (w5.setCells w2.heap.size 3 b.cells.toArray.toList) _ _ _ _ _ at J5
  rw [hW5] at J5
  have HJ5 := Lib.hid J5
  have HT5 : Hid (w5.there w2.heap.size 3 b.cells.toArray.size) := Lib.hid (there_mid I5.r2 3 _ (by rw [size_op _ rfl]; simp [Stm.cells]))
  have HW5 := Lib.hid hW5
  have HS5 := Lib.hid hs5
  clear hm5 hg5 hs5 I5 hW5 J5
  have hkc : W5.cell? ⟨w2.heap.size, 0, none⟩ = some (.int .i64 kk) := cell_row HJ5.out.r2 (i := 0) rfl
  go_wp2_with ((with_reducible (refine wpList_store_mid rfl _ _ _ rfl ?_ ?_ ?_ ?_ ?_ ?_ ?_ ?_ ?_)); (exact w2.heap.size); (exact 3); (exact b.cells.toArray); (exact rfl); (exact rfl); (exact HT5.out); (exact info_stm); (exact b.cells_one); rw [HW5.out])
  clear hkc
  refine (rdid_k w.heap.size r s3 W5 HJ5.out.m (HJ5.out.ge)).mono ?_
  rintro e w6 ⟨rfl, hm6, hg6⟩
  obtain ⟨d, s4, hs6⟩ : ∃ a s, getId s3 = (a, s) := ⟨_, _, rfl⟩
  have hdl : d.length = 32 := by have := getId_len s3; rw [hs6] at this; exact this
  rw [hs6] at hm6 ⊢
  dsimp only at hm6 ⊢
  have I6 := HJ5.out.call hm6 hg6
  obtain ⟨W6, hW6⟩ : ∃ W6, w6.setCells w2.heap.size 8 (b8s d).toArray.toList = W6 := ⟨_, rfl⟩
  have J6 := I6.put_data rfl d hdl
  change GI w (w6.setCells w2.heap.size 8 (b8s d).toArray.toList) _ _ _ _ _ at J6
  rw [hW6] at J6
  have HJ6 := Lib.hid J6
  have HT6 : Hid (w6.there w2.heap.size 8 (b8s d).toArray.size) := Lib.hid (there_mid I6.r2 8 _ (by rw [size_op _ rfl, List.size_toArray, b8s_length, hdl]; decide))
  have HW6 := Lib.hid hW6
  have HS6 := Lib.hid hs6
  have HDL := Lib.hid hdl
  have HIA := Lib.hid (info_data d hdl)
  clear hm6 hg6 hs6 I6 hW6 J6 hdl
  go_wp2_with ((with_reducible (refine wpList_store_mid rfl _ _ _ rfl ?_ ?_ ?_ ?_ ?_ ?_ ?_ ?_ ?_)); (exact w2.heap.size); (exact 8); (exact (b8s d).toArray); (exact rfl); (exact rfl); (exact HT6.out); (rw [List.size_toArray]; exact HIA.out); (exact all_oneCell_toArray (b8s_one' _)); rw [HW6.out])
  refine (rdnum_k w.heap.size r s4 64 W6 HJ6.out.m).mono ?_
  rintro e w7 ⟨rfl, hm7, hg7⟩
  have hn64 := getNum_most s4
  obtain ⟨n, s5, hs7⟩ : ∃ a s, getNum s4 64 = (a, s) := ⟨_, _, rfl⟩
  rw [hs7] at hm7 hn64 ⊢
  dsimp only at hm7 hn64 ⊢
  have HS7 := Lib.hid hs7
  obtain ⟨o7, ho7⟩ : ∃ o : OpM, ({ opK kk with at_ := a, node := b, data := d } : OpM) = o := ⟨_, rfl⟩
  have I7 : GI w w7 r g w2.heap.size s5 o7 := by rw [← ho7]; exact HJ6.out.call hm7 hg7
  have HO7 := Lib.hid ho7
  have HOD : Hid (o7.data.length = 32) := Lib.hid (by rw [← ho7]; exact HDL.out)
  obtain ⟨NB, hNB⟩ : ∃ NB, w7.heap.size = NB := ⟨_, rfl⟩
  have HG0 : Hid (GO w w7 r g w2.heap.size NB s5 o7 (.slice none 0 0) []) := Lib.hid ⟨by
      have e1 : ({ o7 with ov := .slice none 0 0, os := [] } : OpM) = o7 := by rw [← ho7]; rfl
      rw [e1]; exact I7, World.ownsRow_nil _ _ _ _, by rw [← hNB]; exact I7.m.m.lt, by rw [← hNB]; exact I7.lt1, by rw [← hNB]; exact I7.lt2, by rw [hNB]; exact Nat.le_refl _, by rw [← hNB]; exact I7.ge⟩
  clear hm7 hg7 hs7 I7 hNB ho7
  go_wp2_with fail
  go_loopg [27] (n * 1) (fun gk_ s wr => ∃ (k : Nat) (v : Value), k ≤ n ∧ gk_ = n - k ∧ s = .int .i64 (k : Int) ∧ Hid (GO w wr r g w2.heap.size NB (getL k s5).2 o7 v (getL k s5).1))
  case atStart => exact ⟨0, _, by omega, by omega, rfl, HG0⟩
  case round =>
    clear HG0
    obtain ⟨k, v, hk, rfl, rfl, HGO⟩ := hrel
    by_cases hlt : k < n
    · obtain ⟨os, sk, hos⟩ : ∃ a s, getL k s5 = (a, s) := ⟨_, _, rfl⟩
      obtain ⟨s, sk2, hss⟩ : ∃ a s, getS sk = (a, s) := ⟨_, _, rfl⟩
      have hL : getL (k + 1) s5 = (os ++ [s], sk2) := by
        show ((getL k s5).1 ++ [(getS (getL k s5).2).1], (getS (getL k s5).2).2) = _
        rw [hos]
        dsimp only
        rw [hss]
      rw [hos] at HGO
      dsimp only at HGO
      have hol : os.length = k := by
        have hgl : ∀ m, (getL m s5).1.length = m := by
          intro m
          induction m with
          | zero => rfl
          | succ m ih => show ((getL m s5).1 ++ [_]).length = _; rw [List.length_append, ih]; rfl
        have := hgl k
        rw [hos] at this
        exact this
      have HL2 := Lib.hid hL
      have HSS := Lib.hid hss
      have t0 : wr.cell? ⟨w2.heap.size, 40, none⟩ = some v := (opRow_of HGO.out.i.r2 HOD.out).ov
      have i1 : (k : Int) < (n : Int) := by omega
      have HOL := Lib.hid hol
      clear hos hss hL hol
      have hnb := HGO.out.nb
      have hr2w := HGO.out.i.lt2
      have hrl := HGO.out.l1
      have hgl := HGO.out.l3
      go_wp2_with fail
      go_region_law (first
        | (refine step_append_rd rfl _ _ 31 rfl NB 23 (.agg #[.int .i64 0, .int .i64 0]) 2 16 Try.underlying31 info_stm3 rfl (by decide) _ _ _ rfl (hown4.alloc _) _ 1 _ s.cells rfl rfl (Rd.new w8 s.cells _) s.one (by unfold maxLen; have := HOL.out; omega) (by have := HOL.out; omega) (by have := hs8; simp; omega) ?_; intro v9 w9 ho9 hg9 hv9; obtain ⟨A9, c9, hA9, _, _, _, _⟩ := own_slice ho9; subst hA9; have hT9 : w9.heap[w2.heap.size]? = some (.cells ({ o7 with ov := v, os := os } : OpM).cells.toArray 33 (0, 0)) := (hg9.block w2.heap.size (by simp; omega) (fun e => by have := (hown4.lt _ e.symm).1; omega)).trans ((Below.heap_alloc w8 _ _ (by omega)).trans hr8); have q1 : w9.cell? ⟨w2.heap.size, 40, none⟩ = some v := (opRow_of hT9 HOD.out).ov; have q2 : w9.frozen? ⟨w2.heap.size, 40, none⟩ = false := row_free hT9 40)
        | (refine step_plain rfl ?_; go_simp; refine (gets_any w.heap.size r sk _ (HGO.out.i.m.below (Below.refl _ _).drew) (HGO.out.i.ge)).mono ?_; rintro e w8 ⟨rfl, hm8, hg8⟩; rw [HSS.out] at hm8 ⊢; (try dsimp only at hm8); (try dsimp only [Stm.val]); have hg8' := grown_trans1 (grown_of_below (g := r) (Below.refl wr.heap.size wr).drew) hg8; have hown4 := own_keep HGO.out.own (fun b hb hl => hg8'.block b hl (fun e => by have := (HGO.out.own.lt b hb).1; have := Option.some.inj e; omega)); have hr8 := (hg8'.block w2.heap.size hr2w (fun e => by have := Option.some.inj e; have := HGO.out.i.n2; omega)).trans HGO.out.i.r2; have hs8 := hg8'.size; have r5 : w8.cell? ⟨w2.heap.size, 40, none⟩ = some v := (opRow_of hr8 HOD.out).ov; have r6 : w2.heap.size < w8.heap.size := (by omega); have r7 : (⟨w2.heap.size, 40, none⟩ : Addr) ≠ ⟨w8.heap.size, 0, none⟩ := (by intro h; injection h; omega); (try dsimp only)))
      all_goals
        have hgo := HGO.out.step HOD.out hm8 hg8' _ ho9 hg9
        have HGO2 := Lib.hid hgo
        clear hgo
        generalize Value.slice A9 (os.length + 1) c9 = v10 at *
        generalize w9.setCell ⟨w2.heap.size, 40, none⟩ v10 = W10 at *
        clear ho9 hg9 hv9 q1 q2 hT9 r5 r6 r7 hown4 hr8 hs8 hm8 hg8 hg8' t0
        go_wp2_with fail
        go_roundg (n - (k + 1))
        case measure => omega
        case rel => exact ⟨k + 1, v10, by omega, rfl, by first | rfl | exact congrArg (Value.int .i64) (by omega) | go_num, by rw [HL2.out]; exact HGO2⟩
    · obtain rfl : k = n := by omega
      obtain ⟨os, s6, hos⟩ : ∃ a s, getL k s5 = (a, s) := ⟨_, _, rfl⟩
      rw [hos] at HGO
      dsimp only at HGO
      obtain ⟨o, ho⟩ : ∃ o : OpM, ({ o7 with ov := v, os := os } : OpM) = o := ⟨_, rfl⟩
      have HJ : Hid (GI w wr r g w2.heap.size s6 o) := Lib.hid (by rw [← ho]; exact HGO.out.i)
      have HDO : Hid (o.data.length = 32) := Lib.hid (by rw [← ho]; exact HOD.out)
      obtain ⟨A, c, hv, hnc, hcm, _, _⟩ := own_slice HGO.out.own
      have hcm' : c ≤ 9223372036854775807 := by unfold maxLen at hcm; omega
      have HOVS : Hid (o.ov = .slice A os.length c) := Lib.hid (by rw [← ho]; exact hv)
      have HOWN : Hid (wr.ownsRow NB 23 2 (.slice A os.length c) os.length (stc os)) := Lib.hid (by rw [← hv]; exact HGO.out.own)
      have HOPI : Hid (∀ W, W.ownsRow NB 23 2 (.slice A os.length c) os.length (stc os) → OpIn W o) := Lib.hid (fun W hw => ⟨HDO.out, by rw [← ho, ← HO7.out]; exact Nat.zero_le _, A, c, by rw [← ho]; exact hv, by rw [← ho]; exact own_rd hw, by rw [← ho]; exact hnc, hcm'⟩)
      have HFIN : Hid (getEdit st = if s6.isSome && goodO o then (({ o with ov := .slice none 0 0 } : OpM), s6) else (op0, none)) := Lib.hid (by
        have hgd : goodO ({ op0 with kind := kk, at_ := a, node := b, data := d, os := os } : OpM) = goodO o := by rw [← ho, ← HO7.out]; rfl
        have hoo : ({ o with ov := .slice none 0 0 } : OpM) = { op0 with kind := kk, at_ := a, node := b, data := d, os := os } := by rw [← ho, ← HO7.out]; rfl
        unfold getEdit
        rw [HKV.out, HGM.out]
        dsimp only
        rw [HS4.out]
        dsimp only
        rw [HS5.out]
        dsimp only
        rw [HS6.out]
        dsimp only
        rw [HS7.out]
        dsimp only
        rw [hos]
        dsimp only
        rw [hgd, hoo])
      have HSZ : Hid ((Try.prog.info? 33).map (·.size) = some o.cells.toArray.size) := Lib.hid (by rw [size_op _ HDO.out]; exact info_op)
      have HSZ0 : Hid ((Try.prog.info? 33).map (·.size) = some op0.cells.toArray.size) := Lib.hid (by rw [size_op _ rfl]; exact info_op)
      have HCO : Hid (o.cells.toArray.all (·.oneCell') = true) := Lib.hid (all_oneCell_toArray (o.cells_one ⟨_, _, _, HOVS.out⟩))
      have HNB : Hid (g < NB ∧ NB ≤ wr.heap.size) := Lib.hid ⟨HGO.out.l2, HGO.out.nb⟩
      clear hos ho hv HGO
      go_wp2_with fail
      refine (good_any r s6 wr HJ.out.m.m).mono ?_
      rintro e w8 ⟨rfl, rfl⟩
      cases hsome : s6.isSome
      · go_wp2_with fail
        refine (fail_any r s6 wr HJ.out.m.m).mono ?_
        rintro e w9 ⟨rfl, hm9, hg9⟩
        have I9 := HJ.out.call (show RdrK w9 r w.heap.size none from hm9) hg9
        obtain ⟨hk9, hrow9, hgr9⟩ := I9.result op0 rfl
        obtain ⟨W9, hW9⟩ : ∃ W9, w9.setCells g 0 op0.cells.toArray.toList = W9 := ⟨_, rfl⟩
        rw [hW9] at hk9 hrow9 hgr9
        have HW9 := Lib.hid hW9
        have HK9 := Lib.hid hk9
        have HR9 := Lib.hid hrow9
        have HG9 := Lib.hid hgr9
        have HT9 : Hid (w9.there g 0 op0.cells.toArray.size) := Lib.hid (there_mid I9.r1 0 _ (by simp))
        clear hW9 hk9 hrow9 hgr9 I9 hm9 hg9
        go_wp2_with ((with_reducible (refine wpList_store_mid rfl _ _ _ rfl ?_ ?_ ?_ ?_ ?_ ?_ ?_ ?_ ?_)); (exact g); (exact 0); (exact op0.cells.toArray); (exact rfl); (exact rfl); (exact HT9.out); (exact HSZ0.out); (exact slot_none _ rfl); rw [HW9.out])
        refine bodyPost_ret (results_row1 rfl _ _ _ _ _ _ _ rfl HR9.out Try.underlying33 rfl HSZ0.out) rfl ?_
        rw [HFIN.out, if_neg (by rw [hsome]; simp)]
        exact ⟨op0, rfl, opIn_plain _ op0 rfl (by decide) rfl rfl, rfl, HK9.out, HG9.out⟩
      · have hrl := HJ.out.r2
        go_wp2_with ((with_reducible (refine wpList_load_op 33 _ w2.heap.size o hrl Try.underlying33 rfl HSZ.out ?_ rfl ?_ ?_)); (exact rfl); (exact rfl))
        refine (good_any' o wr (HOPI.out _ HOWN.out)).mono ?_
        rintro e w8 ⟨rfl, hb8⟩
        have HI8 := Lib.hid (HJ.out.below hb8)
        have HOW8 := Lib.hid (own_below HOWN.out hb8)
        clear hrl hb8
        cases hgood : goodO o
        · go_wp2_with fail
          refine (fail_any r s6 w8 HI8.out.m.m).mono ?_
          rintro e w9 ⟨rfl, hm9, hg9⟩
          have I9 := HI8.out.call (show RdrK w9 r w.heap.size none from hm9) hg9
          obtain ⟨hk9, hrow9, hgr9⟩ := I9.result op0 rfl
          obtain ⟨W9, hW9⟩ : ∃ W9, w9.setCells g 0 op0.cells.toArray.toList = W9 := ⟨_, rfl⟩
          rw [hW9] at hk9 hrow9 hgr9
          have HW9 := Lib.hid hW9
          have HK9 := Lib.hid hk9
          have HR9 := Lib.hid hrow9
          have HG9 := Lib.hid hgr9
          have HT9 : Hid (w9.there g 0 op0.cells.toArray.size) := Lib.hid (there_mid I9.r1 0 _ (by simp))
          clear hW9 hk9 hrow9 hgr9 I9 hm9 hg9
          go_wp2_with ((with_reducible (refine wpList_store_mid rfl _ _ _ rfl ?_ ?_ ?_ ?_ ?_ ?_ ?_ ?_ ?_)); (exact g); (exact 0); (exact op0.cells.toArray); (exact rfl); (exact rfl); (exact HT9.out); (exact HSZ0.out); (exact slot_none _ rfl); rw [HW9.out])
          refine bodyPost_ret (results_row1 rfl _ _ _ _ _ _ _ rfl HR9.out Try.underlying33 rfl HSZ0.out) rfl ?_
          rw [HFIN.out, if_neg (by rw [hsome, hgood]; simp)]
          exact ⟨op0, rfl, opIn_plain _ op0 rfl (by decide) rfl rfl, rfl, HK9.out, HG9.out⟩
        · have hrl := HI8.out.r2
          obtain ⟨hk9, hrow9, hgr9⟩ := HI8.out.result o HDO.out
          obtain ⟨W9, hW9⟩ : ∃ W9, w8.setCells g 0 o.cells.toArray.toList = W9 := ⟨_, rfl⟩
          rw [hW9] at hk9 hrow9 hgr9
          have HW9 := Lib.hid hW9
          have HK9 := Lib.hid hk9
          have HR9 := Lib.hid hrow9
          have HG9 := Lib.hid hgr9
          have HT9 : Hid (w8.there g 0 o.cells.toArray.size) := Lib.hid (there_mid HI8.out.r1 0 _ (by rw [size_op _ HDO.out, size_op _ rfl]; decide))
          clear hW9 hk9 hrow9 hgr9
          go_wp2_with (first
            | ((with_reducible (refine wpList_load_op 33 _ w2.heap.size o hrl Try.underlying33 rfl HSZ.out ?_ rfl ?_ ?_)); (exact rfl); (exact rfl))
            | ((with_reducible (refine wpList_store_mid rfl _ _ _ rfl ?_ ?_ ?_ ?_ ?_ ?_ ?_ ?_ ?_)); (exact g); (exact 0); (exact o.cells.toArray); (exact rfl); (exact rfl); (exact HT9.out); (exact HSZ.out); (exact HCO.out); rw [HW9.out]))
          refine bodyPost_ret (results_row1 rfl _ _ _ _ _ _ _ rfl HR9.out Try.underlying33 rfl HSZ.out) rfl ?_
          rw [HFIN.out, if_pos (by rw [hsome, hgood]; rfl)]
          exact ⟨o, rfl, HOPI.out _ (by rw [← HW9.out]; exact own_keep HOW8.out (fun b hb _ => setCells_other g _ _ _ _ (fun e => by have := (HOW8.out.lt b hb).1; have := HNB.out.1; omega))), rfl, HK9.out, HG9.out⟩
end Go.Proofs.Ytabkgoandfpclaa
