
/- The document's Get. -/

import Derived.Test.YtabkgoandfpclaaRGet1

import Derived.Test.YtabkgoandfpclaaStBack

import Derived.Test.YtabkgoandfpclaaOp7

namespace Go.Proofs.Ytabkgoandfpclaa

set_option linter.unusedVariables false

set_option linter.unusedSimpArgs false

open Go.RowKit

/-- the rows of a reading by the document: the results' (gr, gi), the reader's (gc), the operation's (go) -/
structure RG (w W : World) (gr gi gc go NB : Nat) (A : Option Addr) (n c : Nat) (b : Bool) (o : OpM) : Prop where
  r1 : W.heap[gr]? = some (.cells op0.cells.toArray 33 (0, 0))
  r2 : W.heap[gi]? = some (.cells #[.slice none 0 0, .bool false] 48 (0, 0))
  r3 : W.heap[gc]? = some (.cells #[.slice A n c, .bool b] 48 (0, 0))
  r4 : W.heap[go]? = some (.cells o.cells.toArray 33 (0, 0))
  bel : Below w.heap.size w W
  l0 : w.heap.size < gr
  l1 : gr < gi
  l2 : gi < gc
  l3 : gc < go
  l4 : go < NB
  l5 : NB ≤ W.heap.size
section

variable {w W W' : World} {gr gi gc go NB : Nat} {A : Option Addr} {n c : Nat} {b : Bool} {o : OpM}

theorem RG.grow (h : RG w W gr gi gc go NB A n c b o) {row : Option Nat} (hg : W.grownBy W' row) (hrow : ∀ k, row = some k → NB ≤ k) : RG w W' gr gi gc go NB A n c b o := by
  have hl := h.l5
  have hne : ∀ j, j < NB → some j ≠ row := fun j hj e => by have := hrow j e.symm; omega
  have h1 := h.l1; have h2 := h.l2; have h3 := h.l3; have h4 := h.l4; have h0 := h.l0
  refine ⟨(hg.block _ (by omega) (hne _ (by omega))).trans h.r1, (hg.block _ (by omega) (hne _ (by omega))).trans h.r2, (hg.block _ (by omega) (hne _ (by omega))).trans h.r3, (hg.block _ (by omega) (hne _ (by omega))).trans h.r4, ?_, h0, h1, h2, h3, h4, Nat.le_trans hl hg.size⟩
  exact h.bel.trans ⟨hg.os, hg.tape, hg.output, by have := hg.size; omega, fun k hk => hg.block k (by omega) (hne k (by omega))⟩
theorem RG.below (h : RG w W gr gi gc go NB A n c b o) (hb : Below W.heap.size W W') : RG w W' gr gi gc go NB A n c b o :=
  h.grow (row := none) ⟨hb.os, hb.tape, hb.output, hb.size, fun k hk _ => hb.block k hk⟩ (fun k e => by cases e)
theorem RG.put_in (h : RG w W gr gi gc go NB A n c b o) (A' : Option Addr) (n' c' : Nat) (b' : Bool) : RG w ((W.setCell ⟨gc, 0, none⟩ (.slice A' n' c')).setCell ⟨gc, 1, none⟩ (.bool b')) gr gi gc go NB A' n' c' b' o := by
  have hg : W.grownBy ((W.setCell ⟨gc, 0, none⟩ (.slice A' n' c')).setCell ⟨gc, 1, none⟩ (.bool b')) (some gc) := grown_trans1 (grown_set gc 0 _) (grown_set gc 1 _)
  have hl := h.l5
  have h1 := h.l1; have h2 := h.l2; have h3 := h.l3; have h4 := h.l4; have h0 := h.l0
  exact ⟨(hg.block _ (by omega) (by simp; omega)).trans h.r1, (hg.block _ (by omega) (by simp; omega)).trans h.r2, row_set2 h.r3 _ _, (hg.block _ (by omega) (by simp; omega)).trans h.r4, bel_set2 h.bel h.bel.size (by omega) _ _, h0, h1, h2, h3, h4, Nat.le_trans hl hg.size⟩
theorem RG.put_op (h : RG w W gr gi gc go NB A n c b o) (o' : OpM) (hg : W.grownBy W' (some go)) (hr : W'.heap[go]? = some (.cells o'.cells.toArray 33 (0, 0))) : RG w W' gr gi gc go NB A n c b o' := by
  have hl := h.l5
  have h1 := h.l1; have h2 := h.l2; have h3 := h.l3; have h4 := h.l4; have h0 := h.l0
  exact ⟨(hg.block _ (by omega) (by simp; omega)).trans h.r1, (hg.block _ (by omega) (by simp; omega)).trans h.r2, (hg.block _ (by omega) (by simp; omega)).trans h.r3, hr, bel_grown h.bel h.bel.size hg (by omega), h0, h1, h2, h3, h4, Nat.le_trans hl hg.size⟩
end

theorem InK.grow {w w' : World} {KB : Nat} {v : Value} {st : St} (h : InK w KB v st) {row : Option Nat} (hg : w.grownBy w' row) (hrow : ∀ b, row = some b → KB ≤ b) : InK w' KB v st := by
  cases row with
  | none => exact h.below ⟨hg.os, hg.tape, hg.output, hg.size, fun k hk => hg.block k hk (by simp)⟩
  | some b => exact h.far (hrow b rfl) hg
theorem RG.step {w W X w3 : World} {gr gi gc go NB : Nat} {A : Option Addr} {n c : Nat} {b : Bool} {o : OpM} {v v' : Value} {os : List Stm} {s : Stm} (h : RG w W gr gi gc go NB A n c b { o with ov := v, os := os }) (hd : o.data.length = 32) (hb : Below W.heap.size W X) (hown : W.ownsRow NB 23 2 v os.length (stc os)) (ho : w3.ownsRow NB 23 2 v' (os.length + 1) (stc os ++ s.cells)) (hg : X.grownBy w3 v.ownBlock) :
    RG w (w3.setCell ⟨go, 40, none⟩ v') gr gi gc go NB A n c b { o with ov := v', os := os ++ [s] } ∧ (w3.setCell ⟨go, 40, none⟩ v').ownsRow NB 23 2 v' (os ++ [s]).length (stc (os ++ [s])) ∧ w3.cell? ⟨go, 40, none⟩ = some v ∧ w3.frozen? ⟨go, 40, none⟩ = false ∧
      (∀ k, W.heap.size ≤ k → k < X.heap.size → (w3.setCell ⟨go, 40, none⟩ v').heap[k]? = X.heap[k]?) ∧ X.heap.size ≤ (w3.setCell ⟨go, 40, none⟩ v').heap.size ∧ (w3.setCell ⟨go, 40, none⟩ v').cell? ⟨gc, 0, none⟩ = some (.slice A n c) ∧ (w3.setCell ⟨go, 40, none⟩ v').cell? ⟨gc, 1, none⟩ = some (.bool b) ∧ (w3.setCell ⟨go, 40, none⟩ v').frozen? ⟨gc, 0, none⟩ = false ∧ (w3.setCell ⟨go, 40, none⟩ v').frozen? ⟨gc, 1, none⟩ = false := by
  have hlt := fun k hk => hown.lt k hk
  have G := (h.below hb).grow hg (fun k hk => (hlt k hk).1)
  have l4 := h.l4
  have l5 := h.l5
  have gs := grown_set (w := w3) go 40 v'
  have G2 := G.put_op { o with ov := v', os := os ++ [s] } gs (row_ov G.r4 hd v')
  refine ⟨G2, ?_, (opRow_of G.r4 hd).ov, row_free G.r4 40, fun k h1 h2 => (gs.block k (Nat.lt_of_lt_of_le h2 hg.size) (by simp; omega)).trans (hg.block k h2 (fun e => by have := (hlt k e.symm).2; omega)), Nat.le_trans hg.size gs.size, row_cell G2.r3 0, row_cell G2.r3 1, row_free G2.r3 0, row_free G2.r3 1⟩
  have e1 : stc (os ++ [s]) = stc os ++ s.cells := by simp [stc]
  rw [e1, List.length_append]
  exact own_keep ho fun k hk hl => gs.block k hl (by have := (ho.lt k hk).1; simp; omega)
theorem three_new (w : World) (cs ds es : Array Value) (t u v : TypeId) : (((w.alloc (.cells cs t)).alloc (.cells ds u)).alloc (.cells es v)).heap[w.heap.size]? = some (.cells cs t (0, 0)) ∧ (((w.alloc (.cells cs t)).alloc (.cells ds u)).alloc (.cells es v)).heap[w.heap.size + 1]? = some (.cells ds u (0, 0)) ∧
    (((w.alloc (.cells cs t)).alloc (.cells ds u)).alloc (.cells es v)).heap[w.heap.size + 1 + 1]? = some (.cells es v (0, 0)) ∧ Below w.heap.size w (((w.alloc (.cells cs t)).alloc (.cells ds u)).alloc (.cells es v)) ∧ (((w.alloc (.cells cs t)).alloc (.cells ds u)).alloc (.cells es v)).heap.size = w.heap.size + 3 := by
  obtain ⟨h1, h2, h3, h4⟩ := two_new w cs ds t u
  obtain ⟨k1, k2, k3⟩ := new_row (w := (w.alloc (.cells cs t)).alloc (.cells ds u)) (cs := es) (t := v) rfl
  refine ⟨(k2.block _ (by omega)).trans h1, (k2.block _ (by omega)).trans h2, ?_, h3.trans (k2.mono (by omega)), by omega⟩
  rw [h4] at k1
  exact k1
theorem getS_none : (getS none).2 = none := rfl
theorem getL_stop (st : St) : ∀ (m k : Nat), (getL k st).2 = none → (getL (k + m) st).2 = none
  | 0, k, h => h
  | m + 1, k, h => by
    show (getS (getL (k + m) st).2).2 = none
    rw [getL_stop st m k h]
    rfl

set_option maxRecDepth 100000 in
set_option maxHeartbeats 8000000 in
theorem rget_any (st : St) (v : Value) (w : World) (hv : InV w v st) :
    Calls Try.prog 30 #[v] w fun e w' => ∃ o u, e = .returned (.tuple #[OpM.val o, u]) ∧ OpIn w' o ∧ InV w' u (getOpM st).2 ∧ ({ o with ov := .slice none 0 0 } : OpM) = (getOpM st).1 ∧ Below w.heap.size w w' := by
  obtain ⟨KB, hKB⟩ : ∃ K, w.heap.size = K := ⟨_, rfl⟩
  have h : InK w KB v st := by rw [← hKB]; exact hv.k
  obtain ⟨A0, n0, c0, b0, rfl, _, _⟩ := hv.form
  clear hv
  obtain ⟨ra, r1, r2, hb1, hs1⟩ := three_new w #[.slice A0 n0 c0, .bool b0] #[Value.int .i64 0, Value.int .i64 0, Value.int .i64 0, Value.int .i64 0, Value.int .i64 0, Value.int .i64 0, Value.int .i64 0, Value.string ⟨#[]⟩, Value.int .u8 0, Value.int .u8 0, Value.int .u8 0, Value.int .u8 0, Value.int .u8 0, Value.int .u8 0, Value.int .u8 0, Value.int .u8 0, Value.int .u8 0, Value.int .u8 0, Value.int .u8 0, Value.int .u8 0, Value.int .u8 0, Value.int .u8 0, Value.int .u8 0, Value.int .u8 0, Value.int .u8 0, Value.int .u8 0, Value.int .u8 0, Value.int .u8 0, Value.int .u8 0, Value.int .u8 0, Value.int .u8 0, Value.int .u8 0, Value.int .u8 0, Value.int .u8 0, Value.int .u8 0, Value.int .u8 0, Value.int .u8 0, Value.int .u8 0, Value.int .u8 0, Value.int .u8 0, Value.slice none 0 0] #[.slice none 0 0, .bool false] 48 33 48
  have R1 : Hid ((((w.alloc (.cells #[.slice A0 n0 c0, .bool b0] 48)).alloc (.cells #[Value.int .i64 0, Value.int .i64 0, Value.int .i64 0, Value.int .i64 0, Value.int .i64 0, Value.int .i64 0, Value.int .i64 0, Value.string ⟨#[]⟩, Value.int .u8 0, Value.int .u8 0, Value.int .u8 0, Value.int .u8 0, Value.int .u8 0, Value.int .u8 0, Value.int .u8 0, Value.int .u8 0, Value.int .u8 0, Value.int .u8 0, Value.int .u8 0, Value.int .u8 0, Value.int .u8 0, Value.int .u8 0, Value.int .u8 0, Value.int .u8 0, Value.int .u8 0, Value.int .u8 0, Value.int .u8 0, Value.int .u8 0, Value.int .u8 0, Value.int .u8 0, Value.int .u8 0, Value.int .u8 0, Value.int .u8 0, Value.int .u8 0, Value.int .u8 0, Value.int .u8 0, Value.int .u8 0, Value.int .u8 0, Value.int .u8 0, Value.int .u8 0, Value.slice none 0 0] 33)).alloc (.cells #[.slice none 0 0, .bool false] 48)).heap[w.heap.size + 1]? = some (.cells op0.cells.toArray 33 (0, 0))) := Lib.hid r1
  have R2 := Lib.hid r2
  have HI := Lib.hid (h.below hb1)
  have HB1 := Lib.hid hb1
  have HS1 := Lib.hid hs1
  have HKW := Lib.hid hKB
  clear r1 r2 hb1 hs1 h hKB
  go_enter Try.func30, Try.ntmps30
  go_wp2_with (refine wpList_load_row rfl _ _ rfl _ rfl _ _ _ _ ra Try.underlying48 rfl info_in ?_)
  clear ra
  generalize (((w.alloc (.cells #[.slice A0 n0 c0, .bool b0] 48)).alloc (.cells #[Value.int .i64 0, Value.int .i64 0, Value.int .i64 0, Value.int .i64 0, Value.int .i64 0, Value.int .i64 0, Value.int .i64 0, Value.string ⟨#[]⟩, Value.int .u8 0, Value.int .u8 0, Value.int .u8 0, Value.int .u8 0, Value.int .u8 0, Value.int .u8 0, Value.int .u8 0, Value.int .u8 0, Value.int .u8 0, Value.int .u8 0, Value.int .u8 0, Value.int .u8 0, Value.int .u8 0, Value.int .u8 0, Value.int .u8 0, Value.int .u8 0, Value.int .u8 0, Value.int .u8 0, Value.int .u8 0, Value.int .u8 0, Value.int .u8 0, Value.int .u8 0, Value.int .u8 0, Value.int .u8 0, Value.int .u8 0, Value.int .u8 0, Value.int .u8 0, Value.int .u8 0, Value.int .u8 0, Value.int .u8 0, Value.int .u8 0, Value.int .u8 0, Value.slice none 0 0] 33)).alloc (.cells #[.slice none 0 0, .bool false] 48)) = W1 at *
  refine (igetnum_k KB st _ _ W1 HI.out).mono ?_
  rintro e w2 ⟨u, rfl, hu, hb2⟩
  obtain ⟨kn, s1, hq⟩ : ∃ a s, getNum st 2 = (a, s) := ⟨_, _, rfl⟩
  rw [hq] at hu ⊢
  have HQ1 := Lib.hid hq
  dsimp only at hu ⊢
  obtain ⟨A2, n2, c2, b2, rfl, _, _⟩ := hu.v.form
  obtain ⟨W3, hW3⟩ : ∃ W, w2.alloc (.cells #[.slice A2 n2 c2, .bool b2] 48) = W := ⟨_, rfl⟩
  obtain ⟨r3, b3, s3⟩ := new_row hW3
  have HI3 := Lib.hid (hu.below b3)
  have HB3 := Lib.hid (hb2.trans (b3.mono hb2.size))
  clear hu b3 s3 hq hb2
  go_wp2_with (refine wpList_load_row rfl _ _ rfl _ rfl _ _ _ _ r3 Try.underlying48 rfl info_in ?_)
  clear hW3 r3
  refine (rgets_k KB s1 _ W3 HI3.out (by have := HKW.out; have := HB3.out.size; have := HS1.out; omega)).mono ?_
  rintro e w4 ⟨u, rfl, hu, hb4⟩
  obtain ⟨at_, s2, hq⟩ : ∃ a s, getS s1 = (a, s) := ⟨_, _, rfl⟩
  rw [hq] at hu ⊢
  have HQ2 := Lib.hid hq
  dsimp only at hu ⊢
  obtain ⟨A4, n4, c4, b4, rfl, _, _⟩ := hu.v.form
  clear hq
  obtain ⟨t1, t2⟩ := at_
  unfold Stm.val
  dsimp only
  obtain ⟨R6a, r5, b45, s5⟩ := two_new w4 #[.int .i64 t1, .int .i64 t2] #[.slice A4 n4 c4, .bool b4] 23 48
  have HI5 := Lib.hid (hu.below b45)
  have HB5 := Lib.hid (HB3.out.trans ((hb4.trans (b45.mono hb4.size)).mono HB3.out.size))
  have R6 := Lib.hid R6a
  have HS5 := Lib.hid s5
  clear hu b45 s5 R6a hb4
  go_wp2_with (refine wpList_load_row rfl _ _ rfl _ rfl _ _ _ _ r5 Try.underlying48 rfl info_in ?_)
  clear r5
  generalize (w4.alloc (.cells #[.int .i64 t1, .int .i64 t2] 23)).alloc (.cells #[.slice A4 n4 c4, .bool b4] 48) = W5 at *
  obtain ⟨g6, hg6⟩ : ∃ g, w4.heap.size = g := ⟨_, rfl⟩
  rw [hg6] at R6 HS5 ⊢
  clear hg6
  refine (rgets_k KB s2 _ W5 HI5.out (by have := HKW.out; have := HB5.out.size; have := HS1.out; omega)).mono ?_
  rintro e w6 ⟨u, rfl, hu, hb6⟩
  obtain ⟨nd, s3, hq⟩ : ∃ a s, getS s2 = (a, s) := ⟨_, _, rfl⟩
  rw [hq] at hu ⊢
  have HQ3 := Lib.hid hq
  dsimp only at hu ⊢
  obtain ⟨A6, n6, c6, b6, rfl, _, _⟩ := hu.v.form
  clear hq
  obtain ⟨t3, t4⟩ := nd
  unfold Stm.val
  dsimp only
  obtain ⟨R8a, r9, b67, s7⟩ := two_new w6 #[.int .i64 t3, .int .i64 t4] #[.slice A6 n6 c6, .bool b6] 23 48
  obtain ⟨_, q9, q10, bq, sq⟩ := three_new w6 #[.int .i64 t3, .int .i64 t4] #[.slice A6 n6 c6, .bool b6] op0.cells.toArray 23 48 33
  have r6 := (hb6.block g6 (by rw [HS5.out]; omega)).trans R6.out
  have l6 : g6 < w6.heap.size := (Array.getElem?_eq_some_iff.1 r6).1
  have m6 := (b67.block g6 l6).trans r6
  have hbq := HB5.out.trans ((hb6.trans (bq.mono hb6.size)).mono HB5.out.size)
  have HL6 : Hid (W1.heap.size ≤ w6.heap.size) := Lib.hid (Nat.le_trans HB5.out.size hb6.size)
  have HLK : Hid (KB ≤ w6.heap.size) := Lib.hid (by have := HKW.out; have := HL6.out; have := HS1.out; omega)
  obtain ⟨WZ, hWZ⟩ : ∃ W, (((w6.alloc (.cells #[.int .i64 t3, .int .i64 t4] 23)).alloc (.cells #[.slice A6 n6 c6, .bool b6] 48)).alloc (.cells op0.cells.toArray 33)) = W := ⟨_, rfl⟩
  rw [hWZ] at q9 q10 bq sq hbq
  have hIz := hu.below bq
  have hRz : RG w WZ (w.heap.size + 1) (w.heap.size + 1 + 1) (w6.heap.size + 1) (w6.heap.size + 1 + 1) (w6.heap.size + 3) A6 n6 c6 b6 op0 :=
    ⟨(hbq.block _ (by have := HS1.out; omega)).trans R1.out, (hbq.block _ (by have := HS1.out; omega)).trans R2.out, q9, q10, HB1.out.trans (hbq.mono HB1.out.size), by omega, by omega, by have := HL6.out; have := HS1.out; omega, by omega, by omega, by rw [sq]; exact Nat.le_refl _⟩
  obtain ⟨oq, hoq⟩ : ∃ o : OpM, (⟨(kn : Int), ⟨t1, t2⟩, ⟨t3, t4⟩, stm0, ⟨#[]⟩, zeros32, .slice none 0 0, []⟩ : OpM) = o := ⟨_, rfl⟩
  have hoqd : oq.data.length = 32 := by rw [← hoq]; rfl
  obtain ⟨WQ, hWQ⟩ : ∃ W, WZ.setCells (w6.heap.size + 1 + 1) 0 oq.cells.toArray.toList = W := ⟨_, rfl⟩
  have hgq := setCells_grown (w6.heap.size + 1 + 1) oq.cells.toArray.toList 0 WZ
  have hrq : (WZ.setCells (w6.heap.size + 1 + 1) 0 oq.cells.toArray.toList).heap[w6.heap.size + 1 + 1]? = some (.cells oq.cells.toArray 33 (0, 0)) := by simpa using row_setAll (cs := op0.cells) (vs := oq.cells) q10 (by rw [oq.cells_len hoqd]; rfl)
  rw [hWQ] at hgq hrq
  have HRG := Lib.hid (hRz.put_op oq hgq hrq)
  have HIq := Lib.hid (hIz.far (by have := HLK.out; omega) hgq)
  have HTQ : Hid (WZ.there (w6.heap.size + 1 + 1) 0 oq.cells.toArray.size) := Lib.hid (there_mid q10 0 _ (by rw [size_op op0 rfl, size_op oq hoqd]; decide))
  have HSZ : Hid ((Try.prog.info? 33).map (·.size) = some oq.cells.toArray.size) := Lib.hid (by rw [size_op _ hoqd]; exact info_op)
  have HON : Hid (oq.cells.toArray.all (·.oneCell') = true) := Lib.hid (slot_none _ (by rw [← hoq]))
  have HWQ := Lib.hid hWQ
  have HOQ := Lib.hid hoq
  have hWZ' : (((w6.alloc (.cells #[.int .i64 t3, .int .i64 t4] 23)).alloc (.cells #[.slice A6 n6 c6, .bool b6] 48)).alloc (.cells #[Value.int .i64 0, Value.int .i64 0, Value.int .i64 0, Value.int .i64 0, Value.int .i64 0, Value.int .i64 0, Value.int .i64 0, Value.string ⟨#[]⟩, Value.int .u8 0, Value.int .u8 0, Value.int .u8 0, Value.int .u8 0, Value.int .u8 0, Value.int .u8 0, Value.int .u8 0, Value.int .u8 0, Value.int .u8 0, Value.int .u8 0, Value.int .u8 0, Value.int .u8 0, Value.int .u8 0, Value.int .u8 0, Value.int .u8 0, Value.int .u8 0, Value.int .u8 0, Value.int .u8 0, Value.int .u8 0, Value.int .u8 0, Value.int .u8 0, Value.int .u8 0, Value.int .u8 0, Value.int .u8 0, Value.int .u8 0, Value.int .u8 0, Value.int .u8 0, Value.int .u8 0, Value.int .u8 0, Value.int .u8 0, Value.int .u8 0, Value.int .u8 0, Value.slice none 0 0] 33)) = WZ := hWZ
  clear hu b67 s7 r6 hb6 r9 q9 q10 bq sq hbq R1 R2 hWZ hIz hRz hoqd hWQ hgq hrq hoq
  go_upto_if 42 with (first
    | (refine wpList_load_row rfl _ _ rfl _ rfl _ _ _ _ m6 Try.underlying23 rfl info_stm ?_)
    | (refine wpList_load_row rfl _ _ rfl _ rfl _ _ _ _ R8a Try.underlying23 rfl info_stm ?_)
    | ((with_reducible (refine wpList_store_mid rfl _ _ _ rfl ?_ ?_ ?_ ?_ ?_ ?_ ?_ ?_ ?_)); (exact w6.heap.size + 1 + 1); (exact 0); (exact oq.cells.toArray); (exact rfl); (rw [← HOQ.out]; exact rfl); (exact HTQ.out); (exact HSZ.out); (exact HON.out); rw [HWQ.out]))
  clear m6 R8a hWZ'
  go_cut [] (fun wx => ∃ (A : Option Addr) (n c : Nat) (b : Bool) (o : OpM) (s : St) (NB : Nat), Hid (RG w wx (w.heap.size + 1) (w.heap.size + 1 + 1) (w6.heap.size + 1) (w6.heap.size + 1 + 1) NB A n c b o) ∧ Hid (InK wx KB (.agg #[.slice A n c, .bool b]) s) ∧ Hid (wx.ownsRow NB 23 2 o.ov o.os.length (stc o.os)) ∧ Hid (o.data.length = 32 ∧ o.name.size ≤ 9223372036854775807) ∧ Hid (getOpM st = if s.isSome && goodO o then (({ o with ov := .slice none 0 0 } : OpM), s) else (op0, none)))
  case first =>
    by_cases hk : kn = 1
    · have hk1 : ((kn : Int) == 1) = true := by rw [hk]; rfl
      have HKN := Lib.hid hk
      have r9 := HRG.out.r3
      clear hk
      go_wp2_with (refine wpList_load_row rfl _ _ rfl _ rfl _ _ _ _ r9 Try.underlying48 rfl info_in ?_)
      clear r9
      refine (rgets_k KB s3 _ WQ HIq.out (by have := HLK.out; have := HRG.out.l5; omega)).mono ?_
      rintro e w8 ⟨u, rfl, hu, hb8⟩
      obtain ⟨pr, s4, hq⟩ : ∃ a s, getS s3 = (a, s) := ⟨_, _, rfl⟩
      rw [hq] at hu ⊢
      have HQ4 := Lib.hid hq
      dsimp only at hu ⊢
      obtain ⟨A8, n8, c8, b8, rfl, _, _⟩ := hu.v.form
      clear hq
      obtain ⟨p1, p2⟩ := pr
      unfold Stm.val
      dsimp only
      obtain ⟨R11, r12, bb, ss⟩ := two_new w8 #[.int .i64 p1, .int .i64 p2] #[.slice A8 n8 c8, .bool b8] 23 48
      have HG8 := Lib.hid (HRG.out.below (hb8.trans (bb.mono hb8.size)))
      have HI8 := Lib.hid (hu.below bb)
      have HR11 := Lib.hid R11
      have HS8 := Lib.hid ss
      clear hu bb ss R11 hb8
      go_wp2_with (refine wpList_load_row rfl _ _ rfl _ rfl _ _ _ _ r12 Try.underlying48 rfl info_in ?_)
      clear r12
      generalize (w8.alloc (.cells #[.int .i64 p1, .int .i64 p2] 23)).alloc (.cells #[.slice A8 n8 c8, .bool b8] 48) = W9 at *
      obtain ⟨g11, hg11⟩ : ∃ g, w8.heap.size = g := ⟨_, rfl⟩
      rw [hg11] at HR11 HS8 ⊢
      clear hg11
      refine (igettext_k KB s4 _ 60 W9 HI8.out).mono ?_
      rintro e w10 ⟨u, rfl, hu, hb10⟩
      obtain ⟨nm, s5, hq⟩ : ∃ a s, getText s4 60 = (a, s) := ⟨_, _, rfl⟩
      have hnl : nm.length ≤ 4611686018427387904 := by
        have h1 : (getText s4 60).1.length ≤ _ := getN_len _ _
        rw [hq] at h1
        exact Nat.le_trans h1 (getNum_le _ _)
      rw [hq] at hu ⊢
      have HQ5 := Lib.hid hq
      dsimp only at hu ⊢
      obtain ⟨A10, n10, c10, b10, rfl, _, _⟩ := hu.v.form
      obtain ⟨NM, hNM⟩ : ∃ NM : ByteArray, (⟨nm.toArray⟩ : ByteArray) = NM := ⟨_, rfl⟩
      have hNs : NM.size ≤ 9223372036854775807 := by rw [← hNM]; show nm.length ≤ _; omega
      rw [hNM]
      have HNM := Lib.hid hNM
      obtain ⟨WA, hWA⟩ : ∃ W, w10.alloc (.cells #[.slice A10 n10 c10, .bool b10] 48) = W := ⟨_, rfl⟩
      obtain ⟨re, be, se⟩ := new_row hWA
      have hbe := hb10.trans (be.mono hb10.size)
      have GA := HG8.out.below hbe
      have hIA := hu.below be
      have r11 := (hbe.block g11 (by rw [HS8.out]; omega)).trans HR11.out
      have hgo : w6.heap.size + 1 + 1 < w10.heap.size := by have := HG8.out.l4; have := HG8.out.l5; have := hb10.size; omega
      have hgw := HG8.out.l4
      have hgx := HG8.out.l5
      obtain ⟨WB, hWB⟩ : ∃ W, WA.setCells (w6.heap.size + 1 + 1) 5 (Stm.cells ⟨p1, p2⟩).toArray.toList = W := ⟨_, rfl⟩
      have gB := setCells_grown (w6.heap.size + 1 + 1) (Stm.cells ⟨p1, p2⟩).toArray.toList 5 WA
      have rB : (WA.setCells (w6.heap.size + 1 + 1) 5 (Stm.cells ⟨p1, p2⟩).toArray.toList).heap[w6.heap.size + 1 + 1]? = _ := row_par GA.r4 ⟨p1, p2⟩
      rw [hWB] at gB rB
      have GB := GA.put_op _ gB rB
      have HTB : Hid (WA.there (w6.heap.size + 1 + 1) 5 (Stm.cells ⟨p1, p2⟩).toArray.size) := Lib.hid (there_mid GA.r4 5 _ (by rw [← HOQ.out, size_op _ rfl]; simp [Stm.cells]))
      have y0 : WB.cell? ⟨w6.heap.size + 1 + 1, 7, none⟩ = some (.string ⟨#[]⟩) := by rw [cell_in_row GB.r4 (i := 7) (u := .string oq.name) rfl, ← HOQ.out]
      have y1 := row_free GB.r4 7
      obtain ⟨WC, hWC⟩ : ∃ W, WB.setCell ⟨w6.heap.size + 1 + 1, 7, none⟩ (.string NM) = W := ⟨_, rfl⟩
      have gC := grown_set (w := WB) (w6.heap.size + 1 + 1) 7 (.string NM)
      have rC := row_name GB.r4 NM
      rw [hWC] at gC rC
      have GC := GB.put_op _ gC rC
      have rE := (gC.block _ (by have := gB.size; omega) (by simp; omega)).trans ((gB.block w10.heap.size (by omega) (by simp; omega)).trans re)
      have hIC := (hIA.far (by have := HLK.out; omega) gB).far (by have := HLK.out; omega) gC
      have z0 : WC.cell? ⟨w6.heap.size + 1, 0, none⟩ = some (.slice A6 n6 c6) := row_cell GC.r3 0
      have z1 : WC.cell? ⟨w6.heap.size + 1, 1, none⟩ = some (.bool b6) := row_cell GC.r3 1
      have z2 := row_free GC.r3 0
      have z3 := row_free GC.r3 1
      have HGD := Lib.hid (GC.put_in A10 n10 c10 b10)
      have gD : WC.grownBy ((WC.setCell ⟨w6.heap.size + 1, 0, none⟩ (.slice A10 n10 c10)).setCell ⟨w6.heap.size + 1, 1, none⟩ (.bool b10)) (some (w6.heap.size + 1)) := grown_trans1 (grown_set _ 0 _) (grown_set _ 1 _)
      have HID := Lib.hid (hIC.far (by have := HLK.out; omega) gD)
      have HWB := Lib.hid hWB
      have HNS := Lib.hid hNs
      clear hq hnl hNM hNs hu hb10 be se hbe GA hIA gB rB GB hWB gC rC GC hIC gD re hgo hgw hgx
      go_wp2_with (first
        | (refine wpList_load_row rfl _ _ rfl _ rfl _ _ _ _ r11 Try.underlying23 rfl info_stm ?_)
        | (refine wpList_load_row rfl _ _ rfl _ rfl _ _ _ _ rE Try.underlying48 rfl info_in ?_)
        | ((with_reducible (refine wpList_store_mid rfl _ _ _ rfl ?_ ?_ ?_ ?_ ?_ ?_ ?_ ?_ ?_)); (exact w6.heap.size + 1 + 1); (exact 5); (exact (Stm.cells ⟨p1, p2⟩).toArray); (exact rfl); (exact rfl); (exact HTB.out); (exact info_stm); (exact Stm.cells_one _); rw [HWB.out]))
      go_meet
      case rel =>
        refine ⟨A10, n10, c10, b10, _, s5, _, HGD, HID, Lib.hid ?_, Lib.hid ⟨?_, HNS.out⟩, Lib.hid ?_⟩
        · dsimp only
          rw [← HOQ.out]
          exact World.ownsRow_nil _ _ _ _
        · dsimp only
          rw [← HOQ.out]
          rfl
        · unfold getOpM
          rw [HQ1.out]
          dsimp only
          rw [if_pos HKN.out]
          unfold getMove
          rw [HQ1.out]
          dsimp only
          rw [HQ2.out]
          dsimp only
          rw [HQ3.out]
          dsimp only
          rw [HQ4.out]
          dsimp only
          rw [HQ5.out]
          dsimp only
          rw [HNM.out, ← HOQ.out, HKN.out]
          rfl
    · have hk1 : ((kn : Int) == 1) = false := by rw [beq_eq_false_iff_ne]; omega
      have HKN := Lib.hid hk
      have r9 := HRG.out.r3
      clear hk
      go_wp2_with (refine wpList_load_row rfl _ _ rfl _ rfl _ _ _ _ r9 Try.underlying48 rfl info_in ?_)
      clear r9
      refine (igetid_k KB s3 _ WQ HIq.out).mono ?_
      rintro e w8 ⟨u, rfl, hu, hb8⟩
      obtain ⟨d, s4, hq⟩ : ∃ a s, getId s3 = (a, s) := ⟨_, _, rfl⟩
      have hdl : d.length = 32 := by have := getId_len s3; rw [hq] at this; exact this
      rw [hq] at hu ⊢
      have HQ4 := Lib.hid hq
      dsimp only at hu ⊢
      obtain ⟨A8, n8, c8, b8, rfl, _, _⟩ := hu.v.form
      clear hq
      obtain ⟨R11, r12, bb, ss⟩ := two_new w8 (b8s zeros32).toArray #[.slice none 0 0, .bool false] 29 48
      obtain ⟨WA, hWA⟩ : ∃ W, (w8.alloc (.cells (b8s zeros32).toArray 29)).alloc (.cells #[.slice none 0 0, .bool false] 48) = W := ⟨_, rfl⟩
      rw [hWA] at R11 r12 bb ss
      have hWA' : (w8.alloc (.cells #[Value.int .u8 0, Value.int .u8 0, Value.int .u8 0, Value.int .u8 0, Value.int .u8 0, Value.int .u8 0, Value.int .u8 0, Value.int .u8 0, Value.int .u8 0, Value.int .u8 0, Value.int .u8 0, Value.int .u8 0, Value.int .u8 0, Value.int .u8 0, Value.int .u8 0, Value.int .u8 0, Value.int .u8 0, Value.int .u8 0, Value.int .u8 0, Value.int .u8 0, Value.int .u8 0, Value.int .u8 0, Value.int .u8 0, Value.int .u8 0, Value.int .u8 0, Value.int .u8 0, Value.int .u8 0, Value.int .u8 0, Value.int .u8 0, Value.int .u8 0, Value.int .u8 0, Value.int .u8 0] 29)).alloc (.cells #[.slice none 0 0, .bool false] 48) = WA := hWA
      have l8 : KB ≤ w8.heap.size := by have := HRG.out.l5; have := HLK.out; have := hb8.size; omega
      obtain ⟨WB, hWB⟩ : ∃ W, WA.setCells w8.heap.size 0 (b8s d).toArray.toList = W := ⟨_, rfl⟩
      have gB := setCells_grown w8.heap.size (b8s d).toArray.toList 0 WA
      have rB : (WA.setCells w8.heap.size 0 (b8s d).toArray.toList).heap[w8.heap.size]? = some (.cells (b8s d).toArray 29 (0, 0)) := by simpa using row_setAll (cs := b8s zeros32) (vs := b8s d) R11 (by rw [b8s_length, b8s_length, hdl]; rfl)
      rw [hWB] at gB rB
      have rI := (gB.block _ (by omega) (by simp)).trans r12
      have HTB : Hid (WA.there w8.heap.size 0 (b8s d).toArray.size) := Lib.hid (there_mid R11 0 _ (by rw [arr_size d hdl, arr_size zeros32 rfl]; decide))
      have c0 : WB.cell? ⟨w8.heap.size + 1, 0, none⟩ = some (.slice none 0 0) := row_cell rI 0
      have c1 : WB.cell? ⟨w8.heap.size + 1, 1, none⟩ = some (.bool false) := row_cell rI 1
      have f0 := row_free rI 0
      have f1 := row_free rI 1
      obtain ⟨WC, hWC⟩ : ∃ W, (WB.setCell ⟨w8.heap.size + 1, 0, none⟩ (.slice A8 n8 c8)).setCell ⟨w8.heap.size + 1, 1, none⟩ (.bool b8) = W := ⟨_, rfl⟩
      have gC : WB.grownBy ((WB.setCell ⟨w8.heap.size + 1, 0, none⟩ (.slice A8 n8 c8)).setCell ⟨w8.heap.size + 1, 1, none⟩ (.bool b8)) (some (w8.heap.size + 1)) := grown_trans1 (grown_set _ 0 _) (grown_set _ 1 _)
      have rC := row_set2 rI (.slice A8 n8 c8) (.bool b8)
      rw [hWC] at gC rC
      have bAC : Below w8.heap.size w8 WC := bel_grown (bel_grown bb (by omega) gB (Nat.le_refl _)) (by have := gB.size; omega) gC (by omega)
      have HGC := Lib.hid (HRG.out.below (hb8.trans (bAC.mono hb8.size)))
      have HIC := Lib.hid (hu.below bAC)
      have HRD := Lib.hid ((gC.block w8.heap.size (by have := gB.size; omega) (by simp)).trans rB)
      have HWB := Lib.hid hWB
      have HDL := Lib.hid hdl
      have HIA := Lib.hid (info_of_arr d hdl info_arr)
      have HL8 := Lib.hid l8
      have HCL : Hid (w8.heap.size < WC.heap.size) := Lib.hid (by have := gB.size; have := gC.size; omega)
      clear hu bb ss R11 r12 hb8 hdl hWA hWB gB rB rI gC bAC l8
      go_wp2_with (first
        | (refine wpList_load_row rfl _ _ rfl _ rfl _ _ _ _ rC Try.underlying48 rfl info_in ?_)
        | ((with_reducible (refine wpList_store_mid rfl _ _ _ rfl ?_ ?_ ?_ ?_ ?_ ?_ ?_ ?_ ?_)); (exact w8.heap.size); (exact 0); (exact (b8s d).toArray); (exact rfl); (exact rfl); (exact HTB.out); (exact HIA.out); (exact all_oneCell_toArray (b8s_one' _)); rw [HWB.out]))
      clear hWA' rC c0 c1 f0 f1
      refine (igetnum_k KB s4 _ 64 WC HIC.out).mono ?_
      rintro e w10 ⟨u, rfl, hu, hb10⟩
      obtain ⟨n, s5, hq⟩ : ∃ a s, getNum s4 64 = (a, s) := ⟨_, _, rfl⟩
      have hn64 := getNum_most s4
      rw [hq] at hu hn64 ⊢
      have HQ5 := Lib.hid hq
      dsimp only at hu hn64 ⊢
      obtain ⟨A10, n10, c10, b10, rfl, _, _⟩ := hu.v.form
      obtain ⟨WD, hWD⟩ : ∃ W, w10.alloc (.cells #[.slice A10 n10 c10, .bool b10] 48) = W := ⟨_, rfl⟩
      obtain ⟨rd, bd, sd⟩ := new_row hWD
      have hbd := hb10.trans (bd.mono hb10.size)
      have GD := HGC.out.below hbd
      have hID := hu.below bd
      have rH := (hbd.block w8.heap.size HCL.out).trans HRD.out
      have hod : oq.data.length = 32 := by rw [← HOQ.out]; rfl
      obtain ⟨WE, hWE⟩ : ∃ W, WD.setCells (w6.heap.size + 1 + 1) 8 (b8s d).toArray.toList = W := ⟨_, rfl⟩
      have gE := setCells_grown (w6.heap.size + 1 + 1) (b8s d).toArray.toList 8 WD
      have rE : (WD.setCells (w6.heap.size + 1 + 1) 8 (b8s d).toArray.toList).heap[w6.heap.size + 1 + 1]? = _ := row_data GD.r4 hod d HDL.out
      rw [hWE] at gE rE
      have GE := GD.put_op _ gE rE
      have HTE : Hid (WD.there (w6.heap.size + 1 + 1) 8 (b8s d).toArray.size) := Lib.hid (there_mid GD.r4 8 _ (by rw [size_op _ hod, arr_size d HDL.out]; decide))
      have hgw := GD.l4
      have hgx := HGC.out.l5
      have hgy := hb10.size
      have rF := (gE.block w10.heap.size (by omega) (by simp; omega)).trans rd
      have z0 : WE.cell? ⟨w6.heap.size + 1, 0, none⟩ = some (.slice A6 n6 c6) := row_cell GE.r3 0
      have z1 : WE.cell? ⟨w6.heap.size + 1, 1, none⟩ = some (.bool b6) := row_cell GE.r3 1
      have z2 := row_free GE.r3 0
      have z3 := row_free GE.r3 1
      have GF := GE.put_in A10 n10 c10 b10
      have gF : WE.grownBy ((WE.setCell ⟨w6.heap.size + 1, 0, none⟩ (.slice A10 n10 c10)).setCell ⟨w6.heap.size + 1, 1, none⟩ (.bool b10)) (some (w6.heap.size + 1)) := grown_trans1 (grown_set _ 0 _) (grown_set _ 1 _)
      have hIF := (hID.far (by have := HLK.out; omega) gE).far (by have := HLK.out; omega) gF
      obtain ⟨o8, ho8⟩ : ∃ o : OpM, ({ oq with data := d } : OpM) = o := ⟨_, rfl⟩
      rw [ho8] at GF
      have HO8 := Lib.hid ho8
      have HOD : Hid (o8.data.length = 32) := Lib.hid (by rw [← ho8]; exact HDL.out)
      have e8 : ({ o8 with ov := .slice none 0 0, os := [] } : OpM) = o8 := by rw [← ho8, ← HOQ.out]
      have HG0 : Hid (RG w ((WE.setCell ⟨w6.heap.size + 1, 0, none⟩ (.slice A10 n10 c10)).setCell ⟨w6.heap.size + 1, 1, none⟩ (.bool b10)) (w.heap.size + 1) (w.heap.size + 1 + 1) (w6.heap.size + 1) (w6.heap.size + 1 + 1) (w6.heap.size + 3) A10 n10 c10 b10 { o8 with ov := .slice none 0 0, os := [] }) := Lib.hid (by rw [e8]; exact GF)
      have HI0 := Lib.hid hIF
      have HWE := Lib.hid hWE
      have HIE := Lib.hid (info_data d HDL.out)
      have HFE : Hid (∀ (k : Nat) (v : Value), k ≤ n → (k = n ∨ (getL k s5).2 = none) → getOpM st = if (getL k s5).2.isSome && goodO ({ o8 with ov := v, os := (getL k s5).1 } : OpM) then (({ o8 with ov := .slice none 0 0, os := (getL k s5).1 } : OpM), (getL k s5).2) else (op0, none)) := Lib.hid (by
        intro k v hk hor
        have hgo : ∀ os, goodO ({ o8 with ov := v, os := os } : OpM) = goodO ({ op0 with kind := (kn : Int), at_ := ⟨t1, t2⟩, node := ⟨t3, t4⟩, data := d, os := os } : OpM) := fun os => by rw [← ho8, ← HOQ.out]; rfl
        have hoo : ∀ os, ({ o8 with ov := .slice none 0 0, os := os } : OpM) = { op0 with kind := (kn : Int), at_ := ⟨t1, t2⟩, node := ⟨t3, t4⟩, data := d, os := os } := fun os => by rw [← ho8, ← HOQ.out]; rfl
        have hge : getOpM st = if (getL n s5).2.isSome && goodO ({ op0 with kind := (kn : Int), at_ := ⟨t1, t2⟩, node := ⟨t3, t4⟩, data := d, os := (getL n s5).1 } : OpM) then (({ op0 with kind := (kn : Int), at_ := ⟨t1, t2⟩, node := ⟨t3, t4⟩, data := d, os := (getL n s5).1 } : OpM), (getL n s5).2) else (op0, none) := by
          unfold getOpM
          rw [HQ1.out]
          dsimp only
          rw [if_neg HKN.out]
          unfold getEdit
          rw [HQ1.out]
          dsimp only
          rw [HQ2.out]
          dsimp only
          rw [HQ3.out]
          dsimp only
          rw [HQ4.out]
          dsimp only
          rw [HQ5.out]
        rw [hge, hgo, hoo]
        rcases hor with rfl | hno
        · rfl
        · have hn2 := getL_stop s5 (n - k) k hno
          rw [show k + (n - k) = n by omega] at hn2
          rw [hn2, hno]
          rfl)
      clear hq hu hb10 rd bd sd hbd GD hID hod hWE gE rE GE gF hIF GF ho8 e8 hgw hgx hgy
      go_wp2_with (first
        | (refine wpList_load_row rfl _ _ rfl _ rfl _ _ _ _ rF Try.underlying48 rfl info_in ?_)
        | (refine wpList_load_row rfl _ _ rfl _ rfl _ _ _ _ rH Try.underlying29 rfl HIA.out ?_)
        | ((with_reducible (refine wpList_store_mid rfl _ _ _ rfl ?_ ?_ ?_ ?_ ?_ ?_ ?_ ?_ ?_)); (exact w6.heap.size + 1 + 1); (exact 8); (exact (b8s d).toArray); (exact rfl); (exact rfl); (exact HTE.out); (rw [List.size_toArray]; exact HIE.out); (exact all_oneCell_toArray (b8s_one' _)); rw [HWE.out]))
      clear rF rH hWD z0 z1 z2 z3
      generalize (WE.setCell ⟨w6.heap.size + 1, 0, none⟩ (.slice A10 n10 c10)).setCell ⟨w6.heap.size + 1, 1, none⟩ (.bool b10) = WF at *
      go_loopg [19] (n * 1) (fun gk_ s wr => ∃ (k : Nat) (A : Option Addr) (m c : Nat) (b : Bool) (v : Value), k ≤ n ∧ gk_ = n - k ∧ s = .int .i64 (k : Int) ∧ Hid (RG w wr (w.heap.size + 1) (w.heap.size + 1 + 1) (w6.heap.size + 1) (w6.heap.size + 1 + 1) (w6.heap.size + 3) A m c b { o8 with ov := v, os := (getL k s5).1 }) ∧ Hid (InK wr KB (.agg #[.slice A m c, .bool b]) (getL k s5).2) ∧ Hid (wr.ownsRow (w6.heap.size + 3) 23 2 v (getL k s5).1.length (stc (getL k s5).1)))
      case atStart => exact ⟨0, A10, n10, c10, b10, .slice none 0 0, by omega, by omega, rfl, HG0, HI0, Lib.hid (World.ownsRow_nil _ _ _ _)⟩
      case round =>
        clear HG0 HI0
        obtain ⟨k, A, m, c, b, v, hk, rfl, rfl, HG, HI, HOWN⟩ := hrel
        have z1 : wr.cell? ⟨w6.heap.size + 1, 1, none⟩ = some (.bool b) := row_cell HG.out.r3 1
        have FIN : Hid ((k = n ∨ b = true) → ∃ (A : Option Addr) (n c : Nat) (b : Bool) (o : OpM) (s : St) (NB : Nat), Hid (RG w wr (w.heap.size + 1) (w.heap.size + 1 + 1) (w6.heap.size + 1) (w6.heap.size + 1 + 1) NB A n c b o) ∧ Hid (InK wr KB (.agg #[.slice A n c, .bool b]) s) ∧ Hid (wr.ownsRow NB 23 2 o.ov o.os.length (stc o.os)) ∧ Hid (o.data.length = 32 ∧ o.name.size ≤ 9223372036854775807) ∧ Hid (getOpM st = if s.isSome && goodO o then (({ o with ov := .slice none 0 0 } : OpM), s) else (op0, none))) := Lib.hid (by
          intro hor
          refine ⟨A, m, c, b, { o8 with ov := v, os := (getL k s5).1 }, (getL k s5).2, _, HG, HI, HOWN, Lib.hid ⟨HOD.out, by dsimp only; rw [← HO8.out, ← HOQ.out]; exact Nat.zero_le _⟩, Lib.hid (HFE.out k v hk ?_)⟩
          rcases hor with h | h
          · exact .inl h
          · right
            obtain ⟨_, _, _, _, hfm, hsb, _⟩ := HI.out.v.form
            cases hfm
            rw [h] at hsb
            simpa using hsb)
        by_cases hlt : k < n
        · have i1 : (k : Int) < (n : Int) := by omega
          cases b
          · clear FIN
            obtain ⟨os, sk, hos⟩ : ∃ a s, getL k s5 = (a, s) := ⟨_, _, rfl⟩
            obtain ⟨s, sk2, hss⟩ : ∃ a s, getS sk = (a, s) := ⟨_, _, rfl⟩
            have hL : getL (k + 1) s5 = (os ++ [s], sk2) := by
              show ((getL k s5).1 ++ [(getS (getL k s5).2).1], (getS (getL k s5).2).2) = _
              rw [hos]
              dsimp only
              rw [hss]
            rw [hos] at HG HI HOWN
            dsimp only at HG HI HOWN
            have hol : os.length = k := by
              have hgl : ∀ m, (getL m s5).1.length = m := by
                intro m
                induction m with
                | zero => rfl
                | succ m ih => show ((getL m s5).1 ++ [_]).length = _; rw [List.length_append, ih]; rfl
              have := hgl k
              rw [hos] at this
              exact this
            have HL2 := Lib.hid hL
            have HSS := Lib.hid hss
            have HOL := Lib.hid hol
            have r9 := HG.out.r3
            clear hos hss hL hol
            go_wp2_with (refine wpList_load_row rfl _ _ rfl _ rfl _ _ _ _ r9 Try.underlying48 rfl info_in ?_)
            clear r9 z1
            refine (rgets_k KB sk _ wr HI.out (by have := HLK.out; have := HG.out.l5; omega)).mono ?_
            rintro e w12 ⟨u, rfl, hu, hb12⟩
            rw [HSS.out] at hu ⊢
            dsimp only at hu ⊢
            obtain ⟨A12, n12, c12, b12, rfl, _, _⟩ := hu.v.form
            obtain ⟨x1, x2⟩ := s
            unfold Stm.val
            dsimp only
            obtain ⟨r20, r21, bx, sx⟩ := two_new w12 #[.int .i64 x1, .int .i64 x2] #[.slice A12 n12 c12, .bool b12] 23 48
            have HBX := Lib.hid (hb12.trans (bx.mono hb12.size))
            have HIX := Lib.hid (hu.below bx)
            have HSX := Lib.hid sx
            have HW12 := Lib.hid hb12.size
            have R20 := Lib.hid r20
            have R21 := Lib.hid r21
            clear hu bx sx hb12 r20 r21
            go_upto_region 19 with fail
            generalize (w12.alloc (.cells #[.int .i64 x1, .int .i64 x2] 23)).alloc (.cells #[.slice A12 n12 c12, .bool b12] 48) = X at *
            have r20 := R20.out
            have t0 : X.cell? ⟨w6.heap.size + 1 + 1, 40, none⟩ = some v := (opRow_of (HG.out.below HBX.out).r4 HOD.out).ov
            have HXO := Lib.hid (own_below HOWN.out HBX.out)
            go_wp2_with (first
              | (refine wpList_load_row rfl _ _ rfl _ rfl _ _ _ _ r20 Try.underlying23 rfl info_stm ?_)
              | (refine wpList_append_rd _ rfl _ _ 31 rfl (w6.heap.size + 3) 23 (.agg #[.int .i64 0, .int .i64 0]) 2 16 Try.underlying31 info_stm3 rfl (by decide) _ _ _ rfl (HXO.out.alloc _) _ 1 _ (Stm.cells ⟨x1, x2⟩) rfl rfl (Rd.new X _ _) (Stm.one _) (by unfold maxLen; have := HOL.out; omega) (by have := HOL.out; omega) (by have := HG.out.l5; have := HBX.out.size; simp; omega) ?_; intro v9 w9 ho9 hg9 hv9; obtain ⟨A9, c9, hA9, _, _, _, _⟩ := own_slice ho9; subst hA9; obtain ⟨G9, O9, q1, q2, K9, S9, z0, z1, z2, z3⟩ := RG.step HG.out HOD.out (HBX.out.trans (((Below.refl X.heap.size X).alloc (Nat.le_refl _) _).mono HBX.out.size)) HOWN.out ho9 hg9; have r22 := (K9 (w12.heap.size + 1) (by have := HW12.out; omega) (by have := HSX.out; simp; omega)).trans ((Below.heap_alloc _ _ _ (by have := HSX.out; omega)).trans R21.out); have HG9 := Lib.hid G9; have HO9 := Lib.hid O9; have HGG := Lib.hid hg9; clear K9 S9 G9 O9 ho9 hg9 hv9)
              | (refine wpList_load_row rfl _ _ rfl _ rfl _ _ _ _ r22 Try.underlying48 rfl info_in ?_))
            clear r20 t0 q1 q2 r22 z0 z1 z2 z3
            have HGN := Lib.hid (HG9.out.put_in A12 n12 c12 b12)
            go_roundg (n - (k + 1))
            case measure => omega
            case rel =>
              refine ⟨k + 1, A12, n12, c12, b12, _, by omega, rfl, by first | rfl | exact congrArg (Value.int .i64) (by omega) | go_num, by rw [HL2.out]; exact HGN, ?_, ?_⟩
              · rw [HL2.out]
                have i3 := InK.grow (w := X.alloc (.cells #[.int .i64 x1, .int .i64 x2] 23)) (HIX.out.below ((Below.refl X.heap.size X).alloc (Nat.le_refl _) _)) HGG.out (fun b hb => by have := (HOWN.out.lt b hb).1; have := HLK.out; omega)
                have i4 := i3.far (by have := HLK.out; omega) (grown_set (w6.heap.size + 1 + 1) 40 (.slice A9 (os.length + 1) c9))
                exact Lib.hid (i4.far (by have := HLK.out; omega) (grown_trans1 (grown_set (w6.heap.size + 1) 0 _) (grown_set (w6.heap.size + 1) 1 _)))
              · rw [HL2.out]
                exact Lib.hid (own_keep HO9.out (fun b hb hl => (grown_trans1 (grown_set (w6.heap.size + 1) 0 _) (grown_set (w6.heap.size + 1) 1 _)).block b hl (by have := (HO9.out.lt b hb).1; simp; omega)))
          · go_wp2_with fail
            go_meet
            case rel => exact FIN.out (.inr trivial)
        · have i1 : ¬ (k : Int) < (n : Int) := by omega
          have hkn : k = n := by omega
          have HKE := Lib.hid hkn
          clear hkn
          go_wp2_with fail
          go_meet
          case rel => exact FIN.out (.inl HKE.out)
  case rest =>
    clear HRG HIq HWQ HTQ HSZ HON
    obtain ⟨A, n, c, b, o, s, NB, HG, HI, HO, HD, HF⟩ := hcut
    obtain ⟨hdl, hnm⟩ := HD.out
    obtain ⟨AO, cO, hov, hnc, hcm, hblk, _⟩ := own_slice HO.out
    have hcm' : cO ≤ 9223372036854775807 := by unfold maxLen at hcm; omega
    have HOIN : Hid (∀ W, W.ownsRow NB 23 2 o.ov o.os.length (stc o.os) → OpIn W o) := Lib.hid (fun W hw => ⟨hdl, hnm, AO, cO, hov, by rw [hov] at hw; exact own_rd hw, hnc, hcm'⟩)
    have HSZ : Hid ((Try.prog.info? 33).map (·.size) = some o.cells.toArray.size) := Lib.hid (by rw [size_op _ hdl]; exact info_op)
    have HSL : Hid ((Try.prog.info? 33).map (·.size) = some o.cells.length) := Lib.hid (by rw [o.cells_len hdl]; exact info_op)
    have HSZ0 : Hid ((Try.prog.info? 33).map (·.size) = some op0.cells.toArray.size) := Lib.hid (by rw [size_op _ rfl]; exact info_op)
    have HON : Hid (o.cells.toArray.all (·.oneCell') = true) := Lib.hid (all_oneCell_toArray (o.cells_one ⟨_, _, _, hov⟩))
    have HDL := Lib.hid hdl
    have z1 : wc.cell? ⟨w6.heap.size + 1, 1, none⟩ = some (.bool b) := row_cell HG.out.r3 1
    obtain ⟨_, _, _, _, hfm, hsb, _⟩ := HI.out.v.form
    cases hfm
    have HSB := Lib.hid hsb
    clear hdl hnm hov hnc hcm hblk hcm' hsb
    have BAD : ∀ W : World, Below wc.heap.size wc W → ∃ WB, W.setCells (w.heap.size + 1) 0 op0.cells.toArray.toList = WB ∧ Hid (W.there (w.heap.size + 1) 0 op0.cells.toArray.size) ∧ WB.cell? ⟨w.heap.size + 1 + 1, 0, none⟩ = some (.slice none 0 0) ∧ WB.cell? ⟨w.heap.size + 1 + 1, 1, none⟩ = some (.bool false) ∧ WB.frozen? ⟨w.heap.size + 1 + 1, 0, none⟩ = false ∧ WB.frozen? ⟨w.heap.size + 1 + 1, 1, none⟩ = false ∧
        Hid (((WB.setCell ⟨w.heap.size + 1 + 1, 0, none⟩ (.slice none 0 0)).setCell ⟨w.heap.size + 1 + 1, 1, none⟩ (.bool true)).heap[w.heap.size + 1]? = some (.cells op0.cells.toArray 33 (0, 0))) ∧ Hid (((WB.setCell ⟨w.heap.size + 1 + 1, 0, none⟩ (.slice none 0 0)).setCell ⟨w.heap.size + 1 + 1, 1, none⟩ (.bool true)).heap[w.heap.size + 1 + 1]? = some (.cells #[.slice none 0 0, .bool true] 48 (0, 0))) ∧
        Hid (Below w.heap.size w ((WB.setCell ⟨w.heap.size + 1 + 1, 0, none⟩ (.slice none 0 0)).setCell ⟨w.heap.size + 1 + 1, 1, none⟩ (.bool true))) := by
      intro W hW
      have G := HG.out.below hW
      have h2 := G.l2; have h3 := G.l3; have h4 := G.l4; have h5 := G.l5
      have g1 := setCells_grown (w.heap.size + 1) op0.cells.toArray.toList 0 W
      have rr : (W.setCells (w.heap.size + 1) 0 op0.cells.toArray.toList).heap[w.heap.size + 1]? = some (.cells op0.cells.toArray 33 (0, 0)) := by simpa using row_setAll (cs := op0.cells) (vs := op0.cells) G.r1 rfl
      have ri := (g1.block (w.heap.size + 1 + 1) (by omega) (by simp)).trans G.r2
      have hb := bel_grown G.bel G.bel.size g1 (by omega)
      refine ⟨_, rfl, Lib.hid (there_mid G.r1 0 _ (by simp)), row_cell ri 0, row_cell ri 1, row_free ri 0, row_free ri 1, Lib.hid ?_, Lib.hid (row_set2 ri _ _), Lib.hid (bel_set2 hb hb.size (by omega) _ _)⟩
      have g2 : (W.setCells (w.heap.size + 1) 0 op0.cells.toArray.toList).grownBy _ (some (w.heap.size + 1 + 1)) := grown_trans1 (grown_set (w.heap.size + 1 + 1) 0 (.slice none 0 0)) (grown_set (w.heap.size + 1 + 1) 1 (.bool true))
      exact (g2.block _ (by have := g1.size; omega) (by simp)).trans rr
    cases b
    · have hrow := HG.out.r4
      have HBAD := Lib.hid BAD
      clear BAD
      go_wp2_with ((with_reducible (refine wpList_load_op 33 _ (w6.heap.size + 1 + 1) o hrow Try.underlying33 rfl HSZ.out ?_ rfl ?_ ?_)); (exact rfl); (exact rfl))
      clear hrow z1
      refine (rgood_any o wc (HOIN.out _ HO.out)).mono ?_
      rintro e w20 ⟨rfl, hb20⟩
      cases hgd : goodO o
      · obtain ⟨WB, hWB, HTB, c0, c1, f0, f1, HR1, HR2, HBL⟩ := HBAD.out w20 hb20
        have HWB := Lib.hid hWB
        have HGD := Lib.hid hgd
        clear hWB hb20 hgd
        go_wp2_with ((with_reducible (refine wpList_store_mid rfl _ _ _ rfl ?_ ?_ ?_ ?_ ?_ ?_ ?_ ?_ ?_)); (exact w.heap.size + 1); (exact 0); (exact op0.cells.toArray); (exact rfl); (exact rfl); (exact HTB.out); (exact HSZ0.out); (exact slot_none _ rfl); rw [HWB.out])
        refine bodyPost_ret (results_row_row rfl _ _ _ _ _ _ _ _ _ _ _ _ rfl HR2.out Try.underlying48 rfl info_in rfl HR1.out Try.underlying33 rfl HSZ0.out) rfl ?_
        rw [HF.out, if_neg (by rw [HGD.out]; simp)]
        exact ⟨op0, _, rfl, opIn_plain _ op0 rfl (by decide) rfl rfl, rfl, rfl, HBL.out⟩
      · have HG2 := Lib.hid (HG.out.below hb20)
        have HO2 := Lib.hid (own_below HO.out hb20)
        have HI2 := Lib.hid (HI.out.below hb20)
        have HGD := Lib.hid hgd
        clear hgd hb20
        go_wp2_with fail
        refine wp_region_sched (fun w' => w'.heap[w6.heap.size + 1 + 1]? = some (.cells o.cells.toArray 33 (0, 0)) ∧ w'.heap[w6.heap.size + 1]? = some (.cells #[.slice A n c, .bool false] 48 (0, 0)))
          [(true, 0), (true, 1), (false, 2), (false, 3)] (by kernel_rfl) (by kernel_rfl) rfl (by kernel_rfl) ⟨HG2.out.r4, HG2.out.r3⟩ ?_
        refine wpS_load _ rfl (by rfl) _ _ rfl _ _ rfl o.cells _ (fun w' hS' => range_of_row hS'.1) Try.underlying33 rfl HSL.out ?_
        simp only [Act.put, List.getElem_toArray, List.getElem_cons_zero, List.getElem_cons_succ, List.setIfInBounds_toArray, List.set_cons_zero, List.set_cons_succ]
        refine wpS_load _ rfl (by rfl) _ _ rfl _ _ rfl [.slice A n c, .bool false] _ (fun w' hS' => range_of_row hS'.2) Try.underlying48 rfl info_in ?_
        simp only [Act.put, List.getElem_toArray, List.getElem_cons_zero, List.getElem_cons_succ, List.setIfInBounds_toArray, List.set_cons_zero, List.set_cons_succ]
        have h1 := HG2.out.l1; have h2 := HG2.out.l2; have h3 := HG2.out.l3; have h4 := HG2.out.l4; have h5 := HG2.out.l5
        have hs20d : w20.drew.heap.size = w20.heap.size := rfl
        have g1 := setCells_grown (w.heap.size + 1) o.cells.toArray.toList 0 w20.drew
        have rr : (w20.drew.setCells (w.heap.size + 1) 0 o.cells.toArray.toList).heap[w.heap.size + 1]? = some (.cells o.cells.toArray 33 (0, 0)) := by simpa using row_setAll (cs := op0.cells) (vs := o.cells) (show w20.drew.heap[w.heap.size + 1]? = _ from HG2.out.r1) (by rw [o.cells_len HDL.out]; rfl)
        have ri := (g1.block (w.heap.size + 1 + 1) (by omega) (by simp)).trans HG2.out.r2
        have rc := (g1.block (w6.heap.size + 1) (by omega) (by simp; omega)).trans HG2.out.r3
        have ro := (g1.block (w6.heap.size + 1 + 1) (by omega) (by simp; omega)).trans HG2.out.r4
        have hb := bel_grown HG2.out.bel.drew HG2.out.bel.drew.size g1 (by omega)
        have hi20 : InK w20.drew KB (.agg #[.slice A n c, .bool false]) s := HI2.out
        have hi := hi20.far (by have := HKW.out; omega) g1
        have ho20 : w20.drew.ownsRow NB 23 2 o.ov o.os.length (stc o.os) := HO2.out
        have ho := own_keep (w' := w20.drew.setCells (w.heap.size + 1) 0 o.cells.toArray.toList) ho20 (fun k hk hlt => g1.block k hlt (by have := (ho20.lt k hk).1; simp; omega))
        have hth : w20.drew.there (w.heap.size + 1) 0 o.cells.toArray.size := there_mid (show w20.drew.heap[w.heap.size + 1]? = _ from HG2.out.r1) 0 _ (by rw [size_op op0 rfl, size_op o HDL.out]; decide)
        refine wpS_do _ rfl (by rfl) (fun K hK => ?_)
        refine wp_store_mid _ _ _ rfl (w.heap.size + 1) 0 o.cells.toArray rfl rfl hth HSZ.out HON.out ?_
        change K _ (w20.drew.setCells (w.heap.size + 1) 0 o.cells.toArray.toList)
        have hs20 : w20.drew.heap.size ≤ (w20.drew.setCells (w.heap.size + 1) 0 o.cells.toArray.toList).heap.size := g1.size
        generalize w20.drew.setCells (w.heap.size + 1) 0 o.cells.toArray.toList = W21 at *
        refine hK.out _ _ ⟨ro, rc⟩ (fun hS => ?_)
        clear hK hS hth g1 hi20 ho20
        have RR := Lib.hid rr
        have RI := Lib.hid ri
        have RO := Lib.hid ro
        have RC := Lib.hid rc
        have HB := Lib.hid hb
        have HII := Lib.hid hi
        have HOO := Lib.hid ho
        clear rr ri ro rc hb hi ho
        refine wpS_do _ rfl (by rfl) (fun K hK => ?_)
        simp only [Act.put, List.getElem_toArray, List.getElem_cons_zero, List.getElem_cons_succ, List.setIfInBounds_toArray, List.set_cons_zero, List.set_cons_succ]
        have f0 : W21.frozen? ⟨w.heap.size + 1 + 1, 0, none⟩ = false := row_free RI.out 0
        have f1 : W21.frozen? ⟨w.heap.size + 1 + 1, 1, none⟩ = false := row_free RI.out 1
        have c0 : W21.cell? ⟨w.heap.size + 1 + 1, 0, none⟩ = some (.slice none 0 0) := row_cell RI.out 0
        have c1 : W21.cell? ⟨w.heap.size + 1 + 1, 1, none⟩ = some (.bool false) := row_cell RI.out 1
        go_simp
        clear f0 f1 c0 c1
        have g2 := grown_set2 W21 (w.heap.size + 1 + 1) (.slice A n c) (.bool false)
        have ro := (g2.block (w6.heap.size + 1 + 1) (by omega) (by simp; omega)).trans RO.out
        have rc := (g2.block (w6.heap.size + 1) (by omega) (by simp; omega)).trans RC.out
        refine hK.out _ _ ⟨ro, rc⟩ (fun hS => ?_)
        clear hK hS ro rc
        refine wpS_done ?_
        have HR1 : Hid (((W21.setCell ⟨w.heap.size + 1 + 1, 0, none⟩ (.slice A n c)).setCell ⟨w.heap.size + 1 + 1, 1, none⟩ (.bool false)).heap[w.heap.size + 1]? = some (.cells o.cells.toArray 33 (0, 0))) := Lib.hid ((g2.block _ (by omega) (by simp)).trans RR.out)
        have HR2 := Lib.hid (row_set2 RI.out (.slice A n c) (.bool false))
        have HBL := Lib.hid (bel_set2 HB.out HB.out.size (g := w.heap.size + 1 + 1) (by omega) (.slice A n c) (.bool false))
        have HIF := Lib.hid (HII.out.far (by have := HKW.out; omega) g2)
        have HOF : Hid (((W21.setCell ⟨w.heap.size + 1 + 1, 0, none⟩ (.slice A n c)).setCell ⟨w.heap.size + 1 + 1, 1, none⟩ (.bool false)).ownsRow NB 23 2 o.ov o.os.length (stc o.os)) := Lib.hid (own_keep HOO.out (fun k hk hlt => g2.block k hlt (by have := (HOO.out.lt k hk).1; simp; omega)))
        clear g2 h1 h2 h3 h4 h5
        go_wp2_with fail
        refine bodyPost_ret (results_row_row rfl _ _ _ _ _ _ _ _ _ _ _ _ rfl HR2.out Try.underlying48 rfl info_in rfl HR1.out Try.underlying33 rfl HSZ.out) rfl ?_
        rw [HF.out, if_pos (by rw [HGD.out, HSB.out]; rfl)]
        exact ⟨o, _, rfl, HOIN.out _ HOF.out, InK.v HIF.out, rfl, HBL.out⟩
    · obtain ⟨WB, hWB, HTB, c0, c1, f0, f1, HR1, HR2, HBL⟩ := BAD wc (Below.refl _ _)
      have HWB := Lib.hid hWB
      clear hWB BAD
      go_wp2_with ((with_reducible (refine wpList_store_mid rfl _ _ _ rfl ?_ ?_ ?_ ?_ ?_ ?_ ?_ ?_ ?_)); (exact w.heap.size + 1); (exact 0); (exact op0.cells.toArray); (exact rfl); (exact rfl); (exact HTB.out); (exact HSZ0.out); (exact slot_none _ rfl); rw [HWB.out])
      refine bodyPost_ret (results_row_row rfl _ _ _ _ _ _ _ _ _ _ _ _ rfl HR2.out Try.underlying48 rfl info_in rfl HR1.out Try.underlying33 rfl HSZ0.out) rfl ?_
      rw [HF.out, if_neg (by rw [HSB.out]; simp)]
      exact ⟨op0, _, rfl, opIn_plain _ op0 rfl (by decide) rfl rfl, rfl, rfl, HBL.out⟩
end Go.Proofs.Ytabkgoandfpclaa
