/- The turn of a record, as the document splits it. (Printed by wip/genRg7.py.) -/
import Derived.Test.YtelbofikcpchiaaGreatRg6
import Derived.Test.YtelbofikcpchiaaGreatQS
namespace Go.Proofs.YtelbofikcpchiaaGreat
open Go.RowKit
def PK (K : Nat) (Q : Nat → Prop) (b : Nat) : Prop := b < K ∧ Q b
theorem InV.bel {K : Nat} {Q : Nat → Prop} {w w' : World} {v : Value} {st : St} (h : InV (PK K Q) w v st) (hb : Below K w w') : InV (PK K Q) w' v st := by
 cases st with
 | none => exact h
 | some bs =>
   obtain ⟨A, n, c, h0, h1, h2, h3, h4, h5⟩ := h
   exact ⟨A, n, c, h0, h1, h2, h3, by
    by_cases he : bs = []
    ·rw [he]; exact Rd.nil
    ·exact h4.keep (fun a ha hl => hb.block _ (h5 he a ha).1), h5⟩
theorem in_one {K : Nat → Prop} {w : World} {v : Value} {st : St} (h : InV K w v st) : ∃ x : Value, v = .agg [x, .bool st.isNone].toArray ∧ x.oneCell' = true := by
 cases st with
 | none => exact ⟨_, h, rfl⟩
 | some bs =>
   obtain ⟨A, n, c, rfl, _⟩ := h
   exact ⟨_, rfl, rfl⟩
theorem info_inl {a b : Value} : (Tryz.prog.info? 156).map (·.size) = some ([a, b] : List Value).length := by kernel_rfl
theorem info_ina {a b : Value} : (Tryz.prog.info? 156).map (·.size) = some ([a, b] : List Value).toArray.size := by kernel_rfl
theorem in_built (A : Option Addr) (n c : Nat) : Tryz.prog.built 156 [(0, .slice A n c)] = some #[.slice A n c, .bool false] := by kernel_rfl
theorem rtx_built : Tryz.prog.built 123 [] = some (txC none 0 0 t0).toArray := by kernel_rfl
theorem rup_built {u : UpM} (h : upOk u) : Tryz.prog.built 131 [(0, strV u.name), (1, .agg (b8s u.old).toArray), (2, .agg (b8s u.new).toArray)] = some (upC u).toArray := by
 obtain ⟨nm, old, new⟩ := u
 obtain ⟨a0, a1, a2, a3, a4, a5, a6, a7, a8, a9, b0, b1, b2, b3, b4, b5, b6, b7, b8, b9, c0, c1, c2, c3, c4, c5, c6, c7, c8, c9, d0, d1, rfl⟩ := cells32 h.1
 obtain ⟨e0, e1, e2, e3, e4, e5, e6, e7, e8, e9, f0, f1, f2, f3, f4, f5, f6, f7, f8, f9, g0, g1, g2, g3, g4, g5, g6, g7, g8, g9, h0, h1, rfl⟩ := cells32 h.2.1
 kernel_rfl
theorem rinfo_txl {A : Option Addr} {n c : Nat} {t : TxM} (h : t.at_.length = 32) : (Tryz.prog.info? 123).map (·.size) = some (txC A n c t).length := by
 rw [txC_len h]
 kernel_rfl
theorem rinfo_txa {A : Option Addr} {n c : Nat} {t : TxM} (h : t.at_.length = 32) : (Tryz.prog.info? 123).map (·.size) = some (txC A n c t).toArray.size := by
 rw [List.size_toArray, txC_len h]
 kernel_rfl
theorem in_place {K : Nat} {Q : Nat → Prop} {w : World} {v : Value} {st : St} (h : InV (PK K Q) w v st) (hK : K ≤ w.heap.size) : ∃ (l : List Value) (p : Nat) (Wa W' : World), v = .agg l.toArray ∧ w.heap.size = p ∧ w.alloc (.cells #[.slice none 0 0, .bool false] 156) = Wa ∧ Wa.setCells p 0 l.toArray.toList = W' ∧ Hid (Wa.there p 0 l.toArray.size) ∧
  Hid ((Tryz.prog.info? 156).map (·.size) = some l.toArray.size) ∧ Hid ((Tryz.prog.info? 156).map (·.size) = some l.length) ∧ Hid (l.toArray.all (·.oneCell') = true) ∧ Hid (W'.heap[p]? = some (.cells l.toArray 156 (0, 0))) ∧ Hid (Below w.heap.size w W') ∧ Hid (InV (PK K Q) W' (.agg l.toArray) st) ∧ Hid (∃ x, l = [x, .bool st.isNone]) := by
 obtain ⟨x, rfl, hx⟩ := in_one h
 obtain ⟨Wa, hWa⟩ := eX (w.alloc (.cells #[.slice none 0 0, .bool false] 156))
 obtain ⟨r1, b1, s1⟩ := new_row hWa
 obtain ⟨W', hW', T, R, G⟩ := put_rowR (old := [.slice none 0 0, .bool false]) (new := [x, .bool st.isNone]) r1 rfl
 have hb : Below w.heap.size w W' := bel_grown b1 b1.size G.out (Nat.le_refl _)
 refine ⟨[x, .bool st.isNone], w.heap.size, Wa, W', rfl, rfl, hWa, hW', T, h_ info_ina, h_ info_inl, h_ (all_oneCell_toArray ?_), R, h_ hb, h_ (h.bel (hb.mono hK)), h_ ⟨x, rfl⟩⟩
 intro u hu
 simp only [List.mem_cons, List.not_mem_nil, or_false] at hu
 rcases hu with rfl | rfl
 ·exact hx
 ·rfl
theorem two_place {K : Nat} {Q : Nat → Prop} {w : World} {v : Value} {st : St} (h : InV (PK K Q) w v st) (hK : K ≤ w.heap.size) (ids : List UInt8) (hid : ids.length = 32) : ∃ (l : List Value) (p q : Nat) (Wa Wb Wc Wd : World), v = .agg l.toArray ∧ w.heap.size = p ∧ w.alloc (.cells #[Value.int .u8 0, .int .u8 0, .int .u8 0, .int .u8 0, .int .u8 0, .int .u8 0, .int .u8 0, .int .u8 0, .int .u8 0, .int .u8 0, .int .u8 0, .int .u8 0, .int .u8 0, .int .u8 0, .int .u8 0, .int .u8 0, .int .u8 0, .int .u8 0, .int .u8 0, .int .u8 0, .int .u8 0, .int .u8 0, .int .u8 0, .int .u8 0, .int .u8 0, .int .u8 0, .int .u8 0, .int .u8 0, .int .u8 0, .int .u8 0, .int .u8 0, .int .u8 0] 23) = Wa ∧ Wa.heap.size = q ∧ Wa.alloc (.cells #[.slice none 0 0, .bool false] 156) = Wb ∧
  Wb.setCells p 0 (b8s ids).toArray.toList = Wc ∧ Wc.setCells q 0 l.toArray.toList = Wd ∧ Hid (Wb.there p 0 (b8s ids).toArray.size) ∧ Hid (Wc.there q 0 l.toArray.size) ∧
  Hid ((Tryz.prog.info? 156).map (·.size) = some l.toArray.size) ∧ Hid ((Tryz.prog.info? 156).map (·.size) = some l.length) ∧ Hid (l.toArray.all (·.oneCell') = true) ∧ Hid (Wd.heap[p]? = some (.cells (b8s ids).toArray 23 (0, 0))) ∧ Hid (Wd.heap[q]? = some (.cells l.toArray 156 (0, 0))) ∧ Hid (Below w.heap.size w Wd) ∧ Hid (InV (PK K Q) Wd (.agg l.toArray) st) ∧ Hid (p < Wd.heap.size ∧ q < Wd.heap.size ∧ p < q) := by
 obtain ⟨x, rfl, hx⟩ := in_one h
 obtain ⟨Wa, hWa⟩ := eX (w.alloc (.cells #[Value.int .u8 0, .int .u8 0, .int .u8 0, .int .u8 0, .int .u8 0, .int .u8 0, .int .u8 0, .int .u8 0, .int .u8 0, .int .u8 0, .int .u8 0, .int .u8 0, .int .u8 0, .int .u8 0, .int .u8 0, .int .u8 0, .int .u8 0, .int .u8 0, .int .u8 0, .int .u8 0, .int .u8 0, .int .u8 0, .int .u8 0, .int .u8 0, .int .u8 0, .int .u8 0, .int .u8 0, .int .u8 0, .int .u8 0, .int .u8 0, .int .u8 0, .int .u8 0] 23))
 obtain ⟨r1, b1, s1⟩ := new_row hWa
 rw [← z32_lit] at r1
 obtain ⟨Wb, hWb⟩ := eX (Wa.alloc (.cells #[.slice none 0 0, .bool false] 156))
 obtain ⟨r2, b2, s2⟩ := new_row hWb
 have r1' := (b2.block _ (Array.getElem?_eq_some_iff.1 r1).1).trans r1
 obtain ⟨Wc, hWc, T1, R1, G1⟩ := put_rowR (new := b8s ids) r1' (by rw [b8s_length, b8s_length, hid]; rfl)
 have r2' := (G1.out.block _ (Array.getElem?_eq_some_iff.1 r2).1 (fun e => by have := Option.some.inj e; omega)).trans r2
 obtain ⟨Wd, hWd, T2, R2, G2⟩ := put_rowR (old := [.slice none 0 0, .bool false]) (new := [x, .bool st.isNone]) r2' rfl
 have hbb : Below w.heap.size w Wb := b1.trans (b2.mono b1.size)
 have hbc := bel_grown hbb hbb.size G1.out (Nat.le_refl _)
 have hb : Below w.heap.size w Wd := bel_grown hbc hbc.size G2.out (by omega)
 have hp1 := (G2.out.block _ (b_ R1) (fun e => by have := Option.some.inj e; omega)).trans R1.out
 refine ⟨[x, .bool st.isNone], w.heap.size, Wa.heap.size, Wa, Wb, Wc, Wd, rfl, rfl, hWa, rfl, hWb, hWc, hWd, T1, T2, h_ info_ina, h_ info_inl, h_ (all_oneCell_toArray ?_), h_ hp1, R2, h_ hb, h_ (h.bel (hb.mono hK)), h_ ⟨(Array.getElem?_eq_some_iff.1 hp1).1, (b_ R2), by omega⟩⟩
 intro u hu
 simp only [List.mem_cons, List.not_mem_nil, or_false] at hu
 rcases hu with rfl | rfl
 ·exact hx
 ·rfl
theorem getUps_snoc (i : Nat) : ∀ st, getUps (i + 1) st = ((getUps i st).1 ++ [(getUp (getUps i st).2).1], (getUp (getUps i st).2).2) := by
 induction i with
 | zero => intro st; rfl
 | succ i ih =>
   intro st
   have h1 : getUps (i + 1 + 1) st = ((getUp st).1 :: (getUps (i + 1) (getUp st).2).1, (getUps (i + 1) (getUp st).2).2) := rfl
   rw [h1, ih]
   rfl
theorem getUps_none : ∀ (k : Nat), (getUps k none).2 = none
 | 0 => rfl
 | k + 1 => by
   have h1 : (getUps (k + 1) none).2 = (getUps k (getUp none).2).2 := rfl
   rw [h1]
   exact getUps_none k
theorem getUps_add (i : Nat) : ∀ (j : Nat) st, (getUps (i + j) st).2 = (getUps j (getUps i st).2).2 := by
 induction i with
 | zero => intro j st; rw [Nat.zero_add]; rfl
 | succ i ih =>
   intro j st
   have h1 : getUps (i + 1 + j) st = getUps ((i + j) + 1) st := by congr 1; omega
   have h2 : (getUps ((i + j) + 1) st).2 = (getUps (i + j) (getUp st).2).2 := rfl
   rw [h1, h2, ih]
   rfl
theorem parse_none {p : List UInt8} {i k : Nat} {st0 : St} (hk : (getNum (some p) 64) = (k, st0)) (hi : i ≤ k) (hn : (getUps i st0).2 = none) : (parseT p).2 = false := by
 have e : (getUps k st0).2 = none := by
  have h1 := getUps_add i (k - i) st0
  rw [show i + (k - i) = k by omega, hn, getUps_none] at h1
  exact h1
 unfold parseT
 simp only [hk, e]
 rfl
structure SpS (Q : Nat → Prop) (K p2 p8 p11 p12 : Nat) (w : World) (lz ls : List Value) (st : St) (us : List UpM) (Ai : Option Addr) (i ci : Nat) (wr : World) : Prop where
 x : ∃ l : List Value, (∃ x, l = [x, .bool st.isNone] ∧ x.oneCell' = true) ∧ wr.heap[p11]? = some (.cells l.toArray 156 (0, 0)) ∧ InV (PK K Q) wr (.agg l.toArray) st
 row : wr.heap[p12]? = some (.cells (txC Ai i ci ⟨us, [], Z32⟩).toArray 123 (0, 0))
 res : wr.heap[p2]? = some (.cells lz.toArray 123 (0, 0))
 s8 : wr.heap[p8]? = some (.cells ls.toArray 156 (0, 0))
 own : wr.ownsRow (p12 + 1) 131 65 (.slice Ai i ci) i (upsC us)
 bel : Below K w wr
 sz : p12 + 1 ≤ wr.heap.size
 lay : K ≤ p2 ∧ p2 < p8 ∧ p8 < p11 ∧ p11 < p12
set_option linter.unusedSectionVars false
section
variable {Q : Nat → Prop} {K p2 p8 p11 p12 : Nat} {w wr w' : World} {lz ls : List Value} {st st' : St} {us : List UpM} {Ai : Option Addr} {i ci : Nat}
theorem SpS.below (h : SpS Q K p2 p8 p11 p12 w lz ls st us Ai i ci wr) (hb : Below wr.heap.size wr w') : SpS Q K p2 p8 p11 p12 w lz ls st us Ai i ci w' := by
 obtain ⟨l, h1, h2, h3⟩ := h.x
 exact ⟨⟨l, h1, (hb.block _ (Array.getElem?_eq_some_iff.1 h2).1).trans h2, h3.below hb⟩, (hb.block _ (Array.getElem?_eq_some_iff.1 h.row).1).trans h.row, (hb.block _ (Array.getElem?_eq_some_iff.1 h.res).1).trans h.res, (hb.block _ (Array.getElem?_eq_some_iff.1 h.s8).1).trans h.s8, own_below h.own hb, h.bel.trans (hb.mono (by have := h.lay; have := h.sz; omega)), Nat.le_trans h.sz hb.size, h.lay⟩
theorem SpS.K_le (h : SpS Q K p2 p8 p11 p12 w lz ls st us Ai i ci wr) : K ≤ wr.heap.size := by have := h.lay; have := h.sz; omega
theorem SpS.putX {l' : List Value} (h : SpS Q K p2 p8 p11 p12 w lz ls st us Ai i ci wr) (hg : wr.grownBy w' (some p11)) (hl : ∃ x, l' = [x, .bool st'.isNone] ∧ x.oneCell' = true) (hr : w'.heap[p11]? = some (.cells l'.toArray 156 (0, 0))) (hv : InV (PK K Q) wr (.agg l'.toArray) st') : SpS Q K p2 p8 p11 p12 w lz ls st' us Ai i ci w' := by
 obtain ⟨l1, l2, l3, l4⟩ := h.lay
 have hbk : Below K wr w' := ⟨hg.os, hg.tape, hg.output, hg.size, fun b hb => hg.block b (by have := h.sz; omega) (fun e => by have := Option.some.inj e; omega)⟩
 refine ⟨⟨l', hl, hr, hv.bel hbk⟩, (hg.block _ (Array.getElem?_eq_some_iff.1 h.row).1 (fun e => by have := Option.some.inj e; omega)).trans h.row, (hg.block _ (Array.getElem?_eq_some_iff.1 h.res).1 (fun e => by have := Option.some.inj e; omega)).trans h.res, (hg.block _ (Array.getElem?_eq_some_iff.1 h.s8).1 (fun e => by have := Option.some.inj e; omega)).trans h.s8, own_far h.own (by omega) hg, h.bel.trans hbk, Nat.le_trans h.sz hg.size, h.lay⟩
theorem SpS.app {u : UpM} {A8 : Option Addr} {c8 : Nat} {w8 : World} (h : SpS Q K p2 p8 p11 p12 w lz ls st us Ai i ci wr) (hg : wr.grownBy w8 (Value.slice Ai i ci).ownBlock) (ho : w8.ownsRow (p12 + 1) 131 65 (.slice A8 (i + 1) c8) (i + 1) (upsC us ++ upC u)) :
  SpS Q K p2 p8 p11 p12 w lz ls st (us ++ [u]) A8 (i + 1) c8 (w8.setCell ⟨p12, 0, none⟩ (.slice A8 (i + 1) c8)) := by
 obtain ⟨l1, l2, l3, l4⟩ := h.lay
 obtain ⟨l, x1, x2, x3⟩ := h.x
 have hne : ∀ b, (Value.slice Ai i ci).ownBlock = some b → p12 + 1 ≤ b := fun b hb => (h.own.lt b hb).1
 have hr8 : w8.heap[p12]? = _ := (hg.block _ (Array.getElem?_eq_some_iff.1 h.row).1 (fun e => by have := hne _ e.symm; omega)).trans h.row
 have hp2 : w8.heap[p2]? = _ := (hg.block _ (Array.getElem?_eq_some_iff.1 h.res).1 (fun e => by have := hne _ e.symm; omega)).trans h.res
 have hp8 : w8.heap[p8]? = _ := (hg.block _ (Array.getElem?_eq_some_iff.1 h.s8).1 (fun e => by have := hne _ e.symm; omega)).trans h.s8
 have hp11 : w8.heap[p11]? = _ := (hg.block _ (Array.getElem?_eq_some_iff.1 x2).1 (fun e => by have := hne _ e.symm; omega)).trans x2
 have hs := grown_set (w := w8) p12 0 (.slice A8 (i + 1) c8)
 have hb8 : Below K wr w8 := ⟨hg.os, hg.tape, hg.output, hg.size, fun b hb => hg.block b (by have := h.sz; omega) (fun e => by have := hne _ e.symm; omega)⟩
 have hbs : Below K w8 (w8.setCell ⟨p12, 0, none⟩ (.slice A8 (i + 1) c8)) := ⟨hs.os, hs.tape, hs.output, hs.size, fun b hb => hs.block b (by have := h.sz; have := hg.size; omega) (fun e => by have := Option.some.inj e; omega)⟩
 refine ⟨⟨l, x1, (hs.block _ (Array.getElem?_eq_some_iff.1 hp11).1 (fun e => by have := Option.some.inj e; omega)).trans hp11, (x3.bel hb8).bel hbs⟩, row_set hr8 0 (.slice A8 (i + 1) c8), (hs.block _ (Array.getElem?_eq_some_iff.1 hp2).1 (fun e => by have := Option.some.inj e; omega)).trans hp2, (hs.block _ (Array.getElem?_eq_some_iff.1 hp8).1 (fun e => by have := Option.some.inj e; omega)).trans hp8, ?_, (h.bel.trans hb8).trans hbs, Nat.le_trans (Nat.le_trans h.sz hg.size) hs.size, h.lay⟩
 rw [upsC_app, show upsC [u] = upC u by simp [upsC]]
 exact own_far ho (by omega) hs
end
set_option maxRecDepth 1000000 in
set_option maxHeartbeats 16000000 in
theorem rsplitD_any {Q : Nat → Prop} (A : Option Addr) (n c : Nat) (bs : List UInt8) (hn : n = bs.length) (hnc : n ≤ c) (hcm : c ≤ 9223372036854775807) (w : World) (hr : Rd w A (b8s bs)) (hQ : bs ≠ [] → ∀ a, A = some a → Q a.block) (hm : bs.length ≤ 1000000) :
  Calls Tryz.prog 55 #[.slice A n c] w fun e w' => ∃ T At ct A2 n2 c2, e = .returned (.tuple #[.agg (txC At T.us.length ct T).toArray, .slice A2 n2 c2, .bool (splitP bs).2.2]) ∧ TxOk T ∧ Rd w' At (upsC T.us) ∧ Below w.heap.size w w' ∧
   ((splitP bs).2.2 = true → T = (splitP bs).1 ∧ n2 = n - (splitP bs).2.1 ∧ Rd w' A2 (b8s (bs.drop (splitP bs).2.1)) ∧ n2 ≤ c2 ∧ c2 ≤ 9223372036854775807 ∧ (bs.drop (splitP bs).2.1 ≠ [] → ∀ a, A2 = some a → Q a.block)) := by
 obtain ⟨K, hK⟩ := eX w.heap.size
 have hA : bs ≠ [] → ∀ a, A = some a → PK K Q a.block := fun he a ha => by
  refine ⟨?_, hQ he a ha⟩
  rw [ha] at hr
  obtain ⟨b, o, e, _⟩ := hr.byte 0 (List.length_pos_iff.2 he)
  cases e
  have h1 := hr.lt (by rw [b8s_length]; exact List.length_pos_iff.2 he)
  rw [← hK]
  exact h1
 obtain ⟨lz, hlz⟩ := eX (txC none 0 0 t0)
 have hlz' : lz.toArray = #[Value.slice none 0 0, .string ⟨#[]⟩, Value.int .u8 0, .int .u8 0, .int .u8 0, .int .u8 0, .int .u8 0, .int .u8 0, .int .u8 0, .int .u8 0, .int .u8 0, .int .u8 0, .int .u8 0, .int .u8 0, .int .u8 0, .int .u8 0, .int .u8 0, .int .u8 0, .int .u8 0, .int .u8 0, .int .u8 0, .int .u8 0, .int .u8 0, .int .u8 0, .int .u8 0, .int .u8 0, .int .u8 0, .int .u8 0, .int .u8 0, .int .u8 0, .int .u8 0, .int .u8 0, .int .u8 0, .int .u8 0] := by rw [← hlz]; rfl
 obtain ⟨W1, hW1⟩ := eX (w.alloc (.cells #[Value.slice none 0 0, .string ⟨#[]⟩, Value.int .u8 0, .int .u8 0, .int .u8 0, .int .u8 0, .int .u8 0, .int .u8 0, .int .u8 0, .int .u8 0, .int .u8 0, .int .u8 0, .int .u8 0, .int .u8 0, .int .u8 0, .int .u8 0, .int .u8 0, .int .u8 0, .int .u8 0, .int .u8 0, .int .u8 0, .int .u8 0, .int .u8 0, .int .u8 0, .int .u8 0, .int .u8 0, .int .u8 0, .int .u8 0, .int .u8 0, .int .u8 0, .int .u8 0, .int .u8 0, .int .u8 0, .int .u8 0] 123))
 obtain ⟨r1, b1, s1⟩ := new_row hW1
 rw [hK, ← hlz'] at r1
 rw [hK] at b1
 have HIN : Hid (InV (PK K Q) W1 (.agg #[.slice A n c, .bool false]) (some bs)) := h_ ⟨A, n, c, rfl, hn, hnc, hcm, hr.below (by rw [hK]; exact b1), hA⟩
 have HB1 := h_ b1
 have HR1 := h_ r1
 have HLZ := h_ hlz'
 have HLZ0 := h_ hlz
 have HS1 : Hid (W1.heap.size = K + 1) := h_ (by rw [s1, hK])
 have HNL := h_ hn
 have HBI := h_ (in_built A n c)
 have HTB : Hid (Tryz.prog.built 123 [] = some lz.toArray) := h_ (by rw [← hlz]; exact rtx_built)
 have HIAZ : Hid ((Tryz.prog.info? 123).map (·.size) = some lz.toArray.size) := h_ (by rw [← hlz]; exact rinfo_txa rfl)
 have HOCZ : Hid (lz.toArray.all (·.oneCell') = true) := h_ (all_oneCell_toArray (by rw [← hlz]; exact txC_one _ _ _ _))
 have HLZL : Hid (lz.length = 34) := h_ (by rw [← hlz]; exact txC_len rfl)
 obtain ⟨SP, hSP⟩ := eX (splitP bs)
 have HSP := h_ hSP
 have HUN : Hid (splitP bs = match (getFour (getNum (some bs) 1048576).2).2 with
  | none => (⟨[], [], Z32⟩, 0, false)
  | some rest => if rest.length < (getNum (some bs) 1048576).1 then (⟨[], [], Z32⟩, 0, false)
    else ((parseT (rest.take (getNum (some bs) 1048576).1)).1, bs.length - rest.length + (getNum (some bs) 1048576).1, (parseT (rest.take (getNum (some bs) 1048576).1)).2 && decide ((crc (rest.take (getNum (some bs) 1048576).1)).toNat = (getFour (getNum (some bs) 1048576).2).1))) := h_ rfl
 have HT0 : Hid (Hid (TxOk t0)) := h_ (h_ ⟨rfl, by simp [t0], by simp [t0], by simp [t0]⟩)
 have hnm : n ≤ 1000000 := by omega
 rw [hSP]
 clear hn hr hQ r1 b1 s1 hlz hlz' hSP hA
 go_enter Tryz.func55, Tryz.ntmps55
 go_wp2_with (first
  | ((with_reducible (refine wpList_built ?_ _ #[(0, .tmp 25)] ?_ _ ?_ _ HBI.out ?_)); exact rfl; exact rfl; (exact rfl)))
 refine (igetnum_any (K := PK K Q) (some bs) (.agg #[.slice A n c, .bool false]) 1048576 W1 HIN.out).mono ?_
 rintro e w2 ⟨u6, rfl, hu6, hb2⟩
 have hs2 := hb2.size
 obtain ⟨l6, p6, Wa6, W6, rfl, h6, hWa6, hW6, T6, I6a, I6l, O6, R6, B6, V6, _⟩ := in_place hu6 (by have := HS1.out; omega)
 have HW6 := h_ hW6
 have HB6 : Hid (Below W1.heap.size W1 W6) := h_ (hb2.trans (B6.out.mono hs2))
 have HRG6 := h_ (range_of_row R6.out)
 obtain ⟨n0, hn0⟩ := eX ((getNum (some bs) 1048576).1)
 obtain ⟨sa, hsa⟩ := eX ((getNum (some bs) 1048576).2)
 have hn0m : n0 ≤ 1048576 := by have h9 := getNum_most (some bs) 1048576 (by decide); omega
 have HN0 := h_ hn0
 have HSA := h_ hsa
 rw [hn0]
 rw [hsa] at V6
 rw [hn0, hsa] at HUN
 clear hu6 hb2 hs2 hW6 hn0 hsa B6
 go_wp2_with (first
  | ((with_reducible (refine wpList_store_mid rfl _ _ _ rfl ?_ ?_ ?_ ?_ ?_ ?_ ?_ ?_ ?_)); exact p6; exact 0; (exact (l6).toArray); exact rfl; exact rfl; exact T6.out; exact I6a.out; exact O6.out; rw [HW6.out])
  | ((with_reducible (refine wpList_load_cells 156 _ p6 0 (l6) HRG6.out Tryz.underlying156 rfl I6l.out ?_ rfl ?_ ?_)); exact rfl; (exact rfl)))
 clear h6 hWa6 hW1
 refine (igetfour_any (K := PK K Q) sa (.agg l6.toArray) W6 V6.out).mono ?_
 rintro e w7 ⟨u8, rfl, hu8, hb7⟩
 have hk7 : K ≤ w7.heap.size := by have := HS1.out; have := HB6.out.size; have := hb7.size; omega
 obtain ⟨l8, p8, Wa8, W8, rfl, h8, hWa8, hW8, T8, I8a, I8l, O8, R8, B8, V8, HX8⟩ := in_place hu8 hk7
 have HW8 := h_ hW8
 have HB8 : Hid (Below W1.heap.size W1 W8) := h_ (HB6.out.trans ((hb7.trans (B8.out.mono hb7.size)).mono HB6.out.size))
 have HP8 : Hid (K < p8 ∧ p8 + 1 ≤ W8.heap.size) := h_ ⟨by have := HS1.out; have := HB6.out.size; have := hb7.size; omega, (b_ R8)⟩
 obtain ⟨sm, hsm⟩ := eX ((getFour sa).1)
 obtain ⟨s8, hs8⟩ := eX ((getFour sa).2)
 have HS8 := h_ hs8
 rw [hsm]
 rw [hs8] at V8 HX8
 rw [hsm, hs8] at HUN
 have HR28 : Hid (W8.heap[K]? = some (.cells lz.toArray 123 (0, 0))) := h_ ((HB8.out.block _ (by have := HS1.out; omega)).trans HR1.out)
 have HBK8 : Hid (Below K w W8) := h_ (HB1.out.trans (HB8.out.mono (by have := HS1.out; omega)))
 obtain ⟨x8, hx8⟩ := HX8.out
 have c80 : W8.cell? ⟨p8, 0, none⟩ = some x8 := by rw [row_cell R8.out 0, hx8]; rfl
 have c81 : W8.cell? ⟨p8, 1, none⟩ = some (.bool s8.isNone) := by rw [row_cell R8.out 1, hx8]; rfl
 clear hu8 hb7 hk7 hW8 hsm hs8
 cases s8 with
 | none =>
   have c81' : W8.cell? ⟨p8, 1, none⟩ = some (.bool true) := c81
   clear c81
   obtain ⟨W9, hW9, T9, R9, G9⟩ := put_rowR (new := lz) HR28.out rfl
   have HW9 := h_ hW9
   have HB9 : Hid (Below K w W9) := h_ (bel_grown HBK8.out (by have := HBK8.out.size; omega) G9.out (Nat.le_refl _))
   have HSPF : Hid (SP.2.2 = false) := h_ (by rw [← HSP.out, HUN.out])
   clear hW9 G9 hx8
   go_wp2_with (first
    | ((with_reducible (refine wpList_store_mid rfl _ _ _ rfl ?_ ?_ ?_ ?_ ?_ ?_ ?_ ?_ ?_)); exact p8; exact 0; (exact (l8).toArray); exact rfl; exact rfl; exact T8.out; exact I8a.out; exact O8.out; rw [HW8.out])
    | ((with_reducible (refine wpList_built ?_ _ #[] ?_ _ ?_ _ HTB.out ?_)); exact rfl; exact rfl; (exact rfl))
    | ((with_reducible (refine wpList_store_mid rfl _ _ _ rfl ?_ ?_ ?_ ?_ ?_ ?_ ?_ ?_ ?_)); exact K; exact 0; (exact (lz).toArray); exact rfl; exact rfl; exact T9.out; exact HIAZ.out; exact HOCZ.out; rw [HW9.out]))
   refine bodyPost_ret (results_row_two rfl _ _ _ _ _ _ _ rfl R9.out Tryz.underlying123 rfl HIAZ.out) rfl ?_
   rw [HSPF.out]
   exact ⟨t0, none, 0, none, 0, 0, by rw [← HLZ0.out]; rfl, HT0.out.out, Rd.nil, by first | exact HB9.out | (rw [hK]; exact HB9.out), fun h => by cases h⟩
 | some rest =>
   obtain ⟨A8, n8, c8, e8, hn8, hnc8, hcm8, hr8, hA8⟩ := V8.out
   have c81' : W8.cell? ⟨p8, 1, none⟩ = some (.bool false) := c81
   have e8' : x8 = .slice A8 n8 c8 := by rw [hx8] at e8; simpa using e8
   rw [e8'] at c80
   obtain ⟨hrs, hrl⟩ := left_suff (bs := bs) (rest := rest) (by rw [HSA.out]; exact HS8.out)
   have HRS := h_ hrs
   have HN8 := h_ hn8
   have HR8 := h_ hr8
   have HA8 := h_ hA8
   have hn8n : n8 ≤ n := by have := HNL.out; omega
   have HC80 : Hid (l8.toArray[0]? = some (.slice A8 n8 c8)) := h_ (by rw [hx8, e8']; rfl)
   clear c81 e8 e8' hx8 hrs hrl hn8 hr8 hA8
   by_cases hsh : n8 < n0
   ·have z1 : (n8 : Int) < (n0 : Int) := by omega
    obtain ⟨W9, hW9, T9, R9, G9⟩ := put_rowR (new := lz) HR28.out rfl
    have HW9 := h_ hW9
    have HB9 : Hid (Below K w W9) := h_ (bel_grown HBK8.out (by have := HBK8.out.size; omega) G9.out (Nat.le_refl _))
    have HSPF : Hid (SP.2.2 = false) := h_ (by rw [← HSP.out, HUN.out]; dsimp only; rw [if_pos (by rw [← HN8.out]; exact hsh)])
    clear hW9 G9
    go_wp2_with (first
     | ((with_reducible (refine wpList_store_mid rfl _ _ _ rfl ?_ ?_ ?_ ?_ ?_ ?_ ?_ ?_ ?_)); exact p8; exact 0; (exact (l8).toArray); exact rfl; exact rfl; exact T8.out; exact I8a.out; exact O8.out; rw [HW8.out])
     | ((with_reducible (refine wpList_built ?_ _ #[] ?_ _ ?_ _ HTB.out ?_)); exact rfl; exact rfl; (exact rfl))
     | ((with_reducible (refine wpList_store_mid rfl _ _ _ rfl ?_ ?_ ?_ ?_ ?_ ?_ ?_ ?_ ?_)); exact K; exact 0; (exact (lz).toArray); exact rfl; exact rfl; exact T9.out; exact HIAZ.out; exact HOCZ.out; rw [HW9.out]))
    refine bodyPost_ret (results_row_two rfl _ _ _ _ _ _ _ rfl R9.out Tryz.underlying123 rfl HIAZ.out) rfl ?_
    rw [HSPF.out]
    exact ⟨t0, none, 0, none, 0, 0, by rw [← HLZ0.out]; rfl, HT0.out.out, Rd.nil, by first | exact HB9.out | (rw [hK]; exact HB9.out), fun h => by cases h⟩
   ·have z1 : ¬ (n8 : Int) < (n0 : Int) := by omega
    have z2 : (n0 : Int) ≤ (n8 : Int) := by omega
    have z3 : n0 ≤ n8 := by omega
    have z4 : n0 ≤ c8 := by omega
    have z5 : (n0 : Int) ≤ (c8 : Int) := by omega
    obtain ⟨P, hP⟩ := eX (rest.take n0)
    have HP := h_ hP
    have HPL : Hid (P.length = n0) := h_ (by rw [← hP, List.length_take, ← HN8.out]; omega)
    have HRP : Hid (Rd W8 A8 (b8s P)) := h_ (by rw [← hP]; exact rd_take_b8 HR8.out n0)
    have HSPE : Hid (SP = ((parseT P).1, bs.length - rest.length + n0, (parseT P).2 && decide ((crc P).toNat = sm))) := h_ (by
     rw [← HSP.out, HUN.out]
     dsimp only
     rw [if_neg (by rw [← HN8.out]; exact hsh), hP])
    have HRK : Hid (∀ W, Below K w W → Rd W A8 (b8s rest) ∧ Rd W A8 (b8s P)) := h_ (fun W hb => by
     have h1 : Rd W A8 (b8s rest) := by
      by_cases he : rest = []
      ·rw [he]; exact Rd.nil
      ·exact HR8.out.keep (fun a ha hl => (hb.block _ (HA8.out he a ha).1).trans (HBK8.out.block _ (HA8.out he a ha).1).symm)
     exact ⟨h1, by rw [← HP.out]; exact rd_take_b8 h1 n0⟩)
    have HBI2 := h_ (in_built A8 n0 c8)
    have HIN2 : Hid (InV (PK K Q) W8 (.agg #[.slice A8 n0 c8, .bool false]) (some P)) := h_ ⟨A8, n0, c8, rfl, HPL.out.symm, z4, hcm8, HRP.out, fun he => HA8.out (fun e => he (by rw [← HP.out, e, List.take_nil]))⟩
    clear hP hsh
    go_wp2_with (first
     | ((with_reducible (refine wpList_store_mid rfl _ _ _ rfl ?_ ?_ ?_ ?_ ?_ ?_ ?_ ?_ ?_)); exact p8; exact 0; (exact (l8).toArray); exact rfl; exact rfl; exact T8.out; exact I8a.out; exact O8.out; rw [HW8.out])
     | ((with_reducible (refine wpList_built ?_ _ #[(0, .tmp 50)] ?_ _ ?_ _ HBI2.out ?_)); exact rfl; exact rfl; (exact rfl)))
    refine (igetnum_any (K := PK K Q) (some P) (.agg #[.slice A8 n0 c8, .bool false]) 64 W8 HIN2.out).mono ?_
    rintro e w10 ⟨u11, rfl, hu11, hb10⟩
    have hk10 : K ≤ w10.heap.size := by have := HP8.out; have := hb10.size; omega
    obtain ⟨l11, p11, Wa11, W11, rfl, h11, hWa11, hW11, T11, I11a, I11l, O11, R11, B11, V11, HX11⟩ := in_place hu11 hk10
    have HW11 := h_ hW11
    obtain ⟨k, hk⟩ := eX ((getNum (some P) 64).1)
    obtain ⟨st0, hst0⟩ := eX ((getNum (some P) 64).2)
    have hk64 : k ≤ 64 := by have h9 := getNum_most (some P) 64 (by decide); omega
    have HKE : Hid (getNum (some P) 64 = (k, st0)) := h_ (Prod.ext hk hst0)
    rw [hst0] at V11 HX11
    rw [hk]
    have hb11 : Below W8.heap.size W8 W11 := hb10.trans (B11.out.mono hb10.size)
    obtain ⟨p12, hp12⟩ := eX W11.heap.size
    obtain ⟨Wa12, hWa12⟩ := eX (W11.alloc (.cells #[Value.slice none 0 0, .string ⟨#[]⟩, Value.int .u8 0, .int .u8 0, .int .u8 0, .int .u8 0, .int .u8 0, .int .u8 0, .int .u8 0, .int .u8 0, .int .u8 0, .int .u8 0, .int .u8 0, .int .u8 0, .int .u8 0, .int .u8 0, .int .u8 0, .int .u8 0, .int .u8 0, .int .u8 0, .int .u8 0, .int .u8 0, .int .u8 0, .int .u8 0, .int .u8 0, .int .u8 0, .int .u8 0, .int .u8 0, .int .u8 0, .int .u8 0, .int .u8 0, .int .u8 0, .int .u8 0, .int .u8 0] 123))
    obtain ⟨r12, b12, s12⟩ := new_row hWa12
    rw [hp12, ← HLZ.out] at r12
    obtain ⟨W12, hW12, T12, R12, G12⟩ := put_rowR (new := lz) r12 rfl
    have hb12 : Below W11.heap.size W11 W12 := bel_grown b12 b12.size G12.out (by omega)
    have hb812 : Below W8.heap.size W8 W12 := hb11.trans (hb12.mono hb11.size)
    have HW12 := h_ hW12
    have HT12 := h_ T12.out
    have HSPS : Hid (SpS Q K K p8 p11 p12 w lz l8 st0 [] none 0 0 W12) := h_ (by
     obtain ⟨x11, hx11⟩ := HX11.out
     have hp11 := (hb12.block _ (b_ R11)).trans R11.out
     have hl11 := (b_ R11)
     obtain ⟨y, hy, hy1⟩ := in_one V11.out
     have e11 : l11 = [y, .bool st0.isNone] := by simpa using hy
     refine ⟨⟨l11, ⟨y, e11, hy1⟩, hp11, V11.out.below hb12⟩, ?_, (hb812.block _ (b_ HR28)).trans HR28.out, (hb812.block _ (b_ R8)).trans R8.out, World.ownsRow_nil _ _ _ _, HBK8.out.trans (hb812.mono (by have := HP8.out; omega)), (b_ R12), Nat.le_refl _, HP8.out.1, ?_, by omega⟩
     ·have h1 := R12.out
      rw [← HLZ0.out] at h1
      exact h1
     ·have := HP8.out.2
      have := hb10.size
      omega)
    have HCR8 : Hid (Rd W12 A8 (b8s rest) ∧ Rd W12 A8 (b8s P)) := h_ ⟨HR8.out.below hb812, HRP.out.below hb812⟩
    clear hu11 hb10 hk10 hW11 hk hst0 hb11 r12 b12 s12 hW12 T12 R12 G12 hb12 hb812 c80 c81'
    go_wp2_with (first
     | ((with_reducible (refine wpList_store_mid rfl _ _ _ rfl ?_ ?_ ?_ ?_ ?_ ?_ ?_ ?_ ?_)); exact p11; exact 0; (exact (l11).toArray); exact rfl; exact rfl; exact T11.out; exact I11a.out; exact O11.out; rw [HW11.out])
     | ((with_reducible (refine wpList_built ?_ _ #[] ?_ _ ?_ _ HTB.out ?_)); exact rfl; exact rfl; (exact rfl))
     | ((with_reducible (refine wpList_store_mid rfl _ _ _ rfl ?_ ?_ ?_ ?_ ?_ ?_ ?_ ?_ ?_)); exact p12; exact 0; (exact (lz).toArray); exact rfl; exact rfl; exact HT12.out; exact HIAZ.out; exact HOCZ.out; rw [HW12.out]))
    clear h8 hWa8 h11 hWa11 hp12 hWa12
    go_loopg [13] (k * 1) (fun gk_ iv wr => ∃ (i : Nat) (Ai : Option Addr) (ci : Nat), i ≤ k ∧ gk_ = k - i ∧ iv = .int .i64 (i : Int) ∧ Hid (SpS Q K K p8 p11 p12 w lz l8 (getUps i st0).2 (getUps i st0).1 Ai i ci wr))
    case atStart => exact ⟨0, none, 0, by omega, by omega, rfl, HSPS⟩
    case round =>
    clear HSPS
    obtain ⟨i, Ai, ci, hi, rfl, rfl, HS⟩ := hrel
    obtain ⟨st, hst⟩ := eX ((getUps i st0).2)
    obtain ⟨us, hus⟩ := eX ((getUps i st0).1)
    have HST := h_ hst
    have HUS := h_ hus
    rw [hst, hus] at HS
    clear hst hus
    obtain ⟨l, ⟨x0, hx0, hx1⟩, hrow11, hv11⟩ := HS.out.x
    have HRX := h_ hrow11
    have HVX := h_ hv11
    have HRGX := h_ (range_of_row hrow11)
    have HIXL : Hid ((Tryz.prog.info? 156).map (·.size) = some l.length) := h_ (by rw [hx0]; exact info_inl)
    have cx1 : wr.cell? ⟨p11, 1, none⟩ = some (.bool st.isNone) := by rw [row_cell hrow11 1, hx0]; rfl
    have HLX : Hid (l.length = 2) := h_ (by rw [hx0]; rfl)
    clear hx0 hx1 hrow11 hv11
    by_cases hlt : i < k
    ·have j1 : (i : Int) < (k : Int) := by omega
     cases st with
     | none =>
       have cx1' : wr.cell? ⟨p11, 1, none⟩ = some (.bool true) := cx1
       have HPF : Hid ((parseT P).2 = false) := h_ (parse_none HKE.out hi HST.out)
       have HPN : Hid (∀ T, doneS (getId (getText none 1048576).2).2 = true → T = (parseT P).1) := h_ (fun T h => by cases h)
       have HPD : Hid (doneS (getId (getText none 1048576).2).2 = (parseT P).2) := h_ (by rw [HPF.out]; rfl)
       clear cx1 hlt
       have HTS : Hid (doneS (getId (getText none 1048576).2).2 = true → (⟨us, (getText none 1048576).1, (getId (getText none 1048576).2).1⟩ : TxM) = (parseT P).1) := h_ (fun h => HPN.out _ h)
       go_wp2_with ((with_reducible (refine wpList_load_cells 156 _ p11 0 (l) HRGX.out Tryz.underlying156 rfl HIXL.out ?_ rfl ?_ ?_)); exact rfl; (exact rfl))
       refine (igettext_any (K := PK K Q) none (.agg l.toArray) 1048576 wr HVX.out).mono ?_
       rintro e w13 ⟨u15, rfl, hu15, hb13⟩
       have hS13 := HS.out.below hb13
       obtain ⟨l15, p15, Wa15, W15, rfl, h15, hWa15, hW15, T15, I15a, I15l, O15, R15, B15, V15, _⟩ := in_place hu15 hS13.K_le
       have HW15 := h_ hW15
       have HS15 := h_ (hS13.below B15.out)
       have HRG15 := h_ (range_of_row R15.out)
       obtain ⟨nm, hnm_⟩ := eX ((getText none 1048576).1)
       obtain ⟨sb, hsb⟩ := eX ((getText none 1048576).2)
       have hnml : nm.length ≤ 1048576 := by rw [← hnm_]; exact getText_le _
       rw [hnm_, hsb] at HTS
       rw [hsb] at V15 HPD
       rw [hnm_]
       clear hu15 hb13 hS13 hW15 hnm_ hsb B15
       try clear cx1
       try clear cx1'
       go_wp2_with (first
        | ((with_reducible (refine wpList_store_mid rfl _ _ _ rfl ?_ ?_ ?_ ?_ ?_ ?_ ?_ ?_ ?_)); exact p15; exact 0; (exact (l15).toArray); exact rfl; exact rfl; exact T15.out; exact I15a.out; exact O15.out; rw [HW15.out])
        | ((with_reducible (refine wpList_load_cells 156 _ p15 0 (l15) HRG15.out Tryz.underlying156 rfl I15l.out ?_ rfl ?_ ?_)); exact rfl; (exact rfl)))
       clear h15 hWa15
       refine (igetid_any (K := PK K Q) sb (.agg l15.toArray) W15 V15.out).mono ?_
       rintro e w16 ⟨u17, rfl, hu17, hb16⟩
       have hS16 := HS15.out.below hb16
       obtain ⟨ia, hia⟩ := eX ((getId sb).1)
       obtain ⟨sc, hsc⟩ := eX ((getId sb).2)
       have HIAL : Hid (ia.length = 32) := h_ (by rw [← hia]; exact getId_len _)
       rw [hia, hsc] at HTS
       rw [hsc] at hu17 HPD
       rw [hia]
       obtain ⟨l17, p16, p17, Wa17, Wb17, Wc17, W17, rfl, h16, hWa17, h17, hWb17, hWc17, hW17, T16, T17, I17a, I17l, O17, R16, R17, B17, V17, L17⟩ := two_place hu17 hS16.K_le ia HIAL.out
       have HWC17 := h_ hWc17
       have HW17 := h_ hW17
       have HS17 := h_ (hS16.below B17.out)
       have HLP : Hid (p12 < p16 ∧ p12 < p17) := h_ ⟨by have := hS16.sz; omega, by have := hS16.sz; have := L17.out; omega⟩
       have HII := h_ (rinfo_a ia HIAL.out)
       have HIIL := h_ (rinfo_l ia HIAL.out)
       have HOI : Hid ((b8s ia).toArray.all (·.oneCell') = true) := h_ (all_oneCell_toArray (b8s_one' _))
       have c121 : W17.cell? ⟨p12, 1, none⟩ = some (.string ⟨#[]⟩) := (tx_cells' HS17.out.row).2.1
       have f121 : W17.frozen? ⟨p12, 1, none⟩ = false := row_free HS17.out.row 1
       obtain ⟨W20, hW20⟩ := eX (W17.setCell ⟨p12, 1, none⟩ (.string ⟨nm.toArray⟩))
       have g20 : W17.grownBy W20 (some p12) := by rw [← hW20]; exact grown_set p12 1 _
       have r20 : W20.heap[p12]? = some (.cells ([Value.slice Ai i ci, strV nm] ++ b8s Z32 ++ []).toArray 123 (0, 0)) := by
        rw [← hW20]
        have h1 := row_set HS17.out.row 1 (.string ⟨nm.toArray⟩)
        exact h1
       have R1620 : Hid (W20.heap[p16]? = some (.cells (b8s ia).toArray 23 (0, 0))) := h_ ((g20.block _ (b_ R16) (fun e => by have := Option.some.inj e; have := HLP.out; omega)).trans R16.out)
       obtain ⟨W21, hW21, T21, R21, G21⟩ := put_mid (vs := b8s ia) r20 (by rw [b8s_length, b8s_length, HIAL.out]; rfl)
       have hW21' : W20.setCells p12 2 (b8s ia).toArray.toList = W21 := hW21
       have T21' : Hid (W20.there p12 2 (b8s ia).toArray.size) := T21
       have g21 : W17.grownBy W21 (some p12) := grown_trans1 g20 G21.out
       obtain ⟨T, hT⟩ : ∃ T : TxM, T = ⟨us, nm, ia⟩ := ⟨_, rfl⟩
       have HTE := h_ hT
       have HTO : Hid (TxOk T) := h_ (by
        rw [hT]
        exact ⟨HIAL.out, by rw [← HUS.out]; exact getUps_ok _ _, by show nm.length ≤ _; omega, by show us.length ≤ _; rw [← HUS.out, getUps_length]; omega⟩)
       have HTUL : Hid (T.us = us ∧ us.length = i) := h_ ⟨by rw [hT], by rw [← HUS.out, getUps_length]⟩
       have HR21 : Hid (W21.heap[p12]? = some (.cells (txC Ai i ci T).toArray 123 (0, 0))) := h_ (by have h1 := R21.out; rw [hT]; simpa [txC] using h1)
       have hbK21 : Below K W17 W21 := ⟨g21.os, g21.tape, g21.output, g21.size, fun b hb => g21.block b (by have := HS17.out.K_le; omega) (fun e => by have := Option.some.inj e; have := HS17.out.lay; omega)⟩
       have V21 : Hid (InV (PK K Q) W21 (.agg l17.toArray) sc) := h_ (V17.out.bel hbK21)
       have R1721 : Hid (W21.heap[p17]? = some (.cells l17.toArray 156 (0, 0))) := h_ ((g21.block _ (b_ R17) (fun e => by have := Option.some.inj e; have := HLP.out; omega)).trans R17.out)
       have R821 : Hid (W21.heap[p8]? = some (.cells l8.toArray 156 (0, 0))) := h_ ((g21.block _ (Array.getElem?_eq_some_iff.1 HS17.out.s8).1 (fun e => by have := Option.some.inj e; have := HS17.out.lay; omega)).trans HS17.out.s8)
       have R221 : Hid (W21.heap[K]? = some (.cells lz.toArray 123 (0, 0))) := h_ ((g21.block _ (Array.getElem?_eq_some_iff.1 HS17.out.res).1 (fun e => by have := Option.some.inj e; have := HS17.out.lay; omega)).trans HS17.out.res)
       have OW21 : Hid (W21.ownsRow (p12 + 1) 131 65 (.slice Ai i ci) i (upsC us)) := h_ (own_far HS17.out.own (by omega) g21)
       have BK21 : Hid (Below K w W21) := h_ (HS17.out.bel.trans hbK21)
       have HLAY := h_ HS17.out.lay
       have HKW : Hid (K ≤ W21.heap.size) := h_ (by have := HS17.out.K_le; have := g21.size; omega)
       have HIL := h_ (rinfo_txl (A := Ai) (n := i) (c := ci) HTO.out.al)
       have HITA := h_ (rinfo_txa (A := Ai) (n := i) (c := ci) HTO.out.al)
       have HOT : Hid ((txC Ai i ci T).toArray.all (·.oneCell') = true) := h_ (all_oneCell_toArray (txC_one _ _ _ _))
       have HTLL : Hid ((txC Ai i ci T).length = 34) := h_ (txC_len HTO.out.al)
       have HLT0 : Hid (Hid (txC Ai i ci T = txC Ai i ci T)) := h_ (h_ rfl)
       obtain ⟨lt, hlt9⟩ := eX (txC Ai i ci T)
       have HLT := h_ hlt9
       rw [hlt9] at HIL HITA HOT HTLL HR21
       have HW21 := h_ hW21'
       have HS0 : Hid (∀ W, Below W21.heap.size W21 W → W.rangeAt p12 0 lt ∧ W.cell? ⟨p8, 0, none⟩ = some (.slice A8 n8 c8) ∧ W.rangeAt p17 0 l17) := h_ (fun W hb => ⟨range_of_row ((hb.block _ (b_ HR21)).trans HR21.out), by rw [row_cell ((hb.block _ (b_ R821)).trans R821.out) 0]; exact HC80.out, range_of_row ((hb.block _ (b_ R1721)).trans R1721.out)⟩)
       have HPUT : Hid (∀ W, Below W21.heap.size W21 W → ∃ W', W.setCells K 0 lt.toArray.toList = W' ∧ Hid (W.there K 0 lt.toArray.size) ∧ Hid (W'.heap[K]? = some (.cells lt.toArray 123 (0, 0))) ∧ Hid (W'.rangeAt p12 0 lt ∧ W'.cell? ⟨p8, 0, none⟩ = some (.slice A8 n8 c8) ∧ W'.rangeAt p17 0 l17) ∧ Hid (Rd W' Ai (upsC T.us)) ∧ Hid (Below K w W')) := h_ (fun W hb => by
        have h2 := (hb.block _ (b_ R221)).trans R221.out
        obtain ⟨W', e, t, k', g'⟩ := put_rowR (new := lt) h2 (by rw [HTLL.out, HLZL.out])
        have f1 := (g'.out.block _ (Nat.lt_of_lt_of_le (b_ HR21) hb.size) (fun e => by have := Option.some.inj e; have := HLAY.out; omega)).trans ((hb.block _ (b_ HR21)).trans HR21.out)
        have f2 := (g'.out.block _ (Nat.lt_of_lt_of_le (b_ R821) hb.size) (fun e => by have := Option.some.inj e; have := HLAY.out; omega)).trans ((hb.block _ (b_ R821)).trans R821.out)
        have f3 := (g'.out.block _ (Nat.lt_of_lt_of_le (b_ R1721) hb.size) (fun e => by have := Option.some.inj e; have := HLAY.out; have := HLP.out; omega)).trans ((hb.block _ (b_ R1721)).trans R1721.out)
        refine ⟨W', e, t, k', h_ ⟨range_of_row f1, by rw [row_cell f2 0]; exact HC80.out, range_of_row f3⟩, h_ ?_, h_ (bel_grown (BK21.out.trans (hb.mono HKW.out)) (Nat.le_trans HKW.out hb.size) g'.out (Nat.le_refl _))⟩
        rw [HTUL.out.1]
        exact own_rd (own_far (own_below OW21.out hb) (by have := HLAY.out; omega) g'.out))
       obtain ⟨dn, hdn⟩ := eX (doneS sc)
       have HDN : Hid (Calls Tryz.prog 91 #[.agg l17.toArray] W21.drew fun e w' => e = .returned (.bool dn) ∧ Below W21.heap.size W21.drew w') := h_ (by
        have h1 := idone_any (K := PK K Q) sc (.agg l17.toArray) W21.drew (V21.out.bel (Below.refl _ _).drew)
        rw [hdn] at h1
        exact h1)
       rw [hdn] at HTS HPD
       obtain ⟨A', hA'⟩ := eX ((if c8 = n0 then A8 else Option.map (fun x => x.add n0) A8))
       have HA' := h_ hA'
       have HDR : Hid (∀ W, Below K w W → Rd W A' (b8s (bs.drop (bs.length - rest.length + n0)))) := h_ (fun W hb => by
        have h1 := Rd.drop (k := n0) (size := 1) (cap := c8) (HRK.out W hb).1 (by rw [b8s_length, ← HN8.out]; omega)
        rw [Nat.mul_one, ← b8s_drop, HA'.out] at h1
        have e9 : bs.drop (bs.length - rest.length + n0) = rest.drop n0 := by rw [← List.drop_drop, ← HRS.out]
        rw [e9]
        exact h1)
       have HN0N : Hid (n - (bs.length - rest.length + n0) = n8 - n0) := h_ (by have := HNL.out; have := HN8.out; omega)
       obtain ⟨lia, hlia⟩ := eX (b8s ia)
       rw [hlia] at T16 HWC17 HII HIIL HOI T21' HW21
       have R16l : Hid (W20.heap[p16]? = some (.cells lia.toArray 23 (0, 0))) := h_ (by rw [← hlia]; exact R1620.out)
       have HRG16 := h_ (range_of_row R16l.out)
       try rw [hlia]
       clear hu17 hb16 hS16 hia hsc hWc17 hW17 g20 r20 hW21 T21 R21 G21 hW21' g21 hT hbK21 hlt9 hdn hlia R1620
       go_wp2_with (first
        | ((with_reducible (refine wpList_store_mid rfl _ _ _ rfl ?_ ?_ ?_ ?_ ?_ ?_ ?_ ?_ ?_)); exact p16; exact 0; (exact (lia).toArray); exact rfl; exact rfl; exact T16.out; exact HII.out; exact HOI.out; rw [HWC17.out])
        | ((with_reducible (refine wpList_store_mid rfl _ _ _ rfl ?_ ?_ ?_ ?_ ?_ ?_ ?_ ?_ ?_)); exact p17; exact 0; (exact (l17).toArray); exact rfl; exact rfl; exact T17.out; exact I17a.out; exact O17.out; rw [HW17.out])
        | ((with_reducible (refine wpList_load_cells 23 _ p16 0 (lia) HRG16.out Tryz.underlying23 rfl HIIL.out ?_ rfl ?_ ?_)); exact rfl; (exact rfl))
        | ((with_reducible (refine wpList_store_mid rfl _ _ _ rfl ?_ ?_ ?_ ?_ ?_ ?_ ?_ ?_ ?_)); exact p12; exact 2; (exact (lia).toArray); exact rfl; exact rfl; (exact T21'.out); exact HII.out; exact HOI.out; rw [HW21.out]))
       clear h16 hWa17 h17 hWb17 c121 f121 hW20
       cases dn with
       | false =>
         have HSQ : Hid (SP.2.2 = false) := h_ (by rw [HSPE.out]; dsimp only; rw [← HPD.out]; rfl)
         refine wp_region_sched (fun w' => w'.rangeAt p12 0 lt ∧ w'.cell? ⟨p8, 0, none⟩ = some (.slice A8 n8 c8) ∧ w'.rangeAt p17 0 l17) [(true, 0), (true, 1), (true, 2), (true, 3), (true, 4), (true, 5), (false, 6), (true, 7), (true, 8), (true, 10), (false, 9), (true, 11), (true, 12), (false, 13), (true, 14), (true, 15)] (by kernel_rfl) (by kernel_rfl) rfl (by kernel_rfl) (HS0.out _ (Below.refl _ _).drew) ?_
         refine wpS_load _ rfl (by rfl) 123 _ rfl p12 0 rfl lt _ (fun w' hS => hS.1) Tryz.underlying123 rfl HIL.out ?_
         simp only [LY]
         iterate 4 ((first | refine wpS_pass _ rfl (by rfl) ?_ | (refine wpS_take _ ?_ rfl (by rfl) ?_ ?_; rotate_left; (focus (intro w' hS'; (try dsimp only at hS'); (repeat (have hS1 := hS'.1; replace hS' := hS'.2)); go_simp; (try with_reducible rfl); done)))); simp only [LY])
         try rw [hA']
         refine wpS_load _ rfl (by rfl) 156 _ rfl p17 0 rfl l17 _ (fun w' hS => hS.2.2) Tryz.underlying156 rfl I17l.out ?_
         simp only [LY]
         refine wpS_do _ rfl (by rfl) (fun KK hKK => ?_)
         go_simp
         refine HDN.out.mono ?_
         rintro e w22 ⟨rfl, hb22⟩
         have HB22 : Hid (Below W21.heap.size W21 w22) := h_ ((Below.refl _ _).drew.trans hb22)
         have HBK22 : Hid (Below K w w22) := h_ (BK21.out.trans (HB22.out.mono HKW.out))
         refine hKK.out _ _ (HS0.out _ HB22.out) (fun hS => ?_)
         clear hKK hS hb22
         iterate 3 ((first | refine wpS_pass _ rfl (by rfl) ?_ | (refine wpS_take _ ?_ rfl (by rfl) ?_ ?_; rotate_left; (focus (intro w' hS'; (try dsimp only at hS'); (repeat (have hS1 := hS'.1; replace hS' := hS'.2)); go_simp; (try with_reducible rfl); done)))); simp only [LY])
         refine wpS_skip _ rfl (by rfl) (HS0.out _ HB22.out) ?_
         simp only [LY]
         iterate 2 ((first | refine wpS_pass _ rfl (by rfl) ?_ | (refine wpS_take _ ?_ rfl (by rfl) ?_ ?_; rotate_left; (focus (intro w' hS'; (try dsimp only at hS'); (repeat (have hS1 := hS'.1; replace hS' := hS'.2)); go_simp; (try with_reducible rfl); done)))); simp only [LY])
         obtain ⟨W23, hW23, T23, R23, S23, D23, B23⟩ := HPUT.out _ HB22.out
         have HW23 := h_ hW23
         clear hW23
         refine wpS_store_mid _ rfl (by rfl) 123 _ _ rfl K 0 lt.toArray rfl rfl T23.out HITA.out HOT.out ?_ ?_
         ·rw [HW23.out]
          exact S23.out
         simp only [LY]
         iterate 2 ((first | refine wpS_pass _ rfl (by rfl) ?_ | (refine wpS_take _ ?_ rfl (by rfl) ?_ ?_; rotate_left; (focus (intro w' hS'; (try dsimp only at hS'); (repeat (have hS1 := hS'.1; replace hS' := hS'.2)); go_simp; (try with_reducible rfl); done)))); simp only [LY])
         refine wpS_done ?_
         rw [HW23.out]
         go_wp2_with fail
         refine bodyPost_ret (results_row_two rfl _ _ _ _ _ _ _ rfl R23.out Tryz.underlying123 rfl HITA.out) rfl ?_
         refine ⟨T, Ai, ci, A', n8 - n0, c8 - n0, ?_, HTO.out, D23.out, by first | exact B23.out | (rw [hK]; exact B23.out), ?_⟩
         ·rw [HSQ.out, HTUL.out.1, HTUL.out.2, HLT.out]
          rfl
         ·intro h
          rw [HSQ.out] at h
          cases h
       | true =>
         obtain ⟨cr, hcr⟩ := eX ((crc P).toNat)
         have HCR := h_ hcr
         have HSUM : Hid (∀ W, Below K w W → Calls Tryz.prog 92 #[.slice A8 n0 c8] W fun e w' => W = w' ∧ e = .returned (.int .u32 (cr : Int))) := h_ (fun W hb => by
          have h1 := rsum_any A8 P c8 W (HRK.out W hb).2 (by rw [HPL.out]; unfold maxLen; omega)
          rw [hcr, HPL.out] at h1
          exact h1)
         clear hcr
         by_cases hcs : cr = sm
         ·have z6 : (cr : Int) = (sm : Int) := by omega
          have z7 : ((cr : Int) == (sm : Int)) = true := by rw [beq_iff_eq]; exact z6
          have HSQ : Hid (SP.2.2 = true) := h_ (by rw [HSPE.out]; dsimp only; rw [← HPD.out, HCR.out, decide_eq_true hcs]; rfl)
          clear hcs
          refine wp_region_sched (fun w' => w'.rangeAt p12 0 lt ∧ w'.cell? ⟨p8, 0, none⟩ = some (.slice A8 n8 c8) ∧ w'.rangeAt p17 0 l17) [(true, 0), (true, 1), (true, 2), (true, 3), (true, 4), (true, 5), (false, 6), (true, 7), (true, 8), (true, 10), (false, 9), (true, 11), (true, 12), (false, 13), (true, 14), (true, 15)] (by kernel_rfl) (by kernel_rfl) rfl (by kernel_rfl) (HS0.out _ (Below.refl _ _).drew) ?_
          refine wpS_load _ rfl (by rfl) 123 _ rfl p12 0 rfl lt _ (fun w' hS => hS.1) Tryz.underlying123 rfl HIL.out ?_
          simp only [LY]
          iterate 4 ((first | refine wpS_pass _ rfl (by rfl) ?_ | (refine wpS_take _ ?_ rfl (by rfl) ?_ ?_; rotate_left; (focus (intro w' hS'; (try dsimp only at hS'); (repeat (have hS1 := hS'.1; replace hS' := hS'.2)); go_simp; (try with_reducible rfl); done)))); simp only [LY])
          try rw [hA']
          refine wpS_load _ rfl (by rfl) 156 _ rfl p17 0 rfl l17 _ (fun w' hS => hS.2.2) Tryz.underlying156 rfl I17l.out ?_
          simp only [LY]
          refine wpS_do _ rfl (by rfl) (fun KK hKK => ?_)
          go_simp
          refine HDN.out.mono ?_
          rintro e w22 ⟨rfl, hb22⟩
          have HB22 : Hid (Below W21.heap.size W21 w22) := h_ ((Below.refl _ _).drew.trans hb22)
          have HBK22 : Hid (Below K w w22) := h_ (BK21.out.trans (HB22.out.mono HKW.out))
          refine hKK.out _ _ (HS0.out _ HB22.out) (fun hS => ?_)
          clear hKK hS hb22
          iterate 3 ((first | refine wpS_pass _ rfl (by rfl) ?_ | (refine wpS_take _ ?_ rfl (by rfl) ?_ ?_; rotate_left; (focus (intro w' hS'; (try dsimp only at hS'); (repeat (have hS1 := hS'.1; replace hS' := hS'.2)); go_simp; (try with_reducible rfl); done)))); simp only [LY])
          refine wpS_do _ rfl (by rfl) (fun KK hKK => ?_)
          go_simp
          refine (HSUM.out _ HBK22.out).mono ?_
          rintro e w23 ⟨rfl, rfl⟩
          refine hKK.out _ _ (HS0.out _ HB22.out) (fun hS => ?_)
          clear hKK hS
          iterate 2 ((first | refine wpS_pass _ rfl (by rfl) ?_ | (refine wpS_take _ ?_ rfl (by rfl) ?_ ?_; rotate_left; (focus (intro w' hS'; (try dsimp only at hS'); (repeat (have hS1 := hS'.1; replace hS' := hS'.2)); go_simp; (try with_reducible rfl); done)))); simp only [LY])
          obtain ⟨W23, hW23, T23, R23, S23, D23, B23⟩ := HPUT.out _ HB22.out
          have HW23 := h_ hW23
          clear hW23
          refine wpS_store_mid _ rfl (by rfl) 123 _ _ rfl K 0 lt.toArray rfl rfl T23.out HITA.out HOT.out ?_ ?_
          ·rw [HW23.out]
           exact S23.out
          simp only [LY]
          iterate 2 ((first | refine wpS_pass _ rfl (by rfl) ?_ | (refine wpS_take _ ?_ rfl (by rfl) ?_ ?_; rotate_left; (focus (intro w' hS'; (try dsimp only at hS'); (repeat (have hS1 := hS'.1; replace hS' := hS'.2)); go_simp; (try with_reducible rfl); done)))); simp only [LY])
          refine wpS_done ?_
          rw [HW23.out]
          go_wp2_with fail
          refine bodyPost_ret (results_row_two rfl _ _ _ _ _ _ _ rfl R23.out Tryz.underlying123 rfl HITA.out) rfl ?_
          refine ⟨T, Ai, ci, A', n8 - n0, c8 - n0, ?_, HTO.out, D23.out, by first | exact B23.out | (rw [hK]; exact B23.out), ?_⟩
          ·rw [HSQ.out, HTUL.out.1, HTUL.out.2, HLT.out]
           rfl
          ·intro _
           have h1 := HTS.out (by first | rfl | trivial)
           rw [← HTE.out] at h1
           rw [HSPE.out]
           refine ⟨h1, HN0N.out.symm, HDR.out _ B23.out, by omega, by have h9 := hcm8; unfold maxLen at h9; omega, fun hne a ha => ?_⟩
           have e9 : bs.drop (bs.length - rest.length + n0) = rest.drop n0 := by rw [← List.drop_drop, ← HRS.out]
           exact (drop_lt (HA8.out (fun e => by
            have h8 : rest.length = 0 := by rw [e]; rfl
            first
             | exact hne (by dsimp only; rw [e9, e, List.drop_nil])
             | (have h9 : bs.length - rest.length + n0 < bs.length := hne; omega))) (HA'.out.trans ha)).2
         ·have z6 : ¬ (cr : Int) = (sm : Int) := by omega
          have z7 : ((cr : Int) == (sm : Int)) = false := by rw [beq_eq_false_iff_ne]; exact z6
          have HSQ : Hid (SP.2.2 = false) := h_ (by rw [HSPE.out]; dsimp only; rw [← HPD.out, HCR.out, decide_eq_false hcs]; rfl)
          clear hcs
          refine wp_region_sched (fun w' => w'.rangeAt p12 0 lt ∧ w'.cell? ⟨p8, 0, none⟩ = some (.slice A8 n8 c8) ∧ w'.rangeAt p17 0 l17) [(true, 0), (true, 1), (true, 2), (true, 3), (true, 4), (true, 5), (false, 6), (true, 7), (true, 8), (true, 10), (false, 9), (true, 11), (true, 12), (false, 13), (true, 14), (true, 15)] (by kernel_rfl) (by kernel_rfl) rfl (by kernel_rfl) (HS0.out _ (Below.refl _ _).drew) ?_
          refine wpS_load _ rfl (by rfl) 123 _ rfl p12 0 rfl lt _ (fun w' hS => hS.1) Tryz.underlying123 rfl HIL.out ?_
          simp only [LY]
          iterate 4 ((first | refine wpS_pass _ rfl (by rfl) ?_ | (refine wpS_take _ ?_ rfl (by rfl) ?_ ?_; rotate_left; (focus (intro w' hS'; (try dsimp only at hS'); (repeat (have hS1 := hS'.1; replace hS' := hS'.2)); go_simp; (try with_reducible rfl); done)))); simp only [LY])
          try rw [hA']
          refine wpS_load _ rfl (by rfl) 156 _ rfl p17 0 rfl l17 _ (fun w' hS => hS.2.2) Tryz.underlying156 rfl I17l.out ?_
          simp only [LY]
          refine wpS_do _ rfl (by rfl) (fun KK hKK => ?_)
          go_simp
          refine HDN.out.mono ?_
          rintro e w22 ⟨rfl, hb22⟩
          have HB22 : Hid (Below W21.heap.size W21 w22) := h_ ((Below.refl _ _).drew.trans hb22)
          have HBK22 : Hid (Below K w w22) := h_ (BK21.out.trans (HB22.out.mono HKW.out))
          refine hKK.out _ _ (HS0.out _ HB22.out) (fun hS => ?_)
          clear hKK hS hb22
          iterate 3 ((first | refine wpS_pass _ rfl (by rfl) ?_ | (refine wpS_take _ ?_ rfl (by rfl) ?_ ?_; rotate_left; (focus (intro w' hS'; (try dsimp only at hS'); (repeat (have hS1 := hS'.1; replace hS' := hS'.2)); go_simp; (try with_reducible rfl); done)))); simp only [LY])
          refine wpS_do _ rfl (by rfl) (fun KK hKK => ?_)
          go_simp
          refine (HSUM.out _ HBK22.out).mono ?_
          rintro e w23 ⟨rfl, rfl⟩
          refine hKK.out _ _ (HS0.out _ HB22.out) (fun hS => ?_)
          clear hKK hS
          iterate 2 ((first | refine wpS_pass _ rfl (by rfl) ?_ | (refine wpS_take _ ?_ rfl (by rfl) ?_ ?_; rotate_left; (focus (intro w' hS'; (try dsimp only at hS'); (repeat (have hS1 := hS'.1; replace hS' := hS'.2)); go_simp; (try with_reducible rfl); done)))); simp only [LY])
          obtain ⟨W23, hW23, T23, R23, S23, D23, B23⟩ := HPUT.out _ HB22.out
          have HW23 := h_ hW23
          clear hW23
          refine wpS_store_mid _ rfl (by rfl) 123 _ _ rfl K 0 lt.toArray rfl rfl T23.out HITA.out HOT.out ?_ ?_
          ·rw [HW23.out]
           exact S23.out
          simp only [LY]
          iterate 2 ((first | refine wpS_pass _ rfl (by rfl) ?_ | (refine wpS_take _ ?_ rfl (by rfl) ?_ ?_; rotate_left; (focus (intro w' hS'; (try dsimp only at hS'); (repeat (have hS1 := hS'.1; replace hS' := hS'.2)); go_simp; (try with_reducible rfl); done)))); simp only [LY])
          refine wpS_done ?_
          rw [HW23.out]
          go_wp2_with fail
          refine bodyPost_ret (results_row_two rfl _ _ _ _ _ _ _ rfl R23.out Tryz.underlying123 rfl HITA.out) rfl ?_
          refine ⟨T, Ai, ci, A', n8 - n0, c8 - n0, ?_, HTO.out, D23.out, by first | exact B23.out | (rw [hK]; exact B23.out), ?_⟩
          ·rw [HSQ.out, HTUL.out.1, HTUL.out.2, HLT.out]
           rfl
          ·intro h
           rw [HSQ.out] at h
           cases h
     | some stb =>
       have cx1' : wr.cell? ⟨p11, 1, none⟩ = some (.bool false) := cx1
       clear cx1
       go_wp2_with ((with_reducible (refine wpList_load_cells 156 _ p11 0 (l) HRGX.out Tryz.underlying156 rfl HIXL.out ?_ rfl ?_ ?_)); exact rfl; (exact rfl))
       refine (igettext_any (K := PK K Q) (some stb) (.agg l.toArray) 1048576 wr HVX.out).mono ?_
       rintro e w13 ⟨u15, rfl, hu15, hb13⟩
       have hS13 := HS.out.below hb13
       obtain ⟨l15, p15, Wa15, W15, rfl, h15, hWa15, hW15, T15, I15a, I15l, O15, R15, B15, V15, _⟩ := in_place hu15 hS13.K_le
       have HW15 := h_ hW15
       have HS15 := h_ (hS13.below B15.out)
       have HZ15 : Hid (wr.heap.size ≤ W15.heap.size) := h_ (Nat.le_trans hb13.size B15.out.size)
       have HRG15 := h_ (range_of_row R15.out)
       obtain ⟨nm, hnm_⟩ := eX ((getText (some stb) 1048576).1)
       obtain ⟨sb, hsb⟩ := eX ((getText (some stb) 1048576).2)
       have HNM : Hid ((getText (some stb) 1048576).1 = nm ∧ (getText (some stb) 1048576).2 = sb) := h_ ⟨hnm_, hsb⟩
       have hnml : nm.length ≤ 1048576 := by rw [← hnm_]; exact getText_le _
       rw [hnm_]
       rw [hsb] at V15
       clear hu15 hb13 hS13 hW15 hnm_ hsb B15 cx1'
       go_wp2_with (first
        | ((with_reducible (refine wpList_store_mid rfl _ _ _ rfl ?_ ?_ ?_ ?_ ?_ ?_ ?_ ?_ ?_)); exact p15; exact 0; (exact (l15).toArray); exact rfl; exact rfl; exact T15.out; exact I15a.out; exact O15.out; rw [HW15.out])
        | ((with_reducible (refine wpList_load_cells 156 _ p15 0 (l15) HRG15.out Tryz.underlying156 rfl I15l.out ?_ rfl ?_ ?_)); exact rfl; (exact rfl)))
       clear h15 hWa15
       refine (igetid_any (K := PK K Q) sb (.agg l15.toArray) W15 V15.out).mono ?_
       rintro e w16 ⟨u17, rfl, hu17, hb16⟩
       have hS16 := HS15.out.below hb16
       obtain ⟨ia, hia⟩ := eX ((getId sb).1)
       obtain ⟨sc, hsc⟩ := eX ((getId sb).2)
       have HIA : Hid ((getId sb).1 = ia ∧ (getId sb).2 = sc) := h_ ⟨hia, hsc⟩
       have HIAL : Hid (ia.length = 32) := h_ (by rw [← hia]; exact getId_len _)
       rw [hia]
       rw [hsc] at hu17
       obtain ⟨l17, p16, p17, Wa17, Wb17, Wc17, W17, rfl, h16, hWa17, h17, hWb17, hWc17, hW17, T16, T17, I17a, I17l, O17, R16, R17, B17, V17, L17⟩ := two_place hu17 hS16.K_le ia HIAL.out
       have HWC17 := h_ hWc17
       have HW17 := h_ hW17
       have HS17 := h_ (hS16.below B17.out)
       have HRG17 := h_ (range_of_row R17.out)
       have HZ17 : Hid (wr.heap.size ≤ W17.heap.size) := h_ (Nat.le_trans HZ15.out (Nat.le_trans hb16.size B17.out.size))
       have HII := h_ (rinfo_a ia HIAL.out)
       have HIIL := h_ (rinfo_l ia HIAL.out)
       have HOI : Hid ((b8s ia).toArray.all (·.oneCell') = true) := h_ (all_oneCell_toArray (b8s_one' _))
       obtain ⟨lia, hlia⟩ := eX (b8s ia)
       have HLIA := h_ hlia
       rw [hlia] at T16 HWC17 HII HIIL HOI R16 ⊢
       clear hu17 hb16 hS16 hia hsc hWc17 hW17 hlia
       go_wp2_with (first
        | ((with_reducible (refine wpList_store_mid rfl _ _ _ rfl ?_ ?_ ?_ ?_ ?_ ?_ ?_ ?_ ?_)); exact p16; exact 0; (exact (lia).toArray); exact rfl; exact rfl; exact T16.out; exact HII.out; exact HOI.out; rw [HWC17.out])
        | ((with_reducible (refine wpList_store_mid rfl _ _ _ rfl ?_ ?_ ?_ ?_ ?_ ?_ ?_ ?_ ?_)); exact p17; exact 0; (exact (l17).toArray); exact rfl; exact rfl; exact T17.out; exact I17a.out; exact O17.out; rw [HW17.out])
        | ((with_reducible (refine wpList_load_cells 156 _ p17 0 (l17) HRG17.out Tryz.underlying156 rfl I17l.out ?_ rfl ?_ ?_)); exact rfl; (exact rfl)))
       clear h16 hWa17 h17 hWb17
       refine (igetid_any (K := PK K Q) sc (.agg l17.toArray) W17 V17.out).mono ?_
       rintro e w18 ⟨u19, rfl, hu19, hb18⟩
       have hS18 := HS17.out.below hb18
       obtain ⟨ib, hib⟩ := eX ((getId sc).1)
       obtain ⟨sd, hsd⟩ := eX ((getId sc).2)
       have HIB : Hid ((getId sc).1 = ib ∧ (getId sc).2 = sd) := h_ ⟨hib, hsd⟩
       have HIBL : Hid (ib.length = 32) := h_ (by rw [← hib]; exact getId_len _)
       rw [hib]
       rw [hsd] at hu19
       obtain ⟨l19, p18, p19, Wa19, Wb19, Wc19, W19, rfl, h18, hWa19, h19, hWb19, hWc19, hW19, T18, T19, I19a, I19l, O19, R18, R19, B19, V19, L19⟩ := two_place hu19 hS18.K_le ib HIBL.out
       have HWC19 := h_ hWc19
       have HW19 := h_ hW19
       have HS19 := h_ (hS18.below B19.out)
       have hb1719 : Below W17.heap.size W17 W19 := hb18.trans (B19.out.mono hb18.size)
       have R16' : Hid (W19.heap[p16]? = some (.cells lia.toArray 23 (0, 0))) := bl_ hb1719 R16
       have HIIB := h_ (rinfo_a ib HIBL.out)
       have HIIBL := h_ (rinfo_l ib HIBL.out)
       have HOIB : Hid ((b8s ib).toArray.all (·.oneCell') = true) := h_ (all_oneCell_toArray (b8s_one' _))
       obtain ⟨u, hu⟩ : ∃ u : UpM, u = ⟨nm, ia, ib⟩ := ⟨_, rfl⟩
       have HOKU : Hid (upOk u) := h_ (by rw [hu]; exact ⟨HIAL.out, HIBL.out, by show nm.length ≤ _; omega⟩)
       have HUPB : Hid (Tryz.prog.built 131 [(0, .string ⟨nm.toArray⟩), (1, .agg lia.toArray), (2, .agg (b8s ib).toArray)] = some (upC u).toArray) := h_ (by
        have h1 := rup_built HOKU.out
        rw [hu] at h1 ⊢
        rw [← HLIA.out]
        exact h1)
       have HUP : Hid ((getUp (some stb)).1 = u ∧ (getUp (some stb)).2 = sd) := h_ (by
        rw [hu]
        unfold getUp
        simp only [HNM.out.1, HNM.out.2, HIA.out.1, HIA.out.2, HIB.out.1, HIB.out.2, and_self])
       obtain ⟨lib, hlib⟩ := eX (b8s ib)
       have HLIB := h_ hlib
       rw [hlib] at T18 HWC19 HIIB HIIBL HOIB R18 HUPB ⊢
       obtain ⟨p7, hp7⟩ := eX W19.heap.size
       obtain ⟨WC, hWC⟩ := eX (W19.alloc (.cells (upC u).toArray 131))
       obtain ⟨rC, bC, sC⟩ := new_row hWC
       rw [hp7] at rC
       have HSC := h_ (HS19.out.below bC)
       have HRDC : Hid (Rd WC (some ⟨p7, 0, none⟩) (upC u)) := h_ (range_rd (range_of_row rC))
       have c9 : W19.cell? ⟨p12, 0, none⟩ = some (.slice Ai i ci) := (tx_cells' HS19.out.row).1
       have HRG16 := h_ (range_of_row R16'.out)
       have HRG18 := h_ (range_of_row R18.out)
       have HIB9 : Hid ((Tryz.prog.info? 131).map (fun i => (i.size, i.zero.isSome)) = some ((upC u).length, true)) := h_ (by rw [upC_len HOKU.out]; kernel_rfl)
       have HUL9 := h_ (upC_len HOKU.out)
       have HO1 : Hid (∀ v ∈ upC u, v.oneCell' = true) := h_ (upC_one u)
       have HFC : Hid (∀ W', WC.grownBy W' (Value.slice Ai i ci).ownBlock → W'.cell? ⟨p12, 0, none⟩ = some (.slice Ai i ci) ∧ W'.frozen? ⟨p12, 0, none⟩ = false) := h_ (fun W' hg => by
        have h1 := (hg.block _ (Array.getElem?_eq_some_iff.1 HSC.out.row).1 (fun e => by have := (HSC.out.own.lt _ e.symm).1; omega)).trans HSC.out.row
        exact ⟨(tx_cells' h1).1, row_free h1 0⟩)
       have HOWN := h_ HSC.out.own
       have HSZC : Hid (p12 + 1 ≤ WC.heap.size) := h_ HSC.out.sz
       have R19C : Hid (WC.heap[p19]? = some (.cells l19.toArray 156 (0, 0))) := bl_ bC R19
       have V19C : Hid (InV (PK K Q) WC (.agg l19.toArray) sd) := h_ (V19.out.below bC)
       have HL19 : Hid (p12 < p18 ∧ p12 < p19 ∧ wr.heap.size ≤ p19) := h_ ⟨by have := hS18.sz; omega, by have := hS18.sz; have := L19.out; omega, by have := L19.out; have := HZ17.out; have := hb18.size; omega⟩
       have HOB : Hid (∀ b, (Value.slice Ai i ci).ownBlock = some b → b < wr.heap.size) := h_ (fun b hb => (HS.out.own.lt b hb).2)
       obtain ⟨lu, hlu⟩ := eX (upC u)
       have HLU := h_ hlu
       rw [hlu] at hWC HRDC HIB9 HUL9 HO1 HUPB
       clear hu19 hb18 hS18 hib hsd hWc19 hW19 hb1719 hu hlib rC bC sC hlu
       go_wp2_with (first
        | ((with_reducible (refine wpList_store_mid rfl _ _ _ rfl ?_ ?_ ?_ ?_ ?_ ?_ ?_ ?_ ?_)); exact p18; exact 0; (exact (lib).toArray); exact rfl; exact rfl; exact T18.out; exact HIIB.out; exact HOIB.out; rw [HWC19.out])
        | ((with_reducible (refine wpList_store_mid rfl _ _ _ rfl ?_ ?_ ?_ ?_ ?_ ?_ ?_ ?_ ?_)); exact p19; exact 0; (exact (l19).toArray); exact rfl; exact rfl; exact T19.out; exact I19a.out; exact O19.out; rw [HW19.out])
        | ((with_reducible (refine wpList_load_cells 23 _ p16 0 (lia) HRG16.out Tryz.underlying23 rfl HIIL.out ?_ rfl ?_ ?_)); exact rfl; (exact rfl))
        | ((with_reducible (refine wpList_load_cells 23 _ p18 0 (lib) HRG18.out Tryz.underlying23 rfl HIIBL.out ?_ rfl ?_ ?_)); exact rfl; (exact rfl))
        | ((with_reducible (refine wpList_built ?_ _ #[(0, .tmp 83), (1, .tmp 84), (2, .tmp 85)] ?_ _ ?_ _ HUPB.out ?_)); exact rfl; exact rfl; (exact rfl))
        | (refine wpList_build1 rfl 63 131 _ rfl lu rfl Tryz.underlying63 HIB9.out (by rw [HUL9.out]; omega) (by rw [HUL9.out]; omega) ?_)
        | (at_builtin; (try rw [hWC]); (try rw [hp7]); go_loud (refine wpList_append_rd _ rfl _ _ 63 rfl (p12 + 1) 131 _ 65 80 Tryz.underlying63 rupz (by simp [Value.cells, upC, b8s, Z32]) (by decide) (.slice Ai i ci) i _ rfl HOWN.out _ 1 1 lu rfl (by rw [HUL9.out]) HRDC.out HO1.out (by unfold maxLen; omega) (by omega) HSZC.out ?_); intro v8 wX ho8 hg8 hvb8; obtain ⟨A9, c9_, e8, _⟩ := own_slice ho8; subst e8; obtain ⟨c8K, f8K⟩ := HFC.out _ hg8; have HO8 := h_ ho8; have HG8 := h_ hg8; clear ho8 hg8 hvb8; refine Stop.out ?_))
       clear hWC hp7 c9 h18 hWa19 h19 hWb19
       rw [← HLU.out] at HO8
       have HSX := h_ (HSC.out.app HG8.out HO8.out)
       obtain ⟨WX, hWX⟩ := eX (wX.setCell ⟨p12, 0, none⟩ (.slice A9 (i + 1) c9_))
       have hgX : wX.grownBy WX (some p12) := by rw [← hWX]; exact grown_set p12 0 _
       rw [hWX] at HSX
       have r19X : WX.heap[p19]? = some (.cells l19.toArray 156 (0, 0)) := by
        refine (hgX.block _ (Nat.lt_of_lt_of_le (b_ R19C) HG8.out.size) (fun e => by have := Option.some.inj e; have := HL19.out; omega)).trans ((HG8.out.block _ (b_ R19C) (fun e => ?_)).trans R19C.out)
        have h1 := HS19.out.own.lt _ e.symm
        have h2 := HOB.out _ e.symm
        have h3 := HL19.out
        omega
       have hbKX : Below K WC WX := by
        have hg := HG8.out
        have h0 : Below K WC wX := ⟨hg.os, hg.tape, hg.output, hg.size, fun b hb => hg.block b (by have := HSC.out.K_le; omega) (fun e => by have := (HSC.out.own.lt _ e.symm).1; have := HSC.out.lay; omega)⟩
        exact bel_grown h0 (by have := HSC.out.K_le; have := hg.size; omega) hgX (by have := HSC.out.lay; omega)
       have HVX2 := h_ (V19C.out.bel hbKX)
       obtain ⟨l0, ⟨y0, hy0, hy1⟩, hrow0, hv0⟩ := HSX.out.x
       obtain ⟨WY, hWY, TY, RY, GY⟩ := put_rowR (new := l19) hrow0 (by
        obtain ⟨y, hy, _⟩ := in_one V19.out
        have e19 : l19 = [y, .bool sd.isNone] := by simpa using hy
        rw [e19, hy0]
        rfl)
       have HSY : Hid (SpS Q K K p8 p11 p12 w lz l8 sd (us ++ [u]) A9 (i + 1) c9_ WY) := h_ (by
        obtain ⟨y, hy, hyo⟩ := in_one V19.out
        have e19 : l19 = [y, .bool sd.isNone] := by simpa using hy
        exact HSX.out.putX GY.out ⟨y, e19, hyo⟩ RY.out HVX2.out)
       have HWY := h_ hWY
       have HTY := h_ TY.out
       have HRG19 := h_ (range_of_row r19X)
       have HFIN : Hid ((getUps (i + 1) st0).2 = sd ∧ (getUps (i + 1) st0).1 = us ++ [u]) := h_ (by
        rw [getUps_snoc, HST.out, HUS.out]
        exact ⟨HUP.out.2, by rw [HUP.out.1]⟩)
       clear hgX r19X hbKX hrow0 hv0 hy0 hy1 hWY TY RY GY
       refine Stop.mk ?_
       go_wp2_with (first
        | ((with_reducible (refine wpList_load_cells 156 _ p19 0 (l19) HRG19.out Tryz.underlying156 rfl I19l.out ?_ rfl ?_ ?_)); exact rfl; (exact rfl))
        | ((with_reducible (refine wpList_store_mid rfl _ _ _ rfl ?_ ?_ ?_ ?_ ?_ ?_ ?_ ?_ ?_)); exact p11; exact 0; (exact (l19).toArray); exact rfl; exact rfl; exact HTY.out; exact I19a.out; exact O19.out; rw [HWY.out]))
       go_roundg (k - (i + 1))
       case measure => omega
       case rel => exact ⟨i + 1, A9, c9_, by omega, rfl, by first | rfl | exact congrArg (Value.int .i64) (by omega) | go_num, h_ (by rw [HFIN.out.1, HFIN.out.2]; exact HSY.out)⟩
    ·have hik : i = k := by omega
     have j1 : ¬ (i : Int) < (k : Int) := by omega
     have HPD : Hid (doneS (getId (getText st 1048576).2).2 = (parseT P).2) := h_ (by
      unfold parseT
      simp only [HKE.out]
      rw [← hik, HST.out])
     have HPN : Hid (∀ T, doneS (getId (getText st 1048576).2).2 = true → T = (⟨us, (getText st 1048576).1, (getId (getText st 1048576).2).1⟩ : TxM) → T = (parseT P).1) := h_ (fun T _ hT => by
      rw [hT]
      unfold parseT
      simp only [HKE.out]
      rw [← hik, HST.out, HUS.out])
     clear hlt hik
     have HTS : Hid (doneS (getId (getText st 1048576).2).2 = true → (⟨us, (getText st 1048576).1, (getId (getText st 1048576).2).1⟩ : TxM) = (parseT P).1) := h_ (fun h => HPN.out _ h rfl)
     go_wp2_with ((with_reducible (refine wpList_load_cells 156 _ p11 0 (l) HRGX.out Tryz.underlying156 rfl HIXL.out ?_ rfl ?_ ?_)); exact rfl; (exact rfl))
     refine (igettext_any (K := PK K Q) st (.agg l.toArray) 1048576 wr HVX.out).mono ?_
     rintro e w13 ⟨u15, rfl, hu15, hb13⟩
     have hS13 := HS.out.below hb13
     obtain ⟨l15, p15, Wa15, W15, rfl, h15, hWa15, hW15, T15, I15a, I15l, O15, R15, B15, V15, _⟩ := in_place hu15 hS13.K_le
     have HW15 := h_ hW15
     have HS15 := h_ (hS13.below B15.out)
     have HRG15 := h_ (range_of_row R15.out)
     obtain ⟨nm, hnm_⟩ := eX ((getText st 1048576).1)
     obtain ⟨sb, hsb⟩ := eX ((getText st 1048576).2)
     have hnml : nm.length ≤ 1048576 := by rw [← hnm_]; exact getText_le _
     rw [hnm_, hsb] at HTS
     rw [hsb] at V15 HPD
     rw [hnm_]
     clear hu15 hb13 hS13 hW15 hnm_ hsb B15
     try clear cx1
     try clear cx1'
     go_wp2_with (first
      | ((with_reducible (refine wpList_store_mid rfl _ _ _ rfl ?_ ?_ ?_ ?_ ?_ ?_ ?_ ?_ ?_)); exact p15; exact 0; (exact (l15).toArray); exact rfl; exact rfl; exact T15.out; exact I15a.out; exact O15.out; rw [HW15.out])
      | ((with_reducible (refine wpList_load_cells 156 _ p15 0 (l15) HRG15.out Tryz.underlying156 rfl I15l.out ?_ rfl ?_ ?_)); exact rfl; (exact rfl)))
     clear h15 hWa15
     refine (igetid_any (K := PK K Q) sb (.agg l15.toArray) W15 V15.out).mono ?_
     rintro e w16 ⟨u17, rfl, hu17, hb16⟩
     have hS16 := HS15.out.below hb16
     obtain ⟨ia, hia⟩ := eX ((getId sb).1)
     obtain ⟨sc, hsc⟩ := eX ((getId sb).2)
     have HIAL : Hid (ia.length = 32) := h_ (by rw [← hia]; exact getId_len _)
     rw [hia, hsc] at HTS
     rw [hsc] at hu17 HPD
     rw [hia]
     obtain ⟨l17, p16, p17, Wa17, Wb17, Wc17, W17, rfl, h16, hWa17, h17, hWb17, hWc17, hW17, T16, T17, I17a, I17l, O17, R16, R17, B17, V17, L17⟩ := two_place hu17 hS16.K_le ia HIAL.out
     have HWC17 := h_ hWc17
     have HW17 := h_ hW17
     have HS17 := h_ (hS16.below B17.out)
     have HLP : Hid (p12 < p16 ∧ p12 < p17) := h_ ⟨by have := hS16.sz; omega, by have := hS16.sz; have := L17.out; omega⟩
     have HII := h_ (rinfo_a ia HIAL.out)
     have HIIL := h_ (rinfo_l ia HIAL.out)
     have HOI : Hid ((b8s ia).toArray.all (·.oneCell') = true) := h_ (all_oneCell_toArray (b8s_one' _))
     have c121 : W17.cell? ⟨p12, 1, none⟩ = some (.string ⟨#[]⟩) := (tx_cells' HS17.out.row).2.1
     have f121 : W17.frozen? ⟨p12, 1, none⟩ = false := row_free HS17.out.row 1
     obtain ⟨W20, hW20⟩ := eX (W17.setCell ⟨p12, 1, none⟩ (.string ⟨nm.toArray⟩))
     have g20 : W17.grownBy W20 (some p12) := by rw [← hW20]; exact grown_set p12 1 _
     have r20 : W20.heap[p12]? = some (.cells ([Value.slice Ai i ci, strV nm] ++ b8s Z32 ++ []).toArray 123 (0, 0)) := by
      rw [← hW20]
      have h1 := row_set HS17.out.row 1 (.string ⟨nm.toArray⟩)
      exact h1
     have R1620 : Hid (W20.heap[p16]? = some (.cells (b8s ia).toArray 23 (0, 0))) := h_ ((g20.block _ (b_ R16) (fun e => by have := Option.some.inj e; have := HLP.out; omega)).trans R16.out)
     obtain ⟨W21, hW21, T21, R21, G21⟩ := put_mid (vs := b8s ia) r20 (by rw [b8s_length, b8s_length, HIAL.out]; rfl)
     have hW21' : W20.setCells p12 2 (b8s ia).toArray.toList = W21 := hW21
     have T21' : Hid (W20.there p12 2 (b8s ia).toArray.size) := T21
     have g21 : W17.grownBy W21 (some p12) := grown_trans1 g20 G21.out
     obtain ⟨T, hT⟩ : ∃ T : TxM, T = ⟨us, nm, ia⟩ := ⟨_, rfl⟩
     have HTE := h_ hT
     have HTO : Hid (TxOk T) := h_ (by
      rw [hT]
      exact ⟨HIAL.out, by rw [← HUS.out]; exact getUps_ok _ _, by show nm.length ≤ _; omega, by show us.length ≤ _; rw [← HUS.out, getUps_length]; omega⟩)
     have HTUL : Hid (T.us = us ∧ us.length = i) := h_ ⟨by rw [hT], by rw [← HUS.out, getUps_length]⟩
     have HR21 : Hid (W21.heap[p12]? = some (.cells (txC Ai i ci T).toArray 123 (0, 0))) := h_ (by have h1 := R21.out; rw [hT]; simpa [txC] using h1)
     have hbK21 : Below K W17 W21 := ⟨g21.os, g21.tape, g21.output, g21.size, fun b hb => g21.block b (by have := HS17.out.K_le; omega) (fun e => by have := Option.some.inj e; have := HS17.out.lay; omega)⟩
     have V21 : Hid (InV (PK K Q) W21 (.agg l17.toArray) sc) := h_ (V17.out.bel hbK21)
     have R1721 : Hid (W21.heap[p17]? = some (.cells l17.toArray 156 (0, 0))) := h_ ((g21.block _ (b_ R17) (fun e => by have := Option.some.inj e; have := HLP.out; omega)).trans R17.out)
     have R821 : Hid (W21.heap[p8]? = some (.cells l8.toArray 156 (0, 0))) := h_ ((g21.block _ (Array.getElem?_eq_some_iff.1 HS17.out.s8).1 (fun e => by have := Option.some.inj e; have := HS17.out.lay; omega)).trans HS17.out.s8)
     have R221 : Hid (W21.heap[K]? = some (.cells lz.toArray 123 (0, 0))) := h_ ((g21.block _ (Array.getElem?_eq_some_iff.1 HS17.out.res).1 (fun e => by have := Option.some.inj e; have := HS17.out.lay; omega)).trans HS17.out.res)
     have OW21 : Hid (W21.ownsRow (p12 + 1) 131 65 (.slice Ai i ci) i (upsC us)) := h_ (own_far HS17.out.own (by omega) g21)
     have BK21 : Hid (Below K w W21) := h_ (HS17.out.bel.trans hbK21)
     have HLAY := h_ HS17.out.lay
     have HKW : Hid (K ≤ W21.heap.size) := h_ (by have := HS17.out.K_le; have := g21.size; omega)
     have HIL := h_ (rinfo_txl (A := Ai) (n := i) (c := ci) HTO.out.al)
     have HITA := h_ (rinfo_txa (A := Ai) (n := i) (c := ci) HTO.out.al)
     have HOT : Hid ((txC Ai i ci T).toArray.all (·.oneCell') = true) := h_ (all_oneCell_toArray (txC_one _ _ _ _))
     have HTLL : Hid ((txC Ai i ci T).length = 34) := h_ (txC_len HTO.out.al)
     have HLT0 : Hid (Hid (txC Ai i ci T = txC Ai i ci T)) := h_ (h_ rfl)
     obtain ⟨lt, hlt9⟩ := eX (txC Ai i ci T)
     have HLT := h_ hlt9
     rw [hlt9] at HIL HITA HOT HTLL HR21
     have HW21 := h_ hW21'
     have HS0 : Hid (∀ W, Below W21.heap.size W21 W → W.rangeAt p12 0 lt ∧ W.cell? ⟨p8, 0, none⟩ = some (.slice A8 n8 c8) ∧ W.rangeAt p17 0 l17) := h_ (fun W hb => ⟨range_of_row ((hb.block _ (b_ HR21)).trans HR21.out), by rw [row_cell ((hb.block _ (b_ R821)).trans R821.out) 0]; exact HC80.out, range_of_row ((hb.block _ (b_ R1721)).trans R1721.out)⟩)
     have HPUT : Hid (∀ W, Below W21.heap.size W21 W → ∃ W', W.setCells K 0 lt.toArray.toList = W' ∧ Hid (W.there K 0 lt.toArray.size) ∧ Hid (W'.heap[K]? = some (.cells lt.toArray 123 (0, 0))) ∧ Hid (W'.rangeAt p12 0 lt ∧ W'.cell? ⟨p8, 0, none⟩ = some (.slice A8 n8 c8) ∧ W'.rangeAt p17 0 l17) ∧ Hid (Rd W' Ai (upsC T.us)) ∧ Hid (Below K w W')) := h_ (fun W hb => by
      have h2 := (hb.block _ (b_ R221)).trans R221.out
      obtain ⟨W', e, t, k', g'⟩ := put_rowR (new := lt) h2 (by rw [HTLL.out, HLZL.out])
      have f1 := (g'.out.block _ (Nat.lt_of_lt_of_le (b_ HR21) hb.size) (fun e => by have := Option.some.inj e; have := HLAY.out; omega)).trans ((hb.block _ (b_ HR21)).trans HR21.out)
      have f2 := (g'.out.block _ (Nat.lt_of_lt_of_le (b_ R821) hb.size) (fun e => by have := Option.some.inj e; have := HLAY.out; omega)).trans ((hb.block _ (b_ R821)).trans R821.out)
      have f3 := (g'.out.block _ (Nat.lt_of_lt_of_le (b_ R1721) hb.size) (fun e => by have := Option.some.inj e; have := HLAY.out; have := HLP.out; omega)).trans ((hb.block _ (b_ R1721)).trans R1721.out)
      refine ⟨W', e, t, k', h_ ⟨range_of_row f1, by rw [row_cell f2 0]; exact HC80.out, range_of_row f3⟩, h_ ?_, h_ (bel_grown (BK21.out.trans (hb.mono HKW.out)) (Nat.le_trans HKW.out hb.size) g'.out (Nat.le_refl _))⟩
      rw [HTUL.out.1]
      exact own_rd (own_far (own_below OW21.out hb) (by have := HLAY.out; omega) g'.out))
     obtain ⟨dn, hdn⟩ := eX (doneS sc)
     have HDN : Hid (Calls Tryz.prog 91 #[.agg l17.toArray] W21.drew fun e w' => e = .returned (.bool dn) ∧ Below W21.heap.size W21.drew w') := h_ (by
      have h1 := idone_any (K := PK K Q) sc (.agg l17.toArray) W21.drew (V21.out.bel (Below.refl _ _).drew)
      rw [hdn] at h1
      exact h1)
     rw [hdn] at HTS HPD
     obtain ⟨A', hA'⟩ := eX ((if c8 = n0 then A8 else Option.map (fun x => x.add n0) A8))
     have HA' := h_ hA'
     have HDR : Hid (∀ W, Below K w W → Rd W A' (b8s (bs.drop (bs.length - rest.length + n0)))) := h_ (fun W hb => by
      have h1 := Rd.drop (k := n0) (size := 1) (cap := c8) (HRK.out W hb).1 (by rw [b8s_length, ← HN8.out]; omega)
      rw [Nat.mul_one, ← b8s_drop, HA'.out] at h1
      have e9 : bs.drop (bs.length - rest.length + n0) = rest.drop n0 := by rw [← List.drop_drop, ← HRS.out]
      rw [e9]
      exact h1)
     have HN0N : Hid (n - (bs.length - rest.length + n0) = n8 - n0) := h_ (by have := HNL.out; have := HN8.out; omega)
     obtain ⟨lia, hlia⟩ := eX (b8s ia)
     rw [hlia] at T16 HWC17 HII HIIL HOI T21' HW21
     have R16l : Hid (W20.heap[p16]? = some (.cells lia.toArray 23 (0, 0))) := h_ (by rw [← hlia]; exact R1620.out)
     have HRG16 := h_ (range_of_row R16l.out)
     try rw [hlia]
     clear hu17 hb16 hS16 hia hsc hWc17 hW17 g20 r20 hW21 T21 R21 G21 hW21' g21 hT hbK21 hlt9 hdn hlia R1620
     go_wp2_with (first
      | ((with_reducible (refine wpList_store_mid rfl _ _ _ rfl ?_ ?_ ?_ ?_ ?_ ?_ ?_ ?_ ?_)); exact p16; exact 0; (exact (lia).toArray); exact rfl; exact rfl; exact T16.out; exact HII.out; exact HOI.out; rw [HWC17.out])
      | ((with_reducible (refine wpList_store_mid rfl _ _ _ rfl ?_ ?_ ?_ ?_ ?_ ?_ ?_ ?_ ?_)); exact p17; exact 0; (exact (l17).toArray); exact rfl; exact rfl; exact T17.out; exact I17a.out; exact O17.out; rw [HW17.out])
      | ((with_reducible (refine wpList_load_cells 23 _ p16 0 (lia) HRG16.out Tryz.underlying23 rfl HIIL.out ?_ rfl ?_ ?_)); exact rfl; (exact rfl))
      | ((with_reducible (refine wpList_store_mid rfl _ _ _ rfl ?_ ?_ ?_ ?_ ?_ ?_ ?_ ?_ ?_)); exact p12; exact 2; (exact (lia).toArray); exact rfl; exact rfl; (exact T21'.out); exact HII.out; exact HOI.out; rw [HW21.out]))
     clear h16 hWa17 h17 hWb17 c121 f121 hW20
     cases dn with
     | false =>
       have HSQ : Hid (SP.2.2 = false) := h_ (by rw [HSPE.out]; dsimp only; rw [← HPD.out]; rfl)
       refine wp_region_sched (fun w' => w'.rangeAt p12 0 lt ∧ w'.cell? ⟨p8, 0, none⟩ = some (.slice A8 n8 c8) ∧ w'.rangeAt p17 0 l17) [(true, 0), (true, 1), (true, 2), (true, 3), (true, 4), (true, 5), (false, 6), (true, 7), (true, 8), (true, 10), (false, 9), (true, 11), (true, 12), (false, 13), (true, 14), (true, 15)] (by kernel_rfl) (by kernel_rfl) rfl (by kernel_rfl) (HS0.out _ (Below.refl _ _).drew) ?_
       refine wpS_load _ rfl (by rfl) 123 _ rfl p12 0 rfl lt _ (fun w' hS => hS.1) Tryz.underlying123 rfl HIL.out ?_
       simp only [LY]
       iterate 4 ((first | refine wpS_pass _ rfl (by rfl) ?_ | (refine wpS_take _ ?_ rfl (by rfl) ?_ ?_; rotate_left; (focus (intro w' hS'; (try dsimp only at hS'); (repeat (have hS1 := hS'.1; replace hS' := hS'.2)); go_simp; (try with_reducible rfl); done)))); simp only [LY])
       try rw [hA']
       refine wpS_load _ rfl (by rfl) 156 _ rfl p17 0 rfl l17 _ (fun w' hS => hS.2.2) Tryz.underlying156 rfl I17l.out ?_
       simp only [LY]
       refine wpS_do _ rfl (by rfl) (fun KK hKK => ?_)
       go_simp
       refine HDN.out.mono ?_
       rintro e w22 ⟨rfl, hb22⟩
       have HB22 : Hid (Below W21.heap.size W21 w22) := h_ ((Below.refl _ _).drew.trans hb22)
       have HBK22 : Hid (Below K w w22) := h_ (BK21.out.trans (HB22.out.mono HKW.out))
       refine hKK.out _ _ (HS0.out _ HB22.out) (fun hS => ?_)
       clear hKK hS hb22
       iterate 3 ((first | refine wpS_pass _ rfl (by rfl) ?_ | (refine wpS_take _ ?_ rfl (by rfl) ?_ ?_; rotate_left; (focus (intro w' hS'; (try dsimp only at hS'); (repeat (have hS1 := hS'.1; replace hS' := hS'.2)); go_simp; (try with_reducible rfl); done)))); simp only [LY])
       refine wpS_skip _ rfl (by rfl) (HS0.out _ HB22.out) ?_
       simp only [LY]
       iterate 2 ((first | refine wpS_pass _ rfl (by rfl) ?_ | (refine wpS_take _ ?_ rfl (by rfl) ?_ ?_; rotate_left; (focus (intro w' hS'; (try dsimp only at hS'); (repeat (have hS1 := hS'.1; replace hS' := hS'.2)); go_simp; (try with_reducible rfl); done)))); simp only [LY])
       obtain ⟨W23, hW23, T23, R23, S23, D23, B23⟩ := HPUT.out _ HB22.out
       have HW23 := h_ hW23
       clear hW23
       refine wpS_store_mid _ rfl (by rfl) 123 _ _ rfl K 0 lt.toArray rfl rfl T23.out HITA.out HOT.out ?_ ?_
       ·rw [HW23.out]
        exact S23.out
       simp only [LY]
       iterate 2 ((first | refine wpS_pass _ rfl (by rfl) ?_ | (refine wpS_take _ ?_ rfl (by rfl) ?_ ?_; rotate_left; (focus (intro w' hS'; (try dsimp only at hS'); (repeat (have hS1 := hS'.1; replace hS' := hS'.2)); go_simp; (try with_reducible rfl); done)))); simp only [LY])
       refine wpS_done ?_
       rw [HW23.out]
       go_wp2_with fail
       refine bodyPost_ret (results_row_two rfl _ _ _ _ _ _ _ rfl R23.out Tryz.underlying123 rfl HITA.out) rfl ?_
       refine ⟨T, Ai, ci, A', n8 - n0, c8 - n0, ?_, HTO.out, D23.out, by first | exact B23.out | (rw [hK]; exact B23.out), ?_⟩
       ·rw [HSQ.out, HTUL.out.1, HTUL.out.2, HLT.out]
        rfl
       ·intro h
        rw [HSQ.out] at h
        cases h
     | true =>
       obtain ⟨cr, hcr⟩ := eX ((crc P).toNat)
       have HCR := h_ hcr
       have HSUM : Hid (∀ W, Below K w W → Calls Tryz.prog 92 #[.slice A8 n0 c8] W fun e w' => W = w' ∧ e = .returned (.int .u32 (cr : Int))) := h_ (fun W hb => by
        have h1 := rsum_any A8 P c8 W (HRK.out W hb).2 (by rw [HPL.out]; unfold maxLen; omega)
        rw [hcr, HPL.out] at h1
        exact h1)
       clear hcr
       by_cases hcs : cr = sm
       ·have z6 : (cr : Int) = (sm : Int) := by omega
        have z7 : ((cr : Int) == (sm : Int)) = true := by rw [beq_iff_eq]; exact z6
        have HSQ : Hid (SP.2.2 = true) := h_ (by rw [HSPE.out]; dsimp only; rw [← HPD.out, HCR.out, decide_eq_true hcs]; rfl)
        clear hcs
        refine wp_region_sched (fun w' => w'.rangeAt p12 0 lt ∧ w'.cell? ⟨p8, 0, none⟩ = some (.slice A8 n8 c8) ∧ w'.rangeAt p17 0 l17) [(true, 0), (true, 1), (true, 2), (true, 3), (true, 4), (true, 5), (false, 6), (true, 7), (true, 8), (true, 10), (false, 9), (true, 11), (true, 12), (false, 13), (true, 14), (true, 15)] (by kernel_rfl) (by kernel_rfl) rfl (by kernel_rfl) (HS0.out _ (Below.refl _ _).drew) ?_
        refine wpS_load _ rfl (by rfl) 123 _ rfl p12 0 rfl lt _ (fun w' hS => hS.1) Tryz.underlying123 rfl HIL.out ?_
        simp only [LY]
        iterate 4 ((first | refine wpS_pass _ rfl (by rfl) ?_ | (refine wpS_take _ ?_ rfl (by rfl) ?_ ?_; rotate_left; (focus (intro w' hS'; (try dsimp only at hS'); (repeat (have hS1 := hS'.1; replace hS' := hS'.2)); go_simp; (try with_reducible rfl); done)))); simp only [LY])
        try rw [hA']
        refine wpS_load _ rfl (by rfl) 156 _ rfl p17 0 rfl l17 _ (fun w' hS => hS.2.2) Tryz.underlying156 rfl I17l.out ?_
        simp only [LY]
        refine wpS_do _ rfl (by rfl) (fun KK hKK => ?_)
        go_simp
        refine HDN.out.mono ?_
        rintro e w22 ⟨rfl, hb22⟩
        have HB22 : Hid (Below W21.heap.size W21 w22) := h_ ((Below.refl _ _).drew.trans hb22)
        have HBK22 : Hid (Below K w w22) := h_ (BK21.out.trans (HB22.out.mono HKW.out))
        refine hKK.out _ _ (HS0.out _ HB22.out) (fun hS => ?_)
        clear hKK hS hb22
        iterate 3 ((first | refine wpS_pass _ rfl (by rfl) ?_ | (refine wpS_take _ ?_ rfl (by rfl) ?_ ?_; rotate_left; (focus (intro w' hS'; (try dsimp only at hS'); (repeat (have hS1 := hS'.1; replace hS' := hS'.2)); go_simp; (try with_reducible rfl); done)))); simp only [LY])
        refine wpS_do _ rfl (by rfl) (fun KK hKK => ?_)
        go_simp
        refine (HSUM.out _ HBK22.out).mono ?_
        rintro e w23 ⟨rfl, rfl⟩
        refine hKK.out _ _ (HS0.out _ HB22.out) (fun hS => ?_)
        clear hKK hS
        iterate 2 ((first | refine wpS_pass _ rfl (by rfl) ?_ | (refine wpS_take _ ?_ rfl (by rfl) ?_ ?_; rotate_left; (focus (intro w' hS'; (try dsimp only at hS'); (repeat (have hS1 := hS'.1; replace hS' := hS'.2)); go_simp; (try with_reducible rfl); done)))); simp only [LY])
        obtain ⟨W23, hW23, T23, R23, S23, D23, B23⟩ := HPUT.out _ HB22.out
        have HW23 := h_ hW23
        clear hW23
        refine wpS_store_mid _ rfl (by rfl) 123 _ _ rfl K 0 lt.toArray rfl rfl T23.out HITA.out HOT.out ?_ ?_
        ·rw [HW23.out]
         exact S23.out
        simp only [LY]
        iterate 2 ((first | refine wpS_pass _ rfl (by rfl) ?_ | (refine wpS_take _ ?_ rfl (by rfl) ?_ ?_; rotate_left; (focus (intro w' hS'; (try dsimp only at hS'); (repeat (have hS1 := hS'.1; replace hS' := hS'.2)); go_simp; (try with_reducible rfl); done)))); simp only [LY])
        refine wpS_done ?_
        rw [HW23.out]
        go_wp2_with fail
        refine bodyPost_ret (results_row_two rfl _ _ _ _ _ _ _ rfl R23.out Tryz.underlying123 rfl HITA.out) rfl ?_
        refine ⟨T, Ai, ci, A', n8 - n0, c8 - n0, ?_, HTO.out, D23.out, by first | exact B23.out | (rw [hK]; exact B23.out), ?_⟩
        ·rw [HSQ.out, HTUL.out.1, HTUL.out.2, HLT.out]
         rfl
        ·intro _
         have h1 := HTS.out (by first | rfl | trivial)
         rw [← HTE.out] at h1
         rw [HSPE.out]
         refine ⟨h1, HN0N.out.symm, HDR.out _ B23.out, by omega, by have h9 := hcm8; unfold maxLen at h9; omega, fun hne a ha => ?_⟩
         have e9 : bs.drop (bs.length - rest.length + n0) = rest.drop n0 := by rw [← List.drop_drop, ← HRS.out]
         exact (drop_lt (HA8.out (fun e => by
          have h8 : rest.length = 0 := by rw [e]; rfl
          first
           | exact hne (by dsimp only; rw [e9, e, List.drop_nil])
           | (have h9 : bs.length - rest.length + n0 < bs.length := hne; omega))) (HA'.out.trans ha)).2
       ·have z6 : ¬ (cr : Int) = (sm : Int) := by omega
        have z7 : ((cr : Int) == (sm : Int)) = false := by rw [beq_eq_false_iff_ne]; exact z6
        have HSQ : Hid (SP.2.2 = false) := h_ (by rw [HSPE.out]; dsimp only; rw [← HPD.out, HCR.out, decide_eq_false hcs]; rfl)
        clear hcs
        refine wp_region_sched (fun w' => w'.rangeAt p12 0 lt ∧ w'.cell? ⟨p8, 0, none⟩ = some (.slice A8 n8 c8) ∧ w'.rangeAt p17 0 l17) [(true, 0), (true, 1), (true, 2), (true, 3), (true, 4), (true, 5), (false, 6), (true, 7), (true, 8), (true, 10), (false, 9), (true, 11), (true, 12), (false, 13), (true, 14), (true, 15)] (by kernel_rfl) (by kernel_rfl) rfl (by kernel_rfl) (HS0.out _ (Below.refl _ _).drew) ?_
        refine wpS_load _ rfl (by rfl) 123 _ rfl p12 0 rfl lt _ (fun w' hS => hS.1) Tryz.underlying123 rfl HIL.out ?_
        simp only [LY]
        iterate 4 ((first | refine wpS_pass _ rfl (by rfl) ?_ | (refine wpS_take _ ?_ rfl (by rfl) ?_ ?_; rotate_left; (focus (intro w' hS'; (try dsimp only at hS'); (repeat (have hS1 := hS'.1; replace hS' := hS'.2)); go_simp; (try with_reducible rfl); done)))); simp only [LY])
        try rw [hA']
        refine wpS_load _ rfl (by rfl) 156 _ rfl p17 0 rfl l17 _ (fun w' hS => hS.2.2) Tryz.underlying156 rfl I17l.out ?_
        simp only [LY]
        refine wpS_do _ rfl (by rfl) (fun KK hKK => ?_)
        go_simp
        refine HDN.out.mono ?_
        rintro e w22 ⟨rfl, hb22⟩
        have HB22 : Hid (Below W21.heap.size W21 w22) := h_ ((Below.refl _ _).drew.trans hb22)
        have HBK22 : Hid (Below K w w22) := h_ (BK21.out.trans (HB22.out.mono HKW.out))
        refine hKK.out _ _ (HS0.out _ HB22.out) (fun hS => ?_)
        clear hKK hS hb22
        iterate 3 ((first | refine wpS_pass _ rfl (by rfl) ?_ | (refine wpS_take _ ?_ rfl (by rfl) ?_ ?_; rotate_left; (focus (intro w' hS'; (try dsimp only at hS'); (repeat (have hS1 := hS'.1; replace hS' := hS'.2)); go_simp; (try with_reducible rfl); done)))); simp only [LY])
        refine wpS_do _ rfl (by rfl) (fun KK hKK => ?_)
        go_simp
        refine (HSUM.out _ HBK22.out).mono ?_
        rintro e w23 ⟨rfl, rfl⟩
        refine hKK.out _ _ (HS0.out _ HB22.out) (fun hS => ?_)
        clear hKK hS
        iterate 2 ((first | refine wpS_pass _ rfl (by rfl) ?_ | (refine wpS_take _ ?_ rfl (by rfl) ?_ ?_; rotate_left; (focus (intro w' hS'; (try dsimp only at hS'); (repeat (have hS1 := hS'.1; replace hS' := hS'.2)); go_simp; (try with_reducible rfl); done)))); simp only [LY])
        obtain ⟨W23, hW23, T23, R23, S23, D23, B23⟩ := HPUT.out _ HB22.out
        have HW23 := h_ hW23
        clear hW23
        refine wpS_store_mid _ rfl (by rfl) 123 _ _ rfl K 0 lt.toArray rfl rfl T23.out HITA.out HOT.out ?_ ?_
        ·rw [HW23.out]
         exact S23.out
        simp only [LY]
        iterate 2 ((first | refine wpS_pass _ rfl (by rfl) ?_ | (refine wpS_take _ ?_ rfl (by rfl) ?_ ?_; rotate_left; (focus (intro w' hS'; (try dsimp only at hS'); (repeat (have hS1 := hS'.1; replace hS' := hS'.2)); go_simp; (try with_reducible rfl); done)))); simp only [LY])
        refine wpS_done ?_
        rw [HW23.out]
        go_wp2_with fail
        refine bodyPost_ret (results_row_two rfl _ _ _ _ _ _ _ rfl R23.out Tryz.underlying123 rfl HITA.out) rfl ?_
        refine ⟨T, Ai, ci, A', n8 - n0, c8 - n0, ?_, HTO.out, D23.out, by first | exact B23.out | (rw [hK]; exact B23.out), ?_⟩
        ·rw [HSQ.out, HTUL.out.1, HTUL.out.2, HLT.out]
         rfl
        ·intro h
         rw [HSQ.out] at h
         cases h
end Go.Proofs.YtelbofikcpchiaaGreat
