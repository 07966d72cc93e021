/- RefsHead: the turns of one round. (Printed by wip/genRf26.py.) (With the texts that it stands on.) -/
import Derived.Test.YtelbofikcpchiaaGreatQH
import Derived.Deep.CutBlock
namespace Go.Proofs.YtelbofikcpchiaaGreat
open Go.RowKit
set_option linter.unusedSectionVars false
section
variable {P : Program} {ops : Array Oper} {rest : List Oper} {o : Oper} {a : Act} {w : World} {Q : Exit → Act → World → Prop}
theorem wpList_build2 (hg : o.guard = none) (t e : TypeId) (x y : Operand) (ho : o.op = .buildSlice t 2 #[(0, x), (1, y)]) (cs ds : List Value) (hx : a.eval x = .agg cs.toArray) (hy : a.eval y = .agg ds.toArray)
  (hu : P.underlying t = some (.slice e)) (hi : (P.info? e).map (fun i => (i.size, i.zero.isSome)) = some (cs.length, true)) (hl : ds.length = cs.length) (hpos : 0 < cs.length) (hs : 2 * cs.length ≤ 2 ^ 24)
  (h : wpList P ops Q rest (a.put o.dst (.slice (some ⟨w.heap.size, 0, none⟩) 2 2)) (w.alloc (.cells (cs ++ ds).toArray e))) : wpList P ops Q (o :: rest) a w := by
 cases hie : P.info? e with
 | none => simp [hie] at hi
 | some ie =>
   simp only [hie, Option.map_some, Option.some.injEq, Prod.mk.injEq] at hi
   obtain ⟨z, hz⟩ := Option.isSome_iff_exists.1 hi.2
   refine wpList_buildSlice hg t e 2 #[(0, x), (1, y)] ho (cs ++ ds).toArray ie z hu hie hz (by rw [hi.1]; omega) (by rw [hi.1]; omega) ?_ h
   have e1 : (#[(0, x), (1, y)].map fun (i, x) => (i, a.eval x)).toList = [(0, .agg cs.toArray), (1, .agg ds.toArray)] := by simp [hx, hy]
   rw [e1]
   obtain ⟨p, q, hq, hp, hql⟩ : ∃ p q : List Value, ((Array.range (2 * ie.size)).map (z.cells[· % z.cells.size]!)) = ([] ++ p ++ q).toArray ∧ p.length = cs.length ∧ q.length = cs.length := by
    obtain ⟨l, hl⟩ := eX (((Array.range (2 * ie.size)).map (z.cells[· % z.cells.size]!)))
    have hsz : l.toList.length = 2 * cs.length := by rw [← hl, ← hi.1]; simp
    refine ⟨l.toList.take cs.length, l.toList.drop cs.length, ?_, by rw [List.length_take, hsz]; omega, by rw [List.length_drop, hsz]; omega⟩
    rw [hl, List.nil_append, List.take_append_drop, Array.toArray_toList]
   rw [hq, fill_one _ [] p q cs _ 0 (by simp [hi.1]) hp, List.nil_append]
   have e2 : cs ++ q = cs ++ q ++ [] := by simp
   rw [e2, fill_one _ cs q [] ds [] 1 (by simp [hi.1, hl]) (by omega), List.append_nil]
   simp [Instr.fill]
end
theorem up_built2 {u : UpM} (h : upOk u) (hz : u.old = Z32) : Tryz.prog.built 31 [(0, strV u.name), (2, .agg (b8s u.new).toArray)] = some (upC u).toArray := by
 obtain ⟨nm, old, new⟩ := u
 obtain rfl : old = Z32 := hz
 obtain ⟨e0, e1, e2, e3, e4, e5, e6, e7, e8, e9, f0, f1, f2, f3, f4, f5, f6, f7, f8, f9, g0, g1, g2, g3, g4, g5, g6, g7, g8, g9, h0, h1, rfl⟩ := cells32 h.2.1
 kernel_rfl
theorem id0_built : Tryz.prog.built 24 [] = some (b8s Z32).toArray := by kernel_rfl
theorem id1_built (c : UInt8) : Tryz.prog.built 24 [(0, .int .u8 (c.toNat : Int))] = some (b8s (c :: List.replicate 31 0)).toArray := by kernel_rfl
theorem upOkA : upOk uA := ⟨rfl, rfl, by decide⟩
theorem upOkB : upOk uB := ⟨rfl, rfl, by decide⟩
theorem upOkC : upOk uC := ⟨rfl, rfl, by decide⟩
theorem recA : (recordB (tx1 uA)).length ≤ 160 ∧ (payloadB (tx1 uA)).length ≤ 1000 := by
 have h1 := record1_le upOkA
 have h2 := payload_le (tx1_ok upOkA)
 have h3 : uA.name.length = 10 := rfl
 refine ⟨by omega, ?_⟩
 simp only [tx1, List.map_cons, List.map_nil, List.sum_cons, List.sum_nil, List.length_nil] at h2 ⊢
 omega
theorem twoOk : TxOk twoT where
 al := rfl
 us := by
  intro u hu
  simp only [twoT, List.mem_cons, List.mem_nil_iff, or_false] at hu
  rcases hu with rfl | rfl
  ·exact upOkB
  ·exact upOkC
 hd := by simp [twoT]
 ul := by simp [twoT]
set_option maxRecDepth 100000 in
set_option maxHeartbeats 8000000 in
theorem ralive_any (w : World) : Calls Tryz.prog 7 #[] w fun e w' => e = .returned (.bool true) ∧ Below w.heap.size w w' := by
 obtain ⟨p1, p2, p3, p4, p5, p6, p7, p8⟩ := aliveP
 have HNW := h_ (new_any 1000 (by omega) w)
 obtain ⟨l0, hl0⟩ := eX (b8s Z32)
 obtain ⟨l1, hl1⟩ := eX (b8s I1)
 have HP1 := h_ p1
 have HP2 := h_ p2
 have HP3 := h_ p3
 have HP4 := h_ p4
 have HP5 := h_ p5
 have HP6 := h_ p6
 have HP7 := h_ p7
 have HP8 := h_ p8
 have HID0 : Hid (Tryz.prog.built 24 [] = some l0.toArray) := h_ (by rw [← hl0]; exact id0_built)
 have HID1 : Hid (Tryz.prog.built 24 [(0, .int .u8 1)] = some l1.toArray) := h_ (by rw [← hl1]; exact id1_built 1)
 have HLT : Hid (∀ W : World, Calls Tryz.prog 27 #[.string ⟨#[104, 101, 97, 100, 115, 47, 109, 97, 105, 110]⟩, .agg l0.toArray, .agg l1.toArray] W fun e w' => ∃ b, W.heap.size ≤ b ∧ e = .returned (.agg (txC (some ⟨b, 0, none⟩) 1 1 (tx1 uA)).toArray) ∧ Below W.heap.size W w' ∧ Rd w' (some ⟨b, 0, none⟩) (upsC [uA])) := h_ (by
  intro W
  rw [← hl0, ← hl1]
  exact lawturn_any _ uA rfl upOkA W)
 have HE1 : Hid (∀ W, (binOp .eql 24 (.agg l1.toArray) (.agg l1.toArray)).run Tryz.prog W = .ok (.bool true) W) := h_ (by rw [← hl1]; intro W; rw [id_eql I1 I1 rfl rfl W, decide_eq_true rfl])
 have HE0 : Hid (∀ W, (binOp .eql 24 (.agg l0.toArray) (.agg l0.toArray)).run Tryz.prog W = .ok (.bool true) W) := h_ (by rw [← hl0]; intro W; rw [id_eql Z32 Z32 rfl rfl W, decide_eq_true rfl])
 have hgd := id_guard
 have HL0 := h_ hl0
 have HL1 := h_ hl1
 clear p1 p2 p3 p4 p5 p6 p7 p8 hl0 hl1
 go_enter Tryz.func7, Tryz.ntmps7
 go_wp2_with fail
 refine HNW.out.mono ?_
 rintro e w1 ⟨g, d, rfl, hd1, hb1⟩
 have HD1 := h_ hd1
 have HB1 := h_ hb1
 clear hd1 hb1
 go_wp2_with fail
 refine (open_at HD1.out (by omega)).mono ?_
 rintro e w2 ⟨gr, d2, q2, rfl, hr2, hb2⟩
 have HR2 := h_ hr2
 have HB2 := h_ (HB1.out.trans hb2)
 clear hr2 hb2
 go_wp2_with (first
  | ((with_reducible (refine wpList_built_w ?_ _ #[] ?_ _ ?_ _ HID0.out ?_)); (focus (rfl)); exact rfl; (exact rfl))
  | ((with_reducible (refine wpList_built_w ?_ _ #[(0, .const (.int .u8 1))] ?_ _ ?_ _ HID1.out ?_)); (focus (rfl)); exact rfl; (exact rfl)))
 refine (HLT.out _).mono ?_
 rintro e w3 ⟨b3, hb3, rfl, hbl3, hrd3⟩
 have HR3 := h_ (HR2.out.below hbl3)
 have HB3 := h_ (HB2.out.trans (hbl3.mono HB2.out.size))
 have HDO := h_ (HR3.out.turn (by omega) (some ⟨b3, 0, none⟩) 1 1 (tx1 uA) rfl (tx1_ok upOkA) hrd3 (fun _ a ha hf => by
  cases ha
  have := HR2.out.foot_lt hf
  dsimp only at this
  omega) (by have := recA.2; omega) ⟨by decide, by decide⟩ (by have := recA.1; simp; omega))
 rw [HP1.out] at HDO
 obtain ⟨lt, hlt⟩ := eX (txC (some ⟨b3, 0, none⟩) 1 1 (tx1 uA))
 rw [hlt] at HDO ⊢
 clear hb3 hbl3 hrd3 hlt
 go_wp2_with fail
 refine HDO.out.mono ?_
 clear HDO
 rintro e w4 ⟨rfl, d4, q4, hr4, hbl4, _⟩
 obtain ⟨bs4, hbs4⟩ := eX (bytP rf0 [] (tx1 uA))
 obtain ⟨L4, hL4⟩ := eX (0 + (recordB (tx1 uA)).length)
 rw [hbs4, hL4] at hr4
 have HR4 : Hid (RefsAt w.heap.size w4 g gr rA bs4 1000 L4 d4 q4) := h_ hr4
 have HB4 := h_ (HB3.out.trans hbl4)
 clear hr4 hbl4 hbs4 hL4
 go_wp2_with (first
  | ((with_reducible (refine wpList_built_w ?_ _ #[] ?_ _ ?_ _ HID0.out ?_)); (focus (rfl)); exact rfl; (exact rfl))
  | ((with_reducible (refine wpList_built_w ?_ _ #[(0, .const (.int .u8 1))] ?_ _ ?_ _ HID1.out ?_)); (focus (rfl)); exact rfl; (exact rfl)))
 refine (HLT.out _).mono ?_
 rintro e w5 ⟨b5, hb5, rfl, hbl5, hrd5⟩
 have HR5 := h_ (HR4.out.below hbl5)
 have HB5 := h_ (HB4.out.trans (hbl5.mono HB4.out.size))
 have HDO := h_ (do_bad HR5.out.dr.refs HR5.out.ok (some ⟨b5, 0, none⟩) 1 1 (tx1 uA) rfl (tx1_ok upOkA) hrd5 HP2.out (by decide))
 obtain ⟨lt, hlt⟩ := eX (txC (some ⟨b5, 0, none⟩) 1 1 (tx1 uA))
 rw [hlt] at HDO ⊢
 clear hb5 hbl5 hrd5 hlt
 go_wp2_with fail
 refine HDO.out.mono ?_
 clear HDO
 rintro e w6 ⟨rfl, hbl6⟩
 have HR6 := h_ (HR5.out.below hbl6)
 have HB6 := h_ (HB5.out.trans (hbl6.mono HB5.out.size))
 clear hbl6
 go_wp2_with fail
 have HHD := h_ (head_any HR6.out.dr.refs HR6.out.ok)
 rw [HP4.out, HP5.out, HL1.out] at HHD
 refine HHD.out.mono ?_
 clear HHD
 rintro e w7 ⟨rfl, hbl7⟩
 rw [show strV mainB = .string ⟨#[104, 101, 97, 100, 115, 47, 109, 97, 105, 110]⟩ from rfl]
 have HR7 := h_ (HR6.out.below hbl7)
 have HB7 := h_ (HB6.out.trans (hbl7.mono HB6.out.size))
 clear hbl7
 obtain ⟨Hz, Wa, W8, hH, hWa, hW8, HTH, HR8, HB8, _⟩ := arr_place (w := w7) 24 I1 rfl
 rw [HL1.out] at hW8 HTH HR8
 have HIA : Hid ((Tryz.prog.info? 24).map (·.size) = some l1.toArray.size) := h_ (by rw [← HL1.out]; exact info_ida I1 rfl)
 have HOC : Hid (l1.toArray.all (·.oneCell') = true) := h_ (by rw [← HL1.out]; exact all_oneCell_toArray (b8s_one' _))
 have HW8 := h_ hW8
 obtain ⟨l2, hl2⟩ := eX (b8s I2)
 obtain ⟨l3, hl3⟩ := eX (b8s I3)
 have HID2 : Hid (Tryz.prog.built 24 [(0, .int .u8 2)] = some l2.toArray) := h_ (by rw [← hl2]; exact id1_built 2)
 have HID3 : Hid (Tryz.prog.built 24 [(0, .int .u8 3)] = some l3.toArray) := h_ (by rw [← hl3]; exact id1_built 3)
 obtain ⟨lb, hlb⟩ := eX (upC uB)
 obtain ⟨lc, hlc⟩ := eX (upC uC)
 have HUB : Hid (Tryz.prog.built 31 [(0, .string ⟨#[116, 97, 103, 115, 47, 118]⟩), (2, .agg l2.toArray)] = some lb.toArray) := h_ (by rw [← hlb, ← hl2]; exact up_built2 upOkB rfl)
 have HUC : Hid (Tryz.prog.built 31 [(0, .string ⟨#[104, 101, 97, 100, 115, 47, 109, 97, 105, 110]⟩), (2, .agg l3.toArray)] = some lc.toArray) := h_ (by rw [← hlc, ← hl3]; exact up_built2 upOkC rfl)
 have HLN : Hid (lb.length = 65 ∧ lc.length = 65) := h_ ⟨by rw [← hlb]; exact upC_len upOkB, by rw [← hlc]; exact upC_len upOkC⟩
 have HIB : Hid ((Tryz.prog.info? 31).map (fun i => (i.size, i.zero.isSome)) = some (lb.length, true)) := h_ (by rw [HLN.out.1]; kernel_rfl)
 obtain ⟨p9, hp9⟩ := eX W8.heap.size
 obtain ⟨W9, hW9⟩ := eX (W8.alloc (.cells (lb ++ lc).toArray 31))
 obtain ⟨r9, b9, s9⟩ := new_row hW9
 rw [hp9] at r9
 obtain ⟨pt, hpt⟩ := eX W9.heap.size
 obtain ⟨WA, hWA⟩ := eX (W9.alloc (.cells #[Value.slice none 0 0, .string ⟨#[]⟩, Value.int .u8 0, .int .u8 0, .int .u8 0, .int .u8 0, .int .u8 0, .int .u8 0, .int .u8 0, .int .u8 0, .int .u8 0, .int .u8 0, .int .u8 0, .int .u8 0, .int .u8 0, .int .u8 0, .int .u8 0, .int .u8 0, .int .u8 0, .int .u8 0, .int .u8 0, .int .u8 0, .int .u8 0, .int .u8 0, .int .u8 0, .int .u8 0, .int .u8 0, .int .u8 0, .int .u8 0, .int .u8 0, .int .u8 0, .int .u8 0, .int .u8 0, .int .u8 0] 28))
 obtain ⟨rA', bA, sA⟩ := new_row hWA
 obtain ⟨lz, hlz⟩ := eX (txC none 0 0 t0)
 have hlz' : lz.toArray = #[Value.slice none 0 0, .string ⟨#[]⟩, Value.int .u8 0, .int .u8 0, .int .u8 0, .int .u8 0, .int .u8 0, .int .u8 0, .int .u8 0, .int .u8 0, .int .u8 0, .int .u8 0, .int .u8 0, .int .u8 0, .int .u8 0, .int .u8 0, .int .u8 0, .int .u8 0, .int .u8 0, .int .u8 0, .int .u8 0, .int .u8 0, .int .u8 0, .int .u8 0, .int .u8 0, .int .u8 0, .int .u8 0, .int .u8 0, .int .u8 0, .int .u8 0, .int .u8 0, .int .u8 0, .int .u8 0, .int .u8 0] := by rw [← hlz]; rfl
 rw [hpt, ← hlz'] at rA'
 obtain ⟨lt, hlt⟩ := eX (txC (some ⟨p9, 0, none⟩) 2 2 twoT)
 obtain ⟨WB, hWB, TB, RB, GB⟩ := put_rowR (new := lt) rA' (by rw [← hlt, ← hlz]; rfl)
 have HWB := h_ hWB
 have HTB : Hid (Tryz.prog.built 28 [(0, .slice (some ⟨p9, 0, none⟩) 2 2)] = some lt.toArray) := h_ (by rw [← hlt]; exact tx_built _ _ _)
 have HL2 : Hid (lt.toArray = #[Value.slice (some ⟨p9, 0, none⟩) 2 2, Value.string ⟨#[]⟩, Value.int .u8 0, .int .u8 0, .int .u8 0, .int .u8 0, .int .u8 0, .int .u8 0, .int .u8 0, .int .u8 0, .int .u8 0, .int .u8 0, .int .u8 0, .int .u8 0, .int .u8 0, .int .u8 0, .int .u8 0, .int .u8 0, .int .u8 0, .int .u8 0, .int .u8 0, .int .u8 0, .int .u8 0, .int .u8 0, .int .u8 0, .int .u8 0, .int .u8 0, .int .u8 0, .int .u8 0, .int .u8 0, .int .u8 0, .int .u8 0, .int .u8 0, .int .u8 0]) := h_ (by rw [← hlt]; rfl)
 have HIT : Hid ((Tryz.prog.info? 28).map (·.size) = some lt.toArray.size) := h_ (by rw [← hlt]; exact info_txa rfl)
 have HIT0 : Hid ((Tryz.prog.info? 28).map (·.size) = some lz.toArray.size) := h_ (by rw [← hlz]; exact info_txa rfl)
 have HOT : Hid (lt.toArray.all (·.oneCell') = true) := h_ (all_oneCell_toArray (by rw [← hlt]; exact txC_one _ _ _ _))
 have b9A : Below W8.heap.size W8 WA := b9.trans (bA.mono b9.size)
 have b8B : Below W8.heap.size W8 WB := bel_grown b9A b9A.size GB.out (by have := b9.size; omega)
 have b7B : Below w7.heap.size w7 WB := HB8.out.trans (b8B.mono HB8.out.size)
 have HRB := h_ (HR7.out.below b7B)
 have HBB := h_ (HB7.out.trans (b7B.mono HB7.out.size))
 have HRI : Hid (WB.heap[Hz]? = some (.cells l1.toArray 24 (0, 0))) := bl_ b8B HR8
 have HRT : Hid (Rd WB (some ⟨p9, 0, none⟩) (upsC twoT.us)) := h_ (by
  have e : upsC twoT.us = lb ++ lc := by rw [← hlb, ← hlc]; simp [upsC, twoT]
  rw [e]
  have h1 := (bA.block _ (Array.getElem?_eq_some_iff.1 r9).1).trans r9
  have h2 := (GB.out.block _ (Array.getElem?_eq_some_iff.1 h1).1 (fun e => by have := Option.some.inj e; have := (Array.getElem?_eq_some_iff.1 r9).1; omega)).trans h1
  exact range_rd (range_of_row h2))
 have HDB := h_ (do_bad HRB.out.dr.refs HRB.out.ok (some ⟨p9, 0, none⟩) 2 2 twoT rfl twoOk HRT.out HP3.out (by decide))
 rw [hlt] at HDB
 have HTBB := h_ TB.out
 clear hlz hlt hlb hlc hl2 hl3 r9 b9 s9 rA' bA sA b9A b8B b7B hWB TB GB hW8
 have hq1 := HE1.out
 have hq0 := HE0.out
 go_wp2_with (first
  | ((with_reducible (refine wpList_store_mid rfl _ _ _ rfl ?_ ?_ ?_ ?_ ?_ ?_ ?_ ?_ ?_)); exact Hz; exact 0; (exact (l1).toArray); exact rfl; exact rfl; exact HTH.out; exact HIA.out; exact HOC.out; rw [HW8.out])
  | ((with_reducible (refine wpList_built ?_ _ #[(0, .const (.int .u8 2))] ?_ _ ?_ _ HID2.out ?_)); exact rfl; exact rfl; (exact rfl))
  | ((with_reducible (refine wpList_built ?_ _ #[(0, .const (.int .u8 3))] ?_ _ ?_ _ HID3.out ?_)); exact rfl; exact rfl; (exact rfl))
  | ((with_reducible (refine wpList_built ?_ _ #[(0, .const (.string ⟨#[116, 97, 103, 115, 47, 118]⟩)), (2, .tmp 42)] ?_ _ ?_ _ HUB.out ?_)); exact rfl; exact rfl; (exact rfl))
  | ((with_reducible (refine wpList_built ?_ _ #[(0, .const (.string ⟨#[104, 101, 97, 100, 115, 47, 109, 97, 105, 110]⟩)), (2, .tmp 44)] ?_ _ ?_ _ HUC.out ?_)); exact rfl; exact rfl; (exact rfl))
  | (refine wpList_build2 rfl 26 31 _ _ rfl lb lc rfl rfl Tryz.underlying26 HIB.out (by rw [HLN.out.1, HLN.out.2]) (by rw [HLN.out.1]; omega) (by rw [HLN.out.1]; omega) ?_)
  | ((with_reducible (refine wpList_built ?_ _ #[(0, .tmp 46)] ?_ _ ?_ _ HTB.out ?_)); exact rfl; exact rfl; (exact rfl))
  | (rw [← HL2.out]; ((with_reducible (refine wpList_store_mid rfl _ _ _ rfl ?_ ?_ ?_ ?_ ?_ ?_ ?_ ?_ ?_)); exact pt; exact 0; (exact (lt).toArray); exact rfl; exact rfl; exact HTBB.out; exact HIT.out; exact HOT.out; rw [HWB.out]))
  | ((with_reducible (refine wpList_store_mid rfl _ _ _ rfl ?_ ?_ ?_ ?_ ?_ ?_ ?_ ?_ ?_)); exact pt; exact 0; (exact (lt).toArray); exact rfl; exact rfl; exact HTBB.out; exact HIT.out; exact HOT.out; rw [HWB.out])
  | ((with_reducible (refine wpList_load_row_w _ _ rfl _ rfl _ _ _ _ HRI.out Tryz.underlying24 rfl HIA.out ?_ ?_)); (focus (rfl)))
  | ((with_reducible (refine wpList_load_row_w _ _ rfl _ rfl _ _ _ _ RB.out Tryz.underlying28 rfl HIT.out ?_ ?_)); (focus (rfl)))
  | ((with_reducible (refine wpList_built_w ?_ _ #[] ?_ _ ?_ _ HID0.out ?_)); (focus (rfl)); exact rfl; (exact rfl))
  | ((with_reducible (refine wpList_built_w ?_ _ #[(0, .const (.int .u8 1))] ?_ _ ?_ _ HID1.out ?_)); (focus (rfl)); exact rfl; (exact rfl)))
 refine HDB.out.mono ?_
 clear HDB
 rintro e wB ⟨rfl, hblB⟩
 have HRC := h_ (HRB.out.below hblB)
 have HBC := h_ (HBB.out.trans (hblB.mono HBB.out.size))
 clear hblB hWA hW9 hp9 hpt hH hWa
 have HGT := h_ (get_any HRC.out.dr.refs HRC.out.ok ⟨#[116, 97, 103, 115, 47, 118]⟩ (by decide))
 rw [show (⟨#[116, 97, 103, 115, 47, 118]⟩ : ByteArray).data.toList = tagV from rfl, HP6.out, HL0.out] at HGT
 go_wp2_with fail
 refine HGT.out.mono ?_
 clear HGT
 rintro e wD ⟨rfl, hblD⟩
 have HRD := h_ (HRC.out.below hblD)
 have HBD := h_ (HBC.out.trans (hblD.mono HBC.out.size))
 clear hblD
 go_wp2_with ((with_reducible (refine wpList_built_w ?_ _ #[] ?_ _ ?_ _ HID0.out ?_)); (focus (rfl)); exact rfl; (exact rfl))
 have HNM := h_ (rnames_any HRD.out.dr.refs HRD.out.ok (by rw [HP7.out]; decide))
 rw [HP7.out] at HNM
 refine HNM.out.mono ?_
 clear HNM
 rintro e wE ⟨v, rfl, hov, hblE⟩
 obtain ⟨Av, cv, rfl, _⟩ := own_slice hov
 have HRE := h_ (HRD.out.below hblE)
 have HBE := h_ (HBD.out.trans (hblE.mono HBD.out.size))
 clear hblE hov
 go_wp2_with fail
 have HLG := h_ (log_any HRE.out.dr.refs HRE.out.ok (by rw [HP8.out]; decide))
 rw [HP8.out] at HLG
 refine HLG.out.mono ?_
 clear HLG
 rintro e wF ⟨Aw, cw, rfl, _, hblF⟩
 have HBF := h_ (HBE.out.trans (hblF.mono HBE.out.size))
 clear hblF
 go_wp2_with fail
 go_ret
 exact ⟨rfl, HBF.out⟩
end Go.Proofs.YtelbofikcpchiaaGreat
namespace Go.Proofs.YtelbofikcpchiaaGreat
open Go.RowKit
def goodA (all : AL (List UInt8)) : Prop := ∀ p ∈ all, validB p.1 = true ∧ p.2 ≠ Z32 ∧ p.1.length ≤ 140737488355328
structure HdS (w0 : World) (g gr : Nat) (ps : List (Nat × Obj)) (B z : Nat) (w : World) (r : RfM) : Prop where
 ex : ∃ bs L d q, RefsAt w0.heap.size w g gr r bs 1048576 L d q ∧ bs.length ≤ B ∧ L ≤ 2000 * z ∧ ∀ p ∈ ps, ¬ footA g gr d q p.1
 rows : ∀ p ∈ ps, w.heap[p.1]? = some p.2
 bel : Below w0.heap.size w0 w
 good : goodA r.all
 al : r.all.length ≤ z
 ll : r.log.length ≤ z
section
variable {w0 w w1 w' : World} {g gr B z : Nat} {ps : List (Nat × Obj)} {r : RfM}
theorem HdS.lt (h : HdS w0 g gr ps B z w r) {p : Nat × Obj} (hp : p ∈ ps) : p.1 < w.heap.size := (Array.getElem?_eq_some_iff.1 (h.rows p hp)).1
theorem HdS.below (h : HdS w0 g gr ps B z w r) (hb : Below w.heap.size w w') : HdS w0 g gr ps B z w' r := by
 obtain ⟨bs, L, d, q, h1, h2, h3, h4⟩ := h.ex
 exact ⟨⟨bs, L, d, q, h1.below hb, h2, h3, h4⟩, fun p hp => (hb.block _ (h.lt hp)).trans (h.rows p hp), h.bel.trans (hb.mono h.bel.size), h.good, h.al, h.ll⟩
theorem HdS.mono (h : HdS w0 g gr ps B z w r) {B' z' : Nat} (hB : B ≤ B') (hz : z ≤ z') : HdS w0 g gr ps B' z' w r := by
 obtain ⟨bs, L, d, q, h1, h2, h3, h4⟩ := h.ex
 exact ⟨⟨bs, L, d, q, h1, by omega, by omega, h4⟩, h.rows, h.bel, h.good, Nat.le_trans h.al hz, Nat.le_trans h.ll hz⟩
theorem HdS.sub (h : HdS w0 g gr ps B z w r) {ps' : List (Nat × Obj)} (hs : ∀ p ∈ ps', p ∈ ps) : HdS w0 g gr ps' B z w r := by
 obtain ⟨bs, L, d, q, h1, h2, h3, h4⟩ := h.ex
 exact ⟨⟨bs, L, d, q, h1, h2, h3, fun p hp => h4 p (hs p hp)⟩, fun p hp => h.rows p (hs p hp), h.bel, h.good, h.al, h.ll⟩
theorem HdS.ok (h : HdS w0 g gr ps B z w r) : RfOk r := by
 obtain ⟨_, _, _, _, h1, _⟩ := h.ex
 exact h1.ok
theorem HdS.add (h : HdS w0 g gr ps B z w r) (hb : Below w.heap.size w w') {b : Nat} {o : Obj} (hbk : w.heap.size ≤ b) (ho : w'.heap[b]? = some o) : HdS w0 g gr ((b, o) :: ps) B z w' r := by
 have h' := h.below hb
 obtain ⟨bs, L, d, q, h1, h2, h3, h4⟩ := h.ex
 refine ⟨⟨bs, L, d, q, h1.below hb, h2, h3, fun p hp => ?_⟩, fun p hp => ?_, h'.bel, h.good, h.al, h.ll⟩
 ·rcases List.mem_cons.1 hp with rfl | hp
  ·intro hf
   have := h1.foot_lt hf
   dsimp only at this
   omega
  ·exact h4 p hp
 ·rcases List.mem_cons.1 hp with rfl | hp
  ·exact ho
  ·exact h'.rows p hp
theorem HdS.put {b : Nat} {o o' : Obj} (h : HdS w0 g gr ((b, o) :: ps) B z w r) (hg : w.grownBy w' (some b)) (hr : w'.heap[b]? = some o') (hp : w0.heap.size ≤ b) (hps : ∀ p ∈ ps, p.1 ≠ b) : HdS w0 g gr ((b, o') :: ps) B z w' r := by
 obtain ⟨bs, L, d, q, h1, h2, h3, h4⟩ := h.ex
 have hf : Frm (· = b) w w' := Frm.of_grown hg (fun k hk => .inl (by cases hk; rfl))
 have h5 : ¬ footA g gr d q b := h4 (b, o) List.mem_cons_self
 refine ⟨⟨bs, L, d, q, ⟨⟨h1.dr.disk.frm hf ?_, h1.dr.refs.frm hf ?_, h1.dr.apart⟩, h1.fit, h1.ok, h1.st⟩, h2, h3, fun p hp => ?_⟩, fun p hp => ?_, bel_grown h.bel h.bel.size hg hp, h.good, h.al, h.ll⟩
 ·rintro k hb rfl
  exact h5 (.inl hb)
 ·rintro k hb rfl
  exact h5 (.inr hb)
 ·rcases List.mem_cons.1 hp with rfl | hp
  ·exact h5
  ·exact h4 p (List.mem_cons_of_mem _ hp)
 ·rcases List.mem_cons.1 hp with rfl | hp
  ·exact hr
  ·exact (hf.block _ (h.lt (List.mem_cons_of_mem _ hp)) (hps p hp)).trans (h.rows p (List.mem_cons_of_mem _ hp))
theorem HdS.rf (h : HdS w0 g gr ps B z w r) : ∃ q, RfIn w0.heap.size w gr g r q := by
 obtain ⟨_, _, _, q, h1, _⟩ := h.ex
 exact ⟨q, h1.dr.refs⟩
end
theorem put_mid {w : World} {g : Nat} {p q r vs : List Value} {t : TypeId} (h : w.heap[g]? = some (.cells (p ++ q ++ r).toArray t (0, 0))) (hl : q.length = vs.length) :
  ∃ W, w.setCells g p.length vs.toArray.toList = W ∧ Hid (w.there g p.length vs.toArray.size) ∧ Hid (W.heap[g]? = some (.cells (p ++ vs ++ r).toArray t (0, 0))) ∧ Hid (w.grownBy W (some g)) := by
 refine ⟨_, rfl, h_ (fun j hj => ⟨?_, row_free h _⟩), h_ (row_setCells vs p q r w h hl), h_ (setCells_grown _ _ _ _)⟩
 rw [row_cell h]
 have : p.length + j < (p ++ q ++ r).toArray.size := by simp at hj ⊢; omega
 rw [Array.getElem?_eq_getElem this]
 rfl
end Go.Proofs.YtelbofikcpchiaaGreat
