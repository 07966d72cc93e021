/- The refs of a disk, as the document opens them. (Printed by wip/genRg10.py.) -/
import Derived.Test.YtelbofikcpchiaaGreatRg7
import Derived.Test.YtelbofikcpchiaaGreatRg8
import Derived.Test.YtelbofikcpchiaaGreatRg9
import Derived.Great.Walk
namespace Go.Proofs.YtelbofikcpchiaaGreat
open Go.RowKit
theorem rrefs_built (R : RA) (m : DM) : Tryz.prog.built 65 [(0, .agg (rowQ R m).toArray), (2, .string ⟨#[104, 101, 97, 100, 115, 47, 109, 97, 105, 110]⟩)] = some (rfR R m none 0 rf0).toArray := by kernel_rfl
def FO (F : Nat → Prop) (g1 g2 p4 : Nat) : Nat → Prop := FG (FG F g1 g2) p4 p4
def rfT (A : Option Addr) (c : Nat) (r : RfM) : List Value := .slice A r.log.length c :: strV r.head :: (b8s r.at_ ++ [.bool r.stuck])
theorem rfR_split7 (R : RA) (m : DM) (A : Option Addr) (c : Nat) (r : RfM) : rfR R m A c r = [] ++ rowQ R m ++ rfT A c r := rfl
theorem b8s_ne {bs : List UInt8} (h : bs ≠ []) : b8s bs ≠ [] := by
 intro e
 have := congrArg List.length e
 rw [b8s_length] at this
 exact h (List.eq_nil_of_length_eq_zero this)
theorem bel_ownQ {w1 X w8 : World} {lo : Nat} {T : TypeId} {sz n : Nat} {v : Value} {xs : List Value} (h : Below w1.heap.size w1 X) (hlo : w1.heap.size = lo) (ho : X.ownsRow lo T sz v n xs) (hg : X.grownBy w8 v.ownBlock) : Below w1.heap.size w1 w8 := by
 cases hv : v.ownBlock with
 | none => rw [hv] at hg; exact h.trans ((grown_none hg).mono h.size)
 | some i => rw [hv] at hg; exact bel_grown h h.size hg (by rw [hlo]; exact (ho.lt i hv).1)
structure OpS (F : Nat → Prop) (g1 g2 p4 : Nat) (w : World) (R : RA) (m : DM) (Ax : Option Addr) (X : List UInt8) (lz : List Value) (Al : Option Addr) (cl : Nat) (r : RfM) (wr : World) : Prop where
 d1 : wr.heap[g1]? = some (.cells (rowQ R m).toArray 53 (0, 0))
 z2 : wr.heap[g2]? = some (.cells lz.toArray 65 (0, 0))
 r4 : wr.heap[p4]? = some (.cells (rfR R m Al cl r).toArray 65 (0, 0))
 rin : RIn (FO F g1 g2 p4) wr R m
 rx : RdF (FO F g1 g2 p4) wr Ax (b8s X)
 rl : RdF (FO F g1 g2 p4) wr Al (upsC r.log)
 bel : Below w.heap.size w wr
 lay : w.heap.size ≤ g1 ∧ g1 < g2 ∧ g2 < p4 ∧ p4 < wr.heap.size
set_option linter.unusedSectionVars false
section
variable {F : Nat → Prop} {g1 g2 p4 : Nat} {w wr w' : World} {R : RA} {m : DM} {Ax : Option Addr} {X : List UInt8} {lz : List Value} {Al Al' : Option Addr} {cl cl' : Nat} {r r' : RfM}
theorem OpS.below (h : OpS F g1 g2 p4 w R m Ax X lz Al cl r wr) (hb : Below wr.heap.size wr w') : OpS F g1 g2 p4 w R m Ax X lz Al cl r w' :=
 ⟨(hb.block _ (Array.getElem?_eq_some_iff.1 h.d1).1).trans h.d1, (hb.block _ (Array.getElem?_eq_some_iff.1 h.z2).1).trans h.z2, (hb.block _ (Array.getElem?_eq_some_iff.1 h.r4).1).trans h.r4, h.rin.below hb, h.rx.below hb, h.rl.below hb, h.bel.trans (hb.mono h.bel.size), by have := h.lay; have := hb.size; omega⟩
theorem OpS.foot (h : OpS F g1 g2 p4 w R m Ax X lz Al cl r wr) (hF : ∀ b, F b → b < w.heap.size) : ∀ b, FO F g1 g2 p4 b → b < wr.heap.size := fun b hb => by
 have h1 := h.lay
 have h2 := h.bel.size
 rcases hb with (hb | hb | hb) | hb | hb
 ·have := hF b hb; omega
 all_goals omega
theorem OpS.put4 (h : OpS F g1 g2 p4 w R m Ax X lz Al cl r wr) (hg : wr.grownBy w' (some p4)) (hr : w'.heap[p4]? = some (.cells (rfR R m Al' cl' r').toArray 65 (0, 0))) (hl : RdF (FO F g1 g2 p4) wr Al' (upsC r'.log)) : OpS F g1 g2 p4 w R m Ax X lz Al' cl' r' w' := by
 obtain ⟨l1, l2, l3, l4⟩ := h.lay
 have hf : Frm (· = p4) wr w' := Frm.of_grown hg (fun k hk => .inl (by cases hk; rfl))
 have hG : ∀ b, b = p4 → FO F g1 g2 p4 b := fun b hb => .inr (.inl hb)
 exact ⟨(hg.block _ (Array.getElem?_eq_some_iff.1 h.d1).1 (fun e => by have := Option.some.inj e; omega)).trans h.d1, (hg.block _ (Array.getElem?_eq_some_iff.1 h.z2).1 (fun e => by have := Option.some.inj e; omega)).trans h.z2, hr, h.rin.frm hf hG, h.rx.frm hf hG, hl.frm hf hG, bel_grown h.bel h.bel.size hg (by omega), l1, l2, l3, by have := hg.size; omega⟩
end
set_option maxRecDepth 1000000 in
set_option maxHeartbeats 16000000 in
theorem ropenD_any {F : Nat → Prop} {Kf Lf G room : Nat} (R : RA) (X : List UInt8) (Rf : RfM) (w : World) (hin : RIn F w R (stR X room)) (hF : ∀ b, F b → b < w.heap.size) (hfit : Fit Kf Lf (stR X room)) (hKf : Kf ≤ 800) (hLf : Lf ≤ 800000) (hX : X.length ≤ 10000) (hroom : X.length + X.length ≤ room) (hop : openP (X.length + 1) rf0 X 0 = (Rf, G)) :
  Calls Tryz.prog 23 #[R.val (stR X room)] w fun e w' => ∃ (R' : RA) (A' : Option Addr) (c' : Nat), e = .returned (.tuple #[rfV R' (renewed X room G) A' c' Rf, .int .i64 0]) ∧ RIn F w' R' (renewed X room G) ∧ RdF F w' A' (upsC Rf.log) ∧ Below w.heap.size w w' := by
 have HOP := h_ hop
 have HFT := h_ hfit
 have HFW := h_ hF
 have HXL := h_ hX
 have HRM := h_ hroom
 obtain ⟨m, hm⟩ := eX (stR X room)
 have HM := h_ hm
 rw [hm] at hin
 have HNOW : Hid (m.now = [(refsB, 0)]) := h_ (by rw [← hm]; rfl)
 have HRDM : Hid (readM m refsB = (X, 0)) := h_ (by rw [← hm]; exact stR_read X room)
 have HFM : Hid (Fit Kf Lf m) := h_ (by rw [← hm]; exact hfit)
 rw [hm, rowQ_val]
 obtain ⟨lz, hlz, hlzl⟩ := rrefs_zero
 have HLZ := h_ hlz
 have HLZL := h_ hlzl
 obtain ⟨g1, hg1⟩ := eX w.heap.size
 obtain ⟨W1, hW1⟩ := eX (w.alloc (.cells (rowQ R m).toArray 53))
 obtain ⟨r1, b1, s1⟩ := new_row hW1
 rw [hg1] at r1
 obtain ⟨g2, hg2⟩ := eX W1.heap.size
 obtain ⟨W2, hW2⟩ := eX (W1.alloc (.cells #[.slice none 0 0, .slice none 0 0, .slice none 0 0, .slice none 0 0, .int .i64 0, .int .i64 0, .bool false, .slice none 0 0, .string ⟨#[]⟩, Value.int .u8 0, .int .u8 0, .int .u8 0, .int .u8 0, .int .u8 0, .int .u8 0, .int .u8 0, .int .u8 0, .int .u8 0, .int .u8 0, .int .u8 0, .int .u8 0, .int .u8 0, .int .u8 0, .int .u8 0, .int .u8 0, .int .u8 0, .int .u8 0, .int .u8 0, .int .u8 0, .int .u8 0, .int .u8 0, .int .u8 0, .int .u8 0, .int .u8 0, .int .u8 0, .int .u8 0, .int .u8 0, .int .u8 0, .int .u8 0, .int .u8 0, .int .u8 0, .bool false] 65))
 obtain ⟨r2, b2, s2⟩ := new_row hW2
 rw [hg2, hlz] at r2
 obtain ⟨p4, hp4⟩ := eX W2.heap.size
 obtain ⟨W3, hW3⟩ := eX (W2.alloc (.cells #[.slice none 0 0, .slice none 0 0, .slice none 0 0, .slice none 0 0, .int .i64 0, .int .i64 0, .bool false, .slice none 0 0, .string ⟨#[]⟩, Value.int .u8 0, .int .u8 0, .int .u8 0, .int .u8 0, .int .u8 0, .int .u8 0, .int .u8 0, .int .u8 0, .int .u8 0, .int .u8 0, .int .u8 0, .int .u8 0, .int .u8 0, .int .u8 0, .int .u8 0, .int .u8 0, .int .u8 0, .int .u8 0, .int .u8 0, .int .u8 0, .int .u8 0, .int .u8 0, .int .u8 0, .int .u8 0, .int .u8 0, .int .u8 0, .int .u8 0, .int .u8 0, .int .u8 0, .int .u8 0, .int .u8 0, .int .u8 0, .bool false] 65))
 obtain ⟨r3, b3, s3⟩ := new_row hW3
 rw [hp4, hlz] at r3
 obtain ⟨W4, hW4, T4, R4, G4⟩ := put_rowR (new := rfR R m none 0 rf0) r3 (by rw [rfR_len rfl, hlzl])
 have hb4 : Below W2.heap.size W2 W4 := bel_grown b3 b3.size G4.out (by omega)
 have hb24 : Below W1.heap.size W1 W4 := b2.trans (hb4.mono b2.size)
 have hb : Below w.heap.size w W4 := b1.trans (hb24.mono b1.size)
 have HOS0 : Hid (∀ Ax X' wx, Below W4.heap.size W4 wx → RdF (FO F g1 g2 p4) wx Ax (b8s X') → OpS F g1 g2 p4 w R m Ax X' lz none 0 rf0 wx) := h_ (fun Ax X' wx hbx hrx => by
  have hl4 := (b_ R4)
  have h0 : OpS F g1 g2 p4 w R m none [] lz none 0 rf0 W4 := ⟨(hb24.block _ (Array.getElem?_eq_some_iff.1 r1).1).trans r1, (hb4.block _ (Array.getElem?_eq_some_iff.1 r2).1).trans r2, R4.out, (hin.wide (fun b hb => by
   rcases hb with (h | h | h) | h | h
   ·exact .inl h
   all_goals (right; omega))).below hb, RdF.nil, RdF.nil, hb, by omega, by omega, by omega, hl4⟩
  have h1 := h0.below hbx
  exact ⟨h1.d1, h1.z2, h1.r4, h1.rin, hrx, h1.rl, h1.bel, h1.lay⟩)
 have HBU := h_ (rrefs_built R m)
 have HRG1 : Hid (W2.rangeAt g1 0 (rowQ R m)) := h_ (range_of_row ((b2.block _ (Array.getElem?_eq_some_iff.1 r1).1).trans r1))
 have HRG14 : Hid (W4.rangeAt g1 0 (rowQ R m)) := h_ (range_of_row ((hb24.block _ (Array.getElem?_eq_some_iff.1 r1).1).trans r1))
 have HI7 := h_ (info_dkl R m)
 have HI4 := h_ (info_rfa (R := R) (m := m) (A := none) (c := 0) (r := rf0) rfl)
 have HO4 : Hid ((rfR R m none 0 rf0).toArray.all (·.oneCell') = true) := h_ (all_oneCell_toArray rfR_one)
 have HRI4 : Hid (RIn (FO F g1 g2 p4) W4 R m) := h_ (HOS0.out none [] W4 (Below.refl _ _) RdF.nil).rin
 have HRE := h_ (rread2_any (F := FO F g1 g2 p4) (K := Kf) R m ⟨#[114, 101, 102, 115]⟩ W4 HRI4.out HFM.out (by omega) X 0 HRDM.out)
 rw [rowQ_val] at HRE
 have HW4 := h_ hW4
 have HT4 := h_ T4.out
 obtain ⟨ld, hld⟩ := eX (rowQ R m)
 have HLD := h_ hld
 obtain ⟨l4, hl4⟩ := eX (rfR R m none 0 rf0)
 rw [hld] at hW1 HRG1 HRG14 HI7 HBU HRE ⊢
 rw [hl4] at HI4 HO4 HW4 HT4 HBU
 clear hop hfit hF hX hroom hin hm hlz hlzl r1 b1 s1 r2 b2 s2 r3 b3 s3 hW4 T4 R4 G4 hb4 hb24 hb hld hl4
 go_enter Tryz.func23, Tryz.ntmps23
 go_wp2_with (first
  | ((with_reducible (refine wpList_load_cells 53 _ g1 0 (ld) HRG1.out Tryz.underlying53 rfl HI7.out ?_ rfl ?_ ?_)); exact rfl; (exact rfl))
  | ((with_reducible (refine wpList_load_cells 53 _ g1 0 (ld) HRG14.out Tryz.underlying53 rfl HI7.out ?_ rfl ?_ ?_)); exact rfl; (exact rfl))
  | ((with_reducible (refine wpList_built ?_ _ #[(0, .tmp 16), (2, .const (.string ⟨#[104, 101, 97, 100, 115, 47, 109, 97, 105, 110]⟩))] ?_ _ ?_ _ HBU.out ?_)); exact rfl; exact rfl; (exact rfl))
  | ((with_reducible (refine wpList_store_mid rfl _ _ _ rfl ?_ ?_ ?_ ?_ ?_ ?_ ?_ ?_ ?_)); exact p4; exact 0; (exact (l4).toArray); exact rfl; exact rfl; exact HT4.out; exact HI4.out; exact HO4.out; rw [HW4.out]))
 clear hW1 hW2 hW3 hg2 hp4
 refine HRE.out.mono ?_
 rintro e w5 ⟨Ax, n, cx, rfl, hn, hncx, hcx, hrx, hb5⟩
 have HN := h_ hn
 have HS5 := h_ (HOS0.out Ax X w5 hb5 hrx)
 have HRX5 : Hid (RdF (FO F g1 g2 p4) w5 Ax (b8s (X.drop 0))) := h_ hrx
 have hnm : n ≤ 10000 := by have := HXL.out; omega
 clear hn hrx hb5 HRE
 go_wp2_with fail
 go_loopg [9] (n * 1) (fun gk_ rv wr => ∃ (gd nr f : Nat) (r : RfM) (Ar : Option Addr) (cr : Nat) (Al : Option Addr) (cl : Nat), nr + gd = n ∧ nr = gk_ ∧ rv = .slice Ar nr cr ∧ nr ≤ cr ∧ cr ≤ 9223372036854775807 ∧ Hid (nr < f ∧ openP (X.length + 1) rf0 X 0 = openP f r X gd) ∧ Hid (RfOk r ∧ GL r ∧ r.log.length ≤ 64 * gd) ∧ Hid (RdF (FO F g1 g2 p4) wr Ar (b8s (X.drop gd))) ∧ Hid (OpS F g1 g2 p4 w R m Ax X lz Al cl r wr))
 case atStart => exact ⟨0, n, X.length + 1, rf0, Ax, cx, none, 0, by omega, by omega, rfl, hncx, hcx, h_ ⟨by rw [HN.out]; omega, rfl⟩, h_ ⟨rf0_ok0, GL.zero, by simp [rf0]⟩, HRX5, HS5⟩
 case round =>
 clear HS5 HRX5
 obtain ⟨gd, nr, f, r, Ar, cr, Al, cl, hgn, rfl, rfl, hcr1, hcr2, HFU, HOK, HRR, HS⟩ := hrel
 obtain ⟨bs, hbs⟩ := eX (X.drop gd)
 have HBS := h_ hbs
 have HBL : Hid (nr = bs.length) := h_ (by rw [← hbs, List.length_drop, ← HN.out]; omega)
 rw [hbs] at HRR
 have HSO := h_ (split_ok bs)
 have HSD := h_ (rsplitD_any (Q := fun b => ¬ FO F g1 g2 p4 b) Ar nr cr bs HBL.out hcr1 hcr2 wr HRR.out.1 (fun hne a ha => HRR.out.2 (b8s_ne hne) a ha) (by have := HBL.out; omega))
 clear hbs
 go_wp2_with fail
 refine HSD.out.mono ?_
 clear HSD
 rintro e w6 ⟨T, At, ct, A2, n2, c2, rfl, hto, hrt, hb6, hok⟩
 obtain ⟨SP, hSP⟩ := eX (splitP bs)
 rw [hSP] at hok HSO ⊢
 have HSPE := h_ hSP
 obtain ⟨T', k, ok⟩ := SP
 dsimp only at hok HSO ⊢
 have HTO := h_ hto
 have HOKK := h_ hok
 have HS6 := h_ (HS.out.below hb6)
 have HRR6 := h_ (HRR.out.below hb6)
 have HFW6 : Hid (∀ b, FO F g1 g2 p4 b → b < wr.heap.size) := h_ (HS.out.foot HFW.out)
 have HZ6 : Hid (wr.heap.size ≤ w6.heap.size) := h_ hb6.size
 obtain ⟨lt0, hlt0⟩ := eX (txC none 0 0 t0)
 have hltz : lt0.toArray = #[Value.slice none 0 0, .string ⟨#[]⟩, Value.int .u8 0, .int .u8 0, .int .u8 0, .int .u8 0, .int .u8 0, .int .u8 0, .int .u8 0, .int .u8 0, .int .u8 0, .int .u8 0, .int .u8 0, .int .u8 0, .int .u8 0, .int .u8 0, .int .u8 0, .int .u8 0, .int .u8 0, .int .u8 0, .int .u8 0, .int .u8 0, .int .u8 0, .int .u8 0, .int .u8 0, .int .u8 0, .int .u8 0, .int .u8 0, .int .u8 0, .int .u8 0, .int .u8 0, .int .u8 0, .int .u8 0, .int .u8 0] := by rw [← hlt0]; rfl
 obtain ⟨p10, hp10⟩ := eX w6.heap.size
 obtain ⟨W7, hW7⟩ := eX (w6.alloc (.cells #[Value.slice none 0 0, .string ⟨#[]⟩, Value.int .u8 0, .int .u8 0, .int .u8 0, .int .u8 0, .int .u8 0, .int .u8 0, .int .u8 0, .int .u8 0, .int .u8 0, .int .u8 0, .int .u8 0, .int .u8 0, .int .u8 0, .int .u8 0, .int .u8 0, .int .u8 0, .int .u8 0, .int .u8 0, .int .u8 0, .int .u8 0, .int .u8 0, .int .u8 0, .int .u8 0, .int .u8 0, .int .u8 0, .int .u8 0, .int .u8 0, .int .u8 0, .int .u8 0, .int .u8 0, .int .u8 0, .int .u8 0] 123))
 obtain ⟨r7, b7, s7⟩ := new_row hW7
 rw [hp10, ← hltz] at r7
 obtain ⟨W8, hW8, T8, R8, G8⟩ := put_rowR (new := txC At T.us.length ct T) r7 (by rw [txC_len hto.al, ← hlt0]; rfl)
 have b8 : Below w6.heap.size w6 W8 := bel_grown b7 b7.size G8.out (by omega)
 have HS8 := h_ (HS6.out.below b8)
 have HRR8 := h_ (HRR6.out.below b8)
 have HRT8 := h_ (hrt.below b8)
 have HRN8 : Hid (ok = true → RdF (FO F g1 g2 p4) W8 A2 (b8s (X.drop (gd + k)))) := h_ (fun h => by
  obtain ⟨_, _, h3, _, _, h6⟩ := hok h
  have e : X.drop (gd + k) = bs.drop k := by rw [← HBS.out, List.drop_drop]
  rw [e]
  exact ⟨h3.below b8, fun hc a ha => h6 (fun e => hc (by rw [e]; rfl)) a ha⟩)
 have HIL := h_ (rinfo_txl (A := At) (n := T.us.length) (c := ct) hto.al)
 have HIA := h_ (rinfo_txa (A := At) (n := T.us.length) (c := ct) hto.al)
 have HOC : Hid ((txC At T.us.length ct T).toArray.all (·.oneCell') = true) := h_ (all_oneCell_toArray (txC_one _ _ _ _))
 have HROW8 := h_ R8.out
 have HRG8 := h_ (range_of_row R8.out)
 have HT8 := h_ T8.out
 have HW8 := h_ hW8
 have HZ8 : Hid (wr.heap.size ≤ W8.heap.size) := h_ (Nat.le_trans HZ6.out b8.size)
 have HP10 : Hid (p4 < p10) := h_ (by have := HS6.out.lay; omega)
 have HCK : Hid (∀ W, Below W8.heap.size W8 W → Calls Tryz.prog 56 #[rfV R m Al cl r, .agg (txC At T.us.length ct T).toArray] W fun e w' => e = .returned (.int .i64 (checkR r T)) ∧ Below W.heap.size W w') := h_ (fun W hb => rcheck_any R m Al cl r At T.us.length ct T W HOK.out.1 HOK.out.2.1 (by have := HOK.out.2.2; omega) (HS8.out.rl.1.below hb) rfl HTO.out (HRT8.out.below hb))
 have HMD : Hid (∀ W, Below W8.heap.size W8 W → Calls Tryz.prog 57 #[rfV R m Al cl r, .agg (txC At T.us.length ct T).toArray] W fun e w' => ∃ A' c', e = .returned (rfV R m A' c' (makeR r T)) ∧ LOut 131 65 upC W w' A' (r.log.length + T.us.length) c' (r.log ++ T.us)) := h_ (fun W hb => rmade_any R m Al r.log.length cl r At T.us.length ct T W HOK.out.1 rfl (by have := HOK.out.2.2; omega) (HS8.out.rl.1.below hb) rfl HTO.out (HRT8.out.below hb))
 have HR4L := h_ (info_rfl (R := R) (m := m) (A := Al) (c := cl) HOK.out.1.al)
 have HR4A := h_ (info_rfa (R := R) (m := m) (A := Al) (c := cl) HOK.out.1.al)
 have HROW4 : Hid (W8.heap[p4]? = some (.cells (rfR R m Al cl r).toArray 65 (0, 0))) := h_ HS8.out.r4
 unfold rfV at HCK HMD
 obtain ⟨lt, hlt_⟩ := eX (txC At T.us.length ct T)
 obtain ⟨lr, hlr⟩ := eX (rfR R m Al cl r)
 have HLR := h_ hlr
 rw [hlt_] at HIL HIA HOC HROW8 HRG8 HT8 HW8 HCK HMD ⊢
 rw [hlr] at HCK HMD HR4L HR4A HROW4
 have HRG4 := h_ (range_of_row HROW4.out)
 obtain ⟨z, hz⟩ := eX (checkR r T)
 have HZE := h_ hz
 rw [hz] at HCK
 have HOPS : Hid (openP f r X gd = if ok = false ∨ checkR r T' ≠ 0 then (r, gd) else openP (f - 1) (makeR r T') X (gd + k)) := h_ (by
  have hf1 : f = (f - 1) + 1 := by have := HFU.out.1; omega
  rw [hf1]
  simp only [openP, HBS.out, HSPE.out]
  rfl)
 clear hto hrt hb6 hok hSP hlt0 hltz r7 b7 s7 hW8 T8 R8 G8 b8 hlt_ hlr hz
 cases ok with
 | false =>
   have HRG : Hid (r = Rf ∧ gd = G) := h_ (by
    have h1 := HOP.out
    rw [HFU.out.2, HOPS.out, if_pos (.inl rfl)] at h1
    exact ⟨congrArg Prod.fst h1, congrArg Prod.snd h1⟩)
   have HSX := HS8
   by_cases hg : gd = n
   ·have z9 : ((nr : Int) == 0) = true := by rw [beq_iff_eq]; omega
    have hnr : nr = 0 := by omega
    have HME : Hid (renewed X room G = m) := h_ (by
     unfold renewed
     rw [if_pos (by rw [← HRG.out.2, hg, HN.out]), HM.out])
    obtain ⟨WZ, hWZ, TZ, RZ, GZ⟩ := put_rowR (new := lr) HSX.out.z2 (by rw [HLZL.out, ← HLR.out, rfR_len HOK.out.1.al])
    have HRGX : Hid (W8.rangeAt p4 0 lr) := h_ (range_of_row (by have h1 := HSX.out.r4; rw [HLR.out] at h1; exact h1))
    have HOR : Hid (lr.toArray.all (·.oneCell') = true) := h_ (all_oneCell_toArray (by rw [← HLR.out]; exact rfR_one))
    have hfz : Frm (· = g2) W8 WZ := Frm.of_grown GZ.out (fun k hk => .inl (by cases hk; rfl))
    have HRIZ : Hid (RIn F WZ R m) := h_ ((HSX.out.rin.frm hfz (fun b hb => .inl (.inr (.inr hb)))).narrow (fun b hb => .inl (.inl hb)))
    have HRLZ : Hid (RdF F WZ Al (upsC r.log)) := h_ ((HSX.out.rl.frm hfz (fun b hb => .inl (.inr (.inr hb)))).narrow (fun b hb => .inl (.inl hb)))
    have HBZ : Hid (Below w.heap.size w WZ) := h_ (bel_grown HSX.out.bel HSX.out.bel.size GZ.out (by have := HSX.out.lay; omega))
    have HWZ := h_ hWZ
    have HTZ := h_ TZ.out
    have HRZ := h_ RZ.out
    subst hnr
    clear hWZ TZ RZ GZ hfz hg
    go_wp2_with (first
     | ((with_reducible (refine wpList_store_mid rfl _ _ _ rfl ?_ ?_ ?_ ?_ ?_ ?_ ?_ ?_ ?_)); exact p10; exact 0; (exact (lt).toArray); exact rfl; exact rfl; exact HT8.out; exact HIA.out; exact HOC.out; rw [HW8.out])
     | ((with_reducible (refine wpList_load_cells 65 _ p4 0 (lr) HRGX.out Tryz.underlying65 rfl HR4L.out ?_ rfl ?_ ?_)); exact rfl; (exact rfl))
     | ((with_reducible (refine wpList_store_mid rfl _ _ _ rfl ?_ ?_ ?_ ?_ ?_ ?_ ?_ ?_ ?_)); exact g2; exact 0; (exact (lr).toArray); exact rfl; exact rfl; exact HTZ.out; exact HR4A.out; exact HOR.out; rw [HWZ.out]))
    refine bodyPost_ret (results_row_tmp rfl _ _ _ _ _ _ _ rfl HRZ.out Tryz.underlying65 rfl HR4A.out) rfl ⟨R, Al, ⟨cl, ?_⟩, by rw [HME.out]; exact HRIZ.out, by rw [← HRG.out.1]; exact HRLZ.out, by first | exact HBZ.out | (rw [← hg1]; exact HBZ.out)⟩
    rw [HME.out, ← HRG.out.1, ← HLR.out]
    all_goals rfl
   ·have z9 : ((nr : Int) == 0) = false := by rw [beq_eq_false_iff_ne]; omega
    have z8 : ¬ nr = 0 := by omega
    have HGN : Hid (¬ G = X.length) := h_ (by rw [← HRG.out.2, ← HN.out]; exact hg)
    have HYL : Hid ((X.take gd).length = gd) := h_ (by rw [List.length_take, ← HN.out]; omega)
    have hw1 : IntKind.i64.wrap ((n : Int) - (nr : Int)) = (gd : Int) := by rw [IntKind.wrap_i64]; omega
    have y1 : (gd : Int) ≤ (n : Int) := by omega
    have y2 : (gd : Int) ≤ (cx : Int) := by omega
    have y3 : gd ≤ cx := by omega
    have c11 : W8.cell? ⟨g1, 1, none⟩ = some (.slice R.na 1 R.nc) := by
     rw [row_cell HSX.out.d1 1]
     show some (Value.slice R.na m.now.length R.nc) = _
     rw [HNOW.out]
     rfl
    have HFI : Hid (∀ W, Below W8.heap.size W8 W → Calls Tryz.prog 43 #[.slice R.na 1 R.nc, .string ⟨#[114, 101, 102, 115, 46, 116, 109, 112]⟩] W fun e w' => e = .returned (.int .i64 (-1)) ∧ w' = W) := h_ (fun W hb => by
     have h1 := rfind_any R.na m.now 1 R.nc (by rw [HNOW.out]; rfl) (by decide) ⟨#[114, 101, 102, 115, 46, 116, 109, 112]⟩ W (HSX.out.rin.rn.1.below hb)
     rw [HNOW.out, show findI [(refsB, 0)] (⟨#[114, 101, 102, 115, 46, 116, 109, 112]⟩ : ByteArray).data.toList = -1 from rfl] at h1
     exact h1)
    obtain ⟨os, hos⟩ : ∃ os : List OpD, os = [⟨1, ⟨#[114, 101, 102, 115, 46, 116, 109, 112]⟩, ⟨#[]⟩, none, 0, 0, []⟩, ⟨2, ⟨#[114, 101, 102, 115, 46, 116, 109, 112]⟩, ⟨#[]⟩, Ax, gd, cx, X.take gd⟩, ⟨3, ⟨#[114, 101, 102, 115, 46, 116, 109, 112]⟩, ⟨#[]⟩, none, 0, 0, []⟩, ⟨4, ⟨#[114, 101, 102, 115, 46, 116, 109, 112]⟩, ⟨#[114, 101, 102, 115]⟩, none, 0, 0, []⟩, ⟨6, ⟨#[]⟩, ⟨#[]⟩, none, 0, 0, []⟩] := ⟨_, rfl⟩
    have HFLAT : Hid (os.flatMap opD = [.int .i64 1, .string ⟨#[114, 101, 102, 115, 46, 116, 109, 112]⟩, .string ⟨#[]⟩, .slice none 0 0, .int .i64 2, .string ⟨#[114, 101, 102, 115, 46, 116, 109, 112]⟩, .string ⟨#[]⟩, .slice Ax gd cx, .int .i64 3, .string ⟨#[114, 101, 102, 115, 46, 116, 109, 112]⟩, .string ⟨#[]⟩, .slice none 0 0, .int .i64 4, .string ⟨#[114, 101, 102, 115, 46, 116, 109, 112]⟩, .string ⟨#[114, 101, 102, 115]⟩, .slice none 0 0, .int .i64 6, .string ⟨#[]⟩, .string ⟨#[]⟩, .slice none 0 0]) := h_ (by rw [hos]; rfl)
    obtain ⟨ms, hms⟩ := eX (rnS X (X.take gd) room)
    have HM0 : Hid (ms 0 = m) := h_ (by rw [← hms, ← HM.out]; rfl)
    have HM5 : Hid (ms 5 = renewed X room G) := h_ (by
     rw [← hms]
     unfold renewed
     rw [if_neg HGN.out, ← HRG.out.2]
     rfl)
    have HOL : Hid (os.length = 5) := h_ (by rw [hos]; rfl)
    have HDO : Hid (∀ (W : World) (As : Option Addr) (cs : Nat), Below W8.heap.size W8 W → Rd W As (os.flatMap opD) → Calls Tryz.prog 54 #[.agg ld.toArray, .slice As 5 cs] W fun e w' => ∃ R' : RA, e = .returned (.tuple #[.agg (rowQ R' (renewed X room G)).toArray, .int .i64 0]) ∧ RIn (FO F g1 g2 p4) w' R' (renewed X room G) ∧ Below W.heap.size W w') := h_ (fun W As cs hb hrd => by
     have hs := HSX.out.below hb
     have h1 := rdoD_any (F := FO F g1 g2 p4) os 5 HOL.out (by decide) ms R As cs W (by rw [HM0.out]; exact hs.rin) (hs.foot HFW.out)
      (fun i hi => ⟨by rw [← hms]; exact (rnS_fit HFT.out (by rw [HYL.out]; have := HRM.out; have := HN.out; omega) i hi).mono (by omega) (by rw [HYL.out]; omega), by rw [← hms]; exact rnS_ne i⟩)
      (by
        rw [hos, ← hms]
        intro i hi
        match i, hi with
        | 0, _ => exact ⟨⟨by show 1 ≤ 1; decide, by show 1 ≤ 6; decide⟩, rfl, by show 0 ≤ 1000000; decide, Rd.nil, rnS_1⟩
        | 1, _ => exact ⟨⟨by show 1 ≤ 2; decide, by show 2 ≤ 6; decide⟩, HYL.out.symm, by show gd ≤ 1000000; omega, rd_take_b8 hs.rx.1 gd, rnS_2 (by rw [HYL.out]; have := HRM.out; have := HN.out; omega)⟩
        | 2, _ => exact ⟨⟨by show 1 ≤ 3; decide, by show 3 ≤ 6; decide⟩, rfl, by show 0 ≤ 1000000; decide, Rd.nil, rnS_3⟩
        | 3, _ => exact ⟨⟨by show 1 ≤ 4; decide, by show 4 ≤ 6; decide⟩, rfl, by show 0 ≤ 1000000; decide, Rd.nil, rnS_4⟩
        | 4, _ => exact ⟨⟨by show 1 ≤ 6; decide, by show 6 ≤ 6; decide⟩, rfl, by show 0 ≤ 1000000; decide, Rd.nil, rnS_5⟩) hrd
     rw [HM0.out, HM5.out, rowQ_val, HLD.out] at h1
     exact h1.mono (fun e w' ⟨R', h2, h3, h4⟩ => ⟨R', h2, h3, h4⟩))
    have HOP1 : Hid (∀ v ∈ os.flatMap opD, v.oneCell' = true) := h_ (flat_one os (fun o _ v hv => opD_one o v hv))
    rw [HFLAT.out] at HDO HOP1
    obtain ⟨p13, hp13⟩ := eX W8.heap.size
    obtain ⟨WA, hWA⟩ := eX (W8.alloc (.cells #[] 56))
    have HOA : Hid (WA.ownsRow p13 56 4 (.slice (some ⟨p13, 0, none⟩) 0 0) 0 []) := h_ (by rw [← hWA, ← hp13]; exact own_start _ _ (Nat.le_refl _))
    have hbA : Below W8.heap.size W8 WA := by rw [← hWA]; exact (Below.refl _ _).alloc (Nat.le_refl _) _
    obtain ⟨p86, hp86⟩ := eX WA.heap.size
    obtain ⟨WB, hWB⟩ := eX (WA.alloc (.cells #[.int .i64 1, .string ⟨#[114, 101, 102, 115, 46, 116, 109, 112]⟩, .string ⟨#[]⟩, .slice none 0 0, .int .i64 2, .string ⟨#[114, 101, 102, 115, 46, 116, 109, 112]⟩, .string ⟨#[]⟩, .slice Ax gd cx, .int .i64 3, .string ⟨#[114, 101, 102, 115, 46, 116, 109, 112]⟩, .string ⟨#[]⟩, .slice none 0 0, .int .i64 4, .string ⟨#[114, 101, 102, 115, 46, 116, 109, 112]⟩, .string ⟨#[114, 101, 102, 115]⟩, .slice none 0 0, .int .i64 6, .string ⟨#[]⟩, .string ⟨#[]⟩, .slice none 0 0] 56))
    obtain ⟨rB, bB, sB⟩ := new_row hWB
    rw [hp86] at rB
    have HOB := h_ (own_below HOA.out bB)
    have HRB : Hid (Rd WB (some ⟨p86, 0, none⟩) [.int .i64 1, .string ⟨#[114, 101, 102, 115, 46, 116, 109, 112]⟩, .string ⟨#[]⟩, .slice none 0 0, .int .i64 2, .string ⟨#[114, 101, 102, 115, 46, 116, 109, 112]⟩, .string ⟨#[]⟩, .slice Ax gd cx, .int .i64 3, .string ⟨#[114, 101, 102, 115, 46, 116, 109, 112]⟩, .string ⟨#[]⟩, .slice none 0 0, .int .i64 4, .string ⟨#[114, 101, 102, 115, 46, 116, 109, 112]⟩, .string ⟨#[114, 101, 102, 115]⟩, .slice none 0 0, .int .i64 6, .string ⟨#[]⟩, .string ⟨#[]⟩, .slice none 0 0]) := h_ (range_rd (range_of_row (cs := [.int .i64 1, .string ⟨#[114, 101, 102, 115, 46, 116, 109, 112]⟩, .string ⟨#[]⟩, .slice none 0 0, .int .i64 2, .string ⟨#[114, 101, 102, 115, 46, 116, 109, 112]⟩, .string ⟨#[]⟩, .slice Ax gd cx, .int .i64 3, .string ⟨#[114, 101, 102, 115, 46, 116, 109, 112]⟩, .string ⟨#[]⟩, .slice none 0 0, .int .i64 4, .string ⟨#[114, 101, 102, 115, 46, 116, 109, 112]⟩, .string ⟨#[114, 101, 102, 115]⟩, .slice none 0 0, .int .i64 6, .string ⟨#[]⟩, .string ⟨#[]⟩, .slice none 0 0]) rB))
    have HBB : Hid (Below W8.heap.size W8 WB) := h_ (hbA.trans (bB.mono hbA.size))
    have HSZ : Hid (p13 ≤ WB.heap.size) := h_ (by have := HBB.out.size; omega)
    have HOPZ : Hid ((Tryz.prog.info? 56).map (fun i => (i.zero, i.size, i.bytes)) = some (some (.agg #[.int .i64 0, .string ⟨#[]⟩, .string ⟨#[]⟩, .slice none 0 0]), 4, 64)) := h_ (by kernel_rfl)
    have HRGD : Hid (∀ W, Below W8.heap.size W8 W → W.rangeAt g1 0 ld) := h_ (fun W hb => range_of_row (by have h1 := (HSX.out.below hb).d1; rw [HLD.out] at h1; exact h1))
    have HFIA := h_ (HFI.out WA hbA)
    have c11A : WA.cell? ⟨g1, 1, none⟩ = some (.slice R.na 1 R.nc) := by
     rw [row_cell (HSX.out.below hbA).d1 1]
     show some (Value.slice R.na m.now.length R.nc) = _
     rw [HNOW.out]
     rfl
    clear hos hms hbA rB bB sB hg c11
    go_wp2_with (first
     | ((with_reducible (refine wpList_store_mid rfl _ _ _ rfl ?_ ?_ ?_ ?_ ?_ ?_ ?_ ?_ ?_)); exact p10; exact 0; (exact (lt).toArray); exact rfl; exact rfl; exact HT8.out; exact HIA.out; exact HOC.out; rw [HW8.out])
     | ((with_reducible (refine wpList_load_cells 65 _ p4 0 (lr) HRG4.out Tryz.underlying65 rfl HR4L.out ?_ rfl ?_ ?_)); exact rfl; (exact rfl)))
    refine HFIA.out.mono ?_
    rintro e w14 ⟨rfl, rfl⟩
    clear c11A
    have i91 : ¬ ((0 : Int) ≤ -1) := by decide
    go_wp2_with (first
     | (at_builtin; (try rw [hWB]); (try rw [hp86]); go_loud (refine wpList_append_rd _ rfl _ _ 57 rfl p13 56 _ 4 64 Tryz.underlying57 HOPZ.out (by simp [Value.cells]) (by decide) (.slice (some ⟨p13, 0, none⟩) 0 0) 0 _ rfl HOB.out _ 5 5 [.int .i64 1, .string ⟨#[114, 101, 102, 115, 46, 116, 109, 112]⟩, .string ⟨#[]⟩, .slice none 0 0, .int .i64 2, .string ⟨#[114, 101, 102, 115, 46, 116, 109, 112]⟩, .string ⟨#[]⟩, .slice Ax gd cx, .int .i64 3, .string ⟨#[114, 101, 102, 115, 46, 116, 109, 112]⟩, .string ⟨#[]⟩, .slice none 0 0, .int .i64 4, .string ⟨#[114, 101, 102, 115, 46, 116, 109, 112]⟩, .string ⟨#[114, 101, 102, 115]⟩, .slice none 0 0, .int .i64 6, .string ⟨#[]⟩, .string ⟨#[]⟩, .slice none 0 0] rfl rfl HRB.out HOP1.out (by unfold maxLen; omega) (by omega) HSZ.out ?_); go_loud (intro v8 w15 ho8 hg8 hvb8; (simp only [Nat.zero_add, List.nil_append] at ho8); obtain ⟨A8, c8, e8, _⟩ := own_slice ho8; subst e8; have HRO := h_ (own_rd ho8); have HB15 : Hid (Below W8.heap.size W8 w15) := h_ (bel_ownQ HBB.out hp13 HOB.out hg8); have HRGD15 := h_ (HRGD.out w15 HB15.out); clear ho8 hg8 hvb8))
     | ((with_reducible (refine wpList_load_cells 53 _ g1 0 (ld) HRGD15.out Tryz.underlying53 rfl HI7.out ?_ rfl ?_ ?_)); exact rfl; (exact rfl)))
    clear hWA hWB hp13 hp86
    refine (HDO.out w15 A8 c8 HB15.out HRO.out).mono ?_
    rintro e w16 ⟨R', rfl, hri, hb16⟩
    have HI14 := h_ (info_dka R' (renewed X room G))
    have HI14L := h_ (info_dkl R' (renewed X room G))
    have HO14 : Hid ((rowQ R' (renewed X room G)).toArray.all (·.oneCell') = true) := h_ (all_oneCell_toArray (rowQ_one _ _))
    have HL14 : Hid ((rowQ R' (renewed X room G)).length = 7) := h_ rfl
    have hsY := (HSX.out.below HB15.out).below hb16
    obtain ⟨p14, hp14⟩ := eX w16.heap.size
    obtain ⟨WC, hWC⟩ := eX (w16.alloc (.cells #[.slice none 0 0, .slice none 0 0, .slice none 0 0, .slice none 0 0, .int .i64 0, .int .i64 0, .bool false] 53))
    obtain ⟨rC, bC, sC⟩ := new_row hWC
    rw [hp14] at rC
    obtain ⟨WD, hWD, TD, RD, GD⟩ := put_rowR (old := [.slice none 0 0, .slice none 0 0, .slice none 0 0, .slice none 0 0, .int .i64 0, .int .i64 0, .bool false]) (new := rowQ R' (renewed X room G)) rC rfl
    have bD : Below w16.heap.size w16 WD := bel_grown bC bC.size GD.out (by omega)
    have hsD := hsY.below bD
    have r4D := hsD.r4
    rw [rfR_split7] at r4D
    obtain ⟨WE, hWE, TE, RE, GE⟩ := put_mid (vs := rowQ R' (renewed X room G)) r4D rfl
    have RE' : WE.heap[p4]? = some (.cells (rfR R' (renewed X room G) Al cl r).toArray 65 (0, 0)) := RE.out
    have hfE : Frm (· = p4) WD WE := Frm.of_grown GE.out (fun k hk => .inl (by cases hk; rfl))
    have hz2 := (GE.out.block _ (Array.getElem?_eq_some_iff.1 hsD.z2).1 (fun e => by have := Option.some.inj e; have := hsD.lay; omega)).trans hsD.z2
    obtain ⟨WF, hWF, TF, RF_, GF⟩ := put_rowR (new := rfR R' (renewed X room G) Al cl r) hz2 (by rw [HLZL.out, rfR_len HOK.out.1.al])
    have hfF : Frm (· = g2) WE WF := Frm.of_grown GF.out (fun k hk => .inl (by cases hk; rfl))
    have HRIF : Hid (RIn F WF R' (renewed X room G)) := h_ ((((hri.below bD).frm hfE (fun b hb => .inr (.inl hb))).frm hfF (fun b hb => .inl (.inr (.inr hb)))).narrow (fun b hb => .inl (.inl hb)))
    have HRLF : Hid (RdF F WF Al (upsC r.log)) := h_ (((hsD.rl.frm hfE (fun b hb => .inr (.inl hb))).frm hfF (fun b hb => .inl (.inr (.inr hb)))).narrow (fun b hb => .inl (.inl hb)))
    have hbE := bel_grown hsD.bel hsD.bel.size GE.out (by have := hsD.lay; omega)
    have HBF : Hid (Below w.heap.size w WF) := h_ (bel_grown hbE hbE.size GF.out (by have := hsD.lay; omega))
    have HRGP : Hid (WD.rangeAt p14 0 (rowQ R' (renewed X room G))) := h_ (range_of_row RD.out)
    have HRGE : Hid (WE.rangeAt p4 0 (rfR R' (renewed X room G) Al cl r)) := h_ (range_of_row RE')
    have HIFL := h_ (info_rfl (R := R') (m := renewed X room G) (A := Al) (c := cl) HOK.out.1.al)
    have HIFA := h_ (info_rfa (R := R') (m := renewed X room G) (A := Al) (c := cl) HOK.out.1.al)
    have HOF : Hid ((rfR R' (renewed X room G) Al cl r).toArray.all (·.oneCell') = true) := h_ (all_oneCell_toArray rfR_one)
    have HWD := h_ hWD
    have HTD := h_ TD.out
    have HWE : Hid (WD.setCells p4 0 (rowQ R' (renewed X room G)).toArray.toList = WE) := h_ hWE
    have HTE : Hid (WD.there p4 0 (rowQ R' (renewed X room G)).toArray.size) := h_ TE.out
    have HWF := h_ hWF
    have HTF := h_ TF.out
    have HRF := h_ RF_.out
    obtain ⟨l7, hl7⟩ := eX (rowQ R' (renewed X room G))
    obtain ⟨l9, hl9⟩ := eX (rfR R' (renewed X room G) Al cl r)
    have HL9 := h_ hl9
    rw [hl7] at HI14 HI14L HO14 HL14 HWD HTD HWE HTE HRGP ⊢
    rw [hl9] at HRGE HIFL HIFA HOF HWF HTF HRF
    clear hri hb16 hsY rC bC sC hWD TD RD GD bD hsD r4D hWE TE RE GE RE' hfE hz2 hWF TF RF_ GF hfF hbE hl7 hl9
    go_wp2_with (first
     | ((with_reducible (refine wpList_store_mid rfl _ _ _ rfl ?_ ?_ ?_ ?_ ?_ ?_ ?_ ?_ ?_)); exact p14; exact 0; (exact (l7).toArray); exact rfl; exact rfl; exact HTD.out; exact HI14.out; exact HO14.out; rw [HWD.out])
     | ((with_reducible (refine wpList_load_cells 53 _ p14 0 (l7) HRGP.out Tryz.underlying53 rfl HI14L.out ?_ rfl ?_ ?_)); exact rfl; (exact rfl))
     | ((with_reducible (refine wpList_store_mid rfl _ _ _ rfl ?_ ?_ ?_ ?_ ?_ ?_ ?_ ?_ ?_)); exact p4; exact 0; (exact (l7).toArray); exact rfl; exact rfl; exact HTE.out; exact HI14.out; exact HO14.out; rw [HWE.out])
     | ((with_reducible (refine wpList_load_cells 65 _ p4 0 (l9) HRGE.out Tryz.underlying65 rfl HIFL.out ?_ rfl ?_ ?_)); exact rfl; (exact rfl))
     | ((with_reducible (refine wpList_store_mid rfl _ _ _ rfl ?_ ?_ ?_ ?_ ?_ ?_ ?_ ?_ ?_)); exact g2; exact 0; (exact (l9).toArray); exact rfl; exact rfl; exact HTF.out; exact HIFA.out; exact HOF.out; rw [HWF.out]))
    refine bodyPost_ret (results_row_tmp rfl _ _ _ _ _ _ _ rfl HRF.out Tryz.underlying65 rfl HIFA.out) rfl ⟨R', Al, cl, ?_, HRIF.out, by rw [← HRG.out.1]; exact HRLF.out, by first | exact HBF.out | (rw [← hg1]; exact HBF.out)⟩
    rw [← HRG.out.1, ← HL9.out]
    all_goals rfl
 | true =>
   obtain ⟨hT, hn2, _, hc2a, hc2b, _⟩ := HOKK.out rfl
   have hso := (HSO.out.2.2 rfl)
   have hkl : 0 < k ∧ k ≤ nr := by have := HBL.out; omega
   obtain rfl : T = T' := hT
   have hn2' : n2 + (gd + k) = n := by omega
   clear hn2 hso
   by_cases hz0 : z = 0
   ·subst hz0
    have HGO : Hid (openP (X.length + 1) rf0 X 0 = openP (f - 1) (makeR r T) X (gd + k)) := h_ (by rw [HFU.out.2, HOPS.out, if_neg (by simp [HZE.out])])
    go_wp2_with (first
     | ((with_reducible (refine wpList_store_mid rfl _ _ _ rfl ?_ ?_ ?_ ?_ ?_ ?_ ?_ ?_ ?_)); exact p10; exact 0; (exact (lt).toArray); exact rfl; exact rfl; exact HT8.out; exact HIA.out; exact HOC.out; rw [HW8.out])
     | ((with_reducible (refine wpList_load_row_w _ _ rfl _ rfl _ _ _ _ HROW4.out Tryz.underlying65 rfl HR4A.out ?_ ?_)); (focus (rfl)))
     | ((with_reducible (refine wpList_load_row_w _ _ rfl _ rfl _ _ _ _ HROW8.out Tryz.underlying123 rfl HIA.out ?_ ?_)); (focus (rfl))))
    clear hp10 hW7
    refine (HCK.out W8 (Below.refl _ _)).mono ?_
    rintro e w9 ⟨rfl, hb9⟩
    have HS9 := h_ (HS8.out.below hb9)
    have HB9 := h_ hb9
    have HRG49 : Hid (w9.rangeAt p4 0 lr) := h_ (range_of_row (by have h1 := HS9.out.r4; rw [HLR.out] at h1; exact h1))
    have HRG89 : Hid (w9.rangeAt p10 0 lt) := h_ (range_of_row ((hb9.block _ (b_ HROW8)).trans HROW8.out))
    clear hb9
    go_wp2_with (first
     | ((with_reducible (refine wpList_load_cells 65 _ p4 0 (lr) HRG49.out Tryz.underlying65 rfl HR4L.out ?_ rfl ?_ ?_)); exact rfl; (exact rfl))
     | ((with_reducible (refine wpList_load_cells 123 _ p10 0 (lt) HRG89.out Tryz.underlying123 rfl HIL.out ?_ rfl ?_ ?_)); exact rfl; (exact rfl)))
    refine (HMD.out w9 HB9.out).mono ?_
    rintro e w10 ⟨A5, c5, rfl, hlo⟩
    have hb10 := hlo.bel
    have hs10 := HS9.out.below hb10
    have hl5 : RdF (FO F g1 g2 p4) w10 A5 (upsC (makeR r T).log) := RdF.fresh hlo.rd hlo.addr (fun b hb => by have h1 := HFW6.out b hb; have := HZ8.out; have := HB9.out.size; omega)
    have hok5 : RfOk (makeR r T) := makeR_ok HOK.out.1 HTO.out
    obtain ⟨W11, hW11, T11, R11, G11⟩ := put_rowR (new := rfR R m A5 c5 (makeR r T)) hs10.r4 (by rw [rfR_len hok5.al, rfR_len HOK.out.1.al])
    have HS11 := h_ (hs10.put4 G11.out R11.out hl5)
    have HRN11 : Hid (RdF (FO F g1 g2 p4) W11 A2 (b8s (X.drop (gd + k)))) := h_ ((((HRN8.out (by first | rfl | trivial)).below HB9.out).below hb10).frm (Frm.of_grown (F := (· = p4)) G11.out (fun k hk => .inl (by cases hk; rfl))) (fun b hb => .inr (.inl hb)))
    have HOK11 : Hid (RfOk (makeR r T) ∧ GL (makeR r T) ∧ (makeR r T).log.length ≤ 64 * (gd + k)) := h_ ⟨hok5, HOK.out.2.1.made HZE.out, by
     have h3 : (makeR r T).log.length = r.log.length + T.us.length := by simp [makeR]
     have h4 := HSO.out.2.1
     have h5 := HOK.out.2.2
     omega⟩
    have HI11 := h_ (info_rfa (R := R) (m := m) (A := A5) (c := c5) hok5.al)
    have HO11 : Hid ((rfR R m A5 c5 (makeR r T)).toArray.all (·.oneCell') = true) := h_ (all_oneCell_toArray rfR_one)
    have HW11 := h_ hW11
    have HT11 := h_ T11.out
    obtain ⟨ln, hln⟩ := eX (rfR R m A5 c5 (makeR r T))
    rw [hln] at HI11 HO11 HW11 HT11 ⊢
    clear hlo hb10 hs10 hl5 hok5 hW11 T11 R11 G11 hln
    go_wp2_with ((with_reducible (refine wpList_store_mid rfl _ _ _ rfl ?_ ?_ ?_ ?_ ?_ ?_ ?_ ?_ ?_)); exact p4; exact 0; (exact (ln).toArray); exact rfl; exact rfl; exact HT11.out; exact HI11.out; exact HO11.out; rw [HW11.out])
    go_roundg n2
    case measure => omega
    case rel => exact ⟨gd + k, n2, f - 1, makeR r T, A2, c2, A5, c5, hn2', rfl, rfl, hc2a, hc2b, h_ ⟨by have := HFU.out.1; omega, HGO.out⟩, HOK11, HRN11, HS11⟩
   ·have HRG : Hid (r = Rf ∧ gd = G) := h_ (by
     have h1 := HOP.out
     rw [HFU.out.2, HOPS.out, if_pos (.inr (by rw [HZE.out]; exact hz0))] at h1
     exact ⟨congrArg Prod.fst h1, congrArg Prod.snd h1⟩)
    have z1 : ¬ z = 0 := hz0
    have z2 : (z == 0) = false := by rw [beq_eq_false_iff_ne]; exact hz0
    go_wp2_with (first
     | ((with_reducible (refine wpList_store_mid rfl _ _ _ rfl ?_ ?_ ?_ ?_ ?_ ?_ ?_ ?_ ?_)); exact p10; exact 0; (exact (lt).toArray); exact rfl; exact rfl; exact HT8.out; exact HIA.out; exact HOC.out; rw [HW8.out])
     | ((with_reducible (refine wpList_load_row_w _ _ rfl _ rfl _ _ _ _ HROW4.out Tryz.underlying65 rfl HR4A.out ?_ ?_)); (focus (rfl)))
     | ((with_reducible (refine wpList_load_row_w _ _ rfl _ rfl _ _ _ _ HROW8.out Tryz.underlying123 rfl HIA.out ?_ ?_)); (focus (rfl))))
    clear hp10 hW7
    refine (HCK.out W8 (Below.refl _ _)).mono ?_
    rintro e w9 ⟨rfl, hb9⟩
    have HSX := h_ (HS8.out.below hb9)
    clear hb9 hz0
    by_cases hg : gd = n
    ·exact absurd hg (by omega)
    ·have z9 : ((nr : Int) == 0) = false := by rw [beq_eq_false_iff_ne]; omega
     have z8 : ¬ nr = 0 := by omega
     have HGN : Hid (¬ G = X.length) := h_ (by rw [← HRG.out.2, ← HN.out]; exact hg)
     have HYL : Hid ((X.take gd).length = gd) := h_ (by rw [List.length_take, ← HN.out]; omega)
     have hw1 : IntKind.i64.wrap ((n : Int) - (nr : Int)) = (gd : Int) := by rw [IntKind.wrap_i64]; omega
     have y1 : (gd : Int) ≤ (n : Int) := by omega
     have y2 : (gd : Int) ≤ (cx : Int) := by omega
     have y3 : gd ≤ cx := by omega
     have c11 : w9.cell? ⟨g1, 1, none⟩ = some (.slice R.na 1 R.nc) := by
      rw [row_cell HSX.out.d1 1]
      show some (Value.slice R.na m.now.length R.nc) = _
      rw [HNOW.out]
      rfl
     have HFI : Hid (∀ W, Below w9.heap.size w9 W → Calls Tryz.prog 43 #[.slice R.na 1 R.nc, .string ⟨#[114, 101, 102, 115, 46, 116, 109, 112]⟩] W fun e w' => e = .returned (.int .i64 (-1)) ∧ w' = W) := h_ (fun W hb => by
      have h1 := rfind_any R.na m.now 1 R.nc (by rw [HNOW.out]; rfl) (by decide) ⟨#[114, 101, 102, 115, 46, 116, 109, 112]⟩ W (HSX.out.rin.rn.1.below hb)
      rw [HNOW.out, show findI [(refsB, 0)] (⟨#[114, 101, 102, 115, 46, 116, 109, 112]⟩ : ByteArray).data.toList = -1 from rfl] at h1
      exact h1)
     obtain ⟨os, hos⟩ : ∃ os : List OpD, os = [⟨1, ⟨#[114, 101, 102, 115, 46, 116, 109, 112]⟩, ⟨#[]⟩, none, 0, 0, []⟩, ⟨2, ⟨#[114, 101, 102, 115, 46, 116, 109, 112]⟩, ⟨#[]⟩, Ax, gd, cx, X.take gd⟩, ⟨3, ⟨#[114, 101, 102, 115, 46, 116, 109, 112]⟩, ⟨#[]⟩, none, 0, 0, []⟩, ⟨4, ⟨#[114, 101, 102, 115, 46, 116, 109, 112]⟩, ⟨#[114, 101, 102, 115]⟩, none, 0, 0, []⟩, ⟨6, ⟨#[]⟩, ⟨#[]⟩, none, 0, 0, []⟩] := ⟨_, rfl⟩
     have HFLAT : Hid (os.flatMap opD = [.int .i64 1, .string ⟨#[114, 101, 102, 115, 46, 116, 109, 112]⟩, .string ⟨#[]⟩, .slice none 0 0, .int .i64 2, .string ⟨#[114, 101, 102, 115, 46, 116, 109, 112]⟩, .string ⟨#[]⟩, .slice Ax gd cx, .int .i64 3, .string ⟨#[114, 101, 102, 115, 46, 116, 109, 112]⟩, .string ⟨#[]⟩, .slice none 0 0, .int .i64 4, .string ⟨#[114, 101, 102, 115, 46, 116, 109, 112]⟩, .string ⟨#[114, 101, 102, 115]⟩, .slice none 0 0, .int .i64 6, .string ⟨#[]⟩, .string ⟨#[]⟩, .slice none 0 0]) := h_ (by rw [hos]; rfl)
     obtain ⟨ms, hms⟩ := eX (rnS X (X.take gd) room)
     have HM0 : Hid (ms 0 = m) := h_ (by rw [← hms, ← HM.out]; rfl)
     have HM5 : Hid (ms 5 = renewed X room G) := h_ (by
      rw [← hms]
      unfold renewed
      rw [if_neg HGN.out, ← HRG.out.2]
      rfl)
     have HOL : Hid (os.length = 5) := h_ (by rw [hos]; rfl)
     have HDO : Hid (∀ (W : World) (As : Option Addr) (cs : Nat), Below w9.heap.size w9 W → Rd W As (os.flatMap opD) → Calls Tryz.prog 54 #[.agg ld.toArray, .slice As 5 cs] W fun e w' => ∃ R' : RA, e = .returned (.tuple #[.agg (rowQ R' (renewed X room G)).toArray, .int .i64 0]) ∧ RIn (FO F g1 g2 p4) w' R' (renewed X room G) ∧ Below W.heap.size W w') := h_ (fun W As cs hb hrd => by
      have hs := HSX.out.below hb
      have h1 := rdoD_any (F := FO F g1 g2 p4) os 5 HOL.out (by decide) ms R As cs W (by rw [HM0.out]; exact hs.rin) (hs.foot HFW.out)
       (fun i hi => ⟨by rw [← hms]; exact (rnS_fit HFT.out (by rw [HYL.out]; have := HRM.out; have := HN.out; omega) i hi).mono (by omega) (by rw [HYL.out]; omega), by rw [← hms]; exact rnS_ne i⟩)
       (by
         rw [hos, ← hms]
         intro i hi
         match i, hi with
         | 0, _ => exact ⟨⟨by show 1 ≤ 1; decide, by show 1 ≤ 6; decide⟩, rfl, by show 0 ≤ 1000000; decide, Rd.nil, rnS_1⟩
         | 1, _ => exact ⟨⟨by show 1 ≤ 2; decide, by show 2 ≤ 6; decide⟩, HYL.out.symm, by show gd ≤ 1000000; omega, rd_take_b8 hs.rx.1 gd, rnS_2 (by rw [HYL.out]; have := HRM.out; have := HN.out; omega)⟩
         | 2, _ => exact ⟨⟨by show 1 ≤ 3; decide, by show 3 ≤ 6; decide⟩, rfl, by show 0 ≤ 1000000; decide, Rd.nil, rnS_3⟩
         | 3, _ => exact ⟨⟨by show 1 ≤ 4; decide, by show 4 ≤ 6; decide⟩, rfl, by show 0 ≤ 1000000; decide, Rd.nil, rnS_4⟩
         | 4, _ => exact ⟨⟨by show 1 ≤ 6; decide, by show 6 ≤ 6; decide⟩, rfl, by show 0 ≤ 1000000; decide, Rd.nil, rnS_5⟩) hrd
      rw [HM0.out, HM5.out, rowQ_val, HLD.out] at h1
      exact h1.mono (fun e w' ⟨R', h2, h3, h4⟩ => ⟨R', h2, h3, h4⟩))
     have HOP1 : Hid (∀ v ∈ os.flatMap opD, v.oneCell' = true) := h_ (flat_one os (fun o _ v hv => opD_one o v hv))
     rw [HFLAT.out] at HDO HOP1
     obtain ⟨p13, hp13⟩ := eX w9.heap.size
     obtain ⟨WA, hWA⟩ := eX (w9.alloc (.cells #[] 56))
     have HOA : Hid (WA.ownsRow p13 56 4 (.slice (some ⟨p13, 0, none⟩) 0 0) 0 []) := h_ (by rw [← hWA, ← hp13]; exact own_start _ _ (Nat.le_refl _))
     have hbA : Below w9.heap.size w9 WA := by rw [← hWA]; exact (Below.refl _ _).alloc (Nat.le_refl _) _
     obtain ⟨p86, hp86⟩ := eX WA.heap.size
     obtain ⟨WB, hWB⟩ := eX (WA.alloc (.cells #[.int .i64 1, .string ⟨#[114, 101, 102, 115, 46, 116, 109, 112]⟩, .string ⟨#[]⟩, .slice none 0 0, .int .i64 2, .string ⟨#[114, 101, 102, 115, 46, 116, 109, 112]⟩, .string ⟨#[]⟩, .slice Ax gd cx, .int .i64 3, .string ⟨#[114, 101, 102, 115, 46, 116, 109, 112]⟩, .string ⟨#[]⟩, .slice none 0 0, .int .i64 4, .string ⟨#[114, 101, 102, 115, 46, 116, 109, 112]⟩, .string ⟨#[114, 101, 102, 115]⟩, .slice none 0 0, .int .i64 6, .string ⟨#[]⟩, .string ⟨#[]⟩, .slice none 0 0] 56))
     obtain ⟨rB, bB, sB⟩ := new_row hWB
     rw [hp86] at rB
     have HOB := h_ (own_below HOA.out bB)
     have HRB : Hid (Rd WB (some ⟨p86, 0, none⟩) [.int .i64 1, .string ⟨#[114, 101, 102, 115, 46, 116, 109, 112]⟩, .string ⟨#[]⟩, .slice none 0 0, .int .i64 2, .string ⟨#[114, 101, 102, 115, 46, 116, 109, 112]⟩, .string ⟨#[]⟩, .slice Ax gd cx, .int .i64 3, .string ⟨#[114, 101, 102, 115, 46, 116, 109, 112]⟩, .string ⟨#[]⟩, .slice none 0 0, .int .i64 4, .string ⟨#[114, 101, 102, 115, 46, 116, 109, 112]⟩, .string ⟨#[114, 101, 102, 115]⟩, .slice none 0 0, .int .i64 6, .string ⟨#[]⟩, .string ⟨#[]⟩, .slice none 0 0]) := h_ (range_rd (range_of_row (cs := [.int .i64 1, .string ⟨#[114, 101, 102, 115, 46, 116, 109, 112]⟩, .string ⟨#[]⟩, .slice none 0 0, .int .i64 2, .string ⟨#[114, 101, 102, 115, 46, 116, 109, 112]⟩, .string ⟨#[]⟩, .slice Ax gd cx, .int .i64 3, .string ⟨#[114, 101, 102, 115, 46, 116, 109, 112]⟩, .string ⟨#[]⟩, .slice none 0 0, .int .i64 4, .string ⟨#[114, 101, 102, 115, 46, 116, 109, 112]⟩, .string ⟨#[114, 101, 102, 115]⟩, .slice none 0 0, .int .i64 6, .string ⟨#[]⟩, .string ⟨#[]⟩, .slice none 0 0]) rB))
     have HBB : Hid (Below w9.heap.size w9 WB) := h_ (hbA.trans (bB.mono hbA.size))
     have HSZ : Hid (p13 ≤ WB.heap.size) := h_ (by have := HBB.out.size; omega)
     have HOPZ : Hid ((Tryz.prog.info? 56).map (fun i => (i.zero, i.size, i.bytes)) = some (some (.agg #[.int .i64 0, .string ⟨#[]⟩, .string ⟨#[]⟩, .slice none 0 0]), 4, 64)) := h_ (by kernel_rfl)
     have HRGD : Hid (∀ W, Below w9.heap.size w9 W → W.rangeAt g1 0 ld) := h_ (fun W hb => range_of_row (by have h1 := (HSX.out.below hb).d1; rw [HLD.out] at h1; exact h1))
     have HFIA := h_ (HFI.out WA hbA)
     have c11A : WA.cell? ⟨g1, 1, none⟩ = some (.slice R.na 1 R.nc) := by
      rw [row_cell (HSX.out.below hbA).d1 1]
      show some (Value.slice R.na m.now.length R.nc) = _
      rw [HNOW.out]
      rfl
     clear hos hms hbA rB bB sB hg c11
     go_wp2_with (first
      | ((with_reducible (refine wpList_load_cells 65 _ p4 0 (lr) HRG4.out Tryz.underlying65 rfl HR4L.out ?_ rfl ?_ ?_)); exact rfl; (exact rfl)))
     refine HFIA.out.mono ?_
     rintro e w14 ⟨rfl, rfl⟩
     clear c11A
     have i91 : ¬ ((0 : Int) ≤ -1) := by decide
     go_wp2_with (first
      | (at_builtin; (try rw [hWB]); (try rw [hp86]); go_loud (refine wpList_append_rd _ rfl _ _ 57 rfl p13 56 _ 4 64 Tryz.underlying57 HOPZ.out (by simp [Value.cells]) (by decide) (.slice (some ⟨p13, 0, none⟩) 0 0) 0 _ rfl HOB.out _ 5 5 [.int .i64 1, .string ⟨#[114, 101, 102, 115, 46, 116, 109, 112]⟩, .string ⟨#[]⟩, .slice none 0 0, .int .i64 2, .string ⟨#[114, 101, 102, 115, 46, 116, 109, 112]⟩, .string ⟨#[]⟩, .slice Ax gd cx, .int .i64 3, .string ⟨#[114, 101, 102, 115, 46, 116, 109, 112]⟩, .string ⟨#[]⟩, .slice none 0 0, .int .i64 4, .string ⟨#[114, 101, 102, 115, 46, 116, 109, 112]⟩, .string ⟨#[114, 101, 102, 115]⟩, .slice none 0 0, .int .i64 6, .string ⟨#[]⟩, .string ⟨#[]⟩, .slice none 0 0] rfl rfl HRB.out HOP1.out (by unfold maxLen; omega) (by omega) HSZ.out ?_); go_loud (intro v8 w15 ho8 hg8 hvb8; (simp only [Nat.zero_add, List.nil_append] at ho8); obtain ⟨A8, c8, e8, _⟩ := own_slice ho8; subst e8; have HRO := h_ (own_rd ho8); have HB15 : Hid (Below w9.heap.size w9 w15) := h_ (bel_ownQ HBB.out hp13 HOB.out hg8); have HRGD15 := h_ (HRGD.out w15 HB15.out); clear ho8 hg8 hvb8))
      | ((with_reducible (refine wpList_load_cells 53 _ g1 0 (ld) HRGD15.out Tryz.underlying53 rfl HI7.out ?_ rfl ?_ ?_)); exact rfl; (exact rfl)))
     clear hWA hWB hp13 hp86
     refine (HDO.out w15 A8 c8 HB15.out HRO.out).mono ?_
     rintro e w16 ⟨R', rfl, hri, hb16⟩
     have HI14 := h_ (info_dka R' (renewed X room G))
     have HI14L := h_ (info_dkl R' (renewed X room G))
     have HO14 : Hid ((rowQ R' (renewed X room G)).toArray.all (·.oneCell') = true) := h_ (all_oneCell_toArray (rowQ_one _ _))
     have HL14 : Hid ((rowQ R' (renewed X room G)).length = 7) := h_ rfl
     have hsY := (HSX.out.below HB15.out).below hb16
     obtain ⟨p14, hp14⟩ := eX w16.heap.size
     obtain ⟨WC, hWC⟩ := eX (w16.alloc (.cells #[.slice none 0 0, .slice none 0 0, .slice none 0 0, .slice none 0 0, .int .i64 0, .int .i64 0, .bool false] 53))
     obtain ⟨rC, bC, sC⟩ := new_row hWC
     rw [hp14] at rC
     obtain ⟨WD, hWD, TD, RD, GD⟩ := put_rowR (old := [.slice none 0 0, .slice none 0 0, .slice none 0 0, .slice none 0 0, .int .i64 0, .int .i64 0, .bool false]) (new := rowQ R' (renewed X room G)) rC rfl
     have bD : Below w16.heap.size w16 WD := bel_grown bC bC.size GD.out (by omega)
     have hsD := hsY.below bD
     have r4D := hsD.r4
     rw [rfR_split7] at r4D
     obtain ⟨WE, hWE, TE, RE, GE⟩ := put_mid (vs := rowQ R' (renewed X room G)) r4D rfl
     have RE' : WE.heap[p4]? = some (.cells (rfR R' (renewed X room G) Al cl r).toArray 65 (0, 0)) := RE.out
     have hfE : Frm (· = p4) WD WE := Frm.of_grown GE.out (fun k hk => .inl (by cases hk; rfl))
     have hz2 := (GE.out.block _ (Array.getElem?_eq_some_iff.1 hsD.z2).1 (fun e => by have := Option.some.inj e; have := hsD.lay; omega)).trans hsD.z2
     obtain ⟨WF, hWF, TF, RF_, GF⟩ := put_rowR (new := rfR R' (renewed X room G) Al cl r) hz2 (by rw [HLZL.out, rfR_len HOK.out.1.al])
     have hfF : Frm (· = g2) WE WF := Frm.of_grown GF.out (fun k hk => .inl (by cases hk; rfl))
     have HRIF : Hid (RIn F WF R' (renewed X room G)) := h_ ((((hri.below bD).frm hfE (fun b hb => .inr (.inl hb))).frm hfF (fun b hb => .inl (.inr (.inr hb)))).narrow (fun b hb => .inl (.inl hb)))
     have HRLF : Hid (RdF F WF Al (upsC r.log)) := h_ (((hsD.rl.frm hfE (fun b hb => .inr (.inl hb))).frm hfF (fun b hb => .inl (.inr (.inr hb)))).narrow (fun b hb => .inl (.inl hb)))
     have hbE := bel_grown hsD.bel hsD.bel.size GE.out (by have := hsD.lay; omega)
     have HBF : Hid (Below w.heap.size w WF) := h_ (bel_grown hbE hbE.size GF.out (by have := hsD.lay; omega))
     have HRGP : Hid (WD.rangeAt p14 0 (rowQ R' (renewed X room G))) := h_ (range_of_row RD.out)
     have HRGE : Hid (WE.rangeAt p4 0 (rfR R' (renewed X room G) Al cl r)) := h_ (range_of_row RE')
     have HIFL := h_ (info_rfl (R := R') (m := renewed X room G) (A := Al) (c := cl) HOK.out.1.al)
     have HIFA := h_ (info_rfa (R := R') (m := renewed X room G) (A := Al) (c := cl) HOK.out.1.al)
     have HOF : Hid ((rfR R' (renewed X room G) Al cl r).toArray.all (·.oneCell') = true) := h_ (all_oneCell_toArray rfR_one)
     have HWD := h_ hWD
     have HTD := h_ TD.out
     have HWE : Hid (WD.setCells p4 0 (rowQ R' (renewed X room G)).toArray.toList = WE) := h_ hWE
     have HTE : Hid (WD.there p4 0 (rowQ R' (renewed X room G)).toArray.size) := h_ TE.out
     have HWF := h_ hWF
     have HTF := h_ TF.out
     have HRF := h_ RF_.out
     obtain ⟨l7, hl7⟩ := eX (rowQ R' (renewed X room G))
     obtain ⟨l9, hl9⟩ := eX (rfR R' (renewed X room G) Al cl r)
     have HL9 := h_ hl9
     rw [hl7] at HI14 HI14L HO14 HL14 HWD HTD HWE HTE HRGP ⊢
     rw [hl9] at HRGE HIFL HIFA HOF HWF HTF HRF
     clear hri hb16 hsY rC bC sC hWD TD RD GD bD hsD r4D hWE TE RE GE RE' hfE hz2 hWF TF RF_ GF hfF hbE hl7 hl9
     go_wp2_with (first
      | ((with_reducible (refine wpList_store_mid rfl _ _ _ rfl ?_ ?_ ?_ ?_ ?_ ?_ ?_ ?_ ?_)); exact p14; exact 0; (exact (l7).toArray); exact rfl; exact rfl; exact HTD.out; exact HI14.out; exact HO14.out; rw [HWD.out])
      | ((with_reducible (refine wpList_load_cells 53 _ p14 0 (l7) HRGP.out Tryz.underlying53 rfl HI14L.out ?_ rfl ?_ ?_)); exact rfl; (exact rfl))
      | ((with_reducible (refine wpList_store_mid rfl _ _ _ rfl ?_ ?_ ?_ ?_ ?_ ?_ ?_ ?_ ?_)); exact p4; exact 0; (exact (l7).toArray); exact rfl; exact rfl; exact HTE.out; exact HI14.out; exact HO14.out; rw [HWE.out])
      | ((with_reducible (refine wpList_load_cells 65 _ p4 0 (l9) HRGE.out Tryz.underlying65 rfl HIFL.out ?_ rfl ?_ ?_)); exact rfl; (exact rfl))
      | ((with_reducible (refine wpList_store_mid rfl _ _ _ rfl ?_ ?_ ?_ ?_ ?_ ?_ ?_ ?_ ?_)); exact g2; exact 0; (exact (l9).toArray); exact rfl; exact rfl; exact HTF.out; exact HIFA.out; exact HOF.out; rw [HWF.out]))
     refine bodyPost_ret (results_row_tmp rfl _ _ _ _ _ _ _ rfl HRF.out Tryz.underlying65 rfl HIFA.out) rfl ⟨R', Al, cl, ?_, HRIF.out, by rw [← HRG.out.1]; exact HRLF.out, by first | exact HBF.out | (rw [← hg1]; exact HBF.out)⟩
     rw [← HRG.out.1, ← HL9.out]
     all_goals rfl
end Go.Proofs.YtelbofikcpchiaaGreat
