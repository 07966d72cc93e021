/- RefsRaw: the law's walk. (Printed by wip/genRg14.py.) -/
import Derived.Test.YtelbofikcpchiaaGreatRg13
import Derived.Test.YtelbofikcpchiaaGreatQV
import Derived.Test.YtelbofikcpchiaaGreatQR
namespace Go.Proofs.YtelbofikcpchiaaGreat
open Go.RowKit
def rwS (X : List UInt8) : Nat → DM
 | 0 => newM 10000
 | 1 => ⟨[⟨[], 0⟩], [(refsB, 0)], [], [⟨[], refsB, 0⟩], 10000, 0, false⟩
 | 2 => ⟨[⟨X, 0⟩], [(refsB, 0)], [], [⟨[], refsB, 0⟩], 10000, 0, false⟩
 | 3 => ⟨[⟨X, X.length⟩], [(refsB, 0)], [], [⟨[], refsB, 0⟩], 10000, 0, false⟩
 | _ => stR X 10000
set_option linter.unusedSectionVars false
section
variable {X : List UInt8}
theorem rwS_1 : createM (rwS X 0) refsB = (rwS X 1, 0) := rfl
theorem rwS_2 (h : X.length ≤ 10000) : appendM (rwS X 1) refsB X = (rwS X 2, 0) := by
 have hr : roomM (rwS X 1) = 10000 := rfl
 have hfd : findM (rwS X 1) refsB = (some 0, 0) := rfl
 unfold appendM
 rw [hfd]
 simp only
 rw [hr, if_neg (by omega)]
 rfl
theorem rwS_3 : syncM (rwS X 2) refsB = (rwS X 3, 0) := rfl
theorem rwS_4 : flushM (rwS X 3) = (rwS X 4, 0) := rfl
theorem rwS_ne (i : Nat) : ∀ p ∈ (rwS X i).now, p.1 ≠ [] := by
 intro p hp
 match i, hp with
 | 0, hp => simp [rwS, newM] at hp
 | 1, hp | 2, hp | 3, hp =>
  simp [rwS] at hp
  rw [hp]; decide
 | i + 4, hp =>
   simp [rwS, stR] at hp
   rw [hp]; decide
theorem rwS_fit (h : X.length ≤ 10000) : ∀ i, i ≤ 4 → Fit 1 10000 (rwS X i) := by
 have f0 : Fit 0 0 (rwS X 0) := fit_new 10000 (by decide)
 have f1 := f0.create refsB
 rw [rwS_1] at f1
 have f2 := f1.append refsB X
 rw [rwS_2 h] at f2
 have f3 := f2.sync refsB
 rw [rwS_3] at f3
 have f4 := f3.flush
 rw [rwS_4] at f4
 intro i hi
 match i, hi with
 | 0, _ => exact f0.mono (by omega) (by omega)
 | 1, _ => exact f1.mono (by omega) (by omega)
 | 2, _ => exact f2.mono (by omega) (by omega)
 | 3, _ => exact f3.mono (by omega) (by omega)
 | 4, _ => exact f4.mono (by omega) (by omega)
end
theorem openP_len : ∀ (f : Nat) (r : RfM) (X : List UInt8) (g : Nat), (openP f r X g).1.log.length + 64 * g ≤ r.log.length + 64 * (openP f r X g).2 ∧ (openP f r X g).1.all.length + 64 * g ≤ r.all.length + 64 * (openP f r X g).2
 | 0, r, X, g => ⟨Nat.le_refl _, Nat.le_refl _⟩
 | f + 1, r, X, g => by
   simp only [openP]
   by_cases hc : (splitP (X.drop g)).2.2 = false ∨ checkR r (splitP (X.drop g)).1 ≠ 0
   ·rw [if_pos hc]; exact ⟨Nat.le_refl _, Nat.le_refl _⟩
   ·rw [if_neg hc]
    have hok : (splitP (X.drop g)).2.2 = true := by
     cases hb : (splitP (X.drop g)).2.2 with
     | true => rfl
     | false => exact absurd (.inl hb) hc
    obtain ⟨_, h2, h3⟩ := split_ok (X.drop g)
    have h4 := (h3 hok).1
    obtain ⟨h5, h6⟩ := openP_len f (makeR r (splitP (X.drop g)).1) X (g + (splitP (X.drop g)).2.1)
    have h7 : (makeR r (splitP (X.drop g)).1).log.length = r.log.length + (splitP (X.drop g)).1.us.length := by simp [makeR]
    have h8 := makeR_all r (splitP (X.drop g)).1
    constructor <;> omega
theorem renewed_read {X : List UInt8} {room G : Nat} (hG : G = (X.take G).length) : readM (renewed X room G) refsB = (X.take G, 0) := by
 unfold renewed
 by_cases h : G = X.length
 ·rw [if_pos h, stR_read, h, List.take_length]
 ·rw [if_neg h]
  rfl
theorem renewed_crash {X : List UInt8} {room G : Nat} : crashM (renewed X room G) 0 [] = renewed X room G := by
 unfold renewed
 by_cases h : G = X.length
 ·rw [if_pos h]
  unfold crashM stR
  simp [cutM, fileM]
 ·rw [if_neg h]
  unfold crashM
  simp [cutM, fileM]
structure RwS (N g p : Nat) (w0 : World) (T : TypeId) (cs : List Value) (m : DM) (d : DA) (wr : World) : Prop where
 disk : DiskIn N wr g m d
 row : wr.heap[p]? = some (.cells cs.toArray T (0, 0))
 np : ¬ foot g d p
 bel : Below w0.heap.size w0 wr
 nw : N ≤ wr.heap.size
section
variable {N g p : Nat} {w0 wr w' : World} {T : TypeId} {cs : List Value} {m m' : DM} {d d' : DA}
theorem RwS.below (h : RwS N g p w0 T cs m d wr) (hb : Below wr.heap.size wr w') : RwS N g p w0 T cs m d w' :=
 ⟨h.disk.below hb, (hb.block _ (Array.getElem?_eq_some_iff.1 h.row).1).trans h.row, h.np, h.bel.trans (hb.mono h.bel.size), Nat.le_trans h.nw hb.size⟩
theorem RwS.aft (h : RwS N g p w0 T cs m d wr) (hN : w0.heap.size = N) (ha : Aft N g wr w' m' d d') : RwS N g p w0 T cs m' d' w' :=
 ⟨ha.disk, (ha.frm.block _ (Array.getElem?_eq_some_iff.1 h.row).1 h.np).trans h.row, fun hf => by
   rcases ha.ext p hf with h1 | h1
   ·exact h.np h1
   ·have := (Array.getElem?_eq_some_iff.1 h.row).1; omega, h.bel.trans (by rw [hN]; exact ha.bel h.disk h.nw), Nat.le_trans h.nw ha.frm.size⟩
end
set_option maxRecDepth 1000000 in
set_option maxHeartbeats 16000000 in
theorem refsRaw_any (A0 : Option Addr) (bs : List UInt8) (n c0 : Nat) (w : World) (hn : bs.length = n) (hnm : n ≤ 9223372036854775807) (hr : Rd w A0 (b8s bs)) :
  Calls Tryz.prog 5 #[.slice A0 n c0] w fun e w' => e = .returned (.bool true) ∧ Below w.heap.size w w' := by
 have HN := h_ hn
 have HR0 := h_ hr
 clear hn hr
 by_cases h2000 : 2000 < n
 ·have i1 : (2000 : Int) < (n : Int) := by omega
  go_enter Tryz.func5, Tryz.ntmps5
  go_wp2_with fail
  refine (ralive_any w).mono ?_
  rintro e w1 ⟨rfl, hb1⟩
  go_wp2_with fail
  go_ret
  exact ⟨rfl, hb1⟩
 have i1 : ¬ (2000 : Int) < (n : Int) := by omega
 go_enter Tryz.func5, Tryz.ntmps5
 go_wp2_with fail
 refine (ralive_any w).mono ?_
 rintro e w1 ⟨rfl, hb1⟩
 have HB1 := h_ hb1
 have HRD := h_ (HR0.out.below hb1)
 clear hb1 HR0
 go_wp2_with fail
 refine (new_any 10000 (by omega) w1).mono ?_
 rintro e w2 ⟨g, d2, rfl, hd2, hb2⟩
 have HD2 : Hid (DiskIn w1.heap.size w2 g (rwS bs 0) d2) := h_ hd2
 have HB2 := h_ hb2
 clear hd2 hb2
 go_wp2_with fail
 refine (rnew_any 10000 w2).mono ?_
 rintro e w3 ⟨rfl, hb3⟩
 rw [rowQ_val]
 have HB3 := bt_ HB2 hb3
 have HD3 := h_ (HD2.out.below hb3)
 clear hb3
 obtain ⟨p4, hp4⟩ := eX w3.heap.size
 obtain ⟨W4, hW4⟩ := eX (w3.alloc (.cells #[.slice none 0 0, .slice none 0 0, .slice none 0 0, .slice none 0 0, .int .i64 0, .int .i64 0, .bool false] 53))
 obtain ⟨r4, b4, s4⟩ := new_row hW4
 rw [hp4] at r4
 obtain ⟨W5, hW5, T5, R5, G5⟩ := put_rowR (old := [.slice none 0 0, .slice none 0 0, .slice none 0 0, .slice none 0 0, .int .i64 0, .int .i64 0, .bool false]) (new := rowQ R0 (newM 10000)) r4 rfl
 have hb5 : Below w3.heap.size w3 W5 := bel_grown b4 b4.size G5.out (by omega)
 have HI5 := h_ (info_dka R0 (newM 10000))
 have HO5 : Hid ((rowQ R0 (newM 10000)).toArray.all (·.oneCell') = true) := h_ (all_oneCell_toArray (rowQ_one _ _))
 obtain ⟨p27, hp27⟩ := eX W5.heap.size
 obtain ⟨W6, hW6⟩ := eX (W5.alloc (.cells #[.int .i64 1, .string ⟨#[114, 101, 102, 115]⟩, .string ⟨#[]⟩, .slice none 0 0, .int .i64 2, .string ⟨#[114, 101, 102, 115]⟩, .string ⟨#[]⟩, .slice A0 n c0, .int .i64 3, .string ⟨#[114, 101, 102, 115]⟩, .string ⟨#[]⟩, .slice none 0 0, .int .i64 6, .string ⟨#[]⟩, .string ⟨#[]⟩, .slice none 0 0] 56))
 obtain ⟨r6, b6, s6⟩ := new_row hW6
 rw [hp27] at r6
 have hb6 : Below w3.heap.size w3 W6 := hb5.trans (b6.mono hb5.size)
 obtain ⟨os, hos⟩ : ∃ os : List OpD, os = [⟨1, ⟨#[114, 101, 102, 115]⟩, ⟨#[]⟩, none, 0, 0, []⟩, ⟨2, ⟨#[114, 101, 102, 115]⟩, ⟨#[]⟩, A0, n, c0, bs⟩, ⟨3, ⟨#[114, 101, 102, 115]⟩, ⟨#[]⟩, none, 0, 0, []⟩, ⟨6, ⟨#[]⟩, ⟨#[]⟩, none, 0, 0, []⟩] := ⟨_, rfl⟩
 have HOL : Hid (os.length = 4) := h_ (by rw [hos]; rfl)
 have HRO6 : Hid (Rd W6 (some ⟨p27, 0, none⟩) (os.flatMap opD)) := h_ (by rw [hos]; exact range_rd (range_of_row (cs := [.int .i64 1, .string ⟨#[114, 101, 102, 115]⟩, .string ⟨#[]⟩, .slice none 0 0, .int .i64 2, .string ⟨#[114, 101, 102, 115]⟩, .string ⟨#[]⟩, .slice A0 n c0, .int .i64 3, .string ⟨#[114, 101, 102, 115]⟩, .string ⟨#[]⟩, .slice none 0 0, .int .i64 6, .string ⟨#[]⟩, .string ⟨#[]⟩, .slice none 0 0]) r6))
 have HOD : Hid (∀ i (hi : i < os.length), (1 ≤ os[i].k ∧ os[i].k ≤ 6) ∧ os[i].n = os[i].bs.length ∧ os[i].n ≤ 1000000 ∧ (∀ W, Below w1.heap.size w1 W → Rd W os[i].A (b8s os[i].bs)) ∧ doM (rwS bs i) os[i].k os[i].S.data.toList os[i].Z.data.toList os[i].bs = (rwS bs (i + 1), 0)) := h_ (by
  rw [hos]
  intro i hi
  match i, hi with
  | 0, _ => exact ⟨⟨by show 1 ≤ 1; decide, by show 1 ≤ 6; decide⟩, rfl, by show 0 ≤ 1000000; decide, fun _ _ => Rd.nil, rfl⟩
  | 1, _ => exact ⟨⟨by show 1 ≤ 2; decide, by show 2 ≤ 6; decide⟩, HN.out.symm, by show n ≤ 1000000; omega, fun W hb => HRD.out.below hb, rwS_2 (by rw [HN.out]; omega)⟩
  | 2, _ => exact ⟨⟨by show 1 ≤ 3; decide, by show 3 ≤ 6; decide⟩, rfl, by show 0 ≤ 1000000; decide, fun _ _ => Rd.nil, rfl⟩
  | 3, _ => exact ⟨⟨by show 1 ≤ 6; decide, by show 6 ≤ 6; decide⟩, rfl, by show 0 ≤ 1000000; decide, fun _ _ => Rd.nil, rfl⟩)
 have hl5 := (b_ R5)
 have HF6 : Hid (∀ b, foot g d2 b → b < w3.heap.size) := h_ (fun b hb => HD3.out.foot_lt hb)
 have HRW6 : Hid (RwS w1.heap.size g p4 w1 53 (rowQ R0 (rwS bs 0)) (rwS bs 0) d2 W6) := h_ ⟨HD3.out.below hb6, (b6.block _ hl5).trans R5.out, fun hf => by have := HF6.out p4 hf; omega, HB3.out.trans (hb6.mono HB3.out.size), by have := HB3.out.size; have := hb6.size; omega⟩
 have HRI6 : Hid (RIn (FG (foot g d2) p4 p4) W6 R0 (rwS bs 0)) := h_ (rin_new _ _ _)
 have HP4 : Hid (p4 < p27 ∧ p27 < W6.heap.size ∧ w3.heap.size ≤ p4 ∧ w1.heap.size ≤ p4) := h_ ⟨by omega, by omega, by omega, by have := HB3.out.size; omega⟩
 have HW5 := h_ hW5
 have HT5 := h_ T5.out
 obtain ⟨l5, hl5_⟩ := eX (rowQ R0 (newM 10000))
 rw [hl5_] at HI5 HO5 HW5 HT5 ⊢
 clear r4 b4 s4 hW5 T5 R5 G5 hb5 r6 b6 s6 hb6 hos hl5 hl5_
 go_wp2_with (first
  | ((with_reducible (refine wpList_store_mid rfl _ _ _ rfl ?_ ?_ ?_ ?_ ?_ ?_ ?_ ?_ ?_)); exact p4; exact 0; (exact (l5).toArray); exact rfl; exact rfl; exact HT5.out; exact HI5.out; exact HO5.out; rw [HW5.out]))
 clear hp4 hW4 hp27 hW6
 go_loopg [29] (4 * 1) (fun gk_ iv wr => ∃ (i : Nat) (R' : RA), i ≤ 4 ∧ gk_ = 4 - i ∧ iv = .int .i64 (i : Int) ∧ Hid (RwS w1.heap.size g p4 w1 53 (rowQ R' (rwS bs i)) (rwS bs 0) d2 wr) ∧ Hid (RIn (FG (foot g d2) p4 p4) wr R' (rwS bs i)) ∧ Hid (Rd wr (some ⟨p27, 0, none⟩) (os.flatMap opD)) ∧ Hid (p27 < wr.heap.size))
 case atStart => exact ⟨0, R0, by omega, by omega, rfl, HRW6, HRI6, HRO6, h_ HP4.out.2.1⟩
 case round =>
 clear HRW6 HRI6 HRO6
 obtain ⟨i, R', hi, rfl, rfl, HS, HI, HRO, HZ27⟩ := hrel
 by_cases hlt : i < 4
 ·have j1 : (i : Int) < (4 : Int) := by omega
  have hil : i < os.length := by rw [HOL.out]; exact hlt
  obtain ⟨ho1, ho2, ho3, ho4, ho5⟩ := HOD.out i hil
  have hrow := rd_flat (f := opD) (m := 4) HRO.out (fun _ _ => rfl) i hil
  obtain ⟨x, hx⟩ := eX (os[i])
  rw [hx, Nat.zero_add] at hrow
  rw [hx] at ho1 ho2 ho3 ho4 ho5
  obtain ⟨p6, hp6⟩ := eX wr.heap.size
  obtain ⟨WA, hWA⟩ := eX (wr.alloc (.cells #[.int .i64 0, .string ⟨#[]⟩, .string ⟨#[]⟩, .slice none 0 0] 56))
  obtain ⟨rA, bA, sA⟩ := new_row hWA
  rw [hp6] at rA
  obtain ⟨WB, hWB, TB, RB, GB⟩ := put_rowR (old := [.int .i64 0, .string ⟨#[]⟩, .string ⟨#[]⟩, .slice none 0 0]) (new := opD x) rA rfl
  have hbB : Below wr.heap.size wr WB := bel_grown bA bA.size GB.out (by omega)
  have HSB := h_ (HS.out.below hbB)
  have HIB := h_ (HI.out.below hbB)
  have HROB := h_ (HRO.out.below hbB)
  have HZB : Hid (p27 < WB.heap.size) := h_ (Nat.lt_of_lt_of_le HZ27.out hbB.size)
  have HDOW : Hid (Calls Tryz.prog 18 #[.agg (rowQ R' (rwS bs i)).toArray, .agg (opD x).toArray] WB fun e w' => ∃ R2 : RA, e = .returned (.tuple #[.agg (rowQ R2 (rwS bs (i + 1))).toArray, .int .i64 0]) ∧ RIn (FG (foot g d2) p4 p4) w' R2 (rwS bs (i + 1)) ∧ Below WB.heap.size WB w') := h_ (by
   exact rDo_any (K := 1) (L := 10000) R' (rwS bs i) x.S x.Z x.A x.n x.c x.bs WB HIB.out (fun b hb => by
    have h1 := HSB.out.row
    have h2 := (Array.getElem?_eq_some_iff.1 h1).1
    rcases hb with hb | hb | hb
    ·exact HSB.out.disk.foot_lt hb
    ·omega
    ·omega) (rwS_fit (by rw [HN.out]; omega) i (by omega)) (by omega) (by omega) ⟨ho2, ho3⟩ (ho4 WB HSB.out.bel) (rwS_ne i) x.k ho1 (rwS bs (i + 1)) 0 ho5)
  have HRG6 := h_ (range_of_row RB.out)
  have HRG4 : Hid (WB.rangeAt p4 0 (rowQ R' (rwS bs i))) := h_ (range_of_row HSB.out.row)
  have HIO := h_ (info_opl x)
  have HIOA : Hid ((Tryz.prog.info? 56).map (·.size) = some (opD x).toArray.size) := h_ (by kernel_rfl)
  have HOO : Hid ((opD x).toArray.all (·.oneCell') = true) := h_ (all_oneCell_toArray (opD_one x))
  have HIL := h_ (info_dkl R' (rwS bs i))
  have HRW1 := h_ hrow
  have HWB := h_ hWB
  have HTB := h_ TB.out
  obtain ⟨lo, hlo⟩ := eX (opD x)
  obtain ⟨lc, hlc⟩ := eX (rowQ R' (rwS bs i))
  rw [hlo] at HRW1 HWB HTB HRG6 HIO HIOA HOO HDOW
  rw [hlc] at HRG4 HIL HDOW
  clear hil ho1 ho2 ho3 ho4 ho5 hrow hx rA bA sA hWB TB RB GB hbB hlo hlc
  go_wp2_with (first
   | ((with_reducible (refine wpList_load_cells 56 _ p27 (i * 4) (lo) HRW1.out Tryz.underlying56 rfl HIO.out ?_ rfl ?_ ?_)); exact rfl; (exact rfl))
   | ((with_reducible (refine wpList_store_mid rfl _ _ _ rfl ?_ ?_ ?_ ?_ ?_ ?_ ?_ ?_ ?_)); exact p6; exact 0; (exact (lo).toArray); exact rfl; exact rfl; exact HTB.out; exact HIOA.out; exact HOO.out; rw [HWB.out])
   | ((with_reducible (refine wpList_load_cells 53 _ p4 0 (lc) HRG4.out Tryz.underlying53 rfl HIL.out ?_ rfl ?_ ?_)); exact rfl; (exact rfl))
   | ((with_reducible (refine wpList_load_cells 56 _ p6 0 (lo) HRG6.out Tryz.underlying56 rfl HIO.out ?_ rfl ?_ ?_)); exact rfl; (exact rfl)))
  clear hp6 hWA
  refine HDOW.out.mono ?_
  clear HDOW
  rintro e w9 ⟨R2, rfl, hi9, hb9⟩
  have hs9 := HSB.out.below hb9
  obtain ⟨p7, hp7⟩ := eX w9.heap.size
  obtain ⟨WC, hWC⟩ := eX (w9.alloc (.cells #[.slice none 0 0, .slice none 0 0, .slice none 0 0, .slice none 0 0, .int .i64 0, .int .i64 0, .bool false] 53))
  obtain ⟨rC, bC, sC⟩ := new_row hWC
  rw [hp7] at rC
  obtain ⟨WD, hWD, TD, RD, GD⟩ := put_rowR (old := [.slice none 0 0, .slice none 0 0, .slice none 0 0, .slice none 0 0, .int .i64 0, .int .i64 0, .bool false]) (new := rowQ R2 (rwS bs (i + 1))) rC rfl
  have hbD : Below w9.heap.size w9 WD := bel_grown bC bC.size GD.out (by omega)
  have hsD := hs9.below hbD
  obtain ⟨WE, hWE, TE, RE, GE⟩ := put_rowR (new := rowQ R2 (rwS bs (i + 1))) hsD.row rfl
  have hfE : Frm (· = p4) WD WE := Frm.of_grown GE.out (fun k hk => .inl (by cases hk; rfl))
  have HSE : Hid (RwS w1.heap.size g p4 w1 53 (rowQ R2 (rwS bs (i + 1))) (rwS bs 0) d2 WE) := h_ ⟨hsD.disk.frm hfE (fun b hb e => hsD.np (e ▸ hb)), RE.out, hsD.np, bel_grown hsD.bel hsD.bel.size GE.out HP4.out.2.2.2, Nat.le_trans hsD.nw GE.out.size⟩
  have HIE : Hid (RIn (FG (foot g d2) p4 p4) WE R2 (rwS bs (i + 1))) := h_ ((hi9.below hbD).frm hfE (fun b hb => .inr (.inl hb)))
  have HROE : Hid (Rd WE (some ⟨p27, 0, none⟩) (os.flatMap opD)) := h_ (((HROB.out.below hb9).below hbD).keep (fun a ha hl => GE.out.block _ hl (fun e => by cases ha; have := Option.some.inj e; have := HP4.out; dsimp only at *; omega)))
  have HZE : Hid (p27 < WE.heap.size) := h_ (by have := HZB.out; have := hb9.size; have := hbD.size; have := GE.out.size; omega)
  have HRGD := h_ (range_of_row RD.out)
  have HI7 := h_ (info_dka R2 (rwS bs (i + 1)))
  have HI7L := h_ (info_dkl R2 (rwS bs (i + 1)))
  have HO7 : Hid ((rowQ R2 (rwS bs (i + 1))).toArray.all (·.oneCell') = true) := h_ (all_oneCell_toArray (rowQ_one _ _))
  have HWD := h_ hWD
  have HTD := h_ TD.out
  have HWE := h_ hWE
  have HTE := h_ TE.out
  obtain ⟨ln, hln⟩ := eX (rowQ R2 (rwS bs (i + 1)))
  rw [hln] at HRGD HI7 HI7L HO7 HWD HTD HWE HTE ⊢
  clear hi9 hb9 hs9 rC bC sC hWD TD RD GD hbD hsD hWE TE RE GE hfE hln
  go_wp2_with (first
   | ((with_reducible (refine wpList_store_mid rfl _ _ _ rfl ?_ ?_ ?_ ?_ ?_ ?_ ?_ ?_ ?_)); exact p7; exact 0; (exact (ln).toArray); exact rfl; exact rfl; exact HTD.out; exact HI7.out; exact HO7.out; rw [HWD.out])
   | ((with_reducible (refine wpList_load_cells 53 _ p7 0 (ln) HRGD.out Tryz.underlying53 rfl HI7L.out ?_ rfl ?_ ?_)); exact rfl; (exact rfl))
   | ((with_reducible (refine wpList_store_mid rfl _ _ _ rfl ?_ ?_ ?_ ?_ ?_ ?_ ?_ ?_ ?_)); exact p4; exact 0; (exact (ln).toArray); exact rfl; exact rfl; exact HTE.out; exact HI7.out; exact HO7.out; rw [HWE.out]))
  clear hp7 hWC
  go_roundg (4 - (i + 1))
  case measure => omega
  case rel => exact ⟨i + 1, R2, by omega, rfl, by first | rfl | exact congrArg (Value.int .i64) (by omega) | go_num, HSE, HIE, HROE, HZE⟩
 have hi4 : i = 4 := by omega
 subst hi4
 clear hlt HRO HZ27
 have HNL : Hid (bs.length ≤ 2000) := h_ (by rw [HN.out]; omega)
 have HRI : Hid (RIn (foot g d2) wr R' (stR bs 10000)) := h_ (HI.out.narrow (fun b hb => .inl hb))
 have HSS : Hid (RwS w1.heap.size g p4 w1 53 (rowQ R' (stR bs 10000)) (rwS bs 0) d2 wr) := HS
 clear HS HI
 go_wp2_with fail
 refine (create_st (S := ⟨#[114, 101, 102, 115]⟩) HSS.out.disk (rwS_fit (X := bs) (by have := HNL.out; omega) 0 (by omega)) (by omega) (by omega) (by decide) rwS_1).mono ?_
 rintro e w5 ⟨rfl, d5, ha5, _⟩
 have HS5 := h_ (HSS.out.aft rfl ha5)
 have HR5 := h_ (HRI.out.aft ha5)
 clear ha5
 go_wp2_with fail
 refine (append_st (S := ⟨#[114, 101, 102, 115]⟩) (A := A0) (bs := bs) (n := n) (c := c0) HS5.out.disk (rwS_fit (X := bs) (by have := HNL.out; omega) 1 (by omega)) (by omega) (by omega) (by decide) HN.out.symm (HRD.out.below HS5.out.bel) (fun hne a ha hf => by
  have h1 := HRD.out
  rw [ha] at h1
  obtain ⟨b, o, e, _⟩ := h1.byte 0 (List.length_pos_iff.2 hne)
  cases e
  have h2 := h1.lt (by rw [b8s_length]; exact List.length_pos_iff.2 hne)
  have h3 := HS5.out.disk.foot_ge hf
  dsimp only at h3
  omega) (by have := HNL.out; omega) (rwS_2 (by have := HNL.out; omega))).mono ?_
 rintro e w6 ⟨rfl, d6, ha6, _⟩
 have HS6 := h_ (HS5.out.aft rfl ha6)
 have HR6 := h_ (HR5.out.aft ha6)
 clear ha6
 go_wp2_with fail
 refine (sync_st (S := ⟨#[114, 101, 102, 115]⟩) HS6.out.disk (rwS_fit (X := bs) (by have := HNL.out; omega) 2 (by omega)) (by omega) (by omega) (by decide) rwS_3).mono ?_
 rintro e w7 ⟨rfl, d7, ha7, _⟩
 have HS7 := h_ (HS6.out.aft rfl ha7)
 have HR7 := h_ (HR6.out.aft ha7)
 clear ha7
 go_wp2_with fail
 refine (flush_st HS7.out.disk (rwS_fit (X := bs) (by have := HNL.out; omega) 3 (by omega)) (by omega) (by omega) rwS_4).mono ?_
 rintro e w8 ⟨rfl, d8, ha8, _⟩
 have HS8 : Hid (RwS w1.heap.size g p4 w1 53 (rowQ R' (stR bs 10000)) (stR bs 10000) d8 w8) := h_ (HS7.out.aft rfl ha8)
 have HR8 := h_ (HR7.out.aft ha8)
 clear ha8 HSS HRI HS5 HR5 HS6 HR6 HS7 HR7
 have HF8 : Hid (Fit 1 10000 (stR bs 10000)) := h_ (rwS_fit (X := bs) (by have := HNL.out; omega) 4 (by omega))
 obtain ⟨Rf, G, hop⟩ : ∃ Rf G, openP (bs.length + 1) rf0 bs 0 = (Rf, G) := ⟨_, _, rfl⟩
 have HOP := h_ hop
 obtain ⟨hag, hGl⟩ := openP_again hop
 have HAG := h_ hag
 have HGE := h_ hGl
 have HGL : Hid (GL Rf) := h_ (by have h1 := openP_gl (bs.length + 1) rf0 bs 0 GL.zero; rw [hop] at h1; exact h1)
 have HLN : Hid (Rf.log.length ≤ 1000000 ∧ Rf.all.length ≤ 1000000) := h_ (by
  have h1 := openP_len (bs.length + 1) rf0 bs 0
  rw [hop] at h1
  dsimp only at h1
  have h2 : G ≤ bs.length := by rw [hGl, List.length_take]; omega
  have h3 : rf0.log.length = 0 := rfl
  have h4 : rf0.all.length = 0 := rfl
  have := HNL.out
  omega)
 obtain ⟨Y, hY⟩ := eX (bs.take G)
 have HYL : Hid (Y.length ≤ 2000) := h_ (by rw [← hY, List.length_take]; have := HNL.out; omega)
 obtain ⟨mR, hmR⟩ := eX (renewed bs 10000 G)
 have HRDM : Hid (readM mR refsB = (Y, 0)) := h_ (by rw [← hmR, ← hY]; exact renewed_read hGl)
 have HCRM : Hid (crashM mR 0 [] = mR) := h_ (by rw [← hmR]; exact renewed_crash)
 have HMR := h_ hmR
 have HYE := h_ hY
 clear hop hag hGl hY hmR
 go_wp2_with fail
 refine (open_stR HS8.out.disk HF8.out (by omega) (by omega) (by have := HNL.out; omega) (by have := HNL.out; omega) HOP.out).mono ?_
 rintro e w9 ⟨gr, rfl, ⟨d9, q9, hd9, ha9⟩, hf9, hok9, hst9, _⟩
 rw [HMR.out] at hd9 ha9 hf9
 have HS9 := h_ (HS8.out.aft rfl ha9)
 have HR9 := h_ (HR8.out.aft ha9)
 have HDR9 := h_ hd9
 have HF9 := h_ hf9
 have HOK := h_ hok9
 clear hd9 ha9 hf9 hok9 hst9
 have HRG9 : Hid (w9.rangeAt p4 0 (rowQ R' (stR bs 10000))) := h_ (range_of_row HS9.out.row)
 have HI9 := h_ (info_dkl R' (stR bs 10000))
 have HRO9 := h_ (ropenD_any (F := foot g d9) (Kf := 1) (Lf := 10000) R' bs Rf w9 HR9.out (fun b hb => HS9.out.disk.foot_lt hb) HF8.out (by omega) (by omega) (by have := HNL.out; omega) (by have := HNL.out; omega) HOP.out)
 rw [rowQ_val, HMR.out] at HRO9
 obtain ⟨l9, hl9⟩ := eX (rowQ R' (stR bs 10000))
 rw [hl9] at HRG9 HI9 HRO9
 clear hl9
 go_wp2_with ((with_reducible (refine wpList_load_cells 53 _ p4 0 (l9) HRG9.out Tryz.underlying53 rfl HI9.out ?_ rfl ?_ ?_)); exact rfl; (exact rfl))
 refine HRO9.out.mono ?_
 clear HRO9
 rintro e w10 ⟨RX, AX, cX, rfl, hin10, hrl10, hb10⟩
 have hs10 := HS9.out.below hb10
 obtain ⟨lz, hlz, hlzl⟩ := rrefs_zero
 obtain ⟨p11, hp11⟩ := eX w10.heap.size
 obtain ⟨WA, hWA⟩ := eX (w10.alloc (.cells #[.slice none 0 0, .slice none 0 0, .slice none 0 0, .slice none 0 0, .int .i64 0, .int .i64 0, .bool false, .slice none 0 0, .string ⟨#[]⟩, Value.int .u8 0, .int .u8 0, .int .u8 0, .int .u8 0, .int .u8 0, .int .u8 0, .int .u8 0, .int .u8 0, .int .u8 0, .int .u8 0, .int .u8 0, .int .u8 0, .int .u8 0, .int .u8 0, .int .u8 0, .int .u8 0, .int .u8 0, .int .u8 0, .int .u8 0, .int .u8 0, .int .u8 0, .int .u8 0, .int .u8 0, .int .u8 0, .int .u8 0, .int .u8 0, .int .u8 0, .int .u8 0, .int .u8 0, .int .u8 0, .int .u8 0, .int .u8 0, .bool false] 65))
 obtain ⟨rA, bA, sA⟩ := new_row hWA
 rw [hp11, hlz] at rA
 obtain ⟨WB, hWB, TB, RB, GB⟩ := put_rowR (new := rfR RX mR AX cX Rf) rA (by rw [rfR_len HOK.out.al, hlzl])
 have hbB : Below w10.heap.size w10 WB := bel_grown bA bA.size GB.out (by omega)
 have hsB := hs10.below hbB
 have HSX : Hid (RwS w1.heap.size g p11 w1 65 (rfR RX mR AX cX Rf) mR d9 WB) := h_ ⟨hsB.disk, RB.out, fun hf => by have := hs10.disk.foot_lt hf; omega, hsB.bel, hsB.nw⟩
 have HRIX := h_ (hin10.below hbB)
 have HRLX := h_ (hrl10.below hbB)
 have HDRX := h_ ((HDR9.out.below hb10).below hbB)
 have HIX := h_ (info_rfa (R := RX) (m := mR) (A := AX) (c := cX) HOK.out.al)
 have HOX : Hid ((rfR RX mR AX cX Rf).toArray.all (·.oneCell') = true) := h_ (all_oneCell_toArray rfR_one)
 have HWB := h_ hWB
 have HTB := h_ TB.out
 have HSM := h_ (rsame_any (K := 3) (L := 20000) (K' := 3) (L' := 20000) HDRX.out HF9.out (by omega) (by omega) HOK.out HGL.out Rf.log.length rfl HLN.out RX HRIX.out HF9.out (by omega) AX cX HRLX.out.1 Y (by have := HYL.out; omega) HRDM.out HRDM.out)
 have HRWX : Hid (WB.heap[p11]? = some (.cells (rfR RX mR AX cX Rf).toArray 65 (0, 0))) := h_ RB.out
 unfold rfV at HSM ⊢
 obtain ⟨lx, hlx⟩ := eX (rfR RX mR AX cX Rf)
 have HLX := h_ hlx
 rw [hlx] at HIX HOX HWB HTB HSM HRWX HSX ⊢
 clear hin10 hrl10 hb10 hs10 hlz hlzl rA bA sA hWB TB RB GB hbB hsB hlx
 go_wp2_with (first
  | ((with_reducible (refine wpList_store_mid rfl _ _ _ rfl ?_ ?_ ?_ ?_ ?_ ?_ ?_ ?_ ?_)); exact p11; exact 0; (exact (lx).toArray); exact rfl; exact rfl; exact HTB.out; exact HIX.out; exact HOX.out; rw [HWB.out])
  | ((with_reducible (refine wpList_load_row_w _ _ rfl _ rfl _ _ _ _ HRWX.out Tryz.underlying65 rfl HIX.out ?_ ?_)); (focus (rfl))))
 clear hp11 hWA
 refine HSM.out.mono ?_
 clear HSM
 rintro e w12 ⟨rfl, hb12⟩
 have HS12 := h_ (HSX.out.below hb12)
 have HRI12 := h_ (HRIX.out.below hb12)
 have HRL12 := h_ (HRLX.out.below hb12)
 clear hb12
 go_wp2_with fail
 refine (crash_st (keep := []) (Ak := none) HS12.out.disk HF9.out (by omega) (by omega) rfl (Nat.le_refl _) (Nat.zero_le _) Rd.nil (fun h => absurd rfl h) HCRM.out).mono ?_
 rintro e w13 ⟨rfl, d13, ha13, hf13⟩
 have HS13 := h_ (HS12.out.aft rfl ha13)
 have HRI13 := h_ (HRI12.out.aft ha13)
 have HRL13 := h_ (HRL12.out.aft ha13)
 have HF13 := h_ hf13
 clear ha13 hf13
 go_wp2_with fail
 refine (open_old (m' := mR) (bs := Y) (R := Rf) (G := G) HS13.out.disk HF13.out (by omega) (by omega) HRDM.out (by have := HYL.out; omega) (by have h1 := HAG.out; rw [HYE.out] at h1; exact h1) (fun _ => rfl) (fun h => absurd (by have h1 := HGE.out; rw [HYE.out] at h1; exact h1) h)).mono ?_
 rintro e w14 ⟨gr2, rfl, ⟨d14, q14, hd14, ha14⟩, hf14, hok14, _, _⟩
 have HS14 := h_ (HS13.out.aft rfl ha14)
 have HRI14 := h_ (HRI13.out.aft ha14)
 have HRL14 := h_ (HRL13.out.aft ha14)
 have HSM2 := h_ (rsame_any (K := 5) (L := 30000) (K' := 5) (L' := 30000) hd14 hf14 (by omega) (by omega) HOK.out HGL.out Rf.log.length rfl HLN.out RX HRI14.out hf14 (by omega) AX cX HRL14.out.1 Y (by have := HYL.out; omega) HRDM.out HRDM.out)
 unfold rfV at HSM2
 rw [HLX.out] at HSM2
 have HRW14 := h_ HS14.out.row
 clear hd14 ha14 hf14 hok14
 go_wp2_with (first
  | ((with_reducible (refine wpList_load_row_w _ _ rfl _ rfl _ _ _ _ HRW14.out Tryz.underlying65 rfl HIX.out ?_ ?_)); (focus (rfl))))
 refine HSM2.out.mono ?_
 clear HSM2
 rintro e w15 ⟨rfl, hb15⟩
 have HBE : Hid (Below w.heap.size w w15) := h_ (HB1.out.trans ((HS14.out.bel.trans (hb15.mono HS14.out.bel.size)).mono HB1.out.size))
 clear hb15
 go_wp2_with fail
 go_ret
 exact ⟨rfl, HBE.out⟩
end Go.Proofs.YtelbofikcpchiaaGreat
