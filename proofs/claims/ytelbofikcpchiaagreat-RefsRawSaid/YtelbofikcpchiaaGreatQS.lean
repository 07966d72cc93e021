/- Refs: split of any bytes; a file that is written anew. (With the texts that it stands on.) -/
import Derived.Test.YtelbofikcpchiaaGreatQP
import Derived.Test.YtelbofikcpchiaaGreatQR
import Derived.Test.YtelbofikcpchiaaGreatEncReadK
import Derived.Test.YtelbofikcpchiaaGreatQL
namespace Go.Proofs.YtelbofikcpchiaaGreat
open Go.RowKit
theorem getNum_most (st : St) (most : Int) (h : 0 ≤ most) : ((getNum st most).1 : Int) ≤ most := by
 cases st with
 | none => simpa [getNum] using h
 | some bs =>
   unfold getNum
   cases hn : numS most 9 0 0 bs with
   | none => simp only [hn]; exact h
   | some v =>
     obtain ⟨a, b⟩ := v
     simp only [hn]
     exact (numS_le _ _ _ _ _ _ _ hn).2.1
theorem getN_le (st : St) (n : Nat) : (getN st n).1.length ≤ n := by
 rcases st_cases st n with ⟨bs, rfl, h⟩ | h
 ·rw [getN_yes h]
  simp only [List.length_take]
  omega
 ·rw [getN_no h]
  simp
theorem getText_le (st : St) : (getText st 1048576).1.length ≤ 1048576 := by
 have h1 := getNum_most st 1048576 (by decide)
 have h2 := getN_le (getNum st 1048576).2 (getNum st 1048576).1
 unfold getText
 omega
theorem getUps_length (k : Nat) : ∀ st, (getUps k st).1.length = k := by
 induction k with
 | zero => intro st; rfl
 | succ k ih => intro st; simp only [getUps, List.length_cons, ih]
theorem getUp_ok (st : St) : upOk (getUp st).1 := by
 refine ⟨getId_len _, getId_len _, ?_⟩
 have := getText_le st
 show (getText st 1048576).1.length ≤ _
 omega
theorem getUps_ok (k : Nat) : ∀ st, ∀ u ∈ (getUps k st).1, upOk u := by
 induction k with
 | zero => intro st u hu; cases hu
 | succ k ih =>
   intro st u hu
   simp only [getUps] at hu
   rcases List.mem_cons.1 hu with rfl | hu
   ·exact getUp_ok st
   ·exact ih _ u hu
theorem parse_ok (p : List UInt8) : TxOk (parseT p).1 ∧ (parseT p).1.us.length ≤ 64 := by
 have h1 := getNum_most (some p) 64 (by decide)
 have h2 : (parseT p).1.us.length = (getNum (some p) 64).1 := getUps_length _ _
 refine ⟨⟨getId_len _, getUps_ok _ _, ?_, by omega⟩, by omega⟩
 have := getText_le (getUps (getNum (some p) 64).1 (getNum (some p) 64).2).2
 show (getText (getUps (getNum (some p) 64).1 (getNum (some p) 64).2).2 1048576).1.length ≤ _
 omega
theorem up_built1 (nm : List UInt8) : Tryz.prog.built 31 [(0, strV nm)] = some (upC ⟨nm, Z32, Z32⟩).toArray := by kernel_rfl
structure TuS (w : World) (K gd p2 P : Nat) (lz : List Value) (st : St) (us : List UpM) (Ai : Option Addr) (i ci : Nat) (wr : World) : Prop where
 rdr : RdrK wr gd K st
 row : wr.heap[K]? = some (.cells (txC Ai i ci ⟨us, [], Z32⟩).toArray 28 (0, 0))
 res : wr.heap[p2]? = some (.cells lz.toArray 28 (0, 0))
 own : wr.ownsRow (K + 1) 31 65 (.slice Ai i ci) i (upsC us)
 bel : Below w.heap.size w wr
 sz : K + 1 ≤ wr.heap.size
 lay : w.heap.size ≤ p2 ∧ p2 < gd ∧ gd < K
 olt : ∀ a, Ai = some a → a.block < P
set_option linter.unusedSectionVars false
section
variable {w wr w' : World} {K gd p2 P : Nat} {lz : List Value} {st st' : St} {us : List UpM} {Ai : Option Addr} {i ci : Nat}
theorem TuS.below (h : TuS w K gd p2 P lz st us Ai i ci wr) (hb : Below wr.heap.size wr w') : TuS w K gd p2 P lz st us Ai i ci w' :=
 ⟨h.rdr.below hb, (hb.block _ (Array.getElem?_eq_some_iff.1 h.row).1).trans h.row, (hb.block _ (Array.getElem?_eq_some_iff.1 h.res).1).trans h.res, own_below h.own hb, h.bel.trans (hb.mono h.bel.size), Nat.le_trans h.sz hb.size, h.lay, h.olt⟩
theorem TuS.read (h : TuS w K gd p2 P lz st us Ai i ci wr) (hg : wr.grownBy w' (some gd)) (hk : RdrK w' gd K st') : TuS w K gd p2 P lz st' us Ai i ci w' := by
 obtain ⟨l1, l2, l3⟩ := h.lay
 refine ⟨hk, (hg.block _ (Array.getElem?_eq_some_iff.1 h.row).1 (fun e => by have := Option.some.inj e; omega)).trans h.row, (hg.block _ (Array.getElem?_eq_some_iff.1 h.res).1 (fun e => by have := Option.some.inj e; omega)).trans h.res, own_far h.own (by omega) hg, bel_grown h.bel h.bel.size hg (by omega), Nat.le_trans h.sz hg.size, h.lay, h.olt⟩
theorem TuS.put {b : Nat} (h : TuS w K gd p2 P lz st us Ai i ci wr) (hg : wr.grownBy w' (some b)) (hb : K + 1 ≤ b) (hP : P ≤ b) : TuS w K gd p2 P lz st us Ai i ci w' := by
 obtain ⟨l1, l2, l3⟩ := h.lay
 refine ⟨h.rdr.far (by omega) (by omega) hg, (hg.block _ (Array.getElem?_eq_some_iff.1 h.row).1 (fun e => by have := Option.some.inj e; omega)).trans h.row, (hg.block _ (Array.getElem?_eq_some_iff.1 h.res).1 (fun e => by have := Option.some.inj e; omega)).trans h.res, own_keep h.own (fun k hk hl => hg.block k hl (fun e => ?_)), bel_grown h.bel h.bel.size hg (by omega), Nat.le_trans h.sz hg.size, h.lay, h.olt⟩
 have h1 := Option.some.inj e
 cases Ai with
 | none => cases hk
 | some a =>
   have h2 : a.block = k := Option.some.inj hk
   have h3 := h.olt a rfl
   omega
theorem TuS.own_ne (h : TuS w K gd p2 P lz st us Ai i ci wr) {b : Nat} (hb : (Value.slice Ai i ci).ownBlock = some b) : K + 1 ≤ b := (h.own.lt b hb).1
theorem TuS.app {u : UpM} {A8 : Option Addr} {c8 : Nat} {w8 : World} (h : TuS w K gd p2 P lz st us Ai i ci wr) (hg : wr.grownBy w8 (Value.slice Ai i ci).ownBlock) (ho : w8.ownsRow (K + 1) 31 65 (.slice A8 (i + 1) c8) (i + 1) (upsC us ++ upC u)) :
  TuS w K gd p2 (w8.setCell ⟨K, 0, none⟩ (.slice A8 (i + 1) c8)).heap.size lz st (us ++ [u]) A8 (i + 1) c8 (w8.setCell ⟨K, 0, none⟩ (.slice A8 (i + 1) c8)) := by
 obtain ⟨l1, l2, l3⟩ := h.lay
 have hne : ∀ b, (Value.slice Ai i ci).ownBlock = some b → K + 1 ≤ b := fun b hb => h.own_ne hb
 have hk8 : RdrK w8 gd K st := by
  cases hv : (Value.slice Ai i ci).ownBlock with
  | none => rw [hv] at hg; exact h.rdr.below (grown_none hg)
  | some b =>
    rw [hv] at hg
    have := hne b hv
    exact h.rdr.far (by omega) (by omega) hg
 have hr8 : w8.heap[K]? = _ := (hg.block _ (Array.getElem?_eq_some_iff.1 h.row).1 (fun e => by have := hne _ e.symm; omega)).trans h.row
 have hp8 : w8.heap[p2]? = _ := (hg.block _ (Array.getElem?_eq_some_iff.1 h.res).1 (fun e => by have := hne _ e.symm; omega)).trans h.res
 have hs := grown_set (w := w8) K 0 (.slice A8 (i + 1) c8)
 have hb8 : Below w.heap.size w w8 := by
  cases hv : (Value.slice Ai i ci).ownBlock with
  | none => rw [hv] at hg; exact h.bel.trans ((grown_none hg).mono h.bel.size)
  | some b =>
    rw [hv] at hg
    have := hne b hv
    exact bel_grown h.bel h.bel.size hg (by omega)
 refine ⟨hk8.far (by omega) (Nat.le_refl _) hs, ?_, ?_, ?_, bel_grown hb8 hb8.size hs (by omega), ?_, h.lay, ?_⟩
 ·have h1 := row_set hr8 0 (.slice A8 (i + 1) c8)
  exact h1
 ·exact (hs.block _ (Array.getElem?_eq_some_iff.1 hp8).1 (fun e => by have := Option.some.inj e; omega)).trans hp8
 ·rw [upsC_app, show upsC [u] = upC u by simp [upsC]]
  exact own_far ho (by omega) hs
 ·exact Nat.le_trans (Nat.le_trans h.sz hg.size) hs.size
 ·intro a ha
  have h1 := (ho.lt a.block (by rw [ha]; rfl)).2
  have := hs.size
  omega
end
set_option maxRecDepth 1000000 in
set_option maxHeartbeats 16000000 in
theorem rturn_any (A : Option Addr) (n c : Nat) (bs : List UInt8) (hn : n = bs.length) (w : World) (hr : Rd w A (b8s bs)) (hm : bs.length ≤ 140737488355328) :
  Calls Tryz.prog 70 #[.slice A n c] w fun e w' => ∃ Ai ci, e = .returned (.tuple #[.agg (txC Ai (parseT bs).1.us.length ci (parseT bs).1).toArray, .bool (parseT bs).2]) ∧ Rd w' Ai (upsC (parseT bs).1.us) ∧ (∀ a, Ai = some a → w.heap.size ≤ a.block) ∧ Below w.heap.size w w' := by
 obtain ⟨p2, hp2⟩ := eX w.heap.size
 obtain ⟨lz, hlz⟩ := eX (txC none 0 0 t0)
 have hlz' : lz.toArray = #[Value.slice none 0 0, .string ⟨#[]⟩, Value.int .u8 0, .int .u8 0, .int .u8 0, .int .u8 0, .int .u8 0, .int .u8 0, .int .u8 0, .int .u8 0, .int .u8 0, .int .u8 0, .int .u8 0, .int .u8 0, .int .u8 0, .int .u8 0, .int .u8 0, .int .u8 0, .int .u8 0, .int .u8 0, .int .u8 0, .int .u8 0, .int .u8 0, .int .u8 0, .int .u8 0, .int .u8 0, .int .u8 0, .int .u8 0, .int .u8 0, .int .u8 0, .int .u8 0, .int .u8 0, .int .u8 0, .int .u8 0] := by rw [← hlz]; rfl
 obtain ⟨W1, hW1⟩ := eX (w.alloc (.cells #[Value.slice none 0 0, .string ⟨#[]⟩, Value.int .u8 0, .int .u8 0, .int .u8 0, .int .u8 0, .int .u8 0, .int .u8 0, .int .u8 0, .int .u8 0, .int .u8 0, .int .u8 0, .int .u8 0, .int .u8 0, .int .u8 0, .int .u8 0, .int .u8 0, .int .u8 0, .int .u8 0, .int .u8 0, .int .u8 0, .int .u8 0, .int .u8 0, .int .u8 0, .int .u8 0, .int .u8 0, .int .u8 0, .int .u8 0, .int .u8 0, .int .u8 0, .int .u8 0, .int .u8 0, .int .u8 0, .int .u8 0] 28))
 obtain ⟨r1, b1, s1⟩ := new_row hW1
 rw [hp2, ← hlz'] at r1
 have HB1 := h_ b1
 have HR1 := h_ r1
 have HP2 := h_ hp2
 have HLZ := h_ hlz'
 have HLZ0 := h_ hlz
 have HRD := h_ (read_any A bs n c W1 hn (hr.below b1) hm)
 obtain ⟨T, hT⟩ := eX (parseT bs)
 have HT := h_ hT
 have HS1 : Hid (W1.heap.size = p2 + 1) := h_ (by rw [s1, hp2])
 rw [hT]
 clear hn hr r1 b1 s1 hlz hlz' hT
 go_enter Tryz.func70, Tryz.ntmps70
 go_wp2_with fail
 refine HRD.out.mono ?_
 rintro e w2 ⟨gd, rfl, hge, hb2, hm2⟩
 have HGE := h_ hge
 have HB2 := bt_ HB1 hb2
 have HR2 : Hid (w2.heap[p2]? = some (.cells lz.toArray 28 (0, 0))) := bl_ hb2 HR1
 have HK2 := h_ hm2.k
 have HGL : Hid (gd < w2.heap.size) := h_ hm2.lt
 clear hge hb2 hm2 HRD hW1
 obtain ⟨K, hK⟩ := eX w2.heap.size
 obtain ⟨W3, hW3⟩ := eX (w2.alloc (.cells #[Value.slice none 0 0, .string ⟨#[]⟩, Value.int .u8 0, .int .u8 0, .int .u8 0, .int .u8 0, .int .u8 0, .int .u8 0, .int .u8 0, .int .u8 0, .int .u8 0, .int .u8 0, .int .u8 0, .int .u8 0, .int .u8 0, .int .u8 0, .int .u8 0, .int .u8 0, .int .u8 0, .int .u8 0, .int .u8 0, .int .u8 0, .int .u8 0, .int .u8 0, .int .u8 0, .int .u8 0, .int .u8 0, .int .u8 0, .int .u8 0, .int .u8 0, .int .u8 0, .int .u8 0, .int .u8 0, .int .u8 0] 28))
 obtain ⟨r3, b3, s3⟩ := new_row hW3
 rw [hK, ← HLZ.out] at r3
 rw [hK] at HK2 HGL
 have HKE := h_ hK
 have HK3 := h_ (HK2.out.below b3)
 have HR3 := h_ r3
 have HR23 := bl_ b3 HR2
 have HB3 := bt_ HB2 b3
 have HS3 : Hid (W3.heap.size = K + 1) := h_ (by rw [s3, hK])
 have HPG : Hid (p2 < gd ∧ gd < K) := h_ ⟨by have := HGE.out; have := HS1.out; have := HP2.out; have := HB1.out.size; omega, HGL.out⟩
 clear r3 b3 s3
 go_wp2_with fail
 clear hW3 hK
 refine (rdnum_k K gd _ 64 W3 HK3.out).mono ?_
 rintro e w4 ⟨rfl, hk4, hg4⟩
 obtain ⟨k, hk⟩ := eX ((getNum (some bs) 64).1)
 obtain ⟨st0, hst0⟩ := eX ((getNum (some bs) 64).2)
 have hk64 : k ≤ 64 := by have := getNum_most (some bs) 64 (by decide); omega
 have HTT : Hid (T = (⟨(getUps k st0).1, (getText (getUps k st0).2 1048576).1, (getId (getText (getUps k st0).2 1048576).2).1⟩, doneS (getId (getText (getUps k st0).2 1048576).2).2)) := h_ (by rw [← HT.out, ← hk, ← hst0]; rfl)
 rw [hk]
 rw [hst0] at hk4
 have HS4 : Hid (TuS w K gd p2 w4.heap.size lz st0 [] none 0 0 w4) := h_ (by
  have h0 : TuS w K gd p2 W3.heap.size lz (some bs) [] none 0 0 W3 := ⟨HK3.out, by have h1 := HR3.out; rw [← HLZ0.out] at h1; exact h1, HR23.out, World.ownsRow_nil _ _ _ _, HB3.out, by rw [HS3.out]; exact Nat.le_refl _, ⟨by rw [HP2.out]; exact Nat.le_refl _, HPG.out.1, HPG.out.2⟩, by simp⟩
  have h1 := h0.read hg4 hk4
  exact ⟨h1.rdr, h1.row, h1.res, h1.own, h1.bel, h1.sz, h1.lay, by simp⟩)
 clear hk4 hg4 hk hst0 HK3 HK2
 go_wp2_with fail
 go_loopg [11] (k * 1) (fun gk_ iv wr => ∃ (i : Nat) (st : St) (us : List UpM) (Ai : Option Addr) (ci : Nat), i ≤ k ∧ gk_ = k - i ∧ iv = .int .i64 (i : Int) ∧ Hid (us ++ (getUps (k - i) st).1 = (getUps k st0).1 ∧ (getUps (k - i) st).2 = (getUps k st0).2) ∧ Hid (us.length = i) ∧ Hid (TuS w K gd p2 wr.heap.size lz st us Ai i ci wr))
 case atStart => exact ⟨0, st0, [], none, 0, by omega, by omega, rfl, h_ ⟨rfl, rfl⟩, h_ rfl, HS4⟩
 case round =>
 clear HS4
 obtain ⟨i, st, us, Ai, ci, hi, rfl, rfl, HUS, HUL, HS⟩ := hrel
 by_cases hlt : i < k
 ·have j1 : (i : Int) < (k : Int) := by omega
  go_wp2_with fail
  refine (rdtext_k K gd st 1048576 wr HS.out.rdr).mono ?_
  rintro e w5 ⟨rfl, hk5, hg5⟩
  have HS5 := h_ (HS.out.read hg5 hk5)
  have HSZ5 : Hid (wr.heap.size ≤ w5.heap.size) := h_ hg5.size
  obtain ⟨nm, hnm⟩ := eX ((getText st 1048576).1)
  obtain ⟨sa, hsa⟩ := eX ((getText st 1048576).2)
  have HNM : Hid ((getText st 1048576).1 = nm) := h_ hnm
  have HSA : Hid ((getText st 1048576).2 = sa) := h_ hsa
  have hnl : nm.length ≤ 140737488355328 := by have h9 := getText_le st; rw [hnm] at h9; omega
  rw [hnm]
  rw [hsa] at HS5
  clear hk5 hg5 hnm hsa
  have HOK1 : Hid (upOk ⟨nm, Z32, Z32⟩) := h_ ⟨rfl, rfl, hnl⟩
  obtain ⟨p6, hp6⟩ := eX w5.heap.size
  obtain ⟨WA, hWA⟩ := eX (w5.alloc (.cells Tryz.zeroCells31 31))
  obtain ⟨rA, bA, sA⟩ := new_row hWA
  rw [hp6, upZ_eq] at rA
  obtain ⟨WB, hWB, TB, RB, GB⟩ := put_rowR (new := upC ⟨nm, Z32, Z32⟩) rA (by rw [upC_len HOK1.out]; rfl)
  have HWB := h_ hWB
  have HSB : Hid (TuS w K gd p2 wr.heap.size lz sa us Ai i ci WB) := h_ (HS5.out.below (bel_grown bA bA.size GB.out (by omega)))
  have HIL := h_ (info_upl HOK1.out)
  have HIA := h_ (info_upa HOK1.out)
  have HOC : Hid ((upC ⟨nm, Z32, Z32⟩).toArray.all (·.oneCell') = true) := h_ (all_oneCell_toArray (upC_one _))
  have HUB : Hid (Tryz.prog.built 31 [(0, .string ⟨nm.toArray⟩)] = some (upC ⟨nm, Z32, Z32⟩).toArray) := h_ (up_built1 nm)
  have HP6 : Hid (K + 1 ≤ p6 ∧ wr.heap.size ≤ p6) := h_ ⟨by rw [← hp6]; exact HS5.out.sz, by rw [← hp6]; exact HSZ5.out⟩
  have HRB : Hid (WB.heap[p6]? = some (.cells ([strV nm] ++ b8s Z32 ++ b8s Z32).toArray 31 (0, 0))) := h_ (by have h1 := RB.out; simpa [upC] using h1)
  obtain ⟨la, hla⟩ := eX (upC ⟨nm, Z32, Z32⟩)
  rw [hla] at HIA HOC HWB TB HUB
  clear rA bA sA hWB RB GB hla
  go_wp2_with (first
   | ((with_reducible (refine wpList_built ?_ _ #[(0, .tmp 14)] ?_ _ ?_ _ HUB.out ?_)); exact rfl; exact rfl; (exact rfl))
   | ((with_reducible (refine wpList_store_mid rfl _ _ _ rfl ?_ ?_ ?_ ?_ ?_ ?_ ?_ ?_ ?_)); exact p6; exact 0; (exact (la).toArray); exact rfl; exact rfl; exact TB.out; exact HIA.out; exact HOC.out; rw [HWB.out]))
  clear hp6 hWA
  refine (rdid_k K gd sa WB HSB.out.rdr (by have := HSB.out.sz; omega)).mono ?_
  rintro e w6 ⟨rfl, hk6, hg6⟩
  have HS6 := h_ (HSB.out.read hg6 hk6)
  obtain ⟨ia, hia⟩ := eX ((getId sa).1)
  obtain ⟨sb, hsb⟩ := eX ((getId sa).2)
  have HIA1 : Hid ((getId sa).1 = ia ∧ (getId sa).2 = sb) := h_ ⟨hia, hsb⟩
  have HIAL : Hid (ia.length = 32) := h_ (by rw [← hia]; exact getId_len _)
  have HRC : Hid (w6.heap[p6]? = some (.cells ([strV nm] ++ b8s Z32 ++ b8s Z32).toArray 31 (0, 0))) := h_ ((hg6.block _ (b_ HRB) (fun e => by have := Option.some.inj e; have := HP6.out.1; have := HS6.out.lay; omega)).trans HRB.out)
  rw [hia]
  rw [hsb] at HS6
  obtain ⟨W7, hW7, T7, R7, G7⟩ := put_mid (vs := b8s ia) HRC.out (by rw [b8s_length, b8s_length, HIAL.out]; rfl)
  have HS7 := h_ (HS6.out.put G7.out HP6.out.1 HP6.out.2)
  have HW7 : Hid (w6.setCells p6 1 (b8s ia).toArray.toList = W7) := h_ hW7
  have HT7 : Hid (w6.there p6 1 (b8s ia).toArray.size) := h_ T7.out
  have HII := h_ (info_ida ia HIAL.out)
  have HOI : Hid ((b8s ia).toArray.all (·.oneCell') = true) := h_ (all_oneCell_toArray (b8s_one' _))
  have HR7 : Hid (W7.heap[p6]? = some (.cells (([strV nm] ++ b8s ia) ++ b8s Z32 ++ []).toArray 31 (0, 0))) := h_ (by have h1 := R7.out; simpa using h1)
  obtain ⟨lia, hlia⟩ := eX (b8s ia)
  have HLIA := h_ hlia
  rw [hlia] at HW7 HT7 HII HOI ⊢
  clear hk6 hg6 hia hsb hW7 T7 R7 G7 hlia
  go_wp2_with ((with_reducible (refine wpList_store_mid rfl _ _ _ rfl ?_ ?_ ?_ ?_ ?_ ?_ ?_ ?_ ?_)); exact p6; exact 1; (exact (lia).toArray); exact rfl; exact rfl; exact HT7.out; exact HII.out; exact HOI.out; rw [HW7.out])
  refine (rdid_k K gd sb W7 HS7.out.rdr (by have := HS7.out.sz; omega)).mono ?_
  rintro e w8 ⟨rfl, hk8, hg8⟩
  have HS8 := h_ (HS7.out.read hg8 hk8)
  obtain ⟨ib, hib⟩ := eX ((getId sb).1)
  obtain ⟨sc, hsc⟩ := eX ((getId sb).2)
  have HIB1 : Hid ((getId sb).1 = ib ∧ (getId sb).2 = sc) := h_ ⟨hib, hsc⟩
  have HIBL : Hid (ib.length = 32) := h_ (by rw [← hib]; exact getId_len _)
  have HRD8 : Hid (w8.heap[p6]? = some (.cells (([strV nm] ++ b8s ia) ++ b8s Z32 ++ []).toArray 31 (0, 0))) := h_ ((hg8.block _ (b_ HR7) (fun e => by have := Option.some.inj e; have := HP6.out.1; have := HS8.out.lay; omega)).trans HR7.out)
  rw [hib]
  rw [hsc] at HS8
  obtain ⟨W9, hW9, T9, R9, G9⟩ := put_mid (vs := b8s ib) HRD8.out (by rw [b8s_length, b8s_length, HIBL.out]; rfl)
  have hpl : ([strV nm] ++ b8s ia).length = 33 := by rw [List.length_append, b8s_length, HIAL.out]; rfl
  rw [hpl] at hW9 T9
  have HS9 := h_ (HS8.out.put G9.out HP6.out.1 HP6.out.2)
  have HW9 := h_ hW9
  have HT9 := h_ T9.out
  have HII9 := h_ (info_ida ib HIBL.out)
  have HOI9 : Hid ((b8s ib).toArray.all (·.oneCell') = true) := h_ (all_oneCell_toArray (b8s_one' _))
  obtain ⟨u, hu⟩ : ∃ u : UpM, u = ⟨nm, ia, ib⟩ := ⟨_, rfl⟩
  have HOKU : Hid (upOk u) := h_ (by rw [hu]; exact ⟨HIAL.out, HIBL.out, hnl⟩)
  have HR9 : Hid (W9.heap[p6]? = some (.cells (upC u).toArray 31 (0, 0))) := h_ (by rw [hu]; have h1 := R9.out; simpa [upC] using h1)
  have HUP : Hid ((getUp st).1 = u ∧ (getUp st).2 = sc) := h_ (by
   rw [hu]
   unfold getUp
   simp only [HNM.out, HSA.out, HIA1.out.1, HIA1.out.2, HIB1.out.1, HIB1.out.2, and_self])
  obtain ⟨p7, hp7⟩ := eX W9.heap.size
  obtain ⟨WC, hWC⟩ := eX (W9.alloc (.cells (upC u).toArray 31))
  obtain ⟨rC, bC, sC⟩ := new_row hWC
  rw [hp7] at rC
  have HSC := h_ (HS9.out.below bC)
  have HRDC : Hid (Rd WC (some ⟨p7, 0, none⟩) (upC u)) := h_ (range_rd (range_of_row rC))
  have c9 : W9.cell? ⟨K, 0, none⟩ = some (.slice Ai i ci) := (tx_cells HS9.out.row).1
  have HRG9 := h_ (range_of_row HR9.out)
  have HIL9 := h_ (info_upl HOKU.out)
  have HIB9 : Hid ((Tryz.prog.info? 31).map (fun i => (i.size, i.zero.isSome)) = some ((upC u).length, true)) := h_ (by rw [upC_len HOKU.out]; kernel_rfl)
  have HUL9 := h_ (upC_len HOKU.out)
  have HO1 : Hid (∀ v ∈ upC u, v.oneCell' = true) := h_ (upC_one u)
  have HFC : Hid (∀ W', WC.grownBy W' (Value.slice Ai i ci).ownBlock → W'.cell? ⟨K, 0, none⟩ = some (.slice Ai i ci) ∧ W'.frozen? ⟨K, 0, none⟩ = false) := h_ (fun W' hg => by
   have h1 := (hg.block _ (Array.getElem?_eq_some_iff.1 HSC.out.row).1 (fun e => by have := HSC.out.own_ne e.symm; omega)).trans HSC.out.row
   exact ⟨(tx_cells h1).1, row_free h1 0⟩)
  have HOWN := h_ HSC.out.own
  have HSZC : Hid (K + 1 ≤ WC.heap.size) := h_ HSC.out.sz
  have HUC : Hid (upC u = upC u) := h_ rfl
  obtain ⟨lu, hlu⟩ := eX (upC u)
  have HLU := h_ hlu
  obtain ⟨lib, hlib⟩ := eX (b8s ib)
  rw [hlib] at HW9 HT9 HII9 HOI9 ⊢
  rw [hlu] at hWC HRDC HRG9 HIL9 HIB9 HUL9 HO1
  clear hk8 hg8 hib hsc hW9 T9 R9 G9 hpl hu rC bC sC hlu hlib
  go_wp2_with (first
   | ((with_reducible (refine wpList_store_mid rfl _ _ _ rfl ?_ ?_ ?_ ?_ ?_ ?_ ?_ ?_ ?_)); exact p6; exact 33; (exact (lib).toArray); exact rfl; exact rfl; exact HT9.out; exact HII9.out; exact HOI9.out; rw [HW9.out])
   | ((with_reducible (refine wpList_load_cells 31 _ p6 0 (lu) HRG9.out Tryz.underlying31 rfl HIL9.out ?_ rfl ?_ ?_)); exact rfl; (exact rfl))
   | (refine wpList_build1 rfl 26 31 _ rfl lu rfl Tryz.underlying26 HIB9.out (by rw [HUL9.out]; omega) (by rw [HUL9.out]; omega) ?_)
   | (at_builtin; (try rw [hWC]); (try rw [hp7]); go_loud (refine wpList_append_rd _ rfl _ _ 26 rfl (K + 1) 31 _ 65 80 Tryz.underlying26 info_up65 (by simp [Value.cells, b8s]) (by decide) (.slice Ai i ci) i _ rfl HOWN.out _ 1 1 lu rfl (by rw [HUL9.out]) HRDC.out HO1.out (by unfold maxLen; omega) (by omega) HSZC.out ?_); intro v8 wX ho8 hg8 hvb8; obtain ⟨A8, c8, e8, _⟩ := own_slice ho8; subst e8; obtain ⟨c8K, f8K⟩ := HFC.out _ hg8; have HO8 := h_ ho8; have HG8 := h_ hg8; clear ho8 hg8 hvb8))
  clear hWC hp7 c9
  go_roundg (k - (i + 1))
  case measure => omega
  case rel =>
   refine ⟨i + 1, sc, us ++ [u], A8, c8, by omega, rfl, by first | rfl | exact congrArg (Value.int .i64) (by omega) | go_num, h_ ?_, h_ (by rw [List.length_append, HUL.out]; rfl), h_ ?_⟩
   ·have h1 := HUS.out
    rw [show k - i = (k - (i + 1)) + 1 by omega] at h1
    simp only [getUps, HUP.out.1, HUP.out.2] at h1
    rw [List.append_assoc]
    exact h1
   ·have h1 := HO8.out
    rw [← HLU.out] at h1
    exact HSC.out.app HG8.out h1
 ·obtain rfl : i = k := by omega
  have HUF : Hid (us = (getUps i st0).1 ∧ st = (getUps i st0).2) := h_ (by
   have h1 := HUS.out
   rw [Nat.sub_self] at h1
   simpa [getUps] using h1)
  go_wp2_with fail
  refine (rdtext_k K gd st 1048576 wr HS.out.rdr).mono ?_
  rintro e w5 ⟨rfl, hk5, hg5⟩
  have HS5 := h_ (HS.out.read hg5 hk5)
  obtain ⟨nm, hnm⟩ := eX ((getText st 1048576).1)
  obtain ⟨sa, hsa⟩ := eX ((getText st 1048576).2)
  have HNM : Hid ((getText st 1048576).1 = nm ∧ (getText st 1048576).2 = sa) := h_ ⟨hnm, hsa⟩
  rw [hnm]
  rw [hsa] at HS5
  have c51 : w5.cell? ⟨K, 1, none⟩ = some (.string ⟨#[]⟩) := (tx_cells HS5.out.row).2.1
  have f51 : w5.frozen? ⟨K, 1, none⟩ = false := row_free HS5.out.row 1
  obtain ⟨W6, hW6⟩ := eX (w5.setCell ⟨K, 1, none⟩ (.string ⟨nm.toArray⟩))
  have hg6 : w5.grownBy W6 (some K) := by rw [← hW6]; exact grown_set K 1 _
  have HG6 := h_ hg6
  have HR6 : Hid (W6.heap[K]? = some (.cells ([Value.slice Ai i ci, strV nm] ++ b8s Z32 ++ []).toArray 28 (0, 0))) := h_ (by
   rw [← hW6]
   have h1 := row_set HS5.out.row 1 (.string ⟨nm.toArray⟩)
   exact h1)
  have HK6 : Hid (RdrK W6 gd K sa) := h_ (HS5.out.rdr.far (by have := HS5.out.lay; omega) (Nat.le_refl _) hg6)
  have HP26 : Hid (W6.heap[p2]? = some (.cells lz.toArray 28 (0, 0))) := h_ ((hg6.block _ (Array.getElem?_eq_some_iff.1 HS5.out.res).1 (fun e => by have := Option.some.inj e; have := HS5.out.lay; omega)).trans HS5.out.res)
  have HOW6 : Hid (W6.ownsRow (K + 1) 31 65 (.slice Ai i ci) i (upsC us)) := h_ (own_far HS5.out.own (by omega) hg6)
  have HB6 : Hid (Below w.heap.size w W6) := h_ (bel_grown HS5.out.bel HS5.out.bel.size hg6 (by have := HS5.out.lay; omega))
  have HZ6 : Hid (K ≤ W6.heap.size) := h_ (by have := HS5.out.sz; have := hg6.size; omega)
  have HLAY := h_ HS5.out.lay
  clear hk5 hg5 hnm hsa hg6
  go_wp2_with fail
  clear c51 f51 hW6
  refine (rdid_k K gd sa W6 HK6.out HZ6.out).mono ?_
  rintro e w7 ⟨rfl, hk7, hg7⟩
  obtain ⟨ia, hia⟩ := eX ((getId sa).1)
  obtain ⟨sb, hsb⟩ := eX ((getId sa).2)
  have HIA1 : Hid ((getId sa).1 = ia ∧ (getId sa).2 = sb) := h_ ⟨hia, hsb⟩
  have HIAL : Hid (ia.length = 32) := h_ (by rw [← hia]; exact getId_len _)
  rw [hia]
  rw [hsb] at hk7
  have HR7 : Hid (w7.heap[K]? = some (.cells ([Value.slice Ai i ci, strV nm] ++ b8s Z32 ++ []).toArray 28 (0, 0))) := h_ ((hg7.block _ (b_ HR6) (fun e => by have := Option.some.inj e; have := HLAY.out; omega)).trans HR6.out)
  have HP27 : Hid (w7.heap[p2]? = some (.cells lz.toArray 28 (0, 0))) := h_ ((hg7.block _ (b_ HP26) (fun e => by have := Option.some.inj e; have := HLAY.out; omega)).trans HP26.out)
  have HOW7 := h_ (own_far HOW6.out (by have := HLAY.out; omega) hg7)
  have HB7 : Hid (Below w.heap.size w w7) := h_ (bel_grown HB6.out HB6.out.size hg7 (by have := HLAY.out; omega))
  obtain ⟨W8, hW8, T8, R8, G8⟩ := put_mid (vs := b8s ia) HR7.out (by rw [b8s_length, b8s_length, HIAL.out]; rfl)
  have HK8 : Hid (RdrK W8 gd K sb) := h_ (hk7.far (by have := HLAY.out; omega) (Nat.le_refl _) G8.out)
  have HP28 : Hid (W8.heap[p2]? = some (.cells lz.toArray 28 (0, 0))) := h_ ((G8.out.block _ (b_ HP27) (fun e => by have := Option.some.inj e; have := HLAY.out; omega)).trans HP27.out)
  have HOW8 := h_ (own_far HOW7.out (by omega) G8.out)
  have HB8 := bg_ HB7 G8 (by have := HLAY.out; omega)
  have HW8 : Hid (w7.setCells K 2 (b8s ia).toArray.toList = W8) := h_ hW8
  have HT8 : Hid (w7.there K 2 (b8s ia).toArray.size) := h_ T8.out
  have HII := h_ (info_ida ia HIAL.out)
  have HOI : Hid ((b8s ia).toArray.all (·.oneCell') = true) := h_ (all_oneCell_toArray (b8s_one' _))
  have HR8 : Hid (W8.heap[K]? = some (.cells (txC Ai i ci ⟨us, nm, ia⟩).toArray 28 (0, 0))) := h_ (by have h1 := R8.out; simpa [txC] using h1)
  have HFT : Hid (T = (⟨us, nm, ia⟩, doneS sb)) := h_ (by
   rw [HTT.out, ← HUF.out.1, ← HUF.out.2, HNM.out.1, HNM.out.2, HIA1.out.1, HIA1.out.2])
  have HTL : Hid ((txC Ai i ci ⟨us, nm, ia⟩).length = 34) := h_ (txC_len HIAL.out)
  have HITL : Hid ((Tryz.prog.info? 28).map (·.size) = some (txC Ai i ci ⟨us, nm, ia⟩).length) := h_ (info_txl (t := ⟨us, nm, ia⟩) HIAL.out)
  have HITA : Hid ((Tryz.prog.info? 28).map (·.size) = some (txC Ai i ci ⟨us, nm, ia⟩).toArray.size) := h_ (info_txa (t := ⟨us, nm, ia⟩) HIAL.out)
  have HOT : Hid ((txC Ai i ci ⟨us, nm, ia⟩).toArray.all (·.oneCell') = true) := h_ (all_oneCell_toArray (txC_one _ _ _ _))
  have h2d : W8.drew.heap[p2]? = some (.cells lz.toArray 28 (0, 0)) := HP28.out
  obtain ⟨W9, hW9, T9, R9, G9⟩ := put_rowR (new := txC Ai i ci ⟨us, nm, ia⟩) h2d (by rw [HTL.out, ← HLZ0.out]; rfl)
  have HOW9 := h_ (own_far (w := W8.drew) HOW8.out (by have := HLAY.out; omega) G9.out)
  have HB9 : Hid (Below w.heap.size w W9) := h_ (bel_grown HB8.out.drew HB8.out.drew.size G9.out HLAY.out.1)
  have HW9 := h_ hW9
  have HRG8 := h_ (range_of_row HR8.out)
  have HRG9 : Hid (W9.rangeAt K 0 (txC Ai i ci ⟨us, nm, ia⟩)) := h_ (range_of_row ((G9.out.block _ (b_ HR8) (fun e => by have := Option.some.inj e; have := HLAY.out; omega)).trans HR8.out))
  obtain ⟨lt, hlt_⟩ := eX (txC Ai i ci ⟨us, nm, ia⟩)
  have HLT := h_ hlt_
  obtain ⟨lia, hlia⟩ := eX (b8s ia)
  rw [hlia] at HW8 HT8 HII HOI ⊢
  rw [hlt_] at HITL HITA HOT T9 R9 HW9 HRG8 HRG9
  clear hk7 hg7 hia hsb hW8 T8 R8 G8 h2d hW9 G9 hlt_ hlia
  go_wp2_with ((with_reducible (refine wpList_store_mid rfl _ _ _ rfl ?_ ?_ ?_ ?_ ?_ ?_ ?_ ?_ ?_)); exact K; exact 2; (exact (lia).toArray); exact rfl; exact rfl; exact HT8.out; exact HII.out; exact HOI.out; rw [HW8.out])
  refine wp_region_sched (fun w' => w'.rangeAt K 0 lt) [(true, 0), (true, 1), (false, 2), (false, 3), (true, 4)] (by kernel_rfl) (by kernel_rfl) rfl (by kernel_rfl) HRG8.out ?_
  refine wpS_load _ rfl (by rfl) 28 _ rfl K 0 rfl lt _ (fun w' hS => hS) Tryz.underlying28 rfl HITL.out ?_
  simp only [LY]
  ((first | refine wpS_pass _ rfl (by rfl) ?_ | (refine wpS_take _ ?_ rfl (by rfl) ?_ ?_; rotate_left; (focus (intro w' hS'; (try dsimp only at hS'); (repeat (have hS1 := hS'.1; replace hS' := hS'.2)); go_simp; (try with_reducible rfl); done)))); simp only [LY])
  refine wpS_do _ rfl (by rfl) (fun KK hKK => ?_)
  go_simp
  refine (done_any gd sb W8.drew (HK8.out.m.below (Below.refl _ _).drew)).mono ?_
  rintro e w9 ⟨rfl, rfl⟩
  refine hKK.out _ _ HRG8.out (fun hS => ?_)
  clear hKK hS
  refine wpS_store_mid _ rfl (by rfl) 28 _ _ rfl p2 0 lt.toArray rfl rfl T9.out HITA.out HOT.out ?_ ?_
  ·rw [HW9.out]
   exact HRG9.out
  simp only [LY]
  ((first | refine wpS_pass _ rfl (by rfl) ?_ | (refine wpS_take _ ?_ rfl (by rfl) ?_ ?_; rotate_left; (focus (intro w' hS'; (try dsimp only at hS'); (repeat (have hS1 := hS'.1; replace hS' := hS'.2)); go_simp; (try with_reducible rfl); done)))); simp only [LY])
  refine wpS_done ?_
  rw [HW9.out]
  go_wp2_with fail
  refine bodyPost_ret (results_row_tmp rfl _ _ _ _ _ _ _ rfl R9.out Tryz.underlying28 rfl HITA.out) rfl ?_
  rw [HFT.out]
  refine ⟨Ai, ci, ?_, own_rd HOW9.out, fun a ha => ?_, by first | exact HB9.out | (rw [← HP2.out]; exact HB9.out)⟩
  ·rw [← HLT.out, HUL.out]
   rfl
  ·have h1 := (HOW9.out.lt a.block (by rw [ha]; rfl)).1
   have := HLAY.out
   have := HB1.out.size
   omega
set_option maxRecDepth 100000 in
set_option maxHeartbeats 8000000 in
theorem split_short (A : Option Addr) (n c : Nat) (bs : List UInt8) (hn : n = bs.length) (w : World) (hr : Rd w A (b8s bs)) (hm : bs.length ≤ 140737488355328) (hs : (getFour (getNum (some bs) 1048576).2).2.isSome = true) (hl : leftS (getFour (getNum (some bs) 1048576).2).2 < (getNum (some bs) 1048576).1) :
  Calls Tryz.prog 29 #[.slice A n c] w fun e w' => e = .returned (.tuple #[.agg (txC none 0 0 t0).toArray, .int .i64 0, .bool false]) ∧ Below w.heap.size w w' := by
 obtain ⟨g, hg⟩ := eX w.heap.size
 obtain ⟨lz, hlz⟩ := eX (txC none 0 0 t0)
 have hlz' : lz.toArray = #[Value.slice none 0 0, .string ⟨#[]⟩, Value.int .u8 0, .int .u8 0, .int .u8 0, .int .u8 0, .int .u8 0, .int .u8 0, .int .u8 0, .int .u8 0, .int .u8 0, .int .u8 0, .int .u8 0, .int .u8 0, .int .u8 0, .int .u8 0, .int .u8 0, .int .u8 0, .int .u8 0, .int .u8 0, .int .u8 0, .int .u8 0, .int .u8 0, .int .u8 0, .int .u8 0, .int .u8 0, .int .u8 0, .int .u8 0, .int .u8 0, .int .u8 0, .int .u8 0, .int .u8 0, .int .u8 0, .int .u8 0] := by rw [← hlz]; rfl
 obtain ⟨W1, hW1⟩ := eX (w.alloc (.cells #[Value.slice none 0 0, .string ⟨#[]⟩, Value.int .u8 0, .int .u8 0, .int .u8 0, .int .u8 0, .int .u8 0, .int .u8 0, .int .u8 0, .int .u8 0, .int .u8 0, .int .u8 0, .int .u8 0, .int .u8 0, .int .u8 0, .int .u8 0, .int .u8 0, .int .u8 0, .int .u8 0, .int .u8 0, .int .u8 0, .int .u8 0, .int .u8 0, .int .u8 0, .int .u8 0, .int .u8 0, .int .u8 0, .int .u8 0, .int .u8 0, .int .u8 0, .int .u8 0, .int .u8 0, .int .u8 0, .int .u8 0] 28))
 obtain ⟨r1, b1, s1⟩ := new_row hW1
 rw [hg, ← hlz'] at r1
 have HB1 := h_ b1
 have R1 := h_ r1
 have HIA : Hid ((Tryz.prog.info? 28).map (·.size) = some lz.toArray.size) := h_ (by rw [← hlz]; exact info_txa rfl)
 have HOC : Hid (lz.toArray.all (·.oneCell') = true) := h_ (all_oneCell_toArray (by rw [← hlz]; exact txC_one _ _ _ _))
 have HRD := h_ (read_any A bs n c W1 hn (hr.below b1) hm)
 have HS := h_ hs
 rw [hlz]
 have HLZ := h_ hlz'
 obtain ⟨k, hk⟩ := eX ((getNum (some bs) 1048576).1)
 obtain ⟨lf, hlf⟩ := eX (leftS (getFour (getNum (some bs) 1048576).2).2)
 have HK := h_ hk
 have HLF := h_ hlf
 rw [hk, hlf] at hl
 have z1 : (lf : Int) < (k : Int) := by omega
 clear hlz hlz' r1 b1 s1 hr hs hn hk hlf hl
 go_enter Tryz.func29, Tryz.ntmps29
 go_wp2_with fail
 refine HRD.out.mono ?_
 rintro e w2 ⟨gd, rfl, hge, hb2, hm2⟩
 have HB2 := h_ hb2
 have HM2 := h_ hm2
 have HGE := h_ hge
 clear hge hb2 hm2 hW1
 go_wp2_with fail
 refine (rdnum_any gd _ 1048576 w2 HM2.out).mono ?_
 rintro e w3 ⟨rfl, hm3, hg3⟩
 rw [HK.out]
 have HB3 := h_ (bel_grown HB2.out HB2.out.size hg3 HGE.out)
 have HM3 := h_ hm3
 clear hm3 hg3
 go_wp2_with fail
 refine (rdfour_any gd _ w3 HM3.out).mono ?_
 rintro e w4 ⟨rfl, hm4, hg4⟩
 have HB4 := h_ (bel_grown HB3.out HB3.out.size hg4 HGE.out)
 have HM4 := h_ hm4
 clear hm4 hg4
 go_wp2_with fail
 refine (good_any gd _ w4 HM4.out).mono ?_
 rintro e w5 ⟨rfl, rfl⟩
 rw [HS.out]
 go_wp2_with fail
 refine (left_any gd _ w4 HM4.out).mono ?_
 rintro e w5 ⟨rfl, rfl⟩
 rw [HLF.out]
 have r4 := (HB4.out.block _ (b_ R1)).trans R1.out
 obtain ⟨WB, hWB, TB, RB, GB⟩ := put_rowR (new := lz) r4 rfl
 have HWB := h_ hWB
 have HBB : Hid (Below w.heap.size w WB) := h_ (bel_grown (HB1.out.trans (HB4.out.mono HB1.out.size)) (Nat.le_trans HB1.out.size HB4.out.size) GB.out (by omega))
 clear hWB r4
 go_wp2_with (first
  | (rw [← HLZ.out]; ((with_reducible (refine wpList_store_mid rfl _ _ _ rfl ?_ ?_ ?_ ?_ ?_ ?_ ?_ ?_ ?_)); exact g; exact 0; (exact (lz).toArray); exact rfl; exact rfl; exact TB.out; exact HIA.out; exact HOC.out; rw [HWB.out])))
 refine bodyPost_ret (results_row_two rfl _ _ _ _ _ _ _ rfl RB.out Tryz.underlying28 rfl HIA.out) rfl ?_
 exact ⟨rfl, by first | exact HBB.out | (rw [← hg]; exact HBB.out)⟩
theorem wrap_nat {a : Nat} (h : a ≤ 9223372036854775807) : wrap64 (a : Int) = (a : Int) := by unfold wrap64; omega
theorem getFour_left (st : St) : leftS (getFour st).2 ≤ leftS st := by
 unfold getFour
 rcases st_cases st 4 with ⟨bs, rfl, h⟩ | h
 ·rw [getN_yes h]; simp [leftS]
 ·rw [getN_no h]; simp [leftS]
theorem getNum_none {bs : List UInt8} {most : Int} (h : numS most 9 0 0 bs = none) : getNum (some bs) most = (0, none) := by
 simp [getNum, h]
theorem getNum_some {bs r : List UInt8} {n : Nat} {most : Int} (h : numS most 9 0 0 bs = some (n, r)) : getNum (some bs) most = (n, some r) := by
 simp [getNum, h]
theorem getNum_left (bs : List UInt8) (most : Int) : leftS (getNum (some bs) most).2 ≤ bs.length := by
 cases hn : numS most 9 0 0 bs with
 | none => rw [getNum_none hn]; exact Nat.zero_le _
 | some v =>
   obtain ⟨a, b⟩ := v
   have := (numS_le _ _ _ _ _ _ _ hn).2.2
   rw [getNum_some hn]
   show b.length ≤ _
   omega
theorem numS_suff (most : Int) : ∀ (f i acc : Nat) (bs : List UInt8) (n : Nat) (r : List UInt8), numS most f i acc bs = some (n, r) → r = bs.drop (bs.length - r.length)
 | 0, _, _, _, _, _, h => by simp [numS] at h
 | _ + 1, _, _, [], _, _, h => by simp [numS] at h
 | f + 1, i, acc, c :: bs, n, r, h => by
   unfold numS at h
   split at h
   ·have h1 := numS_suff most f _ _ bs n r h
    have h2 := (numS_le most f _ _ bs n r h).2.2
    rw [show (c :: bs).length - r.length = (bs.length - r.length) + 1 by simp only [List.length_cons]; omega, List.drop_succ_cons]
    exact h1
   ·split at h
    ·cases h
    ·cases h
     simp
theorem left_suff {bs rest : List UInt8} (h : (getFour (getNum (some bs) 1048576).2).2 = some rest) : rest = bs.drop (bs.length - rest.length) ∧ rest.length ≤ bs.length := by
 have hl : rest.length ≤ bs.length := by
  have h1 := getFour_left (getNum (some bs) 1048576).2
  have h2 := getNum_left bs 1048576
  rw [h] at h1
  have h3 : leftS (some rest) = rest.length := rfl
  omega
 refine ⟨?_, hl⟩
 cases hn : numS 1048576 9 0 0 bs with
 | none =>
   rw [getNum_none hn] at h
   simp [getFour, getN] at h
 | some v =>
   obtain ⟨a, b⟩ := v
   rw [getNum_some hn] at h
   have h1 := numS_suff _ _ _ _ _ _ _ hn
   have h2 := (numS_le _ _ _ _ _ _ _ hn).2.2
   simp only [getFour] at h
   rcases st_cases (some b) 4 with ⟨b', hb', h4⟩ | h4
   ·cases hb'
    rw [getN_yes h4] at h
    simp only [Option.some.injEq] at h
    have h5 : rest.length = b.length - 4 := by rw [← h, List.length_drop]
    rw [← h, h1, List.drop_drop]
    congr 1
    rw [List.length_drop]
    omega
   ·rw [getN_no h4] at h
    simp at h
set_option maxRecDepth 100000 in
set_option maxHeartbeats 8000000 in
theorem split_full (A : Option Addr) (n c : Nat) (bs rest : List UInt8) (hn : n = bs.length) (hnc : n ≤ c) (w : World) (hr : Rd w A (b8s bs)) (hm : bs.length ≤ 1099511627776) (hs : (getFour (getNum (some bs) 1048576).2).2 = some rest) (hl : ¬ rest.length < (getNum (some bs) 1048576).1) :
  Calls Tryz.prog 29 #[.slice A n c] w fun e w' => ∃ Ai ci, e = .returned (.tuple #[.agg (txC Ai (splitP bs).1.us.length ci (splitP bs).1).toArray, .int .i64 ((splitP bs).2.1 : Int), .bool (splitP bs).2.2]) ∧ Rd w' Ai (upsC (splitP bs).1.us) ∧ (∀ a, Ai = some a → w.heap.size ≤ a.block) ∧ Below w.heap.size w w' := by
 obtain ⟨g, hg⟩ := eX w.heap.size
 obtain ⟨lz, hlz⟩ := eX (txC none 0 0 t0)
 have hlz' : lz.toArray = #[Value.slice none 0 0, .string ⟨#[]⟩, Value.int .u8 0, .int .u8 0, .int .u8 0, .int .u8 0, .int .u8 0, .int .u8 0, .int .u8 0, .int .u8 0, .int .u8 0, .int .u8 0, .int .u8 0, .int .u8 0, .int .u8 0, .int .u8 0, .int .u8 0, .int .u8 0, .int .u8 0, .int .u8 0, .int .u8 0, .int .u8 0, .int .u8 0, .int .u8 0, .int .u8 0, .int .u8 0, .int .u8 0, .int .u8 0, .int .u8 0, .int .u8 0, .int .u8 0, .int .u8 0, .int .u8 0, .int .u8 0] := by rw [← hlz]; rfl
 obtain ⟨W1, hW1⟩ := eX (w.alloc (.cells #[Value.slice none 0 0, .string ⟨#[]⟩, Value.int .u8 0, .int .u8 0, .int .u8 0, .int .u8 0, .int .u8 0, .int .u8 0, .int .u8 0, .int .u8 0, .int .u8 0, .int .u8 0, .int .u8 0, .int .u8 0, .int .u8 0, .int .u8 0, .int .u8 0, .int .u8 0, .int .u8 0, .int .u8 0, .int .u8 0, .int .u8 0, .int .u8 0, .int .u8 0, .int .u8 0, .int .u8 0, .int .u8 0, .int .u8 0, .int .u8 0, .int .u8 0, .int .u8 0, .int .u8 0, .int .u8 0, .int .u8 0] 28))
 obtain ⟨r1, b1, s1⟩ := new_row hW1
 rw [hg, ← hlz'] at r1
 have HB1 := h_ b1
 have R1 := h_ r1
 have HG := h_ hg
 have HLZ := h_ hlz'
 have HLZL : Hid (lz.length = 34) := h_ (by rw [← hlz]; exact txC_len rfl)
 have HRD := h_ (read_any A bs n c W1 hn (hr.below b1) (by omega))
 have HS := h_ hs
 obtain ⟨hsuf, hrl⟩ := left_suff hs
 obtain ⟨k, hk⟩ := eX ((getNum (some bs) 1048576).1)
 obtain ⟨sm, hsm⟩ := eX ((getFour (getNum (some bs) 1048576).2).1)
 obtain ⟨lf, hlf⟩ := eX rest.length
 obtain ⟨at_, hat⟩ := eX (n - lf)
 have HK := h_ hk
 have HSM := h_ hsm
 have HLF : Hid (leftS (some rest) = lf) := h_ hlf
 rw [hk, hlf] at hl
 have z1 : ¬ (lf : Int) < (k : Int) := by omega
 have hlfn : lf ≤ n := by omega
 have hpr : rest.take k = (bs.drop at_).take k := by rw [hsuf, hlf, ← hat, hn]
 have hkb : at_ + k ≤ n := by omega
 obtain ⟨p, hp⟩ := eX (rest.take k)
 have hpl : p.length = k := by rw [← hp, List.length_take, hlf]; omega
 have HSP : Hid (splitP bs = ((parseT p).1, at_ + k, (parseT p).2 && decide ((crc p).toNat = sm))) := h_ (by
  unfold splitP
  simp only [hk, hs, hsm]
  rw [if_neg (by rw [hlf]; exact hl), hp]
  simp only [Prod.mk.injEq, true_and, and_true]
  rw [hlf, ← hat, hn])
 have hrp : ∀ W, Below w.heap.size w W → Rd W (if c = at_ then A else A.map (·.add at_)) (b8s p) := fun W hb => by
  have h1 := Rd.take ((Rd.drop (k := at_) (size := 1) (cap := c) (hr.below hb) (by rw [b8s_length]; omega))) k
  rw [Nat.mul_one] at h1
  rw [← hp, hpr]
  have e : b8s ((bs.drop at_).take k) = ((b8s bs).drop at_).take k := by simp [b8s, List.map_take, List.map_drop]
  rw [e]
  exact h1
 have HRP := h_ hrp
 have HPL := h_ hpl
 have hat1 : (n : Int) - (lf : Int) = (at_ : Int) := by omega
 have hat2 : IntKind.i64.wrap ((n : Int) - (lf : Int)) = (at_ : Int) := by rw [IntKind.wrap_i64]; omega
 have hkb0 : at_ ≤ 1099511627776 := by omega
 have hkb1' : at_ + k ≤ 1099511627776 := by omega
 obtain ⟨hi_, hhi⟩ := eX (at_ + k)
 have hkb1 : hi_ ≤ 1099511627776 := by rw [← hhi]; exact hkb1'
 have hw5 : wrap64 (at_ : Int) = (at_ : Int) := wrap_nat (Nat.le_trans hkb0 (by decide))
 have hat3 : (at_ : Int) + (k : Int) = (hi_ : Int) := by rw [← hhi]; exact (Int.natCast_add at_ k).symm
 have hw6 : wrap64 (hi_ : Int) = (hi_ : Int) := wrap_nat (Nat.le_trans hkb1 (by decide))
 have hat5 : hi_ - at_ = k := by rw [← hhi]; exact Nat.add_sub_cancel_left _ _
 have hat6 : at_ ≤ hi_ := by rw [← hhi]; exact Nat.le_add_right _ _
 have hat7 : hi_ ≤ c := by rw [← hhi]; exact Nat.le_trans hkb hnc
 rw [hhi] at HSP hkb
 clear hhi hkb1'
 clear hlz hlz' r1 b1 s1 hr hs hn hk hsm hlf hl hat hpr hp hpl hrp hsuf hrl
 go_enter Tryz.func29, Tryz.ntmps29
 go_wp2_with fail
 refine HRD.out.mono ?_
 rintro e w2 ⟨gd, rfl, hge, hb2, hm2⟩
 have HB2 := h_ hb2
 have HM2 := h_ hm2
 have HGE := h_ hge
 clear hge hb2 hm2 hW1
 go_wp2_with fail
 refine (rdnum_any gd _ 1048576 w2 HM2.out).mono ?_
 rintro e w3 ⟨rfl, hm3, hg3⟩
 rw [HK.out]
 have HB3 := h_ (bel_grown HB2.out HB2.out.size hg3 HGE.out)
 have HM3 := h_ hm3
 clear hm3 hg3
 go_wp2_with fail
 refine (rdfour_any gd _ w3 HM3.out).mono ?_
 rintro e w4 ⟨rfl, hm4, hg4⟩
 rw [HSM.out]
 rw [HS.out] at hm4
 have HB4 := h_ (bel_grown HB3.out HB3.out.size hg4 HGE.out)
 have HM4 := h_ hm4
 clear hm4 hg4
 go_wp2_with fail
 refine (good_any gd _ w4 HM4.out).mono ?_
 rintro e w5 ⟨rfl, rfl⟩
 rw [show (some rest).isSome = true from rfl]
 go_wp2_with fail
 refine (left_any gd _ w4 HM4.out).mono ?_
 rintro e w5 ⟨rfl, rfl⟩
 rw [HLF.out]
 clear hw5 hw6
 go_wp2_with fail
 refine (left_any gd _ w4 HM4.out).mono ?_
 rintro e w5 ⟨rfl, rfl⟩
 rw [HLF.out]
 have HRQ : Hid (Rd w4 (if c = at_ then A else A.map (·.add at_)) (b8s p)) := h_ (HRP.out w4 (HB1.out.trans (HB4.out.mono HB1.out.size)))
 by_cases hcn : c = at_
 ·go_wp2_with fail
  rw [if_pos hcn] at HRQ
  refine (rturn_any _ _ _ p (by rw [HPL.out]) w4 HRQ.out (by rw [HPL.out]; omega)).mono ?_
  rintro e w6 ⟨Ai, ci, rfl, hrd6, hfr6, hb6⟩
  obtain ⟨T, hT⟩ := eX ((parseT p).1)
  obtain ⟨ok, hok⟩ := eX ((parseT p).2)
  have HTOK : Hid (TxOk T) := h_ (by rw [← hT]; exact (parse_ok p).1)
  have HSQ : Hid (splitP bs = (T, hi_, ok && decide ((crc p).toNat = sm))) := h_ (by rw [HSP.out, hT, hok])
  rw [hT] at hrd6
  rw [hT, hok]
  have HRD6 := h_ hrd6
  have HFR6 : Hid (∀ a, Ai = some a → w.heap.size ≤ a.block) := h_ (fun a ha => by
   have h1 := hfr6 a ha
   have h2 := HB4.out.size
   have h3 := HB1.out.size
   omega)
  have HFR6X : Hid (∀ a, Ai = some a → g < a.block) := h_ (fun a ha => by
   have h1 := hfr6 a ha
   have h2 := HB4.out.size
   have h3 := (b_ R1)
   omega)
  have HB6 : Hid (Below w.heap.size w w6) := h_ ((HB1.out.trans (HB4.out.mono HB1.out.size)).trans (hb6.mono (Nat.le_trans HB1.out.size HB4.out.size)))
  have HR6 : Hid (w6.heap[g]? = some (.cells lz.toArray 28 (0, 0))) := h_ ((hb6.block _ (by
   have := (b_ R1)
   have := HB4.out.size
   omega)).trans ((HB4.out.block _ (b_ R1)).trans R1.out))
  have HRQ6 := h_ (HRQ.out.below hb6)
  clear hT hok hrd6 hfr6 hb6
  obtain ⟨p10, hp10⟩ := eX w6.heap.size
  obtain ⟨W7, hW7⟩ := eX (w6.alloc (.cells #[Value.slice none 0 0, .string ⟨#[]⟩, Value.int .u8 0, .int .u8 0, .int .u8 0, .int .u8 0, .int .u8 0, .int .u8 0, .int .u8 0, .int .u8 0, .int .u8 0, .int .u8 0, .int .u8 0, .int .u8 0, .int .u8 0, .int .u8 0, .int .u8 0, .int .u8 0, .int .u8 0, .int .u8 0, .int .u8 0, .int .u8 0, .int .u8 0, .int .u8 0, .int .u8 0, .int .u8 0, .int .u8 0, .int .u8 0, .int .u8 0, .int .u8 0, .int .u8 0, .int .u8 0, .int .u8 0, .int .u8 0] 28))
  obtain ⟨r7, b7, s7⟩ := new_row hW7
  rw [hp10, ← HLZ.out] at r7
  have hll : (txC Ai T.us.length ci T).length = 34 := txC_len HTOK.out.al
  obtain ⟨W8, hW8, T8, R8, G8⟩ := put_rowR (new := txC Ai T.us.length ci T) r7 (by rw [hll, HLZL.out])
  have b8 : Below w6.heap.size w6 W8 := bel_grown b7 b7.size G8.out (by omega)
  have HB8 := bt_ HB6 b8
  have HR8 := bl_ b8 HR6
  have HRQ8 : Hid (Rd W8.drew A (b8s p)) := h_ ((HRQ6.out.below b8).drew)
  have HRD8 := h_ (HRD6.out.below b8)
  have HRG8 := h_ (range_of_row R8.out)
  have HIL := h_ (info_txl (A := Ai) (n := T.us.length) (c := ci) HTOK.out.al)
  have HIA := h_ (info_txa (A := Ai) (n := T.us.length) (c := ci) HTOK.out.al)
  have HOC : Hid ((txC Ai T.us.length ci T).toArray.all (·.oneCell') = true) := h_ (all_oneCell_toArray (txC_one _ _ _ _))
  have h8d : W8.drew.heap[g]? = some (.cells lz.toArray 28 (0, 0)) := HR8.out
  obtain ⟨W9, hW9, T9, R9, G9⟩ := put_rowR (new := txC Ai T.us.length ci T) h8d (by rw [hll, HLZL.out])
  have HB9 : Hid (Below w.heap.size w W9) := h_ (bel_grown HB8.out.drew HB8.out.drew.size G9.out (by rw [← HG.out]; exact Nat.le_refl _))
  have HRD9 : Hid (Rd W9 Ai (upsC T.us)) := h_ (HRD8.out.keep fun ad hA hlt => G9.out.block _ hlt (fun e => by
   have h1 := Option.some.inj e
   have h2 := HFR6X.out ad hA
   omega))
  have HNG : Hid (p10 ≠ g) := h_ (by have := (b_ HR6); omega)
  have HRG9 : Hid (W9.rangeAt p10 0 (txC Ai T.us.length ci T)) := h_ (range_of_row ((G9.out.block _ (b_ R8) (fun e => HNG.out (Option.some.inj e))).trans R8.out))
  have HW8 := h_ hW8
  have HW9 := h_ hW9
  have HT8 := h_ T8.out
  have HT9 := h_ T9.out
  have HSUM := h_ (sum_any _ p 0 W8.drew HRQ8.out (by unfold maxLen; rw [HPL.out]; omega))
  rw [HPL.out] at HSUM
  obtain ⟨lt, hlt_⟩ := eX (txC Ai T.us.length ci T)
  have HLT := h_ hlt_
  rw [hlt_] at HIL HIA HOC HRG8 HRG9 HW8 HW9 HT8 HT9 R9 ⊢
  have hadd : ∀ W : World, (binOp .add 3 (.int .i64 (at_ : Int)) (.int .i64 (k : Int))).run Tryz.prog W = .ok (.int .i64 (hi_ : Int)) W := fun W => bin_add _ _ _ _ hat3 (by omega) (by omega)
  clear hat1 hat2 hat5 hat6 hat7 r7 b7 s7 hll hW8 T8 R8 G8 b8 h8d hW9 T9 G9 hlt_
  go_wp2_with ((with_reducible (refine wpList_store_mid rfl _ _ _ rfl ?_ ?_ ?_ ?_ ?_ ?_ ?_ ?_ ?_)); exact p10; exact 0; (exact (lt).toArray); exact rfl; exact rfl; exact HT8.out; exact HIA.out; exact HOC.out; rw [HW8.out])
  clear hp10 hW7
  cases ok with
  | false =>
    refine wp_region_sched (fun w' => w'.rangeAt p10 0 lt) [(true, 0), (true, 1), (true, 2), (true, 3), (true, 4), (true, 5), (true, 6), (true, 8), (false, 7), (true, 9), (true, 10), (false, 11), (true, 12), (true, 13)] (by kernel_rfl) (by kernel_rfl) rfl (by kernel_rfl) HRG8.out ?_
    refine wpS_load _ rfl (by rfl) 28 _ rfl p10 0 rfl lt _ (fun w' hS => hS) Tryz.underlying28 rfl HIL.out ?_
    simp only [LY]
    iterate 2 ((first | refine wpS_pass _ rfl (by rfl) ?_ | (refine wpS_take _ ?_ rfl (by rfl) ?_ ?_; rotate_left; (focus (intro w' hS'; (try dsimp only at hS'); (repeat (have hS1 := hS'.1; replace hS' := hS'.2)); go_simp; (try with_reducible rfl); done)))); simp only [LY])
    refine wpS_take _ _ rfl (by rfl) (fun w' hS' => exec_bin _ _ _ _ _ rfl _ _ _ rfl rfl rfl (hadd w')) ?_
    simp only [LY]
    (repeat ((first | refine wpS_pass _ rfl (by rfl) ?_ | (refine wpS_take _ ?_ rfl (by rfl) ?_ ?_; rotate_left; (focus (intro w' hS'; (try dsimp only at hS'); (repeat (have hS1 := hS'.1; replace hS' := hS'.2)); go_simp; (try with_reducible rfl); done)))); simp only [LY]))
    refine wpS_skip _ rfl (by rfl) HRG8.out ?_
    simp only [LY]
    (repeat ((first | refine wpS_pass _ rfl (by rfl) ?_ | (refine wpS_take _ ?_ rfl (by rfl) ?_ ?_; rotate_left; (focus (intro w' hS'; (try dsimp only at hS'); (repeat (have hS1 := hS'.1; replace hS' := hS'.2)); go_simp; (try with_reducible rfl); done)))); simp only [LY]))
    refine wpS_store_mid _ rfl (by rfl) 28 _ _ rfl g 0 lt.toArray rfl rfl HT9.out HIA.out HOC.out ?_ ?_
    ·rw [HW9.out]
     exact HRG9.out
    simp only [LY]
    (repeat ((first | refine wpS_pass _ rfl (by rfl) ?_ | (refine wpS_take _ ?_ rfl (by rfl) ?_ ?_; rotate_left; (focus (intro w' hS'; (try dsimp only at hS'); (repeat (have hS1 := hS'.1; replace hS' := hS'.2)); go_simp; (try with_reducible rfl); done)))); simp only [LY]))
    refine wpS_done ?_
    rw [HW9.out]
    go_wp2_with fail
    refine bodyPost_ret (results_row_two rfl _ _ _ _ _ _ _ rfl R9.out Tryz.underlying28 rfl HIA.out) rfl ?_
    rw [HSQ.out]
    exact ⟨Ai, ci, by rw [← HLT.out]; rfl, HRD9.out, HFR6.out, HB9.out⟩
  | true =>
    obtain ⟨cr, hcr⟩ := eX ((crc p).toNat)
    have HCR := h_ hcr
    rw [hcr] at HSUM
    by_cases hcs : cr = sm
    ·have z5 : ((cr : Int) == (sm : Int)) = true := by rw [beq_iff_eq]; omega
     clear hcr
     refine wp_region_sched (fun w' => w'.rangeAt p10 0 lt) [(true, 0), (true, 1), (true, 2), (true, 3), (true, 4), (true, 5), (true, 6), (true, 8), (false, 7), (true, 9), (true, 10), (false, 11), (true, 12), (true, 13)] (by kernel_rfl) (by kernel_rfl) rfl (by kernel_rfl) HRG8.out ?_
     refine wpS_load _ rfl (by rfl) 28 _ rfl p10 0 rfl lt _ (fun w' hS => hS) Tryz.underlying28 rfl HIL.out ?_
     simp only [LY]
     iterate 2 ((first | refine wpS_pass _ rfl (by rfl) ?_ | (refine wpS_take _ ?_ rfl (by rfl) ?_ ?_; rotate_left; (focus (intro w' hS'; (try dsimp only at hS'); (repeat (have hS1 := hS'.1; replace hS' := hS'.2)); go_simp; (try with_reducible rfl); done)))); simp only [LY])
     refine wpS_take _ _ rfl (by rfl) (fun w' hS' => exec_bin _ _ _ _ _ rfl _ _ _ rfl rfl rfl (hadd w')) ?_
     simp only [LY]
     (repeat ((first | refine wpS_pass _ rfl (by rfl) ?_ | (refine wpS_take _ ?_ rfl (by rfl) ?_ ?_; rotate_left; (focus (intro w' hS'; (try dsimp only at hS'); (repeat (have hS1 := hS'.1; replace hS' := hS'.2)); go_simp; (try with_reducible rfl); done)))); simp only [LY]))
     refine wpS_do _ rfl (by rfl) (fun KK hKK => ?_)
     go_simp
     refine HSUM.out.mono ?_
     rintro e w9 ⟨rfl, rfl⟩
     refine hKK.out _ _ HRG8.out (fun hS => ?_)
     clear hKK hS
     (repeat ((first | refine wpS_pass _ rfl (by rfl) ?_ | (refine wpS_take _ ?_ rfl (by rfl) ?_ ?_; rotate_left; (focus (intro w' hS'; (try dsimp only at hS'); (repeat (have hS1 := hS'.1; replace hS' := hS'.2)); go_simp; (try with_reducible rfl); done)))); simp only [LY]))
     refine wpS_store_mid _ rfl (by rfl) 28 _ _ rfl g 0 lt.toArray rfl rfl HT9.out HIA.out HOC.out ?_ ?_
     ·rw [HW9.out]
      exact HRG9.out
     simp only [LY]
     (repeat ((first | refine wpS_pass _ rfl (by rfl) ?_ | (refine wpS_take _ ?_ rfl (by rfl) ?_ ?_; rotate_left; (focus (intro w' hS'; (try dsimp only at hS'); (repeat (have hS1 := hS'.1; replace hS' := hS'.2)); go_simp; (try with_reducible rfl); done)))); simp only [LY]))
     refine wpS_done ?_
     rw [HW9.out]
     go_wp2_with fail
     refine bodyPost_ret (results_row_two rfl _ _ _ _ _ _ _ rfl R9.out Tryz.underlying28 rfl HIA.out) rfl ?_
     rw [HSQ.out]
     exact ⟨Ai, ci, by rw [← HLT.out]; rw [HCR.out, decide_eq_true hcs]; rfl, HRD9.out, HFR6.out, HB9.out⟩
    ·have z5 : ((cr : Int) == (sm : Int)) = false := by rw [beq_eq_false_iff_ne]; omega
     have z6 : ¬ (cr : Int) = (sm : Int) := by omega
     clear hcr
     refine wp_region_sched (fun w' => w'.rangeAt p10 0 lt) [(true, 0), (true, 1), (true, 2), (true, 3), (true, 4), (true, 5), (true, 6), (true, 8), (false, 7), (true, 9), (true, 10), (false, 11), (true, 12), (true, 13)] (by kernel_rfl) (by kernel_rfl) rfl (by kernel_rfl) HRG8.out ?_
     refine wpS_load _ rfl (by rfl) 28 _ rfl p10 0 rfl lt _ (fun w' hS => hS) Tryz.underlying28 rfl HIL.out ?_
     simp only [LY]
     iterate 2 ((first | refine wpS_pass _ rfl (by rfl) ?_ | (refine wpS_take _ ?_ rfl (by rfl) ?_ ?_; rotate_left; (focus (intro w' hS'; (try dsimp only at hS'); (repeat (have hS1 := hS'.1; replace hS' := hS'.2)); go_simp; (try with_reducible rfl); done)))); simp only [LY])
     refine wpS_take _ _ rfl (by rfl) (fun w' hS' => exec_bin _ _ _ _ _ rfl _ _ _ rfl rfl rfl (hadd w')) ?_
     simp only [LY]
     (repeat ((first | refine wpS_pass _ rfl (by rfl) ?_ | (refine wpS_take _ ?_ rfl (by rfl) ?_ ?_; rotate_left; (focus (intro w' hS'; (try dsimp only at hS'); (repeat (have hS1 := hS'.1; replace hS' := hS'.2)); go_simp; (try with_reducible rfl); done)))); simp only [LY]))
     refine wpS_do _ rfl (by rfl) (fun KK hKK => ?_)
     go_simp
     refine HSUM.out.mono ?_
     rintro e w9 ⟨rfl, rfl⟩
     refine hKK.out _ _ HRG8.out (fun hS => ?_)
     clear hKK hS
     (repeat ((first | refine wpS_pass _ rfl (by rfl) ?_ | (refine wpS_take _ ?_ rfl (by rfl) ?_ ?_; rotate_left; (focus (intro w' hS'; (try dsimp only at hS'); (repeat (have hS1 := hS'.1; replace hS' := hS'.2)); go_simp; (try with_reducible rfl); done)))); simp only [LY]))
     refine wpS_store_mid _ rfl (by rfl) 28 _ _ rfl g 0 lt.toArray rfl rfl HT9.out HIA.out HOC.out ?_ ?_
     ·rw [HW9.out]
      exact HRG9.out
     simp only [LY]
     (repeat ((first | refine wpS_pass _ rfl (by rfl) ?_ | (refine wpS_take _ ?_ rfl (by rfl) ?_ ?_; rotate_left; (focus (intro w' hS'; (try dsimp only at hS'); (repeat (have hS1 := hS'.1; replace hS' := hS'.2)); go_simp; (try with_reducible rfl); done)))); simp only [LY]))
     refine wpS_done ?_
     rw [HW9.out]
     go_wp2_with fail
     refine bodyPost_ret (results_row_two rfl _ _ _ _ _ _ _ rfl R9.out Tryz.underlying28 rfl HIA.out) rfl ?_
     rw [HSQ.out]
     exact ⟨Ai, ci, by rw [← HLT.out]; rw [HCR.out, decide_eq_false hcs]; rfl, HRD9.out, HFR6.out, HB9.out⟩
 ·go_wp2_with fail
  rw [if_neg hcn] at HRQ
  refine (rturn_any _ _ _ p (by rw [HPL.out]) w4 HRQ.out (by rw [HPL.out]; omega)).mono ?_
  rintro e w6 ⟨Ai, ci, rfl, hrd6, hfr6, hb6⟩
  obtain ⟨T, hT⟩ := eX ((parseT p).1)
  obtain ⟨ok, hok⟩ := eX ((parseT p).2)
  have HTOK : Hid (TxOk T) := h_ (by rw [← hT]; exact (parse_ok p).1)
  have HSQ : Hid (splitP bs = (T, hi_, ok && decide ((crc p).toNat = sm))) := h_ (by rw [HSP.out, hT, hok])
  rw [hT] at hrd6
  rw [hT, hok]
  have HRD6 := h_ hrd6
  have HFR6 : Hid (∀ a, Ai = some a → w.heap.size ≤ a.block) := h_ (fun a ha => by
   have h1 := hfr6 a ha
   have h2 := HB4.out.size
   have h3 := HB1.out.size
   omega)
  have HFR6X : Hid (∀ a, Ai = some a → g < a.block) := h_ (fun a ha => by
   have h1 := hfr6 a ha
   have h2 := HB4.out.size
   have h3 := (b_ R1)
   omega)
  have HB6 : Hid (Below w.heap.size w w6) := h_ ((HB1.out.trans (HB4.out.mono HB1.out.size)).trans (hb6.mono (Nat.le_trans HB1.out.size HB4.out.size)))
  have HR6 : Hid (w6.heap[g]? = some (.cells lz.toArray 28 (0, 0))) := h_ ((hb6.block _ (by
   have := (b_ R1)
   have := HB4.out.size
   omega)).trans ((HB4.out.block _ (b_ R1)).trans R1.out))
  have HRQ6 := h_ (HRQ.out.below hb6)
  clear hT hok hrd6 hfr6 hb6
  obtain ⟨p10, hp10⟩ := eX w6.heap.size
  obtain ⟨W7, hW7⟩ := eX (w6.alloc (.cells #[Value.slice none 0 0, .string ⟨#[]⟩, Value.int .u8 0, .int .u8 0, .int .u8 0, .int .u8 0, .int .u8 0, .int .u8 0, .int .u8 0, .int .u8 0, .int .u8 0, .int .u8 0, .int .u8 0, .int .u8 0, .int .u8 0, .int .u8 0, .int .u8 0, .int .u8 0, .int .u8 0, .int .u8 0, .int .u8 0, .int .u8 0, .int .u8 0, .int .u8 0, .int .u8 0, .int .u8 0, .int .u8 0, .int .u8 0, .int .u8 0, .int .u8 0, .int .u8 0, .int .u8 0, .int .u8 0, .int .u8 0] 28))
  obtain ⟨r7, b7, s7⟩ := new_row hW7
  rw [hp10, ← HLZ.out] at r7
  have hll : (txC Ai T.us.length ci T).length = 34 := txC_len HTOK.out.al
  obtain ⟨W8, hW8, T8, R8, G8⟩ := put_rowR (new := txC Ai T.us.length ci T) r7 (by rw [hll, HLZL.out])
  have b8 : Below w6.heap.size w6 W8 := bel_grown b7 b7.size G8.out (by omega)
  have HB8 := bt_ HB6 b8
  have HR8 := bl_ b8 HR6
  have HRQ8 : Hid (Rd W8.drew (A.map (·.add at_)) (b8s p)) := h_ ((HRQ6.out.below b8).drew)
  have HRD8 := h_ (HRD6.out.below b8)
  have HRG8 := h_ (range_of_row R8.out)
  have HIL := h_ (info_txl (A := Ai) (n := T.us.length) (c := ci) HTOK.out.al)
  have HIA := h_ (info_txa (A := Ai) (n := T.us.length) (c := ci) HTOK.out.al)
  have HOC : Hid ((txC Ai T.us.length ci T).toArray.all (·.oneCell') = true) := h_ (all_oneCell_toArray (txC_one _ _ _ _))
  have h8d : W8.drew.heap[g]? = some (.cells lz.toArray 28 (0, 0)) := HR8.out
  obtain ⟨W9, hW9, T9, R9, G9⟩ := put_rowR (new := txC Ai T.us.length ci T) h8d (by rw [hll, HLZL.out])
  have HB9 : Hid (Below w.heap.size w W9) := h_ (bel_grown HB8.out.drew HB8.out.drew.size G9.out (by rw [← HG.out]; exact Nat.le_refl _))
  have HRD9 : Hid (Rd W9 Ai (upsC T.us)) := h_ (HRD8.out.keep fun ad hA hlt => G9.out.block _ hlt (fun e => by
   have h1 := Option.some.inj e
   have h2 := HFR6X.out ad hA
   omega))
  have HNG : Hid (p10 ≠ g) := h_ (by have := (b_ HR6); omega)
  have HRG9 : Hid (W9.rangeAt p10 0 (txC Ai T.us.length ci T)) := h_ (range_of_row ((G9.out.block _ (b_ R8) (fun e => HNG.out (Option.some.inj e))).trans R8.out))
  have HW8 := h_ hW8
  have HW9 := h_ hW9
  have HT8 := h_ T8.out
  have HT9 := h_ T9.out
  have HSUM := h_ (sum_any _ p (c - at_) W8.drew HRQ8.out (by unfold maxLen; rw [HPL.out]; omega))
  rw [HPL.out] at HSUM
  obtain ⟨lt, hlt_⟩ := eX (txC Ai T.us.length ci T)
  have HLT := h_ hlt_
  rw [hlt_] at HIL HIA HOC HRG8 HRG9 HW8 HW9 HT8 HT9 R9 ⊢
  have hadd : ∀ W : World, (binOp .add 3 (.int .i64 (at_ : Int)) (.int .i64 (k : Int))).run Tryz.prog W = .ok (.int .i64 (hi_ : Int)) W := fun W => bin_add _ _ _ _ hat3 (by omega) (by omega)
  clear hat1 hat2 hat5 hat6 hat7 r7 b7 s7 hll hW8 T8 R8 G8 b8 h8d hW9 T9 G9 hlt_
  go_wp2_with ((with_reducible (refine wpList_store_mid rfl _ _ _ rfl ?_ ?_ ?_ ?_ ?_ ?_ ?_ ?_ ?_)); exact p10; exact 0; (exact (lt).toArray); exact rfl; exact rfl; exact HT8.out; exact HIA.out; exact HOC.out; rw [HW8.out])
  clear hp10 hW7
  cases ok with
  | false =>
    refine wp_region_sched (fun w' => w'.rangeAt p10 0 lt) [(true, 0), (true, 1), (true, 2), (true, 3), (true, 4), (true, 5), (true, 6), (true, 8), (false, 7), (true, 9), (true, 10), (false, 11), (true, 12), (true, 13)] (by kernel_rfl) (by kernel_rfl) rfl (by kernel_rfl) HRG8.out ?_
    refine wpS_load _ rfl (by rfl) 28 _ rfl p10 0 rfl lt _ (fun w' hS => hS) Tryz.underlying28 rfl HIL.out ?_
    simp only [LY]
    iterate 2 ((first | refine wpS_pass _ rfl (by rfl) ?_ | (refine wpS_take _ ?_ rfl (by rfl) ?_ ?_; rotate_left; (focus (intro w' hS'; (try dsimp only at hS'); (repeat (have hS1 := hS'.1; replace hS' := hS'.2)); go_simp; (try with_reducible rfl); done)))); simp only [LY])
    refine wpS_take _ _ rfl (by rfl) (fun w' hS' => exec_bin _ _ _ _ _ rfl _ _ _ rfl rfl rfl (hadd w')) ?_
    simp only [LY]
    (repeat ((first | refine wpS_pass _ rfl (by rfl) ?_ | (refine wpS_take _ ?_ rfl (by rfl) ?_ ?_; rotate_left; (focus (intro w' hS'; (try dsimp only at hS'); (repeat (have hS1 := hS'.1; replace hS' := hS'.2)); go_simp; (try with_reducible rfl); done)))); simp only [LY]))
    refine wpS_skip _ rfl (by rfl) HRG8.out ?_
    simp only [LY]
    (repeat ((first | refine wpS_pass _ rfl (by rfl) ?_ | (refine wpS_take _ ?_ rfl (by rfl) ?_ ?_; rotate_left; (focus (intro w' hS'; (try dsimp only at hS'); (repeat (have hS1 := hS'.1; replace hS' := hS'.2)); go_simp; (try with_reducible rfl); done)))); simp only [LY]))
    refine wpS_store_mid _ rfl (by rfl) 28 _ _ rfl g 0 lt.toArray rfl rfl HT9.out HIA.out HOC.out ?_ ?_
    ·rw [HW9.out]
     exact HRG9.out
    simp only [LY]
    (repeat ((first | refine wpS_pass _ rfl (by rfl) ?_ | (refine wpS_take _ ?_ rfl (by rfl) ?_ ?_; rotate_left; (focus (intro w' hS'; (try dsimp only at hS'); (repeat (have hS1 := hS'.1; replace hS' := hS'.2)); go_simp; (try with_reducible rfl); done)))); simp only [LY]))
    refine wpS_done ?_
    rw [HW9.out]
    go_wp2_with fail
    refine bodyPost_ret (results_row_two rfl _ _ _ _ _ _ _ rfl R9.out Tryz.underlying28 rfl HIA.out) rfl ?_
    rw [HSQ.out]
    exact ⟨Ai, ci, by rw [← HLT.out]; rfl, HRD9.out, HFR6.out, HB9.out⟩
  | true =>
    obtain ⟨cr, hcr⟩ := eX ((crc p).toNat)
    have HCR := h_ hcr
    rw [hcr] at HSUM
    by_cases hcs : cr = sm
    ·have z5 : ((cr : Int) == (sm : Int)) = true := by rw [beq_iff_eq]; omega
     clear hcr
     refine wp_region_sched (fun w' => w'.rangeAt p10 0 lt) [(true, 0), (true, 1), (true, 2), (true, 3), (true, 4), (true, 5), (true, 6), (true, 8), (false, 7), (true, 9), (true, 10), (false, 11), (true, 12), (true, 13)] (by kernel_rfl) (by kernel_rfl) rfl (by kernel_rfl) HRG8.out ?_
     refine wpS_load _ rfl (by rfl) 28 _ rfl p10 0 rfl lt _ (fun w' hS => hS) Tryz.underlying28 rfl HIL.out ?_
     simp only [LY]
     iterate 2 ((first | refine wpS_pass _ rfl (by rfl) ?_ | (refine wpS_take _ ?_ rfl (by rfl) ?_ ?_; rotate_left; (focus (intro w' hS'; (try dsimp only at hS'); (repeat (have hS1 := hS'.1; replace hS' := hS'.2)); go_simp; (try with_reducible rfl); done)))); simp only [LY])
     refine wpS_take _ _ rfl (by rfl) (fun w' hS' => exec_bin _ _ _ _ _ rfl _ _ _ rfl rfl rfl (hadd w')) ?_
     simp only [LY]
     (repeat ((first | refine wpS_pass _ rfl (by rfl) ?_ | (refine wpS_take _ ?_ rfl (by rfl) ?_ ?_; rotate_left; (focus (intro w' hS'; (try dsimp only at hS'); (repeat (have hS1 := hS'.1; replace hS' := hS'.2)); go_simp; (try with_reducible rfl); done)))); simp only [LY]))
     refine wpS_do _ rfl (by rfl) (fun KK hKK => ?_)
     go_simp
     refine HSUM.out.mono ?_
     rintro e w9 ⟨rfl, rfl⟩
     refine hKK.out _ _ HRG8.out (fun hS => ?_)
     clear hKK hS
     (repeat ((first | refine wpS_pass _ rfl (by rfl) ?_ | (refine wpS_take _ ?_ rfl (by rfl) ?_ ?_; rotate_left; (focus (intro w' hS'; (try dsimp only at hS'); (repeat (have hS1 := hS'.1; replace hS' := hS'.2)); go_simp; (try with_reducible rfl); done)))); simp only [LY]))
     refine wpS_store_mid _ rfl (by rfl) 28 _ _ rfl g 0 lt.toArray rfl rfl HT9.out HIA.out HOC.out ?_ ?_
     ·rw [HW9.out]
      exact HRG9.out
     simp only [LY]
     (repeat ((first | refine wpS_pass _ rfl (by rfl) ?_ | (refine wpS_take _ ?_ rfl (by rfl) ?_ ?_; rotate_left; (focus (intro w' hS'; (try dsimp only at hS'); (repeat (have hS1 := hS'.1; replace hS' := hS'.2)); go_simp; (try with_reducible rfl); done)))); simp only [LY]))
     refine wpS_done ?_
     rw [HW9.out]
     go_wp2_with fail
     refine bodyPost_ret (results_row_two rfl _ _ _ _ _ _ _ rfl R9.out Tryz.underlying28 rfl HIA.out) rfl ?_
     rw [HSQ.out]
     exact ⟨Ai, ci, by rw [← HLT.out]; rw [HCR.out, decide_eq_true hcs]; rfl, HRD9.out, HFR6.out, HB9.out⟩
    ·have z5 : ((cr : Int) == (sm : Int)) = false := by rw [beq_eq_false_iff_ne]; omega
     have z6 : ¬ (cr : Int) = (sm : Int) := by omega
     clear hcr
     refine wp_region_sched (fun w' => w'.rangeAt p10 0 lt) [(true, 0), (true, 1), (true, 2), (true, 3), (true, 4), (true, 5), (true, 6), (true, 8), (false, 7), (true, 9), (true, 10), (false, 11), (true, 12), (true, 13)] (by kernel_rfl) (by kernel_rfl) rfl (by kernel_rfl) HRG8.out ?_
     refine wpS_load _ rfl (by rfl) 28 _ rfl p10 0 rfl lt _ (fun w' hS => hS) Tryz.underlying28 rfl HIL.out ?_
     simp only [LY]
     iterate 2 ((first | refine wpS_pass _ rfl (by rfl) ?_ | (refine wpS_take _ ?_ rfl (by rfl) ?_ ?_; rotate_left; (focus (intro w' hS'; (try dsimp only at hS'); (repeat (have hS1 := hS'.1; replace hS' := hS'.2)); go_simp; (try with_reducible rfl); done)))); simp only [LY])
     refine wpS_take _ _ rfl (by rfl) (fun w' hS' => exec_bin _ _ _ _ _ rfl _ _ _ rfl rfl rfl (hadd w')) ?_
     simp only [LY]
     (repeat ((first | refine wpS_pass _ rfl (by rfl) ?_ | (refine wpS_take _ ?_ rfl (by rfl) ?_ ?_; rotate_left; (focus (intro w' hS'; (try dsimp only at hS'); (repeat (have hS1 := hS'.1; replace hS' := hS'.2)); go_simp; (try with_reducible rfl); done)))); simp only [LY]))
     refine wpS_do _ rfl (by rfl) (fun KK hKK => ?_)
     go_simp
     refine HSUM.out.mono ?_
     rintro e w9 ⟨rfl, rfl⟩
     refine hKK.out _ _ HRG8.out (fun hS => ?_)
     clear hKK hS
     (repeat ((first | refine wpS_pass _ rfl (by rfl) ?_ | (refine wpS_take _ ?_ rfl (by rfl) ?_ ?_; rotate_left; (focus (intro w' hS'; (try dsimp only at hS'); (repeat (have hS1 := hS'.1; replace hS' := hS'.2)); go_simp; (try with_reducible rfl); done)))); simp only [LY]))
     refine wpS_store_mid _ rfl (by rfl) 28 _ _ rfl g 0 lt.toArray rfl rfl HT9.out HIA.out HOC.out ?_ ?_
     ·rw [HW9.out]
      exact HRG9.out
     simp only [LY]
     (repeat ((first | refine wpS_pass _ rfl (by rfl) ?_ | (refine wpS_take _ ?_ rfl (by rfl) ?_ ?_; rotate_left; (focus (intro w' hS'; (try dsimp only at hS'); (repeat (have hS1 := hS'.1; replace hS' := hS'.2)); go_simp; (try with_reducible rfl); done)))); simp only [LY]))
     refine wpS_done ?_
     rw [HW9.out]
     go_wp2_with fail
     refine bodyPost_ret (results_row_two rfl _ _ _ _ _ _ _ rfl R9.out Tryz.underlying28 rfl HIA.out) rfl ?_
     rw [HSQ.out]
     exact ⟨Ai, ci, by rw [← HLT.out]; rw [HCR.out, decide_eq_false hcs]; rfl, HRD9.out, HFR6.out, HB9.out⟩
theorem split_any (A : Option Addr) (n c : Nat) (bs : List UInt8) (hn : n = bs.length) (hnc : n ≤ c) (w : World) (hr : Rd w A (b8s bs)) (hm : bs.length ≤ 1099511627776) :
  Calls Tryz.prog 29 #[.slice A n c] w fun e w' => ∃ Ai ci, e = .returned (.tuple #[.agg (txC Ai (splitP bs).1.us.length ci (splitP bs).1).toArray, .int .i64 ((splitP bs).2.1 : Int), .bool (splitP bs).2.2]) ∧ Rd w' Ai (upsC (splitP bs).1.us) ∧ (∀ a, Ai = some a → w.heap.size ≤ a.block) ∧ Below w.heap.size w w' := by
 cases hf : (getFour (getNum (some bs) 1048576).2).2 with
 | none =>
   have e : splitP bs = (t0, 0, false) := by
    unfold splitP
    simp only [hf]
    rfl
   rw [e]
   refine (split_cut A n c bs hn w hr (by omega) (by rw [hf]; rfl)).mono ?_
   rintro e' w' ⟨rfl, hb⟩
   exact ⟨none, 0, rfl, Rd.nil, (fun a ha => by cases ha), hb⟩
 | some rest =>
   by_cases hl : rest.length < (getNum (some bs) 1048576).1
   ·have e : splitP bs = (t0, 0, false) := by
     unfold splitP
     simp only [hf]
     rw [if_pos hl]
     rfl
    rw [e]
    refine (split_short A n c bs hn w hr (by omega) (by rw [hf]; rfl) (by rw [hf]; exact hl)).mono ?_
    rintro e' w' ⟨rfl, hb⟩
    exact ⟨none, 0, rfl, Rd.nil, (fun a ha => by cases ha), hb⟩
   ·exact split_full A n c bs rest hn hnc w hr hm hf hl
set_option maxRecDepth 100000 in
set_option maxHeartbeats 4000000 in
theorem index_not (A : Option Addr) (n c : Nat) (xs : List ByteArray) (S : ByteArray) (hn : xs.length = n) (hnm : n ≤ 1000000) (w : World) (hr : Rd w A (xs.map Value.string)) (hx : ∀ x ∈ xs, S ≠ x) :
  Calls Tryz.prog 101 #[.slice A n c, .string S] w fun e w' => e = .returned (.int .i64 (-1)) ∧ w' = w := by
 have HN := h_ hn
 have HR := h_ hr
 have HX := h_ hx
 clear hn hr hx
 go_enter Tryz.func101, Tryz.ntmps101
 go_wp2_with fail
 go_loopg [8] (n * 1) (fun gk_ iv wr => ∃ (i : Nat), i ≤ n ∧ gk_ = n - i ∧ iv = .int .i64 (i : Int) ∧ Hid (wr = w))
 case atStart => exact ⟨0, by omega, by omega, rfl, h_ rfl⟩
 case round =>
 obtain ⟨i, hi, rfl, rfl, HW⟩ := hrel
 obtain rfl := HW.out
 clear HW
 by_cases hlt : i < n
 ·have i1 : (i : Int) < (n : Int) := by omega
  have hil : i < xs.length := by rw [HN.out]; exact hlt
  obtain ⟨b, o, hA, hcell⟩ := HR.out.all (by rw [List.length_map, HN.out]; omega)
  obtain ⟨X, hX⟩ := eX (xs[i])
  have c1 : wr.cell? ⟨b, o + i, none⟩ = some (.string X) := hcell i _ (by rw [List.getElem?_map, List.getElem?_eq_getElem hil, hX]; rfl)
  have hne : S ≠ X := HX.out X (by rw [← hX]; exact List.getElem_mem hil)
  have z1 : (S.toList == X.toList) = false := by
   rw [beq_eq_false_iff_ne]
   intro e
   apply hne
   rw [tl_data, tl_data] at e
   cases S
   cases X
   simp only [ByteArray.mk.injEq]
   exact Array.toList_inj.1 e
  subst hA
  clear hcell hX hil hne
  go_wp2_with fail
  go_roundg (n - (i + 1))
  case measure => omega
  case rel => exact ⟨i + 1, by omega, rfl, by first | rfl | exact congrArg (Value.int .i64) (by omega) | go_num, h_ rfl⟩
 ·obtain rfl : i = n := by omega
  go_wp2_with fail
  go_ret
  exact ⟨rfl, rfl⟩
set_option maxRecDepth 100000 in
theorem contains_not (A : Option Addr) (n c : Nat) (xs : List ByteArray) (S : ByteArray) (hn : xs.length = n) (hnm : n ≤ 1000000) (w : World) (hr : Rd w A (xs.map Value.string)) (hx : ∀ x ∈ xs, S ≠ x) :
  Calls Tryz.prog 72 #[.slice A n c, .string S] w fun e w' => e = .returned (.bool false) ∧ w' = w := by
 have HC := h_ (index_not A n c xs S hn hnm w hr hx)
 clear hn hr hx
 go_enter Tryz.func72, Tryz.ntmps72
 go_wp2_with fail
 refine HC.out.mono ?_
 rintro e w2 ⟨rfl, rfl⟩
 go_wp2_with fail
 go_ret
 exact ⟨rfl, rfl⟩
def tmpB : List UInt8 := [114, 101, 102, 115, 46, 116, 109, 112]
set_option maxRecDepth 100000 in
set_option maxHeartbeats 8000000 in
theorem renew_new {N g K L f : Nat} {m m1 m2 m3 m4 m5 : DM} {d : DA} {w : World} {A : Option Addr} {bs : List UInt8} {n c : Nat} (h : DiskIn N w g m d) (hf : Fit K L m) (hK : K < 999990) (hL : L ≤ 1000000000000)
  (hn : n = bs.length) (hr : Rd w A (b8s bs)) (hA : bs ≠ [] → ∀ a, A = some a → ¬ foot g d a.block) (hl : bs.length ≤ 1000000000)
  (h0 : m.now = [(refsB, f)]) (h1 : createM m tmpB = (m1, 0)) (h2 : appendM m1 tmpB bs = (m2, 0)) (h3 : syncM m2 tmpB = (m3, 0)) (h4 : renameM m3 tmpB refsB = (m4, 0)) (h5 : flushM m4 = (m5, 0)) :
  Calls Tryz.prog 32 #[.pointer (some ⟨g, 0, none⟩), .slice A n c] w fun e w' => e = .returned (.int .i64 0) ∧ ∃ d', Aft N g w w' m5 d d' ∧ Fit (K + 2) (L + bs.length) m5 := by
 have HD := h_ h
 have HF := h_ hf
 have HN := h_ hn
 have HR := h_ hr
 have HA := h_ hA
 have H0 := h_ h0
 have H1 := h_ h1
 have H2 := h_ h2
 have H3 := h_ h3
 have H4 := h_ h4
 have H5 := h_ h5
 clear h hf hn hr hA h0 h1 h2 h3 h4 h5
 go_enter Tryz.func32, Tryz.ntmps32
 go_wp2_with fail
 refine (names_st HD.out HF.out (by omega) (by omega) H0.out).mono ?_
 rintro e w1 ⟨v, rfl, hov, hb1⟩
 obtain ⟨Av, cv, rfl, _⟩ := own_slice hov
 have A1 := h_ (Aft.below HD.out hb1)
 have HRV : Hid (Rd w1 Av ([⟨#[114, 101, 102, 115]⟩].map Value.string)) := h_ (own_rd hov)
 clear hov hb1
 rw [show List.length [(refsB, f)] = 1 from rfl]
 go_wp2_with fail
 refine (contains_not Av 1 cv [⟨#[114, 101, 102, 115]⟩] ⟨#[114, 101, 102, 115, 46, 116, 109, 112]⟩ rfl (by decide) w1 HRV.out (by decide)).mono ?_
 rintro e w2 ⟨rfl, rfl⟩
 go_wp2_with fail
 refine (create_st (S := ⟨#[114, 101, 102, 115, 46, 116, 109, 112]⟩) A1.out.disk HF.out (by omega) (by omega) (by decide) H1.out).mono ?_
 rintro e w3 ⟨rfl, d3, ha, hf3⟩
 have A3 := h_ (A1.out.trans ha)
 have F3 := h_ hf3
 clear ha hf3
 have HR3 : Hid (Rd w3 A (b8s bs)) := h_ (by
  by_cases he : bs = []
  ·rw [he]; exact Rd.nil
  ·exact HR.out.keep fun ad hA hlt => A3.out.frm.block _ hlt (HA.out he ad hA))
 have HA3 : Hid (bs ≠ [] → ∀ a, A = some a → ¬ foot g d3 a.block) := h_ (fun he a ha hfo => by
  rcases A3.out.ext _ hfo with h9 | h9
  ·exact HA.out he a ha h9
  ·obtain ⟨b, o, e, hc⟩ := HR.out.at_ 0 (by rw [b8s_length]; exact List.length_pos_iff.2 he)
   rw [e] at ha
   cases ha
   have h8 := World.block_lt_of_cell? _ _ hc
   dsimp only at h9 h8
   omega)
 go_wp2_with fail
 refine (append_st (S := ⟨#[114, 101, 102, 115, 46, 116, 109, 112]⟩) A3.out.disk F3.out (by omega) (by omega) (by decide) HN.out HR3.out HA3.out (by omega) H2.out).mono ?_
 rintro e w4 ⟨rfl, d4, ha, hf4⟩
 have A4 := h_ (A3.out.trans ha)
 have F4 := h_ hf4
 clear ha hf4
 go_wp2_with fail
 refine (sync_st (S := ⟨#[114, 101, 102, 115, 46, 116, 109, 112]⟩) A4.out.disk F4.out (by omega) (by omega) (by decide) H3.out).mono ?_
 rintro e w5 ⟨rfl, d5, ha, hf5⟩
 have A5 := h_ (A4.out.trans ha)
 have F5 := h_ hf5
 clear ha hf5
 go_wp2_with fail
 refine (rename_st (S := ⟨#[114, 101, 102, 115, 46, 116, 109, 112]⟩) (T := ⟨#[114, 101, 102, 115]⟩) A5.out.disk F5.out (by omega) (by omega) (by decide) (by decide) H4.out).mono ?_
 rintro e w6 ⟨rfl, d6, ha, hf6⟩
 have A6 := h_ (A5.out.trans ha)
 have F6 := h_ hf6
 clear ha hf6
 go_wp2_with fail
 refine (flush_st A6.out.disk F6.out (by omega) (by omega) H5.out).mono ?_
 rintro e w7 ⟨rfl, d7, ha, hf7⟩
 have A7 := h_ (A6.out.trans ha)
 have F7 := h_ hf7
 clear ha hf7
 go_wp2_with fail
 go_ret
 exact ⟨rfl, d7, A7.out, F7.out⟩
end Go.Proofs.YtelbofikcpchiaaGreat
