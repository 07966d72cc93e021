
/- Refs: the turn of a payload. -/

import Derived.Test.YtelbofikcpchiaaGreatRf15

import Derived.Test.YtelbofikcpchiaaGreatRf26

import Derived.Test.YtelbofikcpchiaaGreatEncReadK

namespace Go.Proofs.YtelbofikcpchiaaGreat

set_option linter.unusedVariables false

set_option linter.unusedSimpArgs false

set_option linter.unusedSectionVars false

open Go.RowKit

theorem getNum_most (st : St) (most : Int) (h : 0 ≤ most) : ((getNum st most).1 : Int) ≤ most := by
  cases st with
  | none => simpa [getNum] using h
  | some bs =>
    unfold getNum
    cases hn : numS most 9 0 0 bs with
    | none => simp only [hn]; exact h
    | some v =>
      obtain ⟨a, b⟩ := v
      simp only [hn]
      exact (numS_le _ _ _ _ _ _ _ hn).2.1
theorem getN_le (st : St) (n : Nat) : (getN st n).1.length ≤ n := by
  rcases st_cases st n with ⟨bs, rfl, h⟩ | h
  · rw [getN_yes h]
    simp only [List.length_take]
    omega
  · rw [getN_no h]
    simp
theorem getText_le (st : St) : (getText st 1048576).1.length ≤ 1048576 := by
  have h1 := getNum_most st 1048576 (by decide)
  have h2 := getN_le (getNum st 1048576).2 (getNum st 1048576).1
  unfold getText
  omega
theorem getUps_length (k : Nat) : ∀ st, (getUps k st).1.length = k := by
  induction k with
  | zero => intro st; rfl
  | succ k ih => intro st; simp only [getUps, List.length_cons, ih]
theorem getUp_ok (st : St) : upOk (getUp st).1 := by
  refine ⟨getId_len _, getId_len _, ?_⟩
  have := getText_le st
  show (getText st 1048576).1.length ≤ _
  omega
theorem getUps_ok (k : Nat) : ∀ st, ∀ u ∈ (getUps k st).1, upOk u := by
  induction k with
  | zero => intro st u hu; cases hu
  | succ k ih =>
    intro st u hu
    simp only [getUps] at hu
    rcases List.mem_cons.1 hu with rfl | hu
    · exact getUp_ok st
    · exact ih _ u hu
theorem parse_ok (p : List UInt8) : TxOk (parseT p).1 ∧ (parseT p).1.us.length ≤ 64 := by
  have h1 := getNum_most (some p) 64 (by decide)
  have h2 : (parseT p).1.us.length = (getNum (some p) 64).1 := getUps_length _ _
  refine ⟨⟨getId_len _, getUps_ok _ _, ?_, by omega⟩, by omega⟩
  have := getText_le (getUps (getNum (some p) 64).1 (getNum (some p) 64).2).2
  show (getText (getUps (getNum (some p) 64).1 (getNum (some p) 64).2).2 1048576).1.length ≤ _
  omega
theorem up_built1 (nm : List UInt8) : Tryz.prog.built 31 [(0, strV nm)] = some (upC ⟨nm, Z32, Z32⟩).toArray := by kernel_rfl
/-- a turn under way -/
structure TuS (w : World) (K gd p2 P : Nat) (lz : List Value) (st : St) (us : List UpM) (Ai : Option Addr) (i ci : Nat) (wr : World) : Prop where
  rdr : RdrK wr gd K st
  row : wr.heap[K]? = some (.cells (txC Ai i ci ⟨us, [], Z32⟩).toArray 28 (0, 0))
  res : wr.heap[p2]? = some (.cells lz.toArray 28 (0, 0))
  own : wr.ownsRow (K + 1) 31 65 (.slice Ai i ci) i (upsC us)
  bel : Below w.heap.size w wr
  sz : K + 1 ≤ wr.heap.size
  lay : w.heap.size ≤ p2 ∧ p2 < gd ∧ gd < K
  olt : ∀ a, Ai = some a → a.block < P
section

variable {w wr w' : World} {K gd p2 P : Nat} {lz : List Value} {st st' : St} {us : List UpM} {Ai : Option Addr} {i ci : Nat}

theorem TuS.below (h : TuS w K gd p2 P lz st us Ai i ci wr) (hb : Below wr.heap.size wr w') : TuS w K gd p2 P lz st us Ai i ci w' :=
  ⟨h.rdr.below hb, (hb.block _ (Array.getElem?_eq_some_iff.1 h.row).1).trans h.row, (hb.block _ (Array.getElem?_eq_some_iff.1 h.res).1).trans h.res, own_below h.own hb, h.bel.trans (hb.mono h.bel.size), Nat.le_trans h.sz hb.size, h.lay, h.olt⟩
theorem TuS.read (h : TuS w K gd p2 P lz st us Ai i ci wr) (hg : wr.grownBy w' (some gd)) (hk : RdrK w' gd K st') : TuS w K gd p2 P lz st' us Ai i ci w' := by
  obtain ⟨l1, l2, l3⟩ := h.lay
  refine ⟨hk, (hg.block _ (Array.getElem?_eq_some_iff.1 h.row).1 (fun e => by have := Option.some.inj e; omega)).trans h.row, (hg.block _ (Array.getElem?_eq_some_iff.1 h.res).1 (fun e => by have := Option.some.inj e; omega)).trans h.res, own_far h.own (by omega) hg, bel_grown h.bel h.bel.size hg (by omega), Nat.le_trans h.sz hg.size, h.lay, h.olt⟩
theorem TuS.put {b : Nat} (h : TuS w K gd p2 P lz st us Ai i ci wr) (hg : wr.grownBy w' (some b)) (hb : K + 1 ≤ b) (hP : P ≤ b) : TuS w K gd p2 P lz st us Ai i ci w' := by
  obtain ⟨l1, l2, l3⟩ := h.lay
  refine ⟨h.rdr.far (by omega) (by omega) hg, (hg.block _ (Array.getElem?_eq_some_iff.1 h.row).1 (fun e => by have := Option.some.inj e; omega)).trans h.row, (hg.block _ (Array.getElem?_eq_some_iff.1 h.res).1 (fun e => by have := Option.some.inj e; omega)).trans h.res, own_keep h.own (fun k hk hl => hg.block k hl (fun e => ?_)), bel_grown h.bel h.bel.size hg (by omega), Nat.le_trans h.sz hg.size, h.lay, h.olt⟩
  have h1 := Option.some.inj e
  cases Ai with
  | none => cases hk
  | some a =>
    have h2 : a.block = k := Option.some.inj hk
    have h3 := h.olt a rfl
    omega
theorem TuS.own_ne (h : TuS w K gd p2 P lz st us Ai i ci wr) {b : Nat} (hb : (Value.slice Ai i ci).ownBlock = some b) : K + 1 ≤ b := (h.own.lt b hb).1
theorem TuS.app {u : UpM} {A8 : Option Addr} {c8 : Nat} {w8 : World} (h : TuS w K gd p2 P lz st us Ai i ci wr) (hg : wr.grownBy w8 (Value.slice Ai i ci).ownBlock) (ho : w8.ownsRow (K + 1) 31 65 (.slice A8 (i + 1) c8) (i + 1) (upsC us ++ upC u)) :
    TuS w K gd p2 (w8.setCell ⟨K, 0, none⟩ (.slice A8 (i + 1) c8)).heap.size lz st (us ++ [u]) A8 (i + 1) c8 (w8.setCell ⟨K, 0, none⟩ (.slice A8 (i + 1) c8)) := by
  obtain ⟨l1, l2, l3⟩ := h.lay
  have hne : ∀ b, (Value.slice Ai i ci).ownBlock = some b → K + 1 ≤ b := fun b hb => h.own_ne hb
  have hk8 : RdrK w8 gd K st := by
    cases hv : (Value.slice Ai i ci).ownBlock with
    | none => rw [hv] at hg; exact h.rdr.below (grown_none hg)
    | some b =>
      rw [hv] at hg
      have := hne b hv
      exact h.rdr.far (by omega) (by omega) hg
  have hr8 : w8.heap[K]? = _ := (hg.block _ (Array.getElem?_eq_some_iff.1 h.row).1 (fun e => by have := hne _ e.symm; omega)).trans h.row
  have hp8 : w8.heap[p2]? = _ := (hg.block _ (Array.getElem?_eq_some_iff.1 h.res).1 (fun e => by have := hne _ e.symm; omega)).trans h.res
  have hs := grown_set (w := w8) K 0 (.slice A8 (i + 1) c8)
  have hb8 : Below w.heap.size w w8 := by
    cases hv : (Value.slice Ai i ci).ownBlock with
    | none => rw [hv] at hg; exact h.bel.trans ((grown_none hg).mono h.bel.size)
    | some b =>
      rw [hv] at hg
      have := hne b hv
      exact bel_grown h.bel h.bel.size hg (by omega)
  refine ⟨hk8.far (by omega) (Nat.le_refl _) hs, ?_, ?_, ?_, bel_grown hb8 hb8.size hs (by omega), ?_, h.lay, ?_⟩
  · have h1 := row_set hr8 0 (.slice A8 (i + 1) c8)
    exact h1
  · exact (hs.block _ (Array.getElem?_eq_some_iff.1 hp8).1 (fun e => by have := Option.some.inj e; omega)).trans hp8
  · rw [upsC_app, show upsC [u] = upC u by simp [upsC]]
    exact own_far ho (by omega) hs
  · exact Nat.le_trans (Nat.le_trans h.sz hg.size) hs.size
  · intro a ha
    have h1 := (ho.lt a.block (by rw [ha]; rfl)).2
    have := hs.size
    omega
end

set_option maxRecDepth 1000000 in
set_option maxHeartbeats 16000000 in
theorem rturn_any (A : Option Addr) (n c : Nat) (bs : List UInt8) (hn : n = bs.length) (w : World) (hr : Rd w A (b8s bs)) (hm : bs.length ≤ 140737488355328) :
    Calls Tryz.prog 70 #[.slice A n c] w fun e w' => ∃ Ai ci, e = .returned (.tuple #[.agg (txC Ai (parseT bs).1.us.length ci (parseT bs).1).toArray, .bool (parseT bs).2]) ∧ Rd w' Ai (upsC (parseT bs).1.us) ∧ (∀ a, Ai = some a → w.heap.size ≤ a.block) ∧ Below w.heap.size w w' := by
  obtain ⟨p2, hp2⟩ : ∃ g, w.heap.size = g := ⟨_, rfl⟩
  obtain ⟨lz, hlz⟩ : ∃ l, txC none 0 0 t0 = l := ⟨_, rfl⟩
  have hlz' : lz.toArray = #[Value.slice none 0 0, Value.string ⟨#[]⟩, Value.int .u8 0, Value.int .u8 0, Value.int .u8 0, Value.int .u8 0, Value.int .u8 0, Value.int .u8 0, Value.int .u8 0, Value.int .u8 0, Value.int .u8 0, Value.int .u8 0, Value.int .u8 0, Value.int .u8 0, Value.int .u8 0, Value.int .u8 0, Value.int .u8 0, Value.int .u8 0, Value.int .u8 0, Value.int .u8 0, Value.int .u8 0, Value.int .u8 0, Value.int .u8 0, Value.int .u8 0, Value.int .u8 0, Value.int .u8 0, Value.int .u8 0, Value.int .u8 0, Value.int .u8 0, Value.int .u8 0, Value.int .u8 0, Value.int .u8 0, Value.int .u8 0, Value.int .u8 0] := by rw [← hlz]; rfl
  obtain ⟨W1, hW1⟩ : ∃ W, w.alloc (.cells #[Value.slice none 0 0, Value.string ⟨#[]⟩, Value.int .u8 0, Value.int .u8 0, Value.int .u8 0, Value.int .u8 0, Value.int .u8 0, Value.int .u8 0, Value.int .u8 0, Value.int .u8 0, Value.int .u8 0, Value.int .u8 0, Value.int .u8 0, Value.int .u8 0, Value.int .u8 0, Value.int .u8 0, Value.int .u8 0, Value.int .u8 0, Value.int .u8 0, Value.int .u8 0, Value.int .u8 0, Value.int .u8 0, Value.int .u8 0, Value.int .u8 0, Value.int .u8 0, Value.int .u8 0, Value.int .u8 0, Value.int .u8 0, Value.int .u8 0, Value.int .u8 0, Value.int .u8 0, Value.int .u8 0, Value.int .u8 0, Value.int .u8 0] 28) = W := ⟨_, rfl⟩
  obtain ⟨r1, b1, s1⟩ := new_row hW1
  rw [hp2, ← hlz'] at r1
  have HB1 := Lib.hid b1
  have HR1 := Lib.hid r1
  have HP2 := Lib.hid hp2
  have HLZ := Lib.hid hlz'
  have HLZ0 := Lib.hid hlz
  have HRD := Lib.hid (read_any A bs n c W1 hn (hr.below b1) hm)
  obtain ⟨T, hT⟩ : ∃ T, parseT bs = T := ⟨_, rfl⟩
  have HT := Lib.hid hT
  have HS1 : Hid (W1.heap.size = p2 + 1) := Lib.hid (by rw [s1, hp2])
  rw [hT]
  clear hn hr r1 b1 s1 hlz hlz' hT
  go_enter Tryz.func70, Tryz.ntmps70
  go_wp2_with fail
  refine HRD.out.mono ?_
  rintro e w2 ⟨gd, rfl, hge, hb2, hm2⟩
  have HGE := Lib.hid hge
  have HB2 : Hid (Below w.heap.size w w2) := Lib.hid (HB1.out.trans (hb2.mono HB1.out.size))
  have HR2 : Hid (w2.heap[p2]? = some (.cells lz.toArray 28 (0, 0))) := Lib.hid ((hb2.block _ (Array.getElem?_eq_some_iff.1 HR1.out).1).trans HR1.out)
  have HK2 := Lib.hid hm2.k
  have HGL : Hid (gd < w2.heap.size) := Lib.hid hm2.lt
  clear hge hb2 hm2 HRD hW1
  obtain ⟨K, hK⟩ : ∃ x, w2.heap.size = x := ⟨_, rfl⟩
  obtain ⟨W3, hW3⟩ : ∃ W, w2.alloc (.cells #[Value.slice none 0 0, Value.string ⟨#[]⟩, Value.int .u8 0, Value.int .u8 0, Value.int .u8 0, Value.int .u8 0, Value.int .u8 0, Value.int .u8 0, Value.int .u8 0, Value.int .u8 0, Value.int .u8 0, Value.int .u8 0, Value.int .u8 0, Value.int .u8 0, Value.int .u8 0, Value.int .u8 0, Value.int .u8 0, Value.int .u8 0, Value.int .u8 0, Value.int .u8 0, Value.int .u8 0, Value.int .u8 0, Value.int .u8 0, Value.int .u8 0, Value.int .u8 0, Value.int .u8 0, Value.int .u8 0, Value.int .u8 0, Value.int .u8 0, Value.int .u8 0, Value.int .u8 0, Value.int .u8 0, Value.int .u8 0, Value.int .u8 0] 28) = W := ⟨_, rfl⟩
  obtain ⟨r3, b3, s3⟩ := new_row hW3
  rw [hK, ← HLZ.out] at r3
  rw [hK] at HK2 HGL
  have HKE := Lib.hid hK
  have HK3 := Lib.hid (HK2.out.below b3)
  have HR3 := Lib.hid r3
  have HR23 : Hid (W3.heap[p2]? = some (.cells lz.toArray 28 (0, 0))) := Lib.hid ((b3.block _ (Array.getElem?_eq_some_iff.1 HR2.out).1).trans HR2.out)
  have HB3 : Hid (Below w.heap.size w W3) := Lib.hid (HB2.out.trans (b3.mono HB2.out.size))
  have HS3 : Hid (W3.heap.size = K + 1) := Lib.hid (by rw [s3, hK])
  have HPG : Hid (p2 < gd ∧ gd < K) := Lib.hid ⟨by have := HGE.out; have := HS1.out; have := HP2.out; have := HB1.out.size; omega, HGL.out⟩
  clear r3 b3 s3
  go_wp2_with fail
  clear hW3 hK
  refine (rdnum_k K gd _ 64 W3 HK3.out).mono ?_
  rintro e w4 ⟨rfl, hk4, hg4⟩
  obtain ⟨k, hk⟩ : ∃ x, (getNum (some bs) 64).1 = x := ⟨_, rfl⟩
  obtain ⟨st0, hst0⟩ : ∃ x, (getNum (some bs) 64).2 = x := ⟨_, rfl⟩
  have hk64 : k ≤ 64 := by have := getNum_most (some bs) 64 (by decide); omega
  have HTT : Hid (T = (⟨(getUps k st0).1, (getText (getUps k st0).2 1048576).1, (getId (getText (getUps k st0).2 1048576).2).1⟩, doneS (getId (getText (getUps k st0).2 1048576).2).2)) := Lib.hid (by rw [← HT.out, ← hk, ← hst0]; rfl)
  rw [hk]
  rw [hst0] at hk4
  have HS4 : Hid (TuS w K gd p2 w4.heap.size lz st0 [] none 0 0 w4) := Lib.hid (by
    have h0 : TuS w K gd p2 W3.heap.size lz (some bs) [] none 0 0 W3 := ⟨HK3.out, by have h1 := HR3.out; rw [← HLZ0.out] at h1; exact h1, HR23.out, World.ownsRow_nil _ _ _ _, HB3.out, by rw [HS3.out]; exact Nat.le_refl _, ⟨by rw [HP2.out]; exact Nat.le_refl _, HPG.out.1, HPG.out.2⟩, by simp⟩
    have h1 := h0.read hg4 hk4
    exact ⟨h1.rdr, h1.row, h1.res, h1.own, h1.bel, h1.sz, h1.lay, by simp⟩)
  clear hk4 hg4 hk hst0 HK3 HK2
  go_wp2_with fail
  go_loopg [11] (k * 1) (fun gk_ iv wr => ∃ (i : Nat) (st : St) (us : List UpM) (Ai : Option Addr) (ci : Nat), i ≤ k ∧ gk_ = k - i ∧ iv = .int .i64 (i : Int) ∧ Hid (us ++ (getUps (k - i) st).1 = (getUps k st0).1 ∧ (getUps (k - i) st).2 = (getUps k st0).2) ∧ Hid (us.length = i) ∧ Hid (TuS w K gd p2 wr.heap.size lz st us Ai i ci wr))
  case atStart => exact ⟨0, st0, [], none, 0, by omega, by omega, rfl, Lib.hid ⟨rfl, rfl⟩, Lib.hid rfl, HS4⟩
  case round =>
  clear HS4
  obtain ⟨i, st, us, Ai, ci, hi, rfl, rfl, HUS, HUL, HS⟩ := hrel
  by_cases hlt : i < k
  · have j1 : (i : Int) < (k : Int) := by omega
    go_wp2_with fail
    refine (rdtext_k K gd st 1048576 wr HS.out.rdr).mono ?_
    rintro e w5 ⟨rfl, hk5, hg5⟩
    have HS5 := Lib.hid (HS.out.read hg5 hk5)
    have HSZ5 : Hid (wr.heap.size ≤ w5.heap.size) := Lib.hid hg5.size
    obtain ⟨nm, hnm⟩ : ∃ x, (getText st 1048576).1 = x := ⟨_, rfl⟩
    obtain ⟨sa, hsa⟩ : ∃ x, (getText st 1048576).2 = x := ⟨_, rfl⟩
    have HNM : Hid ((getText st 1048576).1 = nm) := Lib.hid hnm
    have HSA : Hid ((getText st 1048576).2 = sa) := Lib.hid hsa
    have hnl : nm.length ≤ 140737488355328 := by have h9 := getText_le st; rw [hnm] at h9; omega
    rw [hnm]
    rw [hsa] at HS5
    clear hk5 hg5 hnm hsa
    have HOK1 : Hid (upOk ⟨nm, Z32, Z32⟩) := Lib.hid ⟨rfl, rfl, hnl⟩
    obtain ⟨p6, hp6⟩ : ∃ x, w5.heap.size = x := ⟨_, rfl⟩
    obtain ⟨WA, hWA⟩ : ∃ W, w5.alloc (.cells Tryz.zeroCells31 31) = W := ⟨_, rfl⟩
    obtain ⟨rA, bA, sA⟩ := new_row hWA
    rw [hp6, upZ_eq] at rA
    obtain ⟨WB, hWB, TB, RB, GB⟩ := put_rowR (new := upC ⟨nm, Z32, Z32⟩) rA (by rw [upC_len HOK1.out]; rfl)
    have HWB := Lib.hid hWB
    have HSB : Hid (TuS w K gd p2 wr.heap.size lz sa us Ai i ci WB) := Lib.hid (HS5.out.below (bel_grown bA bA.size GB.out (by omega)))
    have HIL := Lib.hid (info_upl HOK1.out)
    have HIA := Lib.hid (info_upa HOK1.out)
    have HOC : Hid ((upC ⟨nm, Z32, Z32⟩).toArray.all (·.oneCell') = true) := Lib.hid (all_oneCell_toArray (upC_one _))
    have HUB : Hid (Tryz.prog.built 31 [(0, .string ⟨nm.toArray⟩)] = some (upC ⟨nm, Z32, Z32⟩).toArray) := Lib.hid (up_built1 nm)
    have HP6 : Hid (K + 1 ≤ p6 ∧ wr.heap.size ≤ p6) := Lib.hid ⟨by rw [← hp6]; exact HS5.out.sz, by rw [← hp6]; exact HSZ5.out⟩
    have HRB : Hid (WB.heap[p6]? = some (.cells ([strV nm] ++ b8s Z32 ++ b8s Z32).toArray 31 (0, 0))) := Lib.hid (by have h1 := RB.out; simpa [upC] using h1)
    obtain ⟨la, hla⟩ : ∃ l, upC ⟨nm, Z32, Z32⟩ = l := ⟨_, rfl⟩
    rw [hla] at HIA HOC HWB TB HUB
    clear rA bA sA hWB RB GB hla
    go_wp2_with (first
      | ((with_reducible (refine wpList_built ?_ _ #[(0, .tmp 14)] ?_ _ ?_ _ HUB.out ?_)); (exact rfl); (exact rfl); (exact rfl))
      | ((with_reducible (refine wpList_store_mid rfl _ _ _ rfl ?_ ?_ ?_ ?_ ?_ ?_ ?_ ?_ ?_)); (exact p6); (exact 0); (exact (la).toArray); (exact rfl); (exact rfl); (exact TB.out); (exact HIA.out); (exact HOC.out); rw [HWB.out]))
    clear hp6 hWA
    refine (rdid_k K gd sa WB HSB.out.rdr (by have := HSB.out.sz; omega)).mono ?_
    rintro e w6 ⟨rfl, hk6, hg6⟩
    have HS6 := Lib.hid (HSB.out.read hg6 hk6)
    obtain ⟨ia, hia⟩ : ∃ x, (getId sa).1 = x := ⟨_, rfl⟩
    obtain ⟨sb, hsb⟩ : ∃ x, (getId sa).2 = x := ⟨_, rfl⟩
    have HIA1 : Hid ((getId sa).1 = ia ∧ (getId sa).2 = sb) := Lib.hid ⟨hia, hsb⟩
    have HIAL : Hid (ia.length = 32) := Lib.hid (by rw [← hia]; exact getId_len _)
    have HRC : Hid (w6.heap[p6]? = some (.cells ([strV nm] ++ b8s Z32 ++ b8s Z32).toArray 31 (0, 0))) := Lib.hid ((hg6.block _ (Array.getElem?_eq_some_iff.1 HRB.out).1 (fun e => by have := Option.some.inj e; have := HP6.out.1; have := HS6.out.lay; omega)).trans HRB.out)
    rw [hia]
    rw [hsb] at HS6
    obtain ⟨W7, hW7, T7, R7, G7⟩ := put_mid (vs := b8s ia) HRC.out (by rw [b8s_length, b8s_length, HIAL.out]; rfl)
    have HS7 := Lib.hid (HS6.out.put G7.out HP6.out.1 HP6.out.2)
    have HW7 : Hid (w6.setCells p6 1 (b8s ia).toArray.toList = W7) := Lib.hid hW7
    have HT7 : Hid (w6.there p6 1 (b8s ia).toArray.size) := Lib.hid T7.out
    have HII := Lib.hid (info_ida ia HIAL.out)
    have HOI : Hid ((b8s ia).toArray.all (·.oneCell') = true) := Lib.hid (all_oneCell_toArray (b8s_one' _))
    have HR7 : Hid (W7.heap[p6]? = some (.cells (([strV nm] ++ b8s ia) ++ b8s Z32 ++ []).toArray 31 (0, 0))) := Lib.hid (by have h1 := R7.out; simpa using h1)
    obtain ⟨lia, hlia⟩ : ∃ l, b8s ia = l := ⟨_, rfl⟩
    have HLIA := Lib.hid hlia
    rw [hlia] at HW7 HT7 HII HOI ⊢
    clear hk6 hg6 hia hsb hW7 T7 R7 G7 hlia
    go_wp2_with ((with_reducible (refine wpList_store_mid rfl _ _ _ rfl ?_ ?_ ?_ ?_ ?_ ?_ ?_ ?_ ?_)); (exact p6); (exact 1); (exact (lia).toArray); (exact rfl); (exact rfl); (exact HT7.out); (exact HII.out); (exact HOI.out); rw [HW7.out])
    refine (rdid_k K gd sb W7 HS7.out.rdr (by have := HS7.out.sz; omega)).mono ?_
    rintro e w8 ⟨rfl, hk8, hg8⟩
    have HS8 := Lib.hid (HS7.out.read hg8 hk8)
    obtain ⟨ib, hib⟩ : ∃ x, (getId sb).1 = x := ⟨_, rfl⟩
    obtain ⟨sc, hsc⟩ : ∃ x, (getId sb).2 = x := ⟨_, rfl⟩
    have HIB1 : Hid ((getId sb).1 = ib ∧ (getId sb).2 = sc) := Lib.hid ⟨hib, hsc⟩
    have HIBL : Hid (ib.length = 32) := Lib.hid (by rw [← hib]; exact getId_len _)
    have HRD8 : Hid (w8.heap[p6]? = some (.cells (([strV nm] ++ b8s ia) ++ b8s Z32 ++ []).toArray 31 (0, 0))) := Lib.hid ((hg8.block _ (Array.getElem?_eq_some_iff.1 HR7.out).1 (fun e => by have := Option.some.inj e; have := HP6.out.1; have := HS8.out.lay; omega)).trans HR7.out)
    rw [hib]
    rw [hsc] at HS8
    obtain ⟨W9, hW9, T9, R9, G9⟩ := put_mid (vs := b8s ib) HRD8.out (by rw [b8s_length, b8s_length, HIBL.out]; rfl)
    have hpl : ([strV nm] ++ b8s ia).length = 33 := by rw [List.length_append, b8s_length, HIAL.out]; rfl
    rw [hpl] at hW9 T9
    have HS9 := Lib.hid (HS8.out.put G9.out HP6.out.1 HP6.out.2)
    have HW9 := Lib.hid hW9
    have HT9 := Lib.hid T9.out
    have HII9 := Lib.hid (info_ida ib HIBL.out)
    have HOI9 : Hid ((b8s ib).toArray.all (·.oneCell') = true) := Lib.hid (all_oneCell_toArray (b8s_one' _))
    obtain ⟨u, hu⟩ : ∃ u : UpM, u = ⟨nm, ia, ib⟩ := ⟨_, rfl⟩
    have HOKU : Hid (upOk u) := Lib.hid (by rw [hu]; exact ⟨HIAL.out, HIBL.out, hnl⟩)
    have HR9 : Hid (W9.heap[p6]? = some (.cells (upC u).toArray 31 (0, 0))) := Lib.hid (by rw [hu]; have h1 := R9.out; simpa [upC] using h1)
    have HUP : Hid ((getUp st).1 = u ∧ (getUp st).2 = sc) := Lib.hid (by
      rw [hu]
      unfold getUp
      simp only [HNM.out, HSA.out, HIA1.out.1, HIA1.out.2, HIB1.out.1, HIB1.out.2, and_self])
    -- the slice of one, appended
    obtain ⟨p7, hp7⟩ : ∃ x, W9.heap.size = x := ⟨_, rfl⟩
    obtain ⟨WC, hWC⟩ : ∃ W, W9.alloc (.cells (upC u).toArray 31) = W := ⟨_, rfl⟩
    obtain ⟨rC, bC, sC⟩ := new_row hWC
    rw [hp7] at rC
    have HSC := Lib.hid (HS9.out.below bC)
    have HRDC : Hid (Rd WC (some ⟨p7, 0, none⟩) (upC u)) := Lib.hid (range_rd (range_of_row rC))
    have c9 : W9.cell? ⟨K, 0, none⟩ = some (.slice Ai i ci) := (tx_cells HS9.out.row).1
    have HRG9 := Lib.hid (range_of_row HR9.out)
    have HIL9 := Lib.hid (info_upl HOKU.out)
    have HIB9 : Hid ((Tryz.prog.info? 31).map (fun i => (i.size, i.zero.isSome)) = some ((upC u).length, true)) := Lib.hid (by rw [upC_len HOKU.out]; kernel_rfl)
    have HUL9 := Lib.hid (upC_len HOKU.out)
    have HO1 : Hid (∀ v ∈ upC u, v.oneCell' = true) := Lib.hid (upC_one u)
    have HFC : Hid (∀ W', WC.grownBy W' (Value.slice Ai i ci).ownBlock → W'.cell? ⟨K, 0, none⟩ = some (.slice Ai i ci) ∧ W'.frozen? ⟨K, 0, none⟩ = false) := Lib.hid (fun W' hg => by
      have h1 := (hg.block _ (Array.getElem?_eq_some_iff.1 HSC.out.row).1 (fun e => by have := HSC.out.own_ne e.symm; omega)).trans HSC.out.row
      exact ⟨(tx_cells h1).1, row_free h1 0⟩)
    have HOWN := Lib.hid HSC.out.own
    have HSZC : Hid (K + 1 ≤ WC.heap.size) := Lib.hid HSC.out.sz
    have HUC : Hid (upC u = upC u) := Lib.hid rfl
    obtain ⟨lu, hlu⟩ : ∃ l, upC u = l := ⟨_, rfl⟩
    have HLU := Lib.hid hlu
    obtain ⟨lib, hlib⟩ : ∃ l, b8s ib = l := ⟨_, rfl⟩
    rw [hlib] at HW9 HT9 HII9 HOI9 ⊢
    rw [hlu] at hWC HRDC HRG9 HIL9 HIB9 HUL9 HO1
    clear hk8 hg8 hib hsc hW9 T9 R9 G9 hpl hu rC bC sC hlu hlib
    go_wp2_with (first
      | ((with_reducible (refine wpList_store_mid rfl _ _ _ rfl ?_ ?_ ?_ ?_ ?_ ?_ ?_ ?_ ?_)); (exact p6); (exact 33); (exact (lib).toArray); (exact rfl); (exact rfl); (exact HT9.out); (exact HII9.out); (exact HOI9.out); rw [HW9.out])
      | ((with_reducible (refine wpList_load_cells 31 _ p6 0 (lu) HRG9.out Tryz.underlying31 rfl HIL9.out ?_ rfl ?_ ?_)); (exact rfl); (exact rfl))
      | (refine wpList_build1 rfl 26 31 _ rfl lu rfl Tryz.underlying26 HIB9.out (by rw [HUL9.out]; omega) (by rw [HUL9.out]; omega) ?_)
      | (at_builtin; (try rw [hWC]); (try rw [hp7]); go_loud (refine wpList_append_rd _ rfl _ _ 26 rfl (K + 1) 31 _ 65 80 Tryz.underlying26 info_up65 (by simp [Value.cells, b8s]) (by decide) (.slice Ai i ci) i _ rfl HOWN.out _ 1 1 lu rfl (by rw [HUL9.out]) HRDC.out HO1.out (by unfold maxLen; omega) (by omega) HSZC.out ?_); intro v8 wX ho8 hg8 hvb8; obtain ⟨A8, c8, e8, _⟩ := own_slice ho8; subst e8; obtain ⟨c8K, f8K⟩ := HFC.out _ hg8; have HO8 := Lib.hid ho8; have HG8 := Lib.hid hg8; clear ho8 hg8 hvb8))
    clear hWC hp7 c9
    go_roundg (k - (i + 1))
    case measure => omega
    case rel =>
      refine ⟨i + 1, sc, us ++ [u], A8, c8, by omega, rfl, by first | rfl | exact congrArg (Value.int .i64) (by omega) | go_num, Lib.hid ?_, Lib.hid (by rw [List.length_append, HUL.out]; rfl), Lib.hid ?_⟩
      · have h1 := HUS.out
        rw [show k - i = (k - (i + 1)) + 1 by omega] at h1
        simp only [getUps, HUP.out.1, HUP.out.2] at h1
        rw [List.append_assoc]
        exact h1
      · have h1 := HO8.out
        rw [← HLU.out] at h1
        exact HSC.out.app HG8.out h1
  · obtain rfl : i = k := by omega
    have HUF : Hid (us = (getUps i st0).1 ∧ st = (getUps i st0).2) := Lib.hid (by
      have h1 := HUS.out
      rw [Nat.sub_self] at h1
      simpa [getUps] using h1)
    go_wp2_with fail
    refine (rdtext_k K gd st 1048576 wr HS.out.rdr).mono ?_
    rintro e w5 ⟨rfl, hk5, hg5⟩
    have HS5 := Lib.hid (HS.out.read hg5 hk5)
    obtain ⟨nm, hnm⟩ : ∃ x, (getText st 1048576).1 = x := ⟨_, rfl⟩
    obtain ⟨sa, hsa⟩ : ∃ x, (getText st 1048576).2 = x := ⟨_, rfl⟩
    have HNM : Hid ((getText st 1048576).1 = nm ∧ (getText st 1048576).2 = sa) := Lib.hid ⟨hnm, hsa⟩
    rw [hnm]
    rw [hsa] at HS5
    have c51 : w5.cell? ⟨K, 1, none⟩ = some (.string ⟨#[]⟩) := (tx_cells HS5.out.row).2.1
    have f51 : w5.frozen? ⟨K, 1, none⟩ = false := row_free HS5.out.row 1
    obtain ⟨W6, hW6⟩ : ∃ W, w5.setCell ⟨K, 1, none⟩ (.string ⟨nm.toArray⟩) = W := ⟨_, rfl⟩
    have hg6 : w5.grownBy W6 (some K) := by rw [← hW6]; exact grown_set K 1 _
    have HG6 := Lib.hid hg6
    have HR6 : Hid (W6.heap[K]? = some (.cells ([Value.slice Ai i ci, strV nm] ++ b8s Z32 ++ []).toArray 28 (0, 0))) := Lib.hid (by
      rw [← hW6]
      have h1 := row_set HS5.out.row 1 (.string ⟨nm.toArray⟩)
      exact h1)
    have HK6 : Hid (RdrK W6 gd K sa) := Lib.hid (HS5.out.rdr.far (by have := HS5.out.lay; omega) (Nat.le_refl _) hg6)
    have HP26 : Hid (W6.heap[p2]? = some (.cells lz.toArray 28 (0, 0))) := Lib.hid ((hg6.block _ (Array.getElem?_eq_some_iff.1 HS5.out.res).1 (fun e => by have := Option.some.inj e; have := HS5.out.lay; omega)).trans HS5.out.res)
    have HOW6 : Hid (W6.ownsRow (K + 1) 31 65 (.slice Ai i ci) i (upsC us)) := Lib.hid (own_far HS5.out.own (by omega) hg6)
    have HB6 : Hid (Below w.heap.size w W6) := Lib.hid (bel_grown HS5.out.bel HS5.out.bel.size hg6 (by have := HS5.out.lay; omega))
    have HZ6 : Hid (K ≤ W6.heap.size) := Lib.hid (by have := HS5.out.sz; have := hg6.size; omega)
    have HLAY := Lib.hid HS5.out.lay
    clear hk5 hg5 hnm hsa hg6
    go_wp2_with fail
    clear c51 f51 hW6
    refine (rdid_k K gd sa W6 HK6.out HZ6.out).mono ?_
    rintro e w7 ⟨rfl, hk7, hg7⟩
    obtain ⟨ia, hia⟩ : ∃ x, (getId sa).1 = x := ⟨_, rfl⟩
    obtain ⟨sb, hsb⟩ : ∃ x, (getId sa).2 = x := ⟨_, rfl⟩
    have HIA1 : Hid ((getId sa).1 = ia ∧ (getId sa).2 = sb) := Lib.hid ⟨hia, hsb⟩
    have HIAL : Hid (ia.length = 32) := Lib.hid (by rw [← hia]; exact getId_len _)
    rw [hia]
    rw [hsb] at hk7
    have HR7 : Hid (w7.heap[K]? = some (.cells ([Value.slice Ai i ci, strV nm] ++ b8s Z32 ++ []).toArray 28 (0, 0))) := Lib.hid ((hg7.block _ (Array.getElem?_eq_some_iff.1 HR6.out).1 (fun e => by have := Option.some.inj e; have := HLAY.out; omega)).trans HR6.out)
    have HP27 : Hid (w7.heap[p2]? = some (.cells lz.toArray 28 (0, 0))) := Lib.hid ((hg7.block _ (Array.getElem?_eq_some_iff.1 HP26.out).1 (fun e => by have := Option.some.inj e; have := HLAY.out; omega)).trans HP26.out)
    have HOW7 := Lib.hid (own_far HOW6.out (by have := HLAY.out; omega) hg7)
    have HB7 : Hid (Below w.heap.size w w7) := Lib.hid (bel_grown HB6.out HB6.out.size hg7 (by have := HLAY.out; omega))
    obtain ⟨W8, hW8, T8, R8, G8⟩ := put_mid (vs := b8s ia) HR7.out (by rw [b8s_length, b8s_length, HIAL.out]; rfl)
    have HK8 : Hid (RdrK W8 gd K sb) := Lib.hid (hk7.far (by have := HLAY.out; omega) (Nat.le_refl _) G8.out)
    have HP28 : Hid (W8.heap[p2]? = some (.cells lz.toArray 28 (0, 0))) := Lib.hid ((G8.out.block _ (Array.getElem?_eq_some_iff.1 HP27.out).1 (fun e => by have := Option.some.inj e; have := HLAY.out; omega)).trans HP27.out)
    have HOW8 := Lib.hid (own_far HOW7.out (by omega) G8.out)
    have HB8 : Hid (Below w.heap.size w W8) := Lib.hid (bel_grown HB7.out HB7.out.size G8.out (by have := HLAY.out; omega))
    have HW8 : Hid (w7.setCells K 2 (b8s ia).toArray.toList = W8) := Lib.hid hW8
    have HT8 : Hid (w7.there K 2 (b8s ia).toArray.size) := Lib.hid T8.out
    have HII := Lib.hid (info_ida ia HIAL.out)
    have HOI : Hid ((b8s ia).toArray.all (·.oneCell') = true) := Lib.hid (all_oneCell_toArray (b8s_one' _))
    have HR8 : Hid (W8.heap[K]? = some (.cells (txC Ai i ci ⟨us, nm, ia⟩).toArray 28 (0, 0))) := Lib.hid (by have h1 := R8.out; simpa [txC] using h1)
    have HFT : Hid (T = (⟨us, nm, ia⟩, doneS sb)) := Lib.hid (by
      rw [HTT.out, ← HUF.out.1, ← HUF.out.2, HNM.out.1, HNM.out.2, HIA1.out.1, HIA1.out.2])
    have HTL : Hid ((txC Ai i ci ⟨us, nm, ia⟩).length = 34) := Lib.hid (txC_len HIAL.out)
    have HITL : Hid ((Tryz.prog.info? 28).map (·.size) = some (txC Ai i ci ⟨us, nm, ia⟩).length) := Lib.hid (info_txl (t := ⟨us, nm, ia⟩) HIAL.out)
    have HITA : Hid ((Tryz.prog.info? 28).map (·.size) = some (txC Ai i ci ⟨us, nm, ia⟩).toArray.size) := Lib.hid (info_txa (t := ⟨us, nm, ia⟩) HIAL.out)
    have HOT : Hid ((txC Ai i ci ⟨us, nm, ia⟩).toArray.all (·.oneCell') = true) := Lib.hid (all_oneCell_toArray (txC_one _ _ _ _))
    have h2d : W8.drew.heap[p2]? = some (.cells lz.toArray 28 (0, 0)) := HP28.out
    obtain ⟨W9, hW9, T9, R9, G9⟩ := put_rowR (new := txC Ai i ci ⟨us, nm, ia⟩) h2d (by rw [HTL.out, ← HLZ0.out]; rfl)
    have HOW9 := Lib.hid (own_far (w := W8.drew) HOW8.out (by have := HLAY.out; omega) G9.out)
    have HB9 : Hid (Below w.heap.size w W9) := Lib.hid (bel_grown HB8.out.drew HB8.out.drew.size G9.out HLAY.out.1)
    have HW9 := Lib.hid hW9
    have HRG8 := Lib.hid (range_of_row HR8.out)
    have HRG9 : Hid (W9.rangeAt K 0 (txC Ai i ci ⟨us, nm, ia⟩)) := Lib.hid (range_of_row ((G9.out.block _ (Array.getElem?_eq_some_iff.1 HR8.out).1 (fun e => by have := Option.some.inj e; have := HLAY.out; omega)).trans HR8.out))
    obtain ⟨lt, hlt_⟩ : ∃ l, txC Ai i ci ⟨us, nm, ia⟩ = l := ⟨_, rfl⟩
    have HLT := Lib.hid hlt_
    obtain ⟨lia, hlia⟩ : ∃ l, b8s ia = l := ⟨_, rfl⟩
    rw [hlia] at HW8 HT8 HII HOI ⊢
    rw [hlt_] at HITL HITA HOT T9 R9 HW9 HRG8 HRG9
    clear hk7 hg7 hia hsb hW8 T8 R8 G8 h2d hW9 G9 hlt_ hlia
    go_wp2_with ((with_reducible (refine wpList_store_mid rfl _ _ _ rfl ?_ ?_ ?_ ?_ ?_ ?_ ?_ ?_ ?_)); (exact K); (exact 2); (exact (lia).toArray); (exact rfl); (exact rfl); (exact HT8.out); (exact HII.out); (exact HOI.out); rw [HW8.out])
    refine wp_region_sched (fun w' => w'.rangeAt K 0 lt) [(true, 0), (true, 1), (false, 2), (false, 3), (true, 4)] (by kernel_rfl) (by kernel_rfl) rfl (by kernel_rfl) HRG8.out ?_
    refine wpS_load _ rfl (by rfl) 28 _ rfl K 0 rfl lt _ (fun w' hS => hS) Tryz.underlying28 rfl HITL.out ?_
    simp only [Act.put, List.getElem_toArray, List.getElem_cons_zero, List.getElem_cons_succ, List.setIfInBounds_toArray, List.set_cons_zero, List.set_cons_succ]
    (first | (refine wpS_pass _ rfl (by rfl) ?_; simp only [Act.put, List.getElem_toArray, List.getElem_cons_zero, List.getElem_cons_succ, List.setIfInBounds_toArray, List.set_cons_zero, List.set_cons_succ]) | (refine wpS_take _ ?_ rfl (by rfl) ?_ ?_; rotate_left; (focus (intro w' hS'; (try dsimp only at hS'); (repeat (have hS1 := hS'.1; replace hS' := hS'.2)); go_simp; (try with_reducible rfl); done)); simp only [Act.put, List.getElem_toArray, List.getElem_cons_zero, List.getElem_cons_succ, List.setIfInBounds_toArray, List.set_cons_zero, List.set_cons_succ]))
    refine wpS_do _ rfl (by rfl) (fun KK hKK => ?_)
    go_simp
    refine (done_any gd sb W8.drew (HK8.out.m.below (Below.refl _ _).drew)).mono ?_
    rintro e w9 ⟨rfl, rfl⟩
    refine hKK.out _ _ HRG8.out (fun hS => ?_)
    clear hKK hS
    refine wpS_store_mid _ rfl (by rfl) 28 _ _ rfl p2 0 lt.toArray rfl rfl T9.out HITA.out HOT.out ?_ ?_
    · rw [HW9.out]
      exact HRG9.out
    simp only [Act.put, List.getElem_toArray, List.getElem_cons_zero, List.getElem_cons_succ, List.setIfInBounds_toArray, List.set_cons_zero, List.set_cons_succ]
    (first | (refine wpS_pass _ rfl (by rfl) ?_; simp only [Act.put, List.getElem_toArray, List.getElem_cons_zero, List.getElem_cons_succ, List.setIfInBounds_toArray, List.set_cons_zero, List.set_cons_succ]) | (refine wpS_take _ ?_ rfl (by rfl) ?_ ?_; rotate_left; (focus (intro w' hS'; (try dsimp only at hS'); (repeat (have hS1 := hS'.1; replace hS' := hS'.2)); go_simp; (try with_reducible rfl); done)); simp only [Act.put, List.getElem_toArray, List.getElem_cons_zero, List.getElem_cons_succ, List.setIfInBounds_toArray, List.set_cons_zero, List.set_cons_succ]))
    refine wpS_done ?_
    rw [HW9.out]
    go_wp2_with fail
    refine bodyPost_ret (results_row_tmp rfl _ _ _ _ _ _ _ rfl R9.out Tryz.underlying28 rfl HITA.out) rfl ?_
    rw [HFT.out]
    refine ⟨Ai, ci, ?_, own_rd HOW9.out, fun a ha => ?_, by first | exact HB9.out | (rw [← HP2.out]; exact HB9.out)⟩
    · rw [← HLT.out, HUL.out]
      rfl
    · have h1 := (HOW9.out.lt a.block (by rw [ha]; rfl)).1
      have := HLAY.out
      have := HB1.out.size
      omega
end Go.Proofs.YtelbofikcpchiaaGreat
