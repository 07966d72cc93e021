
/- Refs: split of any bytes. -/

import Derived.Test.YtelbofikcpchiaaGreatRf29

namespace Go.Proofs.YtelbofikcpchiaaGreat

set_option linter.unusedVariables false

set_option linter.unusedSimpArgs false

set_option linter.unusedSectionVars false

open Go.RowKit

set_option maxRecDepth 100000 in
set_option maxHeartbeats 8000000 in
theorem split_short (A : Option Addr) (n c : Nat) (bs : List UInt8) (hn : n = bs.length) (w : World) (hr : Rd w A (b8s bs)) (hm : bs.length ≤ 140737488355328) (hs : (getFour (getNum (some bs) 1048576).2).2.isSome = true) (hl : leftS (getFour (getNum (some bs) 1048576).2).2 < (getNum (some bs) 1048576).1) :
    Calls Tryz.prog 29 #[.slice A n c] w fun e w' => e = .returned (.tuple #[.agg (txC none 0 0 t0).toArray, .int .i64 0, .bool false]) ∧ Below w.heap.size w w' := by
  obtain ⟨g, hg⟩ : ∃ g, w.heap.size = g := ⟨_, rfl⟩
  obtain ⟨lz, hlz⟩ : ∃ l, txC none 0 0 t0 = l := ⟨_, rfl⟩
  have hlz' : lz.toArray = #[Value.slice none 0 0, Value.string ⟨#[]⟩, Value.int .u8 0, Value.int .u8 0, Value.int .u8 0, Value.int .u8 0, Value.int .u8 0, Value.int .u8 0, Value.int .u8 0, Value.int .u8 0, Value.int .u8 0, Value.int .u8 0, Value.int .u8 0, Value.int .u8 0, Value.int .u8 0, Value.int .u8 0, Value.int .u8 0, Value.int .u8 0, Value.int .u8 0, Value.int .u8 0, Value.int .u8 0, Value.int .u8 0, Value.int .u8 0, Value.int .u8 0, Value.int .u8 0, Value.int .u8 0, Value.int .u8 0, Value.int .u8 0, Value.int .u8 0, Value.int .u8 0, Value.int .u8 0, Value.int .u8 0, Value.int .u8 0, Value.int .u8 0] := by rw [← hlz]; rfl
  obtain ⟨W1, hW1⟩ : ∃ W, w.alloc (.cells #[Value.slice none 0 0, Value.string ⟨#[]⟩, Value.int .u8 0, Value.int .u8 0, Value.int .u8 0, Value.int .u8 0, Value.int .u8 0, Value.int .u8 0, Value.int .u8 0, Value.int .u8 0, Value.int .u8 0, Value.int .u8 0, Value.int .u8 0, Value.int .u8 0, Value.int .u8 0, Value.int .u8 0, Value.int .u8 0, Value.int .u8 0, Value.int .u8 0, Value.int .u8 0, Value.int .u8 0, Value.int .u8 0, Value.int .u8 0, Value.int .u8 0, Value.int .u8 0, Value.int .u8 0, Value.int .u8 0, Value.int .u8 0, Value.int .u8 0, Value.int .u8 0, Value.int .u8 0, Value.int .u8 0, Value.int .u8 0, Value.int .u8 0] 28) = W := ⟨_, rfl⟩
  obtain ⟨r1, b1, s1⟩ := new_row hW1
  rw [hg, ← hlz'] at r1
  have HB1 := Lib.hid b1
  have R1 := Lib.hid r1
  have HIA : Hid ((Tryz.prog.info? 28).map (·.size) = some lz.toArray.size) := Lib.hid (by rw [← hlz]; exact info_txa rfl)
  have HOC : Hid (lz.toArray.all (·.oneCell') = true) := Lib.hid (all_oneCell_toArray (by rw [← hlz]; exact txC_one _ _ _ _))
  have HRD := Lib.hid (read_any A bs n c W1 hn (hr.below b1) hm)
  have HS := Lib.hid hs
  rw [hlz]
  have HLZ := Lib.hid hlz'
  obtain ⟨k, hk⟩ : ∃ k, (getNum (some bs) 1048576).1 = k := ⟨_, rfl⟩
  obtain ⟨lf, hlf⟩ : ∃ l, leftS (getFour (getNum (some bs) 1048576).2).2 = l := ⟨_, rfl⟩
  have HK := Lib.hid hk
  have HLF := Lib.hid hlf
  rw [hk, hlf] at hl
  have z1 : (lf : Int) < (k : Int) := by omega
  clear hlz hlz' r1 b1 s1 hr hs hn hk hlf hl
  go_enter Tryz.func29, Tryz.ntmps29
  go_wp2_with fail
  refine HRD.out.mono ?_
  rintro e w2 ⟨gd, rfl, hge, hb2, hm2⟩
  have HB2 := Lib.hid hb2
  have HM2 := Lib.hid hm2
  have HGE := Lib.hid hge
  clear hge hb2 hm2 hW1
  go_wp2_with fail
  refine (rdnum_any gd _ 1048576 w2 HM2.out).mono ?_
  rintro e w3 ⟨rfl, hm3, hg3⟩
  rw [HK.out]
  have HB3 := Lib.hid (bel_grown HB2.out HB2.out.size hg3 HGE.out)
  have HM3 := Lib.hid hm3
  clear hm3 hg3
  go_wp2_with fail
  refine (rdfour_any gd _ w3 HM3.out).mono ?_
  rintro e w4 ⟨rfl, hm4, hg4⟩
  have HB4 := Lib.hid (bel_grown HB3.out HB3.out.size hg4 HGE.out)
  have HM4 := Lib.hid hm4
  clear hm4 hg4
  go_wp2_with fail
  refine (good_any gd _ w4 HM4.out).mono ?_
  rintro e w5 ⟨rfl, rfl⟩
  rw [HS.out]
  go_wp2_with fail
  refine (left_any gd _ w4 HM4.out).mono ?_
  rintro e w5 ⟨rfl, rfl⟩
  rw [HLF.out]
  have r4 := (HB4.out.block _ (Array.getElem?_eq_some_iff.1 R1.out).1).trans R1.out
  obtain ⟨WB, hWB, TB, RB, GB⟩ := put_rowR (new := lz) r4 rfl
  have HWB := Lib.hid hWB
  have HBB : Hid (Below w.heap.size w WB) := Lib.hid (bel_grown (HB1.out.trans (HB4.out.mono HB1.out.size)) (Nat.le_trans HB1.out.size HB4.out.size) GB.out (by omega))
  clear hWB r4
  go_wp2_with (first
    | (rw [← HLZ.out]; ((with_reducible (refine wpList_store_mid rfl _ _ _ rfl ?_ ?_ ?_ ?_ ?_ ?_ ?_ ?_ ?_)); (exact g); (exact 0); (exact (lz).toArray); (exact rfl); (exact rfl); (exact TB.out); (exact HIA.out); (exact HOC.out); rw [HWB.out])))
  refine bodyPost_ret (results_row_two rfl _ _ _ _ _ _ _ rfl RB.out Tryz.underlying28 rfl HIA.out) rfl ?_
  exact ⟨rfl, by first | exact HBB.out | (rw [← hg]; exact HBB.out)⟩

theorem wrap_nat {a : Nat} (h : a ≤ 9223372036854775807) : wrap64 (a : Int) = (a : Int) := by unfold wrap64; omega
theorem getFour_left (st : St) : leftS (getFour st).2 ≤ leftS st := by
  unfold getFour
  rcases st_cases st 4 with ⟨bs, rfl, h⟩ | h
  · rw [getN_yes h]; simp [leftS]
  · rw [getN_no h]; simp [leftS]
theorem getNum_none {bs : List UInt8} {most : Int} (h : numS most 9 0 0 bs = none) : getNum (some bs) most = (0, none) := by
  simp [getNum, h]
theorem getNum_some {bs r : List UInt8} {n : Nat} {most : Int} (h : numS most 9 0 0 bs = some (n, r)) : getNum (some bs) most = (n, some r) := by
  simp [getNum, h]
theorem getNum_left (bs : List UInt8) (most : Int) : leftS (getNum (some bs) most).2 ≤ bs.length := by
  cases hn : numS most 9 0 0 bs with
  | none => rw [getNum_none hn]; exact Nat.zero_le _
  | some v =>
    obtain ⟨a, b⟩ := v
    have := (numS_le _ _ _ _ _ _ _ hn).2.2
    rw [getNum_some hn]
    show b.length ≤ _
    omega
theorem numS_suff (most : Int) : ∀ (f i acc : Nat) (bs : List UInt8) (n : Nat) (r : List UInt8), numS most f i acc bs = some (n, r) → r = bs.drop (bs.length - r.length)
  | 0, _, _, _, _, _, h => by simp [numS] at h
  | _ + 1, _, _, [], _, _, h => by simp [numS] at h
  | f + 1, i, acc, c :: bs, n, r, h => by
    unfold numS at h
    split at h
    · have h1 := numS_suff most f _ _ bs n r h
      have h2 := (numS_le most f _ _ bs n r h).2.2
      rw [show (c :: bs).length - r.length = (bs.length - r.length) + 1 by simp only [List.length_cons]; omega, List.drop_succ_cons]
      exact h1
    · split at h
      · cases h
      · cases h
        simp
theorem left_suff {bs rest : List UInt8} (h : (getFour (getNum (some bs) 1048576).2).2 = some rest) : rest = bs.drop (bs.length - rest.length) ∧ rest.length ≤ bs.length := by
  have hl : rest.length ≤ bs.length := by
    have h1 := getFour_left (getNum (some bs) 1048576).2
    have h2 := getNum_left bs 1048576
    rw [h] at h1
    have h3 : leftS (some rest) = rest.length := rfl
    omega
  refine ⟨?_, hl⟩
  cases hn : numS 1048576 9 0 0 bs with
  | none =>
    rw [getNum_none hn] at h
    simp [getFour, getN] at h
  | some v =>
    obtain ⟨a, b⟩ := v
    rw [getNum_some hn] at h
    have h1 := numS_suff _ _ _ _ _ _ _ hn
    have h2 := (numS_le _ _ _ _ _ _ _ hn).2.2
    simp only [getFour] at h
    rcases st_cases (some b) 4 with ⟨b', hb', h4⟩ | h4
    · cases hb'
      rw [getN_yes h4] at h
      simp only [Option.some.injEq] at h
      have h5 : rest.length = b.length - 4 := by rw [← h, List.length_drop]
      rw [← h, h1, List.drop_drop]
      congr 1
      rw [List.length_drop]
      omega
    · rw [getN_no h4] at h
      simp at h

set_option maxRecDepth 100000 in
set_option maxHeartbeats 8000000 in
theorem split_full (A : Option Addr) (n c : Nat) (bs rest : List UInt8) (hn : n = bs.length) (hnc : n ≤ c) (w : World) (hr : Rd w A (b8s bs)) (hm : bs.length ≤ 1099511627776) (hs : (getFour (getNum (some bs) 1048576).2).2 = some rest) (hl : ¬ rest.length < (getNum (some bs) 1048576).1) :
    Calls Tryz.prog 29 #[.slice A n c] w fun e w' => ∃ Ai ci, e = .returned (.tuple #[.agg (txC Ai (splitP bs).1.us.length ci (splitP bs).1).toArray, .int .i64 ((splitP bs).2.1 : Int), .bool (splitP bs).2.2]) ∧ Rd w' Ai (upsC (splitP bs).1.us) ∧ (∀ a, Ai = some a → w.heap.size ≤ a.block) ∧ Below w.heap.size w w' := by
  obtain ⟨g, hg⟩ : ∃ g, w.heap.size = g := ⟨_, rfl⟩
  obtain ⟨lz, hlz⟩ : ∃ l, txC none 0 0 t0 = l := ⟨_, rfl⟩
  have hlz' : lz.toArray = #[Value.slice none 0 0, Value.string ⟨#[]⟩, Value.int .u8 0, Value.int .u8 0, Value.int .u8 0, Value.int .u8 0, Value.int .u8 0, Value.int .u8 0, Value.int .u8 0, Value.int .u8 0, Value.int .u8 0, Value.int .u8 0, Value.int .u8 0, Value.int .u8 0, Value.int .u8 0, Value.int .u8 0, Value.int .u8 0, Value.int .u8 0, Value.int .u8 0, Value.int .u8 0, Value.int .u8 0, Value.int .u8 0, Value.int .u8 0, Value.int .u8 0, Value.int .u8 0, Value.int .u8 0, Value.int .u8 0, Value.int .u8 0, Value.int .u8 0, Value.int .u8 0, Value.int .u8 0, Value.int .u8 0, Value.int .u8 0, Value.int .u8 0] := by rw [← hlz]; rfl
  obtain ⟨W1, hW1⟩ : ∃ W, w.alloc (.cells #[Value.slice none 0 0, Value.string ⟨#[]⟩, Value.int .u8 0, Value.int .u8 0, Value.int .u8 0, Value.int .u8 0, Value.int .u8 0, Value.int .u8 0, Value.int .u8 0, Value.int .u8 0, Value.int .u8 0, Value.int .u8 0, Value.int .u8 0, Value.int .u8 0, Value.int .u8 0, Value.int .u8 0, Value.int .u8 0, Value.int .u8 0, Value.int .u8 0, Value.int .u8 0, Value.int .u8 0, Value.int .u8 0, Value.int .u8 0, Value.int .u8 0, Value.int .u8 0, Value.int .u8 0, Value.int .u8 0, Value.int .u8 0, Value.int .u8 0, Value.int .u8 0, Value.int .u8 0, Value.int .u8 0, Value.int .u8 0, Value.int .u8 0] 28) = W := ⟨_, rfl⟩
  obtain ⟨r1, b1, s1⟩ := new_row hW1
  rw [hg, ← hlz'] at r1
  have HB1 := Lib.hid b1
  have R1 := Lib.hid r1
  have HG := Lib.hid hg
  have HLZ := Lib.hid hlz'
  have HLZL : Hid (lz.length = 34) := Lib.hid (by rw [← hlz]; exact txC_len rfl)
  have HRD := Lib.hid (read_any A bs n c W1 hn (hr.below b1) (by omega))
  have HS := Lib.hid hs
  obtain ⟨hsuf, hrl⟩ := left_suff hs
  obtain ⟨k, hk⟩ : ∃ k, (getNum (some bs) 1048576).1 = k := ⟨_, rfl⟩
  obtain ⟨sm, hsm⟩ : ∃ k, (getFour (getNum (some bs) 1048576).2).1 = k := ⟨_, rfl⟩
  obtain ⟨lf, hlf⟩ : ∃ l, rest.length = l := ⟨_, rfl⟩
  obtain ⟨at_, hat⟩ : ∃ x, n - lf = x := ⟨_, rfl⟩
  have HK := Lib.hid hk
  have HSM := Lib.hid hsm
  have HLF : Hid (leftS (some rest) = lf) := Lib.hid hlf
  rw [hk, hlf] at hl
  have z1 : ¬ (lf : Int) < (k : Int) := by omega
  have hlfn : lf ≤ n := by omega
  have hpr : rest.take k = (bs.drop at_).take k := by rw [hsuf, hlf, ← hat, hn]
  have hkb : at_ + k ≤ n := by omega
  obtain ⟨p, hp⟩ : ∃ p, rest.take k = p := ⟨_, rfl⟩
  have hpl : p.length = k := by rw [← hp, List.length_take, hlf]; omega
  have HSP : Hid (splitP bs = ((parseT p).1, at_ + k, (parseT p).2 && decide ((crc p).toNat = sm))) := Lib.hid (by
    unfold splitP
    simp only [hk, hs, hsm]
    rw [if_neg (by rw [hlf]; exact hl), hp]
    simp only [Prod.mk.injEq, true_and, and_true]
    rw [hlf, ← hat, hn])
  have hrp : ∀ W, Below w.heap.size w W → Rd W (if c = at_ then A else A.map (·.add at_)) (b8s p) := fun W hb => by
    have h1 := Rd.take ((Rd.drop (k := at_) (size := 1) (cap := c) (hr.below hb) (by rw [b8s_length]; omega))) k
    rw [Nat.mul_one] at h1
    rw [← hp, hpr]
    have e : b8s ((bs.drop at_).take k) = ((b8s bs).drop at_).take k := by simp [b8s, List.map_take, List.map_drop]
    rw [e]
    exact h1
  have HRP := Lib.hid hrp
  have HPL := Lib.hid hpl
  have hat1 : (n : Int) - (lf : Int) = (at_ : Int) := by omega
  have hat2 : IntKind.i64.wrap ((n : Int) - (lf : Int)) = (at_ : Int) := by rw [IntKind.wrap_i64]; omega
  have hkb0 : at_ ≤ 1099511627776 := by omega
  have hkb1' : at_ + k ≤ 1099511627776 := by omega
  obtain ⟨hi_, hhi⟩ : ∃ x, at_ + k = x := ⟨_, rfl⟩
  have hkb1 : hi_ ≤ 1099511627776 := by rw [← hhi]; exact hkb1'
  have hw5 : wrap64 (at_ : Int) = (at_ : Int) := wrap_nat (Nat.le_trans hkb0 (by decide))
  have hat3 : (at_ : Int) + (k : Int) = (hi_ : Int) := by rw [← hhi]; exact (Int.natCast_add at_ k).symm
  have hw6 : wrap64 (hi_ : Int) = (hi_ : Int) := wrap_nat (Nat.le_trans hkb1 (by decide))
  have hat5 : hi_ - at_ = k := by rw [← hhi]; exact Nat.add_sub_cancel_left _ _
  have hat6 : at_ ≤ hi_ := by rw [← hhi]; exact Nat.le_add_right _ _
  have hat7 : hi_ ≤ c := by rw [← hhi]; exact Nat.le_trans hkb hnc
  rw [hhi] at HSP hkb
  clear hhi hkb1'
  clear hlz hlz' r1 b1 s1 hr hs hn hk hsm hlf hl hat hpr hp hpl hrp hsuf hrl
  go_enter Tryz.func29, Tryz.ntmps29
  go_wp2_with fail
  refine HRD.out.mono ?_
  rintro e w2 ⟨gd, rfl, hge, hb2, hm2⟩
  have HB2 := Lib.hid hb2
  have HM2 := Lib.hid hm2
  have HGE := Lib.hid hge
  clear hge hb2 hm2 hW1
  go_wp2_with fail
  refine (rdnum_any gd _ 1048576 w2 HM2.out).mono ?_
  rintro e w3 ⟨rfl, hm3, hg3⟩
  rw [HK.out]
  have HB3 := Lib.hid (bel_grown HB2.out HB2.out.size hg3 HGE.out)
  have HM3 := Lib.hid hm3
  clear hm3 hg3
  go_wp2_with fail
  refine (rdfour_any gd _ w3 HM3.out).mono ?_
  rintro e w4 ⟨rfl, hm4, hg4⟩
  rw [HSM.out]
  rw [HS.out] at hm4
  have HB4 := Lib.hid (bel_grown HB3.out HB3.out.size hg4 HGE.out)
  have HM4 := Lib.hid hm4
  clear hm4 hg4
  go_wp2_with fail
  refine (good_any gd _ w4 HM4.out).mono ?_
  rintro e w5 ⟨rfl, rfl⟩
  rw [show (some rest).isSome = true from rfl]
  go_wp2_with fail
  refine (left_any gd _ w4 HM4.out).mono ?_
  rintro e w5 ⟨rfl, rfl⟩
  rw [HLF.out]
  clear hw5 hw6
  go_wp2_with fail
  refine (left_any gd _ w4 HM4.out).mono ?_
  rintro e w5 ⟨rfl, rfl⟩
  rw [HLF.out]
  have HRQ : Hid (Rd w4 (if c = at_ then A else A.map (·.add at_)) (b8s p)) := Lib.hid (HRP.out w4 (HB1.out.trans (HB4.out.mono HB1.out.size)))
  by_cases hcn : c = at_
  · go_wp2_with fail
    rw [if_pos hcn] at HRQ
    refine (rturn_any _ _ _ p (by rw [HPL.out]) w4 HRQ.out (by rw [HPL.out]; omega)).mono ?_
    rintro e w6 ⟨Ai, ci, rfl, hrd6, hfr6, hb6⟩
    obtain ⟨T, hT⟩ : ∃ T, (parseT p).1 = T := ⟨_, rfl⟩
    obtain ⟨ok, hok⟩ : ∃ T, (parseT p).2 = T := ⟨_, rfl⟩
    have HTOK : Hid (TxOk T) := Lib.hid (by rw [← hT]; exact (parse_ok p).1)
    have HSQ : Hid (splitP bs = (T, hi_, ok && decide ((crc p).toNat = sm))) := Lib.hid (by rw [HSP.out, hT, hok])
    rw [hT] at hrd6
    rw [hT, hok]
    have HRD6 := Lib.hid hrd6
    have HFR6 : Hid (∀ a, Ai = some a → w.heap.size ≤ a.block) := Lib.hid (fun a ha => by
      have h1 := hfr6 a ha
      have h2 := HB4.out.size
      have h3 := HB1.out.size
      omega)
    have HFR6X : Hid (∀ a, Ai = some a → g < a.block) := Lib.hid (fun a ha => by
      have h1 := hfr6 a ha
      have h2 := HB4.out.size
      have h3 := (Array.getElem?_eq_some_iff.1 R1.out).1
      omega)
    have HB6 : Hid (Below w.heap.size w w6) := Lib.hid ((HB1.out.trans (HB4.out.mono HB1.out.size)).trans (hb6.mono (Nat.le_trans HB1.out.size HB4.out.size)))
    have HR6 : Hid (w6.heap[g]? = some (.cells lz.toArray 28 (0, 0))) := Lib.hid ((hb6.block _ (by
      have := (Array.getElem?_eq_some_iff.1 R1.out).1
      have := HB4.out.size
      omega)).trans ((HB4.out.block _ (Array.getElem?_eq_some_iff.1 R1.out).1).trans R1.out))
    have HRQ6 := Lib.hid (HRQ.out.below hb6)
    clear hT hok hrd6 hfr6 hb6
    obtain ⟨p10, hp10⟩ : ∃ x, w6.heap.size = x := ⟨_, rfl⟩
    obtain ⟨W7, hW7⟩ : ∃ W, w6.alloc (.cells #[Value.slice none 0 0, Value.string ⟨#[]⟩, Value.int .u8 0, Value.int .u8 0, Value.int .u8 0, Value.int .u8 0, Value.int .u8 0, Value.int .u8 0, Value.int .u8 0, Value.int .u8 0, Value.int .u8 0, Value.int .u8 0, Value.int .u8 0, Value.int .u8 0, Value.int .u8 0, Value.int .u8 0, Value.int .u8 0, Value.int .u8 0, Value.int .u8 0, Value.int .u8 0, Value.int .u8 0, Value.int .u8 0, Value.int .u8 0, Value.int .u8 0, Value.int .u8 0, Value.int .u8 0, Value.int .u8 0, Value.int .u8 0, Value.int .u8 0, Value.int .u8 0, Value.int .u8 0, Value.int .u8 0, Value.int .u8 0, Value.int .u8 0] 28) = W := ⟨_, rfl⟩
    obtain ⟨r7, b7, s7⟩ := new_row hW7
    rw [hp10, ← HLZ.out] at r7
    have hll : (txC Ai T.us.length ci T).length = 34 := txC_len HTOK.out.al
    obtain ⟨W8, hW8, T8, R8, G8⟩ := put_rowR (new := txC Ai T.us.length ci T) r7 (by rw [hll, HLZL.out])
    have b8 : Below w6.heap.size w6 W8 := bel_grown b7 b7.size G8.out (by omega)
    have HB8 : Hid (Below w.heap.size w W8) := Lib.hid (HB6.out.trans (b8.mono HB6.out.size))
    have HR8 : Hid (W8.heap[g]? = some (.cells lz.toArray 28 (0, 0))) := Lib.hid ((b8.block _ (Array.getElem?_eq_some_iff.1 HR6.out).1).trans HR6.out)
    have HRQ8 : Hid (Rd W8.drew A (b8s p)) := Lib.hid ((HRQ6.out.below b8).drew)
    have HRD8 := Lib.hid (HRD6.out.below b8)
    have HRG8 := Lib.hid (range_of_row R8.out)
    have HIL := Lib.hid (info_txl (A := Ai) (n := T.us.length) (c := ci) HTOK.out.al)
    have HIA := Lib.hid (info_txa (A := Ai) (n := T.us.length) (c := ci) HTOK.out.al)
    have HOC : Hid ((txC Ai T.us.length ci T).toArray.all (·.oneCell') = true) := Lib.hid (all_oneCell_toArray (txC_one _ _ _ _))
    have h8d : W8.drew.heap[g]? = some (.cells lz.toArray 28 (0, 0)) := HR8.out
    obtain ⟨W9, hW9, T9, R9, G9⟩ := put_rowR (new := txC Ai T.us.length ci T) h8d (by rw [hll, HLZL.out])
    have HB9 : Hid (Below w.heap.size w W9) := Lib.hid (bel_grown HB8.out.drew HB8.out.drew.size G9.out (by rw [← HG.out]; exact Nat.le_refl _))
    have HRD9 : Hid (Rd W9 Ai (upsC T.us)) := Lib.hid (HRD8.out.keep fun ad hA hlt => G9.out.block _ hlt (fun e => by
      have h1 := Option.some.inj e
      have h2 := HFR6X.out ad hA
      omega))
    have HNG : Hid (p10 ≠ g) := Lib.hid (by have := (Array.getElem?_eq_some_iff.1 HR6.out).1; omega)
    have HRG9 : Hid (W9.rangeAt p10 0 (txC Ai T.us.length ci T)) := Lib.hid (range_of_row ((G9.out.block _ (Array.getElem?_eq_some_iff.1 R8.out).1 (fun e => HNG.out (Option.some.inj e))).trans R8.out))
    have HW8 := Lib.hid hW8
    have HW9 := Lib.hid hW9
    have HT8 := Lib.hid T8.out
    have HT9 := Lib.hid T9.out
    have HSUM := Lib.hid (sum_any _ p 0 W8.drew HRQ8.out (by unfold maxLen; rw [HPL.out]; omega))
    rw [HPL.out] at HSUM
    obtain ⟨lt, hlt_⟩ : ∃ l, txC Ai T.us.length ci T = l := ⟨_, rfl⟩
    have HLT := Lib.hid hlt_
    rw [hlt_] at HIL HIA HOC HRG8 HRG9 HW8 HW9 HT8 HT9 R9 ⊢
    have hadd : ∀ W : World, (binOp .add 3 (.int .i64 (at_ : Int)) (.int .i64 (k : Int))).run Tryz.prog W = .ok (.int .i64 (hi_ : Int)) W := fun W => bin_add _ _ _ _ hat3 (by omega) (by omega)
    clear hat1 hat2 hat5 hat6 hat7 r7 b7 s7 hll hW8 T8 R8 G8 b8 h8d hW9 T9 G9 hlt_
    go_wp2_with ((with_reducible (refine wpList_store_mid rfl _ _ _ rfl ?_ ?_ ?_ ?_ ?_ ?_ ?_ ?_ ?_)); (exact p10); (exact 0); (exact (lt).toArray); (exact rfl); (exact rfl); (exact HT8.out); (exact HIA.out); (exact HOC.out); rw [HW8.out])
    clear hp10 hW7
    cases ok with
    | false =>
      refine wp_region_sched (fun w' => w'.rangeAt p10 0 lt) [(true, 0), (true, 1), (true, 2), (true, 3), (true, 4), (true, 5), (true, 6), (true, 8), (false, 7), (true, 9), (true, 10), (false, 11), (true, 12), (true, 13)] (by kernel_rfl) (by kernel_rfl) rfl (by kernel_rfl) HRG8.out ?_
      refine wpS_load _ rfl (by rfl) 28 _ rfl p10 0 rfl lt _ (fun w' hS => hS) Tryz.underlying28 rfl HIL.out ?_
      simp only [Act.put, List.getElem_toArray, List.getElem_cons_zero, List.getElem_cons_succ, List.setIfInBounds_toArray, List.set_cons_zero, List.set_cons_succ]
      (first | (refine wpS_pass _ rfl (by rfl) ?_; simp only [Act.put, List.getElem_toArray, List.getElem_cons_zero, List.getElem_cons_succ, List.setIfInBounds_toArray, List.set_cons_zero, List.set_cons_succ]) | (refine wpS_take _ ?_ rfl (by rfl) ?_ ?_; rotate_left; (focus (intro w' hS'; (try dsimp only at hS'); (repeat (have hS1 := hS'.1; replace hS' := hS'.2)); go_simp; (try with_reducible rfl); done)); simp only [Act.put, List.getElem_toArray, List.getElem_cons_zero, List.getElem_cons_succ, List.setIfInBounds_toArray, List.set_cons_zero, List.set_cons_succ]))
      (first | (refine wpS_pass _ rfl (by rfl) ?_; simp only [Act.put, List.getElem_toArray, List.getElem_cons_zero, List.getElem_cons_succ, List.setIfInBounds_toArray, List.set_cons_zero, List.set_cons_succ]) | (refine wpS_take _ ?_ rfl (by rfl) ?_ ?_; rotate_left; (focus (intro w' hS'; (try dsimp only at hS'); (repeat (have hS1 := hS'.1; replace hS' := hS'.2)); go_simp; (try with_reducible rfl); done)); simp only [Act.put, List.getElem_toArray, List.getElem_cons_zero, List.getElem_cons_succ, List.setIfInBounds_toArray, List.set_cons_zero, List.set_cons_succ]))
      refine wpS_take _ _ rfl (by rfl) (fun w' hS' => exec_bin _ _ _ _ _ rfl _ _ _ rfl rfl rfl (hadd w')) ?_
      simp only [Act.put, List.getElem_toArray, List.getElem_cons_zero, List.getElem_cons_succ, List.setIfInBounds_toArray, List.set_cons_zero, List.set_cons_succ]
      (repeat (first | (refine wpS_pass _ rfl (by rfl) ?_; simp only [Act.put, List.getElem_toArray, List.getElem_cons_zero, List.getElem_cons_succ, List.setIfInBounds_toArray, List.set_cons_zero, List.set_cons_succ]) | (refine wpS_take _ ?_ rfl (by rfl) ?_ ?_; rotate_left; (focus (intro w' hS'; (try dsimp only at hS'); (repeat (have hS1 := hS'.1; replace hS' := hS'.2)); go_simp; (try with_reducible rfl); done)); simp only [Act.put, List.getElem_toArray, List.getElem_cons_zero, List.getElem_cons_succ, List.setIfInBounds_toArray, List.set_cons_zero, List.set_cons_succ])))
      refine wpS_skip _ rfl (by rfl) HRG8.out ?_
      simp only [Act.put, List.getElem_toArray, List.getElem_cons_zero, List.getElem_cons_succ, List.setIfInBounds_toArray, List.set_cons_zero, List.set_cons_succ]
      (repeat (first | (refine wpS_pass _ rfl (by rfl) ?_; simp only [Act.put, List.getElem_toArray, List.getElem_cons_zero, List.getElem_cons_succ, List.setIfInBounds_toArray, List.set_cons_zero, List.set_cons_succ]) | (refine wpS_take _ ?_ rfl (by rfl) ?_ ?_; rotate_left; (focus (intro w' hS'; (try dsimp only at hS'); (repeat (have hS1 := hS'.1; replace hS' := hS'.2)); go_simp; (try with_reducible rfl); done)); simp only [Act.put, List.getElem_toArray, List.getElem_cons_zero, List.getElem_cons_succ, List.setIfInBounds_toArray, List.set_cons_zero, List.set_cons_succ])))
      refine wpS_store_mid _ rfl (by rfl) 28 _ _ rfl g 0 lt.toArray rfl rfl HT9.out HIA.out HOC.out ?_ ?_
      · rw [HW9.out]
        exact HRG9.out
      simp only [Act.put, List.getElem_toArray, List.getElem_cons_zero, List.getElem_cons_succ, List.setIfInBounds_toArray, List.set_cons_zero, List.set_cons_succ]
      (repeat (first | (refine wpS_pass _ rfl (by rfl) ?_; simp only [Act.put, List.getElem_toArray, List.getElem_cons_zero, List.getElem_cons_succ, List.setIfInBounds_toArray, List.set_cons_zero, List.set_cons_succ]) | (refine wpS_take _ ?_ rfl (by rfl) ?_ ?_; rotate_left; (focus (intro w' hS'; (try dsimp only at hS'); (repeat (have hS1 := hS'.1; replace hS' := hS'.2)); go_simp; (try with_reducible rfl); done)); simp only [Act.put, List.getElem_toArray, List.getElem_cons_zero, List.getElem_cons_succ, List.setIfInBounds_toArray, List.set_cons_zero, List.set_cons_succ])))
      refine wpS_done ?_
      rw [HW9.out]
      go_wp2_with fail
      refine bodyPost_ret (results_row_two rfl _ _ _ _ _ _ _ rfl R9.out Tryz.underlying28 rfl HIA.out) rfl ?_
      rw [HSQ.out]
      exact ⟨Ai, ci, by rw [← HLT.out]; rfl, HRD9.out, HFR6.out, HB9.out⟩
    | true =>
      obtain ⟨cr, hcr⟩ : ∃ x, (crc p).toNat = x := ⟨_, rfl⟩
      have HCR := Lib.hid hcr
      rw [hcr] at HSUM
      by_cases hcs : cr = sm
      · have z5 : ((cr : Int) == (sm : Int)) = true := by rw [beq_iff_eq]; omega
        clear hcr
        refine wp_region_sched (fun w' => w'.rangeAt p10 0 lt) [(true, 0), (true, 1), (true, 2), (true, 3), (true, 4), (true, 5), (true, 6), (true, 8), (false, 7), (true, 9), (true, 10), (false, 11), (true, 12), (true, 13)] (by kernel_rfl) (by kernel_rfl) rfl (by kernel_rfl) HRG8.out ?_
        refine wpS_load _ rfl (by rfl) 28 _ rfl p10 0 rfl lt _ (fun w' hS => hS) Tryz.underlying28 rfl HIL.out ?_
        simp only [Act.put, List.getElem_toArray, List.getElem_cons_zero, List.getElem_cons_succ, List.setIfInBounds_toArray, List.set_cons_zero, List.set_cons_succ]
        (first | (refine wpS_pass _ rfl (by rfl) ?_; simp only [Act.put, List.getElem_toArray, List.getElem_cons_zero, List.getElem_cons_succ, List.setIfInBounds_toArray, List.set_cons_zero, List.set_cons_succ]) | (refine wpS_take _ ?_ rfl (by rfl) ?_ ?_; rotate_left; (focus (intro w' hS'; (try dsimp only at hS'); (repeat (have hS1 := hS'.1; replace hS' := hS'.2)); go_simp; (try with_reducible rfl); done)); simp only [Act.put, List.getElem_toArray, List.getElem_cons_zero, List.getElem_cons_succ, List.setIfInBounds_toArray, List.set_cons_zero, List.set_cons_succ]))
        (first | (refine wpS_pass _ rfl (by rfl) ?_; simp only [Act.put, List.getElem_toArray, List.getElem_cons_zero, List.getElem_cons_succ, List.setIfInBounds_toArray, List.set_cons_zero, List.set_cons_succ]) | (refine wpS_take _ ?_ rfl (by rfl) ?_ ?_; rotate_left; (focus (intro w' hS'; (try dsimp only at hS'); (repeat (have hS1 := hS'.1; replace hS' := hS'.2)); go_simp; (try with_reducible rfl); done)); simp only [Act.put, List.getElem_toArray, List.getElem_cons_zero, List.getElem_cons_succ, List.setIfInBounds_toArray, List.set_cons_zero, List.set_cons_succ]))
        refine wpS_take _ _ rfl (by rfl) (fun w' hS' => exec_bin _ _ _ _ _ rfl _ _ _ rfl rfl rfl (hadd w')) ?_
        simp only [Act.put, List.getElem_toArray, List.getElem_cons_zero, List.getElem_cons_succ, List.setIfInBounds_toArray, List.set_cons_zero, List.set_cons_succ]
        (repeat (first | (refine wpS_pass _ rfl (by rfl) ?_; simp only [Act.put, List.getElem_toArray, List.getElem_cons_zero, List.getElem_cons_succ, List.setIfInBounds_toArray, List.set_cons_zero, List.set_cons_succ]) | (refine wpS_take _ ?_ rfl (by rfl) ?_ ?_; rotate_left; (focus (intro w' hS'; (try dsimp only at hS'); (repeat (have hS1 := hS'.1; replace hS' := hS'.2)); go_simp; (try with_reducible rfl); done)); simp only [Act.put, List.getElem_toArray, List.getElem_cons_zero, List.getElem_cons_succ, List.setIfInBounds_toArray, List.set_cons_zero, List.set_cons_succ])))
        refine wpS_do _ rfl (by rfl) (fun KK hKK => ?_)
        go_simp
        refine HSUM.out.mono ?_
        rintro e w9 ⟨rfl, rfl⟩
        refine hKK.out _ _ HRG8.out (fun hS => ?_)
        clear hKK hS
        (repeat (first | (refine wpS_pass _ rfl (by rfl) ?_; simp only [Act.put, List.getElem_toArray, List.getElem_cons_zero, List.getElem_cons_succ, List.setIfInBounds_toArray, List.set_cons_zero, List.set_cons_succ]) | (refine wpS_take _ ?_ rfl (by rfl) ?_ ?_; rotate_left; (focus (intro w' hS'; (try dsimp only at hS'); (repeat (have hS1 := hS'.1; replace hS' := hS'.2)); go_simp; (try with_reducible rfl); done)); simp only [Act.put, List.getElem_toArray, List.getElem_cons_zero, List.getElem_cons_succ, List.setIfInBounds_toArray, List.set_cons_zero, List.set_cons_succ])))
        refine wpS_store_mid _ rfl (by rfl) 28 _ _ rfl g 0 lt.toArray rfl rfl HT9.out HIA.out HOC.out ?_ ?_
        · rw [HW9.out]
          exact HRG9.out
        simp only [Act.put, List.getElem_toArray, List.getElem_cons_zero, List.getElem_cons_succ, List.setIfInBounds_toArray, List.set_cons_zero, List.set_cons_succ]
        (repeat (first | (refine wpS_pass _ rfl (by rfl) ?_; simp only [Act.put, List.getElem_toArray, List.getElem_cons_zero, List.getElem_cons_succ, List.setIfInBounds_toArray, List.set_cons_zero, List.set_cons_succ]) | (refine wpS_take _ ?_ rfl (by rfl) ?_ ?_; rotate_left; (focus (intro w' hS'; (try dsimp only at hS'); (repeat (have hS1 := hS'.1; replace hS' := hS'.2)); go_simp; (try with_reducible rfl); done)); simp only [Act.put, List.getElem_toArray, List.getElem_cons_zero, List.getElem_cons_succ, List.setIfInBounds_toArray, List.set_cons_zero, List.set_cons_succ])))
        refine wpS_done ?_
        rw [HW9.out]
        go_wp2_with fail
        refine bodyPost_ret (results_row_two rfl _ _ _ _ _ _ _ rfl R9.out Tryz.underlying28 rfl HIA.out) rfl ?_
        rw [HSQ.out]
        exact ⟨Ai, ci, by rw [← HLT.out]; rw [HCR.out, decide_eq_true hcs]; rfl, HRD9.out, HFR6.out, HB9.out⟩
      · have z5 : ((cr : Int) == (sm : Int)) = false := by rw [beq_eq_false_iff_ne]; omega
        have z6 : ¬ (cr : Int) = (sm : Int) := by omega
        clear hcr
        refine wp_region_sched (fun w' => w'.rangeAt p10 0 lt) [(true, 0), (true, 1), (true, 2), (true, 3), (true, 4), (true, 5), (true, 6), (true, 8), (false, 7), (true, 9), (true, 10), (false, 11), (true, 12), (true, 13)] (by kernel_rfl) (by kernel_rfl) rfl (by kernel_rfl) HRG8.out ?_
        refine wpS_load _ rfl (by rfl) 28 _ rfl p10 0 rfl lt _ (fun w' hS => hS) Tryz.underlying28 rfl HIL.out ?_
        simp only [Act.put, List.getElem_toArray, List.getElem_cons_zero, List.getElem_cons_succ, List.setIfInBounds_toArray, List.set_cons_zero, List.set_cons_succ]
        (first | (refine wpS_pass _ rfl (by rfl) ?_; simp only [Act.put, List.getElem_toArray, List.getElem_cons_zero, List.getElem_cons_succ, List.setIfInBounds_toArray, List.set_cons_zero, List.set_cons_succ]) | (refine wpS_take _ ?_ rfl (by rfl) ?_ ?_; rotate_left; (focus (intro w' hS'; (try dsimp only at hS'); (repeat (have hS1 := hS'.1; replace hS' := hS'.2)); go_simp; (try with_reducible rfl); done)); simp only [Act.put, List.getElem_toArray, List.getElem_cons_zero, List.getElem_cons_succ, List.setIfInBounds_toArray, List.set_cons_zero, List.set_cons_succ]))
        (first | (refine wpS_pass _ rfl (by rfl) ?_; simp only [Act.put, List.getElem_toArray, List.getElem_cons_zero, List.getElem_cons_succ, List.setIfInBounds_toArray, List.set_cons_zero, List.set_cons_succ]) | (refine wpS_take _ ?_ rfl (by rfl) ?_ ?_; rotate_left; (focus (intro w' hS'; (try dsimp only at hS'); (repeat (have hS1 := hS'.1; replace hS' := hS'.2)); go_simp; (try with_reducible rfl); done)); simp only [Act.put, List.getElem_toArray, List.getElem_cons_zero, List.getElem_cons_succ, List.setIfInBounds_toArray, List.set_cons_zero, List.set_cons_succ]))
        refine wpS_take _ _ rfl (by rfl) (fun w' hS' => exec_bin _ _ _ _ _ rfl _ _ _ rfl rfl rfl (hadd w')) ?_
        simp only [Act.put, List.getElem_toArray, List.getElem_cons_zero, List.getElem_cons_succ, List.setIfInBounds_toArray, List.set_cons_zero, List.set_cons_succ]
        (repeat (first | (refine wpS_pass _ rfl (by rfl) ?_; simp only [Act.put, List.getElem_toArray, List.getElem_cons_zero, List.getElem_cons_succ, List.setIfInBounds_toArray, List.set_cons_zero, List.set_cons_succ]) | (refine wpS_take _ ?_ rfl (by rfl) ?_ ?_; rotate_left; (focus (intro w' hS'; (try dsimp only at hS'); (repeat (have hS1 := hS'.1; replace hS' := hS'.2)); go_simp; (try with_reducible rfl); done)); simp only [Act.put, List.getElem_toArray, List.getElem_cons_zero, List.getElem_cons_succ, List.setIfInBounds_toArray, List.set_cons_zero, List.set_cons_succ])))
        refine wpS_do _ rfl (by rfl) (fun KK hKK => ?_)
        go_simp
        refine HSUM.out.mono ?_
        rintro e w9 ⟨rfl, rfl⟩
        refine hKK.out _ _ HRG8.out (fun hS => ?_)
        clear hKK hS
        (repeat (first | (refine wpS_pass _ rfl (by rfl) ?_; simp only [Act.put, List.getElem_toArray, List.getElem_cons_zero, List.getElem_cons_succ, List.setIfInBounds_toArray, List.set_cons_zero, List.set_cons_succ]) | (refine wpS_take _ ?_ rfl (by rfl) ?_ ?_; rotate_left; (focus (intro w' hS'; (try dsimp only at hS'); (repeat (have hS1 := hS'.1; replace hS' := hS'.2)); go_simp; (try with_reducible rfl); done)); simp only [Act.put, List.getElem_toArray, List.getElem_cons_zero, List.getElem_cons_succ, List.setIfInBounds_toArray, List.set_cons_zero, List.set_cons_succ])))
        refine wpS_store_mid _ rfl (by rfl) 28 _ _ rfl g 0 lt.toArray rfl rfl HT9.out HIA.out HOC.out ?_ ?_
        · rw [HW9.out]
          exact HRG9.out
        simp only [Act.put, List.getElem_toArray, List.getElem_cons_zero, List.getElem_cons_succ, List.setIfInBounds_toArray, List.set_cons_zero, List.set_cons_succ]
        (repeat (first | (refine wpS_pass _ rfl (by rfl) ?_; simp only [Act.put, List.getElem_toArray, List.getElem_cons_zero, List.getElem_cons_succ, List.setIfInBounds_toArray, List.set_cons_zero, List.set_cons_succ]) | (refine wpS_take _ ?_ rfl (by rfl) ?_ ?_; rotate_left; (focus (intro w' hS'; (try dsimp only at hS'); (repeat (have hS1 := hS'.1; replace hS' := hS'.2)); go_simp; (try with_reducible rfl); done)); simp only [Act.put, List.getElem_toArray, List.getElem_cons_zero, List.getElem_cons_succ, List.setIfInBounds_toArray, List.set_cons_zero, List.set_cons_succ])))
        refine wpS_done ?_
        rw [HW9.out]
        go_wp2_with fail
        refine bodyPost_ret (results_row_two rfl _ _ _ _ _ _ _ rfl R9.out Tryz.underlying28 rfl HIA.out) rfl ?_
        rw [HSQ.out]
        exact ⟨Ai, ci, by rw [← HLT.out]; rw [HCR.out, decide_eq_false hcs]; rfl, HRD9.out, HFR6.out, HB9.out⟩
  · go_wp2_with fail
    rw [if_neg hcn] at HRQ
    refine (rturn_any _ _ _ p (by rw [HPL.out]) w4 HRQ.out (by rw [HPL.out]; omega)).mono ?_
    rintro e w6 ⟨Ai, ci, rfl, hrd6, hfr6, hb6⟩
    obtain ⟨T, hT⟩ : ∃ T, (parseT p).1 = T := ⟨_, rfl⟩
    obtain ⟨ok, hok⟩ : ∃ T, (parseT p).2 = T := ⟨_, rfl⟩
    have HTOK : Hid (TxOk T) := Lib.hid (by rw [← hT]; exact (parse_ok p).1)
    have HSQ : Hid (splitP bs = (T, hi_, ok && decide ((crc p).toNat = sm))) := Lib.hid (by rw [HSP.out, hT, hok])
    rw [hT] at hrd6
    rw [hT, hok]
    have HRD6 := Lib.hid hrd6
    have HFR6 : Hid (∀ a, Ai = some a → w.heap.size ≤ a.block) := Lib.hid (fun a ha => by
      have h1 := hfr6 a ha
      have h2 := HB4.out.size
      have h3 := HB1.out.size
      omega)
    have HFR6X : Hid (∀ a, Ai = some a → g < a.block) := Lib.hid (fun a ha => by
      have h1 := hfr6 a ha
      have h2 := HB4.out.size
      have h3 := (Array.getElem?_eq_some_iff.1 R1.out).1
      omega)
    have HB6 : Hid (Below w.heap.size w w6) := Lib.hid ((HB1.out.trans (HB4.out.mono HB1.out.size)).trans (hb6.mono (Nat.le_trans HB1.out.size HB4.out.size)))
    have HR6 : Hid (w6.heap[g]? = some (.cells lz.toArray 28 (0, 0))) := Lib.hid ((hb6.block _ (by
      have := (Array.getElem?_eq_some_iff.1 R1.out).1
      have := HB4.out.size
      omega)).trans ((HB4.out.block _ (Array.getElem?_eq_some_iff.1 R1.out).1).trans R1.out))
    have HRQ6 := Lib.hid (HRQ.out.below hb6)
    clear hT hok hrd6 hfr6 hb6
    obtain ⟨p10, hp10⟩ : ∃ x, w6.heap.size = x := ⟨_, rfl⟩
    obtain ⟨W7, hW7⟩ : ∃ W, w6.alloc (.cells #[Value.slice none 0 0, Value.string ⟨#[]⟩, Value.int .u8 0, Value.int .u8 0, Value.int .u8 0, Value.int .u8 0, Value.int .u8 0, Value.int .u8 0, Value.int .u8 0, Value.int .u8 0, Value.int .u8 0, Value.int .u8 0, Value.int .u8 0, Value.int .u8 0, Value.int .u8 0, Value.int .u8 0, Value.int .u8 0, Value.int .u8 0, Value.int .u8 0, Value.int .u8 0, Value.int .u8 0, Value.int .u8 0, Value.int .u8 0, Value.int .u8 0, Value.int .u8 0, Value.int .u8 0, Value.int .u8 0, Value.int .u8 0, Value.int .u8 0, Value.int .u8 0, Value.int .u8 0, Value.int .u8 0, Value.int .u8 0, Value.int .u8 0] 28) = W := ⟨_, rfl⟩
    obtain ⟨r7, b7, s7⟩ := new_row hW7
    rw [hp10, ← HLZ.out] at r7
    have hll : (txC Ai T.us.length ci T).length = 34 := txC_len HTOK.out.al
    obtain ⟨W8, hW8, T8, R8, G8⟩ := put_rowR (new := txC Ai T.us.length ci T) r7 (by rw [hll, HLZL.out])
    have b8 : Below w6.heap.size w6 W8 := bel_grown b7 b7.size G8.out (by omega)
    have HB8 : Hid (Below w.heap.size w W8) := Lib.hid (HB6.out.trans (b8.mono HB6.out.size))
    have HR8 : Hid (W8.heap[g]? = some (.cells lz.toArray 28 (0, 0))) := Lib.hid ((b8.block _ (Array.getElem?_eq_some_iff.1 HR6.out).1).trans HR6.out)
    have HRQ8 : Hid (Rd W8.drew (A.map (·.add at_)) (b8s p)) := Lib.hid ((HRQ6.out.below b8).drew)
    have HRD8 := Lib.hid (HRD6.out.below b8)
    have HRG8 := Lib.hid (range_of_row R8.out)
    have HIL := Lib.hid (info_txl (A := Ai) (n := T.us.length) (c := ci) HTOK.out.al)
    have HIA := Lib.hid (info_txa (A := Ai) (n := T.us.length) (c := ci) HTOK.out.al)
    have HOC : Hid ((txC Ai T.us.length ci T).toArray.all (·.oneCell') = true) := Lib.hid (all_oneCell_toArray (txC_one _ _ _ _))
    have h8d : W8.drew.heap[g]? = some (.cells lz.toArray 28 (0, 0)) := HR8.out
    obtain ⟨W9, hW9, T9, R9, G9⟩ := put_rowR (new := txC Ai T.us.length ci T) h8d (by rw [hll, HLZL.out])
    have HB9 : Hid (Below w.heap.size w W9) := Lib.hid (bel_grown HB8.out.drew HB8.out.drew.size G9.out (by rw [← HG.out]; exact Nat.le_refl _))
    have HRD9 : Hid (Rd W9 Ai (upsC T.us)) := Lib.hid (HRD8.out.keep fun ad hA hlt => G9.out.block _ hlt (fun e => by
      have h1 := Option.some.inj e
      have h2 := HFR6X.out ad hA
      omega))
    have HNG : Hid (p10 ≠ g) := Lib.hid (by have := (Array.getElem?_eq_some_iff.1 HR6.out).1; omega)
    have HRG9 : Hid (W9.rangeAt p10 0 (txC Ai T.us.length ci T)) := Lib.hid (range_of_row ((G9.out.block _ (Array.getElem?_eq_some_iff.1 R8.out).1 (fun e => HNG.out (Option.some.inj e))).trans R8.out))
    have HW8 := Lib.hid hW8
    have HW9 := Lib.hid hW9
    have HT8 := Lib.hid T8.out
    have HT9 := Lib.hid T9.out
    have HSUM := Lib.hid (sum_any _ p (c - at_) W8.drew HRQ8.out (by unfold maxLen; rw [HPL.out]; omega))
    rw [HPL.out] at HSUM
    obtain ⟨lt, hlt_⟩ : ∃ l, txC Ai T.us.length ci T = l := ⟨_, rfl⟩
    have HLT := Lib.hid hlt_
    rw [hlt_] at HIL HIA HOC HRG8 HRG9 HW8 HW9 HT8 HT9 R9 ⊢
    have hadd : ∀ W : World, (binOp .add 3 (.int .i64 (at_ : Int)) (.int .i64 (k : Int))).run Tryz.prog W = .ok (.int .i64 (hi_ : Int)) W := fun W => bin_add _ _ _ _ hat3 (by omega) (by omega)
    clear hat1 hat2 hat5 hat6 hat7 r7 b7 s7 hll hW8 T8 R8 G8 b8 h8d hW9 T9 G9 hlt_
    go_wp2_with ((with_reducible (refine wpList_store_mid rfl _ _ _ rfl ?_ ?_ ?_ ?_ ?_ ?_ ?_ ?_ ?_)); (exact p10); (exact 0); (exact (lt).toArray); (exact rfl); (exact rfl); (exact HT8.out); (exact HIA.out); (exact HOC.out); rw [HW8.out])
    clear hp10 hW7
    cases ok with
    | false =>
      refine wp_region_sched (fun w' => w'.rangeAt p10 0 lt) [(true, 0), (true, 1), (true, 2), (true, 3), (true, 4), (true, 5), (true, 6), (true, 8), (false, 7), (true, 9), (true, 10), (false, 11), (true, 12), (true, 13)] (by kernel_rfl) (by kernel_rfl) rfl (by kernel_rfl) HRG8.out ?_
      refine wpS_load _ rfl (by rfl) 28 _ rfl p10 0 rfl lt _ (fun w' hS => hS) Tryz.underlying28 rfl HIL.out ?_
      simp only [Act.put, List.getElem_toArray, List.getElem_cons_zero, List.getElem_cons_succ, List.setIfInBounds_toArray, List.set_cons_zero, List.set_cons_succ]
      (first | (refine wpS_pass _ rfl (by rfl) ?_; simp only [Act.put, List.getElem_toArray, List.getElem_cons_zero, List.getElem_cons_succ, List.setIfInBounds_toArray, List.set_cons_zero, List.set_cons_succ]) | (refine wpS_take _ ?_ rfl (by rfl) ?_ ?_; rotate_left; (focus (intro w' hS'; (try dsimp only at hS'); (repeat (have hS1 := hS'.1; replace hS' := hS'.2)); go_simp; (try with_reducible rfl); done)); simp only [Act.put, List.getElem_toArray, List.getElem_cons_zero, List.getElem_cons_succ, List.setIfInBounds_toArray, List.set_cons_zero, List.set_cons_succ]))
      (first | (refine wpS_pass _ rfl (by rfl) ?_; simp only [Act.put, List.getElem_toArray, List.getElem_cons_zero, List.getElem_cons_succ, List.setIfInBounds_toArray, List.set_cons_zero, List.set_cons_succ]) | (refine wpS_take _ ?_ rfl (by rfl) ?_ ?_; rotate_left; (focus (intro w' hS'; (try dsimp only at hS'); (repeat (have hS1 := hS'.1; replace hS' := hS'.2)); go_simp; (try with_reducible rfl); done)); simp only [Act.put, List.getElem_toArray, List.getElem_cons_zero, List.getElem_cons_succ, List.setIfInBounds_toArray, List.set_cons_zero, List.set_cons_succ]))
      refine wpS_take _ _ rfl (by rfl) (fun w' hS' => exec_bin _ _ _ _ _ rfl _ _ _ rfl rfl rfl (hadd w')) ?_
      simp only [Act.put, List.getElem_toArray, List.getElem_cons_zero, List.getElem_cons_succ, List.setIfInBounds_toArray, List.set_cons_zero, List.set_cons_succ]
      (repeat (first | (refine wpS_pass _ rfl (by rfl) ?_; simp only [Act.put, List.getElem_toArray, List.getElem_cons_zero, List.getElem_cons_succ, List.setIfInBounds_toArray, List.set_cons_zero, List.set_cons_succ]) | (refine wpS_take _ ?_ rfl (by rfl) ?_ ?_; rotate_left; (focus (intro w' hS'; (try dsimp only at hS'); (repeat (have hS1 := hS'.1; replace hS' := hS'.2)); go_simp; (try with_reducible rfl); done)); simp only [Act.put, List.getElem_toArray, List.getElem_cons_zero, List.getElem_cons_succ, List.setIfInBounds_toArray, List.set_cons_zero, List.set_cons_succ])))
      refine wpS_skip _ rfl (by rfl) HRG8.out ?_
      simp only [Act.put, List.getElem_toArray, List.getElem_cons_zero, List.getElem_cons_succ, List.setIfInBounds_toArray, List.set_cons_zero, List.set_cons_succ]
      (repeat (first | (refine wpS_pass _ rfl (by rfl) ?_; simp only [Act.put, List.getElem_toArray, List.getElem_cons_zero, List.getElem_cons_succ, List.setIfInBounds_toArray, List.set_cons_zero, List.set_cons_succ]) | (refine wpS_take _ ?_ rfl (by rfl) ?_ ?_; rotate_left; (focus (intro w' hS'; (try dsimp only at hS'); (repeat (have hS1 := hS'.1; replace hS' := hS'.2)); go_simp; (try with_reducible rfl); done)); simp only [Act.put, List.getElem_toArray, List.getElem_cons_zero, List.getElem_cons_succ, List.setIfInBounds_toArray, List.set_cons_zero, List.set_cons_succ])))
      refine wpS_store_mid _ rfl (by rfl) 28 _ _ rfl g 0 lt.toArray rfl rfl HT9.out HIA.out HOC.out ?_ ?_
      · rw [HW9.out]
        exact HRG9.out
      simp only [Act.put, List.getElem_toArray, List.getElem_cons_zero, List.getElem_cons_succ, List.setIfInBounds_toArray, List.set_cons_zero, List.set_cons_succ]
      (repeat (first | (refine wpS_pass _ rfl (by rfl) ?_; simp only [Act.put, List.getElem_toArray, List.getElem_cons_zero, List.getElem_cons_succ, List.setIfInBounds_toArray, List.set_cons_zero, List.set_cons_succ]) | (refine wpS_take _ ?_ rfl (by rfl) ?_ ?_; rotate_left; (focus (intro w' hS'; (try dsimp only at hS'); (repeat (have hS1 := hS'.1; replace hS' := hS'.2)); go_simp; (try with_reducible rfl); done)); simp only [Act.put, List.getElem_toArray, List.getElem_cons_zero, List.getElem_cons_succ, List.setIfInBounds_toArray, List.set_cons_zero, List.set_cons_succ])))
      refine wpS_done ?_
      rw [HW9.out]
      go_wp2_with fail
      refine bodyPost_ret (results_row_two rfl _ _ _ _ _ _ _ rfl R9.out Tryz.underlying28 rfl HIA.out) rfl ?_
      rw [HSQ.out]
      exact ⟨Ai, ci, by rw [← HLT.out]; rfl, HRD9.out, HFR6.out, HB9.out⟩
    | true =>
      obtain ⟨cr, hcr⟩ : ∃ x, (crc p).toNat = x := ⟨_, rfl⟩
      have HCR := Lib.hid hcr
      rw [hcr] at HSUM
      by_cases hcs : cr = sm
      · have z5 : ((cr : Int) == (sm : Int)) = true := by rw [beq_iff_eq]; omega
        clear hcr
        refine wp_region_sched (fun w' => w'.rangeAt p10 0 lt) [(true, 0), (true, 1), (true, 2), (true, 3), (true, 4), (true, 5), (true, 6), (true, 8), (false, 7), (true, 9), (true, 10), (false, 11), (true, 12), (true, 13)] (by kernel_rfl) (by kernel_rfl) rfl (by kernel_rfl) HRG8.out ?_
        refine wpS_load _ rfl (by rfl) 28 _ rfl p10 0 rfl lt _ (fun w' hS => hS) Tryz.underlying28 rfl HIL.out ?_
        simp only [Act.put, List.getElem_toArray, List.getElem_cons_zero, List.getElem_cons_succ, List.setIfInBounds_toArray, List.set_cons_zero, List.set_cons_succ]
        (first | (refine wpS_pass _ rfl (by rfl) ?_; simp only [Act.put, List.getElem_toArray, List.getElem_cons_zero, List.getElem_cons_succ, List.setIfInBounds_toArray, List.set_cons_zero, List.set_cons_succ]) | (refine wpS_take _ ?_ rfl (by rfl) ?_ ?_; rotate_left; (focus (intro w' hS'; (try dsimp only at hS'); (repeat (have hS1 := hS'.1; replace hS' := hS'.2)); go_simp; (try with_reducible rfl); done)); simp only [Act.put, List.getElem_toArray, List.getElem_cons_zero, List.getElem_cons_succ, List.setIfInBounds_toArray, List.set_cons_zero, List.set_cons_succ]))
        (first | (refine wpS_pass _ rfl (by rfl) ?_; simp only [Act.put, List.getElem_toArray, List.getElem_cons_zero, List.getElem_cons_succ, List.setIfInBounds_toArray, List.set_cons_zero, List.set_cons_succ]) | (refine wpS_take _ ?_ rfl (by rfl) ?_ ?_; rotate_left; (focus (intro w' hS'; (try dsimp only at hS'); (repeat (have hS1 := hS'.1; replace hS' := hS'.2)); go_simp; (try with_reducible rfl); done)); simp only [Act.put, List.getElem_toArray, List.getElem_cons_zero, List.getElem_cons_succ, List.setIfInBounds_toArray, List.set_cons_zero, List.set_cons_succ]))
        refine wpS_take _ _ rfl (by rfl) (fun w' hS' => exec_bin _ _ _ _ _ rfl _ _ _ rfl rfl rfl (hadd w')) ?_
        simp only [Act.put, List.getElem_toArray, List.getElem_cons_zero, List.getElem_cons_succ, List.setIfInBounds_toArray, List.set_cons_zero, List.set_cons_succ]
        (repeat (first | (refine wpS_pass _ rfl (by rfl) ?_; simp only [Act.put, List.getElem_toArray, List.getElem_cons_zero, List.getElem_cons_succ, List.setIfInBounds_toArray, List.set_cons_zero, List.set_cons_succ]) | (refine wpS_take _ ?_ rfl (by rfl) ?_ ?_; rotate_left; (focus (intro w' hS'; (try dsimp only at hS'); (repeat (have hS1 := hS'.1; replace hS' := hS'.2)); go_simp; (try with_reducible rfl); done)); simp only [Act.put, List.getElem_toArray, List.getElem_cons_zero, List.getElem_cons_succ, List.setIfInBounds_toArray, List.set_cons_zero, List.set_cons_succ])))
        refine wpS_do _ rfl (by rfl) (fun KK hKK => ?_)
        go_simp
        refine HSUM.out.mono ?_
        rintro e w9 ⟨rfl, rfl⟩
        refine hKK.out _ _ HRG8.out (fun hS => ?_)
        clear hKK hS
        (repeat (first | (refine wpS_pass _ rfl (by rfl) ?_; simp only [Act.put, List.getElem_toArray, List.getElem_cons_zero, List.getElem_cons_succ, List.setIfInBounds_toArray, List.set_cons_zero, List.set_cons_succ]) | (refine wpS_take _ ?_ rfl (by rfl) ?_ ?_; rotate_left; (focus (intro w' hS'; (try dsimp only at hS'); (repeat (have hS1 := hS'.1; replace hS' := hS'.2)); go_simp; (try with_reducible rfl); done)); simp only [Act.put, List.getElem_toArray, List.getElem_cons_zero, List.getElem_cons_succ, List.setIfInBounds_toArray, List.set_cons_zero, List.set_cons_succ])))
        refine wpS_store_mid _ rfl (by rfl) 28 _ _ rfl g 0 lt.toArray rfl rfl HT9.out HIA.out HOC.out ?_ ?_
        · rw [HW9.out]
          exact HRG9.out
        simp only [Act.put, List.getElem_toArray, List.getElem_cons_zero, List.getElem_cons_succ, List.setIfInBounds_toArray, List.set_cons_zero, List.set_cons_succ]
        (repeat (first | (refine wpS_pass _ rfl (by rfl) ?_; simp only [Act.put, List.getElem_toArray, List.getElem_cons_zero, List.getElem_cons_succ, List.setIfInBounds_toArray, List.set_cons_zero, List.set_cons_succ]) | (refine wpS_take _ ?_ rfl (by rfl) ?_ ?_; rotate_left; (focus (intro w' hS'; (try dsimp only at hS'); (repeat (have hS1 := hS'.1; replace hS' := hS'.2)); go_simp; (try with_reducible rfl); done)); simp only [Act.put, List.getElem_toArray, List.getElem_cons_zero, List.getElem_cons_succ, List.setIfInBounds_toArray, List.set_cons_zero, List.set_cons_succ])))
        refine wpS_done ?_
        rw [HW9.out]
        go_wp2_with fail
        refine bodyPost_ret (results_row_two rfl _ _ _ _ _ _ _ rfl R9.out Tryz.underlying28 rfl HIA.out) rfl ?_
        rw [HSQ.out]
        exact ⟨Ai, ci, by rw [← HLT.out]; rw [HCR.out, decide_eq_true hcs]; rfl, HRD9.out, HFR6.out, HB9.out⟩
      · have z5 : ((cr : Int) == (sm : Int)) = false := by rw [beq_eq_false_iff_ne]; omega
        have z6 : ¬ (cr : Int) = (sm : Int) := by omega
        clear hcr
        refine wp_region_sched (fun w' => w'.rangeAt p10 0 lt) [(true, 0), (true, 1), (true, 2), (true, 3), (true, 4), (true, 5), (true, 6), (true, 8), (false, 7), (true, 9), (true, 10), (false, 11), (true, 12), (true, 13)] (by kernel_rfl) (by kernel_rfl) rfl (by kernel_rfl) HRG8.out ?_
        refine wpS_load _ rfl (by rfl) 28 _ rfl p10 0 rfl lt _ (fun w' hS => hS) Tryz.underlying28 rfl HIL.out ?_
        simp only [Act.put, List.getElem_toArray, List.getElem_cons_zero, List.getElem_cons_succ, List.setIfInBounds_toArray, List.set_cons_zero, List.set_cons_succ]
        (first | (refine wpS_pass _ rfl (by rfl) ?_; simp only [Act.put, List.getElem_toArray, List.getElem_cons_zero, List.getElem_cons_succ, List.setIfInBounds_toArray, List.set_cons_zero, List.set_cons_succ]) | (refine wpS_take _ ?_ rfl (by rfl) ?_ ?_; rotate_left; (focus (intro w' hS'; (try dsimp only at hS'); (repeat (have hS1 := hS'.1; replace hS' := hS'.2)); go_simp; (try with_reducible rfl); done)); simp only [Act.put, List.getElem_toArray, List.getElem_cons_zero, List.getElem_cons_succ, List.setIfInBounds_toArray, List.set_cons_zero, List.set_cons_succ]))
        (first | (refine wpS_pass _ rfl (by rfl) ?_; simp only [Act.put, List.getElem_toArray, List.getElem_cons_zero, List.getElem_cons_succ, List.setIfInBounds_toArray, List.set_cons_zero, List.set_cons_succ]) | (refine wpS_take _ ?_ rfl (by rfl) ?_ ?_; rotate_left; (focus (intro w' hS'; (try dsimp only at hS'); (repeat (have hS1 := hS'.1; replace hS' := hS'.2)); go_simp; (try with_reducible rfl); done)); simp only [Act.put, List.getElem_toArray, List.getElem_cons_zero, List.getElem_cons_succ, List.setIfInBounds_toArray, List.set_cons_zero, List.set_cons_succ]))
        refine wpS_take _ _ rfl (by rfl) (fun w' hS' => exec_bin _ _ _ _ _ rfl _ _ _ rfl rfl rfl (hadd w')) ?_
        simp only [Act.put, List.getElem_toArray, List.getElem_cons_zero, List.getElem_cons_succ, List.setIfInBounds_toArray, List.set_cons_zero, List.set_cons_succ]
        (repeat (first | (refine wpS_pass _ rfl (by rfl) ?_; simp only [Act.put, List.getElem_toArray, List.getElem_cons_zero, List.getElem_cons_succ, List.setIfInBounds_toArray, List.set_cons_zero, List.set_cons_succ]) | (refine wpS_take _ ?_ rfl (by rfl) ?_ ?_; rotate_left; (focus (intro w' hS'; (try dsimp only at hS'); (repeat (have hS1 := hS'.1; replace hS' := hS'.2)); go_simp; (try with_reducible rfl); done)); simp only [Act.put, List.getElem_toArray, List.getElem_cons_zero, List.getElem_cons_succ, List.setIfInBounds_toArray, List.set_cons_zero, List.set_cons_succ])))
        refine wpS_do _ rfl (by rfl) (fun KK hKK => ?_)
        go_simp
        refine HSUM.out.mono ?_
        rintro e w9 ⟨rfl, rfl⟩
        refine hKK.out _ _ HRG8.out (fun hS => ?_)
        clear hKK hS
        (repeat (first | (refine wpS_pass _ rfl (by rfl) ?_; simp only [Act.put, List.getElem_toArray, List.getElem_cons_zero, List.getElem_cons_succ, List.setIfInBounds_toArray, List.set_cons_zero, List.set_cons_succ]) | (refine wpS_take _ ?_ rfl (by rfl) ?_ ?_; rotate_left; (focus (intro w' hS'; (try dsimp only at hS'); (repeat (have hS1 := hS'.1; replace hS' := hS'.2)); go_simp; (try with_reducible rfl); done)); simp only [Act.put, List.getElem_toArray, List.getElem_cons_zero, List.getElem_cons_succ, List.setIfInBounds_toArray, List.set_cons_zero, List.set_cons_succ])))
        refine wpS_store_mid _ rfl (by rfl) 28 _ _ rfl g 0 lt.toArray rfl rfl HT9.out HIA.out HOC.out ?_ ?_
        · rw [HW9.out]
          exact HRG9.out
        simp only [Act.put, List.getElem_toArray, List.getElem_cons_zero, List.getElem_cons_succ, List.setIfInBounds_toArray, List.set_cons_zero, List.set_cons_succ]
        (repeat (first | (refine wpS_pass _ rfl (by rfl) ?_; simp only [Act.put, List.getElem_toArray, List.getElem_cons_zero, List.getElem_cons_succ, List.setIfInBounds_toArray, List.set_cons_zero, List.set_cons_succ]) | (refine wpS_take _ ?_ rfl (by rfl) ?_ ?_; rotate_left; (focus (intro w' hS'; (try dsimp only at hS'); (repeat (have hS1 := hS'.1; replace hS' := hS'.2)); go_simp; (try with_reducible rfl); done)); simp only [Act.put, List.getElem_toArray, List.getElem_cons_zero, List.getElem_cons_succ, List.setIfInBounds_toArray, List.set_cons_zero, List.set_cons_succ])))
        refine wpS_done ?_
        rw [HW9.out]
        go_wp2_with fail
        refine bodyPost_ret (results_row_two rfl _ _ _ _ _ _ _ rfl R9.out Tryz.underlying28 rfl HIA.out) rfl ?_
        rw [HSQ.out]
        exact ⟨Ai, ci, by rw [← HLT.out]; rw [HCR.out, decide_eq_false hcs]; rfl, HRD9.out, HFR6.out, HB9.out⟩
end Go.Proofs.YtelbofikcpchiaaGreat
