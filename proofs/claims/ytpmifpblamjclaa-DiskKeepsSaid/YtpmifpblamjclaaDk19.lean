
/- DiskKeeps. (Printed by wip/genDk19.py.) -/

import Derived.Test.YtpmifpblamjclaaDk15

import Derived.Test.YtpmifpblamjclaaPartsOpen

import Derived.Test.YtpmifpblamjclaaAppend

namespace Go.Proofs.Ytpmifpblamjclaa

set_option linter.unusedVariables false

set_option linter.unusedSimpArgs false

set_option linter.unusedSectionVars false

open Go.RowKit

theorem i64_and_mask (x : Int) (m : Nat) (hm : m < 9223372036854775808) : ∃ n : Nat, n ≤ m ∧ bits .and .i64 x (m : Int) = (n : Int) := by
  refine ⟨(BitVec.ofInt 64 x &&& BitVec.ofInt 64 (m : Int)).toNat, ?_, ?_⟩
  · rw [BitVec.toNat_and]
    refine Nat.le_trans Nat.and_le_right ?_
    rw [BitVec.ofInt_natCast, BitVec.toNat_ofNat]
    exact Nat.mod_le _ _
  · show IntKind.i64.wrap ((BitVec.ofInt 64 x &&& BitVec.ofInt 64 (m : Int)).toNat : Int) = _
    have h1 : (BitVec.ofInt 64 x &&& BitVec.ofInt 64 (m : Int)).toNat ≤ m := by
      rw [BitVec.toNat_and]
      refine Nat.le_trans Nat.and_le_right ?_
      rw [BitVec.ofInt_natCast, BitVec.toNat_ofNat]
      exact Nat.mod_le _ _
    exact IntWalk.i64_in _ (by omega)

/-- what was there ahead of the disk is not the disk's -/
theorem far_foot {N g : Nat} {w w0 : World} {m : DM} {d : DA} {A : Option Addr} {cs : List Value} (h : DiskIn N w g m d) (hN : N = w0.heap.size) (hr : Rd w0 A cs) (hne : cs ≠ []) : ∀ a, A = some a → ¬ foot g d a.block := fun a ha hf => by
  subst ha
  obtain ⟨b, o, e, _⟩ := hr.all (List.length_pos_iff.2 hne)
  cases e
  have h1 := hr.lt (List.length_pos_iff.2 hne)
  have h2 := h.foot_ge hf
  dsimp only at h2
  omega
theorem far_bytes {N g : Nat} {w w0 : World} {m : DM} {d : DA} {A : Option Addr} {bs : List UInt8} (h : DiskIn N w g m d) (hN : N = w0.heap.size) (hr : Rd w0 A (b8s bs)) : bs ≠ [] → ∀ a, A = some a → ¬ foot g d a.block := fun hne => far_foot h hN hr (fun e => hne (by
  have := congrArg List.length e
  rw [b8s_length] at this
  exact List.length_eq_zero_iff.1 this))
theorem appendM_ok {m : DM} {s bs : List UInt8} {f : Nat} (hf : findM m s = (some f, 0)) (hr : bs.length ≤ roomM m) (hs : (stepM m).2 = 0) :
    appendM m s bs = (setF (stepM m).1 f ⟨(fileM m f).b ++ bs, (fileM m f).safe⟩, 0) := by
  unfold appendM
  rw [hf]
  dsimp only
  rw [if_neg (by omega), if_pos hs]
theorem appendM_full {m : DM} {s bs : List UInt8} {f : Nat} (hf : findM m s = (some f, 0)) (hr : roomM m < bs.length) :
    appendM m s bs = (m, 51) := by
  unfold appendM
  rw [hf]
  dsimp only
  rw [if_pos hr]
def crashK (m : DM) (k : Nat) (keep : List Int) : DM :=
  cutM ((m.turns.take k).foldl doN m.sure) keep { m with down := false, fuse := 0, sure := (m.turns.take k).foldl doN m.sure, now := (m.turns.take k).foldl doN m.sure, turns := [] }
theorem crashK_eq (m : DM) (turns : Int) (keep : List Int) : crashM m turns keep = crashK m (min (max turns 0) m.turns.length).toNat keep := rfl


/-- a row beside the disk -/
structure Side (N g : Nat) (w : World) (d : DA) (v : Value) (bs : List UInt8) : Prop where
  own : w.ownsRow N 5 1 v bs.length (b8s bs)
  far : ∀ b, v.ownBlock = some b → ¬ foot g d b
theorem Side.aft {N M g : Nat} {w w' : World} {m : DM} {d d' : DA} {v : Value} {bs : List UInt8} (h : Side N g w d v bs) (ha : Aft M g w w' m d d') : Side N g w' d' v bs :=
  ⟨own_keep h.own (fun b hb hlt => ha.frm.block b hlt (h.far b hb)), fun b hb hf => by
    rcases ha.ext b hf with h1 | h1
    · exact h.far b hb h1
    · have := (h.own.lt b hb).2
      omega⟩
theorem Aft.side {N g : Nat} {w w1 w2 : World} {m : DM} {d d1 : DA} {r : Option Nat} (h : Aft N g w w1 m d d1) (hg : w1.grownBy w2 r) (hr : ∀ b, r = some b → w.heap.size ≤ b ∧ ¬ foot g d1 b) : Aft N g w w2 m d d1 :=
  ⟨h.disk.keep (fun b hb => hg.block b (h.disk.foot_lt hb) (fun e => (hr b e.symm).2 hb)), h.frm.trans (Frm.of_grown (F := fun i => r = some i) hg (fun k hk => .inl hk)) (fun i hi => .inr (hr i hi).1), h.ext⟩

def kst (bs : List UInt8) (sf φ : Nat) (δ : Bool) : DM := ⟨[⟨bs, sf⟩], [([102], 0)], [([102], 0)], [], 100000, φ, δ⟩
theorem kst_start : ∃ s1, createM (newM 100000) [102] = (s1, 0) ∧ flushM s1 = (kst [] 0 0 false, 0) := ⟨_, rfl, rfl⟩
theorem kst_fit {K L : Nat} {bs : List UInt8} {sf φ : Nat} {δ : Bool} (h : Fit K L (kst bs sf φ δ)) : bs.length ≤ L ∧ sf ≤ bs.length := h.len ⟨bs, sf⟩ (by simp [kst])
theorem kst_fail (bs : List UInt8) (sf φ : Nat) (δ : Bool) (n : Nat) : failM (kst bs sf φ δ) (n : Int) = kst bs sf n δ := by
  unfold failM kst
  have : (max (n : Int) 0).toNat = n := by omega
  rw [this]
theorem kst_step (bs : List UInt8) (sf φ : Nat) (δ : Bool) : (∃ φ', stepM (kst bs sf φ δ) = (kst bs sf φ' δ, 0)) ∨ (∃ φ' δ', stepM (kst bs sf φ δ) = (kst bs sf φ' δ', 50)) := by
  unfold stepM
  split
  · split
    · exact .inr ⟨_, _, rfl⟩
    · exact .inl ⟨_, rfl⟩
  · exact .inl ⟨_, rfl⟩
theorem kst_append {bs p : List UInt8} {sf φ : Nat} {δ : Bool} (h : bs.length + p.length ≤ 100000) : (∃ φ' δ', appendM (kst bs sf φ δ) [102] p = (kst (bs ++ p) sf φ' δ', 0)) ∨ (∃ φ' δ', appendM (kst bs sf φ δ) [102] p = (kst bs sf φ' δ', 50)) := by
  cases δ with
  | true => exact .inr ⟨_, _, rfl⟩
  | false =>
    have hf : findM (kst bs sf φ false) [102] = (some 0, 0) := rfl
    have hr : p.length ≤ roomM (kst bs sf φ false) := by
      show p.length ≤ 100000 - (bs.length + 0)
      omega
    rcases kst_step bs sf φ false with ⟨φ', e⟩ | ⟨φ', δ', e⟩
    · refine .inl ⟨φ', false, ?_⟩
      rw [appendM_ok hf hr (by rw [e]), e]
      rfl
    · refine .inr ⟨φ', δ', ?_⟩
      unfold appendM
      rw [hf]
      dsimp only
      rw [if_neg (by omega), if_neg (by rw [e]; simp), e]
theorem kst_sync (bs : List UInt8) (sf φ : Nat) (δ : Bool) : (∃ φ' δ', syncM (kst bs sf φ δ) [102] = (kst bs bs.length φ' δ', 0)) ∨ (∃ φ' δ', syncM (kst bs sf φ δ) [102] = (kst bs sf φ' δ', 50)) := by
  cases δ with
  | true => exact .inr ⟨_, _, rfl⟩
  | false =>
    have hf : findM (kst bs sf φ false) [102] = (some 0, 0) := rfl
    unfold syncM
    rw [hf]
    dsimp only
    rcases kst_step bs sf φ false with ⟨φ', e⟩ | ⟨φ', δ', e⟩
    · refine .inl ⟨φ', false, ?_⟩
      rw [if_pos (by rw [e]), e]
      rfl
    · refine .inr ⟨φ', δ', ?_⟩
      rw [if_neg (by rw [e]; simp), e]
theorem kst_crash (bs : List UInt8) (sf φ : Nat) (δ : Bool) (hsf : sf ≤ bs.length) (turns keep : Int) (q : Nat) (hq : (q : Int) = sf + min (max keep 0) ((bs.length - sf : Nat) : Int)) : readM (crashM (kst bs sf φ δ) turns [keep]) [102] = (bs.take q, 0) := by
  have e1 : crashM (kst bs sf φ δ) turns [keep] = cutM [([102], 0)] [keep] (kst bs sf 0 false) := by
    rw [crashK_eq]
    have : (min (max turns 0) ((kst bs sf φ δ).turns.length : Int)).toNat = 0 := by simp only [kst, List.length_nil]; omega
    rw [this]
    rfl
  rw [e1, cutM.eq_def]
  dsimp only
  split
  · rename_i h0
    have h1 : bs.length - sf = 0 := h0
    have : q = bs.length := by omega
    show readM (kst bs sf 0 false) [102] = _
    rw [this, List.take_length]
    rfl
  · have : sf + (min (max keep 0) ((bs.length - sf : Nat) : Int)).toNat = q := by omega
    show (bs.take (sf + (min (max keep 0) ((bs.length - sf : Nat) : Int)).toNat), (0 : Int)) = _
    rw [this]

set_option maxRecDepth 1000000 in
set_option maxHeartbeats 16000000 in
theorem keeps_any (A : Option Addr) (ps : List PV) (n c : Nat) (hn : ps.length = n) (hnl : n ≤ 9223372036854775807) (synced turns keep fail : Int) (w : World) (hr : Rd w A (ps.map PV.v)) (hp : ∀ p ∈ ps, p.ok w) :
    Calls Try.prog 5 #[.slice A n c, .int .i64 synced, .int .i64 turns, .int .i64 keep, .int .i64 fail] w fun e w' => e = .returned (.bool true) ∧ Below w.heap.size w w' := by
  have HR := Lib.hid hr
  have HP := Lib.hid hp
  have HN := Lib.hid hn
  clear hr hp hn
  obtain ⟨s, hs, hsa⟩ : ∃ n : Nat, n ≤ 15 ∧ bits .and .i64 synced 15 = (n : Int) := i64_and_mask synced 15 (by decide)
  obtain ⟨fl, hfl, hfa⟩ : ∃ n : Nat, n ≤ 7 ∧ bits .and .i64 fail 7 = (n : Int) := i64_and_mask fail 7 (by decide)
  have HNW := Lib.hid (new_any 100000 (by omega) w)
  obtain ⟨s1, h1, h2⟩ := kst_start
  have H1 := Lib.hid h1
  have H2 := Lib.hid h2
  clear h1 h2
  go_enter Try.func5, Try.ntmps5
  go_wp2_with fail
  refine HNW.out.mono ?_
  rintro e w1 ⟨g, d0, rfl, hd0, hb0⟩
  have A0 := Lib.hid (Aft.refl hd0)
  have B0 := Lib.hid hb0
  have F0 := Lib.hid (fit_new 100000 (by omega))
  clear hd0 hb0
  go_wp2_with fail
  refine (alive_any _).mono ?_
  rintro e w2 ⟨rfl, hb⟩
  have A1 := Lib.hid (A0.out.then hb)
  clear hb
  go_wp2_with fail
  refine (create_st A1.out.disk F0.out (by omega) (by omega) (by decide) H1.out).mono ?_
  rintro e w3 ⟨rfl, d3, ha, hf⟩
  have A3 := Lib.hid (A1.out.trans ha)
  have F3 : Hid (Fit 1 0 s1) := Lib.hid hf
  clear ha hf A1 F0
  go_wp2_with fail
  refine (flush_st A3.out.disk F3.out (by omega) (by omega) H2.out).mono ?_
  rintro e w4 ⟨rfl, d4, ha, hf⟩
  have A4 := Lib.hid (A3.out.trans ha)
  have F4 := Lib.hid hf
  clear ha hf A3 F3
  have A5 : Hid (Aft w.heap.size g w1 (w4.alloc (.cells #[] 5)) (kst [] 0 0 false) d0 d4) := Lib.hid (A4.out.then ((Below.refl _ _).alloc (Nat.le_refl _) _))
  have S5 : Hid (Side w1.heap.size g (w4.alloc (.cells #[] 5)) d4 (.slice (some ⟨w4.heap.size, 0, none⟩) 0 0) []) := Lib.hid ⟨own_mono (Own8.start w4).own A4.out.frm.size, fun b hb hf => by
    have h1 := A4.out.disk.foot_lt hf
    have h2 : w4.heap.size = b := by simpa [Value.ownBlock] using hb
    omega⟩
  have HNB : Hid (w1.heap.size ≤ w4.heap.size) := Lib.hid A4.out.frm.size
  go_wp2_with fail
  go_loopg [12, 13, 38] (n * 1) (fun gk_ av sv iv wr => ∃ (j : Nat) (bs : List UInt8) (sf φ : Nat) (δ : Bool) (Aa : Option Addr) (bn ca : Nat) (d : DA), j ≤ n ∧ gk_ = n - j ∧ av = .slice Aa bn ca ∧ sv = .int .i64 (sf : Int) ∧ iv = .int .i64 (j : Int) ∧ Hid (bs.length = bn) ∧ Hid (Aft w.heap.size g w1 wr (kst bs sf φ δ) d0 d) ∧ Hid (Fit 1 (2000 * min j 20) (kst bs sf φ δ)) ∧ Hid (Side w1.heap.size g wr d (.slice Aa bn ca) bs))
  case atStart => exact ⟨0, [], 0, 0, false, some ⟨w4.heap.size, 0, none⟩, 0, 0, d4, by omega, by omega, rfl, rfl, rfl, Lib.hid rfl, A5, F4, S5⟩
  case round =>
  clear A5 S5 F4
  obtain ⟨j, bs, sf, φ, δ, Aa, bn, ca, d, hj, rfl, rfl, rfl, rfl, HBN, HA, HF, HS⟩ := hrel
  by_cases hlt : j < n
  · have i1 : (j : Int) < (n : Int) := by omega
    have hjl : j < ps.length := by rw [HN.out]; exact hlt
    have BW := Lib.hid (B0.out.trans (HA.out.bel A0.out.disk B0.out.size))
    obtain ⟨b, o, hAe, hcell⟩ := (HR.out.below BW.out) j (ps[j].v) (by simp [hjl])
    have hpo := HP.out ps[j] (List.getElem_mem hjl)
    obtain ⟨q, hq⟩ : ∃ q, ps[j] = q := ⟨_, rfl⟩
    rw [hq] at hcell hpo
    obtain ⟨Ap, cp, p⟩ := q
    obtain ⟨pn, hpn⟩ : ∃ pn, p.length = pn := ⟨_, rfl⟩
    replace hcell : wr.cell? ⟨b, o + j, none⟩ = some (.slice Ap pn cp) := by rw [← hpn]; exact hcell
    obtain ⟨hrp, hpc, hpm⟩ := hpo
    dsimp only at hrp hpc hpm
    rw [hpn] at hpc
    have HRP := Lib.hid hrp
    have HPN := Lib.hid hpn
    have HPC : Hid (pn ≤ cp ∧ cp ≤ 9223372036854775807) := Lib.hid ⟨hpc, hpm⟩
    have HAE := Lib.hid hAe
    rw [hAe]
    have hpb : pn ≤ 9223372036854775807 := by omega
    clear hAe hrp hpn hpc hpm hq hjl BW
    by_cases hj20 : 20 ≤ j
    · have i2 : (20 : Int) ≤ (j : Int) := by omega
      have F6 := Lib.hid (HF.out.mono (K' := 1) (L' := 2000 * min (j + 1) 20) (by omega) (by omega))
      go_wp2_with fail
      rw [← HAE.out]
      go_roundg (n - (j + 1))
      case measure => omega
      case rel => exact ⟨j + 1, bs, sf, φ, δ, Aa, bn, ca, d, by omega, rfl, rfl, rfl, by first | rfl | exact congrArg (Value.int .i64) (by omega) | go_num, HBN, HA, F6, HS⟩
    have i2 : ¬ ((20 : Int) ≤ (j : Int)) := by omega
    by_cases hpl : 2000 < pn
    · have i3 : (2000 : Int) < (pn : Int) := by omega
      have F6 := Lib.hid (HF.out.mono (K' := 1) (L' := 2000 * min (j + 1) 20) (by omega) (by omega))
      go_wp2_with fail
      rw [← HAE.out]
      go_roundg (n - (j + 1))
      case measure => omega
      case rel => exact ⟨j + 1, bs, sf, φ, δ, Aa, bn, ca, d, by omega, rfl, rfl, rfl, by first | rfl | exact congrArg (Value.int .i64) (by omega) | go_num, HBN, HA, F6, HS⟩
    have i3 : ¬ ((2000 : Int) < (pn : Int)) := by omega
    by_cases hjs : j = s
    · subst hjs
      have z1 : ((j : Int) == (j : Int)) = true := by simp
      have i4 : (j : Int) ≤ (j : Int) := by omega
      go_wp2_with fail
      refine (fail_st HA.out.disk HF.out (by omega)).mono ?_
      rintro e wF ⟨rfl, dF, ha, hf⟩
      rw [kst_fail] at ha hf
      replace HS := Lib.hid (HS.out.aft ha)
      replace HA := Lib.hid (HA.out.trans ha)
      replace HF := Lib.hid hf
      clear ha hf hcell
      have hlen := (kst_fit HF.out).1
      rcases kst_append (sf := sf) (φ := fl) (δ := δ) (bs := bs) (p := p) (by rw [HPN.out]; omega) with ⟨φa, δa, hea⟩ | ⟨φa, δa, hea⟩
      · have HEA := Lib.hid hea
        rw [HBN.out] at hlen
        clear hea
        go_wp2_with fail
        refine (append_st (bs := p) HA.out.disk HF.out (by omega) (by omega) (by decide) HPN.out.symm (HRP.out.below (B0.out.trans (HA.out.bel A0.out.disk B0.out.size))) (far_bytes HA.out.disk rfl HRP.out) (by rw [HPN.out]; omega) HEA.out).mono ?_
        rintro e wA ⟨rfl, dA, ha, hf⟩
        replace HS := Lib.hid (HS.out.aft ha)
        replace HA := Lib.hid (HA.out.trans ha)
        replace HF := Lib.hid (hf.mono (K' := 1) (L' := 2000 * min (j + 1) 20) (by omega) (by rw [HPN.out]; omega))
        clear ha hf
        have HRPA := Lib.hid (HRP.out.below (B0.out.trans (HA.out.bel A0.out.disk B0.out.size)))
        have HLP : Hid ((b8s p).length = pn * 1) := Lib.hid (by rw [b8s_length, HPN.out, Nat.mul_one])
        have HSO : Hid (wA.ownsRow w1.heap.size 5 1 (.slice Aa bn ca) bn (b8s bs)) := Lib.hid (by have := HS.out.own; rw [HBN.out] at this; exact this)
        have HSZ : Hid (w1.heap.size ≤ wA.heap.size) := Lib.hid HA.out.frm.size
        have HS0 := HS
        go_wp2_with (at_builtin; refine wpList_append_rd _ rfl _ _ 27 rfl w1.heap.size 5 _ 1 1 Try.underlying27 info_u8 rfl (by decide) (.slice Aa bn ca) bn _ rfl HSO.out Ap pn cp (b8s p) rfl HLP.out HRPA.out (b8s_one' _) (by unfold maxLen; omega) (by omega) HSZ.out ?_; intro v7 w7 ho7 hg7 hvb7; obtain ⟨A7, c7, e7, _⟩ := own_slice ho7; subst e7; have HO7 := Lib.hid ho7; have HG7 := Lib.hid hg7; have HV7 := Lib.hid hvb7; clear ho7 hg7 hvb7)
        replace HS : Hid (Side w1.heap.size g w7 dA (.slice A7 (bn + pn) c7) (bs ++ p)) := Lib.hid ⟨by rw [List.length_append, HBN.out, HPN.out, b8s_append]; exact HO7.out, fun b hb hf => by
          rcases HV7.out with e | e
          · rw [e] at hb
            exact HS.out.far b hb hf
          · rw [e] at hb
            cases hb
            have := HA.out.disk.foot_lt hf
            omega⟩
        replace HA := Lib.hid (HA.out.side HG7.out (fun b hb => ⟨(HSO.out.lt b hb).1, HS0.out.far b hb⟩))
        replace HBN : Hid ((bs ++ p).length = bn + pn) := Lib.hid (by rw [List.length_append, HBN.out, HPN.out])
        clear HO7 HG7 HV7 HSO HLP HRPA HSZ HEA HS0
        obtain ⟨bq, hbq⟩ : ∃ bq, bn + pn = bq := ⟨_, rfl⟩
        rw [hbq] at HS HBN
        rcases kst_sync (bs ++ p) sf φa δa with ⟨φs, δs, hes⟩ | ⟨φs, δs, hes⟩
        · have HES := Lib.hid hes
          clear hes
          refine (sync_st HA.out.disk HF.out (by omega) (by omega) (by decide) HES.out).mono ?_
          rintro e wS ⟨rfl, dS, ha, hf⟩
          replace HS := Lib.hid (HS.out.aft ha)
          replace HA := Lib.hid (HA.out.trans ha)
          replace HF := Lib.hid hf
          clear ha hf
          rw [HBN.out] at HA HF
          go_wp2_with fail
          rw [← HAE.out]
          go_roundg (n - (j + 1))
          case measure => omega
          case rel => exact ⟨j + 1, bs ++ p, bq, φs, δs, A7, bq, c7, dS, by omega, rfl, by first | rfl | rw [hbq], rfl, by first | rfl | exact congrArg (Value.int .i64) (by omega) | go_num, HBN, HA, HF, HS⟩
        · have HES := Lib.hid hes
          clear hes
          refine (sync_st HA.out.disk HF.out (by omega) (by omega) (by decide) HES.out).mono ?_
          rintro e wS ⟨rfl, dS, ha, hf⟩
          replace HS := Lib.hid (HS.out.aft ha)
          replace HA := Lib.hid (HA.out.trans ha)
          replace HF := Lib.hid hf
          clear ha hf
          go_wp2_with fail
          rw [← HAE.out]
          go_roundg (n - (j + 1))
          case measure => omega
          case rel => exact ⟨j + 1, bs ++ p, sf, φs, δs, A7, bq, c7, dS, by omega, rfl, by first | rfl | rw [hbq], rfl, by first | rfl | exact congrArg (Value.int .i64) (by omega) | go_num, HBN, HA, HF, HS⟩
      · have HEA := Lib.hid hea
        rw [HBN.out] at hlen
        clear hea
        go_wp2_with fail
        refine (append_st (bs := p) HA.out.disk HF.out (by omega) (by omega) (by decide) HPN.out.symm (HRP.out.below (B0.out.trans (HA.out.bel A0.out.disk B0.out.size))) (far_bytes HA.out.disk rfl HRP.out) (by rw [HPN.out]; omega) HEA.out).mono ?_
        rintro e wA ⟨rfl, dA, ha, hf⟩
        replace HS := Lib.hid (HS.out.aft ha)
        replace HA := Lib.hid (HA.out.trans ha)
        replace HF := Lib.hid (hf.mono (K' := 1) (L' := 2000 * min (j + 1) 20) (by omega) (by rw [HPN.out]; omega))
        clear ha hf
        rcases kst_sync (bs) sf φa δa with ⟨φs, δs, hes⟩ | ⟨φs, δs, hes⟩
        · have HES := Lib.hid hes
          clear hes
          go_wp2_with fail
          refine (sync_st HA.out.disk HF.out (by omega) (by omega) (by decide) HES.out).mono ?_
          rintro e wS ⟨rfl, dS, ha, hf⟩
          replace HS := Lib.hid (HS.out.aft ha)
          replace HA := Lib.hid (HA.out.trans ha)
          replace HF := Lib.hid hf
          clear ha hf
          rw [HBN.out] at HA HF
          go_wp2_with fail
          rw [← HAE.out]
          go_roundg (n - (j + 1))
          case measure => omega
          case rel => exact ⟨j + 1, bs, bn, φs, δs, Aa, bn, ca, dS, by omega, rfl, by first | rfl | rw [hbq], rfl, by first | rfl | exact congrArg (Value.int .i64) (by omega) | go_num, HBN, HA, HF, HS⟩
        · have HES := Lib.hid hes
          clear hes
          go_wp2_with fail
          refine (sync_st HA.out.disk HF.out (by omega) (by omega) (by decide) HES.out).mono ?_
          rintro e wS ⟨rfl, dS, ha, hf⟩
          replace HS := Lib.hid (HS.out.aft ha)
          replace HA := Lib.hid (HA.out.trans ha)
          replace HF := Lib.hid hf
          clear ha hf
          go_wp2_with fail
          rw [← HAE.out]
          go_roundg (n - (j + 1))
          case measure => omega
          case rel => exact ⟨j + 1, bs, sf, φs, δs, Aa, bn, ca, dS, by omega, rfl, by first | rfl | rw [hbq], rfl, by first | rfl | exact congrArg (Value.int .i64) (by omega) | go_num, HBN, HA, HF, HS⟩
    · have z1 : ((j : Int) == (s : Int)) = false := by rw [beq_eq_false_iff_ne]; omega
      by_cases hjl : j ≤ s
      · have i4 : (j : Int) ≤ (s : Int) := by omega
        have hlen := (kst_fit HF.out).1
        rcases kst_append (sf := sf) (φ := φ) (δ := δ) (bs := bs) (p := p) (by rw [HPN.out]; omega) with ⟨φa, δa, hea⟩ | ⟨φa, δa, hea⟩
        · have HEA := Lib.hid hea
          rw [HBN.out] at hlen
          clear hea
          go_wp2_with fail
          refine (append_st (bs := p) HA.out.disk HF.out (by omega) (by omega) (by decide) HPN.out.symm (HRP.out.below (B0.out.trans (HA.out.bel A0.out.disk B0.out.size))) (far_bytes HA.out.disk rfl HRP.out) (by rw [HPN.out]; omega) HEA.out).mono ?_
          rintro e wA ⟨rfl, dA, ha, hf⟩
          replace HS := Lib.hid (HS.out.aft ha)
          replace HA := Lib.hid (HA.out.trans ha)
          replace HF := Lib.hid (hf.mono (K' := 1) (L' := 2000 * min (j + 1) 20) (by omega) (by rw [HPN.out]; omega))
          clear ha hf
          have HRPA := Lib.hid (HRP.out.below (B0.out.trans (HA.out.bel A0.out.disk B0.out.size)))
          have HLP : Hid ((b8s p).length = pn * 1) := Lib.hid (by rw [b8s_length, HPN.out, Nat.mul_one])
          have HSO : Hid (wA.ownsRow w1.heap.size 5 1 (.slice Aa bn ca) bn (b8s bs)) := Lib.hid (by have := HS.out.own; rw [HBN.out] at this; exact this)
          have HSZ : Hid (w1.heap.size ≤ wA.heap.size) := Lib.hid HA.out.frm.size
          have HS0 := HS
          go_wp2_with (at_builtin; refine wpList_append_rd _ rfl _ _ 27 rfl w1.heap.size 5 _ 1 1 Try.underlying27 info_u8 rfl (by decide) (.slice Aa bn ca) bn _ rfl HSO.out Ap pn cp (b8s p) rfl HLP.out HRPA.out (b8s_one' _) (by unfold maxLen; omega) (by omega) HSZ.out ?_; intro v7 w7 ho7 hg7 hvb7; obtain ⟨A7, c7, e7, _⟩ := own_slice ho7; subst e7; have HO7 := Lib.hid ho7; have HG7 := Lib.hid hg7; have HV7 := Lib.hid hvb7; clear ho7 hg7 hvb7)
          replace HS : Hid (Side w1.heap.size g w7 dA (.slice A7 (bn + pn) c7) (bs ++ p)) := Lib.hid ⟨by rw [List.length_append, HBN.out, HPN.out, b8s_append]; exact HO7.out, fun b hb hf => by
            rcases HV7.out with e | e
            · rw [e] at hb
              exact HS.out.far b hb hf
            · rw [e] at hb
              cases hb
              have := HA.out.disk.foot_lt hf
              omega⟩
          replace HA := Lib.hid (HA.out.side HG7.out (fun b hb => ⟨(HSO.out.lt b hb).1, HS0.out.far b hb⟩))
          replace HBN : Hid ((bs ++ p).length = bn + pn) := Lib.hid (by rw [List.length_append, HBN.out, HPN.out])
          clear HO7 HG7 HV7 HSO HLP HRPA HSZ HEA HS0
          obtain ⟨bq, hbq⟩ : ∃ bq, bn + pn = bq := ⟨_, rfl⟩
          rw [hbq] at HS HBN
          rcases kst_sync (bs ++ p) sf φa δa with ⟨φs, δs, hes⟩ | ⟨φs, δs, hes⟩
          · have HES := Lib.hid hes
            clear hes
            refine (sync_st HA.out.disk HF.out (by omega) (by omega) (by decide) HES.out).mono ?_
            rintro e wS ⟨rfl, dS, ha, hf⟩
            replace HS := Lib.hid (HS.out.aft ha)
            replace HA := Lib.hid (HA.out.trans ha)
            replace HF := Lib.hid hf
            clear ha hf
            rw [HBN.out] at HA HF
            go_wp2_with fail
            rw [← HAE.out]
            go_roundg (n - (j + 1))
            case measure => omega
            case rel => exact ⟨j + 1, bs ++ p, bq, φs, δs, A7, bq, c7, dS, by omega, rfl, by first | rfl | rw [hbq], rfl, by first | rfl | exact congrArg (Value.int .i64) (by omega) | go_num, HBN, HA, HF, HS⟩
          · have HES := Lib.hid hes
            clear hes
            refine (sync_st HA.out.disk HF.out (by omega) (by omega) (by decide) HES.out).mono ?_
            rintro e wS ⟨rfl, dS, ha, hf⟩
            replace HS := Lib.hid (HS.out.aft ha)
            replace HA := Lib.hid (HA.out.trans ha)
            replace HF := Lib.hid hf
            clear ha hf
            go_wp2_with fail
            rw [← HAE.out]
            go_roundg (n - (j + 1))
            case measure => omega
            case rel => exact ⟨j + 1, bs ++ p, sf, φs, δs, A7, bq, c7, dS, by omega, rfl, by first | rfl | rw [hbq], rfl, by first | rfl | exact congrArg (Value.int .i64) (by omega) | go_num, HBN, HA, HF, HS⟩
        · have HEA := Lib.hid hea
          rw [HBN.out] at hlen
          clear hea
          go_wp2_with fail
          refine (append_st (bs := p) HA.out.disk HF.out (by omega) (by omega) (by decide) HPN.out.symm (HRP.out.below (B0.out.trans (HA.out.bel A0.out.disk B0.out.size))) (far_bytes HA.out.disk rfl HRP.out) (by rw [HPN.out]; omega) HEA.out).mono ?_
          rintro e wA ⟨rfl, dA, ha, hf⟩
          replace HS := Lib.hid (HS.out.aft ha)
          replace HA := Lib.hid (HA.out.trans ha)
          replace HF := Lib.hid (hf.mono (K' := 1) (L' := 2000 * min (j + 1) 20) (by omega) (by rw [HPN.out]; omega))
          clear ha hf
          rcases kst_sync (bs) sf φa δa with ⟨φs, δs, hes⟩ | ⟨φs, δs, hes⟩
          · have HES := Lib.hid hes
            clear hes
            go_wp2_with fail
            refine (sync_st HA.out.disk HF.out (by omega) (by omega) (by decide) HES.out).mono ?_
            rintro e wS ⟨rfl, dS, ha, hf⟩
            replace HS := Lib.hid (HS.out.aft ha)
            replace HA := Lib.hid (HA.out.trans ha)
            replace HF := Lib.hid hf
            clear ha hf
            rw [HBN.out] at HA HF
            go_wp2_with fail
            rw [← HAE.out]
            go_roundg (n - (j + 1))
            case measure => omega
            case rel => exact ⟨j + 1, bs, bn, φs, δs, Aa, bn, ca, dS, by omega, rfl, by first | rfl | rw [hbq], rfl, by first | rfl | exact congrArg (Value.int .i64) (by omega) | go_num, HBN, HA, HF, HS⟩
          · have HES := Lib.hid hes
            clear hes
            go_wp2_with fail
            refine (sync_st HA.out.disk HF.out (by omega) (by omega) (by decide) HES.out).mono ?_
            rintro e wS ⟨rfl, dS, ha, hf⟩
            replace HS := Lib.hid (HS.out.aft ha)
            replace HA := Lib.hid (HA.out.trans ha)
            replace HF := Lib.hid hf
            clear ha hf
            go_wp2_with fail
            rw [← HAE.out]
            go_roundg (n - (j + 1))
            case measure => omega
            case rel => exact ⟨j + 1, bs, sf, φs, δs, Aa, bn, ca, dS, by omega, rfl, by first | rfl | rw [hbq], rfl, by first | rfl | exact congrArg (Value.int .i64) (by omega) | go_num, HBN, HA, HF, HS⟩
      · have i4 : ¬ ((j : Int) ≤ (s : Int)) := by omega
        have hlen := (kst_fit HF.out).1
        rcases kst_append (sf := sf) (φ := φ) (δ := δ) (bs := bs) (p := p) (by rw [HPN.out]; omega) with ⟨φa, δa, hea⟩ | ⟨φa, δa, hea⟩
        · have HEA := Lib.hid hea
          rw [HBN.out] at hlen
          clear hea
          go_wp2_with fail
          refine (append_st (bs := p) HA.out.disk HF.out (by omega) (by omega) (by decide) HPN.out.symm (HRP.out.below (B0.out.trans (HA.out.bel A0.out.disk B0.out.size))) (far_bytes HA.out.disk rfl HRP.out) (by rw [HPN.out]; omega) HEA.out).mono ?_
          rintro e wA ⟨rfl, dA, ha, hf⟩
          replace HS := Lib.hid (HS.out.aft ha)
          replace HA := Lib.hid (HA.out.trans ha)
          replace HF := Lib.hid (hf.mono (K' := 1) (L' := 2000 * min (j + 1) 20) (by omega) (by rw [HPN.out]; omega))
          clear ha hf
          have HRPA := Lib.hid (HRP.out.below (B0.out.trans (HA.out.bel A0.out.disk B0.out.size)))
          have HLP : Hid ((b8s p).length = pn * 1) := Lib.hid (by rw [b8s_length, HPN.out, Nat.mul_one])
          have HSO : Hid (wA.ownsRow w1.heap.size 5 1 (.slice Aa bn ca) bn (b8s bs)) := Lib.hid (by have := HS.out.own; rw [HBN.out] at this; exact this)
          have HSZ : Hid (w1.heap.size ≤ wA.heap.size) := Lib.hid HA.out.frm.size
          have HS0 := HS
          go_wp2_with (at_builtin; refine wpList_append_rd _ rfl _ _ 27 rfl w1.heap.size 5 _ 1 1 Try.underlying27 info_u8 rfl (by decide) (.slice Aa bn ca) bn _ rfl HSO.out Ap pn cp (b8s p) rfl HLP.out HRPA.out (b8s_one' _) (by unfold maxLen; omega) (by omega) HSZ.out ?_; intro v7 w7 ho7 hg7 hvb7; obtain ⟨A7, c7, e7, _⟩ := own_slice ho7; subst e7; have HO7 := Lib.hid ho7; have HG7 := Lib.hid hg7; have HV7 := Lib.hid hvb7; clear ho7 hg7 hvb7)
          replace HS : Hid (Side w1.heap.size g w7 dA (.slice A7 (bn + pn) c7) (bs ++ p)) := Lib.hid ⟨by rw [List.length_append, HBN.out, HPN.out, b8s_append]; exact HO7.out, fun b hb hf => by
            rcases HV7.out with e | e
            · rw [e] at hb
              exact HS.out.far b hb hf
            · rw [e] at hb
              cases hb
              have := HA.out.disk.foot_lt hf
              omega⟩
          replace HA := Lib.hid (HA.out.side HG7.out (fun b hb => ⟨(HSO.out.lt b hb).1, HS0.out.far b hb⟩))
          replace HBN : Hid ((bs ++ p).length = bn + pn) := Lib.hid (by rw [List.length_append, HBN.out, HPN.out])
          clear HO7 HG7 HV7 HSO HLP HRPA HSZ HEA HS0
          obtain ⟨bq, hbq⟩ : ∃ bq, bn + pn = bq := ⟨_, rfl⟩
          rw [hbq] at HS HBN
          rw [← HAE.out]
          go_roundg (n - (j + 1))
          case measure => omega
          case rel => exact ⟨j + 1, bs ++ p, sf, φa, δa, A7, bq, c7, dA, by omega, rfl, by first | rfl | rw [hbq], rfl, by first | rfl | exact congrArg (Value.int .i64) (by omega) | go_num, HBN, HA, HF, HS⟩
        · have HEA := Lib.hid hea
          rw [HBN.out] at hlen
          clear hea
          go_wp2_with fail
          refine (append_st (bs := p) HA.out.disk HF.out (by omega) (by omega) (by decide) HPN.out.symm (HRP.out.below (B0.out.trans (HA.out.bel A0.out.disk B0.out.size))) (far_bytes HA.out.disk rfl HRP.out) (by rw [HPN.out]; omega) HEA.out).mono ?_
          rintro e wA ⟨rfl, dA, ha, hf⟩
          replace HS := Lib.hid (HS.out.aft ha)
          replace HA := Lib.hid (HA.out.trans ha)
          replace HF := Lib.hid (hf.mono (K' := 1) (L' := 2000 * min (j + 1) 20) (by omega) (by rw [HPN.out]; omega))
          clear ha hf
          go_wp2_with fail
          rw [← HAE.out]
          go_roundg (n - (j + 1))
          case measure => omega
          case rel => exact ⟨j + 1, bs, sf, φa, δa, Aa, bn, ca, dA, by omega, rfl, by first | rfl | rw [hbq], rfl, by first | rfl | exact congrArg (Value.int .i64) (by omega) | go_num, HBN, HA, HF, HS⟩
  · obtain rfl : j = n := by omega
    obtain ⟨hbl, hsl⟩ := kst_fit HF.out
    rw [HBN.out] at hbl hsl
    have hb4 : bn ≤ 40000 := by omega
    obtain ⟨k, hk⟩ : ∃ k : Nat, min (max keep 0) ((bn - sf : Nat) : Int) = (k : Int) := ⟨(min (max keep 0) ((bn - sf : Nat) : Int)).toNat, by omega⟩
    obtain ⟨q, hq⟩ : ∃ q, sf + k = q := ⟨_, rfl⟩
    have HCR := Lib.hid (kst_crash bs sf φ δ (by rw [HBN.out]; exact hsl) turns keep q (by rw [HBN.out, hk]; omega))
    have L3 := Lib.hid (lit_args HA.out.disk [.int .i64 keep] 3 (0, 0))
    have hqn : q ≤ bn ∧ sf ≤ q := by omega
    go_wp2_with fail
    refine (crash_st (keep := [keep]) L3.out.1.disk HF.out (by omega) (by omega) rfl (Nat.le_refl _) (by simp) L3.out.2.1 L3.out.2.2 rfl).mono ?_
    rintro e w14 ⟨rfl, d14, ha, hf⟩
    have A14 := Lib.hid ((HA.out.trans L3.out.1).trans ha)
    have S14 := Lib.hid ((HS.out.aft L3.out.1).aft ha)
    have F14 := Lib.hid hf
    clear ha hf HA L3 HS HF
    go_wp2_with fail
    refine (read_st A14.out.disk F14.out (by omega) (by omega) (by decide) HCR.out).mono ?_
    rintro e w15 ⟨v, rfl, ho⟩
    obtain ⟨Az, nz, cz, rfl, hnz, _, _, hrz, _⟩ := ho.sliceN
    have A15 := Lib.hid (A14.out.then ho.bel)
    have S15 := Lib.hid (S14.out.aft (Aft.below A14.out.disk ho.bel))
    have HZ := Lib.hid hrz
    obtain rfl : q = nz := by rw [hnz, List.length_take, HBN.out]; omega
    have hbk : Hid ((bs.take q).length = q) := Lib.hid hnz.symm
    have HAL : Hid (Rd w15 Aa (b8s (bs.take q))) := Lib.hid (by rw [b8s_take]; exact (own_rd S15.out.own).take q)
    obtain ⟨Aa', ca', e', hca', _⟩ := own_slice S15.out.own
    have hcz : (q : Int) ≤ (ca : Int) := by
      cases e'
      rw [HBN.out] at hca'
      omega
    clear ho hrz A14 S14 hnz e' hca'
    have i5 : ¬ ((q : Int) < (sf : Int)) := by omega
    have i6 : ¬ ((bn : Int) < (q : Int)) := by omega
    have hmx := fun (w : World) => run_max2c (P := Try.prog) w #[3, 3] 3 .i64 .i64 keep 0
    have hw1 : IntKind.i64.wrap ((bn : Int) - (sf : Int)) = (bn : Int) - (sf : Int) := by rw [IntKind.wrap_i64]; omega
    have hmn : ∀ w : World, (Builtin.min_ #[3, 3] 3 #[.int .i64 (max keep 0), .int .i64 ((bn : Int) - (sf : Int))]).run Try.prog w = .ok (.int .i64 (k : Int)) w := fun w => by rw [run_min2c]; exact congrArg (fun x => Result.ok (Value.int .i64 x) w) (by omega)
    have hw2 : IntKind.i64.wrap ((sf : Int) + (k : Int)) = (q : Int) := by rw [IntKind.wrap_i64]; omega
    have z3 : ((q : Int) == (q : Int)) = true := by simp
    clear hk hq
    go_wp2_with fail
    refine (same_n true Az Aa (bs.take q) (bs.take q) cz ca w15 HZ.out HAL.out q q hbk.out.symm hbk.out.symm (by rw [hbk.out]; omega) (by rw [hbk.out]; omega) (decide_eq_true rfl)).mono ?_
    rintro e w16 ⟨rfl, hb⟩
    have A16 := Lib.hid (A15.out.then hb)
    clear hb
    go_wp2_with fail
    go_ret
    exact ⟨rfl, B0.out.trans (A16.out.bel A0.out.disk B0.out.size)⟩
end Go.Proofs.Ytpmifpblamjclaa
