/- Refs: Open of a disk whose file of refs is there. (Printed by wip/genRf32.py.) -/
import Derived.Test.YtelbofikcpchiaaGreatQS
import Derived.Test.YtelbofikcpchiaaGreatQP
namespace Go.Proofs.YtelbofikcpchiaaGreat
open Go.RowKit
theorem t0_ok : TxOk t0 := ⟨rfl, by simp [t0], by simp [t0], by simp [t0]⟩
theorem split_ok (bs : List UInt8) : TxOk (splitP bs).1 ∧ (splitP bs).1.us.length ≤ 64 ∧ ((splitP bs).2.2 = true → 0 < (splitP bs).2.1 ∧ (splitP bs).2.1 ≤ bs.length) := by
 unfold splitP
 cases hf : (getFour (getNum (some bs) 1048576).2).2 with
 | none => simp only [hf]; exact ⟨t0_ok, by simp, by simp⟩
 | some rest =>
   simp only [hf]
   by_cases hl : rest.length < (getNum (some bs) 1048576).1
   ·rw [if_pos hl]; exact ⟨t0_ok, by simp, by simp⟩
   ·rw [if_neg hl]
    have h1 := parse_ok (rest.take (getNum (some bs) 1048576).1)
    refine ⟨h1.1, h1.2, fun _ => ?_⟩
    dsimp only
    have h2 := (left_suff hf).2
    have h4 : rest.length < bs.length := by
     cases hn : numS 1048576 9 0 0 bs with
     | none =>
       rw [getNum_none hn] at hf
       simp [getFour, getN] at hf
     | some v =>
       obtain ⟨a, b⟩ := v
       have h5 := (numS_le _ _ _ _ _ _ _ hn).2.2
       rw [getNum_some hn] at hf
       have h6 := getFour_left (some b)
       rw [hf] at h6
       have h7 : leftS (some rest) = rest.length := rfl
       have h8 : leftS (some b) = b.length := rfl
       omega
    omega
theorem rf0_ok0 : RfOk rf0 where
 al := rfl
 ids := by intro p hp; simp [rf0] at hp
 log := by intro u hu; simp [rf0] at hu
 rn := List.Pairwise.nil
 hd := by decide
theorem rd_take_b8 {w : World} {A : Option Addr} {bs : List UInt8} (h : Rd w A (b8s bs)) (k : Nat) : Rd w A (b8s (bs.take k)) := by
 have h1 := Rd.take h k
 have e : b8s (bs.take k) = (b8s bs).take k := by simp [b8s, List.map_take]
 rw [e]
 exact h1
theorem makeR_all (r : RfM) (T : TxM) : (makeR r T).all.length ≤ r.all.length + T.us.length := by
 show (T.us.foldl updA r.all).length ≤ _
 generalize T.us = us
 generalize r.all = al
 induction us generalizing al with
 | nil => simp
 | cons u us ih =>
   have h1 := ih (updA al u)
   have h2 : (updA al u).length ≤ al.length + 1 := by
    have h3 := putA_length al u.name u.new
    unfold updA
    split
    ·have := delA_length (putA al u.name u.new) u.name; omega
    ·exact h3
   simp only [List.foldl_cons, List.length_cons]
   omega
set_option maxRecDepth 100000 in
set_option maxHeartbeats 16000000 in
theorem open_old {N g K L G : Nat} {m m' : DM} {d : DA} {w : World} {bs : List UInt8} {R : RfM} (h : DiskIn N w g m d) (hf : Fit K L m) (hK : K < 999990) (hL : L ≤ 1000000000000)
  (he0 : readM m refsB = (bs, 0)) (hbl : bs.length ≤ 10000) (hop : openP (bs.length + 1) rf0 bs 0 = (R, G))
  (hsame : G = bs.length → m' = m) (hre : G ≠ bs.length → ∃ f m1 m2 m3 m4, m.now = [(refsB, f)] ∧ createM m tmpB = (m1, 0) ∧ appendM m1 tmpB (bs.take G) = (m2, 0) ∧ syncM m2 tmpB = (m3, 0) ∧ renameM m3 tmpB refsB = (m4, 0) ∧ flushM m4 = (m', 0)) :
  Calls Tryz.prog 9 #[.pointer (some ⟨g, 0, none⟩)] w fun e w' => ∃ gr, e = .returned (.tuple #[.pointer (some ⟨gr, 0, none⟩), .int .i64 0]) ∧ (∃ d' q, DR N w' g m' d' gr R q ∧ Aft N g w w' m' d d') ∧ Fit (K + 2) (L + 10000) m' ∧ RfOk R ∧ R.stuck = false ∧ Below N w w' := by
 have hmm := @run_makeMap Tryz.prog
 obtain ⟨mb, hmb⟩ := eX w.heap.size
 obtain ⟨q, hq⟩ : ∃ q : QA, q = ⟨mb, .slice none 0 0⟩ := ⟨_, rfl⟩
 obtain ⟨lr, hlr⟩ := eX ((rowR g q rf0))
 have HRB : Hid (Tryz.prog.built 83 [(0, .pointer (some ⟨g, 0, none⟩)), (1, .map (some mb)), (2, .string ⟨#[104, 101, 97, 100, 115, 47, 109, 97, 105, 110]⟩)] = some lr.toArray) := h_ (by rw [← hlr, hq]; exact refs_built g mb)
 obtain ⟨W1, hW1⟩ := eX (w.alloc (.map #[] 0))
 obtain ⟨gr, hgr⟩ := eX W1.heap.size
 obtain ⟨W2, hW2⟩ := eX (W1.alloc (.cells lr.toArray 83))
 have hgs : gr = mb + 1 := by rw [← hgr, ← hW1, ← hmb]; simp
 obtain ⟨r2, b2, s2⟩ := new_row hW2
 rw [hgr] at r2
 have b1 : Below w.heap.size w W1 := by rw [← hW1]; exact (Below.refl _ _).alloc (Nat.le_refl _) _
 have hb12 : Below w.heap.size w W2 := b1.trans (b2.mono b1.size)
 have hNw := h.size
 have HDR : Hid (DR N W2 g m d gr rf0 q) := h_ (by
  refine ⟨h.below hb12, ⟨by rw [hlr]; exact r2, ?_, by rw [hq]; exact World.ownsRow_nil _ _ _ _, ⟨by omega, by rw [hq]; show N ≤ mb; omega⟩⟩, fun b hb hfo => ?_⟩
  ·have h1 := World.ownsMap_made w Tryz.prog 9 idR
   rw [hmb, hW1] at h1
   have h2 := h1.alloc (.cells lr.toArray 83)
   rw [hW2] at h2
   rw [hq]
   exact h2
  ·have h1 := h.foot_lt hfo
   rcases hb with rfl | rfl | h2
   ·omega
   ·rw [hq] at h1
    have : mb < w.heap.size := h1
    omega
   ·rw [hq] at h2
    cases h2)
 have HB2 := h_ hb12
 have HD0 := h_ h
 have HGE : Hid (∀ b, footR gr q b → w.heap.size ≤ b) := h_ (fun b hb => by
  rcases hb with rfl | rfl | h2
  ·omega
  ·rw [hq]; show w.heap.size ≤ mb; omega
  ·rw [hq] at h2; cases h2)
 have HF := h_ hf
 have HE0 := h_ he0
 have HNW := h_ hNw
 have HOP := h_ hop
 have HSM := h_ hsame
 have HRE := h_ hre
 clear h hf he0 hlr r2 b2 s2 b1 hb12 hq hNw hop hsame hre
 go_enter Tryz.func9, Tryz.ntmps9
 go_wp2_with (first
  | ((with_reducible (refine wpList_built ?_ _ #[(0, .tmp 12), (1, .tmp 13), (2, .const (.string ⟨#[104, 101, 97, 100, 115, 47, 109, 97, 105, 110]⟩))] ?_ _ ?_ _ HRB.out ?_)); exact rfl; exact rfl; (exact rfl)))
 clear hW1 hW2 hgr hmb hmm
 refine (read_st (S := ⟨#[114, 101, 102, 115]⟩) HDR.out.disk HF.out (by omega) (by omega) (by decide) HE0.out).mono ?_
 rintro e w3 ⟨v3, rfl, ho3⟩
 have HDR3 := h_ (HDR.out.below ho3.bel)
 have HB3 := h_ (HB2.out.trans (ho3.bel.mono HB2.out.size))
 have HW2Z : Hid (∀ b, (foot g d b ∨ footR gr q b) → b < W2.heap.size) := h_ (fun b hb => by
  rcases hb with hb | hb
  ·exact HDR.out.disk.foot_lt hb
  ·exact HDR.out.refs.foot_lt hb)
 obtain ⟨A, n, c, rfl, hn, hnc, hcm, hrd, hA⟩ := ho3.sliceN
 have HNL := h_ hn
 have HRD := h_ hrd
 have HAF : Hid (∀ a, A = some a → W2.heap.size ≤ a.block ∧ a.block < w3.heap.size) := h_ hA
 have hnm : n ≤ 10000 := by omega
 have HFT : Hid (∀ a, A = some a → ¬ foot g d a.block ∧ ¬ footR gr q a.block) := h_ (fun a ha => by
  have h1 := (HAF.out a ha).1
  exact ⟨fun hf => by have := HW2Z.out _ (.inl hf); omega, fun hf => by have := HW2Z.out _ (.inr hf); omega⟩)
 have HMB : Hid (q.mb = q.mb) := h_ rfl
 clear ho3 hn hrd hA hcm
 subst hgs
 obtain ⟨gr, hgr⟩ := eX (mb + 1)
 rw [hgr] at HDR3 HFT HGE ⊢
 clear HDR HW2Z hgr HB2
 have HB3S : Hid (N ≤ w3.heap.size) := h_ (Nat.le_trans HNW.out HB3.out.size)
 obtain ⟨lz, hlz⟩ := eX (txC none 0 0 t0)
 have hlz' : lz.toArray = #[Value.slice none 0 0, .string ⟨#[]⟩, Value.int .u8 0, .int .u8 0, .int .u8 0, .int .u8 0, .int .u8 0, .int .u8 0, .int .u8 0, .int .u8 0, .int .u8 0, .int .u8 0, .int .u8 0, .int .u8 0, .int .u8 0, .int .u8 0, .int .u8 0, .int .u8 0, .int .u8 0, .int .u8 0, .int .u8 0, .int .u8 0, .int .u8 0, .int .u8 0, .int .u8 0, .int .u8 0, .int .u8 0, .int .u8 0, .int .u8 0, .int .u8 0, .int .u8 0, .int .u8 0, .int .u8 0, .int .u8 0] := by rw [← hlz]; rfl
 have HLZ := h_ hlz'
 have HLZL : Hid (lz.length = 34) := h_ (by rw [← hlz]; exact txC_len rfl)
 clear hlz hlz'
 have i0 : (0 : Int) ≤ (c : Int) := by omega
 go_wp2_with fail
 go_loopg [7] (n * 1) (fun gk_ gv wr => ∃ (gd f : Nat) (r : RfM) (q' : QA), gd ≤ n ∧ gk_ = n - gd ∧ gv = .int .i64 (gd : Int) ∧ Hid (n - gd < f ∧ openP (bs.length + 1) rf0 bs 0 = openP f r bs gd) ∧ Hid (RfOk r ∧ r.stuck = false ∧ r.all.length ≤ 64 * gd ∧ r.log.length ≤ 64 * gd) ∧ Hid (DR N wr g m d gr r q') ∧ Hid (Rd wr A (b8s bs)) ∧ Hid (∀ a, A = some a → ¬ foot g d a.block ∧ ¬ footR gr q' a.block) ∧ Hid (Below w.heap.size w wr) ∧ Hid (∀ a, A = some a → a.block < wr.heap.size) ∧ Hid (∀ b, footR gr q' b → w.heap.size ≤ b))
 case atStart => exact ⟨0, bs.length + 1, rf0, q, by omega, by omega, rfl, h_ ⟨by rw [HNL.out]; omega, rfl⟩, h_ ⟨rf0_ok0, rfl, by simp [rf0], by simp [rf0]⟩, HDR3, HRD, HFT, HB3, h_ (fun a ha => (HAF.out a ha).2), HGE⟩
 case round =>
 clear HDR3 HRD HFT HB3 HAF HGE
 obtain ⟨gd, f, r, q', hgn, rfl, rfl, HFU, HOK, HDR, HRD, HFT, HBW, HAL, HGE⟩ := hrel
 have HRQ : Hid (Rd wr (if c = gd then A else A.map (·.add gd)) (b8s (bs.drop gd))) := h_ (by
  have h1 := Rd.drop (k := gd) (size := 1) (cap := c) HRD.out (by rw [b8s_length, ← HNL.out]; omega)
  rw [Nat.mul_one] at h1
  have e : b8s (bs.drop gd) = (b8s bs).drop gd := by simp [b8s, List.map_drop]
  rw [e]
  exact h1)
 have HSO := h_ (split_ok (bs.drop gd))
 have HDL : Hid ((bs.drop gd).length = n - gd) := h_ (by rw [List.length_drop, HNL.out])
 have g1 : (gd : Int) ≤ (n : Int) := by omega
 have g2 : gd ≤ c := by omega
 by_cases hcn : c = gd
 ·go_wp2_with fail
  rw [if_pos hcn] at HRQ
  refine (split_any _ _ _ (bs.drop gd) (by rw [HDL.out]) (by omega) wr HRQ.out (by rw [HDL.out]; omega)).mono ?_
  rintro e w6 ⟨Ai, ci, rfl, hrd6, hfr6, hb6⟩
  obtain ⟨T, hT⟩ := eX ((splitP (bs.drop gd)).1)
  obtain ⟨k, hk⟩ := eX ((splitP (bs.drop gd)).2.1)
  obtain ⟨ok, hok⟩ := eX ((splitP (bs.drop gd)).2.2)
  have HTE := h_ hT
  have HKE := h_ hk
  have HOE := h_ hok
  have hso := HSO.out
  rw [hT, hk, hok, HDL.out] at hso
  have HTO : Hid (TxOk T ∧ T.us.length ≤ 64) := h_ ⟨hso.1, hso.2.1⟩
  have HKN : Hid (ok = true → 0 < k ∧ k ≤ n - gd) := h_ hso.2.2
  rw [hT] at hrd6
  rw [hT, hk, hok]
  have HRD6 := h_ hrd6
  have HFA6 := h_ hfr6
  have HD6 := h_ (HDR.out.below hb6)
  have HR6 := h_ (HRD.out.below hb6)
  have HB6 := bt_ HBW hb6
  have HZ6 : Hid (wr.heap.size ≤ w6.heap.size) := h_ hb6.size
  clear hT hk hok hso hrd6 hfr6 hb6
  obtain ⟨p8, hp8⟩ := eX w6.heap.size
  obtain ⟨W7, hW7⟩ := eX (w6.alloc (.cells #[Value.slice none 0 0, .string ⟨#[]⟩, Value.int .u8 0, .int .u8 0, .int .u8 0, .int .u8 0, .int .u8 0, .int .u8 0, .int .u8 0, .int .u8 0, .int .u8 0, .int .u8 0, .int .u8 0, .int .u8 0, .int .u8 0, .int .u8 0, .int .u8 0, .int .u8 0, .int .u8 0, .int .u8 0, .int .u8 0, .int .u8 0, .int .u8 0, .int .u8 0, .int .u8 0, .int .u8 0, .int .u8 0, .int .u8 0, .int .u8 0, .int .u8 0, .int .u8 0, .int .u8 0, .int .u8 0, .int .u8 0] 28))
  obtain ⟨r7, b7, s7⟩ := new_row hW7
  rw [hp8, ← HLZ.out] at r7
  have hll : (txC Ai T.us.length ci T).length = 34 := txC_len HTO.out.1.al
  obtain ⟨W8, hW8, T8, R8, G8⟩ := put_rowR (new := txC Ai T.us.length ci T) r7 (by rw [hll, HLZL.out])
  have b8 : Below w6.heap.size w6 W8 := bel_grown b7 b7.size G8.out (by omega)
  have HD8 := h_ (HD6.out.below b8)
  have HR8 := h_ (HR6.out.below b8)
  have HB8 := bt_ HB6 b8
  have HRT8 := h_ (HRD6.out.below b8)
  have HZ8 : Hid (wr.heap.size ≤ W8.heap.size) := h_ (Nat.le_trans HZ6.out b8.size)
  have HIL := h_ (info_txl (A := Ai) (n := T.us.length) (c := ci) HTO.out.1.al)
  have HIA := h_ (info_txa (A := Ai) (n := T.us.length) (c := ci) HTO.out.1.al)
  have HOC : Hid ((txC Ai T.us.length ci T).toArray.all (·.oneCell') = true) := h_ (all_oneCell_toArray (txC_one _ _ _ _))
  have HROW8 := h_ R8.out
  have HCK := h_ (check_any HD8.out.refs HOK.out.1 Ai T.us.length ci T rfl HTO.out.1 HRT8.out)
  have HMK : Hid (∀ W, RfIn N W gr g r q' → Rd W Ai (upsC T.us) → N ≤ W.heap.size → _) := h_ (fun W (h1 : RfIn N W gr g r q') (h2 : Rd W Ai (upsC T.us)) (h3 : N ≤ W.heap.size) => make_any h1 HOK.out.1 Ai T.us.length ci T rfl HTO.out.1 h2 (fun _ a ha hfo => by
   have h4 := HFA6.out a ha
   have h5 := HDR.out.refs.foot_lt hfo
   omega) ⟨by have := HOK.out.2.2.1; omega, by have := HOK.out.2.2.2; omega⟩ h3)
  have HW8 := h_ hW8
  have HT8 := h_ T8.out
  obtain ⟨lt, hlt_⟩ := eX (txC Ai T.us.length ci T)
  have HLT := h_ hlt_
  rw [hlt_] at HIL HIA HOC HROW8 HCK HMK HW8 HT8 ⊢
  clear r7 b7 s7 hll hW8 T8 R8 G8 b8 hlt_
  obtain ⟨z, hz⟩ := eX (checkR r T)
  have HZE := h_ hz
  rw [hz] at HCK
  clear hz
  have HOPS : Hid (openP f r bs gd = if ok = false ∨ z ≠ 0 then (r, gd) else openP (f - 1) (makeR r T) bs (gd + k)) := h_ (by
   have hf1 : f = (f - 1) + 1 := by have := HFU.out.1; omega
   rw [hf1]
   simp only [openP, HTE.out, HKE.out, HOE.out, HZE.out]
   rfl)
  go_wp2_with (((with_reducible (refine wpList_store_mid rfl _ _ _ rfl ?_ ?_ ?_ ?_ ?_ ?_ ?_ ?_ ?_)); exact p8; exact 0; (exact (lt).toArray); exact rfl; exact rfl; exact HT8.out; exact HIA.out; exact HOC.out; rw [HW8.out]); refine Stop.out ?_)
  clear hp8 hW7
  cases ok with
  | false =>
    have HRG : Hid (r = R ∧ gd = G) := h_ (by
     have h1 := HOP.out
     rw [HFU.out.2, HOPS.out, if_pos (.inl rfl)] at h1
     exact ⟨congrArg Prod.fst h1, congrArg Prod.snd h1⟩)
    obtain ⟨WX, hWX⟩ := eX W8
    have HDX : Hid (DR N W8 g m d gr r q') := HD8
    have HBX : Hid (Below w.heap.size w W8) := HB8
    have HRX : Hid (Rd W8 A (b8s bs)) := HR8
    clear hWX
    refine Stop.mk ?_
    by_cases hg : gd = n
    ·have hmm' : Hid (m' = m) := h_ (HSM.out (by rw [← HRG.out.2, hg, HNL.out]))
     have z9 : ¬ (gd : Int) < (n : Int) := by omega
     clear hg
     go_wp2_with fail
     go_ret2
     refine ⟨gr, rfl, ⟨d, ⟨q', ?_⟩, ?_⟩, ?_, ?_, ?_, HBX.out.mono HNW.out⟩
     ·have h9 := HDX.out; rw [HRG.out.1, ← hmm'.out] at h9; exact h9
     ·have h9 := Aft.below HD0.out HBX.out; rw [← hmm'.out] at h9; exact h9
     ·rw [hmm'.out]; exact HF.out.mono (by omega) (by omega)
     ·have h9 := HOK.out.1; rw [HRG.out.1] at h9; exact h9
     ·have h9 := HOK.out.2.1; rw [HRG.out.1] at h9; exact h9
    ·exact absurd (by omega) hg
  | true =>
    have hkn := HKN.out rfl
    exfalso
    omega
 ·go_wp2_with fail
  rw [if_neg hcn] at HRQ
  refine (split_any _ _ _ (bs.drop gd) (by rw [HDL.out]) (by omega) wr HRQ.out (by rw [HDL.out]; omega)).mono ?_
  rintro e w6 ⟨Ai, ci, rfl, hrd6, hfr6, hb6⟩
  obtain ⟨T, hT⟩ := eX ((splitP (bs.drop gd)).1)
  obtain ⟨k, hk⟩ := eX ((splitP (bs.drop gd)).2.1)
  obtain ⟨ok, hok⟩ := eX ((splitP (bs.drop gd)).2.2)
  have HTE := h_ hT
  have HKE := h_ hk
  have HOE := h_ hok
  have hso := HSO.out
  rw [hT, hk, hok, HDL.out] at hso
  have HTO : Hid (TxOk T ∧ T.us.length ≤ 64) := h_ ⟨hso.1, hso.2.1⟩
  have HKN : Hid (ok = true → 0 < k ∧ k ≤ n - gd) := h_ hso.2.2
  rw [hT] at hrd6
  rw [hT, hk, hok]
  have HRD6 := h_ hrd6
  have HFA6 := h_ hfr6
  have HD6 := h_ (HDR.out.below hb6)
  have HR6 := h_ (HRD.out.below hb6)
  have HB6 := bt_ HBW hb6
  have HZ6 : Hid (wr.heap.size ≤ w6.heap.size) := h_ hb6.size
  clear hT hk hok hso hrd6 hfr6 hb6
  obtain ⟨p8, hp8⟩ := eX w6.heap.size
  obtain ⟨W7, hW7⟩ := eX (w6.alloc (.cells #[Value.slice none 0 0, .string ⟨#[]⟩, Value.int .u8 0, .int .u8 0, .int .u8 0, .int .u8 0, .int .u8 0, .int .u8 0, .int .u8 0, .int .u8 0, .int .u8 0, .int .u8 0, .int .u8 0, .int .u8 0, .int .u8 0, .int .u8 0, .int .u8 0, .int .u8 0, .int .u8 0, .int .u8 0, .int .u8 0, .int .u8 0, .int .u8 0, .int .u8 0, .int .u8 0, .int .u8 0, .int .u8 0, .int .u8 0, .int .u8 0, .int .u8 0, .int .u8 0, .int .u8 0, .int .u8 0, .int .u8 0] 28))
  obtain ⟨r7, b7, s7⟩ := new_row hW7
  rw [hp8, ← HLZ.out] at r7
  have hll : (txC Ai T.us.length ci T).length = 34 := txC_len HTO.out.1.al
  obtain ⟨W8, hW8, T8, R8, G8⟩ := put_rowR (new := txC Ai T.us.length ci T) r7 (by rw [hll, HLZL.out])
  have b8 : Below w6.heap.size w6 W8 := bel_grown b7 b7.size G8.out (by omega)
  have HD8 := h_ (HD6.out.below b8)
  have HR8 := h_ (HR6.out.below b8)
  have HB8 := bt_ HB6 b8
  have HRT8 := h_ (HRD6.out.below b8)
  have HZ8 : Hid (wr.heap.size ≤ W8.heap.size) := h_ (Nat.le_trans HZ6.out b8.size)
  have HIL := h_ (info_txl (A := Ai) (n := T.us.length) (c := ci) HTO.out.1.al)
  have HIA := h_ (info_txa (A := Ai) (n := T.us.length) (c := ci) HTO.out.1.al)
  have HOC : Hid ((txC Ai T.us.length ci T).toArray.all (·.oneCell') = true) := h_ (all_oneCell_toArray (txC_one _ _ _ _))
  have HROW8 := h_ R8.out
  have HCK := h_ (check_any HD8.out.refs HOK.out.1 Ai T.us.length ci T rfl HTO.out.1 HRT8.out)
  have HMK : Hid (∀ W, RfIn N W gr g r q' → Rd W Ai (upsC T.us) → N ≤ W.heap.size → _) := h_ (fun W (h1 : RfIn N W gr g r q') (h2 : Rd W Ai (upsC T.us)) (h3 : N ≤ W.heap.size) => make_any h1 HOK.out.1 Ai T.us.length ci T rfl HTO.out.1 h2 (fun _ a ha hfo => by
   have h4 := HFA6.out a ha
   have h5 := HDR.out.refs.foot_lt hfo
   omega) ⟨by have := HOK.out.2.2.1; omega, by have := HOK.out.2.2.2; omega⟩ h3)
  have HW8 := h_ hW8
  have HT8 := h_ T8.out
  obtain ⟨lt, hlt_⟩ := eX (txC Ai T.us.length ci T)
  have HLT := h_ hlt_
  rw [hlt_] at HIL HIA HOC HROW8 HCK HMK HW8 HT8 ⊢
  clear r7 b7 s7 hll hW8 T8 R8 G8 b8 hlt_
  obtain ⟨z, hz⟩ := eX (checkR r T)
  have HZE := h_ hz
  rw [hz] at HCK
  clear hz
  have HOPS : Hid (openP f r bs gd = if ok = false ∨ z ≠ 0 then (r, gd) else openP (f - 1) (makeR r T) bs (gd + k)) := h_ (by
   have hf1 : f = (f - 1) + 1 := by have := HFU.out.1; omega
   rw [hf1]
   simp only [openP, HTE.out, HKE.out, HOE.out, HZE.out]
   rfl)
  go_wp2_with (((with_reducible (refine wpList_store_mid rfl _ _ _ rfl ?_ ?_ ?_ ?_ ?_ ?_ ?_ ?_ ?_)); exact p8; exact 0; (exact (lt).toArray); exact rfl; exact rfl; exact HT8.out; exact HIA.out; exact HOC.out; rw [HW8.out]); refine Stop.out ?_)
  clear hp8 hW7
  cases ok with
  | false =>
    have HRG : Hid (r = R ∧ gd = G) := h_ (by
     have h1 := HOP.out
     rw [HFU.out.2, HOPS.out, if_pos (.inl rfl)] at h1
     exact ⟨congrArg Prod.fst h1, congrArg Prod.snd h1⟩)
    obtain ⟨WX, hWX⟩ := eX W8
    have HDX : Hid (DR N W8 g m d gr r q') := HD8
    have HBX : Hid (Below w.heap.size w W8) := HB8
    have HRX : Hid (Rd W8 A (b8s bs)) := HR8
    clear hWX
    refine Stop.mk ?_
    by_cases hg : gd = n
    ·have hmm' : Hid (m' = m) := h_ (HSM.out (by rw [← HRG.out.2, hg, HNL.out]))
     have z9 : ¬ (gd : Int) < (n : Int) := by omega
     clear hg
     go_wp2_with fail
     go_ret2
     refine ⟨gr, rfl, ⟨d, ⟨q', ?_⟩, ?_⟩, ?_, ?_, ?_, HBX.out.mono HNW.out⟩
     ·have h9 := HDX.out; rw [HRG.out.1, ← hmm'.out] at h9; exact h9
     ·have h9 := Aft.below HD0.out HBX.out; rw [← hmm'.out] at h9; exact h9
     ·rw [hmm'.out]; exact HF.out.mono (by omega) (by omega)
     ·have h9 := HOK.out.1; rw [HRG.out.1] at h9; exact h9
     ·have h9 := HOK.out.2.1; rw [HRG.out.1] at h9; exact h9
    ·have z9 : (gd : Int) < (n : Int) := by omega
     obtain ⟨f0, m1, m2, m3, m4, k0, k1, k2, k3, k4, k5⟩ := HRE.out (by rw [← HRG.out.2, ← HNL.out]; exact hg)
     rw [← HRG.out.2] at k2
     have HRN := h_ (renew_new (c := c) HDX.out.disk HF.out hK hL (n := gd) (by rw [List.length_take, ← HNL.out]; omega) (rd_take_b8 HRX.out gd) (fun _ a ha => (HFT.out a ha).1) (by rw [List.length_take]; omega) k0 k1 k2 k3 k4 k5)
     clear hg k0 k1 k2 k3 k4 k5
     go_wp2_with fail
     refine HRN.out.mono ?_
     rintro e wZ ⟨rfl, dZ, haZ, hfZ⟩
     have HDZ := h_ (HDX.out.aft haZ)
     have HAZ := h_ ((Aft.below HD0.out HBX.out).trans haZ)
     have HBZ : Hid (Below N w wZ) := h_ (HAZ.out.bel HD0.out HNW.out)
     have HFZ : Hid (Fit (K + 2) (L + 10000) m') := h_ (hfZ.mono (Nat.le_refl _) (by rw [List.length_take]; omega))
     clear haZ hfZ HRN
     go_wp2_with fail
     go_ret2
     refine ⟨gr, rfl, ⟨dZ, q', ?_, HAZ.out⟩, HFZ.out, ?_, ?_, HBZ.out⟩
     ·have h9 := HDZ.out; rw [HRG.out.1] at h9; exact h9
     ·have h9 := HOK.out.1; rw [HRG.out.1] at h9; exact h9
     ·have h9 := HOK.out.2.1; rw [HRG.out.1] at h9; exact h9
  | true =>
    have hkn := HKN.out rfl
    refine Stop.mk ?_
    go_wp2_with (first
     | ((with_reducible (refine wpList_load_row_w _ _ rfl _ rfl _ _ _ _ HROW8.out Tryz.underlying28 rfl HIA.out ?_ ?_)); (focus (rfl))))
    refine HCK.out.mono ?_
    rintro e w9 ⟨rfl, hb9⟩
    have HD9 := h_ (HD8.out.below hb9)
    have HR9 := h_ (HR8.out.below hb9)
    have HB9 := bt_ HB8 hb9
    have HROW9 := bl_ hb9 HROW8
    have HRT9 := h_ (HRT8.out.below hb9)
    have HZ9 : Hid (wr.heap.size ≤ w9.heap.size) := h_ (Nat.le_trans HZ8.out hb9.size)
    clear hb9
    by_cases hz0 : z = 0
    ·have HGO : Hid (openP (bs.length + 1) rf0 bs 0 = openP (f - 1) (makeR r T) bs (gd + k)) := h_ (by rw [HFU.out.2, HOPS.out, if_neg (by simp [hz0])])
     subst hz0
     have HRG9 := h_ (range_of_row HROW9.out)
     have HMK9 := h_ (HMK.out w9 HD9.out.refs HRT9.out HD9.out.disk.size)
     obtain ⟨sg, hsg⟩ := eX (gd + k)
     have hgk : (gd : Int) + (k : Int) = (sg : Int) := by omega
     have hgw : wrap64 (sg : Int) = (sg : Int) := wrap_nat (by omega)
     have hgi : IntKind.i64.wrap ((gd : Int) + (k : Int)) = (sg : Int) := by rw [IntKind.wrap_i64]; omega
     go_wp2_with ((with_reducible (refine wpList_load_cells 28 _ p8 0 (lt) HRG9.out Tryz.underlying28 rfl HIL.out ?_ rfl ?_ ?_)); exact rfl; (exact rfl))
     refine HMK9.out.mono ?_
     rintro e wX ⟨rfl, lv, hrf, hfrm, hnew⟩
     have HDX : Hid (DR N wX g m d gr (makeR r T) ⟨q'.mb, lv⟩) := h_ ⟨HD9.out.disk.frm hfrm (fun b hb hfo => HD9.out.apart b hfo hb), hrf, fun b hb hfo => by
      rcases hb with rfl | rfl | h9
      ·exact HD9.out.apart _ (.inl rfl) hfo
      ·exact HD9.out.apart _ (.inr (.inl rfl)) hfo
      ·rcases hnew b h9.symm with h8 | h8
       ·exact HD9.out.apart b h8 hfo
       ·have := HD9.out.disk.foot_lt hfo; omega⟩
     have HRX : Hid (Rd wX A (b8s bs)) := h_ (HR9.out.keep fun a ha hlt => hfrm.block _ hlt (HFT.out a ha).2)
     have HBX : Hid (Below w.heap.size w wX) := h_ (HB9.out.trans (hfrm.below HB9.out.size (fun i hi => HGE.out i hi)))
     have HGX : Hid (∀ b, footR gr ⟨q'.mb, lv⟩ b → w.heap.size ≤ b) := h_ (fun b hb => by
      rcases hb with h9 | h9 | h9
      ·exact HGE.out b (.inl h9)
      ·exact HGE.out b (.inr (.inl h9))
      ·rcases hnew b h9.symm with h8 | h8
       ·exact HGE.out b h8
       ·exact Nat.le_trans HB9.out.size h8)
     have HFX : Hid (∀ a, A = some a → ¬ foot g d a.block ∧ ¬ footR gr ⟨q'.mb, lv⟩ a.block) := h_ (fun a ha => ⟨(HFT.out a ha).1, fun hfo => by
      rcases hfo with h9 | h9 | h9
      ·exact (HFT.out a ha).2 (.inl h9)
      ·exact (HFT.out a ha).2 (.inr (.inl h9))
      ·rcases hnew _ h9.symm with h8 | h8
       ·exact (HFT.out a ha).2 h8
       ·have := HAL.out a ha; have := HZ9.out; omega⟩)
     have HALX : Hid (∀ a, A = some a → a.block < wX.heap.size) := h_ (fun a ha => by have := HAL.out a ha; have := HZ9.out; have := hfrm.size; omega)
     have HOKX : Hid (RfOk (makeR r T) ∧ (makeR r T).stuck = false ∧ (makeR r T).all.length ≤ 64 * (gd + k) ∧ (makeR r T).log.length ≤ 64 * (gd + k)) := h_ (by
      have h1 := HTO.out.2
      have h2 := HOK.out.2.2
      refine ⟨makeR_ok HOK.out.1 HTO.out.1, HOK.out.2.1, ?_, ?_⟩
      ·have h3 := makeR_all r T
       omega
      ·have h3 : (makeR r T).log.length = r.log.length + T.us.length := by simp [makeR]
       omega)
     clear hrf hfrm hnew HMK9
     go_wp2_with fail
     subst hsg
     go_roundg (n - (gd + k))
     case measure => omega
     case rel => exact ⟨gd + k, f - 1, makeR r T, ⟨q'.mb, lv⟩, by omega, rfl, by first | rfl | exact congrArg (Value.int .i64) (by omega) | go_num, h_ ⟨by have := HFU.out.1; omega, HGO.out⟩, HOKX, HDX, HRX, HFX, HBX, HALX, HGX⟩
    ·have HRG : Hid (r = R ∧ gd = G) := h_ (by
      have h1 := HOP.out
      rw [HFU.out.2, HOPS.out, if_pos (.inr hz0)] at h1
      exact ⟨congrArg Prod.fst h1, congrArg Prod.snd h1⟩)
     have z1 : ¬ z = 0 := hz0
     have z2 : (z == 0) = false := by rw [beq_eq_false_iff_ne]; exact hz0
     have HDX : Hid (DR N w9 g m d gr r q') := HD9
     have HBX : Hid (Below w.heap.size w w9) := HB9
     have HRX : Hid (Rd w9 A (b8s bs)) := HR9
     clear hz0
     by_cases hg : gd = n
     ·exact absurd hg (by omega)
     ·have z9 : (gd : Int) < (n : Int) := by omega
      obtain ⟨f0, m1, m2, m3, m4, k0, k1, k2, k3, k4, k5⟩ := HRE.out (by rw [← HRG.out.2, ← HNL.out]; exact hg)
      rw [← HRG.out.2] at k2
      have HRN := h_ (renew_new (c := c) HDX.out.disk HF.out hK hL (n := gd) (by rw [List.length_take, ← HNL.out]; omega) (rd_take_b8 HRX.out gd) (fun _ a ha => (HFT.out a ha).1) (by rw [List.length_take]; omega) k0 k1 k2 k3 k4 k5)
      clear hg k0 k1 k2 k3 k4 k5
      go_wp2_with fail
      refine HRN.out.mono ?_
      rintro e wZ ⟨rfl, dZ, haZ, hfZ⟩
      have HDZ := h_ (HDX.out.aft haZ)
      have HAZ := h_ ((Aft.below HD0.out HBX.out).trans haZ)
      have HBZ : Hid (Below N w wZ) := h_ (HAZ.out.bel HD0.out HNW.out)
      have HFZ : Hid (Fit (K + 2) (L + 10000) m') := h_ (hfZ.mono (Nat.le_refl _) (by rw [List.length_take]; omega))
      clear haZ hfZ HRN
      go_wp2_with fail
      go_ret2
      refine ⟨gr, rfl, ⟨dZ, q', ?_, HAZ.out⟩, HFZ.out, ?_, ?_, HBZ.out⟩
      ·have h9 := HDZ.out; rw [HRG.out.1] at h9; exact h9
      ·have h9 := HOK.out.1; rw [HRG.out.1] at h9; exact h9
      ·have h9 := HOK.out.2.1; rw [HRG.out.1] at h9; exact h9
end Go.Proofs.YtelbofikcpchiaaGreat
