/- Refs: Do that is made. (With the texts that it stands on.) -/
import Derived.Test.YtelbofikcpchiaaGreatQO
namespace Go.Proofs.YtelbofikcpchiaaGreat
open Go.RowKit
structure DR (N : Nat) (w : World) (g : Nat) (m : DM) (d : DA) (gr : Nat) (r : RfM) (q : QA) : Prop where
 disk : DiskIn N w g m d
 refs : RfIn N w gr g r q
 apart : ∀ b, footR gr q b → ¬ foot g d b
theorem DR.below {N : Nat} {w w' : World} {g : Nat} {m : DM} {d : DA} {gr : Nat} {r : RfM} {q : QA} (h : DR N w g m d gr r q) (hb : Below w.heap.size w w') : DR N w' g m d gr r q :=
 ⟨h.disk.below hb, h.refs.below hb, h.apart⟩
theorem DR.aft {N : Nat} {w w' : World} {g : Nat} {m m' : DM} {d d' : DA} {gr : Nat} {r : RfM} {q : QA} (h : DR N w g m d gr r q) (ha : Aft N g w w' m' d d') : DR N w' g m' d' gr r q :=
 ⟨ha.disk, h.refs.frm ha.frm h.apart, fun b hb hf => by
   rcases ha.ext b hf with h1 | h1
   ·exact h.apart b hb h1
   ·have := h.refs.foot_lt hb
    omega⟩
def refsB : List UInt8 := [114, 101, 102, 115]
theorem refs_built (g mb : Nat) : Tryz.prog.built 83 [(0, .pointer (some ⟨g, 0, none⟩)), (1, .map (some mb)), (2, .string ⟨#[104, 101, 97, 100, 115, 47, 109, 97, 105, 110]⟩)] = some (rowR g ⟨mb, .slice none 0 0⟩ rf0).toArray := by kernel_rfl
set_option maxRecDepth 100000 in
set_option maxHeartbeats 8000000 in
theorem open_new {N g K L : Nat} {m m1 m2 : DM} {d : DA} {w : World} {bs0 : List UInt8} (h : DiskIn N w g m d) (hf : Fit K L m) (hK : K < 999990) (hL : L ≤ 1099511627776) (hb0 : bs0 = [])
  (he0 : readM m refsB = (bs0, 4)) (he1 : createM m refsB = (m1, 0)) (he2 : flushM m1 = (m2, 0)) :
  Calls Tryz.prog 9 #[.pointer (some ⟨g, 0, none⟩)] w fun e w' => ∃ gr d' q, e = .returned (.tuple #[.pointer (some ⟨gr, 0, none⟩), .int .i64 0]) ∧ DR N w' g m2 d' gr rf0 q ∧ Fit (K + 1) L m2 ∧ Below N w w' := by
 have hmm := @run_makeMap Tryz.prog
 obtain ⟨mb, hmb⟩ := eX w.heap.size
 obtain ⟨q, hq⟩ : ∃ q : QA, q = ⟨mb, .slice none 0 0⟩ := ⟨_, rfl⟩
 obtain ⟨lr, hlr⟩ := eX ((rowR g q rf0))
 have HRB : Hid (Tryz.prog.built 83 [(0, .pointer (some ⟨g, 0, none⟩)), (1, .map (some mb)), (2, .string ⟨#[104, 101, 97, 100, 115, 47, 109, 97, 105, 110]⟩)] = some lr.toArray) := h_ (by rw [← hlr, hq]; exact refs_built g mb)
 obtain ⟨W1, hW1⟩ := eX (w.alloc (.map #[] 0))
 obtain ⟨gr, hgr⟩ := eX W1.heap.size
 obtain ⟨W2, hW2⟩ := eX (W1.alloc (.cells lr.toArray 83))
 have hgs : gr = mb + 1 := by rw [← hgr, ← hW1, ← hmb]; simp
 obtain ⟨r2, b2, s2⟩ := new_row hW2
 rw [hgr] at r2
 have b1 : Below w.heap.size w W1 := by rw [← hW1]; exact (Below.refl _ _).alloc (Nat.le_refl _) _
 have hb12 : Below w.heap.size w W2 := b1.trans (b2.mono b1.size)
 have hNw := h.size
 have HDR : Hid (DR N W2 g m d gr rf0 q) := h_ (by
  refine ⟨h.below hb12, ⟨by rw [hlr]; exact r2, ?_, by rw [hq]; exact World.ownsRow_nil _ _ _ _, ⟨by omega, by rw [hq]; show N ≤ mb; omega⟩⟩, fun b hb hfo => ?_⟩
  ·have h1 := World.ownsMap_made w Tryz.prog 9 idR
   rw [hmb, hW1] at h1
   have h2 := h1.alloc (.cells lr.toArray 83)
   rw [hW2] at h2
   rw [hq]
   exact h2
  ·have h1 := h.foot_lt hfo
   rcases hb with rfl | rfl | h2
   ·omega
   ·rw [hq] at h1
    have : mb < w.heap.size := h1
    omega
   ·rw [hq] at h2
    cases h2)
 have HB2 := h_ (hb12.mono hNw)
 have HF := h_ hf
 have HE0 := h_ he0
 have HE1 := h_ he1
 have HE2 := h_ he2
 have hfl : Fit (K + 1) L m1 ∧ Fit (K + 1) L m2 := by
  have h1 := hf.create refsB
  rw [he1] at h1
  have h2 := h1.flush
  rw [he2] at h2
  exact ⟨h1, h2⟩
 have HFL := h_ hfl
 have HBS := h_ hb0
 have HNW := h_ hNw
 clear h hf he0 he1 he2 hfl hb0 hlr r2 b2 s2 b1 hb12 hq hNw
 go_enter Tryz.func9, Tryz.ntmps9
 go_wp2_with (first
  | ((with_reducible (refine wpList_built ?_ _ #[(0, .tmp 12), (1, .tmp 13), (2, .const (.string ⟨#[104, 101, 97, 100, 115, 47, 109, 97, 105, 110]⟩))] ?_ _ ?_ _ HRB.out ?_)); exact rfl; exact rfl; (exact rfl)))
 clear hW1 hW2 hgr hmb hmm
 refine (read_st (S := ⟨#[114, 101, 102, 115]⟩) HDR.out.disk HF.out (by omega) hL (by decide) HE0.out).mono ?_
 rintro e w3 ⟨v3, rfl, ho3⟩
 have HDR3 := h_ (HDR.out.below ho3.bel)
 have HB3 := h_ (HB2.out.trans (ho3.bel.mono (Nat.le_trans HNW.out HB2.out.size)))
 rw [HBS.out] at ho3
 obtain ⟨A, c, rfl, hlc, hcm, hrd, _⟩ := ho3.slice
 simp only [List.length_nil]
 clear ho3
 subst hgs
 go_wp2_with fail
 refine (create_st (S := ⟨#[114, 101, 102, 115]⟩) HDR3.out.disk HF.out (by omega) hL (by decide) HE1.out).mono ?_
 rintro e w4 ⟨rfl, d1, ha4, hf4⟩
 have HDR4 := h_ (HDR3.out.aft ha4)
 have HB4 := h_ (HB3.out.trans (ha4.bel HDR3.out.disk (Nat.le_trans HNW.out HB3.out.size)))
 clear ha4 hf4 hrd
 go_wp2_with fail
 refine (flush_st HDR4.out.disk HFL.out.1 (by omega) hL HE2.out).mono ?_
 rintro e w5 ⟨rfl, d2, ha5, hf5⟩
 have HDR5 := h_ (HDR4.out.aft ha5)
 have HB5 := h_ (HB4.out.trans (ha5.bel HDR4.out.disk (Nat.le_trans HNW.out HB4.out.size)))
 clear ha5 hf5
 have i0 : (0 : Int) ≤ (c : Int) := by omega
 obtain ⟨lz, hlz⟩ := eX (txC none 0 0 t0)
 have hlz' : lz.toArray = #[Value.slice none 0 0, .string ⟨#[]⟩, Value.int .u8 0, .int .u8 0, .int .u8 0, .int .u8 0, .int .u8 0, .int .u8 0, .int .u8 0, .int .u8 0, .int .u8 0, .int .u8 0, .int .u8 0, .int .u8 0, .int .u8 0, .int .u8 0, .int .u8 0, .int .u8 0, .int .u8 0, .int .u8 0, .int .u8 0, .int .u8 0, .int .u8 0, .int .u8 0, .int .u8 0, .int .u8 0, .int .u8 0, .int .u8 0, .int .u8 0, .int .u8 0, .int .u8 0, .int .u8 0, .int .u8 0, .int .u8 0] := by rw [← hlz]; rfl
 have HLZ := h_ hlz'
 have HIA : Hid ((Tryz.prog.info? 28).map (·.size) = some lz.toArray.size) := h_ (by rw [← hlz]; exact info_txa rfl)
 have HOC : Hid (lz.toArray.all (·.oneCell') = true) := h_ (all_oneCell_toArray (by rw [← hlz]; exact txC_one _ _ _ _))
 have HTX := h_ hlz
 clear hlz hlz'
 go_wp2_with fail
 go_loopg [7] (1 * 1) (fun gk_ iv wr => gk_ = 1 ∧ iv = .int .i64 0 ∧ Hid (wr = w5))
 case atStart => exact ⟨rfl, rfl, h_ rfl⟩
 case round =>
 obtain ⟨rfl, rfl, hwr⟩ := hrel
 obtain rfl := hwr.out
 clear hwr
 go_wp2_with fail
 refine (split_cut A 0 c [] rfl _ Rd.nil (by simp) rfl).mono ?_
 rintro e w6 ⟨rfl, hb6⟩
 rw [HTX.out]
 have HDR6 := h_ (HDR5.out.below hb6)
 have HB6 := h_ (HB5.out.trans (hb6.mono (Nat.le_trans HNW.out HB5.out.size)))
 obtain ⟨gt, hgt⟩ := eX w6.heap.size
 obtain ⟨WA, hWA⟩ := eX (w6.alloc (.cells #[Value.slice none 0 0, .string ⟨#[]⟩, Value.int .u8 0, .int .u8 0, .int .u8 0, .int .u8 0, .int .u8 0, .int .u8 0, .int .u8 0, .int .u8 0, .int .u8 0, .int .u8 0, .int .u8 0, .int .u8 0, .int .u8 0, .int .u8 0, .int .u8 0, .int .u8 0, .int .u8 0, .int .u8 0, .int .u8 0, .int .u8 0, .int .u8 0, .int .u8 0, .int .u8 0, .int .u8 0, .int .u8 0, .int .u8 0, .int .u8 0, .int .u8 0, .int .u8 0, .int .u8 0, .int .u8 0, .int .u8 0] 28))
 obtain ⟨rA, bA, sA⟩ := new_row hWA
 rw [hgt, ← HLZ.out] at rA
 obtain ⟨WB, hWB, TB, RB, GB⟩ := put_rowR (new := lz) rA rfl
 have HWB := h_ hWB
 have hbB : Below w6.heap.size w6 WB := bel_grown bA bA.size GB.out (by omega)
 have HDRB := h_ (HDR6.out.below hbB)
 have HBB := h_ (HB6.out.trans (hbB.mono (Nat.le_trans HNW.out HB6.out.size)))
 clear hb6 rA bA sA hWB hbB
 go_wp2_with (first
  | ((with_reducible (refine wpList_store_mid rfl _ _ _ rfl ?_ ?_ ?_ ?_ ?_ ?_ ?_ ?_ ?_)); exact gt; exact 0; (exact (lz).toArray); exact rfl; exact rfl; exact TB.out; exact HIA.out; exact HOC.out; rw [HWB.out]))
 go_ret2
 exact ⟨mb + 1, d2, q, rfl, HDRB.out, HFL.out.2, HBB.out⟩
set_option maxRecDepth 100000 in
set_option maxHeartbeats 8000000 in
theorem do_bad {N gr g : Nat} {w : World} {r : RfM} {q : QA} (h : RfIn N w gr g r q) (hk : RfOk r) (A : Option Addr) (n c : Nat) (t : TxM) (hn : t.us.length = n) (ht : TxOk t) (hr : Rd w A (upsC t.us)) {z : Int} (hz : checkR r t = z) (h0 : z ≠ 0) :
  Calls Tryz.prog 10 #[.pointer (some ⟨gr, 0, none⟩), .agg (txC A n c t).toArray] w fun e w' => e = .returned (.int .i64 z) ∧ Below w.heap.size w w' := by
 obtain ⟨g1, hg⟩ := eX w.heap.size
 obtain ⟨W1, hW1⟩ := eX (w.alloc (.cells (txC A n c t).toArray 28))
 obtain ⟨r1, b1, s1⟩ := new_row hW1
 rw [hg] at r1
 have HB1 := h_ b1
 have HRG := h_ (range_of_row r1)
 have HIL := h_ (info_txl (A := A) (n := n) (c := c) ht.al)
 have HCK := h_ (check_any (h.below b1) hk A n c t hn ht (hr.below b1))
 rw [hz] at HCK
 obtain ⟨lt, hlt⟩ := eX (txC A n c t)
 rw [hlt] at hW1 HRG HIL HCK ⊢
 have z0 : ¬ z = 0 := h0
 clear h hk hn ht b1 s1 r1 hlt hr hz h0
 go_enter Tryz.func10, Tryz.ntmps10
 go_wp2_with (first
  | ((with_reducible (refine wpList_load_cells 28 _ g1 0 (lt) HRG.out Tryz.underlying28 rfl HIL.out ?_ rfl ?_ ?_)); exact rfl; (exact rfl)))
 refine HCK.out.mono ?_
 rintro e w2 ⟨rfl, hb2⟩
 have HB2 := h_ (HB1.out.trans (hb2.mono HB1.out.size))
 clear hb2 hW1
 go_wp2_with fail
 go_ret
 exact ⟨rfl, by first | exact HB2.out | (rw [← hg]; exact HB2.out)⟩
set_option maxRecDepth 100000 in
set_option maxHeartbeats 8000000 in
theorem do_empty {N gr g : Nat} {w : World} {r : RfM} {q : QA} (h : RfIn N w gr g r q) (hk : RfOk r) (A : Option Addr) (n c : Nat) (t : TxM) (hn : t.us.length = n) (ht : TxOk t) (hr : Rd w A (upsC t.us)) (hz : checkR r t = 0) (he : emptyT t = true) :
  Calls Tryz.prog 10 #[.pointer (some ⟨gr, 0, none⟩), .agg (txC A n c t).toArray] w fun e w' => e = .returned (.int .i64 0) ∧ Below w.heap.size w w' := by
 obtain ⟨g1, hg⟩ := eX w.heap.size
 obtain ⟨W1, hW1⟩ := eX (w.alloc (.cells (txC A n c t).toArray 28))
 obtain ⟨r1, b1, s1⟩ := new_row hW1
 rw [hg] at r1
 have HB1 := h_ b1
 have HR1 := h_ r1
 have HRG := h_ (range_of_row r1)
 have HIL := h_ (info_txl (A := A) (n := n) (c := c) ht.al)
 have HIA := h_ (info_txa (A := A) (n := n) (c := c) ht.al)
 have HCK := h_ (check_any (h.below b1) hk A n c t hn ht (hr.below b1))
 have HEM : Hid (∀ W, _) := h_ (fun W => empty_any A n c t hn (by have := ht.ul; omega) ht.al W)
 rw [hz] at HCK
 obtain ⟨lt, hlt⟩ := eX (txC A n c t)
 rw [hlt, he] at HEM
 rw [hlt] at hW1 HRG HIL HCK HIA HR1 ⊢
 clear h hk hn ht b1 s1 r1 hlt hr hz he
 go_enter Tryz.func10, Tryz.ntmps10
 go_wp2_with (first
  | ((with_reducible (refine wpList_load_cells 28 _ g1 0 (lt) HRG.out Tryz.underlying28 rfl HIL.out ?_ rfl ?_ ?_)); exact rfl; (exact rfl)))
 refine HCK.out.mono ?_
 rintro e w2 ⟨rfl, hb2⟩
 have HB2 := h_ (HB1.out.trans (hb2.mono HB1.out.size))
 have HR2 := bl_ hb2 HR1
 clear hb2 hW1
 go_wp2_with ((with_reducible (refine wpList_load_row_w _ _ rfl _ rfl _ _ _ _ HR2.out Tryz.underlying28 rfl HIA.out ?_ ?_)); (focus (rfl)))
 refine (HEM.out w2).mono ?_
 rintro e w3 ⟨rfl, hb3⟩
 have HB3 := h_ (HB2.out.trans (hb3.mono HB2.out.size))
 clear hb3
 go_wp2_with fail
 go_ret
 exact ⟨rfl, by first | exact HB3.out | (rw [← hg]; exact HB3.out)⟩
def SafeA (A : Option Addr) (us : List UpM) (F : Nat → Prop) : Prop := upsC us ≠ [] → ∀ a, A = some a → ¬ F a.block
theorem safe_keep {w w' : World} {A : Option Addr} {us : List UpM} {F : Nat → Prop} (h : Rd w A (upsC us)) (hs : SafeA A us F) (hf : Frm F w w') : Rd w' A (upsC us) := by
 by_cases he : upsC us = []
 ·rw [he]; exact Rd.nil
 ·exact h.keep fun ad hA hl => hf.block _ hl (hs he ad hA)
set_option maxRecDepth 100000 in
set_option maxHeartbeats 8000000 in
theorem do_made {N gr g K L : Nat} {w : World} {m m1 m2 : DM} {d : DA} {r : RfM} {q : QA} (h : DR N w g m d gr r q) (hf : Fit K L m) (hK : K < 999990) (hL : L ≤ 1000000000000) (hk : RfOk r) (hs : r.stuck = false)
  (A : Option Addr) (n c : Nat) (t : TxM) (hn : t.us.length = n) (ht : TxOk t) (hr : Rd w A (upsC t.us)) (hA : SafeA A t.us fun b => foot g d b ∨ footR gr q b) (hz : checkR r t = 0) (he : emptyT t = false)
  (hpl : (payloadB t).length ≤ 1000000000) (hal : r.all.length ≤ 1000000 ∧ r.log.length ≤ 1000000)
  (he1 : appendM m refsB (recordB t) = (m1, 0)) (he2 : syncM m1 refsB = (m2, 0)) :
  Calls Tryz.prog 10 #[.pointer (some ⟨gr, 0, none⟩), .agg (txC A n c t).toArray] w fun e w' => e = .returned (.int .i64 0) ∧ ∃ d' q', DR N w' g m2 d' gr (makeR r t) q' ∧ Fit K (L + (recordB t).length) m2 ∧ Frm (fun b => foot g d b ∨ footR gr q b) w w' ∧ (∀ b, foot g d' b ∨ footR gr q' b → (foot g d b ∨ footR gr q b) ∨ w.heap.size ≤ b) := by
 obtain ⟨g1, hg⟩ := eX w.heap.size
 have hNw : N ≤ w.heap.size := h.disk.size
 obtain ⟨W1, hW1⟩ := eX (w.alloc (.cells (txC A n c t).toArray 28))
 obtain ⟨r1, b1, s1⟩ := new_row hW1
 rw [hg] at r1
 have HB1 := h_ b1
 have HR1 := h_ r1
 have HRG := h_ (range_of_row r1)
 have HIL := h_ (info_txl (A := A) (n := n) (c := c) ht.al)
 have HIA := h_ (info_txa (A := A) (n := n) (c := c) ht.al)
 have HCK := h_ (check_any (h.refs.below b1) hk A n c t hn ht (hr.below b1))
 have HEM : Hid (∀ W, _) := h_ (fun W => empty_any A n c t hn (by have := ht.ul; omega) ht.al W)
 have HRC : Hid (∀ W, Rd W A (upsC t.us) → _) := h_ (fun W (hw : Rd W A (upsC t.us)) => record_any A n c t hn ht W hw (by omega))
 have HMK : Hid (∀ W, RfIn N W gr g r q → Rd W A (upsC t.us) → N ≤ W.heap.size → _) := h_ (fun W (h1 : RfIn N W gr g r q) (h2 : Rd W A (upsC t.us)) (h3 : N ≤ W.heap.size) => make_any h1 hk A n c t hn ht h2 (fun e a ha => fun hfo => hA e a ha (.inr hfo)) hal h3)
 rw [hz] at HCK
 have hrl : (recordB t).length ≤ 1000000100 := by
  unfold recordB
  have := numB_length ((payloadB t).length : Int)
  have h4 : (fourB (crc (payloadB t)).toNat).length = 4 := rfl
  simp only [List.length_append]
  omega
 obtain ⟨lt, hlt⟩ := eX (txC A n c t)
 obtain ⟨rb, hrb⟩ := eX (recordB t)
 rw [hlt, he] at HEM
 rw [hlt] at hW1 HRG HIL HCK HIA HR1 HRC HMK ⊢
 rw [hrb] at HRC he1 hrl ⊢
 have HH := h_ h
 have HF := h_ hf
 have HKR := h_ hk
 have HRD := h_ hr
 have HSA := h_ hA
 have HE1 := h_ he1
 have HE2 := h_ he2
 have HST := h_ hs
 have HNW := h_ hNw
 have HG1 := h_ hg
 clear h hf hk hn ht b1 s1 r1 hlt hr hz he hA he1 he2 hrb hs hNw
 go_enter Tryz.func10, Tryz.ntmps10
 go_wp2_with (first
  | ((with_reducible (refine wpList_load_cells 28 _ g1 0 (lt) HRG.out Tryz.underlying28 rfl HIL.out ?_ rfl ?_ ?_)); exact rfl; (exact rfl)))
 refine HCK.out.mono ?_
 rintro e w2 ⟨rfl, hb2⟩
 have HB2 := h_ (HB1.out.trans (hb2.mono HB1.out.size))
 have HR2 := bl_ hb2 HR1
 clear hb2 hW1
 go_wp2_with ((with_reducible (refine wpList_load_row_w _ _ rfl _ rfl _ _ _ _ HR2.out Tryz.underlying28 rfl HIA.out ?_ ?_)); (focus (rfl)))
 refine (HEM.out w2).mono ?_
 rintro e w3 ⟨rfl, hb3⟩
 have HB3 := h_ (HB2.out.trans (hb3.mono HB2.out.size))
 have HR3 := bl_ hb3 HR2
 clear hb3
 have HD3 := h_ (HH.out.below HB3.out)
 have HRD3 := h_ (HRD.out.below HB3.out)
 have c36 : w3.cell? ⟨gr, 36, none⟩ = some (.bool false) := by
  have h1 := (HD3.out.refs.tail HKR.out.al).2
  rw [HST.out] at h1
  exact h1
 have cp3 : w3.cell? ⟨gr, 0, none⟩ = some (.pointer (some ⟨g, 0, none⟩)) := HD3.out.refs.cells.1
 have HRG3 := h_ (range_of_row HR3.out)
 have HL3 := h_ (b_ HR3)
 have HGL3 := h_ (HD3.out.refs.foot_lt (.inl rfl))
 go_wp2_with fail
 refine wp_region_sched (fun w' => w'.cell? ⟨gr, 0, none⟩ = some (.pointer (some ⟨g, 0, none⟩)) ∧ w'.rangeAt g1 0 lt)
  [(true, 0), (true, 1), (true, 2), (true, 3), (true, 4), (false, 5), (false, 6), (true, 7)] (by kernel_rfl) (by kernel_rfl) rfl (by kernel_rfl) ⟨cp3, HRG3.out⟩ ?_
 iterate 4 ((first | refine wpS_pass _ rfl (by rfl) ?_ | (refine wpS_take _ ?_ rfl (by rfl) ?_ ?_; rotate_left; (focus (intro w' hS'; (try dsimp only at hS'); (repeat (have hS1 := hS'.1; replace hS' := hS'.2)); go_simp; (try with_reducible rfl); done)))); simp only [LY])
 refine wpS_load _ rfl (by rfl) 28 _ rfl g1 0 rfl lt _ (fun w' hS => hS.2) Tryz.underlying28 rfl HIL.out ?_
 simp only [LY]
 refine wpS_do _ rfl (by rfl) (fun KK hKK => ?_)
 go_simp
 refine (HRC.out _ HRD3.out.drew).mono ?_
 rintro e w4 ⟨v4, rfl, ho4⟩
 have hb4 : Below w3.heap.size w3 w4 := (Below.refl _ _).drew.trans ho4.bel
 refine hKK.out _ _ ⟨cell_below cp3 HGL3.out hb4, range_below HRG3.out HL3.out hb4⟩ (fun hS => ?_)
 clear hKK hS
 have HD4 := h_ (HD3.out.below hb4)
 have HRD4 := h_ (HRD3.out.below hb4)
 have HB4 := h_ (HB3.out.trans (hb4.mono HB3.out.size))
 have HR4 := bl_ hb4 HR3
 obtain ⟨A4, c4, rfl, _, _, hrd4, hA4⟩ := ho4.slice
 have HRD4' := h_ hrd4
 have HA4 : Hid (rb ≠ [] → ∀ a, A4 = some a → ¬ foot g d a.block) := h_ (fun _ a ha hfo => by
  have h1 := (hA4 a ha).1
  have h2 := HD3.out.disk.foot_lt hfo
  have h3 : w3.drew.heap.size = w3.heap.size := rfl
  omega)
 clear ho4 hb4 hrd4 hA4
 refine wpS_do _ rfl (by rfl) (fun KK hKK => ?_)
 go_simp
 refine (append_st (S := ⟨#[114, 101, 102, 115]⟩) HD4.out.disk HF.out (by omega) (by omega) (by decide) rfl HRD4'.out HA4.out (by omega) HE1.out).mono ?_
 rintro e w5 ⟨rfl, d1, ha5, hf5⟩
 have HA5 := h_ ha5
 have HF5 := h_ hf5
 have HD5 := h_ (HD4.out.aft ha5)
 have HNG : Hid (∀ b, foot g d b → b < g1) := h_ (fun b hb => by rw [← HG1.out]; exact HH.out.disk.foot_lt hb)
 have HR5 := h_ ((ha5.frm.block g1 (b_ HR4) (fun e => by have := HNG.out _ e; omega)).trans HR4.out)
 refine hKK.out _ _ ⟨HD5.out.refs.cells.1, range_of_row HR5.out⟩ (fun hS => ?_)
 clear hKK hS ha5 hf5 cp3 c36
 ((first | refine wpS_pass _ rfl (by rfl) ?_ | (refine wpS_take _ ?_ rfl (by rfl) ?_ ?_; rotate_left; (focus (intro w' hS'; (try dsimp only at hS'); (repeat (have hS1 := hS'.1; replace hS' := hS'.2)); go_simp; (try with_reducible rfl); done)))); simp only [LY])
 refine wpS_done ?_
 have cp5 : w5.cell? ⟨gr, 0, none⟩ = some (.pointer (some ⟨g, 0, none⟩)) := HD5.out.refs.cells.1
 go_wp2_with fail
 clear cp5
 refine (sync_st (S := ⟨#[114, 101, 102, 115]⟩) HD5.out.disk HF5.out (by omega) (by omega) (by decide) HE2.out).mono ?_
 rintro e w6 ⟨rfl, d2, ha6, hf6⟩
 have HA6 := h_ ha6
 have HF6 := h_ hf6
 have HD6 := h_ (HD5.out.aft ha6)
 have HNG1 : Hid (¬ foot g d1 g1) := h_ (fun e => by
  rcases HA5.out.ext _ e with h1 | h1
  ·have := HNG.out _ h1; omega
  ·have := (b_ HR4)
   omega)
 have HR6 := h_ ((ha6.frm.block g1 (b_ HR5) HNG1.out).trans HR5.out)
 have HRG6 := h_ (range_of_row HR6.out)
 have HAF : Hid (Frm (foot g d) w4 w6) := h_ (HA5.out.frm.trans ha6.frm HA5.out.ext)
 have HRD6 := h_ (safe_keep HRD4.out (fun e a ha hfo => HSA.out e a ha (.inl hfo)) HAF.out)
 have HMK6 := h_ (HMK.out w6 HD6.out.refs HRD6.out HD6.out.disk.size)
 clear ha6 hf6
 go_wp2_with (first
  | ((with_reducible (refine wpList_load_cells 28 _ g1 0 (lt) HRG6.out Tryz.underlying28 rfl HIL.out ?_ rfl ?_ ?_)); exact rfl; (exact rfl)))
 refine HMK6.out.mono ?_
 rintro e w7 ⟨rfl, lv', hri, hfr, hlv⟩
 have HRI := h_ hri
 have HFR := h_ hfr
 have HLV := h_ hlv
 clear hri hfr hlv
 go_wp2_with fail
 go_ret
 refine ⟨rfl, d2, ⟨q.mb, lv'⟩, ⟨HD6.out.disk.keep (fun b hb => HFR.out.block b (HD6.out.disk.foot_lt hb) (fun hR => HD6.out.apart b hR hb)), HRI.out, ?_⟩, HF6.out, ?_, ?_⟩
 ·intro b hb hfo
  rcases hb with h1 | h1 | h1
  ·exact HD6.out.apart b (.inl h1) hfo
  ·exact HD6.out.apart b (.inr (.inl h1)) hfo
  ·rcases HLV.out b h1.symm with h2 | h2
   ·exact HD6.out.apart b h2 hfo
   ·have := HD6.out.disk.foot_lt hfo
    omega
 ·exact ((Frm.of_below HB4.out).trans HAF.out (fun i hi => .inl (.inl hi))).trans HFR.out (fun i hi => .inl (.inr hi))
 ·intro b hb
  have s4 := HB4.out.size
  have s6 := HAF.out.size
  have s5 := HA5.out.frm.size
  rcases hb with hb | h1 | h1 | h1
  ·rcases HA6.out.ext b hb with h2 | h2
   ·rcases HA5.out.ext b h2 with h3 | h3
    ·exact .inl (.inl h3)
    ·exact .inr (by omega)
   ·exact .inr (by omega)
  ·exact .inl (.inr (.inl h1))
  ·exact .inl (.inr (.inr (.inl h1)))
  ·rcases HLV.out b h1.symm with h2 | h2
   ·exact .inl (.inr h2)
   ·exact .inr (by omega)
end Go.Proofs.YtelbofikcpchiaaGreat
