
/- Refs: Open of a disk that has no refs yet. -/

import Derived.Test.YtelbofikcpchiaaGreatRf12

namespace Go.Proofs.YtelbofikcpchiaaGreat

set_option linter.unusedVariables false

set_option linter.unusedSimpArgs false

set_option linter.unusedSectionVars false

open Go.RowKit

/-- a disk and its refs -/
structure DR (N : Nat) (w : World) (g : Nat) (m : DM) (d : DA) (gr : Nat) (r : RfM) (q : QA) : Prop where
  disk : DiskIn N w g m d
  refs : RfIn N w gr g r q
  apart : ∀ b, footR gr q b → ¬ foot g d b
theorem DR.below {N : Nat} {w w' : World} {g : Nat} {m : DM} {d : DA} {gr : Nat} {r : RfM} {q : QA} (h : DR N w g m d gr r q) (hb : Below w.heap.size w w') : DR N w' g m d gr r q :=
  ⟨h.disk.below hb, h.refs.below hb, h.apart⟩
theorem DR.aft {N : Nat} {w w' : World} {g : Nat} {m m' : DM} {d d' : DA} {gr : Nat} {r : RfM} {q : QA} (h : DR N w g m d gr r q) (ha : Aft N g w w' m' d d') : DR N w' g m' d' gr r q :=
  ⟨ha.disk, h.refs.frm ha.frm h.apart, fun b hb hf => by
    rcases ha.ext b hf with h1 | h1
    · exact h.apart b hb h1
    · have := h.refs.foot_lt hb
      omega⟩
def refsB : List UInt8 := [114, 101, 102, 115]
theorem refs_built (g mb : Nat) : Tryz.prog.built 83 [(0, .pointer (some ⟨g, 0, none⟩)), (1, .map (some mb)), (2, .string ⟨#[104, 101, 97, 100, 115, 47, 109, 97, 105, 110]⟩)] = some (rowR g ⟨mb, .slice none 0 0⟩ rf0).toArray := by kernel_rfl

set_option maxRecDepth 100000 in
set_option maxHeartbeats 8000000 in
theorem open_new {N g K L : Nat} {m m1 m2 : DM} {d : DA} {w : World} {bs0 : List UInt8} (h : DiskIn N w g m d) (hf : Fit K L m) (hK : K < 999990) (hL : L ≤ 1099511627776) (hb0 : bs0 = [])
    (he0 : readM m refsB = (bs0, 4)) (he1 : createM m refsB = (m1, 0)) (he2 : flushM m1 = (m2, 0)) :
    Calls Tryz.prog 9 #[.pointer (some ⟨g, 0, none⟩)] w fun e w' => ∃ gr d' q, e = .returned (.tuple #[.pointer (some ⟨gr, 0, none⟩), .int .i64 0]) ∧ DR N w' g m2 d' gr rf0 q ∧ Fit (K + 1) L m2 ∧ Below N w w' := by
  have hmm := @run_makeMap Tryz.prog
  obtain ⟨mb, hmb⟩ : ∃ x, w.heap.size = x := ⟨_, rfl⟩
  obtain ⟨q, hq⟩ : ∃ q : QA, q = ⟨mb, .slice none 0 0⟩ := ⟨_, rfl⟩
  obtain ⟨lr, hlr⟩ : ∃ l, (rowR g q rf0) = l := ⟨_, rfl⟩
  have HRB : Hid (Tryz.prog.built 83 [(0, .pointer (some ⟨g, 0, none⟩)), (1, .map (some mb)), (2, .string ⟨#[104, 101, 97, 100, 115, 47, 109, 97, 105, 110]⟩)] = some lr.toArray) := Lib.hid (by rw [← hlr, hq]; exact refs_built g mb)
  obtain ⟨W1, hW1⟩ : ∃ W, w.alloc (.map #[] 0) = W := ⟨_, rfl⟩
  obtain ⟨gr, hgr⟩ : ∃ x, W1.heap.size = x := ⟨_, rfl⟩
  obtain ⟨W2, hW2⟩ : ∃ W, W1.alloc (.cells lr.toArray 83) = W := ⟨_, rfl⟩
  have hgs : gr = mb + 1 := by rw [← hgr, ← hW1, ← hmb]; simp
  obtain ⟨r2, b2, s2⟩ := new_row hW2
  rw [hgr] at r2
  have b1 : Below w.heap.size w W1 := by rw [← hW1]; exact (Below.refl _ _).alloc (Nat.le_refl _) _
  have hb12 : Below w.heap.size w W2 := b1.trans (b2.mono b1.size)
  have hNw := h.size
  have HDR : Hid (DR N W2 g m d gr rf0 q) := Lib.hid (by
    refine ⟨h.below hb12, ⟨by rw [hlr]; exact r2, ?_, by rw [hq]; exact World.ownsRow_nil _ _ _ _, ⟨by omega, by rw [hq]; show N ≤ mb; omega⟩⟩, fun b hb hfo => ?_⟩
    · have h1 := World.ownsMap_made w Tryz.prog 9 idR
      rw [hmb, hW1] at h1
      have h2 := h1.alloc (.cells lr.toArray 83)
      rw [hW2] at h2
      rw [hq]
      exact h2
    · have h1 := h.foot_lt hfo
      rcases hb with rfl | rfl | h2
      · omega
      · rw [hq] at h1
        have : mb < w.heap.size := h1
        omega
      · rw [hq] at h2
        cases h2)
  have HB2 := Lib.hid (hb12.mono hNw)
  have HF := Lib.hid hf
  have HE0 := Lib.hid he0
  have HE1 := Lib.hid he1
  have HE2 := Lib.hid he2
  have hfl : Fit (K + 1) L m1 ∧ Fit (K + 1) L m2 := by
    have h1 := hf.create refsB
    rw [he1] at h1
    have h2 := h1.flush
    rw [he2] at h2
    exact ⟨h1, h2⟩
  have HFL := Lib.hid hfl
  have HBS := Lib.hid hb0
  have HNW := Lib.hid hNw
  clear h hf he0 he1 he2 hfl hb0 hlr r2 b2 s2 b1 hb12 hq hNw
  go_enter Tryz.func9, Tryz.ntmps9
  go_wp2_with (first
    | ((with_reducible (refine wpList_built ?_ _ #[(0, .tmp 12), (1, .tmp 13), (2, .const (.string ⟨#[104, 101, 97, 100, 115, 47, 109, 97, 105, 110]⟩))] ?_ _ ?_ _ HRB.out ?_)); (exact rfl); (exact rfl); (exact rfl)))
  clear hW1 hW2 hgr hmb hmm
  refine (read_st (S := ⟨#[114, 101, 102, 115]⟩) HDR.out.disk HF.out (by omega) hL (by decide) HE0.out).mono ?_
  rintro e w3 ⟨v3, rfl, ho3⟩
  have HDR3 := Lib.hid (HDR.out.below ho3.bel)
  have HB3 := Lib.hid (HB2.out.trans (ho3.bel.mono (Nat.le_trans HNW.out HB2.out.size)))
  rw [HBS.out] at ho3
  obtain ⟨A, c, rfl, hlc, hcm, hrd, _⟩ := ho3.slice
  simp only [List.length_nil]
  clear ho3
  subst hgs
  go_wp2_with fail
  refine (create_st (S := ⟨#[114, 101, 102, 115]⟩) HDR3.out.disk HF.out (by omega) hL (by decide) HE1.out).mono ?_
  rintro e w4 ⟨rfl, d1, ha4, hf4⟩
  have HDR4 := Lib.hid (HDR3.out.aft ha4)
  have HB4 := Lib.hid (HB3.out.trans (ha4.bel HDR3.out.disk (Nat.le_trans HNW.out HB3.out.size)))
  clear ha4 hf4 hrd
  go_wp2_with fail
  refine (flush_st HDR4.out.disk HFL.out.1 (by omega) hL HE2.out).mono ?_
  rintro e w5 ⟨rfl, d2, ha5, hf5⟩
  have HDR5 := Lib.hid (HDR4.out.aft ha5)
  have HB5 := Lib.hid (HB4.out.trans (ha5.bel HDR4.out.disk (Nat.le_trans HNW.out HB4.out.size)))
  clear ha5 hf5
  have i0 : (0 : Int) ≤ (c : Int) := by omega
  obtain ⟨lz, hlz⟩ : ∃ l, txC none 0 0 t0 = l := ⟨_, rfl⟩
  have hlz' : lz.toArray = #[Value.slice none 0 0, Value.string ⟨#[]⟩, Value.int .u8 0, Value.int .u8 0, Value.int .u8 0, Value.int .u8 0, Value.int .u8 0, Value.int .u8 0, Value.int .u8 0, Value.int .u8 0, Value.int .u8 0, Value.int .u8 0, Value.int .u8 0, Value.int .u8 0, Value.int .u8 0, Value.int .u8 0, Value.int .u8 0, Value.int .u8 0, Value.int .u8 0, Value.int .u8 0, Value.int .u8 0, Value.int .u8 0, Value.int .u8 0, Value.int .u8 0, Value.int .u8 0, Value.int .u8 0, Value.int .u8 0, Value.int .u8 0, Value.int .u8 0, Value.int .u8 0, Value.int .u8 0, Value.int .u8 0, Value.int .u8 0, Value.int .u8 0] := by rw [← hlz]; rfl
  have HLZ := Lib.hid hlz'
  have HIA : Hid ((Tryz.prog.info? 28).map (·.size) = some lz.toArray.size) := Lib.hid (by rw [← hlz]; exact info_txa rfl)
  have HOC : Hid (lz.toArray.all (·.oneCell') = true) := Lib.hid (all_oneCell_toArray (by rw [← hlz]; exact txC_one _ _ _ _))
  have HTX := Lib.hid hlz
  clear hlz hlz'
  go_wp2_with fail
  go_loopg [7] (1 * 1) (fun gk_ iv wr => gk_ = 1 ∧ iv = .int .i64 0 ∧ Hid (wr = w5))
  case atStart => exact ⟨rfl, rfl, Lib.hid rfl⟩
  case round =>
  obtain ⟨rfl, rfl, hwr⟩ := hrel
  obtain rfl := hwr.out
  clear hwr
  go_wp2_with fail
  refine (split_cut A 0 c [] rfl _ Rd.nil (by simp) rfl).mono ?_
  rintro e w6 ⟨rfl, hb6⟩
  rw [HTX.out]
  have HDR6 := Lib.hid (HDR5.out.below hb6)
  have HB6 := Lib.hid (HB5.out.trans (hb6.mono (Nat.le_trans HNW.out HB5.out.size)))
  obtain ⟨gt, hgt⟩ : ∃ x, w6.heap.size = x := ⟨_, rfl⟩
  obtain ⟨WA, hWA⟩ : ∃ W, w6.alloc (.cells #[Value.slice none 0 0, Value.string ⟨#[]⟩, Value.int .u8 0, Value.int .u8 0, Value.int .u8 0, Value.int .u8 0, Value.int .u8 0, Value.int .u8 0, Value.int .u8 0, Value.int .u8 0, Value.int .u8 0, Value.int .u8 0, Value.int .u8 0, Value.int .u8 0, Value.int .u8 0, Value.int .u8 0, Value.int .u8 0, Value.int .u8 0, Value.int .u8 0, Value.int .u8 0, Value.int .u8 0, Value.int .u8 0, Value.int .u8 0, Value.int .u8 0, Value.int .u8 0, Value.int .u8 0, Value.int .u8 0, Value.int .u8 0, Value.int .u8 0, Value.int .u8 0, Value.int .u8 0, Value.int .u8 0, Value.int .u8 0, Value.int .u8 0] 28) = W := ⟨_, rfl⟩
  obtain ⟨rA, bA, sA⟩ := new_row hWA
  rw [hgt, ← HLZ.out] at rA
  obtain ⟨WB, hWB, TB, RB, GB⟩ := put_rowR (new := lz) rA rfl
  have HWB := Lib.hid hWB
  have hbB : Below w6.heap.size w6 WB := bel_grown bA bA.size GB.out (by omega)
  have HDRB := Lib.hid (HDR6.out.below hbB)
  have HBB := Lib.hid (HB6.out.trans (hbB.mono (Nat.le_trans HNW.out HB6.out.size)))
  clear hb6 rA bA sA hWB hbB
  go_wp2_with (first
    | ((with_reducible (refine wpList_store_mid rfl _ _ _ rfl ?_ ?_ ?_ ?_ ?_ ?_ ?_ ?_ ?_)); (exact gt); (exact 0); (exact (lz).toArray); (exact rfl); (exact rfl); (exact TB.out); (exact HIA.out); (exact HOC.out); rw [HWB.out]))
  go_ret2
  exact ⟨mb + 1, d2, q, rfl, HDRB.out, HFL.out.2, HBB.out⟩
end Go.Proofs.YtelbofikcpchiaaGreat
