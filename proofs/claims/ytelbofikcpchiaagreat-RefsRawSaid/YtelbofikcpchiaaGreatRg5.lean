/- The refs behind a turn, as the document makes them. (Printed by wip/genRg5.py.) -/
import Derived.Test.YtelbofikcpchiaaGreatRg4
import Derived.Test.YtelbofikcpchiaaGreatQI
namespace Go.Proofs.YtelbofikcpchiaaGreat
open Go.RowKit
set_option linter.unusedSectionVars false
section
variable {R : RA} {m : DM} {A A' : Option Addr} {c c' : Nat} {r : RfM}
def rfP (R : RA) (m : DM) (A : Option Addr) (n c : Nat) (h : List UInt8) : List Value :=
 .slice R.fa m.files.length R.fc :: .slice R.na m.now.length R.nc :: .slice R.sa m.sure.length R.sc :: .slice R.ta m.turns.length R.tc :: .int .i64 (m.most : Int) :: .int .i64 (m.fuse : Int) :: .bool m.down ::
  .slice A n c :: [strV h]
theorem rfR_split : rfR R m A c r = rfP R m A r.log.length c r.head ++ b8s r.at_ ++ [.bool r.stuck] := by simp [rfR, rfP]
theorem rfR_set7 (lg : List UpM) (n : Nat) (hn : lg.length = n) : (rfR R m A c r).toArray.setIfInBounds 7 (.slice A' n c') = (rfR R m A' c' { r with log := lg }).toArray := by
 subst hn
 simp [rfR]
theorem rfR_set8 (h : List UInt8) : (rfR R m A c r).toArray.setIfInBounds 8 (strV h) = (rfR R m A c { r with head := h }).toArray := by simp [rfR]
end
theorem rupz : (Tryz.prog.info? 131).map (fun i => (i.zero, i.size, i.bytes)) = some (some (.agg (upC ⟨[], Z32, Z32⟩).toArray), 65, 80) := by kernel_rfl
theorem rf_there9 {w : World} {g : Nat} {R : RA} {m : DM} {A : Option Addr} {c : Nat} {r : RfM} {at_ : List UInt8} {ty : TypeId} (h : w.heap[g]? = some (.cells (rfR R m A c r).toArray ty (0, 0))) (h1 : r.at_.length = 32) (h2 : at_.length = 32) :
  ∃ W, w.setCells g 9 (b8s at_).toArray.toList = W ∧ Hid (w.there g 9 (b8s at_).toArray.size) ∧ Hid (W.heap[g]? = some (.cells (rfR R m A c { r with at_ := at_ }).toArray ty (0, 0))) ∧ Hid (w.grownBy W (some g)) := by
 rw [rfR_split] at h
 have h3 := put_mid (vs := b8s at_) h (by rw [b8s_length, b8s_length, h1, h2])
 rw [show (rfP R m A r.log.length c r.head).length = 9 from rfl] at h3
 obtain ⟨W, e, t, k, g'⟩ := h3
 refine ⟨W, e, t, h_ ?_, g'⟩
 rw [rfR_split]
 exact k.out
theorem rrefs_zero : ∃ l : List Value, (#[.slice none 0 0, .slice none 0 0, .slice none 0 0, .slice none 0 0, .int .i64 0, .int .i64 0, .bool false, .slice none 0 0, .string ⟨#[]⟩, Value.int .u8 0, .int .u8 0, .int .u8 0, .int .u8 0, .int .u8 0, .int .u8 0, .int .u8 0, .int .u8 0, .int .u8 0, .int .u8 0, .int .u8 0, .int .u8 0, .int .u8 0, .int .u8 0, .int .u8 0, .int .u8 0, .int .u8 0, .int .u8 0, .int .u8 0, .int .u8 0, .int .u8 0, .int .u8 0, .int .u8 0, .int .u8 0, .int .u8 0, .int .u8 0, .int .u8 0, .int .u8 0, .int .u8 0, .int .u8 0, .int .u8 0, .int .u8 0, .bool false] : Array Value) = l.toArray ∧ l.length = 42 := ⟨_, rfl, rfl⟩
set_option maxRecDepth 1000000 in
set_option maxHeartbeats 8000000 in
theorem rmade_any (R : RA) (m : DM) (A : Option Addr) (n0 c : Nat) (r : RfM) (At : Option Addr) (n ct : Nat) (t : TxM) (w : World) (hk : RfOk r) (hn0 : r.log.length = n0) (hl : n0 ≤ 1000000) (hr : Rd w A (upsC r.log)) (hn : t.us.length = n) (ht : TxOk t) (hrt : Rd w At (upsC t.us)) :
  Calls Tryz.prog 57 #[rfV R m A c r, .agg (txC At n ct t).toArray] w fun e w' => ∃ A' c', e = .returned (rfV R m A' c' (makeR r t)) ∧ LOut 131 65 upC w w' A' (n0 + n) c' (r.log ++ t.us) := by
 have HKR := h_ hk
 have HN := h_ hn
 have HN0 := h_ hn0
 have HT := h_ ht
 have hnl : n ≤ 1000000 := by have := ht.ul; omega
 obtain ⟨lz, hlz, hlzl⟩ := rrefs_zero
 obtain ⟨g, hg⟩ := eX w.heap.size
 obtain ⟨W1, hW1⟩ := eX (w.alloc (.cells (rfR R m A c r).toArray 65))
 obtain ⟨r1, b1, s1⟩ := new_row hW1
 rw [hg] at r1
 obtain ⟨g2, hg2⟩ := eX W1.heap.size
 obtain ⟨W2, hW2⟩ := eX (W1.alloc (.cells (txC At n ct t).toArray 123))
 obtain ⟨r2, b2, s2⟩ := new_row hW2
 rw [hg2] at r2
 obtain ⟨g3, hg3⟩ := eX W2.heap.size
 obtain ⟨W3, hW3⟩ := eX (W2.alloc (.cells #[.slice none 0 0, .slice none 0 0, .slice none 0 0, .slice none 0 0, .int .i64 0, .int .i64 0, .bool false, .slice none 0 0, .string ⟨#[]⟩, Value.int .u8 0, .int .u8 0, .int .u8 0, .int .u8 0, .int .u8 0, .int .u8 0, .int .u8 0, .int .u8 0, .int .u8 0, .int .u8 0, .int .u8 0, .int .u8 0, .int .u8 0, .int .u8 0, .int .u8 0, .int .u8 0, .int .u8 0, .int .u8 0, .int .u8 0, .int .u8 0, .int .u8 0, .int .u8 0, .int .u8 0, .int .u8 0, .int .u8 0, .int .u8 0, .int .u8 0, .int .u8 0, .int .u8 0, .int .u8 0, .int .u8 0, .int .u8 0, .bool false] 65))
 obtain ⟨r3, b3, s3⟩ := new_row hW3
 rw [hg3, hlz] at r3
 have hb2 : Below w.heap.size w W2 := b1.trans (b2.mono b1.size)
 have hb3 : Below w.heap.size w W3 := hb2.trans (b3.mono hb2.size)
 obtain ⟨X, hX, hXs⟩ : ∃ X : ByteArray, strV t.head = .string X ∧ X.data.toList = t.head := ⟨_, rfl, rfl⟩
 have HX := h_ hX
 have HXS := h_ hXs
 have HRW : Hid (∀ W, Below W3.heap.size W3 W → W.heap[g]? = some (.cells (rfR R m A c r).toArray 65 (0, 0)) ∧ W.heap[g2]? = some (.cells (txC At n ct t).toArray 123 (0, 0)) ∧ W.heap[g3]? = some (.cells lz.toArray 65 (0, 0)) ∧ Rd W A (upsC r.log) ∧ Rd W At (upsC t.us)) := h_ (fun W hb => by
  have hw := hb3.trans (hb.mono hb3.size)
  have hw2 := b3.trans (hb.mono b3.size)
  have hw1 := b2.trans (hw2.mono b2.size)
  exact ⟨(hw1.block _ (Array.getElem?_eq_some_iff.1 r1).1).trans r1, (hw2.block _ (Array.getElem?_eq_some_iff.1 r2).1).trans r2, (hb.block _ (Array.getElem?_eq_some_iff.1 r3).1).trans r3, hr.below hw, hrt.below hw⟩)
 have HGS : Hid (g < g2 ∧ g2 < g3 ∧ g3 < W3.heap.size) := h_ ⟨by omega, by omega, (Array.getElem?_eq_some_iff.1 r3).1⟩
 have HG0 : Hid (w.heap.size ≤ g) := h_ (by omega)
 have HB3 : Hid (Below w.heap.size w W3) := h_ hb3
 obtain ⟨W4, hW4⟩ := eX (W3.alloc (.cells #[] 131))
 obtain ⟨p5, hp5⟩ := eX W3.heap.size
 have HO0 : Hid (LOut 131 65 upC W3 W4 (some ⟨p5, 0, none⟩) 0 0 []) := h_ (by rw [← hW4, ← hp5]; exact LOut.start _ _ _ (Below.refl _ _))
 unfold rfV
 obtain ⟨lr, hlr⟩ := eX (rfR R m A c r)
 obtain ⟨lt, hlt_⟩ := eX (txC At n ct t)
 have HLR := h_ hlr
 have HLT := h_ hlt_
 rw [hlr] at hW1
 rw [hlt_] at hW2
 rw [hlr, hlt_]
 have HLZ := h_ hlz
 have HLZL := h_ hlzl
 clear hk hn0 hn ht hr hrt b1 s1 r1 b2 s2 r2 b3 s3 r3 hb2 hb3 hX hXs hlr hlt_ hlz hlzl
 go_enter Tryz.func57, Tryz.ntmps57
 go_wp2_with fail
 clear hW1 hW2 hW3 hW4 hg2 hg3 hp5
 go_loopg [5, 6] (n0 * 1) (fun gk_ ov iv wr => ∃ (k : Nat) (A1 : Option Addr) (c1 : Nat), k ≤ n0 ∧ gk_ = n0 - k ∧ ov = .slice A1 k c1 ∧ iv = .int .i64 (k : Int) ∧ Hid (LOut 131 65 upC W3 wr A1 k c1 (r.log.take k)))
 case atStart => exact ⟨0, _, 0, by omega, by omega, rfl, rfl, HO0⟩
 case round =>
 clear HO0
 obtain ⟨k, A1, c1, hk, rfl, rfl, rfl, HO⟩ := hrel
 have c7 : wr.cell? ⟨g, 7, none⟩ = some (.slice A n0 c) := by rw [← HN0.out]; exact (rf_cells (HRW.out _ HO.out.bel).1).1
 by_cases hlt : k < n0
 ·have i1 : (k : Int) < (n0 : Int) := by omega
  have hkl : k < r.log.length := by rw [HN0.out]; exact hlt
  obtain ⟨u, hu⟩ := eX (r.log[k])
  have HOK : Hid (upOk u) := h_ (HKR.out.log u (by rw [← hu]; exact List.getElem_mem hkl))
  obtain ⟨b, o, hA, hrow⟩ := log_row (HRW.out _ HO.out.bel).2.2.2.1 HKR.out.log hkl
  rw [hu] at hrow
  have HS : Hid (r.log.take (k + 1) = r.log.take k ++ [u]) := h_ (by rw [← List.take_append_getElem hkl, hu])
  rw [hA] at c7
  have HRW1 := h_ hrow
  have HA := h_ hA
  have HIL := h_ (rinfo_upl HOK.out)
  have HIB : Hid ((Tryz.prog.info? 131).map (fun i => (i.size, i.zero.isSome)) = some ((upC u).length, true)) := h_ (by rw [upC_len HOK.out]; kernel_rfl)
  have HI1 : Hid (∀ x ∈ upC u, x.oneCell' = true) := h_ (upC_one u)
  have HLL : Hid ((upC u).length = 65) := h_ (upC_len HOK.out)
  obtain ⟨W6, hW6⟩ := eX (wr.alloc (.cells (upC u).toArray 131))
  obtain ⟨r6, b6, s6⟩ := new_row hW6
  obtain ⟨p6, hp6⟩ := eX wr.heap.size
  rw [hp6] at r6
  have HO6 := h_ (HO.out.below b6)
  have HR6 : Hid (Rd W6 (some ⟨p6, 0, none⟩) (upC u)) := h_ (range_rd (range_of_row r6))
  obtain ⟨la, hla⟩ := eX (upC u)
  have HLA := h_ hla
  rw [hla] at HRW1 HIL HIB HI1 HLL hW6 HR6
  clear r6 b6 s6 HO hkl hu hrow hA hla
  go_wp2_with (first
   | ((with_reducible (refine wpList_load_cells 131 _ b (o + k * 65) (la) HRW1.out Tryz.underlying131 rfl HIL.out ?_ rfl ?_ ?_)); exact rfl; (exact rfl))
   | (refine wpList_build1 rfl 63 131 _ rfl la rfl Tryz.underlying63 HIB.out (by rw [HLL.out]; omega) (by rw [HLL.out]; omega) ?_)
   | (at_builtin; (try rw [hW6]); (try rw [hp6]); go_loud (refine wpList_append_rd _ rfl _ _ 63 rfl W3.heap.size 131 _ 65 80 Tryz.underlying63 rupz (by simp [Value.cells, upC, b8s, Z32]) (by decide) (.slice A1 k c1) _ _ rfl HO6.out.own _ 1 1 la rfl (by rw [HLL.out]) HR6.out HI1.out (by unfold maxLen; omega) (by omega) HO6.out.bel.size ?_); intro v8 w8 ho8 hg8 hvb8; obtain ⟨A7, c7_, e8, hnc8, _, hA8, _⟩ := own_slice ho8; subst e8; have HO7 := h_ (HO6.out.grow (x := u) (by rw [HLA.out]; exact ho8) hg8); clear ho8 hg8 hvb8 hnc8 hA8))
  clear hW6 hp6
  try rw [← HA.out]
  go_roundg (n0 - (k + 1))
  case measure => omega
  case rel => exact ⟨k + 1, A7, c7_, by omega, rfl, rfl, by first | rfl | exact congrArg (Value.int .i64) (by omega) | go_num, h_ (by rw [HS.out]; exact HO7.out)⟩
 have hk0 : k = n0 := by omega
 subst hk0
 have HO1 : Hid (LOut 131 65 upC W3 wr A1 k c1 r.log) := h_ (by have h1 := HO.out; rw [List.take_of_length_le (by rw [HN0.out]; omega)] at h1; exact h1)
 clear hlt HO hk
 go_wp2_with fail
 clear c7
 obtain ⟨wo, hwo⟩ : ∃ x, x = wr := ⟨_, rfl⟩
 subst hwo
 go_loopg [5, 7] (n * 1) (fun gk_ ov iv wr => ∃ (k2 : Nat) (A2 : Option Addr) (c2 : Nat), k2 ≤ n ∧ gk_ = n - k2 ∧ ov = .slice A2 (k + k2) c2 ∧ iv = .int .i64 (k2 : Int) ∧ Hid (LOut 131 65 upC W3 wr A2 (k + k2) c2 (r.log ++ t.us.take k2)))
 case atStart => exact ⟨0, _, c1, by omega, by omega, rfl, rfl, h_ (by rw [List.take_zero, List.append_nil]; exact HO1.out)⟩
 case round =>
 clear HO1
 obtain ⟨k2, A2, c2, hk2, rfl, rfl, rfl, HO⟩ := hrel
 have c0 : wr.cell? ⟨g2, 0, none⟩ = some (.slice At n ct) := (tx_cells' (HRW.out _ HO.out.bel).2.1).1
 by_cases hlt : k2 < n
 ·have i1 : (k2 : Int) < (n : Int) := by omega
  have hkl : k2 < t.us.length := by rw [HN.out]; exact hlt
  obtain ⟨u, hu⟩ := eX (t.us[k2])
  have HOK : Hid (upOk u) := h_ (HT.out.us u (by rw [← hu]; exact List.getElem_mem hkl))
  obtain ⟨b, o, hA, hrow⟩ := log_row (HRW.out _ HO.out.bel).2.2.2.2 HT.out.us hkl
  rw [hu] at hrow
  have HS : Hid (r.log ++ t.us.take (k2 + 1) = (r.log ++ t.us.take k2) ++ [u]) := h_ (by rw [← List.take_append_getElem hkl, hu, List.append_assoc])
  rw [hA] at c0
  have HRW1 := h_ hrow
  have HA := h_ hA
  have HIL := h_ (rinfo_upl HOK.out)
  have HIB : Hid ((Tryz.prog.info? 131).map (fun i => (i.size, i.zero.isSome)) = some ((upC u).length, true)) := h_ (by rw [upC_len HOK.out]; kernel_rfl)
  have HI1 : Hid (∀ x ∈ upC u, x.oneCell' = true) := h_ (upC_one u)
  have HLL : Hid ((upC u).length = 65) := h_ (upC_len HOK.out)
  obtain ⟨W6, hW6⟩ := eX (wr.alloc (.cells (upC u).toArray 131))
  obtain ⟨r6, b6, s6⟩ := new_row hW6
  obtain ⟨p6, hp6⟩ := eX wr.heap.size
  rw [hp6] at r6
  have HO6 := h_ (HO.out.below b6)
  have HR6 : Hid (Rd W6 (some ⟨p6, 0, none⟩) (upC u)) := h_ (range_rd (range_of_row r6))
  obtain ⟨la, hla⟩ := eX (upC u)
  have HLA := h_ hla
  rw [hla] at HRW1 HIL HIB HI1 HLL hW6 HR6
  clear r6 b6 s6 HO hkl hu hrow hA hla
  go_wp2_with (first
   | ((with_reducible (refine wpList_load_cells 131 _ b (o + k2 * 65) (la) HRW1.out Tryz.underlying131 rfl HIL.out ?_ rfl ?_ ?_)); exact rfl; (exact rfl))
   | (refine wpList_build1 rfl 63 131 _ rfl la rfl Tryz.underlying63 HIB.out (by rw [HLL.out]; omega) (by rw [HLL.out]; omega) ?_)
   | (at_builtin; (try rw [hW6]); (try rw [hp6]); go_loud (refine wpList_append_rd _ rfl _ _ 63 rfl W3.heap.size 131 _ 65 80 Tryz.underlying63 rupz (by simp [Value.cells, upC, b8s, Z32]) (by decide) (.slice A2 (k + k2) c2) _ _ rfl HO6.out.own _ 1 1 la rfl (by rw [HLL.out]) HR6.out HI1.out (by unfold maxLen; omega) (by omega) HO6.out.bel.size ?_); intro v8 w8 ho8 hg8 hvb8; obtain ⟨A7, c7_, e8, hnc8, _, hA8, _⟩ := own_slice ho8; subst e8; have HO7 := h_ (HO6.out.grow (x := u) (by rw [HLA.out]; exact ho8) hg8); clear ho8 hg8 hvb8 hnc8 hA8))
  clear hW6 hp6
  try rw [← HA.out]
  go_roundg (n - (k2 + 1))
  case measure => omega
  case rel => exact ⟨k2 + 1, A7, c7_, by omega, rfl, rfl, by first | rfl | exact congrArg (Value.int .i64) (by omega) | go_num, h_ (by rw [HS.out]; exact HO7.out)⟩
 have hk2 : k2 = n := by omega
 subst hk2
 have HOF : Hid (LOut 131 65 upC W3 wr A2 (k + k2) c2 (r.log ++ t.us)) := h_ (by have h1 := HO.out; rw [List.take_of_length_le (by rw [HN.out]; omega)] at h1; exact h1)
 obtain ⟨hr1, hr2, hr3, _, _⟩ := HRW.out _ HO.out.bel
 have c7 : wr.cell? ⟨g, 7, none⟩ = some (.slice A k c) := by rw [← HN0.out]; exact (rf_cells hr1).1
 have f7 : wr.frozen? ⟨g, 7, none⟩ = false := row_free hr1 7
 have c1' : wr.cell? ⟨g2, 1, none⟩ = some (.string X) := by rw [← HX.out]; exact (tx_cells' hr2).2.1
 have HLG : Hid ((r.log ++ t.us).length = k + k2) := h_ (by rw [List.length_append, HN0.out, HN.out])
 obtain ⟨Wa, hWa⟩ := eX (wr.setCell ⟨g, 7, none⟩ (.slice A2 (k + k2) c2))
 have hra : Wa.heap[g]? = some (.cells (rfR R m A2 c2 { r with log := r.log ++ t.us }).toArray 65 (0, 0)) := by
  rw [← hWa, row_set hr1 7, rfR_set7 _ _ HLG.out]
 have hga : wr.grownBy Wa (some g) := by rw [← hWa]; exact grown_set g 7 _
 have HWZ : Hid (∀ W, wr.grownBy W (some g) → W.heap[g2]? = some (.cells (txC At k2 ct t).toArray 123 (0, 0)) ∧ W.heap[g3]? = some (.cells lz.toArray 65 (0, 0)) ∧ ∀ W', W.grownBy W' (some g3) → LOut 131 65 upC w W' A2 (k + k2) c2 (r.log ++ t.us)) := h_ (fun W hg => by
  have hl2 := (Array.getElem?_eq_some_iff.1 hr2).1
  have hl3 := (Array.getElem?_eq_some_iff.1 hr3).1
  refine ⟨(hg.block _ hl2 (fun e => by have := Option.some.inj e; have := HGS.out; omega)).trans hr2, (hg.block _ hl3 (fun e => by have := Option.some.inj e; have := HGS.out; omega)).trans hr3, fun W' hg' => ?_⟩
  have hbw := HB3.out.trans (HOF.out.bel.mono HB3.out.size)
  have hb1 := bel_grown hbw hbw.size hg HG0.out
  refine ⟨HOF.out.len, own_mono (own_keep HOF.out.own (fun b hb hlb => ?_)) HB3.out.size, bel_grown hb1 hb1.size hg' (by have := HG0.out; have := HGS.out; omega)⟩
  have hge : W3.heap.size ≤ b := by
   have h9 := HOF.out.own
   rcases h9.2 with ⟨h10, _⟩ | ⟨g9, cap, cur, h10, h11, _⟩
   ·rw [h10] at hb; cases hb
   ·rw [h10] at hb
    have : g9 = b := by simpa [Value.ownBlock] using hb
    omega
  have := HGS.out
  exact (hg'.block _ (Nat.lt_of_lt_of_le hlb hg.size) (fun e => by have := Option.some.inj e; omega)).trans (hg.block _ hlb (fun e => by have := Option.some.inj e; omega)))
 have hca : Wa.cell? ⟨g2, 1, none⟩ = some (.string X) := by rw [← HX.out]; exact (tx_cells' (HWZ.out Wa hga).1).2.1
 have HRA := h_ hra
 have HGA := h_ hga
 clear hr1 hr2 hr3 hlt HO
 by_cases hh : t.head = []
 ·have hem : X.toList.isEmpty = true := by rw [tl_data, HXS.out, hh]; rfl
  have HAT : Hid (Wa.rangeAt g2 2 (b8s t.at_)) := h_ (tx_cells' (HWZ.out Wa hga).1).2.2
  have HIL2 := h_ (rinfo_l t.at_ HT.out.al)
  have HIA2 := h_ (rinfo_a t.at_ HT.out.al)
  have HOC2 : Hid ((b8s t.at_).toArray.all (·.oneCell') = true) := h_ (all_oneCell_toArray (b8s_one' _))
  obtain ⟨l0, hl0⟩ := eX (b8s Z32)
  have HID0 : Hid (Tryz.prog.built 23 [] = some l0.toArray) := h_ (by rw [← hl0]; exact rid0_built)
  obtain ⟨ne, hne⟩ := eX ((!decide (t.at_ = Z32)))
  have hgd := rid_guard
  have hnq : ∀ w : World, (binOp .neq 23 (.agg (b8s t.at_).toArray) (.agg l0.toArray)).run Tryz.prog w = .ok (.bool ne) w := fun w => by have h1 := rid_neq t.at_ Z32 HT.out.al rfl w; rw [hne, hl0] at h1; exact h1
  cases ne with
  | true =>
    have hat : t.at_ ≠ Z32 := by intro e; rw [e] at hne; simp at hne
    have c8 : Wa.cell? ⟨g, 8, none⟩ = some (strV r.head) := (rf_cells hra).2.1
    have f8 : Wa.frozen? ⟨g, 8, none⟩ = false := row_free hra 8
    obtain ⟨Wb, hWb⟩ := eX (Wa.setCell ⟨g, 8, none⟩ (.string ⟨#[]⟩))
    have hrb : Wb.heap[g]? = some (.cells (rfR R m A2 c2 { r with log := r.log ++ t.us, head := [] }).toArray 65 (0, 0)) := by
     rw [← hWb, row_set hra 8]
     exact congrArg (fun x => some (Obj.cells x 65 (0, 0))) (rfR_set8 [])
    have hgb : wr.grownBy Wb (some g) := grown_trans1 hga (by rw [← hWb]; exact grown_set g 8 _)
    have HAT2 : Hid (Wb.rangeAt g2 2 (b8s t.at_)) := h_ (tx_cells' (HWZ.out Wb hgb).1).2.2
    obtain ⟨Wc, hWc, Tc, Rc, Gc⟩ := rf_there9 (at_ := t.at_) hrb HKR.out.al HT.out.al
    have hgc : wr.grownBy Wc (some g) := grown_trans1 hgb Gc.out
    have HWC := h_ hWc
    have HTC := h_ Tc.out
    have HF3 := h_ (HWZ.out Wc hgc).2.1
    have HLW : Hid (∀ W', Wc.grownBy W' (some g3) → LOut 131 65 upC w W' A2 (k + k2) c2 (r.log ++ t.us)) := h_ (HWZ.out Wc hgc).2.2
    obtain ⟨lf, hlf⟩ := eX (rfR R m A2 c2 (makeR r t))
    have HLFE := h_ hlf
    have HF1 : Hid (Wc.heap[g]? = some (.cells lf.toArray 65 (0, 0))) := h_ (by
     rw [← hlf, Rc.out]
     simp [rfR, makeR, hh, hat])
    obtain ⟨li, hli⟩ := eX (b8s t.at_)
    rw [hli] at HAT HAT2 HIL2 HIA2 HOC2 HWC HTC hnq
    clear hli hlf Rc Gc hgc Tc hWc hrb hgb hat hne hra hga hl0 hh
    have HFIN : Hid (rfR R m A2 c2 (makeR r t) = lf) := h_ HLFE.out
    obtain ⟨WG, hWG, TG, RG, GG⟩ := put_rowR (new := lf) HF3.out (by rw [HLZL.out, ← HLFE.out, rfR_len (makeR_ok HKR.out HT.out).al])
    have HWG := h_ hWG
    have HTG := h_ TG.out
    have HRG := h_ RG.out
    have HRGL := h_ (range_of_row HF1.out)
    have HIRL : Hid ((Tryz.prog.info? 65).map (·.size) = some lf.length) := h_ (by rw [← HLFE.out]; exact info_rfl (makeR_ok HKR.out HT.out).al)
    have HIRA : Hid ((Tryz.prog.info? 65).map (·.size) = some lf.toArray.size) := h_ (by rw [← HLFE.out]; exact info_rfa (makeR_ok HKR.out HT.out).al)
    have HORF : Hid (lf.toArray.all (·.oneCell') = true) := h_ (all_oneCell_toArray (by rw [← HLFE.out]; exact rfR_one))
    have HLO : Hid (LOut 131 65 upC w WG A2 (k + k2) c2 (r.log ++ t.us)) := h_ (HLW.out WG GG.out)
    clear hWG TG RG GG
    go_wp2_with (first
     | ((with_reducible (refine wpList_built ?_ _ #[] ?_ _ ?_ _ HID0.out ?_)); exact rfl; exact rfl; (exact rfl))
     | ((with_reducible (refine wpList_load_cells 23 _ g2 2 (li) HAT.out Tryz.underlying23 rfl HIL2.out ?_ rfl ?_ ?_)); exact rfl; (exact rfl))
     | ((with_reducible (refine wpList_load_cells 23 _ g2 2 (li) HAT2.out Tryz.underlying23 rfl HIL2.out ?_ rfl ?_ ?_)); exact rfl; (exact rfl))
     | ((with_reducible (refine wpList_store_mid rfl _ _ _ rfl ?_ ?_ ?_ ?_ ?_ ?_ ?_ ?_ ?_)); exact g; exact 9; (exact (li).toArray); exact rfl; exact rfl; exact HTC.out; exact HIA2.out; exact HOC2.out; rw [HWC.out])
     | ((with_reducible (refine wpList_load_cells 65 _ g 0 (lf) HRGL.out Tryz.underlying65 rfl HIRL.out ?_ rfl ?_ ?_)); exact rfl; (exact rfl))
     | ((with_reducible (refine wpList_store_mid rfl _ _ _ rfl ?_ ?_ ?_ ?_ ?_ ?_ ?_ ?_ ?_)); exact g3; exact 0; (exact (lf).toArray); exact rfl; exact rfl; exact HTG.out; exact HIRA.out; exact HORF.out; rw [HWG.out]))
    exact bodyPost_ret (results_row1 rfl _ _ _ _ _ _ _ rfl HRG.out Tryz.underlying65 rfl HIRA.out) rfl ⟨A2, c2, by rw [HLFE.out], HLO.out⟩
  | false =>
    have hat : t.at_ = Z32 := by simpa using hne
    have HF3 := h_ (HWZ.out Wa hga).2.1
    have HLW : Hid (∀ W', Wa.grownBy W' (some g3) → LOut 131 65 upC w W' A2 (k + k2) c2 (r.log ++ t.us)) := h_ (HWZ.out Wa hga).2.2
    obtain ⟨lf, hlf⟩ := eX (rfR R m A2 c2 (makeR r t))
    have HLFE := h_ hlf
    have HF1 : Hid (Wa.heap[g]? = some (.cells lf.toArray 65 (0, 0))) := h_ (by
     rw [← hlf, hra]
     simp [rfR, makeR, hh, hat])
    obtain ⟨li, hli⟩ := eX (b8s t.at_)
    rw [hli] at HAT HIL2 HIA2 HOC2 hnq
    clear hli hlf hat hne hra hga hl0 hh
    have HFIN : Hid (rfR R m A2 c2 (makeR r t) = lf) := h_ HLFE.out
    obtain ⟨WG, hWG, TG, RG, GG⟩ := put_rowR (new := lf) HF3.out (by rw [HLZL.out, ← HLFE.out, rfR_len (makeR_ok HKR.out HT.out).al])
    have HWG := h_ hWG
    have HTG := h_ TG.out
    have HRG := h_ RG.out
    have HRGL := h_ (range_of_row HF1.out)
    have HIRL : Hid ((Tryz.prog.info? 65).map (·.size) = some lf.length) := h_ (by rw [← HLFE.out]; exact info_rfl (makeR_ok HKR.out HT.out).al)
    have HIRA : Hid ((Tryz.prog.info? 65).map (·.size) = some lf.toArray.size) := h_ (by rw [← HLFE.out]; exact info_rfa (makeR_ok HKR.out HT.out).al)
    have HORF : Hid (lf.toArray.all (·.oneCell') = true) := h_ (all_oneCell_toArray (by rw [← HLFE.out]; exact rfR_one))
    have HLO : Hid (LOut 131 65 upC w WG A2 (k + k2) c2 (r.log ++ t.us)) := h_ (HLW.out WG GG.out)
    clear hWG TG RG GG
    go_wp2_with (first
     | ((with_reducible (refine wpList_built ?_ _ #[] ?_ _ ?_ _ HID0.out ?_)); exact rfl; exact rfl; (exact rfl))
     | ((with_reducible (refine wpList_load_cells 23 _ g2 2 (li) HAT.out Tryz.underlying23 rfl HIL2.out ?_ rfl ?_ ?_)); exact rfl; (exact rfl))
     | ((with_reducible (refine wpList_load_cells 65 _ g 0 (lf) HRGL.out Tryz.underlying65 rfl HIRL.out ?_ rfl ?_ ?_)); exact rfl; (exact rfl))
     | ((with_reducible (refine wpList_store_mid rfl _ _ _ rfl ?_ ?_ ?_ ?_ ?_ ?_ ?_ ?_ ?_)); exact g3; exact 0; (exact (lf).toArray); exact rfl; exact rfl; exact HTG.out; exact HIRA.out; exact HORF.out; rw [HWG.out]))
    exact bodyPost_ret (results_row1 rfl _ _ _ _ _ _ _ rfl HRG.out Tryz.underlying65 rfl HIRA.out) rfl ⟨A2, c2, by rw [HLFE.out], HLO.out⟩
 ·have hem : X.toList.isEmpty = false := by rw [tl_data, HXS.out, List.isEmpty_eq_false_iff]; exact hh
  have c8 : Wa.cell? ⟨g, 8, none⟩ = some (strV r.head) := (rf_cells hra).2.1
  have f8 : Wa.frozen? ⟨g, 8, none⟩ = false := row_free hra 8
  obtain ⟨Wb, hWb⟩ := eX (Wa.setCell ⟨g, 8, none⟩ (.string X))
  have hrb : Wb.heap[g]? = some (.cells (rfR R m A2 c2 { r with log := r.log ++ t.us, head := t.head }).toArray 65 (0, 0)) := by
   rw [← hWb, row_set hra 8, ← HX.out]
   exact congrArg (fun x => some (Obj.cells x 65 (0, 0))) (rfR_set8 t.head)
  have hgb : wr.grownBy Wb (some g) := grown_trans1 hga (by rw [← hWb]; exact grown_set g 8 _)
  obtain ⟨Wc, hWc, Tc, Rc, Gc⟩ := rf_there9 (at_ := Z32) hrb HKR.out.al rfl
  have hgc : wr.grownBy Wc (some g) := grown_trans1 hgb Gc.out
  have HWC := h_ hWc
  have HTC := h_ Tc.out
  have HF3 := h_ (HWZ.out Wc hgc).2.1
  have HLW : Hid (∀ W', Wc.grownBy W' (some g3) → LOut 131 65 upC w W' A2 (k + k2) c2 (r.log ++ t.us)) := h_ (HWZ.out Wc hgc).2.2
  obtain ⟨lf, hlf⟩ := eX (rfR R m A2 c2 (makeR r t))
  have HLFE := h_ hlf
  have HF1 : Hid (Wc.heap[g]? = some (.cells lf.toArray 65 (0, 0))) := h_ (by
   rw [← hlf, Rc.out]
   simp [rfR, makeR, hh])
  have HIA2 := h_ (rinfo_a Z32 rfl)
  have HOC2 : Hid ((b8s Z32).toArray.all (·.oneCell') = true) := h_ (all_oneCell_toArray (b8s_one' _))
  obtain ⟨li, hli⟩ := eX (b8s Z32)
  have HID0 : Hid (Tryz.prog.built 23 [] = some li.toArray) := h_ (by rw [← hli]; exact rid0_built)
  rw [hli] at HIA2 HOC2 HWC HTC
  clear hli hlf Rc Gc hgc Tc hWc hrb hgb hra hga hh
  have HFIN : Hid (rfR R m A2 c2 (makeR r t) = lf) := h_ HLFE.out
  obtain ⟨WG, hWG, TG, RG, GG⟩ := put_rowR (new := lf) HF3.out (by rw [HLZL.out, ← HLFE.out, rfR_len (makeR_ok HKR.out HT.out).al])
  have HWG := h_ hWG
  have HTG := h_ TG.out
  have HRG := h_ RG.out
  have HRGL := h_ (range_of_row HF1.out)
  have HIRL : Hid ((Tryz.prog.info? 65).map (·.size) = some lf.length) := h_ (by rw [← HLFE.out]; exact info_rfl (makeR_ok HKR.out HT.out).al)
  have HIRA : Hid ((Tryz.prog.info? 65).map (·.size) = some lf.toArray.size) := h_ (by rw [← HLFE.out]; exact info_rfa (makeR_ok HKR.out HT.out).al)
  have HORF : Hid (lf.toArray.all (·.oneCell') = true) := h_ (all_oneCell_toArray (by rw [← HLFE.out]; exact rfR_one))
  have HLO : Hid (LOut 131 65 upC w WG A2 (k + k2) c2 (r.log ++ t.us)) := h_ (HLW.out WG GG.out)
  clear hWG TG RG GG
  go_wp2_with (first
   | ((with_reducible (refine wpList_built ?_ _ #[] ?_ _ ?_ _ HID0.out ?_)); exact rfl; exact rfl; (exact rfl))
   | ((with_reducible (refine wpList_store_mid rfl _ _ _ rfl ?_ ?_ ?_ ?_ ?_ ?_ ?_ ?_ ?_)); exact g; exact 9; (exact (li).toArray); exact rfl; exact rfl; exact HTC.out; exact HIA2.out; exact HOC2.out; rw [HWC.out])
   | ((with_reducible (refine wpList_load_cells 65 _ g 0 (lf) HRGL.out Tryz.underlying65 rfl HIRL.out ?_ rfl ?_ ?_)); exact rfl; (exact rfl))
   | ((with_reducible (refine wpList_store_mid rfl _ _ _ rfl ?_ ?_ ?_ ?_ ?_ ?_ ?_ ?_ ?_)); exact g3; exact 0; (exact (lf).toArray); exact rfl; exact rfl; exact HTG.out; exact HIRA.out; exact HORF.out; rw [HWG.out]))
  exact bodyPost_ret (results_row1 rfl _ _ _ _ _ _ _ rfl HRG.out Tryz.underlying65 rfl HIRA.out) rfl ⟨A2, c2, by rw [HLFE.out], HLO.out⟩
end Go.Proofs.YtelbofikcpchiaaGreat
