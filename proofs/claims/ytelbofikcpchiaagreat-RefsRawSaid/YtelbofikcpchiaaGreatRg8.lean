/- Steps of the document's disk, one behind the other. (Printed by wip/genRg8.py.) -/
import Derived.Test.YtelbofikcpchiaaGreatSchedU
import Derived.Test.YtelbofikcpchiaaGreatDp14
import Derived.Test.YtelbofikcpchiaaGreatQT
namespace Go.Proofs.YtelbofikcpchiaaGreat
open Go.RowKit
structure OpD where
 k : Nat
 S : ByteArray
 Z : ByteArray
 A : Option Addr
 n : Nat
 c : Nat
 bs : List UInt8
def opD (o : OpD) : List Value := [.int .i64 (o.k : Int), .string o.S, .string o.Z, .slice o.A o.n o.c]
theorem opD_one (o : OpD) : ∀ v ∈ opD o, v.oneCell' = true := by
 intro v hv
 simp only [opD, List.mem_cons, List.not_mem_nil, or_false] at hv
 rcases hv with rfl | rfl | rfl | rfl <;> rfl
theorem info_opl (o : OpD) : (Tryz.prog.info? 56).map (·.size) = some (opD o).length := by kernel_rfl
def rowQ (R : RA) (m : DM) : List Value := [.slice R.fa m.files.length R.fc, .slice R.na m.now.length R.nc, .slice R.sa m.sure.length R.sc, .slice R.ta m.turns.length R.tc, .int .i64 (m.most : Int), .int .i64 (m.fuse : Int), .bool m.down]
theorem rowQ_val (R : RA) (m : DM) : R.val m = .agg (rowQ R m).toArray := rfl
theorem rowQ_one (R : RA) (m : DM) : ∀ v ∈ rowQ R m, v.oneCell' = true := by
 intro v hv
 simp only [rowQ, List.mem_cons, List.not_mem_nil, or_false] at hv
 rcases hv with rfl | rfl | rfl | rfl | rfl | rfl | rfl <;> rfl
theorem info_dkl (R : RA) (m : DM) : (Tryz.prog.info? 53).map (·.size) = some (rowQ R m).length := by kernel_rfl
theorem info_dka (R : RA) (m : DM) : (Tryz.prog.info? 53).map (·.size) = some (rowQ R m).toArray.size := by kernel_rfl
def FG (F : Nat → Prop) (g g4 : Nat) (b : Nat) : Prop := F b ∨ b = g ∨ b = g4
set_option maxRecDepth 1000000 in
set_option maxHeartbeats 8000000 in
theorem rdoD_any {F : Nat → Prop} (os : List OpD) (n : Nat) (hn : os.length = n) (hnl : n ≤ 1000) (ms : Nat → DM) (R : RA) (As : Option Addr) (cs : Nat) (w : World) (hin : RIn F w R (ms 0)) (hF : ∀ b, F b → b < w.heap.size)
  (hf : ∀ i, i ≤ n → Fit 900 900000 (ms i) ∧ ∀ p ∈ (ms i).now, p.1 ≠ []) (hdo : ∀ i (hi : i < os.length), (1 ≤ os[i].k ∧ os[i].k ≤ 6) ∧ os[i].n = os[i].bs.length ∧ os[i].n ≤ 1000000 ∧ Rd w os[i].A (b8s os[i].bs) ∧ doM (ms i) os[i].k os[i].S.data.toList os[i].Z.data.toList os[i].bs = (ms (i + 1), 0))
  (hr : Rd w As (os.flatMap opD)) :
  Calls Tryz.prog 54 #[R.val (ms 0), .slice As n cs] w fun e w' => ∃ R' : RA, e = .returned (.tuple #[R'.val (ms n), .int .i64 0]) ∧ RIn F w' R' (ms n) ∧ Below w.heap.size w w' := by
 have HN := h_ hn
 have HFW := h_ hF
 have HFT := h_ hf
 have HDO := h_ hdo
 have HRD := h_ hr
 obtain ⟨ld, hld⟩ := eX (rowQ R (ms 0))
 have HLD := h_ hld
 obtain ⟨g, hg⟩ := eX w.heap.size
 obtain ⟨W1, hW1⟩ := eX (w.alloc (.cells ld.toArray 53))
 obtain ⟨r1, b1, s1⟩ := new_row hW1
 rw [hg] at r1
 obtain ⟨g4, hg4⟩ := eX W1.heap.size
 obtain ⟨W2, hW2⟩ := eX (W1.alloc (.cells #[.slice none 0 0, .slice none 0 0, .slice none 0 0, .slice none 0 0, .int .i64 0, .int .i64 0, .bool false] 53))
 obtain ⟨r2, b2, s2⟩ := new_row hW2
 rw [hg4] at r2
 have hb2 : Below w.heap.size w W2 := b1.trans (b2.mono b1.size)
 have HR1 : Hid (W2.heap[g]? = some (.cells (rowQ R (ms 0)).toArray 53 (0, 0))) := h_ (by rw [hld]; exact (b2.block _ (Array.getElem?_eq_some_iff.1 r1).1).trans r1)
 have HR2 : Hid (W2.heap[g4]? = some (.cells #[.slice none 0 0, .slice none 0 0, .slice none 0 0, .slice none 0 0, .int .i64 0, .int .i64 0, .bool false] 53 (0, 0))) := h_ r2
 have HB2 := h_ hb2
 have HI2 : Hid (RIn (FG F g g4) W2 R (ms 0)) := h_ ((hin.wide (fun b hb => by rcases hb with h | h | h; exact .inl h; exact .inr (by omega); exact .inr (by have := b1.size; omega))).below hb2)
 have HFG : Hid (∀ b, FG F g g4 b → b < W2.heap.size) := h_ (fun b hb => by rcases hb with h | h | h; (have := hF b h; have := hb2.size; omega); (have := (b_ HR1); omega); (have := (Array.getElem?_eq_some_iff.1 r2).1; omega))
 have HGG : Hid (w.heap.size ≤ g ∧ g < g4 ∧ g4 < W2.heap.size) := h_ ⟨by omega, by omega, by omega⟩
 rw [rowQ_val, hld]
 clear hn hin hF hf hdo hr hld r1 b1 s1 r2 b2 s2 hb2
 go_enter Tryz.func54, Tryz.ntmps54
 go_wp2_with fail
 clear hW1 hW2 hg4
 go_loopg [6] (n * 1) (fun gk_ iv wr => ∃ (i : Nat) (R' : RA), i ≤ n ∧ gk_ = n - i ∧ iv = .int .i64 (i : Int) ∧ Hid (wr.heap[g]? = some (.cells (rowQ R' (ms i)).toArray 53 (0, 0))) ∧ Hid (wr.heap[g4]? = some (.cells #[.slice none 0 0, .slice none 0 0, .slice none 0 0, .slice none 0 0, .int .i64 0, .int .i64 0, .bool false] 53 (0, 0))) ∧ Hid (RIn (FG F g g4) wr R' (ms i)) ∧ Hid (Below w.heap.size w wr) ∧ Hid (g4 < wr.heap.size ∧ W2.heap.size ≤ wr.heap.size))
 case atStart => exact ⟨0, R, by omega, by omega, rfl, HR1, HR2, HI2, HB2, h_ ⟨HGG.out.2.2, Nat.le_refl _⟩⟩
 case round =>
 clear HR1 HR2 HI2 HB2
 obtain ⟨i, R', hi, rfl, rfl, HR1, HR2, HI, HB, HG4⟩ := hrel
 by_cases hlt : i < n
 ·have j1 : (i : Int) < (n : Int) := by omega
  have hil : i < os.length := by rw [HN.out]; exact hlt
  obtain ⟨ho1, ho2, ho3, ho4, ho5⟩ := HDO.out i hil
  have hrd := HRD.out.below HB.out
  obtain ⟨b, o, hA, _⟩ := hrd.all (by rw [flat_length (m := 4) os (fun _ _ => rfl)]; omega)
  rw [hA] at hrd
  have hrow := rd_flat (f := opD) (m := 4) hrd (fun _ _ => rfl) i hil
  obtain ⟨x, hx⟩ := eX (os[i])
  rw [hx] at hrow ho1 ho2 ho3 ho4 ho5
  have HA := h_ hA
  have HDOW : Hid (∀ (W : World) (G : Nat → Prop), RIn G W R' (ms i) → (∀ b, G b → b < W.heap.size) → Below wr.heap.size wr W → Calls Tryz.prog 18 #[.agg (rowQ R' (ms i)).toArray, .agg (opD x).toArray] W fun e w' => ∃ R2 : RA, e = .returned (.tuple #[.agg (rowQ R2 (ms (i + 1))).toArray, .int .i64 0]) ∧ RIn G w' R2 (ms (i + 1)) ∧ Below W.heap.size W w') := h_ (fun W G hin hG hb => by
   have hbw := HB.out.trans (hb.mono HB.out.size)
   have h1 := HFT.out i (by omega)
   exact rDo_any (K := 900) (L := 900000) R' (ms i) x.S x.Z x.A x.n x.c x.bs W hin hG h1.1 (by omega) (by omega) ⟨ho2, ho3⟩ (ho4.below hbw) h1.2 x.k ho1 (ms (i + 1)) 0 ho5)
  have HS0 : Hid (∀ W, Below wr.heap.size wr W → W.rangeAt g 0 (rowQ R' (ms i)) ∧ W.rangeAt b (o + i * 4) (opD x)) := h_ (fun W hb => ⟨range_of_row ((hb.block _ (b_ HR1)).trans HR1.out), by
   have hr2 := ((HRD.out.below HB.out).below hb)
   rw [hA] at hr2
   have h9 := rd_flat (f := opD) (m := 4) hr2 (fun _ _ => rfl) i hil
   rw [hx] at h9
   exact h9⟩)
  have HIL := h_ (info_dkl R' (ms i))
  have HIO := h_ (info_opl x)
  have HLDL : Hid ((rowQ R' (ms i)).length = 7) := h_ rfl
  obtain ⟨lc, hlc⟩ := eX (rowQ R' (ms i))
  obtain ⟨lo, hlo⟩ := eX (opD x)
  rw [hlc] at HDOW HS0 HIL HLDL HR1
  rw [hlo] at HDOW HS0 HIO
  rw [hA]
  clear hil ho1 ho2 ho3 ho4 ho5 hrd hA hrow hx hlc hlo
  go_wp2_with fail
  refine wp_region_sched3 (fun W => W.rangeAt g 0 lc ∧ W.rangeAt b (o + i * 4) lo) [(true, 0), (true, 1), (true, 2), (true, 3), (true, 4)] 5 9 [(true, 6), (true, 7), (true, 8), (false, 9), (false, 10), (true, 11)] [(false, 5), (true, 6), (true, 7), (true, 8), (false, 10), (true, 11)] (by kernel_rfl) (by kernel_rfl) rfl rfl (by kernel_rfl) (HS0.out _ (Below.refl _ _).drew) ?_
  refine wpS3_load _ rfl (by rfl) 53 _ rfl g 0 rfl lc _ (fun w' hS => hS.1) Tryz.underlying53 rfl HIL.out ?_
  simp only [LY]
  iterate 3 ((refine wpS3_take _ ?_ rfl (by rfl) ?_ ?_; rotate_left; (focus (intro w' hS'; (try dsimp only at hS'); (repeat (have hS1 := hS'.1; replace hS' := hS'.2)); go_simp; (try with_reducible rfl); done)); simp only [LY]))
  refine wpS3_load _ rfl (by rfl) 56 _ rfl b (o + i * 4) rfl lo _ (fun w' hS => hS.2) Tryz.underlying56 rfl HIO.out ?_
  simp only [LY]
  refine wpS3_both ?_ ?_
  ·refine doStep_do _ rfl (by rfl) (fun KK hKK => ?_)
   go_simp
   refine (HDOW.out wr.drew (FG F g g4) (HI.out.below (Below.refl _ _).drew) (fun b hb => Nat.lt_of_lt_of_le (HFG.out b hb) HG4.out.2) (Below.refl _ _).drew).mono ?_
   rintro e w9 ⟨R2, rfl, hi9, hb9⟩
   have HB9 : Hid (Below wr.heap.size wr w9) := h_ ((Below.refl _ _).drew.trans hb9)
   have HI9 := h_ hi9
   have HI7 := h_ (info_dka R2 (ms (i + 1)))
   have HI7L := h_ (info_dkl R2 (ms (i + 1)))
   have HO7 : Hid ((rowQ R2 (ms (i + 1))).toArray.all (·.oneCell') = true) := h_ (all_oneCell_toArray (rowQ_one _ _))
   have HL7 : Hid ((rowQ R2 (ms (i + 1))).length = 7) := h_ rfl
   obtain ⟨ln, hln⟩ := eX (rowQ R2 (ms (i + 1)))
   have HLN := h_ hln
   rw [hln] at HI7 HI7L HO7 HL7 ⊢
   obtain ⟨p7, hp7⟩ := eX w9.heap.size
   obtain ⟨WA, hWA⟩ := eX (w9.alloc (.cells #[.slice none 0 0, .slice none 0 0, .slice none 0 0, .slice none 0 0, .int .i64 0, .int .i64 0, .bool false] 53))
   obtain ⟨rA, bA, sA⟩ := new_row hWA
   rw [hp7] at rA
   obtain ⟨WB, hWB, TB, RB, GB⟩ := put_rowR (old := [.slice none 0 0, .slice none 0 0, .slice none 0 0, .slice none 0 0, .int .i64 0, .int .i64 0, .bool false]) (new := ln) rA (by rw [HL7.out]; rfl)
   have hbA : Below wr.heap.size wr WA := HB9.out.trans (bA.mono HB9.out.size)
   have hbB : Below wr.heap.size wr WB := HB9.out.trans ((bel_grown bA bA.size GB.out (by omega)).mono HB9.out.size)
   have HBA := h_ hbA
   have HBB := h_ hbB
   have HP7 : Hid (g4 < p7) := h_ (by have := HG4.out.1; have := HB9.out.size; omega)
   have HIB : Hid (RIn (FG F g g4) WB R2 (ms (i + 1))) := h_ (HI9.out.below (bel_grown bA bA.size GB.out (by omega)))
   have HWB := h_ hWB
   have HTB := h_ TB.out
   have HRB := h_ RB.out
   refine hKK.out _ _ (HS0.out _ HB9.out) (fun hS => ?_)
   clear hKK hS hi9 hb9 hln rA bA sA hbA hbB hWB TB RB GB
   iterate 3 ((first | refine wpS_pass _ rfl (by rfl) ?_ | (refine wpS_take _ ?_ rfl (by rfl) ?_ ?_; rotate_left; (focus (intro w' hS'; (try dsimp only at hS'); (repeat (have hS1 := hS'.1; replace hS' := hS'.2)); go_simp; (try with_reducible rfl); done)))); simp only [LY])
   refine wpS_do _ rfl (by rfl) (fun KK hKK => ?_)
   go_simp
   try rw [hWA]
   try rw [hp7]
   refine hKK.out _ _ (HS0.out _ HBA.out) (fun hS => ?_)
   clear hKK hS
   refine wpS_store_mid _ rfl (by rfl) 53 _ _ rfl p7 0 ln.toArray rfl rfl HTB.out HI7.out HO7.out ?_ ?_
   ·rw [HWB.out]
    exact HS0.out _ HBB.out
   simp only [LY]
   ((first | refine wpS_pass _ rfl (by rfl) ?_ | (refine wpS_take _ ?_ rfl (by rfl) ?_ ?_; rotate_left; (focus (intro w' hS'; (try dsimp only at hS'); (repeat (have hS1 := hS'.1; replace hS' := hS'.2)); go_simp; (try with_reducible rfl); done)))); simp only [LY])
   refine wpS_done ?_
   rw [HWB.out]
   have r1B := (HBB.out.block _ (b_ HR1)).trans HR1.out
   obtain ⟨WC, hWC, TC, RC, GC⟩ := put_rowR (new := ln) r1B (by rw [HL7.out, HLDL.out])
   have HWC := h_ hWC
   have HTC := h_ TC.out
   have HRC : Hid (WC.heap[g]? = some (.cells (rowQ R2 (ms (i + 1))).toArray 53 (0, 0))) := h_ (by rw [HLN.out]; exact RC.out)
   have HRC4 : Hid (WC.heap[g4]? = some (.cells #[.slice none 0 0, .slice none 0 0, .slice none 0 0, .slice none 0 0, .int .i64 0, .int .i64 0, .bool false] 53 (0, 0))) := h_ ((GC.out.block _ (Nat.lt_of_lt_of_le HG4.out.1 HBB.out.size) (fun e => by have := Option.some.inj e; have := HGG.out; omega)).trans ((HBB.out.block _ (b_ HR2)).trans HR2.out))
   have HIC : Hid (RIn (FG F g g4) WC R2 (ms (i + 1))) := h_ (HIB.out.frm (Frm.of_grown (F := (· = g)) GC.out (fun k hk => .inl (by cases hk; rfl))) (fun b hb => .inr (.inl hb)))
   have HBC : Hid (Below w.heap.size w WC) := h_ (bel_grown (HB.out.trans (HBB.out.mono HB.out.size)) (Nat.le_trans HB.out.size HBB.out.size) GC.out HGG.out.1)
   have HG4C : Hid (g4 < WC.heap.size ∧ W2.heap.size ≤ WC.heap.size) := h_ (by have := HG4.out; have := HBB.out.size; have := GC.out.size; omega)
   have HRGB := h_ (range_of_row HRB.out)
   clear r1B hWC TC RC GC
   go_wp2_with (first
    | ((with_reducible (refine wpList_load_cells 53 _ p7 0 (ln) HRGB.out Tryz.underlying53 rfl HI7L.out ?_ rfl ?_ ?_)); exact rfl; (exact rfl))
    | ((with_reducible (refine wpList_store_mid rfl _ _ _ rfl ?_ ?_ ?_ ?_ ?_ ?_ ?_ ?_ ?_)); exact g; exact 0; (exact (ln).toArray); exact rfl; exact rfl; exact HTC.out; exact HI7.out; exact HO7.out; rw [HWC.out]))
   try rw [← HA.out]
   clear hWA hp7
   go_roundg (n - (i + 1))
   case measure => omega
   case rel => exact ⟨i + 1, R2, by omega, rfl, by first | rfl | exact congrArg (Value.int .i64) (by omega) | go_num, HRC, HRC4, HIC, HBC, HG4C⟩
  ·refine doStep_do _ rfl (by rfl) (fun KK hKK => ?_)
   go_simp
   obtain ⟨p7, hp7⟩ := eX wr.heap.size
   obtain ⟨WA, hWA⟩ := eX ((wr.alloc (.cells #[.slice none 0 0, .slice none 0 0, .slice none 0 0, .slice none 0 0, .int .i64 0, .int .i64 0, .bool false] 53)).drew)
   have hWA2 : wr.drew.alloc (.cells #[.slice none 0 0, .slice none 0 0, .slice none 0 0, .slice none 0 0, .int .i64 0, .int .i64 0, .bool false] 53) = WA := hWA
   obtain ⟨rA, bA, sA⟩ := new_row hWA2
   clear hWA2
   have hbA : Below wr.heap.size wr WA := (Below.refl _ _).drew.trans bA
   have rA' : WA.heap[p7]? = some (.cells #[.slice none 0 0, .slice none 0 0, .slice none 0 0, .slice none 0 0, .int .i64 0, .int .i64 0, .bool false] 53 (0, 0)) := by rw [← hp7]; exact rA
   have HRA := h_ rA'
   have HBA := h_ hbA
   try rw [hWA]
   try rw [hp7]
   refine hKK.out _ _ (HS0.out _ HBA.out) (fun hS => ?_)
   clear hKK hS rA bA sA hbA rA'
   refine wpS_do _ rfl (by rfl) (fun KK hKK => ?_)
   go_simp
   refine (HDOW.out WA (FG (FG F g g4) p7 p7) ((HI.out.wide (fun b hb => by rcases hb with h | h | h; exact .inl h; exact .inr (by omega); exact .inr (by omega))).below HBA.out) (fun b hb => by rcases hb with h | h | h; (have := HFG.out b h; have := HG4.out.2; have := HBA.out.size; omega); (have := (b_ HRA); omega); (have := (b_ HRA); omega)) HBA.out).mono ?_
   rintro e w9 ⟨R2, rfl, hi9, hb9⟩
   have HB9 := bt_ HBA hb9
   have HI9 := h_ hi9
   have HI7 := h_ (info_dka R2 (ms (i + 1)))
   have HI7L := h_ (info_dkl R2 (ms (i + 1)))
   have HO7 : Hid ((rowQ R2 (ms (i + 1))).toArray.all (·.oneCell') = true) := h_ (all_oneCell_toArray (rowQ_one _ _))
   have HL7 : Hid ((rowQ R2 (ms (i + 1))).length = 7) := h_ rfl
   obtain ⟨ln, hln⟩ := eX (rowQ R2 (ms (i + 1)))
   have HLN := h_ hln
   rw [hln] at HI7 HI7L HO7 HL7 ⊢
   have r9 := (hb9.block _ (b_ HRA)).trans HRA.out
   obtain ⟨WB, hWB, TB, RB, GB⟩ := put_rowR (old := [.slice none 0 0, .slice none 0 0, .slice none 0 0, .slice none 0 0, .int .i64 0, .int .i64 0, .bool false]) (new := ln) r9 (by rw [HL7.out]; rfl)
   have HBB := bg_ HB9 GB (by omega)
   have HP7 : Hid (g4 < p7) := h_ (by have := HG4.out.1; omega)
   have HIB : Hid (RIn (FG F g g4) WB R2 (ms (i + 1))) := h_ ((HI9.out.frm (Frm.of_grown (F := (· = p7)) GB.out (fun k hk => .inl (by cases hk; rfl))) (fun b hb => .inr (.inl hb))).narrow (fun b hb => .inl hb))
   have HWB := h_ hWB
   have HTB := h_ TB.out
   have HRB := h_ RB.out
   refine hKK.out _ _ (HS0.out _ HB9.out) (fun hS => ?_)
   clear hKK hS hi9 hb9 hln r9 hWB TB RB GB
   iterate 3 ((first | refine wpS_pass _ rfl (by rfl) ?_ | (refine wpS_take _ ?_ rfl (by rfl) ?_ ?_; rotate_left; (focus (intro w' hS'; (try dsimp only at hS'); (repeat (have hS1 := hS'.1; replace hS' := hS'.2)); go_simp; (try with_reducible rfl); done)))); simp only [LY])
   refine wpS_store_mid _ rfl (by rfl) 53 _ _ rfl p7 0 ln.toArray rfl rfl HTB.out HI7.out HO7.out ?_ ?_
   ·rw [HWB.out]
    exact HS0.out _ HBB.out
   simp only [LY]
   ((first | refine wpS_pass _ rfl (by rfl) ?_ | (refine wpS_take _ ?_ rfl (by rfl) ?_ ?_; rotate_left; (focus (intro w' hS'; (try dsimp only at hS'); (repeat (have hS1 := hS'.1; replace hS' := hS'.2)); go_simp; (try with_reducible rfl); done)))); simp only [LY])
   refine wpS_done ?_
   rw [HWB.out]
   have r1B := (HBB.out.block _ (b_ HR1)).trans HR1.out
   obtain ⟨WC, hWC, TC, RC, GC⟩ := put_rowR (new := ln) r1B (by rw [HL7.out, HLDL.out])
   have HWC := h_ hWC
   have HTC := h_ TC.out
   have HRC : Hid (WC.heap[g]? = some (.cells (rowQ R2 (ms (i + 1))).toArray 53 (0, 0))) := h_ (by rw [HLN.out]; exact RC.out)
   have HRC4 : Hid (WC.heap[g4]? = some (.cells #[.slice none 0 0, .slice none 0 0, .slice none 0 0, .slice none 0 0, .int .i64 0, .int .i64 0, .bool false] 53 (0, 0))) := h_ ((GC.out.block _ (Nat.lt_of_lt_of_le HG4.out.1 HBB.out.size) (fun e => by have := Option.some.inj e; have := HGG.out; omega)).trans ((HBB.out.block _ (b_ HR2)).trans HR2.out))
   have HIC : Hid (RIn (FG F g g4) WC R2 (ms (i + 1))) := h_ (HIB.out.frm (Frm.of_grown (F := (· = g)) GC.out (fun k hk => .inl (by cases hk; rfl))) (fun b hb => .inr (.inl hb)))
   have HBC : Hid (Below w.heap.size w WC) := h_ (bel_grown (HB.out.trans (HBB.out.mono HB.out.size)) (Nat.le_trans HB.out.size HBB.out.size) GC.out HGG.out.1)
   have HG4C : Hid (g4 < WC.heap.size ∧ W2.heap.size ≤ WC.heap.size) := h_ (by have := HG4.out; have := HBB.out.size; have := GC.out.size; omega)
   have HRGB := h_ (range_of_row HRB.out)
   clear r1B hWC TC RC GC
   go_wp2_with (first
    | ((with_reducible (refine wpList_load_cells 53 _ p7 0 (ln) HRGB.out Tryz.underlying53 rfl HI7L.out ?_ rfl ?_ ?_)); exact rfl; (exact rfl))
    | ((with_reducible (refine wpList_store_mid rfl _ _ _ rfl ?_ ?_ ?_ ?_ ?_ ?_ ?_ ?_ ?_)); exact g; exact 0; (exact (ln).toArray); exact rfl; exact rfl; exact HTC.out; exact HI7.out; exact HO7.out; rw [HWC.out]))
   try rw [← HA.out]
   clear hWA hp7
   go_roundg (n - (i + 1))
   case measure => omega
   case rel => exact ⟨i + 1, R2, by omega, rfl, by first | rfl | exact congrArg (Value.int .i64) (by omega) | go_num, HRC, HRC4, HIC, HBC, HG4C⟩
 ·obtain rfl : i = n := by omega
  have HIZ := h_ (info_dka R' (ms i))
  have HIZL := h_ (info_dkl R' (ms i))
  have HOZ : Hid ((rowQ R' (ms i)).toArray.all (·.oneCell') = true) := h_ (all_oneCell_toArray (rowQ_one _ _))
  have HRG := h_ (range_of_row HR1.out)
  obtain ⟨WZ, hWZ, TZ, RZ, GZ⟩ := put_rowR (old := [.slice none 0 0, .slice none 0 0, .slice none 0 0, .slice none 0 0, .int .i64 0, .int .i64 0, .bool false]) (new := rowQ R' (ms i)) HR2.out rfl
  have HWZ := h_ hWZ
  have HTZ := h_ TZ.out
  have HRZ := h_ RZ.out
  have HIF : Hid (RIn F WZ R' (ms i)) := h_ ((HI.out.frm (Frm.of_grown (F := (· = g4)) GZ.out (fun k hk => .inl (by cases hk; rfl))) (fun b hb => .inr (.inr hb))).narrow (fun b hb => .inl hb))
  have HBZ := bg_ HB GZ (by have := HGG.out; omega)
  obtain ⟨lc, hlc⟩ := eX (rowQ R' (ms i))
  have HLC := h_ hlc
  rw [hlc] at HIZ HIZL HOZ HRG HWZ HTZ HRZ
  clear hlc hWZ TZ RZ GZ
  go_wp2_with (first
   | ((with_reducible (refine wpList_load_cells 53 _ g 0 (lc) HRG.out Tryz.underlying53 rfl HIZL.out ?_ rfl ?_ ?_)); exact rfl; (exact rfl))
   | ((with_reducible (refine wpList_store_mid rfl _ _ _ rfl ?_ ?_ ?_ ?_ ?_ ?_ ?_ ?_ ?_)); exact g4; exact 0; (exact (lc).toArray); exact rfl; exact rfl; exact HTZ.out; exact HIZ.out; exact HOZ.out; rw [HWZ.out]))
  exact bodyPost_ret (results_row_tmp rfl _ _ _ _ _ _ _ rfl HRZ.out Tryz.underlying53 rfl HIZ.out) rfl ⟨R', by rw [rowQ_val, HLC.out]; rfl, HIF.out, by first | exact HBZ.out | (rw [← hg]; exact HBZ.out)⟩
end Go.Proofs.YtelbofikcpchiaaGreat
