/- The document's refs in memory; Get. -/
import Derived.Test.YtelbofikcpchiaaGreatQI
import Derived.Test.YtelbofikcpchiaaGreatRf28
import Derived.Test.YtelbofikcpchiaaGreatQU
import Derived.Test.YtelbofikcpchiaaGreatInK
namespace Go.Proofs.YtelbofikcpchiaaGreat
open Go.RowKit
def rfR (R : RA) (m : DM) (A : Option Addr) (c : Nat) (r : RfM) : List Value :=
 .slice R.fa m.files.length R.fc :: .slice R.na m.now.length R.nc :: .slice R.sa m.sure.length R.sc :: .slice R.ta m.turns.length R.tc :: .int .i64 (m.most : Int) :: .int .i64 (m.fuse : Int) :: .bool m.down ::
  .slice A r.log.length c :: strV r.head :: (b8s r.at_ ++ [.bool r.stuck])
def rfV (R : RA) (m : DM) (A : Option Addr) (c : Nat) (r : RfM) : Value := .agg (rfR R m A c r).toArray
set_option linter.unusedSectionVars false
section
variable {R : RA} {m : DM} {A : Option Addr} {c : Nat} {r : RfM}
theorem rfR_len (h : r.at_.length = 32) : (rfR R m A c r).length = 42 := by simp [rfR, b8s_length, h]
theorem rfR_one : ∀ v ∈ rfR R m A c r, v.oneCell' = true := by
 intro v hv
 simp only [rfR, List.mem_cons, List.mem_append] at hv
 rcases hv with rfl | rfl | rfl | rfl | rfl | rfl | rfl | rfl | rfl | hv | hv
 all_goals first
  | rfl
  | exact b8s_one' _ v hv
  | (simp at hv; rw [hv]; rfl)
theorem info_rfl (h : r.at_.length = 32) : (Tryz.prog.info? 65).map (·.size) = some (rfR R m A c r).length := by
 rw [rfR_len h]
 kernel_rfl
theorem info_rfa (h : r.at_.length = 32) : (Tryz.prog.info? 65).map (·.size) = some (rfR R m A c r).toArray.size := by
 rw [List.size_toArray, rfR_len h]
 kernel_rfl
theorem rf_cells {w : World} {g : Nat} {t : TypeId} (h : w.heap[g]? = some (.cells (rfR R m A c r).toArray t (0, 0))) : w.cell? ⟨g, 7, none⟩ = some (.slice A r.log.length c) ∧ w.cell? ⟨g, 8, none⟩ = some (strV r.head) ∧ w.rangeAt g 9 (b8s r.at_) := by
 refine ⟨by rw [row_cell h 7]; rfl, by rw [row_cell h 8]; rfl, fun j v hv => ?_⟩
 rw [row_cell h]
 have hj := (List.getElem?_eq_some_iff.1 hv).1
 have e : (rfR R m A c r)[9 + j]? = (b8s r.at_ ++ [.bool r.stuck])[j]? := by
  rw [show 9 + j = j + 9 by omega]
  simp only [rfR, List.getElem?_cons_succ]
 rw [List.getElem?_toArray, e, List.getElem?_append_left hj]
 exact hv
end
theorem rid_neq (d e : List UInt8) (h : d.length = 32) (h' : e.length = 32) (w : World) : (binOp .neq 23 (.agg (b8s d).toArray) (.agg (b8s e).toArray)).run Tryz.prog w = .ok (.bool (!decide (d = e))) w :=
 run_neq_ids (P := Tryz.prog) (t := 23) (e := 5) (n := 32) Tryz.underlying23 Tryz.underlying5 (by kernel_rfl) (by kernel_rfl) (by kernel_rfl) d e h h' w
theorem rid_guard : Program.eqGuardType Tryz.prog Tryz.prog.depth 23 = false := by kernel_rfl
theorem rinfo_l (bs : List UInt8) (h : bs.length = 32) : (Tryz.prog.info? 23).map (·.size) = some (b8s bs).length := by
 rw [b8s_length, h]
 kernel_rfl
theorem rinfo_a (bs : List UInt8) (h : bs.length = 32) : (Tryz.prog.info? 23).map (·.size) = some (b8s bs).toArray.size := by
 rw [arr_size bs h]
 kernel_rfl
theorem rid0_built : Tryz.prog.built 23 [] = some (b8s Z32).toArray := by kernel_rfl
theorem rinfo_upl {u : UpM} (h : upOk u) : (Tryz.prog.info? 131).map (·.size) = some (upC u).length := by
 rw [upC_len h]
 kernel_rfl
theorem rinfo_upa {u : UpM} (h : upOk u) : (Tryz.prog.info? 131).map (·.size) = some (upC u).toArray.size := by
 rw [List.size_toArray, upC_len h]
 kernel_rfl
theorem up_range {w : World} {b o : Nat} {u : UpM} (h : w.rangeAt b o (upC u)) (hk : upOk u) : w.cell? ⟨b, o, none⟩ = some (strV u.name) ∧ w.rangeAt b (o + 1) (b8s u.old) ∧ w.rangeAt b (o + 33) (b8s u.new) := by
 have hl : (b8s u.old).length = 32 := by rw [b8s_length, hk.1]
 refine ⟨h 0 _ rfl, fun j v hv => ?_, fun j v hv => ?_⟩
 ·have hj := (List.getElem?_eq_some_iff.1 hv).1
  rw [show o + 1 + j = o + (j + 1) by omega]
  refine h (j + 1) v ?_
  simp only [upC]
  rw [List.getElem?_cons_succ, List.getElem?_append_left hj]
  exact hv
 ·rw [show o + 33 + j = o + (32 + j + 1) by omega]
  refine h (32 + j + 1) v ?_
  simp only [upC]
  rw [List.getElem?_cons_succ, List.getElem?_append_right (by omega), hl, Nat.add_sub_cancel_left]
  exact hv
theorem log_row {w : World} {A : Option Addr} {log : List UpM} (h : Rd w A (upsC log)) (hk : ∀ u ∈ log, upOk u) {i : Nat} (hi : i < log.length) : ∃ b o, A = some ⟨b, o, none⟩ ∧ w.rangeAt b (o + i * 65) (upC log[i]) := by
 obtain ⟨b, o, hA, _⟩ := h.all (by rw [upsC_len hk]; omega)
 refine ⟨b, o, hA, ?_⟩
 rw [hA] at h
 exact rd_flat (f := upC) (m := 65) h (fun x hx => upC_len (hk x hx)) i hi
theorem getL_take (log : List UpM) (k : Nat) (h : k < log.length) (s : List UInt8) : getL (log.take (k + 1)) s = if log[k].name = s then log[k].new else getL (log.take k) s := by
 rw [← List.take_append_getElem h, getL_snoc]
set_option maxRecDepth 1000000 in
set_option maxHeartbeats 4000000 in
theorem rget_any (R : RA) (m : DM) (A : Option Addr) (c : Nat) (r : RfM) (S : ByteArray) (w : World) (hk : RfOk r) (hl : r.log.length ≤ 1000000) (hr : Rd w A (upsC r.log)) :
  Calls Tryz.prog 60 #[rfV R m A c r, .string S] w fun e w' => e = .returned (.agg (b8s (getL r.log S.data.toList)).toArray) ∧ Below w.heap.size w w' := by
 have HK := h_ hk
 have HR := h_ hr
 obtain ⟨n, hn⟩ := eX r.log.length
 have HN := h_ hn
 rw [hn] at hl
 obtain ⟨g, hg⟩ := eX w.heap.size
 obtain ⟨W1, hW1⟩ := eX (w.alloc (.cells (rfR R m A c r).toArray 65))
 obtain ⟨r1, b1, s1⟩ := new_row hW1
 rw [hg] at r1
 have c7 : W1.cell? ⟨g, 7, none⟩ = some (.slice A n c) := by rw [← hn]; exact (rf_cells r1).1
 have HC7 : Hid (∀ W, Below W1.heap.size W1 W → W.cell? ⟨g, 7, none⟩ = some (.slice A n c)) := h_ (fun W hb => by
  have hlt := World.block_lt_of_cell? W1 _ c7
  exact cell_below c7 hlt hb)
 have HB1 := h_ b1
 obtain ⟨p4, hp4⟩ := eX W1.heap.size
 obtain ⟨W2, hW2⟩ := eX (W1.alloc (.cells #[Value.int .u8 0, .int .u8 0, .int .u8 0, .int .u8 0, .int .u8 0, .int .u8 0, .int .u8 0, .int .u8 0, .int .u8 0, .int .u8 0, .int .u8 0, .int .u8 0, .int .u8 0, .int .u8 0, .int .u8 0, .int .u8 0, .int .u8 0, .int .u8 0, .int .u8 0, .int .u8 0, .int .u8 0, .int .u8 0, .int .u8 0, .int .u8 0, .int .u8 0, .int .u8 0, .int .u8 0, .int .u8 0, .int .u8 0, .int .u8 0, .int .u8 0, .int .u8 0] 23))
 obtain ⟨r2, b2, s2⟩ := new_row hW2
 rw [hp4, ← z32_lit] at r2
 obtain ⟨p5, hp5⟩ := eX W2.heap.size
 obtain ⟨W3, hW3⟩ := eX (W2.alloc (.cells #[Value.int .u8 0, .int .u8 0, .int .u8 0, .int .u8 0, .int .u8 0, .int .u8 0, .int .u8 0, .int .u8 0, .int .u8 0, .int .u8 0, .int .u8 0, .int .u8 0, .int .u8 0, .int .u8 0, .int .u8 0, .int .u8 0, .int .u8 0, .int .u8 0, .int .u8 0, .int .u8 0, .int .u8 0, .int .u8 0, .int .u8 0, .int .u8 0, .int .u8 0, .int .u8 0, .int .u8 0, .int .u8 0, .int .u8 0, .int .u8 0, .int .u8 0, .int .u8 0] 23))
 obtain ⟨r3, b3, s3⟩ := new_row hW3
 rw [hp5, ← z32_lit] at r3
 obtain ⟨l0, hl0⟩ := eX (b8s Z32)
 obtain ⟨W4, hW4, T4, R4, G4⟩ := put_rowR (new := b8s Z32) r3 rfl
 have HIA0 : Hid ((Tryz.prog.info? 23).map (·.size) = some l0.toArray.size) := h_ (by rw [← hl0]; exact rinfo_a Z32 rfl)
 have HOC0 : Hid (l0.toArray.all (·.oneCell') = true) := h_ (by rw [← hl0]; exact all_oneCell_toArray (b8s_one' _))
 have HID0 : Hid (Tryz.prog.built 23 [] = some l0.toArray) := h_ (by rw [← hl0]; exact rid0_built)
 have HL0 := h_ hl0
 have hb4 : Below W2.heap.size W2 W4 := bel_grown b3 b3.size G4.out (by omega)
 have R44 : Hid (W4.heap[p4]? = some (.cells (b8s Z32).toArray 23 (0, 0))) := h_ ((hb4.block _ (Array.getElem?_eq_some_iff.1 r2).1).trans r2)
 have HB4 : Hid (Below W1.heap.size W1 W4) := h_ (b2.trans (hb4.mono b2.size))
 have HPP : Hid (p4 < p5 ∧ W1.heap.size ≤ p4) := h_ ⟨by omega, by omega⟩
 rw [hl0] at T4
 have T4' : Hid (W3.there p5 0 l0.toArray.size) := T4
 rw [hl0] at hW4
 have HW4 := h_ hW4
 unfold rfV
 obtain ⟨lr, hlr⟩ := eX (rfR R m A c r)
 rw [hlr] at hW1 ⊢
 clear hk hr hn r1 b1 s1 c7 r2 b2 s2 r3 b3 s3 hl0 T4 hb4 hW4 hlr
 go_enter Tryz.func60, Tryz.ntmps60
 go_wp2_with (first
  | ((with_reducible (refine wpList_built ?_ _ #[] ?_ _ ?_ _ HID0.out ?_)); exact rfl; exact rfl; (exact rfl))
  | ((with_reducible (refine wpList_store_mid rfl _ _ _ rfl ?_ ?_ ?_ ?_ ?_ ?_ ?_ ?_ ?_)); exact p5; exact 0; (exact (l0).toArray); exact rfl; exact rfl; (exact T4'.out); exact HIA0.out; exact HOC0.out; rw [HW4.out]))
 have HPB : Hid (∀ W, Below W1.heap.size W1 W → Below w.heap.size w W) := h_ (fun W hb => HB1.out.trans (hb.mono HB1.out.size))
 clear hW1 hW2 hW3 hp4 hp5
 go_loopg [6] (n * 1) (fun gk_ iv wr => ∃ (k : Nat), k ≤ n ∧ gk_ = n - k ∧ iv = .int .i64 (k : Int) ∧ Hid (wr.heap[p5]? = some (.cells (b8s (getL (r.log.take k) S.data.toList)).toArray 23 (0, 0))) ∧ Hid (wr.heap[p4]? = some (.cells (b8s Z32).toArray 23 (0, 0))) ∧ Hid (Below W1.heap.size W1 wr))
 case atStart => exact ⟨0, by omega, by omega, rfl, R4, R44, HB4⟩
 case round =>
 clear R4 R44 HB4
 obtain ⟨k, hk, rfl, rfl, HR5, HR4, HB⟩ := hrel
 obtain ⟨cur, hcur⟩ := eX (getL (r.log.take k) S.data.toList)
 have HCUR := h_ hcur
 have hcl : cur.length = 32 := by rw [← hcur]; exact getL_len _ (fun u hu => (HK.out.log u (List.mem_of_mem_take hu)).2.1) _
 rw [hcur] at HR5
 have c7 := HC7.out _ HB.out
 by_cases hlt : k < n
 ·have i1 : (k : Int) < (n : Int) := by omega
  have hkl : k < r.log.length := by rw [HN.out]; exact hlt
  obtain ⟨u, hu⟩ := eX (r.log[k])
  have HOK : Hid (upOk u) := h_ (HK.out.log u (by rw [← hu]; exact List.getElem_mem hkl))
  obtain ⟨b, o, hA, hrow⟩ := log_row (HR.out.below (HPB.out _ HB.out)) HK.out.log hkl
  rw [hu] at hrow
  obtain ⟨u0, _, u2⟩ := up_range hrow HOK.out
  have HU2 := h_ u2
  have HST : Hid (getL (r.log.take (k + 1)) S.data.toList = if u.name = S.data.toList then u.new else cur) := h_ (by rw [getL_take r.log k hkl, hu, hcur])
  obtain ⟨Y, hY, hYs⟩ : ∃ Y : ByteArray, strV u.name = .string Y ∧ Y.data.toList = u.name := ⟨_, rfl, rfl⟩
  rw [hY] at u0
  rw [hA] at c7
  have HIL := h_ (rinfo_l u.new HOK.out.2.1)
  have HIA := h_ (rinfo_a u.new HOK.out.2.1)
  have HOC : Hid ((b8s u.new).toArray.all (·.oneCell') = true) := h_ (all_oneCell_toArray (b8s_one' _))
  obtain ⟨W5, hW5, T5, R5, G5⟩ := put_rowR (new := b8s u.new) HR5.out (by rw [b8s_length, b8s_length, HOK.out.2.1, hcl])
  have HW5 := h_ hW5
  have HR45 : Hid (W5.heap[p4]? = some (.cells (b8s Z32).toArray 23 (0, 0))) := h_ ((G5.out.block _ (b_ HR4) (fun e => by have := HPP.out.1; have := Option.some.inj e; omega)).trans HR4.out)
  have HB5 := bg_ HB G5 (by have := HPP.out; omega)
  have HR5' : Hid (W5.heap[p5]? = some (.cells (b8s u.new).toArray 23 (0, 0))) := R5
  obtain ⟨ln, hln⟩ := eX (b8s u.new)
  have HLN := h_ hln
  rw [hln] at HU2 HIL HIA HOC HW5 T5
  have HT5 := h_ T5.out
  by_cases he : Y = S
  ·have heq : (Y.toList == S.toList) = true := by rw [names_eq, decide_eq_true he]
   have HS2 : Hid (getL (r.log.take (k + 1)) S.data.toList = u.new) := h_ (by rw [HST.out, if_pos (by rw [← hYs, he])])
   clear hcur hcl hkl hu hA hrow u2 hY hYs hW5 T5 R5 G5 hln he
   go_wp2_with (first
    | ((with_reducible (refine wpList_load_cells 23 _ b (o + k * 65 + 33) (ln) HU2.out Tryz.underlying23 rfl HIL.out ?_ rfl ?_ ?_)); exact rfl; (exact rfl))
    | ((with_reducible (refine wpList_store_mid rfl _ _ _ rfl ?_ ?_ ?_ ?_ ?_ ?_ ?_ ?_ ?_)); exact p5; exact 0; (exact (ln).toArray); exact rfl; exact rfl; exact HT5.out; exact HIA.out; exact HOC.out; rw [HW5.out]))
   go_roundg (n - (k + 1))
   case measure => omega
   case rel => exact ⟨k + 1, by omega, rfl, by first | rfl | exact congrArg (Value.int .i64) (by omega) | go_num, h_ (by rw [HS2.out]; exact HR5'.out), HR45, HB5⟩
  ·have heq : (Y.toList == S.toList) = false := by rw [names_eq, decide_eq_false he]
   have HS2 : Hid (getL (r.log.take (k + 1)) S.data.toList = cur) := h_ (by
    rw [HST.out, if_neg (fun e => he ?_)]
    exact ba_ext (by rw [hYs, e]))
   clear hcur hcl hkl hu hA hrow u2 hY hYs hW5 T5 R5 G5 hln he
   go_wp2_with fail
   go_roundg (n - (k + 1))
   case measure => omega
   case rel => exact ⟨k + 1, by omega, rfl, by first | rfl | exact congrArg (Value.int .i64) (by omega) | go_num, h_ (by rw [HS2.out]; exact HR5.out), HR4, HB⟩
 ·obtain rfl : k = n := by omega
  have HEND : Hid (getL r.log S.data.toList = cur) := h_ (by rw [← hcur, List.take_of_length_le (by rw [HN.out]; omega)])
  have HIL := h_ (rinfo_l cur hcl)
  have HIA := h_ (rinfo_a cur hcl)
  have HOC : Hid ((b8s cur).toArray.all (·.oneCell') = true) := h_ (all_oneCell_toArray (b8s_one' _))
  obtain ⟨W5, hW5, T5, R5, G5⟩ := put_rowR (new := b8s cur) HR4.out (by rw [b8s_length, b8s_length, hcl]; rfl)
  have HW5 := h_ hW5
  have HB5 := bg_ HB G5 (by have := HPP.out; omega)
  have HRG5 := h_ (range_of_row HR5.out)
  have HR55 := h_ R5.out
  obtain ⟨ln, hln⟩ := eX (b8s cur)
  have HLN := h_ hln
  rw [hln] at HRG5 HIL HIA HOC HW5 T5 HR55
  have HT5 := h_ T5.out
  clear hcur hcl hW5 T5 R5 G5 hln
  go_wp2_with (first
   | ((with_reducible (refine wpList_load_cells 23 _ p5 0 (ln) HRG5.out Tryz.underlying23 rfl HIL.out ?_ rfl ?_ ?_)); exact rfl; (exact rfl))
   | ((with_reducible (refine wpList_store_mid rfl _ _ _ rfl ?_ ?_ ?_ ?_ ?_ ?_ ?_ ?_ ?_)); exact p4; exact 0; (exact (ln).toArray); exact rfl; exact rfl; exact HT5.out; exact HIA.out; exact HOC.out; rw [HW5.out]))
  exact bodyPost_ret (results_row1 rfl _ _ _ _ _ _ _ rfl HR55.out Tryz.underlying23 rfl HIA.out) rfl ⟨by rw [HEND.out, HLN.out], by first | exact HPB.out _ HB5.out | (rw [← hg]; exact HPB.out _ HB5.out)⟩
end Go.Proofs.YtelbofikcpchiaaGreat
