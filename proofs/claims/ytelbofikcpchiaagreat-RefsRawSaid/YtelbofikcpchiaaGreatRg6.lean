/- The names of refs, as the document lists them. (Printed by wip/genRg6.py.) -/
import Derived.Test.YtelbofikcpchiaaGreatRg5
namespace Go.Proofs.YtelbofikcpchiaaGreat
open Go.RowKit
def ks1 (s : List UInt8) : List Value := [strV s]
theorem keysC_ks {α : Type} (al : AL α) : (al.map (·.1)).flatMap ks1 = keysC al := by
 unfold keysC
 induction al with
 | nil => rfl
 | cons p al ih => simp only [List.map_cons, List.flatMap_cons, ih, ks1]; rfl
theorem info_strq : (Tryz.prog.info? 9).map (fun i => (i.zero, i.size, i.bytes)) = some (some (.string ⟨#[]⟩), 1, 16) := by kernel_rfl
theorem cand_zero {log : List UpM} {s : List UInt8} (h : getL log s ≠ Z32) (ks : List (List UInt8)) : candL log (ks.take 0) s = true := by
 simp [candL, h]
theorem cand_no {log : List UpM} {s : List UInt8} (h : getL log s = Z32) (out : List (List UInt8)) : candL log out s = false := by
 simp [candL, h]
theorem cand_succ {log : List UpM} {s : List UInt8} (h : getL log s ≠ Z32) {ks : List (List UInt8)} {j : Nat} {l : List UInt8} (hl : ks[j]? = some l) : candL log (ks.take (j + 1)) s = bytesBefore l s := by
 obtain ⟨hj, he⟩ := List.getElem?_eq_some_iff.1 hl
 unfold candL
 have e : (ks.take (j + 1)).getLast? = some l := by
  rw [List.getLast?_eq_getElem?, List.length_take, Nat.min_eq_left (by omega), Nat.add_sub_cancel, List.getElem?_take, if_pos (by omega), hl]
 rw [e]
 simp [h]
theorem best_no {log : List UpM} {out : List (List UInt8)} {b : List UInt8} {u : UpM} (h : candL log out u.name = false) : bestS log out b u = b := by
 unfold bestS
 rw [if_neg (by simp [h])]
theorem best_emp {log : List UpM} {out : List (List UInt8)} {b : List UInt8} {u : UpM} (h : candL log out u.name = true) (hb : b = []) : bestS log out b u = u.name := by
 unfold bestS
 rw [if_pos (by simp [h, hb])]
theorem best_lt {log : List UpM} {out : List (List UInt8)} {b : List UInt8} {u : UpM} (h : candL log out u.name = true) (hb : bytesBefore u.name b = true) : bestS log out b u = u.name := by
 unfold bestS
 rw [if_pos (by simp [h, hb])]
theorem best_ge {log : List UpM} {out : List (List UInt8)} {b : List UInt8} {u : UpM} (h1 : b ≠ []) (hb : bytesBefore u.name b = false) : bestS log out b u = b := by
 unfold bestS
 rw [if_neg (by simp [h1, hb])]
set_option maxRecDepth 1000000 in
set_option maxHeartbeats 16000000 in
theorem rnamesD_any (R : RA) (m : DM) (A : Option Addr) (c : Nat) (r : RfM) (w : World) (hk : RfOk r) (hgl : GL r) (n : Nat) (hn : r.log.length = n) (hl : n ≤ 1000000) (hKl : r.all.length ≤ 1000000) (hr : Rd w A (upsC r.log)) :
  Calls Tryz.prog 59 #[rfV R m A c r] w fun e w' => ∃ A' c', e = .returned (.slice A' r.all.length c') ∧ Rd w' A' (keysC r.all) ∧ Below w.heap.size w w' := by
 have HKR := h_ hk
 have HN := h_ hn
 have HGA := h_ (fun (S : ByteArray) (W : World) (hb : Below w.heap.size w W) => rget_any R m A c r S W hk (by omega) (hr.below hb))
 obtain ⟨K, hK⟩ := eX r.all.length
 obtain ⟨ks, hks⟩ := eX (r.all.map (·.1))
 have HKL : Hid (ks.length = K) := h_ (by rw [← hks, List.length_map, hK])
 have HNX : Hid (∀ j, j ≤ K → bestL r.log (ks.take j) r.log = (ks[j]?).getD []) := h_ (fun j hj => by rw [← hks]; exact best_next hgl hk.rn (by omega))
 have HKC : Hid (ks.flatMap ks1 = keysC r.all) := h_ (by rw [← hks]; exact keysC_ks _)
 have HNE : Hid (∀ s ∈ ks, s ≠ []) := h_ (fun s hs => by
  rw [← hks] at hs
  have h1 := (getA_key hgl.nz s).2 hs
  rw [hgl.get] at h1
  obtain ⟨u, hu, rfl⟩ := getL_mem h1
  exact hgl.ne u hu)
 rw [hK] at hKl
 obtain ⟨g, hg⟩ := eX w.heap.size
 obtain ⟨W1, hW1⟩ := eX (w.alloc (.cells (rfR R m A c r).toArray 65))
 obtain ⟨r1, b1, s1⟩ := new_row hW1
 rw [hg] at r1
 have HRW : Hid (∀ W, Below W1.heap.size W1 W → Below w.heap.size w W ∧ W.cell? ⟨g, 7, none⟩ = some (.slice A n c) ∧ W.rangeAt g 0 (rfR R m A c r) ∧ Rd W A (upsC r.log)) := h_ (fun W hb => by
  have hw := b1.trans (hb.mono b1.size)
  have h1 := (hb.block _ (Array.getElem?_eq_some_iff.1 r1).1).trans r1
  exact ⟨hw, by rw [← hn]; exact (rf_cells h1).1, range_of_row h1, hr.below hw⟩)
 have HIR := h_ (info_rfl (R := R) (m := m) (A := A) (c := c) hk.al)
 obtain ⟨W2, hW2⟩ := eX (W1.alloc (.cells #[] 9))
 obtain ⟨p2, hp2⟩ := eX W1.heap.size
 have HO0 : Hid (LOut 9 1 ks1 W1 W2 (some ⟨p2, 0, none⟩) 0 0 []) := h_ (by rw [← hW2, ← hp2]; exact LOut.start _ _ _ (Below.refl _ _))
 unfold rfV at HGA ⊢
 obtain ⟨lr, hlr⟩ := eX (rfR R m A c r)
 rw [hlr] at hW1 HGA HRW HIR ⊢
 obtain ⟨l0, hl0⟩ := eX (b8s Z32)
 have HL0 := h_ hl0
 have HID0 : Hid (Tryz.prog.built 23 [] = some l0.toArray) := h_ (by rw [← hl0]; exact rid0_built)
 have hgd := rid_guard
 rw [hK]
 clear hk hgl hn hr b1 s1 r1 hlr hl0 hK hks
 go_enter Tryz.func59, Tryz.ntmps59
 go_wp2_with fail
 clear hW1 hW2 hp2
 go_loopg [3] (K * 1) (fun gk_ ov wr => ∃ (j : Nat) (A1 : Option Addr) (c1 : Nat), j ≤ K ∧ gk_ = K - j ∧ ov = .slice A1 j c1 ∧ Hid (LOut 9 1 ks1 W1 wr A1 j c1 (ks.take j)))
 case atStart => exact ⟨0, _, 0, by omega, by omega, rfl, HO0⟩
 case round =>
 clear HO0
 obtain ⟨j, A1, c1, hj, rfl, rfl, HOO⟩ := hrel
 go_wp2_with fail
 obtain ⟨wo, hwo⟩ : ∃ x, x = wr := ⟨_, rfl⟩
 subst hwo
 go_loopg [4, 5] (n * 1) (fun gk_ bv iv wr => ∃ (i : Nat) (B : ByteArray), i ≤ n ∧ gk_ = n - i ∧ bv = .string B ∧ iv = .int .i64 (i : Int) ∧ Hid (B.data.toList = (r.log.take i).foldl (bestS r.log (ks.take j)) []) ∧ Hid (LOut 9 1 ks1 W1 wr A1 j c1 (ks.take j)))
 case atStart => exact ⟨0, ⟨#[]⟩, by omega, by omega, rfl, rfl, h_ rfl, HOO⟩
 case round =>
 clear HOO
 obtain ⟨i, B, hi, rfl, rfl, rfl, HBE, HO⟩ := hrel
 have c7 := (HRW.out _ HO.out.bel).2.1
 by_cases hlt : i < n
 ·have i1 : (i : Int) < (n : Int) := by omega
  have hil : i < r.log.length := by rw [HN.out]; exact hlt
  obtain ⟨u, hu⟩ := eX (r.log[i])
  have HOK : Hid (upOk u) := h_ (HKR.out.log u (by rw [← hu]; exact List.getElem_mem hil))
  obtain ⟨b, o, hA, hrow⟩ := log_row (HRW.out _ HO.out.bel).2.2.2 HKR.out.log hil
  rw [hu] at hrow
  have HST : Hid ((r.log.take (i + 1)).foldl (bestS r.log (ks.take j)) [] = bestS r.log (ks.take j) B.data.toList u) := h_ (by rw [← List.take_append_getElem hil, hu, List.foldl_append, ← HBE.out]; rfl)
  obtain ⟨Y, hY, hYs⟩ : ∃ Y : ByteArray, strV u.name = .string Y ∧ Y.data.toList = u.name := ⟨_, rfl, rfl⟩
  have u0 : wr.cell? ⟨b, o + i * 65, none⟩ = some (.string Y) := by rw [← hY]; exact (up_range hrow HOK.out).1
  have HYS := h_ hYs
  rw [hA] at c7
  have HRGR : Hid (wr.rangeAt g 0 lr) := h_ (HRW.out _ HO.out.bel).2.2.1
  obtain ⟨id, hid⟩ := eX (getL r.log u.name)
  have hidl : id.length = 32 := by rw [← hid]; exact getL_len _ (fun u hu => (HKR.out.log u hu).2.1) _
  have HID := h_ hid
  have HGET : Hid (Calls Tryz.prog 60 #[.agg lr.toArray, .string Y] wr fun e w' => e = .returned (.agg (b8s id).toArray) ∧ Below wr.heap.size wr w') := h_ (by
   have h1 := HGA.out Y wr (HRW.out _ HO.out.bel).1
   rw [HYS.out, hid] at h1
   exact h1)
  obtain ⟨li, hli⟩ := eX (b8s id)
  have HNQ : Hid (∀ w : World, (binOp .neq 23 (.agg li.toArray) (.agg l0.toArray)).run Tryz.prog w = .ok (.bool (!decide (id = Z32))) w) := h_ (fun w => by have h1 := rid_neq id Z32 hidl rfl w; rw [hli, HL0.out] at h1; exact h1)
  rw [hli] at HGET
  clear hil hu hA hrow hY hYs hid hidl hli
  by_cases hz : id = Z32
  ·have HS : Hid (B.data.toList = (r.log.take (i + 1)).foldl (bestS r.log (ks.take j)) []) := h_ (by rw [HST.out, best_no (cand_no (by rw [HID.out, hz]) _)])
   have hnq := HNQ.out
   rw [decide_eq_true hz] at hnq
   clear hz
   go_wp2_with (first
    | ((with_reducible (refine wpList_built ?_ _ #[] ?_ _ ?_ _ HID0.out ?_)); exact rfl; exact rfl; (exact rfl))
    | ((with_reducible (refine wpList_load_cells 65 _ g 0 (lr) HRGR.out Tryz.underlying65 rfl HIR.out ?_ rfl ?_ ?_)); exact rfl; (exact rfl)))
   refine HGET.out.mono ?_
   rintro e w9 ⟨rfl, hb9⟩
   have HO9 := h_ (HO.out.below hb9)
   clear hb9 c7 u0
   go_wp2_with (first
    | ((with_reducible (refine wpList_built ?_ _ #[] ?_ _ ?_ _ HID0.out ?_)); exact rfl; exact rfl; (exact rfl)))
   go_roundg (n - (i + 1))
   case measure => omega
   case rel => exact ⟨i + 1, B, by omega, rfl, rfl, by first | rfl | exact congrArg (Value.int .i64) (by omega) | go_num, HS, HO9⟩
  have hnq := HNQ.out
  rw [decide_eq_false hz] at hnq
  have HGN : Hid (getL r.log u.name ≠ Z32) := h_ (by rw [HID.out]; exact hz)
  clear hz
  cases j with
  | zero =>
    have HCA : Hid (candL r.log (ks.take 0) u.name = true) := h_ (cand_zero HGN.out ks)
    by_cases hbe : B.data.toList = []
    ·have hem : B.toList.isEmpty = true := by rw [tl_data, hbe]; rfl
     have HS : Hid (Y.data.toList = (r.log.take (i + 1)).foldl (bestS r.log (ks.take 0)) []) := h_ (by rw [HST.out, best_emp HCA.out hbe, HYS.out])
     clear hbe
     go_wp2_with (first
      | ((with_reducible (refine wpList_built ?_ _ #[] ?_ _ ?_ _ HID0.out ?_)); exact rfl; exact rfl; (exact rfl))
      | ((with_reducible (refine wpList_load_cells 65 _ g 0 (lr) HRGR.out Tryz.underlying65 rfl HIR.out ?_ rfl ?_ ?_)); exact rfl; (exact rfl)))
     refine HGET.out.mono ?_
     rintro e w9 ⟨rfl, hb9⟩
     have HO9 := h_ (HO.out.below hb9)
     clear hb9 c7 u0
     go_wp2_with (first
      | ((with_reducible (refine wpList_built ?_ _ #[] ?_ _ ?_ _ HID0.out ?_)); exact rfl; exact rfl; (exact rfl)))
     go_roundg (n - (i + 1))
     case measure => omega
     case rel => exact ⟨i + 1, Y, by omega, rfl, rfl, by first | rfl | exact congrArg (Value.int .i64) (by omega) | go_num, HS, HO9⟩
    have hem : B.toList.isEmpty = false := by rw [tl_data, List.isEmpty_eq_false_iff]; exact hbe
    cases hbl : bytesBefore u.name B.data.toList with
    | true =>
      have hq4 : Op.bytesLess Y.toList B.toList = true := by rw [less_before, tl_data, tl_data, HYS.out, hbl]
      have HS : Hid (Y.data.toList = (r.log.take (i + 1)).foldl (bestS r.log (ks.take 0)) []) := h_ (by rw [HST.out, best_lt HCA.out hbl, HYS.out])
      clear hbe hbl
      go_wp2_with (first
       | ((with_reducible (refine wpList_built ?_ _ #[] ?_ _ ?_ _ HID0.out ?_)); exact rfl; exact rfl; (exact rfl))
       | ((with_reducible (refine wpList_load_cells 65 _ g 0 (lr) HRGR.out Tryz.underlying65 rfl HIR.out ?_ rfl ?_ ?_)); exact rfl; (exact rfl)))
      refine HGET.out.mono ?_
      rintro e w9 ⟨rfl, hb9⟩
      have HO9 := h_ (HO.out.below hb9)
      clear hb9 c7 u0
      go_wp2_with (first
       | ((with_reducible (refine wpList_built ?_ _ #[] ?_ _ ?_ _ HID0.out ?_)); exact rfl; exact rfl; (exact rfl)))
      go_roundg (n - (i + 1))
      case measure => omega
      case rel => exact ⟨i + 1, Y, by omega, rfl, rfl, by first | rfl | exact congrArg (Value.int .i64) (by omega) | go_num, HS, HO9⟩
    | false =>
      have hq4 : Op.bytesLess Y.toList B.toList = false := by rw [less_before, tl_data, tl_data, HYS.out, hbl]
      have HS : Hid (B.data.toList = (r.log.take (i + 1)).foldl (bestS r.log (ks.take 0)) []) := h_ (by rw [HST.out, best_ge hbe hbl])
      clear hbe hbl
      go_wp2_with (first
       | ((with_reducible (refine wpList_built ?_ _ #[] ?_ _ ?_ _ HID0.out ?_)); exact rfl; exact rfl; (exact rfl))
       | ((with_reducible (refine wpList_load_cells 65 _ g 0 (lr) HRGR.out Tryz.underlying65 rfl HIR.out ?_ rfl ?_ ?_)); exact rfl; (exact rfl)))
      refine HGET.out.mono ?_
      rintro e w9 ⟨rfl, hb9⟩
      have HO9 := h_ (HO.out.below hb9)
      clear hb9 c7 u0
      go_wp2_with (first
       | ((with_reducible (refine wpList_built ?_ _ #[] ?_ _ ?_ _ HID0.out ?_)); exact rfl; exact rfl; (exact rfl)))
      go_roundg (n - (i + 1))
      case measure => omega
      case rel => exact ⟨i + 1, B, by omega, rfl, rfl, by first | rfl | exact congrArg (Value.int .i64) (by omega) | go_num, HS, HO9⟩
  | succ j =>
    have hjk : j < ks.length := by rw [HKL.out]; omega
    obtain ⟨la, hla⟩ := eX (ks[j])
    have HLA : Hid (ks[j]? = some la) := h_ (by rw [List.getElem?_eq_getElem hjk, hla])
    obtain ⟨Z, hZ, hZs⟩ : ∃ Y : ByteArray, strV la = .string Y ∧ Y.data.toList = la := ⟨_, rfl, rfl⟩
    have HZS := h_ hZs
    obtain ⟨gm, cm, eM, _, _⟩ := own_some HO.out.own (by omega)
    obtain ⟨rfl, rfl⟩ : A1 = some ⟨gm, 0, none⟩ ∧ c1 = cm := by simpa using eM
    have HCL : Hid (∀ W, Below wr.heap.size wr W → W.cell? ⟨gm, j, none⟩ = some (.string Z)) := h_ (fun W hb => by
     obtain ⟨b', o', he, hc⟩ := ((HO.out.rd).below hb) j (.string Z) (by
      rw [← hZ, ← hla]
      have h1 := flat_get (f := ks1) (m := 1) (ks.take (j + 1)) (fun _ _ => rfl) j (by rw [List.length_take]; omega) 0 (strV ks[j]) (by rw [List.getElem_take]; rfl)
      simpa using h1)
     cases he
     rw [Nat.zero_add] at hc
     exact hc)
    have z0 : (((j + 1 : Nat) : Int) == 0) = false := by rw [beq_eq_false_iff_ne]; omega
    clear hjk hla hZ hZs eM
    cases hgt : bytesBefore la u.name with
    | false =>
      have HCA : Hid (candL r.log (ks.take (j + 1)) u.name = false) := h_ (by rw [cand_succ HGN.out HLA.out, hgt])
      have HS : Hid (B.data.toList = (r.log.take (i + 1)).foldl (bestS r.log (ks.take (j + 1))) []) := h_ (by rw [HST.out, best_no HCA.out])
      by_cases hyz : Y = Z
      ·have hq2 : (Y.toList == Z.toList) = true := by rw [names_eq, decide_eq_true hyz]
       have hq3 : Op.bytesLess Y.toList Z.toList = false := by rw [less_before, tl_data, tl_data, hyz, WideAt.bytes_irrefl]
       clear hyz hgt
       go_wp2_with (first
        | ((with_reducible (refine wpList_built ?_ _ #[] ?_ _ ?_ _ HID0.out ?_)); exact rfl; exact rfl; (exact rfl))
        | ((with_reducible (refine wpList_load_cells 65 _ g 0 (lr) HRGR.out Tryz.underlying65 rfl HIR.out ?_ rfl ?_ ?_)); exact rfl; (exact rfl)))
       refine HGET.out.mono ?_
       rintro e w9 ⟨rfl, hb9⟩
       have HO9 := h_ (HO.out.below hb9)
       have cl9 := HCL.out _ hb9
       clear hb9 c7 u0
       go_wp2_with (first
        | ((with_reducible (refine wpList_built ?_ _ #[] ?_ _ ?_ _ HID0.out ?_)); exact rfl; exact rfl; (exact rfl)))
       go_roundg (n - (i + 1))
       case measure => omega
       case rel => exact ⟨i + 1, B, by omega, rfl, rfl, by first | rfl | exact congrArg (Value.int .i64) (by omega) | go_num, HS, HO9⟩
      have hq2 : (Y.toList == Z.toList) = false := by rw [names_eq, decide_eq_false hyz]
      have hq3 : Op.bytesLess Y.toList Z.toList = true := by
       rw [less_before, tl_data, tl_data, HYS.out, HZS.out]
       rcases WideAt.bytes_total u.name la (fun e => hyz (ba_ext (by rw [HYS.out, HZS.out, e]))) with h | h
       ·exact h
       ·rw [hgt] at h; cases h
      clear hyz hgt
      go_wp2_with (first
       | ((with_reducible (refine wpList_built ?_ _ #[] ?_ _ ?_ _ HID0.out ?_)); exact rfl; exact rfl; (exact rfl))
       | ((with_reducible (refine wpList_load_cells 65 _ g 0 (lr) HRGR.out Tryz.underlying65 rfl HIR.out ?_ rfl ?_ ?_)); exact rfl; (exact rfl)))
      refine HGET.out.mono ?_
      rintro e w9 ⟨rfl, hb9⟩
      have HO9 := h_ (HO.out.below hb9)
      have cl9 := HCL.out _ hb9
      clear hb9 c7 u0
      go_wp2_with (first
       | ((with_reducible (refine wpList_built ?_ _ #[] ?_ _ ?_ _ HID0.out ?_)); exact rfl; exact rfl; (exact rfl)))
      go_roundg (n - (i + 1))
      case measure => omega
      case rel => exact ⟨i + 1, B, by omega, rfl, rfl, by first | rfl | exact congrArg (Value.int .i64) (by omega) | go_num, HS, HO9⟩
    | true =>
      have HCA : Hid (candL r.log (ks.take (j + 1)) u.name = true) := h_ (by rw [cand_succ HGN.out HLA.out, hgt])
      have hyz : Y ≠ Z := fun e => by
       rw [← HYS.out, e, HZS.out, WideAt.bytes_irrefl] at hgt
       cases hgt
      have hq2 : (Y.toList == Z.toList) = false := by rw [names_eq, decide_eq_false hyz]
      have hq3 : Op.bytesLess Y.toList Z.toList = false := by
       rw [less_before, tl_data, tl_data, HYS.out, HZS.out]
       cases h : bytesBefore u.name la with
       | false => rfl
       | true => rw [before_not h] at hgt; cases hgt
      clear hyz hgt
      by_cases hbe : B.data.toList = []
      ·have hem : B.toList.isEmpty = true := by rw [tl_data, hbe]; rfl
       have HS : Hid (Y.data.toList = (r.log.take (i + 1)).foldl (bestS r.log (ks.take (j + 1))) []) := h_ (by rw [HST.out, best_emp HCA.out hbe, HYS.out])
       clear hbe
       go_wp2_with (first
        | ((with_reducible (refine wpList_built ?_ _ #[] ?_ _ ?_ _ HID0.out ?_)); exact rfl; exact rfl; (exact rfl))
        | ((with_reducible (refine wpList_load_cells 65 _ g 0 (lr) HRGR.out Tryz.underlying65 rfl HIR.out ?_ rfl ?_ ?_)); exact rfl; (exact rfl)))
       refine HGET.out.mono ?_
       rintro e w9 ⟨rfl, hb9⟩
       have HO9 := h_ (HO.out.below hb9)
       have cl9 := HCL.out _ hb9
       clear hb9 c7 u0
       go_wp2_with (first
        | ((with_reducible (refine wpList_built ?_ _ #[] ?_ _ ?_ _ HID0.out ?_)); exact rfl; exact rfl; (exact rfl)))
       go_roundg (n - (i + 1))
       case measure => omega
       case rel => exact ⟨i + 1, Y, by omega, rfl, rfl, by first | rfl | exact congrArg (Value.int .i64) (by omega) | go_num, HS, HO9⟩
      have hem : B.toList.isEmpty = false := by rw [tl_data, List.isEmpty_eq_false_iff]; exact hbe
      cases hbl : bytesBefore u.name B.data.toList with
      | true =>
        have hq4 : Op.bytesLess Y.toList B.toList = true := by rw [less_before, tl_data, tl_data, HYS.out, hbl]
        have HS : Hid (Y.data.toList = (r.log.take (i + 1)).foldl (bestS r.log (ks.take (j + 1))) []) := h_ (by rw [HST.out, best_lt HCA.out hbl, HYS.out])
        clear hbe hbl
        go_wp2_with (first
         | ((with_reducible (refine wpList_built ?_ _ #[] ?_ _ ?_ _ HID0.out ?_)); exact rfl; exact rfl; (exact rfl))
         | ((with_reducible (refine wpList_load_cells 65 _ g 0 (lr) HRGR.out Tryz.underlying65 rfl HIR.out ?_ rfl ?_ ?_)); exact rfl; (exact rfl)))
        refine HGET.out.mono ?_
        rintro e w9 ⟨rfl, hb9⟩
        have HO9 := h_ (HO.out.below hb9)
        have cl9 := HCL.out _ hb9
        clear hb9 c7 u0
        go_wp2_with (first
         | ((with_reducible (refine wpList_built ?_ _ #[] ?_ _ ?_ _ HID0.out ?_)); exact rfl; exact rfl; (exact rfl)))
        go_roundg (n - (i + 1))
        case measure => omega
        case rel => exact ⟨i + 1, Y, by omega, rfl, rfl, by first | rfl | exact congrArg (Value.int .i64) (by omega) | go_num, HS, HO9⟩
      | false =>
        have hq4 : Op.bytesLess Y.toList B.toList = false := by rw [less_before, tl_data, tl_data, HYS.out, hbl]
        have HS : Hid (B.data.toList = (r.log.take (i + 1)).foldl (bestS r.log (ks.take (j + 1))) []) := h_ (by rw [HST.out, best_ge hbe hbl])
        clear hbe hbl
        go_wp2_with (first
         | ((with_reducible (refine wpList_built ?_ _ #[] ?_ _ ?_ _ HID0.out ?_)); exact rfl; exact rfl; (exact rfl))
         | ((with_reducible (refine wpList_load_cells 65 _ g 0 (lr) HRGR.out Tryz.underlying65 rfl HIR.out ?_ rfl ?_ ?_)); exact rfl; (exact rfl)))
        refine HGET.out.mono ?_
        rintro e w9 ⟨rfl, hb9⟩
        have HO9 := h_ (HO.out.below hb9)
        have cl9 := HCL.out _ hb9
        clear hb9 c7 u0
        go_wp2_with (first
         | ((with_reducible (refine wpList_built ?_ _ #[] ?_ _ ?_ _ HID0.out ?_)); exact rfl; exact rfl; (exact rfl)))
        go_roundg (n - (i + 1))
        case measure => omega
        case rel => exact ⟨i + 1, B, by omega, rfl, rfl, by first | rfl | exact congrArg (Value.int .i64) (by omega) | go_num, HS, HO9⟩
 ·obtain rfl : i = n := by omega
  have HBN : Hid (B.data.toList = (ks[j]?).getD []) := h_ (by
   have h1 : r.log.take i = r.log := List.take_of_length_le (by rw [HN.out]; omega)
   rw [HBE.out, h1]
   exact HNX.out j hj)
  clear HBE
  by_cases hjK : j < K
  ·have hjk : j < ks.length := by rw [HKL.out]; exact hjK
   have HBK : Hid (B.data.toList = ks[j]) := h_ (by rw [HBN.out, List.getElem?_eq_getElem hjk]; rfl)
   have hem : B.toList.isEmpty = false := by rw [tl_data, HBK.out, List.isEmpty_eq_false_iff]; exact HNE.out _ (List.getElem_mem hjk)
   have HS : Hid (ks.take (j + 1) = ks.take j ++ [ks[j]]) := h_ (by rw [← List.take_append_getElem hjk])
   have HF1 : Hid (ks1 ks[j] = [.string B]) := h_ (by unfold ks1 strV; rw [← HBK.out])
   obtain ⟨x, hx⟩ := eX (ks[j])
   rw [hx] at HS HF1
   obtain ⟨W6, hW6⟩ := eX (wr.alloc (.cells #[.string B] 9))
   obtain ⟨r6, b6, s6⟩ := new_row hW6
   have HO6 := h_ (HO.out.below b6)
   have HR6 : Hid (Rd W6 (some ⟨wr.heap.size, 0, none⟩) [.string B]) := h_ (range_rd (range_of_row (cs := [.string B]) r6))
   have HS1 : Hid (∀ v ∈ [Value.string B], v.oneCell' = true) := h_ (by simp [Value.oneCell'])
   clear HBK hx r6 b6 s6 HO hjk HBN
   go_wp2_with (at_builtin; refine wpList_append_rd _ rfl _ _ 22 rfl W1.heap.size 9 _ 1 16 Tryz.underlying22 info_strq rfl (by decide) (.slice A1 j c1) j _ rfl HO6.out.own _ 1 _ ([.string B]) rfl (rfl) HR6.out (HS1.out) (by unfold maxLen; omega) (by omega) HO6.out.bel.size ?_; intro v8 w8 ho8 hg8 hvb8; obtain ⟨A8, c8, e8, _⟩ := own_slice ho8; subst e8; have HO7 := h_ (HO6.out.grow (x := x) (by rw [HF1.out]; exact ho8) hg8); clear ho8 hg8 hvb8)
   clear hW6
   go_roundg (K - (j + 1))
   case measure => omega
   case rel => exact ⟨j + 1, A8, c8, by omega, rfl, rfl, h_ (by rw [HS.out]; exact HO7.out)⟩
  ·obtain rfl : j = K := by omega
   have hem : B.toList.isEmpty = true := by rw [tl_data, HBN.out, List.getElem?_eq_none (by rw [HKL.out]; omega)]; rfl
   have HFIN : Hid (Rd wr A1 (keysC r.all)) := h_ (by
    have h1 := HO.out.rd
    rw [List.take_of_length_le (by rw [HKL.out]; omega), HKC.out] at h1
    exact h1)
   have HBF := h_ (HRW.out _ HO.out.bel).1
   clear HO
   go_wp2_with fail
   go_ret
   exact ⟨A1, c1, rfl, HFIN.out, by first | exact HBF.out | (rw [← hg]; exact HBF.out)⟩
end Go.Proofs.YtelbofikcpchiaaGreat
