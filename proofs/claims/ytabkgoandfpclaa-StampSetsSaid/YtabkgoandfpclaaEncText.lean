
/- What enc.Text, enc.Id, enc.Four and the document's make. -/

import Derived.Test.YtabkgoandfpclaaEncNum

namespace Go.Proofs.Ytabkgoandfpclaa

open Go.RowKit

/-- a text's bytes -/
def textB (l : List UInt8) : List UInt8 := numB (clampN (l.length : Int)) ++ l
/-- four bytes of a number -/
def fourB (u : Nat) : List UInt8 := [UInt8.ofNat u, UInt8.ofNat (u / 256), UInt8.ofNat (u / 65536), UInt8.ofNat (u / 16777216)]

set_option maxHeartbeats 400000 in
theorem text_any (A : Option Addr) (bs : List UInt8) (c : Nat) (s : ByteArray) (w : World) (hr : Rd w A (b8s bs)) (hm : bs.length + s.size + 10 ≤ 140737488355328) :
    Calls Try.prog 46 #[.slice A bs.length c, .string s] w fun e w' => ∃ v, e = .returned v ∧ Own8 w.heap.size w w' v (bs ++ textB s.data.toList) := by
  go_enter Try.func46, Try.ntmps46
  go_wp2_with fail
  refine (num_any A bs c _ w hr (by omega)).mono ?_
  rintro e w1 ⟨v1, rfl, hown⟩
  have hl := numB_length (s.size : Int)
  go_wp2_with (at_builtin; refine wpList_append_str8 rfl _ _ rfl s rfl rfl hown (by rw [List.length_append]; omega) ?_; intro v2 w2 hown2)
  go_ret
  refine ⟨_, rfl, ?_⟩
  rw [List.append_assoc] at hown2
  unfold textB
  rw [size_toList]
  exact hown2

set_option maxHeartbeats 400000 in
theorem rtext_any (s : ByteArray) (w : World) (hm : s.size + 10 ≤ 140737488355328) :
    Calls Try.prog 50 #[.string s] w fun e w' => ∃ v, e = .returned v ∧ Own8 w.heap.size w w' v (textB s.data.toList) := by
  have kb := fun (W : World) (s : ByteArray) => run_bytes_of_string (P := Try.prog) W 9 36 5 s Try.underlying9 Try.underlying36 Try.underlying5
  go_enter Try.func50, Try.ntmps50
  go_wp2_with fail
  refine (rnum_any _ w).mono ?_
  rintro e w1 ⟨v1, rfl, hown⟩
  have hl := numB_length (s.size : Int)
  obtain ⟨A1, c1, rfl, _, _, hr1, _⟩ := hown.slice
  have hrs := (rd_bytesRow w1 s (grownCap w1 s.size 0 5) 5 ((bytesRow s (grownCap w1 s.size 0 5)).size, (bytesRow s (grownCap w1 s.size 0 5)).size + 1)).drew
  have hj := join_any A1 (some ⟨w1.heap.size, 0, none⟩) (numB (clampN (s.size : Int))) s.data.toList c1 (grownCap w1 s.size 0 5) _ (hr1.alloc _).drew hrs (by rw [size_toList]; omega)
  rw [size_toList] at hj
  have HJ := Lib.hid hj
  clear hj hrs
  go_wp2_with fail
  refine HJ.out.mono ?_
  rintro e w2 ⟨v2, rfl, hown2⟩
  go_wp2_with fail
  go_ret
  refine ⟨_, rfl, ?_⟩
  unfold textB
  rw [size_toList]
  exact hown2.trans ((hown.bel.alloc hown.sz _).drew) (Nat.le_trans hown.sz (by simp))

set_option maxRecDepth 100000 in
set_option maxHeartbeats 400000 in
theorem id_any (A : Option Addr) (bs id : List UInt8) (c : Nat) (w : World) (hid : id.length = 32) (hr : Rd w A (b8s bs)) (hm : bs.length + 32 ≤ 140737488355328) :
    Calls Try.prog 47 #[.slice A bs.length c, .agg (b8s id).toArray] w fun e w' => ∃ v, e = .returned v ∧ Own8 w.heap.size w w' v (bs ++ id) := by
  go_enter Try.func47, Try.ntmps47
  go_wp2_with fail
  go_region_law (first | (refine step_append_rd rfl _ _ 36 rfl _ 5 (.int .u8 0) 1 1 Try.underlying36 info_u8 rfl (by decide) _ _ _ rfl hown.own _ 32 _ (b8s id) rfl (by simp [b8s, hid]) ((Rd.new w (b8s id) 30).drew.below hown.bel) (b8s_one' _) (by unfold maxLen; omega) (by omega) hown.sz ?_; intro v2 w2 hown2 hg2 hv2) | (refine step_plain rfl ?_; go_simp; refine (clone_any A bs c _ (hr.alloc _).drew (by omega)).mono ?_; rintro e w1 ⟨v1, rfl, hown⟩; dsimp only))
  go_wp2
  go_ret
  exact ⟨_, rfl, (hown.appended hown2 hid.symm hg2).trans ((Below.refl _ _).alloc (Nat.le_refl _) _).drew (by simp)⟩

set_option maxHeartbeats 1000000 in
theorem rid_any (id : List UInt8) (w : World) (hid : id.length = 32) :
    Calls Try.prog 51 #[.agg (b8s id).toArray] w fun e w' => ∃ v, e = .returned v ∧ Own8 w.heap.size w w' v id := by
  obtain ⟨W0, hW0⟩ : ∃ W0 : World, W0 = w.alloc (.cells (b8s id).toArray 29) := ⟨_, rfl⟩
  have hst := Own8.start W0
  have hnew : Rd W0 (some ⟨w.heap.size, 0, none⟩) (b8s id) := by rw [hW0]; exact Rd.new w (b8s id) _
  have hB : Below w.heap.size w W0 := by rw [hW0]; exact (Below.refl _ _).alloc (Nat.le_refl _) _
  have hsz : W0.heap.size = w.heap.size + 1 := by rw [hW0]; simp
  have HW := Lib.hid hW0
  have HS := Lib.hid hsz
  clear hsz
  go_enter Try.func51, Try.ntmps51
  have hW1 := hW0.symm
  clear hW0
  go_wp2_with fail
  clear hW1
  go_loopw [3, 4] (fun v i wr => ∃ (k : Nat) (zs : List UInt8), k ≤ 32 ∧ i = .int .i64 k ∧ zs = id.take k ∧ Own8 W0.heap.size W0 wr v zs) (fun _ i _ => 32 - (intOf i).toNat)
  case atStart => exact ⟨0, [], by omega, rfl, by simp, hst⟩
  case round =>
    clear hst
    obtain ⟨k, zs, hk, rfl, hzs, hown⟩ := hrel
    have Hzs := Lib.hid hzs
    have hl : zs.length ≤ k := by rw [hzs, List.length_take]; omega
    clear hzs
    by_cases hlt : k < 32
    · have hlt' : k < id.length := by omega
      obtain ⟨b, o, he, hc⟩ := (hnew.below hown.bel).byte k hlt'
      cases he
      rw [Nat.zero_add] at hc
      have Hid := Lib.hid hid
      clear hid
      go_wp2_with (at_builtin; refine wpList_append_u8 rfl _ _ rfl id[k] rfl rfl rfl hown (by omega) ?_; intro v1 w1 hown1)
      go_roundw
      case rel => exact ⟨k + 1, _, by omega, by go_num, by rw [Hzs.out, List.take_succ_eq_append_getElem hlt'], hown1⟩
      case measure => simp [intOf]; omega
    · go_wp2
      go_ret
      have hz : zs = id := by
        have := Hzs.out
        rw [this, List.take_of_length_le (by omega)]
      subst hz
      exact ⟨_, rfl, hown.trans hB (by rw [HS.out]; omega)⟩

theorem four_cells (u : Nat) (hu : u < 4294967296) : [Value.int .u8 ((u : Int) % 256), Value.int .u8 ((u : Int) / 256 % 256), Value.int .u8 ((u : Int) / 65536 % 256), Value.int .u8 ((u : Int) / 16777216)] = b8s (fourB u) := by
  simp only [fourB, b8s, List.map_cons, List.map_nil, List.cons.injEq, Value.int.injEq, true_and, and_true]
  refine ⟨?_, ?_, ?_, ?_⟩ <;> rw [UInt8.toNat_ofNat'] <;> omega

end Go.Proofs.Ytabkgoandfpclaa
