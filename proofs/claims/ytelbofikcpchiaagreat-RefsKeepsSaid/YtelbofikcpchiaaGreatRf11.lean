
/- Refs: record. -/

import Derived.Test.YtelbofikcpchiaaGreatRf10

namespace Go.Proofs.YtelbofikcpchiaaGreat

set_option linter.unusedVariables false

set_option linter.unusedSimpArgs false

set_option linter.unusedSectionVars false

open Go.RowKit

theorem four_sL (v : Value) (bs : List UInt8) (u : Nat) (w : World) (hu : u < 4294967296) (h : Sl w v bs) (hm : bs.length + 4 ≤ 140737488355328) :
    Calls Tryz.prog 76 #[v, .int .u32 (u : Int)] w fun e w' => ∃ v, e = .returned v ∧ Own8 w.heap.size w w' v (bs ++ fourB u) := by
  obtain ⟨A, m, c, rfl, rfl, _, _, hr⟩ := h
  exact four_any A bs c u w hu hr (by omega)

set_option maxRecDepth 100000 in
set_option maxHeartbeats 8000000 in
theorem record_any (A : Option Addr) (n c : Nat) (t : TxM) (hn : t.us.length = n) (ht : TxOk t) (w : World) (hr : Rd w A (upsC t.us)) (hl : (payloadB t).length ≤ 100000000000000) :
    Calls Tryz.prog 34 #[.agg (txC A n c t).toArray] w fun e w' => ∃ v, e = .returned v ∧ Own8 w.heap.size w w' v (recordB t) := by
  obtain ⟨g1, hg⟩ : ∃ g, w.heap.size = g := ⟨_, rfl⟩
  obtain ⟨W1, hW1⟩ : ∃ W, w.alloc (.cells (txC A n c t).toArray 28) = W := ⟨_, rfl⟩
  obtain ⟨r1, b1, s1⟩ := new_row hW1
  rw [hg] at r1
  have HB1 := Lib.hid b1
  have HRG := Lib.hid (range_of_row r1)
  have HIL := Lib.hid (info_txl (A := A) (n := n) (c := c) ht.al)
  have HPY := Lib.hid (payload_any A n c t hn ht W1 (hr.below b1) hl)
  obtain ⟨lt, hlt⟩ : ∃ l, txC A n c t = l := ⟨_, rfl⟩
  obtain ⟨P, hP⟩ : ∃ P, payloadB t = P := ⟨_, rfl⟩
  have HRC : Hid (recordB t = numB (clampN (P.length : Int)) ++ fourB (crc P).toNat ++ P) := Lib.hid (by unfold recordB; rw [hP])
  rw [HRC.out]
  rw [hlt] at hW1 HRG HIL HPY ⊢
  rw [hP] at HPY hl
  clear hn ht b1 s1 r1 hlt hr hP HRC
  have hfo : (fourB (crc P).toNat).length = 4 := rfl
  have hnu := numB_length (P.length : Int)
  go_enter Tryz.func34, Tryz.ntmps34
  go_wp2_with (first
    | ((with_reducible (refine wpList_load_cells 28 _ g1 0 (lt) HRG.out Tryz.underlying28 rfl HIL.out ?_ rfl ?_ ?_)); (exact rfl); (exact rfl)))
  refine HPY.out.mono ?_
  rintro e w2 ⟨v2, rfl, ho2⟩
  have HB2 := Lib.hid (HB1.out.trans (ho2.bel.mono HB1.out.size))
  obtain ⟨A2, c2, rfl, hc2, hm2, hr2, _⟩ := ho2.slice
  have HR2 : Hid (Rd w2 A2 (b8s P)) := Lib.hid hr2
  clear ho2 hr2 hW1
  go_wp2_with fail
  refine (num_sL _ [] (P.length : Int) _ (Sl.nil _) (by simp)).mono ?_
  rintro e w3 ⟨v3, rfl, ho3⟩
  rw [List.nil_append] at ho3
  have HB3 := Lib.hid (HB2.out.trans (ho3.bel.mono HB2.out.size))
  have HR3 := Lib.hid (HR2.out.below ho3.bel)
  have HO3 := Lib.hid ho3.sl
  clear ho3
  go_wp2_with fail
  refine (sum_any A2 P c2 w3 HR3.out (by unfold maxLen; omega)).mono ?_
  rintro e w4 ⟨rfl, rfl⟩
  go_wp2_with fail
  refine (four_sL v3 _ (crc P).toNat w3 (crc P).isLt HO3.out (by omega)).mono ?_
  rintro e w5 ⟨v5, rfl, ho5⟩
  have hr5 := HR3.out.below ho5.bel
  have HO5 := Lib.hid ho5
  have HR5 := Lib.hid hr5
  clear ho5 hr5
  go_wp2_with (at_builtin; refine wpList_append_rd _ rfl _ _ 29 rfl _ 5 (.int .u8 0) 1 1 Tryz.underlying29 info_u8 rfl (by decide) v5 _ _ rfl HO5.out.own A2 P.length c2 (b8s P) rfl (by simp [b8s]) HR5.out (b8s_one' _) (by unfold maxLen; rw [List.length_append]; omega) (by rw [List.length_append]; omega) HO5.out.sz ?_; intro v6 w6 ho6 hg6 hv6; have HO6 := Lib.hid (HO5.out.appended ho6 rfl hg6); clear ho6 hg6 hv6)
  go_ret
  refine ⟨_, rfl, ?_⟩
  first | exact Own8.trans HB3.out HB3.out.size HO6.out | (rw [← hg]; exact Own8.trans HB3.out HB3.out.size HO6.out)
end Go.Proofs.YtelbofikcpchiaaGreat
