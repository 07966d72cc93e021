/- EncWrites: the walk. -/
import Derived.Test.YtgmhdkkhiclilaaEncOrder
namespace Go.Proofs.Ytgmhdkkhiclilaa
open Go.RowKit

theorem fourB_length (u : Nat) : (fourB u).length = 4 := rfl

set_option maxHeartbeats 2000000 in
theorem encWrites_any (A : Option Addr) (bs id : List UInt8) (c u : Nat) (n : Int) (s : ByteArray) (w : World) (hr : Rd w A (b8s bs)) (hm : bs.length ≤ 1048576) (hs : s.size ≤ 1048576) (hid : id.length = 32) (hu : u < 4294967296) :
    Calls Try.prog 6 #[.slice A bs.length c, .int .i64 n, .string s, .agg (b8s id).toArray, .int .u32 (u : Int)] w fun e w' => e = .returned (.bool true) ∧ Below w.heap.size w w' := by
  have hml : bs.length ≤ maxLen := by unfold maxLen; omega
  have hnl := numB_length n
  have hsl := numB_length (s.size : Int)
  have hul := fourB_length u
  obtain ⟨W0, hW0⟩ : ∃ W0 : World, W0 = w.alloc (.cells (b8s id).toArray 32) := ⟨_, rfl⟩
  have hnew : Rd W0 (some ⟨w.heap.size, 0, none⟩) (b8s id) := by rw [hW0]; exact Rd.new w (b8s id) _
  have hB : Below w.heap.size w W0 := by rw [hW0]; exact (Below.refl _ _).alloc (Nat.le_refl _) _
  have hr0 := hr.below hB
  have hW1 := hW0.symm
  clear hW0
  go_enter Try.func6, Try.ntmps6
  go_wp2_with fail
  clear hW1
  refine (writing_any W0).mono ?_
  rintro e w1 ⟨rfl, hb1⟩
  have hr1 := hr0.below hb1
  have hn1 := hnew.below hb1
  have hx1 := ext_trans hB hb1
  go_wp2_with fail
  refine (four_any none [] 0 1 w1 (by decide) Rd.nil (by decide)).mono ?_
  rintro e w2 ⟨v2, rfl, hown2⟩
  obtain ⟨A2, c2, rfl, _, _, _, _⟩ := hown2.slice
  have hr2 := hr1.below hown2.bel
  have hn2 := hn1.below hown2.bel
  have hx2 := ext_trans hx1 hown2.bel
  clear hr1 hn1 hx1 hown2 hb1 hr0 hnew hB
  have hcv := run_str_of_bytes (P := Try.prog) (src := 22) (dst := 9) (e := 5) bs.length c rfl Try.underlying22 Try.underlying5 Try.underlying9 hr2
  go_wp2_with fail
  clear hcv
  refine (num_any A bs c n w2 hr2 (by omega)).mono ?_
  rintro e w3 ⟨v3, rfl, hown3⟩
  have hr3 := hr2.below hown3.bel
  have hn3 := hn2.below hown3.bel
  have hx3 := ext_trans hx2 hown3.bel
  obtain ⟨A3, n3, c3, rfl, hn3x, _, _, hq3, _⟩ := hown3.sliceN
  have HL3 := Lib.hid hn3x
  clear hn3x
  go_wp2_with fail
  refine (rnum_any n w3).mono ?_
  rintro e w4 ⟨v4, rfl, hown4⟩
  obtain ⟨A4, n4, c4, rfl, hn4x, _, _, hq4, _⟩ := hown4.sliceN
  have HL4 := Lib.hid hn4x
  clear hn4x
  go_wp2_with fail
  refine (join_n A A4 bs (numB (clampN n)) c c4 w4 (hr3.below hown4.bel) hq4 _ _ rfl HL4.out (by omega)).mono ?_
  rintro e w5 ⟨v5, rfl, hown5⟩
  obtain ⟨A5, n5, c5, rfl, hn5x, _, _, hq5, _⟩ := hown5.sliceN
  have HL5 := Lib.hid hn5x
  clear hn5x
  have hx35 := ext_trans hown4.bel hown5.bel
  go_wp2_with fail
  refine (same_n true A3 A5 (bs ++ numB (clampN n)) (bs ++ numB (clampN n)) c3 c5 w5 (hq3.below hx35) hq5 _ _ HL3.out HL5.out (by rw [List.length_append]; omega) (by rw [List.length_append]; omega) (by simp)).mono ?_
  rintro e w6 ⟨rfl, hb6⟩
  have hx36 := ext_trans hx35 hb6
  clear hown4 hq4 hown5 hq5 hb6 hx35
  go_wp2_with fail
  refine (text_any A bs c s w6 (hr3.below hx36) (by omega)).mono ?_
  rintro e w7 ⟨v7, rfl, hown7⟩
  obtain ⟨A7, n7, c7, rfl, hn7x, _, _, hq7, _⟩ := hown7.sliceN
  have HL7 := Lib.hid hn7x
  clear hn7x
  go_wp2_with fail
  refine (rtext_any s w7 (by omega)).mono ?_
  rintro e w8 ⟨v8, rfl, hown8⟩
  obtain ⟨A8, n8, c8, rfl, hn8x, _, _, hq8, _⟩ := hown8.sliceN
  have HL8 := Lib.hid hn8x
  clear hn8x
  have htl : (textB s.data.toList).length ≤ 1048600 := by unfold textB; rw [List.length_append, size_toList]; omega
  go_wp2_with fail
  refine (join_n A A8 bs (textB s.data.toList) c c8 w8 (hr3.below (ext_trans hx36 (ext_trans hown7.bel hown8.bel))) hq8 _ _ rfl HL8.out (by omega)).mono ?_
  rintro e w9 ⟨v9, rfl, hown9⟩
  obtain ⟨A9, n9, c9, rfl, hn9x, _, _, hq9, _⟩ := hown9.sliceN
  have HL9 := Lib.hid hn9x
  clear hn9x
  go_wp2_with fail
  refine (same_n true A7 A9 (bs ++ textB s.data.toList) (bs ++ textB s.data.toList) c7 c9 w9 (hq7.below (ext_trans hown8.bel hown9.bel)) hq9 _ _ HL7.out HL9.out (by rw [List.length_append]; omega) (by rw [List.length_append]; omega) (by simp)).mono ?_
  rintro e w10 ⟨rfl, hb10⟩
  have hx3a := ext_trans (ext_trans hx36 (ext_trans hown7.bel (ext_trans hown8.bel hown9.bel))) hb10
  clear hown7 hq7 hown8 hq8 hown9 hq9 hb10 hx36 htl
  have hn10 := hn3.below hx3a
  have hr10 := hr3.below hx3a
  clear hn2 hn3
  go_wp2_with fail
  have hq1 : (Try.prog.info? 32).map (·.size) = some (b8s id).length := by rw [b8s_length, hid]; kernel_rfl
  have hrange := rd_range hn10
  clear hn10 hr10
  have HX2 := Lib.hid hx2
  clear hx2
  refine wp_region_sched (fun w' => w'.rangeAt w.heap.size 0 (b8s id) ∧ Below w3.heap.size w3 w') [(true, 0), (true, 1), (true, 3), (true, 4), (false, 2), (false, 5), (false, 6), (false, 7), (true, 8), (true, 9), (true, 10), (true, 11), (true, 13), (true, 14), (false, 12), (false, 15), (false, 16), (false, 17), (true, 18), (true, 19)]
    (by kernel_rfl) (by kernel_rfl) rfl (by kernel_rfl) ⟨by simpa using hrange, hx3a.drew⟩ ?_
  (first | (refine wpS_pass _ rfl (by rfl) ?_; simp only [Act.put, List.setIfInBounds_toArray, List.set_cons_zero, List.set_cons_succ]) | (refine wpS_take _ ?_ rfl (by rfl) ?_ ?_; rotate_left; (focus (intro w' hS'; (try dsimp only at hS'); go_simp; (try with_reducible rfl); done)); simp only [Act.put, List.setIfInBounds_toArray, List.set_cons_zero, List.set_cons_succ]))
  refine wpS_load _ rfl (by rfl) _ _ rfl _ _ rfl (b8s id) _ (fun w' hS' => hS'.1) Try.underlying32 rfl hq1 ?_
  simp only [Act.put, List.setIfInBounds_toArray, List.set_cons_zero, List.set_cons_succ]
  (first | (refine wpS_pass _ rfl (by rfl) ?_; simp only [Act.put, List.setIfInBounds_toArray, List.set_cons_zero, List.set_cons_succ]) | (refine wpS_take _ ?_ rfl (by rfl) ?_ ?_; rotate_left; (focus (intro w' hS'; (try dsimp only at hS'); go_simp; (try with_reducible rfl); done)); simp only [Act.put, List.setIfInBounds_toArray, List.set_cons_zero, List.set_cons_succ]))
  refine wpS_load _ rfl (by rfl) _ _ rfl _ _ rfl (b8s id) _ (fun w' hS' => hS'.1) Try.underlying32 rfl hq1 ?_
  simp only [Act.put, List.setIfInBounds_toArray, List.set_cons_zero, List.set_cons_succ]
  have HX := Lib.hid hx3a
  have HR := Lib.hid hrange
  clear hx3a hrange hq1
  refine wpS_do _ rfl (by rfl) (fun K hK => ?_)
  go_simp
  refine (id_any A bs id c _ hid ((hr3.below HX.out).drew) (by omega)).mono ?_
  rintro e w11 ⟨v11, rfl, hown11⟩
  obtain ⟨A11, n11, c11, rfl, HL11, hq11⟩ := hown11.hid
  refine hK.out _ _ ⟨rd_range ((range_rd HR.out).drew.below hown11.bel), ext_trans (b := w10.drew) HX.out.drew hown11.bel⟩ (fun hS => ?_)
  have HX11 := Lib.hid hS.2
  clear hK hS
  refine wpS_do _ rfl (by rfl) (fun K hK => ?_)
  go_simp
  refine (rid_any id w11 hid).mono ?_
  rintro e w12 ⟨v12, rfl, hown12⟩
  obtain ⟨A12, n12, c12, rfl, HL12, hq12⟩ := hown12.hid
  refine hK.out _ _ ⟨rd_range (((range_rd HR.out).drew.below hown11.bel).below hown12.bel), ext_trans HX11.out hown12.bel⟩ (fun hS => ?_)
  have HX12 := Lib.hid hS.2
  clear hK hS
  refine wpS_do _ rfl (by rfl) (fun K hK => ?_)
  go_simp
  refine (join_n A A12 bs id c c12 w12 (hr3.below HX12.out) hq12 _ _ rfl HL12.out (by omega)).mono ?_
  rintro e w13 ⟨v13, rfl, hown13⟩
  obtain ⟨A13, n13, c13, rfl, HL13, hq13⟩ := hown13.hid
  refine hK.out _ _ ⟨rd_range ((((range_rd HR.out).drew.below hown11.bel).below hown12.bel).below hown13.bel), ext_trans HX12.out hown13.bel⟩ (fun hS => ?_)
  have HX13 := Lib.hid hS.2
  clear hK hS
  refine wpS_do _ rfl (by rfl) (fun K hK => ?_)
  go_simp
  refine (same_n true A11 A13 (bs ++ id) (bs ++ id) c11 c13 w13 (hq11.below (ext_trans hown12.bel hown13.bel)) hq13 _ _ HL11.out HL13.out (by rw [List.length_append]; omega) (by rw [List.length_append]; omega) (by simp)).mono ?_
  rintro e w14 ⟨rfl, hb14⟩
  refine hK.out _ _ ⟨rd_range (((((range_rd HR.out).drew.below hown11.bel).below hown12.bel).below hown13.bel).below hb14), ext_trans HX13.out hb14⟩ (fun hS => ?_)
  have HR14 := Lib.hid hS.1
  have HX14 := Lib.hid hS.2
  clear hK hS
  (repeat (first | (refine wpS_pass _ rfl (by rfl) ?_; simp only [Act.put, List.setIfInBounds_toArray, List.set_cons_zero, List.set_cons_succ]) | (refine wpS_take _ ?_ rfl (by rfl) ?_ ?_; rotate_left; (focus (intro w' hS'; (try dsimp only at hS'); go_simp; (try with_reducible rfl); done)); simp only [Act.put, List.setIfInBounds_toArray, List.set_cons_zero, List.set_cons_succ])))
  refine wpS_do _ rfl (by rfl) (fun K hK => ?_)
  go_simp
  refine (four_any A bs c u _ hu (hr3.below HX14.out) (by omega)).mono ?_
  rintro e w15 ⟨v15, rfl, hown15⟩
  obtain ⟨A15, n15, c15, rfl, HL15, hq15⟩ := hown15.hid
  refine hK.out _ _ ⟨rd_range ((range_rd HR14.out).below hown15.bel), ext_trans HX14.out hown15.bel⟩ (fun hS => ?_)
  have HR15 := Lib.hid hS.1
  have HX15 := Lib.hid hS.2
  clear hK hS
  refine wpS_do _ rfl (by rfl) (fun K hK => ?_)
  go_simp
  refine (rfour_any u w15 hu).mono ?_
  rintro e w16 ⟨v16, rfl, hown16⟩
  obtain ⟨A16, n16, c16, rfl, HL16, hq16⟩ := hown16.hid
  refine hK.out _ _ ⟨rd_range ((range_rd HR15.out).below hown16.bel), ext_trans HX15.out hown16.bel⟩ (fun hS => ?_)
  have HR16 := Lib.hid hS.1
  have HX16 := Lib.hid hS.2
  clear hK hS
  refine wpS_do _ rfl (by rfl) (fun K hK => ?_)
  go_simp
  refine (join_n A A16 bs (fourB u) c c16 w16 (hr3.below HX16.out) hq16 _ _ rfl HL16.out (by omega)).mono ?_
  rintro e w17 ⟨v17, rfl, hown17⟩
  obtain ⟨A17, n17, c17, rfl, HL17, hq17⟩ := hown17.hid
  refine hK.out _ _ ⟨rd_range ((range_rd HR16.out).below hown17.bel), ext_trans HX16.out hown17.bel⟩ (fun hS => ?_)
  have HR17 := Lib.hid hS.1
  have HX17 := Lib.hid hS.2
  clear hK hS
  refine wpS_do _ rfl (by rfl) (fun K hK => ?_)
  go_simp
  refine (same_n true A15 A17 (bs ++ fourB u) (bs ++ fourB u) c15 c17 w17 (hq15.below (ext_trans hown16.bel hown17.bel)) hq17 _ _ HL15.out HL17.out (by rw [List.length_append]; omega) (by rw [List.length_append]; omega) (by simp)).mono ?_
  rintro e w18 ⟨rfl, hb18⟩
  refine hK.out _ _ ⟨rd_range ((range_rd HR17.out).below hb18), ext_trans HX17.out hb18⟩ (fun hS => ?_)
  have hx18 := hS.2
  clear hK hS
  (repeat (first | (refine wpS_pass _ rfl (by rfl) ?_; simp only [Act.put, List.setIfInBounds_toArray, List.set_cons_zero, List.set_cons_succ]) | (refine wpS_take _ ?_ rfl (by rfl) ?_ ?_; rotate_left; (focus (intro w' hS'; (try dsimp only at hS'); go_simp; (try with_reducible rfl); done)); simp only [Act.put, List.setIfInBounds_toArray, List.set_cons_zero, List.set_cons_succ])))
  refine wpS_done ?_
  have hn := numB_len n
  have hn3 : 0 < n3 := by rw [HL3.out, List.length_append]; omega
  have ho3 := hown3.own
  rw [← HL3.out] at ho3
  obtain ⟨g, c3', he, hc3, hc3m, hg1, hg2⟩ := own_head ho3 hn3
  cases he
  unfold maxLen at hc3m
  have hown18 := (own_below hown3.own hx18)
  rw [← HL3.out] at hown18
  have hb218 := hown3.bel.trans (hx18.mono hown3.sz)
  have hsz18 := hb218.size
  have Hown := Lib.hid hown18
  clear hown18 hown3 ho3 hq3 hr3 hx3 hx18 hul hsl hnl
  go_wp2_with fail
  go_loopw [13, 66] (fun _ i wr => ∃ (k : Nat) (ms : List UInt8), k ≤ n3 ∧ i = .int .i64 k ∧ ms.length = n3 ∧ wr.ownsRow w2.heap.size 5 1 (.slice (some ⟨g, 0, none⟩) n3 c3) n3 (b8s ms) ∧ Below w2.heap.size w2 wr) (fun _ i _ => n3 - (intOf i).toNat)
  case atStart => exact ⟨0, _, by omega, rfl, HL3.out.symm, Hown.out, hb218⟩
  case round =>
    clear Hown hb218 hsz18
    obtain ⟨k, ms, hk, rfl, hl, hown, hbel⟩ := hrel
    have Hl := Lib.hid hl
    clear hl
    by_cases hlt : k < n3
    · have hc := hown.cellAt k (by omega)
      rw [b8s_get ms k (by have := Hl.out; omega)] at hc
      have hfz := hown.frozenAt k
      go_wp2
      go_roundw
      case rel =>
        refine ⟨k + 1, ms.set k 99, by omega, by go_num, by rw [List.length_set]; exact Hl.out, ?_, hbel.setCell hg1 _⟩
        have h := (hown.stored k (.int .u8 99)).1
        have e : b8s (ms.set k 99) = (b8s ms).set k (.int .u8 99) := by simp [b8s, List.map_set]
        rw [e]
        exact h
      case measure => simp [intOf]; omega
    · have hrb := hr2.below hbel
      have hcv := run_str_of_bytes (P := Try.prog) (src := 22) (dst := 9) (e := 5) bs.length c rfl Try.underlying22 Try.underlying5 Try.underlying9 hrb
      go_wp2
      go_ret
      exact ⟨by simp, ext_trans HX2.out hbel⟩
end Go.Proofs.Ytgmhdkkhiclilaa
