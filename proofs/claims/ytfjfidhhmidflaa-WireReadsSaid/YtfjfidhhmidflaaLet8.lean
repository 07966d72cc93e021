
/- The document's Same of two letters. -/

import Derived.Test.YtfjfidhhmidflaaLet7

namespace Go.Proofs.Ytfjfidhhmidflaa

set_option linter.unusedVariables false

set_option linter.unusedSimpArgs false

open Go.RowKit

theorem sameL_refs {a b : Lt} (h : ¬ a.refs = b.refs) : sameL a b = false := by unfold sameL; rw [decide_eq_false h]; simp
theorem info_rref (r : RefM) (h : r.ok) : (Try.prog.info? 64).map (·.size) = some r.cells.length := by rw [RefM.len h]; kernel_rfl

set_option maxRecDepth 100000 in
set_option maxHeartbeats 8000000 in
theorem rlsame_any (a b : Lt) (p q : LtP) (w : World) (ha : LtIn w a p) (hb : LtIn w b q) : Calls Try.prog 14 #[a.val p, b.val q] w fun e w' => e = .returned (.bool (sameL a b)) ∧ Below w.heap.size w w' := by
  obtain ⟨W1, W2, g, g', hg, hg', hW1, hW2, HGS, HRA, HRB, HB2⟩ := two_lets (w := w) 37 a b p q ha.len hb.len
  have HIA := Lib.hid (ha.below (hg ▸ HB2.out))
  have HIB := Lib.hid (hb.below (hg ▸ HB2.out))
  have HLA := Lib.hid ha.len
  have HLB := Lib.hid hb.len
  have HFA : Hid (∀ W, Below W2.heap.size W2 W → W.heap[g]? = some (.cells (a.cells p).toArray 37 (0, 0))) := Lib.hid (fun W h => (h.block g HGS.out.1).trans HRA.out)
  have HFB : Hid (∀ W, Below W2.heap.size W2 W → W.heap[g']? = some (.cells (b.cells q).toArray 37 (0, 0))) := Lib.hid (fun W h => (h.block g' HGS.out.2.1).trans HRB.out)
  have hbw : ∀ W, Below W2.heap.size W2 W → Below g w W := fun W h => HB2.out.trans (h.mono HGS.out.2.2.2)
  have HBW := Lib.hid hbw
  obtain ⟨V, hV⟩ : ∃ V, sameL a b = V := ⟨_, rfl⟩
  have HV := Lib.hid hV
  obtain ⟨x0, x1, x2, x3, x4, x5, x6, x7, x8, x9, xp⟩ := ltRow_of HRA.out ha.len
  obtain ⟨y0, y1, y2, y3, y4, y5, y6, y7, y8, y9, yp⟩ := ltRow_of HRB.out hb.len
  rw [hV]
  unfold Lt.val
  rw [hg]
  have HIX := Lib.hid (info_arr32 a.pack HLA.out)
  have HIY := Lib.hid (info_arr32 b.pack HLB.out)
  obtain ⟨z, hz⟩ : ∃ z, decide (a.pack = b.pack) = z := ⟨_, rfl⟩
  have HZ := Lib.hid hz
  have heq : ∀ w, (Op.equalIn 10000 24 (.agg (b8s a.pack).toArray) (.agg (b8s b.pack).toArray)).run Try.prog w = .ok z w := fun w => by
    have := eqin_id 24 Try.underlying24 9998 a.pack b.pack HLA.out HLB.out w
    rw [this, HZ.out]
  have hgd : ∀ o x y w, (eqGuard o 24 x y (.agg (b8s a.pack).toArray) (.agg (b8s b.pack).toArray)).run Try.prog w = .ok () w := fun o x y w => guard_arr o 24 x y _ _ w (by kernel_rfl)
  have HBE := Lib.hid (same_any p.dA q.dA a.data b.data p.dc q.dc W2 HIA.out.dr.1 HIB.out.dr.1 (by have := HIA.out.dr.2; unfold maxLen; omega) (by have := HIB.out.dr.2; unfold maxLen; omega))
  clear ha hb hV hbw hz x4 x5 x6 y4 y5 y6
  cases d0 : (a.kind == b.kind)
  · have m : (a.kind != b.kind) = true := by unfold bne; rw [d0]; rfl
    have D := Lib.hid d0
    clear d0
    go_enter Try.func14, Try.ntmps14
    go_wp2_with fail
    go_ret
    exact ⟨ret_bool (by rw [← HV.out]; unfold sameL; rw [D.out]; simp), HB2.out⟩
  have n0 : (a.kind != b.kind) = false := by unfold bne; rw [d0]; rfl
  have D0 := Lib.hid d0
  clear d0
  cases d1 : (a.from_ == b.from_)
  · have m : (a.from_ != b.from_) = true := by unfold bne; rw [d1]; rfl
    have D := Lib.hid d1
    clear d1
    go_enter Try.func14, Try.ntmps14
    go_wp2_with fail
    go_ret
    exact ⟨ret_bool (by rw [← HV.out]; unfold sameL; rw [D.out]; simp), HB2.out⟩
  have n1 : (a.from_ != b.from_) = false := by unfold bne; rw [d1]; rfl
  have D1 := Lib.hid d1
  clear d1
  cases d2 : (a.to_ == b.to_)
  · have m : (a.to_ != b.to_) = true := by unfold bne; rw [d2]; rfl
    have D := Lib.hid d2
    clear d2
    go_enter Try.func14, Try.ntmps14
    go_wp2_with fail
    go_ret
    exact ⟨ret_bool (by rw [← HV.out]; unfold sameL; rw [D.out]; simp), HB2.out⟩
  have n2 : (a.to_ != b.to_) = false := by unfold bne; rw [d2]; rfl
  have D2 := Lib.hid d2
  clear d2
  cases d3 : (a.session == b.session)
  · have m : (a.session != b.session) = true := by unfold bne; rw [d3]; rfl
    have D := Lib.hid d3
    clear d3
    go_enter Try.func14, Try.ntmps14
    go_wp2_with fail
    go_ret
    exact ⟨ret_bool (by rw [← HV.out]; unfold sameL; rw [D.out]; simp), HB2.out⟩
  have n3 : (a.session != b.session) = false := by unfold bne; rw [d3]; rfl
  have D3 := Lib.hid d3
  clear d3
  cases d7 : (a.off == b.off)
  · have m : (a.off != b.off) = true := by unfold bne; rw [d7]; rfl
    have D := Lib.hid d7
    clear d7
    go_enter Try.func14, Try.ntmps14
    go_wp2_with fail
    go_ret
    exact ⟨ret_bool (by rw [← HV.out]; unfold sameL; rw [D.out]; simp), HB2.out⟩
  have n7 : (a.off != b.off) = false := by unfold bne; rw [d7]; rfl
  have D7 := Lib.hid d7
  clear d7
  cases d8 : (a.total == b.total)
  · have m : (a.total != b.total) = true := by unfold bne; rw [d8]; rfl
    have D := Lib.hid d8
    clear d8
    go_enter Try.func14, Try.ntmps14
    go_wp2_with fail
    go_ret
    exact ⟨ret_bool (by rw [← HV.out]; unfold sameL; rw [D.out]; simp), HB2.out⟩
  have n8 : (a.total != b.total) = false := by unfold bne; rw [d8]; rfl
  have D8 := Lib.hid d8
  clear d8
  cases z
  · go_enter Try.func14, Try.ntmps14
    go_wp2_with (first
      | ((with_reducible (refine wpList_load_cells 24 _ g 9 (b8s a.pack) xp Try.underlying24 rfl HIX.out ?_ rfl ?_ ?_)); (exact rfl); (exact rfl))
      | ((with_reducible (refine wpList_load_cells 24 _ g' 9 (b8s b.pack) yp Try.underlying24 rfl HIY.out ?_ rfl ?_ ?_)); (exact rfl); (exact rfl)))
    go_ret
    exact ⟨ret_bool (by rw [← HV.out]; unfold sameL; rw [HZ.out]; simp), HB2.out⟩
  go_enter Try.func14, Try.ntmps14
  go_wp2_with (first
    | ((with_reducible (refine wpList_load_cells 24 _ g 9 (b8s a.pack) xp Try.underlying24 rfl HIX.out ?_ rfl ?_ ?_)); (exact rfl); (exact rfl))
    | ((with_reducible (refine wpList_load_cells 24 _ g' 9 (b8s b.pack) yp Try.underlying24 rfl HIY.out ?_ rfl ?_ ?_)); (exact rfl); (exact rfl)))
  refine HBE.out.mono ?_
  rintro e w3 ⟨rfl, nd, hw3⟩
  have HB3 : Hid (Below W2.heap.size W2 w3) := Lib.hid (by rw [hw3]; exact below_drewN (Below.refl _ _) nd)
  clear hw3 heq hgd n0 n1 n2 n3 n7 n8 x0 x1 x2 x3 x7 x8 x9 xp y0 y1 y2 y3 y7 y8 y9 yp hW1 hW2
  cases c9 : decide (a.data = b.data)
  · have C9 := Lib.hid c9
    clear c9
    go_wp2_with fail
    go_ret
    exact ⟨ret_bool (by rw [← HV.out]; unfold sameL; rw [C9.out]; simp), HBW.out _ HB3.out⟩
  have C9 := Lib.hid c9
  clear c9
  obtain ⟨_, _, _, _, x4, _, _, _, _, _, _⟩ := ltRow_of (HFA.out _ HB3.out) HLA.out
  obtain ⟨_, _, _, _, y4, _, _, _, _, _, _⟩ := ltRow_of (HFB.out _ HB3.out) HLB.out
  have hl1 := HIA.out.rr.2.1
  have hl2 := HIA.out.rr.2.2
  by_cases hl : a.refs.length = b.refs.length
  · have hn : ((a.refs.length : Int) != (b.refs.length : Int)) = false := by rw [hl]; simp
    have HLN := Lib.hid hl
    clear hl
    go_wp2_with fail
    go_loopg [5] (a.refs.length * 1) (fun gk_ s wr => ∃ k : Nat, k ≤ a.refs.length ∧ gk_ = a.refs.length - k ∧ s = .int .i64 (k : Int) ∧ Hid (Below W2.heap.size W2 wr) ∧ Hid (∀ j (h1 : j < a.refs.length) (h2 : j < b.refs.length), j < k → a.refs[j] = b.refs[j]))
    case atStart => exact ⟨0, by omega, by omega, rfl, HB3, Lib.hid (fun j _ _ hj => absurd hj (Nat.not_lt_zero _))⟩
    case round =>
      clear hn x4 y4 HB3
      obtain ⟨k, hk, rfl, rfl, HBR, HOK⟩ := hrel
      by_cases hlt : k < a.refs.length
      · have hltp : k < b.refs.length := by have := HLN.out; omega
        have hra := HIA.out.below HBR.out
        have hrb := HIB.out.below HBR.out
        have hpa : 0 < (rfc a.refs).length := by rw [rfc_length hra.rok]; omega
        have hpb : 0 < (rfc b.refs).length := by rw [rfc_length hrb.rok]; omega
        obtain ⟨x, off, hAe, _⟩ := hra.rr.1.all hpa
        obtain ⟨y, off', hBe, _⟩ := hrb.rr.1.all hpb
        have ra := hra.rr.1
        have rb := hrb.rr.1
        rw [hAe] at ra
        rw [hBe] at rb
        have RA := Lib.hid (rd_ref ra hra.rok k hlt)
        have RB := Lib.hid (rd_ref rb hrb.rok k hltp)
        have GA := Lib.hid (ra.lt hpa)
        have GB := Lib.hid (rb.lt hpb)
        have OS := rOk_get hra.rok k hlt
        have OT := rOk_get hrb.rok k hltp
        obtain ⟨s, hs⟩ : ∃ s, a.refs[k] = s := ⟨_, rfl⟩
        obtain ⟨t, ht⟩ : ∃ t, b.refs[k] = t := ⟨_, rfl⟩
        rw [hs] at RA OS
        rw [ht] at RB OT
        have HS := Lib.hid hs
        have HT := Lib.hid ht
        obtain ⟨_, _, _, _, x4, _, _, _, _, _, _⟩ := ltRow_of (HFA.out _ HBR.out) HLA.out
        obtain ⟨_, _, _, _, y4, _, _, _, _, _, _⟩ := ltRow_of (HFB.out _ HBR.out) HLB.out
        rw [hAe] at x4
        rw [hBe] at y4
        have i1 : (k : Int) < (a.refs.length : Int) := by omega
        have i2 : (k : Int) < (b.refs.length : Int) := by omega
        obtain ⟨qq, hq⟩ : ∃ q, decide (s = t) = q := ⟨_, rfl⟩
        have HQ := Lib.hid hq
        have heq : ∀ w, (binOp .neq 64 (.agg s.cells.toArray) (.agg t.cells.toArray)).run Try.prog w = .ok (.bool (!qq)) w := fun w => by rw [neq_rref _ _ OS OT, HQ.out]
        have hgd : ∀ b x y w, (eqGuard b 64 x y (.agg s.cells.toArray) (.agg t.cells.toArray)).run Try.prog w = .ok () w := fun b x y w => guard_arr b 64 x y _ _ w (by kernel_rfl)
        have IS := Lib.hid (info_rref s OS)
        have IT := Lib.hid (info_rref t OT)
        clear ra rb hs ht hpa hpb hq OS OT hra hrb hAe hBe
        go_wp2_with fail
        refine wp_region_sched (fun w' => Below wr.heap.size wr w' ∧ w'.cell? ⟨g, 4, none⟩ = some (.slice (some ⟨x, off, none⟩) a.refs.length p.rc) ∧ w'.cell? ⟨g', 4, none⟩ = some (.slice (some ⟨y, off', none⟩) b.refs.length q.rc)) [(true, 0), (true, 1), (true, 2), (true, 3), (true, 4), (true, 5), (true, 6), (true, 7), (true, 8), (true, 9), (true, 10)] (by kernel_rfl) (by kernel_rfl) rfl (by kernel_rfl) ⟨(Below.refl _ _).drew, x4, y4⟩ ?_
        (first | (refine wpS_pass _ rfl (by rfl) ?_; simp only [Act.put, List.getElem_toArray, List.getElem_cons_zero, List.getElem_cons_succ, List.setIfInBounds_toArray, List.set_cons_zero, List.set_cons_succ]) | (refine wpS_take _ ?_ rfl (by rfl) ?_ ?_; rotate_left; (focus (intro w' hS'; (try dsimp only at hS'); (repeat (have hS1 := hS'.1; replace hS' := hS'.2)); go_simp; (try with_reducible rfl); done)); simp only [Act.put, List.getElem_toArray, List.getElem_cons_zero, List.getElem_cons_succ, List.setIfInBounds_toArray, List.set_cons_zero, List.set_cons_succ]))
        (first | (refine wpS_pass _ rfl (by rfl) ?_; simp only [Act.put, List.getElem_toArray, List.getElem_cons_zero, List.getElem_cons_succ, List.setIfInBounds_toArray, List.set_cons_zero, List.set_cons_succ]) | (refine wpS_take _ ?_ rfl (by rfl) ?_ ?_; rotate_left; (focus (intro w' hS'; (try dsimp only at hS'); (repeat (have hS1 := hS'.1; replace hS' := hS'.2)); go_simp; (try with_reducible rfl); done)); simp only [Act.put, List.getElem_toArray, List.getElem_cons_zero, List.getElem_cons_succ, List.setIfInBounds_toArray, List.set_cons_zero, List.set_cons_succ]))
        (first | (refine wpS_pass _ rfl (by rfl) ?_; simp only [Act.put, List.getElem_toArray, List.getElem_cons_zero, List.getElem_cons_succ, List.setIfInBounds_toArray, List.set_cons_zero, List.set_cons_succ]) | (refine wpS_take _ ?_ rfl (by rfl) ?_ ?_; rotate_left; (focus (intro w' hS'; (try dsimp only at hS'); (repeat (have hS1 := hS'.1; replace hS' := hS'.2)); go_simp; (try with_reducible rfl); done)); simp only [Act.put, List.getElem_toArray, List.getElem_cons_zero, List.getElem_cons_succ, List.setIfInBounds_toArray, List.set_cons_zero, List.set_cons_succ]))
        (first | (refine wpS_pass _ rfl (by rfl) ?_; simp only [Act.put, List.getElem_toArray, List.getElem_cons_zero, List.getElem_cons_succ, List.setIfInBounds_toArray, List.set_cons_zero, List.set_cons_succ]) | (refine wpS_take _ ?_ rfl (by rfl) ?_ ?_; rotate_left; (focus (intro w' hS'; (try dsimp only at hS'); (repeat (have hS1 := hS'.1; replace hS' := hS'.2)); go_simp; (try with_reducible rfl); done)); simp only [Act.put, List.getElem_toArray, List.getElem_cons_zero, List.getElem_cons_succ, List.setIfInBounds_toArray, List.set_cons_zero, List.set_cons_succ]))
        refine wpS_load _ rfl (by rfl) _ _ rfl x (off + k * 33) rfl s.cells _ (fun w' hS' => range_below RA.out GA.out hS'.1) Try.underlying64 rfl IS.out ?_
        simp only [Act.put, List.getElem_toArray, List.getElem_cons_zero, List.getElem_cons_succ, List.setIfInBounds_toArray, List.set_cons_zero, List.set_cons_succ]
        (first | (refine wpS_pass _ rfl (by rfl) ?_; simp only [Act.put, List.getElem_toArray, List.getElem_cons_zero, List.getElem_cons_succ, List.setIfInBounds_toArray, List.set_cons_zero, List.set_cons_succ]) | (refine wpS_take _ ?_ rfl (by rfl) ?_ ?_; rotate_left; (focus (intro w' hS'; (try dsimp only at hS'); (repeat (have hS1 := hS'.1; replace hS' := hS'.2)); go_simp; (try with_reducible rfl); done)); simp only [Act.put, List.getElem_toArray, List.getElem_cons_zero, List.getElem_cons_succ, List.setIfInBounds_toArray, List.set_cons_zero, List.set_cons_succ]))
        (first | (refine wpS_pass _ rfl (by rfl) ?_; simp only [Act.put, List.getElem_toArray, List.getElem_cons_zero, List.getElem_cons_succ, List.setIfInBounds_toArray, List.set_cons_zero, List.set_cons_succ]) | (refine wpS_take _ ?_ rfl (by rfl) ?_ ?_; rotate_left; (focus (intro w' hS'; (try dsimp only at hS'); (repeat (have hS1 := hS'.1; replace hS' := hS'.2)); go_simp; (try with_reducible rfl); done)); simp only [Act.put, List.getElem_toArray, List.getElem_cons_zero, List.getElem_cons_succ, List.setIfInBounds_toArray, List.set_cons_zero, List.set_cons_succ]))
        (first | (refine wpS_pass _ rfl (by rfl) ?_; simp only [Act.put, List.getElem_toArray, List.getElem_cons_zero, List.getElem_cons_succ, List.setIfInBounds_toArray, List.set_cons_zero, List.set_cons_succ]) | (refine wpS_take _ ?_ rfl (by rfl) ?_ ?_; rotate_left; (focus (intro w' hS'; (try dsimp only at hS'); (repeat (have hS1 := hS'.1; replace hS' := hS'.2)); go_simp; (try with_reducible rfl); done)); simp only [Act.put, List.getElem_toArray, List.getElem_cons_zero, List.getElem_cons_succ, List.setIfInBounds_toArray, List.set_cons_zero, List.set_cons_succ]))
        (first | (refine wpS_pass _ rfl (by rfl) ?_; simp only [Act.put, List.getElem_toArray, List.getElem_cons_zero, List.getElem_cons_succ, List.setIfInBounds_toArray, List.set_cons_zero, List.set_cons_succ]) | (refine wpS_take _ ?_ rfl (by rfl) ?_ ?_; rotate_left; (focus (intro w' hS'; (try dsimp only at hS'); (repeat (have hS1 := hS'.1; replace hS' := hS'.2)); go_simp; (try with_reducible rfl); done)); simp only [Act.put, List.getElem_toArray, List.getElem_cons_zero, List.getElem_cons_succ, List.setIfInBounds_toArray, List.set_cons_zero, List.set_cons_succ]))
        refine wpS_load _ rfl (by rfl) _ _ rfl y (off' + k * 33) rfl t.cells _ (fun w' hS' => range_below RB.out GB.out hS'.1) Try.underlying64 rfl IT.out ?_
        simp only [Act.put, List.getElem_toArray, List.getElem_cons_zero, List.getElem_cons_succ, List.setIfInBounds_toArray, List.set_cons_zero, List.set_cons_succ]
        refine wpS_take _ _ rfl (by rfl) (fun w' hS' => exec_bin _ _ _ _ _ rfl _ _ _ rfl rfl (hgd _ _ _ w') (heq w')) ?_
        simp only [Act.put, List.getElem_toArray, List.getElem_cons_zero, List.getElem_cons_succ, List.setIfInBounds_toArray, List.set_cons_zero, List.set_cons_succ]
        refine wpS_done ?_
        clear heq hgd x4 y4
        cases qq
        · go_wp2_with fail
          go_ret
          exact ⟨ret_bool (by rw [← HV.out]; exact (sameL_refs (fun e => (of_decide_eq_false HQ.out) (by rw [← HS.out, ← HT.out]; simp only [e]))).symm), HBW.out _ HBR.out.drew⟩
        · go_wp2_with fail
          go_roundg (a.refs.length - (k + 1))
          case measure => omega
          case rel => exact ⟨k + 1, by omega, rfl, by first | rfl | exact congrArg (Value.int .i64) (by omega) | go_num, Lib.hid HBR.out.drew, Lib.hid (fun j h1 h2 hj => by
            rcases Nat.lt_or_ge j k with h | h
            · exact HOK.out j h1 h2 h
            · obtain rfl : j = k := by omega
              rw [HS.out, HT.out, of_decide_eq_true HQ.out])⟩
      · obtain rfl : k = a.refs.length := by omega
        have HRF : Hid (decide (a.refs = b.refs) = true) := Lib.hid (decide_eq_true (lst_same HLN.out (fun j h1 h2 => HOK.out j h1 h2 h1)))
        obtain ⟨_, _, _, _, x4, x5, _, _, _, _, _⟩ := ltRow_of (HFA.out _ HBR.out) HLA.out
        obtain ⟨_, _, _, _, y4, y5, _, _, _, _, _⟩ := ltRow_of (HFB.out _ HBR.out) HLB.out
        have HA4 := Lib.hid (HIA.out.below HBR.out)
        have HB4' := Lib.hid (HIB.out.below HBR.out)
        go_wp2_with fail
        refine (reqids_any p.wA q.wA a.wants b.wants p.wc q.wc wr HA4.out.wr.1 HB4'.out.wr.1 HA4.out.wok HB4'.out.wok HA4.out.wr.2.1 HB4'.out.wr.2.1 HA4.out.wr.2.2 HB4'.out.wr.2.2).mono ?_
        rintro e w4 ⟨rfl, hb4⟩
        clear x4 x5 y4 y5
        have HB4 := Lib.hid (ext_trans HBR.out hb4)
        clear hb4
        cases c5 : decide (a.wants = b.wants)
        · have C5 := Lib.hid c5
          clear c5
          go_wp2_with fail
          go_ret
          exact ⟨ret_bool (by rw [← HV.out]; unfold sameL; rw [C5.out]; simp), HBW.out _ HB4.out⟩
        have C5 := Lib.hid c5
        clear c5
        obtain ⟨_, _, _, _, _, _, x6, _, _, _, _⟩ := ltRow_of (HFA.out _ HB4.out) HLA.out
        obtain ⟨_, _, _, _, _, _, y6, _, _, _, _⟩ := ltRow_of (HFB.out _ HB4.out) HLB.out
        have HA5 := Lib.hid (HIA.out.below HB4.out)
        have HB5' := Lib.hid (HIB.out.below HB4.out)
        go_wp2_with fail
        refine (reqids_any p.hA q.hA a.haves b.haves p.hc q.hc w4 HA5.out.hr.1 HB5'.out.hr.1 HA5.out.hok HB5'.out.hok HA5.out.hr.2.1 HB5'.out.hr.2.1 HA5.out.hr.2.2 HB5'.out.hr.2.2).mono ?_
        rintro e w5 ⟨rfl, hb5⟩
        go_wp2_with fail
        go_ret
        exact ⟨ret_bool (by rw [← HV.out]; unfold sameL; rw [D0.out, D1.out, D2.out, D3.out, C9.out, C5.out, HRF.out, D7.out, D8.out, HZ.out]; simp), HBW.out _ (ext_trans HB4.out hb5)⟩
  · have hn : ((a.refs.length : Int) != (b.refs.length : Int)) = true := by rw [bne_iff_ne]; omega
    have HNL : Hid (¬ a.refs = b.refs) := Lib.hid (fun e => hl (by rw [e]))
    clear hl
    go_wp2_with fail
    go_ret
    exact ⟨ret_bool (by rw [← HV.out]; exact (sameL_refs HNL.out).symm), HBW.out _ HB3.out⟩
end Go.Proofs.Ytfjfidhhmidflaa
