
/- The document's Right, kind 2. (Printed by wip/genL11.py.) -/

import Derived.Test.YtfjfidhhmidflaaLet10

namespace Go.Proofs.Ytfjfidhhmidflaa

set_option linter.unusedVariables false

set_option linter.unusedSimpArgs false

open Go.RowKit

set_option maxRecDepth 100000 in
set_option maxHeartbeats 32000000 in
theorem rright_ok2a (l : Lt) (p : LtP) (w : World) (hin : LtIn w l p) (hok : (1 ≤ l.from_ ∧ l.from_ ≤ 65536 ∧ 1 ≤ l.to_ ∧ l.to_ ≤ 65536 ∧ l.from_ ≠ l.to_ ∧ 1 ≤ l.session ∧ l.session ≤ 1099511627776)) (e1 : ¬ l.kind = 1) (e2 : l.kind = 2) (hcfg : ¬ l.wants.length = 0) (hoff : -9223372036854775808 ≤ l.off ∧ l.off ≤ 9223372036854775807) : Calls Try.prog 10 #[l.val p] w fun e w' => e = .returned (.bool (rightL l)) ∧ Below w.heap.size w w' := by
  obtain ⟨W1, hW1⟩ : ∃ W, w.alloc (.cells (l.cells p).toArray 37) = W := ⟨_, rfl⟩
  obtain ⟨r1, b1, s1⟩ := new_row hW1
  obtain ⟨g, hg⟩ : ∃ g, w.heap.size = g := ⟨_, rfl⟩
  rw [hg] at r1
  have HGS : Hid (g < W1.heap.size) := Lib.hid (Array.getElem?_eq_some_iff.1 r1).1
  have HR1 := Lib.hid r1
  have HB1 : Hid (Below g w W1) := Lib.hid (hg ▸ b1)
  have HIN := Lib.hid (hin.below b1)
  have HLN := Lib.hid hin.len
  have HF : Hid (∀ W, Below W1.heap.size W1 W → W.heap[g]? = some (.cells (l.cells p).toArray 37 (0, 0))) := Lib.hid (fun W h => (h.block g HGS.out).trans HR1.out)
  have HBW : Hid (∀ W, Below W1.heap.size W1 W → Below g w W) := Lib.hid (fun W h => HB1.out.trans (h.mono (Nat.le_of_lt HGS.out)))
  obtain ⟨V, hV⟩ : ∃ V, rightL l = V := ⟨_, rfl⟩
  have HV : Hid (rrL l = V) := Lib.hid ((rrL_right l).trans hV)
  rw [hV]
  obtain ⟨x0, x1, x2, x3, x4, x5, x6, x7, x8, x9, xp⟩ := ltRow_of r1 hin.len
  have HX : Hid (W1.cell? ⟨g, 0, none⟩ = some (.int .i64 l.kind) ∧ W1.cell? ⟨g, 4, none⟩ = some (.slice p.rA l.refs.length p.rc) ∧ W1.cell? ⟨g, 5, none⟩ = some (.slice p.wA l.wants.length p.wc) ∧ W1.cell? ⟨g, 6, none⟩ = some (.slice p.hA l.haves.length p.hc) ∧ W1.cell? ⟨g, 7, none⟩ = some (.int .i64 l.off) ∧ W1.cell? ⟨g, 8, none⟩ = some (.int .i64 l.total) ∧ W1.cell? ⟨g, 41, none⟩ = some (.slice p.dA l.data.length p.dc) ∧ W1.rangeAt g 9 (b8s l.pack)) := Lib.hid ⟨x0, x4, x5, x6, x7, x8, x9, xp⟩
  unfold Lt.val
  rw [hg]
  clear r1 b1 s1 hin hV x0 x4 x5 x6 x7 x8 x9 xp
  have HRR : Hid (rrL l = kindR l) := Lib.hid (rrL_rest hok)
  obtain ⟨x0, x4, x5, x6, x7, x8, x9, xp⟩ := HX.out
  have HIX := Lib.hid (info_arr32 l.pack HLN.out)
  have heqi : ∀ w, (Op.equalIn 10000 24 (.agg (b8s l.pack).toArray) (.agg #[Value.int .u8 0, Value.int .u8 0, Value.int .u8 0, Value.int .u8 0, Value.int .u8 0, Value.int .u8 0, Value.int .u8 0, Value.int .u8 0, Value.int .u8 0, Value.int .u8 0, Value.int .u8 0, Value.int .u8 0, Value.int .u8 0, Value.int .u8 0, Value.int .u8 0, Value.int .u8 0, Value.int .u8 0, Value.int .u8 0, Value.int .u8 0, Value.int .u8 0, Value.int .u8 0, Value.int .u8 0, Value.int .u8 0, Value.int .u8 0, Value.int .u8 0, Value.int .u8 0, Value.int .u8 0, Value.int .u8 0, Value.int .u8 0, Value.int .u8 0, Value.int .u8 0, Value.int .u8 0])).run Try.prog w = .ok (decide (l.pack = zeros32)) w := fun w => by
    have := eqin_id 24 Try.underlying24 9998 l.pack zeros32 HLN.out rfl w
    rw [zeros32_cells] at this
    exact this
  have hgd : ∀ o x y w, (eqGuard o 24 x y (.agg (b8s l.pack).toArray) (.agg #[Value.int .u8 0, Value.int .u8 0, Value.int .u8 0, Value.int .u8 0, Value.int .u8 0, Value.int .u8 0, Value.int .u8 0, Value.int .u8 0, Value.int .u8 0, Value.int .u8 0, Value.int .u8 0, Value.int .u8 0, Value.int .u8 0, Value.int .u8 0, Value.int .u8 0, Value.int .u8 0, Value.int .u8 0, Value.int .u8 0, Value.int .u8 0, Value.int .u8 0, Value.int .u8 0, Value.int .u8 0, Value.int .u8 0, Value.int .u8 0, Value.int .u8 0, Value.int .u8 0, Value.int .u8 0, Value.int .u8 0, Value.int .u8 0, Value.int .u8 0, Value.int .u8 0, Value.int .u8 0])).run Try.prog w = .ok () w := fun o x y w => guard_arr o 24 x y _ _ w (by kernel_rfl)
  obtain ⟨t1, t2, t3, t4, t5, t6, t7⟩ := hok
  have HE1 := Lib.hid e1
  have HE2 := Lib.hid e2
  clear e1 e2
  have tb : (l.from_ == l.to_) = false := by simpa using t5
  have HN0 : Hid (want0 l = false) := Lib.hid (by unfold want0; simp [hcfg])
  obtain ⟨nw, hnw⟩ : ∃ n, l.wants.length = n := ⟨_, rfl⟩
  obtain ⟨nh, hnh⟩ : ∃ n, l.haves.length = n := ⟨_, rfl⟩
  have HNW := Lib.hid hnw
  have HNH := Lib.hid hnh
  rw [hnw] at x5
  rw [hnh] at x6
  rw [hnw] at hcfg
  have q1 : ((nw : Int) == 0) = false := by rw [beq_eq_false_iff_ne]; omega
  clear hnw hnh hcfg
  go_enter Try.func10, Try.ntmps10
  go_upto_region 5 with fail
  clear t1 t2 t3 t4 t5 t6 t7 tb x1 x2 x3 q1
  go_cut [5] (fun a wx => a = .bool (part0 l) ∧ wx = W1)
  case first =>
    go_wp2_with ((with_reducible (refine wpList_load_cells 24 _ g 9 (b8s l.pack) xp Try.underlying24 rfl HIX.out ?_ rfl ?_ ?_)); (exact rfl); (exact rfl))
    all_goals
      go_meet
      case rel => exact ⟨congrArg Value.bool (by unfold part0; rw [← len0]; simp_all), rfl⟩
  case rest =>
  obtain ⟨rfl, hw⟩ := hcut
  have hw' := hw.symm
  subst hw'
  clear hw heqi
  obtain ⟨P0, hP0⟩ : ∃ b, part0 l = b := ⟨_, rfl⟩
  rw [hP0]
  have HP0 := Lib.hid hP0
  clear hP0
  have e1 := HE1.out
  have e2 := HE2.out
  have d1 : (l.kind == 1) = false := by simpa using e1
  have d2 : (l.kind == 2) = true := by rw [e2]; rfl
  have E2 : Hid (V = (refsAll l.refs && (decide (l.refs.length ≤ 100) && false && P0 && (l.off == 0)))) := Lib.hid (by rw [← HV.out, HRR.out, kindR_2 e2, HN0.out, HP0.out])
  have HB0 : Hid (Below W1.heap.size W1 W1) := Lib.hid (Below.refl _ _)
  have hl1 := HIN.out.rr.2.1
  have hl2 := HIN.out.rr.2.2
  clear e1 e2 hgd
  go_wp2_with fail
  clear d1 d2 hW1
  go_loopg [6] (l.refs.length * 1) (fun gk_ s wr => ∃ (k : Nat), k ≤ l.refs.length ∧ gk_ = l.refs.length - k ∧ s = .int .i64 (k : Int) ∧ Hid (Below W1.heap.size W1 wr) ∧ Hid (∀ j < k, refAt l.refs j = true))
  case atStart => exact ⟨0, by omega, by omega, rfl, HB0, Lib.hid (fun j hj => absurd hj (Nat.not_lt_zero _))⟩
  case round =>
    clear HB0 x0 x4 x5 x6 x7 x8 x9 xp
    obtain ⟨k, hk, rfl, rfl, HBR, HOK⟩ := hrel
    obtain ⟨_, _, _, _, x4, _, _, x7, _, _, _⟩ := ltRow_of (HF.out _ HBR.out) HLN.out
    by_cases hlt : k < l.refs.length
    · have hin2 := HIN.out.below HBR.out
      have HO := Lib.hid hin2.rok
      have hrd := hin2.rr.1
      have hpos : 0 < (rfc l.refs).length := by rw [rfc_length HO.out]; omega
      obtain ⟨b, off, hA, _⟩ := hrd.all hpos
      rw [hA] at hrd x4
      have RS := rd_ref hrd HO.out k hlt
      have hso := rOk_get HO.out k hlt
      have hget := refAt_get l.refs k hlt
      obtain ⟨s, hs⟩ : ∃ s, l.refs[k] = s := ⟨_, rfl⟩
      rw [hs] at RS hso hget
      have HGET := Lib.hid hget
      have HSO := Lib.hid hso
      have HIW := Lib.hid (info_arr32 s.id hso.1)
      have GL := Lib.hid (hrd.lt hpos)
      have HRD := Lib.hid hrd
      have HC0 : Hid (∀ w', Below wr.heap.size wr w' → w'.cell? ⟨b, off + k * 33, none⟩ = some (.string s.name)) := Lib.hid (fun w' hb => cell_below (ref_cell0 RS) GL.out hb)
      have HC1 := Lib.hid (ref_range1 RS)
      have i1 : (k : Int) < (l.refs.length : Int) := by omega
      have i2 : (l.refs.length : Int) ≤ (p.rc : Int) := by omega
      obtain ⟨q, hq⟩ : ∃ q, decide (s.id = zeros32) = q := ⟨_, rfl⟩
      have HQ := Lib.hid hq
      have heq : ∀ w, (binOp .eql 24 (.agg (b8s s.id).toArray) (.agg #[Value.int .u8 0, Value.int .u8 0, Value.int .u8 0, Value.int .u8 0, Value.int .u8 0, Value.int .u8 0, Value.int .u8 0, Value.int .u8 0, Value.int .u8 0, Value.int .u8 0, Value.int .u8 0, Value.int .u8 0, Value.int .u8 0, Value.int .u8 0, Value.int .u8 0, Value.int .u8 0, Value.int .u8 0, Value.int .u8 0, Value.int .u8 0, Value.int .u8 0, Value.int .u8 0, Value.int .u8 0, Value.int .u8 0, Value.int .u8 0, Value.int .u8 0, Value.int .u8 0, Value.int .u8 0, Value.int .u8 0, Value.int .u8 0, Value.int .u8 0, Value.int .u8 0, Value.int .u8 0])).run Try.prog w = .ok (.bool q) w := fun w => by
        have := eql_id 24 Try.underlying24 s.id zeros32 HSO.out.1 rfl w
        rw [zeros32_cells] at this
        rw [this, HQ.out]
      have hgd : ∀ b x y w, (eqGuard b 24 x y (.agg (b8s s.id).toArray) (.agg #[Value.int .u8 0, Value.int .u8 0, Value.int .u8 0, Value.int .u8 0, Value.int .u8 0, Value.int .u8 0, Value.int .u8 0, Value.int .u8 0, Value.int .u8 0, Value.int .u8 0, Value.int .u8 0, Value.int .u8 0, Value.int .u8 0, Value.int .u8 0, Value.int .u8 0, Value.int .u8 0, Value.int .u8 0, Value.int .u8 0, Value.int .u8 0, Value.int .u8 0, Value.int .u8 0, Value.int .u8 0, Value.int .u8 0, Value.int .u8 0, Value.int .u8 0, Value.int .u8 0, Value.int .u8 0, Value.int .u8 0, Value.int .u8 0, Value.int .u8 0, Value.int .u8 0, Value.int .u8 0])).run Try.prog w = .ok () w := fun b x y w => guard_arr b 24 x y _ _ w (by kernel_rfl)
      have HBD : Hid (Below W1.heap.size W1 wr.drew) := Lib.hid HBR.out.drew
      clear hq hs hget hso RS hrd hpos hin2 hA x7
      have X4 := Lib.hid x4
      go_wp2_with fail
      refine wp_region_sched (fun w' => w'.cell? ⟨g, 4, none⟩ = some (.slice (some ⟨b, off, none⟩) l.refs.length p.rc) ∧ Below wr.heap.size wr w') [(true, 0), (true, 1), (true, 2), (true, 3), (true, 4), (true, 5), (false, 6), (true, 7), (true, 8), (true, 9), (true, 10), (true, 11), (true, 12), (true, 13), (true, 14), (true, 15), (true, 16), (true, 17), (true, 18), (true, 19), (true, 20), (true, 21), (true, 22), (true, 23), (true, 24), (true, 25), (true, 26), (true, 27), (true, 28), (true, 29), (true, 30), (true, 31), (true, 32), (true, 33), (true, 34), (true, 35), (true, 36), (true, 37)] (by kernel_rfl) (by kernel_rfl) rfl (by kernel_rfl) ⟨X4.out, (Below.refl _ _).drew⟩ ?_
      (first | (refine wpS_pass _ rfl (by rfl) ?_; simp only [Act.put, List.getElem_toArray, List.getElem_cons_zero, List.getElem_cons_succ, List.setIfInBounds_toArray, List.set_cons_zero, List.set_cons_succ]) | (refine wpS_take _ ?_ rfl (by rfl) ?_ ?_; rotate_left; (focus (intro w' hS'; (try dsimp only at hS'); (repeat (have hS1 := hS'.1; replace hS' := hS'.2)); go_simp; (try with_reducible rfl); done)); simp only [Act.put, List.getElem_toArray, List.getElem_cons_zero, List.getElem_cons_succ, List.setIfInBounds_toArray, List.set_cons_zero, List.set_cons_succ]))
      (first | (refine wpS_pass _ rfl (by rfl) ?_; simp only [Act.put, List.getElem_toArray, List.getElem_cons_zero, List.getElem_cons_succ, List.setIfInBounds_toArray, List.set_cons_zero, List.set_cons_succ]) | (refine wpS_take _ ?_ rfl (by rfl) ?_ ?_; rotate_left; (focus (intro w' hS'; (try dsimp only at hS'); (repeat (have hS1 := hS'.1; replace hS' := hS'.2)); go_simp; (try with_reducible rfl); done)); simp only [Act.put, List.getElem_toArray, List.getElem_cons_zero, List.getElem_cons_succ, List.setIfInBounds_toArray, List.set_cons_zero, List.set_cons_succ]))
      (first | (refine wpS_pass _ rfl (by rfl) ?_; simp only [Act.put, List.getElem_toArray, List.getElem_cons_zero, List.getElem_cons_succ, List.setIfInBounds_toArray, List.set_cons_zero, List.set_cons_succ]) | (refine wpS_take _ ?_ rfl (by rfl) ?_ ?_; rotate_left; (focus (intro w' hS'; (try dsimp only at hS'); (repeat (have hS1 := hS'.1; replace hS' := hS'.2)); go_simp; (try with_reducible rfl); done)); simp only [Act.put, List.getElem_toArray, List.getElem_cons_zero, List.getElem_cons_succ, List.setIfInBounds_toArray, List.set_cons_zero, List.set_cons_succ]))
      (first | (refine wpS_pass _ rfl (by rfl) ?_; simp only [Act.put, List.getElem_toArray, List.getElem_cons_zero, List.getElem_cons_succ, List.setIfInBounds_toArray, List.set_cons_zero, List.set_cons_succ]) | (refine wpS_take _ ?_ rfl (by rfl) ?_ ?_; rotate_left; (focus (intro w' hS'; (try dsimp only at hS'); (repeat (have hS1 := hS'.1; replace hS' := hS'.2)); go_simp; (try with_reducible rfl); done)); simp only [Act.put, List.getElem_toArray, List.getElem_cons_zero, List.getElem_cons_succ, List.setIfInBounds_toArray, List.set_cons_zero, List.set_cons_succ]))
      (first | (refine wpS_pass _ rfl (by rfl) ?_; simp only [Act.put, List.getElem_toArray, List.getElem_cons_zero, List.getElem_cons_succ, List.setIfInBounds_toArray, List.set_cons_zero, List.set_cons_succ]) | (refine wpS_take _ ?_ rfl (by rfl) ?_ ?_; rotate_left; (focus (intro w' hS'; (try dsimp only at hS'); (repeat (have hS1 := hS'.1; replace hS' := hS'.2)); go_simp; (try with_reducible rfl); done)); simp only [Act.put, List.getElem_toArray, List.getElem_cons_zero, List.getElem_cons_succ, List.setIfInBounds_toArray, List.set_cons_zero, List.set_cons_succ]))
      refine wpS_take _ (.string s.name) rfl (by rfl) (fun w' hS' => by have hq := HC0.out w' hS'.2; go_simp) ?_
      simp only [Act.put, List.getElem_toArray, List.getElem_cons_zero, List.getElem_cons_succ, List.setIfInBounds_toArray, List.set_cons_zero, List.set_cons_succ]
      refine wpS_do _ rfl (by rfl) (fun K hK => ?_)
      go_simp
      refine (rname_any s.name HSO.out.2 _).mono ?_
      rintro e w3 ⟨rfl, rfl⟩
      refine hK.out _ _ ⟨X4.out, (Below.refl _ _).drew⟩ (fun hS => ?_)
      clear hK hS x4
      cases c1 : nameS s.name
      · have C1 := Lib.hid c1
        clear c1
        (repeat (first | (refine wpS_pass _ rfl (by rfl) ?_; simp only [Act.put, List.getElem_toArray, List.getElem_cons_zero, List.getElem_cons_succ, List.setIfInBounds_toArray, List.set_cons_zero, List.set_cons_succ]) | (refine wpS_take _ ?_ rfl (by rfl) ?_ ?_; rotate_left; (focus (intro w' hS'; (try dsimp only at hS'); (repeat (have hS1 := hS'.1; replace hS' := hS'.2)); go_simp; (try with_reducible rfl); done)); simp only [Act.put, List.getElem_toArray, List.getElem_cons_zero, List.getElem_cons_succ, List.setIfInBounds_toArray, List.set_cons_zero, List.set_cons_succ])))
        refine wpS_done ?_
        go_wp2_with fail
        go_ret
        exact ⟨ret_bool (by rw [E2.out, refsAll_bad k hlt (by rw [HGET.out, C1.out, Bool.false_and, Bool.false_and]), Bool.false_and]), HBW.out _ HBD.out⟩
      · have C1 := Lib.hid c1
        clear c1
        (first | (refine wpS_pass _ rfl (by rfl) ?_; simp only [Act.put, List.getElem_toArray, List.getElem_cons_zero, List.getElem_cons_succ, List.setIfInBounds_toArray, List.set_cons_zero, List.set_cons_succ]) | (refine wpS_take _ ?_ rfl (by rfl) ?_ ?_; rotate_left; (focus (intro w' hS'; (try dsimp only at hS'); (repeat (have hS1 := hS'.1; replace hS' := hS'.2)); go_simp; (try with_reducible rfl); done)); simp only [Act.put, List.getElem_toArray, List.getElem_cons_zero, List.getElem_cons_succ, List.setIfInBounds_toArray, List.set_cons_zero, List.set_cons_succ]))
        (first | (refine wpS_pass _ rfl (by rfl) ?_; simp only [Act.put, List.getElem_toArray, List.getElem_cons_zero, List.getElem_cons_succ, List.setIfInBounds_toArray, List.set_cons_zero, List.set_cons_succ]) | (refine wpS_take _ ?_ rfl (by rfl) ?_ ?_; rotate_left; (focus (intro w' hS'; (try dsimp only at hS'); (repeat (have hS1 := hS'.1; replace hS' := hS'.2)); go_simp; (try with_reducible rfl); done)); simp only [Act.put, List.getElem_toArray, List.getElem_cons_zero, List.getElem_cons_succ, List.setIfInBounds_toArray, List.set_cons_zero, List.set_cons_succ]))
        (first | (refine wpS_pass _ rfl (by rfl) ?_; simp only [Act.put, List.getElem_toArray, List.getElem_cons_zero, List.getElem_cons_succ, List.setIfInBounds_toArray, List.set_cons_zero, List.set_cons_succ]) | (refine wpS_take _ ?_ rfl (by rfl) ?_ ?_; rotate_left; (focus (intro w' hS'; (try dsimp only at hS'); (repeat (have hS1 := hS'.1; replace hS' := hS'.2)); go_simp; (try with_reducible rfl); done)); simp only [Act.put, List.getElem_toArray, List.getElem_cons_zero, List.getElem_cons_succ, List.setIfInBounds_toArray, List.set_cons_zero, List.set_cons_succ]))
        (first | (refine wpS_pass _ rfl (by rfl) ?_; simp only [Act.put, List.getElem_toArray, List.getElem_cons_zero, List.getElem_cons_succ, List.setIfInBounds_toArray, List.set_cons_zero, List.set_cons_succ]) | (refine wpS_take _ ?_ rfl (by rfl) ?_ ?_; rotate_left; (focus (intro w' hS'; (try dsimp only at hS'); (repeat (have hS1 := hS'.1; replace hS' := hS'.2)); go_simp; (try with_reducible rfl); done)); simp only [Act.put, List.getElem_toArray, List.getElem_cons_zero, List.getElem_cons_succ, List.setIfInBounds_toArray, List.set_cons_zero, List.set_cons_succ]))
        (first | (refine wpS_pass _ rfl (by rfl) ?_; simp only [Act.put, List.getElem_toArray, List.getElem_cons_zero, List.getElem_cons_succ, List.setIfInBounds_toArray, List.set_cons_zero, List.set_cons_succ]) | (refine wpS_take _ ?_ rfl (by rfl) ?_ ?_; rotate_left; (focus (intro w' hS'; (try dsimp only at hS'); (repeat (have hS1 := hS'.1; replace hS' := hS'.2)); go_simp; (try with_reducible rfl); done)); simp only [Act.put, List.getElem_toArray, List.getElem_cons_zero, List.getElem_cons_succ, List.setIfInBounds_toArray, List.set_cons_zero, List.set_cons_succ]))
        (first | (refine wpS_pass _ rfl (by rfl) ?_; simp only [Act.put, List.getElem_toArray, List.getElem_cons_zero, List.getElem_cons_succ, List.setIfInBounds_toArray, List.set_cons_zero, List.set_cons_succ]) | (refine wpS_take _ ?_ rfl (by rfl) ?_ ?_; rotate_left; (focus (intro w' hS'; (try dsimp only at hS'); (repeat (have hS1 := hS'.1; replace hS' := hS'.2)); go_simp; (try with_reducible rfl); done)); simp only [Act.put, List.getElem_toArray, List.getElem_cons_zero, List.getElem_cons_succ, List.setIfInBounds_toArray, List.set_cons_zero, List.set_cons_succ]))
        (first | (refine wpS_pass _ rfl (by rfl) ?_; simp only [Act.put, List.getElem_toArray, List.getElem_cons_zero, List.getElem_cons_succ, List.setIfInBounds_toArray, List.set_cons_zero, List.set_cons_succ]) | (refine wpS_take _ ?_ rfl (by rfl) ?_ ?_; rotate_left; (focus (intro w' hS'; (try dsimp only at hS'); (repeat (have hS1 := hS'.1; replace hS' := hS'.2)); go_simp; (try with_reducible rfl); done)); simp only [Act.put, List.getElem_toArray, List.getElem_cons_zero, List.getElem_cons_succ, List.setIfInBounds_toArray, List.set_cons_zero, List.set_cons_succ]))
        refine wpS_load _ rfl (by rfl) _ _ rfl b (off + k * 33 + 1) rfl (b8s s.id) _ (fun w' hS' => range_below HC1.out GL.out hS'.2) Try.underlying24 rfl HIW.out ?_
        simp only [Act.put, List.getElem_toArray, List.getElem_cons_zero, List.getElem_cons_succ, List.setIfInBounds_toArray, List.set_cons_zero, List.set_cons_succ]
        (first | (refine wpS_pass _ rfl (by rfl) ?_; simp only [Act.put, List.getElem_toArray, List.getElem_cons_zero, List.getElem_cons_succ, List.setIfInBounds_toArray, List.set_cons_zero, List.set_cons_succ]) | (refine wpS_take _ ?_ rfl (by rfl) ?_ ?_; rotate_left; (focus (intro w' hS'; (try dsimp only at hS'); (repeat (have hS1 := hS'.1; replace hS' := hS'.2)); go_simp; (try with_reducible rfl); done)); simp only [Act.put, List.getElem_toArray, List.getElem_cons_zero, List.getElem_cons_succ, List.setIfInBounds_toArray, List.set_cons_zero, List.set_cons_succ]))
        refine wpS_take _ _ rfl (by rfl) (fun w' hS' => exec_bin _ _ _ _ _ rfl _ _ _ rfl rfl (hgd _ _ _ w') (heq w')) ?_
        simp only [Act.put, List.getElem_toArray, List.getElem_cons_zero, List.getElem_cons_succ, List.setIfInBounds_toArray, List.set_cons_zero, List.set_cons_succ]
        clear heq hgd
        cases q
        · by_cases hk0 : k = 0
          · have d3 : decide ((0 : Int) < (k : Int)) = false := decide_eq_false (by omega)
            (repeat (first | (refine wpS_pass _ rfl (by rfl) ?_; simp only [Act.put, List.getElem_toArray, List.getElem_cons_zero, List.getElem_cons_succ, List.setIfInBounds_toArray, List.set_cons_zero, List.set_cons_succ]) | (refine wpS_take _ ?_ rfl (by rfl) ?_ ?_; rotate_left; (focus (intro w' hS'; (try dsimp only at hS'); (repeat (have hS1 := hS'.1; replace hS' := hS'.2)); go_simp; (try with_reducible rfl); done)); simp only [Act.put, List.getElem_toArray, List.getElem_cons_zero, List.getElem_cons_succ, List.setIfInBounds_toArray, List.set_cons_zero, List.set_cons_succ])))
            refine wpS_done ?_
            go_wp2_with fail
            go_roundg (l.refs.length - (k + 1))
            case measure => omega
            case rel => exact ⟨k + 1, by omega, rfl, by first | rfl | exact congrArg (Value.int .i64) (by omega) | go_num, HBD, Lib.hid (fun j hj => by
              rcases Nat.lt_or_ge j k with h | h
              · exact HOK.out j h
              · obtain rfl : j = k := by omega
                rw [HGET.out, C1.out, HQ.out, hk0]; rfl)⟩
          · have d3 : decide ((0 : Int) < (k : Int)) = true := decide_eq_true (by omega)
            have d3n : 0 < k := by omega
            have d3m : decide (0 < k) = true := decide_eq_true d3n
            obtain ⟨j, hj⟩ : ∃ j, k = j + 1 := ⟨k - 1, by omega⟩
            have hjl : j < l.refs.length := by omega
            obtain ⟨pr, hp⟩ : ∃ pr, l.refs[j] = pr := ⟨_, rfl⟩
            have RP := rd_ref HRD.out HO.out j hjl
            rw [hp] at RP
            have HPC : Hid (∀ w', Below wr.heap.size wr w' → w'.cell? ⟨b, off + j * 33, none⟩ = some (.string pr.name)) := Lib.hid (fun w' hb => cell_below (ref_cell0 RP) GL.out hb)
            have HPV : Hid (prevLess l.refs s k = nameLt pr.name s.name) := Lib.hid (by rw [hj, prevLess_succ _ _ _ hjl, hp])
            have hsub := fun w => bin_sub (P := Try.prog) (t := 3) (k : Int) 1 (j : Int) w (by omega) (by omega) (by omega)
            have l1 : (j : Int) < (l.refs.length : Int) := by omega
            clear hp RP hj
            (first | (refine wpS_pass _ rfl (by rfl) ?_; simp only [Act.put, List.getElem_toArray, List.getElem_cons_zero, List.getElem_cons_succ, List.setIfInBounds_toArray, List.set_cons_zero, List.set_cons_succ]) | (refine wpS_take _ ?_ rfl (by rfl) ?_ ?_; rotate_left; (focus (intro w' hS'; (try dsimp only at hS'); (repeat (have hS1 := hS'.1; replace hS' := hS'.2)); go_simp; (try with_reducible rfl); done)); simp only [Act.put, List.getElem_toArray, List.getElem_cons_zero, List.getElem_cons_succ, List.setIfInBounds_toArray, List.set_cons_zero, List.set_cons_succ]))
            (first | (refine wpS_pass _ rfl (by rfl) ?_; simp only [Act.put, List.getElem_toArray, List.getElem_cons_zero, List.getElem_cons_succ, List.setIfInBounds_toArray, List.set_cons_zero, List.set_cons_succ]) | (refine wpS_take _ ?_ rfl (by rfl) ?_ ?_; rotate_left; (focus (intro w' hS'; (try dsimp only at hS'); (repeat (have hS1 := hS'.1; replace hS' := hS'.2)); go_simp; (try with_reducible rfl); done)); simp only [Act.put, List.getElem_toArray, List.getElem_cons_zero, List.getElem_cons_succ, List.setIfInBounds_toArray, List.set_cons_zero, List.set_cons_succ]))
            (first | (refine wpS_pass _ rfl (by rfl) ?_; simp only [Act.put, List.getElem_toArray, List.getElem_cons_zero, List.getElem_cons_succ, List.setIfInBounds_toArray, List.set_cons_zero, List.set_cons_succ]) | (refine wpS_take _ ?_ rfl (by rfl) ?_ ?_; rotate_left; (focus (intro w' hS'; (try dsimp only at hS'); (repeat (have hS1 := hS'.1; replace hS' := hS'.2)); go_simp; (try with_reducible rfl); done)); simp only [Act.put, List.getElem_toArray, List.getElem_cons_zero, List.getElem_cons_succ, List.setIfInBounds_toArray, List.set_cons_zero, List.set_cons_succ]))
            (first | (refine wpS_pass _ rfl (by rfl) ?_; simp only [Act.put, List.getElem_toArray, List.getElem_cons_zero, List.getElem_cons_succ, List.setIfInBounds_toArray, List.set_cons_zero, List.set_cons_succ]) | (refine wpS_take _ ?_ rfl (by rfl) ?_ ?_; rotate_left; (focus (intro w' hS'; (try dsimp only at hS'); (repeat (have hS1 := hS'.1; replace hS' := hS'.2)); go_simp; (try with_reducible rfl); done)); simp only [Act.put, List.getElem_toArray, List.getElem_cons_zero, List.getElem_cons_succ, List.setIfInBounds_toArray, List.set_cons_zero, List.set_cons_succ]))
            (first | (refine wpS_pass _ rfl (by rfl) ?_; simp only [Act.put, List.getElem_toArray, List.getElem_cons_zero, List.getElem_cons_succ, List.setIfInBounds_toArray, List.set_cons_zero, List.set_cons_succ]) | (refine wpS_take _ ?_ rfl (by rfl) ?_ ?_; rotate_left; (focus (intro w' hS'; (try dsimp only at hS'); (repeat (have hS1 := hS'.1; replace hS' := hS'.2)); go_simp; (try with_reducible rfl); done)); simp only [Act.put, List.getElem_toArray, List.getElem_cons_zero, List.getElem_cons_succ, List.setIfInBounds_toArray, List.set_cons_zero, List.set_cons_succ]))
            (first | (refine wpS_pass _ rfl (by rfl) ?_; simp only [Act.put, List.getElem_toArray, List.getElem_cons_zero, List.getElem_cons_succ, List.setIfInBounds_toArray, List.set_cons_zero, List.set_cons_succ]) | (refine wpS_take _ ?_ rfl (by rfl) ?_ ?_; rotate_left; (focus (intro w' hS'; (try dsimp only at hS'); (repeat (have hS1 := hS'.1; replace hS' := hS'.2)); go_simp; (try with_reducible rfl); done)); simp only [Act.put, List.getElem_toArray, List.getElem_cons_zero, List.getElem_cons_succ, List.setIfInBounds_toArray, List.set_cons_zero, List.set_cons_succ]))
            (first | (refine wpS_pass _ rfl (by rfl) ?_; simp only [Act.put, List.getElem_toArray, List.getElem_cons_zero, List.getElem_cons_succ, List.setIfInBounds_toArray, List.set_cons_zero, List.set_cons_succ]) | (refine wpS_take _ ?_ rfl (by rfl) ?_ ?_; rotate_left; (focus (intro w' hS'; (try dsimp only at hS'); (repeat (have hS1 := hS'.1; replace hS' := hS'.2)); go_simp; (try with_reducible rfl); done)); simp only [Act.put, List.getElem_toArray, List.getElem_cons_zero, List.getElem_cons_succ, List.setIfInBounds_toArray, List.set_cons_zero, List.set_cons_succ]))
            (first | (refine wpS_pass _ rfl (by rfl) ?_; simp only [Act.put, List.getElem_toArray, List.getElem_cons_zero, List.getElem_cons_succ, List.setIfInBounds_toArray, List.set_cons_zero, List.set_cons_succ]) | (refine wpS_take _ ?_ rfl (by rfl) ?_ ?_; rotate_left; (focus (intro w' hS'; (try dsimp only at hS'); (repeat (have hS1 := hS'.1; replace hS' := hS'.2)); go_simp; (try with_reducible rfl); done)); simp only [Act.put, List.getElem_toArray, List.getElem_cons_zero, List.getElem_cons_succ, List.setIfInBounds_toArray, List.set_cons_zero, List.set_cons_succ]))
            refine wpS_take _ _ rfl (by rfl) (fun w' hS' => exec_bin _ _ _ _ _ rfl _ _ _ rfl rfl rfl (hsub w')) ?_
            simp only [Act.put, List.getElem_toArray, List.getElem_cons_zero, List.getElem_cons_succ, List.setIfInBounds_toArray, List.set_cons_zero, List.set_cons_succ]
            clear hsub
            (first | (refine wpS_pass _ rfl (by rfl) ?_; simp only [Act.put, List.getElem_toArray, List.getElem_cons_zero, List.getElem_cons_succ, List.setIfInBounds_toArray, List.set_cons_zero, List.set_cons_succ]) | (refine wpS_take _ ?_ rfl (by rfl) ?_ ?_; rotate_left; (focus (intro w' hS'; (try dsimp only at hS'); (repeat (have hS1 := hS'.1; replace hS' := hS'.2)); go_simp; (try with_reducible rfl); done)); simp only [Act.put, List.getElem_toArray, List.getElem_cons_zero, List.getElem_cons_succ, List.setIfInBounds_toArray, List.set_cons_zero, List.set_cons_succ]))
            (first | (refine wpS_pass _ rfl (by rfl) ?_; simp only [Act.put, List.getElem_toArray, List.getElem_cons_zero, List.getElem_cons_succ, List.setIfInBounds_toArray, List.set_cons_zero, List.set_cons_succ]) | (refine wpS_take _ ?_ rfl (by rfl) ?_ ?_; rotate_left; (focus (intro w' hS'; (try dsimp only at hS'); (repeat (have hS1 := hS'.1; replace hS' := hS'.2)); go_simp; (try with_reducible rfl); done)); simp only [Act.put, List.getElem_toArray, List.getElem_cons_zero, List.getElem_cons_succ, List.setIfInBounds_toArray, List.set_cons_zero, List.set_cons_succ]))
            refine wpS_take _ (.string pr.name) rfl (by rfl) (fun w' hS' => by have hq := HPC.out w' hS'.2; go_simp) ?_
            simp only [Act.put, List.getElem_toArray, List.getElem_cons_zero, List.getElem_cons_succ, List.setIfInBounds_toArray, List.set_cons_zero, List.set_cons_succ]
            (first | (refine wpS_pass _ rfl (by rfl) ?_; simp only [Act.put, List.getElem_toArray, List.getElem_cons_zero, List.getElem_cons_succ, List.setIfInBounds_toArray, List.set_cons_zero, List.set_cons_succ]) | (refine wpS_take _ ?_ rfl (by rfl) ?_ ?_; rotate_left; (focus (intro w' hS'; (try dsimp only at hS'); (repeat (have hS1 := hS'.1; replace hS' := hS'.2)); go_simp; (try with_reducible rfl); done)); simp only [Act.put, List.getElem_toArray, List.getElem_cons_zero, List.getElem_cons_succ, List.setIfInBounds_toArray, List.set_cons_zero, List.set_cons_succ]))
            (first | (refine wpS_pass _ rfl (by rfl) ?_; simp only [Act.put, List.getElem_toArray, List.getElem_cons_zero, List.getElem_cons_succ, List.setIfInBounds_toArray, List.set_cons_zero, List.set_cons_succ]) | (refine wpS_take _ ?_ rfl (by rfl) ?_ ?_; rotate_left; (focus (intro w' hS'; (try dsimp only at hS'); (repeat (have hS1 := hS'.1; replace hS' := hS'.2)); go_simp; (try with_reducible rfl); done)); simp only [Act.put, List.getElem_toArray, List.getElem_cons_zero, List.getElem_cons_succ, List.setIfInBounds_toArray, List.set_cons_zero, List.set_cons_succ]))
            (first | (refine wpS_pass _ rfl (by rfl) ?_; simp only [Act.put, List.getElem_toArray, List.getElem_cons_zero, List.getElem_cons_succ, List.setIfInBounds_toArray, List.set_cons_zero, List.set_cons_succ]) | (refine wpS_take _ ?_ rfl (by rfl) ?_ ?_; rotate_left; (focus (intro w' hS'; (try dsimp only at hS'); (repeat (have hS1 := hS'.1; replace hS' := hS'.2)); go_simp; (try with_reducible rfl); done)); simp only [Act.put, List.getElem_toArray, List.getElem_cons_zero, List.getElem_cons_succ, List.setIfInBounds_toArray, List.set_cons_zero, List.set_cons_succ]))
            (first | (refine wpS_pass _ rfl (by rfl) ?_; simp only [Act.put, List.getElem_toArray, List.getElem_cons_zero, List.getElem_cons_succ, List.setIfInBounds_toArray, List.set_cons_zero, List.set_cons_succ]) | (refine wpS_take _ ?_ rfl (by rfl) ?_ ?_; rotate_left; (focus (intro w' hS'; (try dsimp only at hS'); (repeat (have hS1 := hS'.1; replace hS' := hS'.2)); go_simp; (try with_reducible rfl); done)); simp only [Act.put, List.getElem_toArray, List.getElem_cons_zero, List.getElem_cons_succ, List.setIfInBounds_toArray, List.set_cons_zero, List.set_cons_succ]))
            (first | (refine wpS_pass _ rfl (by rfl) ?_; simp only [Act.put, List.getElem_toArray, List.getElem_cons_zero, List.getElem_cons_succ, List.setIfInBounds_toArray, List.set_cons_zero, List.set_cons_succ]) | (refine wpS_take _ ?_ rfl (by rfl) ?_ ?_; rotate_left; (focus (intro w' hS'; (try dsimp only at hS'); (repeat (have hS1 := hS'.1; replace hS' := hS'.2)); go_simp; (try with_reducible rfl); done)); simp only [Act.put, List.getElem_toArray, List.getElem_cons_zero, List.getElem_cons_succ, List.setIfInBounds_toArray, List.set_cons_zero, List.set_cons_succ]))
            refine wpS_take _ (.string s.name) rfl (by rfl) (fun w' hS' => by have hq := HC0.out w' hS'.2; go_simp) ?_
            simp only [Act.put, List.getElem_toArray, List.getElem_cons_zero, List.getElem_cons_succ, List.setIfInBounds_toArray, List.set_cons_zero, List.set_cons_succ]
            cases c3 : nameLt pr.name s.name
            · have C3 := Lib.hid c3
              have hbl : Op.bytesLess pr.name.toList s.name.toList = false := c3
              clear c3
              (repeat (first | (refine wpS_pass _ rfl (by rfl) ?_; simp only [Act.put, List.getElem_toArray, List.getElem_cons_zero, List.getElem_cons_succ, List.setIfInBounds_toArray, List.set_cons_zero, List.set_cons_succ]) | (refine wpS_take _ ?_ rfl (by rfl) ?_ ?_; rotate_left; (focus (intro w' hS'; (try dsimp only at hS'); (repeat (have hS1 := hS'.1; replace hS' := hS'.2)); go_simp; (try with_reducible rfl); done)); simp only [Act.put, List.getElem_toArray, List.getElem_cons_zero, List.getElem_cons_succ, List.setIfInBounds_toArray, List.set_cons_zero, List.set_cons_succ])))
              refine wpS_done ?_
              clear hbl
              go_wp2_with fail
              go_ret
              exact ⟨ret_bool (by rw [E2.out, refsAll_bad k hlt (by rw [HGET.out, HPV.out, C3.out, Bool.and_false]), Bool.false_and]), HBW.out _ HBD.out⟩
            · have C3 := Lib.hid c3
              have hbl : Op.bytesLess pr.name.toList s.name.toList = true := c3
              clear c3
              (repeat (first | (refine wpS_pass _ rfl (by rfl) ?_; simp only [Act.put, List.getElem_toArray, List.getElem_cons_zero, List.getElem_cons_succ, List.setIfInBounds_toArray, List.set_cons_zero, List.set_cons_succ]) | (refine wpS_take _ ?_ rfl (by rfl) ?_ ?_; rotate_left; (focus (intro w' hS'; (try dsimp only at hS'); (repeat (have hS1 := hS'.1; replace hS' := hS'.2)); go_simp; (try with_reducible rfl); done)); simp only [Act.put, List.getElem_toArray, List.getElem_cons_zero, List.getElem_cons_succ, List.setIfInBounds_toArray, List.set_cons_zero, List.set_cons_succ])))
              refine wpS_done ?_
              clear hbl
              go_wp2_with fail
              go_roundg (l.refs.length - (k + 1))
              case measure => omega
              case rel => exact ⟨k + 1, by omega, rfl, by first | rfl | exact congrArg (Value.int .i64) (by omega) | go_num, HBD, Lib.hid (fun j hj => by
                rcases Nat.lt_or_ge j k with h | h
                · exact HOK.out j h
                · obtain rfl : j = k := by omega
                  rw [HGET.out, C1.out, HQ.out, HPV.out, C3.out]; rfl)⟩
        · (repeat (first | (refine wpS_pass _ rfl (by rfl) ?_; simp only [Act.put, List.getElem_toArray, List.getElem_cons_zero, List.getElem_cons_succ, List.setIfInBounds_toArray, List.set_cons_zero, List.set_cons_succ]) | (refine wpS_take _ ?_ rfl (by rfl) ?_ ?_; rotate_left; (focus (intro w' hS'; (try dsimp only at hS'); (repeat (have hS1 := hS'.1; replace hS' := hS'.2)); go_simp; (try with_reducible rfl); done)); simp only [Act.put, List.getElem_toArray, List.getElem_cons_zero, List.getElem_cons_succ, List.setIfInBounds_toArray, List.set_cons_zero, List.set_cons_succ])))
          refine wpS_done ?_
          go_wp2_with fail
          go_ret
          exact ⟨ret_bool (by rw [E2.out, refsAll_bad k hlt (by rw [HGET.out, HQ.out, Bool.not_true, Bool.and_false, Bool.false_and]), Bool.false_and]), HBW.out _ HBD.out⟩
    · obtain rfl : k = l.refs.length := by omega
      have HALL := Lib.hid (refsAll_all HOK.out)
      by_cases c1 : l.refs.length ≤ 100
      rotate_left
      · have i1 : ¬ (l.refs.length : Int) ≤ 100 := by omega
        have C1 := Lib.hid (decide_eq_false c1)
        go_wp2_with fail
        go_ret
        exact ⟨ret_bool (by rw [E2.out, C1.out]; simp), HBW.out _ HBR.out⟩
      have i1 : (l.refs.length : Int) ≤ 100 := by omega
      have C1 := Lib.hid (decide_eq_true c1)
      go_wp2_with fail
      go_ret
      exact ⟨ret_bool (by rw [E2.out]; simp), HBW.out _ HBR.out⟩

set_option maxRecDepth 100000 in
set_option maxHeartbeats 32000000 in
theorem rright_ok2b (l : Lt) (p : LtP) (w : World) (hin : LtIn w l p) (hok : (1 ≤ l.from_ ∧ l.from_ ≤ 65536 ∧ 1 ≤ l.to_ ∧ l.to_ ≤ 65536 ∧ l.from_ ≠ l.to_ ∧ 1 ≤ l.session ∧ l.session ≤ 1099511627776)) (e1 : ¬ l.kind = 1) (e2 : l.kind = 2) (hcfg : l.wants.length = 0) (hcfg2 : ¬ l.haves.length = 0) (hoff : -9223372036854775808 ≤ l.off ∧ l.off ≤ 9223372036854775807) : Calls Try.prog 10 #[l.val p] w fun e w' => e = .returned (.bool (rightL l)) ∧ Below w.heap.size w w' := by
  obtain ⟨W1, hW1⟩ : ∃ W, w.alloc (.cells (l.cells p).toArray 37) = W := ⟨_, rfl⟩
  obtain ⟨r1, b1, s1⟩ := new_row hW1
  obtain ⟨g, hg⟩ : ∃ g, w.heap.size = g := ⟨_, rfl⟩
  rw [hg] at r1
  have HGS : Hid (g < W1.heap.size) := Lib.hid (Array.getElem?_eq_some_iff.1 r1).1
  have HR1 := Lib.hid r1
  have HB1 : Hid (Below g w W1) := Lib.hid (hg ▸ b1)
  have HIN := Lib.hid (hin.below b1)
  have HLN := Lib.hid hin.len
  have HF : Hid (∀ W, Below W1.heap.size W1 W → W.heap[g]? = some (.cells (l.cells p).toArray 37 (0, 0))) := Lib.hid (fun W h => (h.block g HGS.out).trans HR1.out)
  have HBW : Hid (∀ W, Below W1.heap.size W1 W → Below g w W) := Lib.hid (fun W h => HB1.out.trans (h.mono (Nat.le_of_lt HGS.out)))
  obtain ⟨V, hV⟩ : ∃ V, rightL l = V := ⟨_, rfl⟩
  have HV : Hid (rrL l = V) := Lib.hid ((rrL_right l).trans hV)
  rw [hV]
  obtain ⟨x0, x1, x2, x3, x4, x5, x6, x7, x8, x9, xp⟩ := ltRow_of r1 hin.len
  have HX : Hid (W1.cell? ⟨g, 0, none⟩ = some (.int .i64 l.kind) ∧ W1.cell? ⟨g, 4, none⟩ = some (.slice p.rA l.refs.length p.rc) ∧ W1.cell? ⟨g, 5, none⟩ = some (.slice p.wA l.wants.length p.wc) ∧ W1.cell? ⟨g, 6, none⟩ = some (.slice p.hA l.haves.length p.hc) ∧ W1.cell? ⟨g, 7, none⟩ = some (.int .i64 l.off) ∧ W1.cell? ⟨g, 8, none⟩ = some (.int .i64 l.total) ∧ W1.cell? ⟨g, 41, none⟩ = some (.slice p.dA l.data.length p.dc) ∧ W1.rangeAt g 9 (b8s l.pack)) := Lib.hid ⟨x0, x4, x5, x6, x7, x8, x9, xp⟩
  unfold Lt.val
  rw [hg]
  clear r1 b1 s1 hin hV x0 x4 x5 x6 x7 x8 x9 xp
  have HRR : Hid (rrL l = kindR l) := Lib.hid (rrL_rest hok)
  obtain ⟨x0, x4, x5, x6, x7, x8, x9, xp⟩ := HX.out
  have HIX := Lib.hid (info_arr32 l.pack HLN.out)
  have heqi : ∀ w, (Op.equalIn 10000 24 (.agg (b8s l.pack).toArray) (.agg #[Value.int .u8 0, Value.int .u8 0, Value.int .u8 0, Value.int .u8 0, Value.int .u8 0, Value.int .u8 0, Value.int .u8 0, Value.int .u8 0, Value.int .u8 0, Value.int .u8 0, Value.int .u8 0, Value.int .u8 0, Value.int .u8 0, Value.int .u8 0, Value.int .u8 0, Value.int .u8 0, Value.int .u8 0, Value.int .u8 0, Value.int .u8 0, Value.int .u8 0, Value.int .u8 0, Value.int .u8 0, Value.int .u8 0, Value.int .u8 0, Value.int .u8 0, Value.int .u8 0, Value.int .u8 0, Value.int .u8 0, Value.int .u8 0, Value.int .u8 0, Value.int .u8 0, Value.int .u8 0])).run Try.prog w = .ok (decide (l.pack = zeros32)) w := fun w => by
    have := eqin_id 24 Try.underlying24 9998 l.pack zeros32 HLN.out rfl w
    rw [zeros32_cells] at this
    exact this
  have hgd : ∀ o x y w, (eqGuard o 24 x y (.agg (b8s l.pack).toArray) (.agg #[Value.int .u8 0, Value.int .u8 0, Value.int .u8 0, Value.int .u8 0, Value.int .u8 0, Value.int .u8 0, Value.int .u8 0, Value.int .u8 0, Value.int .u8 0, Value.int .u8 0, Value.int .u8 0, Value.int .u8 0, Value.int .u8 0, Value.int .u8 0, Value.int .u8 0, Value.int .u8 0, Value.int .u8 0, Value.int .u8 0, Value.int .u8 0, Value.int .u8 0, Value.int .u8 0, Value.int .u8 0, Value.int .u8 0, Value.int .u8 0, Value.int .u8 0, Value.int .u8 0, Value.int .u8 0, Value.int .u8 0, Value.int .u8 0, Value.int .u8 0, Value.int .u8 0, Value.int .u8 0])).run Try.prog w = .ok () w := fun o x y w => guard_arr o 24 x y _ _ w (by kernel_rfl)
  obtain ⟨t1, t2, t3, t4, t5, t6, t7⟩ := hok
  have HE1 := Lib.hid e1
  have HE2 := Lib.hid e2
  clear e1 e2
  have tb : (l.from_ == l.to_) = false := by simpa using t5
  have HN0 : Hid (want0 l = false) := Lib.hid (by unfold want0; simp [hcfg, hcfg2])
  obtain ⟨nw, hnw⟩ : ∃ n, l.wants.length = n := ⟨_, rfl⟩
  obtain ⟨nh, hnh⟩ : ∃ n, l.haves.length = n := ⟨_, rfl⟩
  have HNW := Lib.hid hnw
  have HNH := Lib.hid hnh
  rw [hnw] at x5
  rw [hnh] at x6
  rw [hnw] at hcfg
  rw [hnh] at hcfg2
  obtain rfl : nw = 0 := by omega
  have q1 : ((nh : Int) == 0) = false := by rw [beq_eq_false_iff_ne]; omega
  clear hnw hnh hcfg hcfg2
  go_enter Try.func10, Try.ntmps10
  go_upto_region 5 with fail
  clear t1 t2 t3 t4 t5 t6 t7 tb x1 x2 x3 q1
  go_cut [5] (fun a wx => a = .bool (part0 l) ∧ wx = W1)
  case first =>
    go_wp2_with ((with_reducible (refine wpList_load_cells 24 _ g 9 (b8s l.pack) xp Try.underlying24 rfl HIX.out ?_ rfl ?_ ?_)); (exact rfl); (exact rfl))
    all_goals
      go_meet
      case rel => exact ⟨congrArg Value.bool (by unfold part0; rw [← len0]; simp_all), rfl⟩
  case rest =>
  obtain ⟨rfl, hw⟩ := hcut
  have hw' := hw.symm
  subst hw'
  clear hw heqi
  obtain ⟨P0, hP0⟩ : ∃ b, part0 l = b := ⟨_, rfl⟩
  rw [hP0]
  have HP0 := Lib.hid hP0
  clear hP0
  have e1 := HE1.out
  have e2 := HE2.out
  have d1 : (l.kind == 1) = false := by simpa using e1
  have d2 : (l.kind == 2) = true := by rw [e2]; rfl
  have E2 : Hid (V = (refsAll l.refs && (decide (l.refs.length ≤ 100) && false && P0 && (l.off == 0)))) := Lib.hid (by rw [← HV.out, HRR.out, kindR_2 e2, HN0.out, HP0.out])
  have HB0 : Hid (Below W1.heap.size W1 W1) := Lib.hid (Below.refl _ _)
  have hl1 := HIN.out.rr.2.1
  have hl2 := HIN.out.rr.2.2
  clear e1 e2 hgd
  go_wp2_with fail
  clear d1 d2 hW1
  go_loopg [6] (l.refs.length * 1) (fun gk_ s wr => ∃ (k : Nat), k ≤ l.refs.length ∧ gk_ = l.refs.length - k ∧ s = .int .i64 (k : Int) ∧ Hid (Below W1.heap.size W1 wr) ∧ Hid (∀ j < k, refAt l.refs j = true))
  case atStart => exact ⟨0, by omega, by omega, rfl, HB0, Lib.hid (fun j hj => absurd hj (Nat.not_lt_zero _))⟩
  case round =>
    clear HB0 x0 x4 x5 x6 x7 x8 x9 xp
    obtain ⟨k, hk, rfl, rfl, HBR, HOK⟩ := hrel
    obtain ⟨_, _, _, _, x4, _, _, x7, _, _, _⟩ := ltRow_of (HF.out _ HBR.out) HLN.out
    by_cases hlt : k < l.refs.length
    · have hin2 := HIN.out.below HBR.out
      have HO := Lib.hid hin2.rok
      have hrd := hin2.rr.1
      have hpos : 0 < (rfc l.refs).length := by rw [rfc_length HO.out]; omega
      obtain ⟨b, off, hA, _⟩ := hrd.all hpos
      rw [hA] at hrd x4
      have RS := rd_ref hrd HO.out k hlt
      have hso := rOk_get HO.out k hlt
      have hget := refAt_get l.refs k hlt
      obtain ⟨s, hs⟩ : ∃ s, l.refs[k] = s := ⟨_, rfl⟩
      rw [hs] at RS hso hget
      have HGET := Lib.hid hget
      have HSO := Lib.hid hso
      have HIW := Lib.hid (info_arr32 s.id hso.1)
      have GL := Lib.hid (hrd.lt hpos)
      have HRD := Lib.hid hrd
      have HC0 : Hid (∀ w', Below wr.heap.size wr w' → w'.cell? ⟨b, off + k * 33, none⟩ = some (.string s.name)) := Lib.hid (fun w' hb => cell_below (ref_cell0 RS) GL.out hb)
      have HC1 := Lib.hid (ref_range1 RS)
      have i1 : (k : Int) < (l.refs.length : Int) := by omega
      have i2 : (l.refs.length : Int) ≤ (p.rc : Int) := by omega
      obtain ⟨q, hq⟩ : ∃ q, decide (s.id = zeros32) = q := ⟨_, rfl⟩
      have HQ := Lib.hid hq
      have heq : ∀ w, (binOp .eql 24 (.agg (b8s s.id).toArray) (.agg #[Value.int .u8 0, Value.int .u8 0, Value.int .u8 0, Value.int .u8 0, Value.int .u8 0, Value.int .u8 0, Value.int .u8 0, Value.int .u8 0, Value.int .u8 0, Value.int .u8 0, Value.int .u8 0, Value.int .u8 0, Value.int .u8 0, Value.int .u8 0, Value.int .u8 0, Value.int .u8 0, Value.int .u8 0, Value.int .u8 0, Value.int .u8 0, Value.int .u8 0, Value.int .u8 0, Value.int .u8 0, Value.int .u8 0, Value.int .u8 0, Value.int .u8 0, Value.int .u8 0, Value.int .u8 0, Value.int .u8 0, Value.int .u8 0, Value.int .u8 0, Value.int .u8 0, Value.int .u8 0])).run Try.prog w = .ok (.bool q) w := fun w => by
        have := eql_id 24 Try.underlying24 s.id zeros32 HSO.out.1 rfl w
        rw [zeros32_cells] at this
        rw [this, HQ.out]
      have hgd : ∀ b x y w, (eqGuard b 24 x y (.agg (b8s s.id).toArray) (.agg #[Value.int .u8 0, Value.int .u8 0, Value.int .u8 0, Value.int .u8 0, Value.int .u8 0, Value.int .u8 0, Value.int .u8 0, Value.int .u8 0, Value.int .u8 0, Value.int .u8 0, Value.int .u8 0, Value.int .u8 0, Value.int .u8 0, Value.int .u8 0, Value.int .u8 0, Value.int .u8 0, Value.int .u8 0, Value.int .u8 0, Value.int .u8 0, Value.int .u8 0, Value.int .u8 0, Value.int .u8 0, Value.int .u8 0, Value.int .u8 0, Value.int .u8 0, Value.int .u8 0, Value.int .u8 0, Value.int .u8 0, Value.int .u8 0, Value.int .u8 0, Value.int .u8 0, Value.int .u8 0])).run Try.prog w = .ok () w := fun b x y w => guard_arr b 24 x y _ _ w (by kernel_rfl)
      have HBD : Hid (Below W1.heap.size W1 wr.drew) := Lib.hid HBR.out.drew
      clear hq hs hget hso RS hrd hpos hin2 hA x7
      have X4 := Lib.hid x4
      go_wp2_with fail
      refine wp_region_sched (fun w' => w'.cell? ⟨g, 4, none⟩ = some (.slice (some ⟨b, off, none⟩) l.refs.length p.rc) ∧ Below wr.heap.size wr w') [(true, 0), (true, 1), (true, 2), (true, 3), (true, 4), (true, 5), (false, 6), (true, 7), (true, 8), (true, 9), (true, 10), (true, 11), (true, 12), (true, 13), (true, 14), (true, 15), (true, 16), (true, 17), (true, 18), (true, 19), (true, 20), (true, 21), (true, 22), (true, 23), (true, 24), (true, 25), (true, 26), (true, 27), (true, 28), (true, 29), (true, 30), (true, 31), (true, 32), (true, 33), (true, 34), (true, 35), (true, 36), (true, 37)] (by kernel_rfl) (by kernel_rfl) rfl (by kernel_rfl) ⟨X4.out, (Below.refl _ _).drew⟩ ?_
      (first | (refine wpS_pass _ rfl (by rfl) ?_; simp only [Act.put, List.getElem_toArray, List.getElem_cons_zero, List.getElem_cons_succ, List.setIfInBounds_toArray, List.set_cons_zero, List.set_cons_succ]) | (refine wpS_take _ ?_ rfl (by rfl) ?_ ?_; rotate_left; (focus (intro w' hS'; (try dsimp only at hS'); (repeat (have hS1 := hS'.1; replace hS' := hS'.2)); go_simp; (try with_reducible rfl); done)); simp only [Act.put, List.getElem_toArray, List.getElem_cons_zero, List.getElem_cons_succ, List.setIfInBounds_toArray, List.set_cons_zero, List.set_cons_succ]))
      (first | (refine wpS_pass _ rfl (by rfl) ?_; simp only [Act.put, List.getElem_toArray, List.getElem_cons_zero, List.getElem_cons_succ, List.setIfInBounds_toArray, List.set_cons_zero, List.set_cons_succ]) | (refine wpS_take _ ?_ rfl (by rfl) ?_ ?_; rotate_left; (focus (intro w' hS'; (try dsimp only at hS'); (repeat (have hS1 := hS'.1; replace hS' := hS'.2)); go_simp; (try with_reducible rfl); done)); simp only [Act.put, List.getElem_toArray, List.getElem_cons_zero, List.getElem_cons_succ, List.setIfInBounds_toArray, List.set_cons_zero, List.set_cons_succ]))
      (first | (refine wpS_pass _ rfl (by rfl) ?_; simp only [Act.put, List.getElem_toArray, List.getElem_cons_zero, List.getElem_cons_succ, List.setIfInBounds_toArray, List.set_cons_zero, List.set_cons_succ]) | (refine wpS_take _ ?_ rfl (by rfl) ?_ ?_; rotate_left; (focus (intro w' hS'; (try dsimp only at hS'); (repeat (have hS1 := hS'.1; replace hS' := hS'.2)); go_simp; (try with_reducible rfl); done)); simp only [Act.put, List.getElem_toArray, List.getElem_cons_zero, List.getElem_cons_succ, List.setIfInBounds_toArray, List.set_cons_zero, List.set_cons_succ]))
      (first | (refine wpS_pass _ rfl (by rfl) ?_; simp only [Act.put, List.getElem_toArray, List.getElem_cons_zero, List.getElem_cons_succ, List.setIfInBounds_toArray, List.set_cons_zero, List.set_cons_succ]) | (refine wpS_take _ ?_ rfl (by rfl) ?_ ?_; rotate_left; (focus (intro w' hS'; (try dsimp only at hS'); (repeat (have hS1 := hS'.1; replace hS' := hS'.2)); go_simp; (try with_reducible rfl); done)); simp only [Act.put, List.getElem_toArray, List.getElem_cons_zero, List.getElem_cons_succ, List.setIfInBounds_toArray, List.set_cons_zero, List.set_cons_succ]))
      (first | (refine wpS_pass _ rfl (by rfl) ?_; simp only [Act.put, List.getElem_toArray, List.getElem_cons_zero, List.getElem_cons_succ, List.setIfInBounds_toArray, List.set_cons_zero, List.set_cons_succ]) | (refine wpS_take _ ?_ rfl (by rfl) ?_ ?_; rotate_left; (focus (intro w' hS'; (try dsimp only at hS'); (repeat (have hS1 := hS'.1; replace hS' := hS'.2)); go_simp; (try with_reducible rfl); done)); simp only [Act.put, List.getElem_toArray, List.getElem_cons_zero, List.getElem_cons_succ, List.setIfInBounds_toArray, List.set_cons_zero, List.set_cons_succ]))
      refine wpS_take _ (.string s.name) rfl (by rfl) (fun w' hS' => by have hq := HC0.out w' hS'.2; go_simp) ?_
      simp only [Act.put, List.getElem_toArray, List.getElem_cons_zero, List.getElem_cons_succ, List.setIfInBounds_toArray, List.set_cons_zero, List.set_cons_succ]
      refine wpS_do _ rfl (by rfl) (fun K hK => ?_)
      go_simp
      refine (rname_any s.name HSO.out.2 _).mono ?_
      rintro e w3 ⟨rfl, rfl⟩
      refine hK.out _ _ ⟨X4.out, (Below.refl _ _).drew⟩ (fun hS => ?_)
      clear hK hS x4
      cases c1 : nameS s.name
      · have C1 := Lib.hid c1
        clear c1
        (repeat (first | (refine wpS_pass _ rfl (by rfl) ?_; simp only [Act.put, List.getElem_toArray, List.getElem_cons_zero, List.getElem_cons_succ, List.setIfInBounds_toArray, List.set_cons_zero, List.set_cons_succ]) | (refine wpS_take _ ?_ rfl (by rfl) ?_ ?_; rotate_left; (focus (intro w' hS'; (try dsimp only at hS'); (repeat (have hS1 := hS'.1; replace hS' := hS'.2)); go_simp; (try with_reducible rfl); done)); simp only [Act.put, List.getElem_toArray, List.getElem_cons_zero, List.getElem_cons_succ, List.setIfInBounds_toArray, List.set_cons_zero, List.set_cons_succ])))
        refine wpS_done ?_
        go_wp2_with fail
        go_ret
        exact ⟨ret_bool (by rw [E2.out, refsAll_bad k hlt (by rw [HGET.out, C1.out, Bool.false_and, Bool.false_and]), Bool.false_and]), HBW.out _ HBD.out⟩
      · have C1 := Lib.hid c1
        clear c1
        (first | (refine wpS_pass _ rfl (by rfl) ?_; simp only [Act.put, List.getElem_toArray, List.getElem_cons_zero, List.getElem_cons_succ, List.setIfInBounds_toArray, List.set_cons_zero, List.set_cons_succ]) | (refine wpS_take _ ?_ rfl (by rfl) ?_ ?_; rotate_left; (focus (intro w' hS'; (try dsimp only at hS'); (repeat (have hS1 := hS'.1; replace hS' := hS'.2)); go_simp; (try with_reducible rfl); done)); simp only [Act.put, List.getElem_toArray, List.getElem_cons_zero, List.getElem_cons_succ, List.setIfInBounds_toArray, List.set_cons_zero, List.set_cons_succ]))
        (first | (refine wpS_pass _ rfl (by rfl) ?_; simp only [Act.put, List.getElem_toArray, List.getElem_cons_zero, List.getElem_cons_succ, List.setIfInBounds_toArray, List.set_cons_zero, List.set_cons_succ]) | (refine wpS_take _ ?_ rfl (by rfl) ?_ ?_; rotate_left; (focus (intro w' hS'; (try dsimp only at hS'); (repeat (have hS1 := hS'.1; replace hS' := hS'.2)); go_simp; (try with_reducible rfl); done)); simp only [Act.put, List.getElem_toArray, List.getElem_cons_zero, List.getElem_cons_succ, List.setIfInBounds_toArray, List.set_cons_zero, List.set_cons_succ]))
        (first | (refine wpS_pass _ rfl (by rfl) ?_; simp only [Act.put, List.getElem_toArray, List.getElem_cons_zero, List.getElem_cons_succ, List.setIfInBounds_toArray, List.set_cons_zero, List.set_cons_succ]) | (refine wpS_take _ ?_ rfl (by rfl) ?_ ?_; rotate_left; (focus (intro w' hS'; (try dsimp only at hS'); (repeat (have hS1 := hS'.1; replace hS' := hS'.2)); go_simp; (try with_reducible rfl); done)); simp only [Act.put, List.getElem_toArray, List.getElem_cons_zero, List.getElem_cons_succ, List.setIfInBounds_toArray, List.set_cons_zero, List.set_cons_succ]))
        (first | (refine wpS_pass _ rfl (by rfl) ?_; simp only [Act.put, List.getElem_toArray, List.getElem_cons_zero, List.getElem_cons_succ, List.setIfInBounds_toArray, List.set_cons_zero, List.set_cons_succ]) | (refine wpS_take _ ?_ rfl (by rfl) ?_ ?_; rotate_left; (focus (intro w' hS'; (try dsimp only at hS'); (repeat (have hS1 := hS'.1; replace hS' := hS'.2)); go_simp; (try with_reducible rfl); done)); simp only [Act.put, List.getElem_toArray, List.getElem_cons_zero, List.getElem_cons_succ, List.setIfInBounds_toArray, List.set_cons_zero, List.set_cons_succ]))
        (first | (refine wpS_pass _ rfl (by rfl) ?_; simp only [Act.put, List.getElem_toArray, List.getElem_cons_zero, List.getElem_cons_succ, List.setIfInBounds_toArray, List.set_cons_zero, List.set_cons_succ]) | (refine wpS_take _ ?_ rfl (by rfl) ?_ ?_; rotate_left; (focus (intro w' hS'; (try dsimp only at hS'); (repeat (have hS1 := hS'.1; replace hS' := hS'.2)); go_simp; (try with_reducible rfl); done)); simp only [Act.put, List.getElem_toArray, List.getElem_cons_zero, List.getElem_cons_succ, List.setIfInBounds_toArray, List.set_cons_zero, List.set_cons_succ]))
        (first | (refine wpS_pass _ rfl (by rfl) ?_; simp only [Act.put, List.getElem_toArray, List.getElem_cons_zero, List.getElem_cons_succ, List.setIfInBounds_toArray, List.set_cons_zero, List.set_cons_succ]) | (refine wpS_take _ ?_ rfl (by rfl) ?_ ?_; rotate_left; (focus (intro w' hS'; (try dsimp only at hS'); (repeat (have hS1 := hS'.1; replace hS' := hS'.2)); go_simp; (try with_reducible rfl); done)); simp only [Act.put, List.getElem_toArray, List.getElem_cons_zero, List.getElem_cons_succ, List.setIfInBounds_toArray, List.set_cons_zero, List.set_cons_succ]))
        (first | (refine wpS_pass _ rfl (by rfl) ?_; simp only [Act.put, List.getElem_toArray, List.getElem_cons_zero, List.getElem_cons_succ, List.setIfInBounds_toArray, List.set_cons_zero, List.set_cons_succ]) | (refine wpS_take _ ?_ rfl (by rfl) ?_ ?_; rotate_left; (focus (intro w' hS'; (try dsimp only at hS'); (repeat (have hS1 := hS'.1; replace hS' := hS'.2)); go_simp; (try with_reducible rfl); done)); simp only [Act.put, List.getElem_toArray, List.getElem_cons_zero, List.getElem_cons_succ, List.setIfInBounds_toArray, List.set_cons_zero, List.set_cons_succ]))
        refine wpS_load _ rfl (by rfl) _ _ rfl b (off + k * 33 + 1) rfl (b8s s.id) _ (fun w' hS' => range_below HC1.out GL.out hS'.2) Try.underlying24 rfl HIW.out ?_
        simp only [Act.put, List.getElem_toArray, List.getElem_cons_zero, List.getElem_cons_succ, List.setIfInBounds_toArray, List.set_cons_zero, List.set_cons_succ]
        (first | (refine wpS_pass _ rfl (by rfl) ?_; simp only [Act.put, List.getElem_toArray, List.getElem_cons_zero, List.getElem_cons_succ, List.setIfInBounds_toArray, List.set_cons_zero, List.set_cons_succ]) | (refine wpS_take _ ?_ rfl (by rfl) ?_ ?_; rotate_left; (focus (intro w' hS'; (try dsimp only at hS'); (repeat (have hS1 := hS'.1; replace hS' := hS'.2)); go_simp; (try with_reducible rfl); done)); simp only [Act.put, List.getElem_toArray, List.getElem_cons_zero, List.getElem_cons_succ, List.setIfInBounds_toArray, List.set_cons_zero, List.set_cons_succ]))
        refine wpS_take _ _ rfl (by rfl) (fun w' hS' => exec_bin _ _ _ _ _ rfl _ _ _ rfl rfl (hgd _ _ _ w') (heq w')) ?_
        simp only [Act.put, List.getElem_toArray, List.getElem_cons_zero, List.getElem_cons_succ, List.setIfInBounds_toArray, List.set_cons_zero, List.set_cons_succ]
        clear heq hgd
        cases q
        · by_cases hk0 : k = 0
          · have d3 : decide ((0 : Int) < (k : Int)) = false := decide_eq_false (by omega)
            (repeat (first | (refine wpS_pass _ rfl (by rfl) ?_; simp only [Act.put, List.getElem_toArray, List.getElem_cons_zero, List.getElem_cons_succ, List.setIfInBounds_toArray, List.set_cons_zero, List.set_cons_succ]) | (refine wpS_take _ ?_ rfl (by rfl) ?_ ?_; rotate_left; (focus (intro w' hS'; (try dsimp only at hS'); (repeat (have hS1 := hS'.1; replace hS' := hS'.2)); go_simp; (try with_reducible rfl); done)); simp only [Act.put, List.getElem_toArray, List.getElem_cons_zero, List.getElem_cons_succ, List.setIfInBounds_toArray, List.set_cons_zero, List.set_cons_succ])))
            refine wpS_done ?_
            go_wp2_with fail
            go_roundg (l.refs.length - (k + 1))
            case measure => omega
            case rel => exact ⟨k + 1, by omega, rfl, by first | rfl | exact congrArg (Value.int .i64) (by omega) | go_num, HBD, Lib.hid (fun j hj => by
              rcases Nat.lt_or_ge j k with h | h
              · exact HOK.out j h
              · obtain rfl : j = k := by omega
                rw [HGET.out, C1.out, HQ.out, hk0]; rfl)⟩
          · have d3 : decide ((0 : Int) < (k : Int)) = true := decide_eq_true (by omega)
            have d3n : 0 < k := by omega
            have d3m : decide (0 < k) = true := decide_eq_true d3n
            obtain ⟨j, hj⟩ : ∃ j, k = j + 1 := ⟨k - 1, by omega⟩
            have hjl : j < l.refs.length := by omega
            obtain ⟨pr, hp⟩ : ∃ pr, l.refs[j] = pr := ⟨_, rfl⟩
            have RP := rd_ref HRD.out HO.out j hjl
            rw [hp] at RP
            have HPC : Hid (∀ w', Below wr.heap.size wr w' → w'.cell? ⟨b, off + j * 33, none⟩ = some (.string pr.name)) := Lib.hid (fun w' hb => cell_below (ref_cell0 RP) GL.out hb)
            have HPV : Hid (prevLess l.refs s k = nameLt pr.name s.name) := Lib.hid (by rw [hj, prevLess_succ _ _ _ hjl, hp])
            have hsub := fun w => bin_sub (P := Try.prog) (t := 3) (k : Int) 1 (j : Int) w (by omega) (by omega) (by omega)
            have l1 : (j : Int) < (l.refs.length : Int) := by omega
            clear hp RP hj
            (first | (refine wpS_pass _ rfl (by rfl) ?_; simp only [Act.put, List.getElem_toArray, List.getElem_cons_zero, List.getElem_cons_succ, List.setIfInBounds_toArray, List.set_cons_zero, List.set_cons_succ]) | (refine wpS_take _ ?_ rfl (by rfl) ?_ ?_; rotate_left; (focus (intro w' hS'; (try dsimp only at hS'); (repeat (have hS1 := hS'.1; replace hS' := hS'.2)); go_simp; (try with_reducible rfl); done)); simp only [Act.put, List.getElem_toArray, List.getElem_cons_zero, List.getElem_cons_succ, List.setIfInBounds_toArray, List.set_cons_zero, List.set_cons_succ]))
            (first | (refine wpS_pass _ rfl (by rfl) ?_; simp only [Act.put, List.getElem_toArray, List.getElem_cons_zero, List.getElem_cons_succ, List.setIfInBounds_toArray, List.set_cons_zero, List.set_cons_succ]) | (refine wpS_take _ ?_ rfl (by rfl) ?_ ?_; rotate_left; (focus (intro w' hS'; (try dsimp only at hS'); (repeat (have hS1 := hS'.1; replace hS' := hS'.2)); go_simp; (try with_reducible rfl); done)); simp only [Act.put, List.getElem_toArray, List.getElem_cons_zero, List.getElem_cons_succ, List.setIfInBounds_toArray, List.set_cons_zero, List.set_cons_succ]))
            (first | (refine wpS_pass _ rfl (by rfl) ?_; simp only [Act.put, List.getElem_toArray, List.getElem_cons_zero, List.getElem_cons_succ, List.setIfInBounds_toArray, List.set_cons_zero, List.set_cons_succ]) | (refine wpS_take _ ?_ rfl (by rfl) ?_ ?_; rotate_left; (focus (intro w' hS'; (try dsimp only at hS'); (repeat (have hS1 := hS'.1; replace hS' := hS'.2)); go_simp; (try with_reducible rfl); done)); simp only [Act.put, List.getElem_toArray, List.getElem_cons_zero, List.getElem_cons_succ, List.setIfInBounds_toArray, List.set_cons_zero, List.set_cons_succ]))
            (first | (refine wpS_pass _ rfl (by rfl) ?_; simp only [Act.put, List.getElem_toArray, List.getElem_cons_zero, List.getElem_cons_succ, List.setIfInBounds_toArray, List.set_cons_zero, List.set_cons_succ]) | (refine wpS_take _ ?_ rfl (by rfl) ?_ ?_; rotate_left; (focus (intro w' hS'; (try dsimp only at hS'); (repeat (have hS1 := hS'.1; replace hS' := hS'.2)); go_simp; (try with_reducible rfl); done)); simp only [Act.put, List.getElem_toArray, List.getElem_cons_zero, List.getElem_cons_succ, List.setIfInBounds_toArray, List.set_cons_zero, List.set_cons_succ]))
            (first | (refine wpS_pass _ rfl (by rfl) ?_; simp only [Act.put, List.getElem_toArray, List.getElem_cons_zero, List.getElem_cons_succ, List.setIfInBounds_toArray, List.set_cons_zero, List.set_cons_succ]) | (refine wpS_take _ ?_ rfl (by rfl) ?_ ?_; rotate_left; (focus (intro w' hS'; (try dsimp only at hS'); (repeat (have hS1 := hS'.1; replace hS' := hS'.2)); go_simp; (try with_reducible rfl); done)); simp only [Act.put, List.getElem_toArray, List.getElem_cons_zero, List.getElem_cons_succ, List.setIfInBounds_toArray, List.set_cons_zero, List.set_cons_succ]))
            (first | (refine wpS_pass _ rfl (by rfl) ?_; simp only [Act.put, List.getElem_toArray, List.getElem_cons_zero, List.getElem_cons_succ, List.setIfInBounds_toArray, List.set_cons_zero, List.set_cons_succ]) | (refine wpS_take _ ?_ rfl (by rfl) ?_ ?_; rotate_left; (focus (intro w' hS'; (try dsimp only at hS'); (repeat (have hS1 := hS'.1; replace hS' := hS'.2)); go_simp; (try with_reducible rfl); done)); simp only [Act.put, List.getElem_toArray, List.getElem_cons_zero, List.getElem_cons_succ, List.setIfInBounds_toArray, List.set_cons_zero, List.set_cons_succ]))
            (first | (refine wpS_pass _ rfl (by rfl) ?_; simp only [Act.put, List.getElem_toArray, List.getElem_cons_zero, List.getElem_cons_succ, List.setIfInBounds_toArray, List.set_cons_zero, List.set_cons_succ]) | (refine wpS_take _ ?_ rfl (by rfl) ?_ ?_; rotate_left; (focus (intro w' hS'; (try dsimp only at hS'); (repeat (have hS1 := hS'.1; replace hS' := hS'.2)); go_simp; (try with_reducible rfl); done)); simp only [Act.put, List.getElem_toArray, List.getElem_cons_zero, List.getElem_cons_succ, List.setIfInBounds_toArray, List.set_cons_zero, List.set_cons_succ]))
            (first | (refine wpS_pass _ rfl (by rfl) ?_; simp only [Act.put, List.getElem_toArray, List.getElem_cons_zero, List.getElem_cons_succ, List.setIfInBounds_toArray, List.set_cons_zero, List.set_cons_succ]) | (refine wpS_take _ ?_ rfl (by rfl) ?_ ?_; rotate_left; (focus (intro w' hS'; (try dsimp only at hS'); (repeat (have hS1 := hS'.1; replace hS' := hS'.2)); go_simp; (try with_reducible rfl); done)); simp only [Act.put, List.getElem_toArray, List.getElem_cons_zero, List.getElem_cons_succ, List.setIfInBounds_toArray, List.set_cons_zero, List.set_cons_succ]))
            refine wpS_take _ _ rfl (by rfl) (fun w' hS' => exec_bin _ _ _ _ _ rfl _ _ _ rfl rfl rfl (hsub w')) ?_
            simp only [Act.put, List.getElem_toArray, List.getElem_cons_zero, List.getElem_cons_succ, List.setIfInBounds_toArray, List.set_cons_zero, List.set_cons_succ]
            clear hsub
            (first | (refine wpS_pass _ rfl (by rfl) ?_; simp only [Act.put, List.getElem_toArray, List.getElem_cons_zero, List.getElem_cons_succ, List.setIfInBounds_toArray, List.set_cons_zero, List.set_cons_succ]) | (refine wpS_take _ ?_ rfl (by rfl) ?_ ?_; rotate_left; (focus (intro w' hS'; (try dsimp only at hS'); (repeat (have hS1 := hS'.1; replace hS' := hS'.2)); go_simp; (try with_reducible rfl); done)); simp only [Act.put, List.getElem_toArray, List.getElem_cons_zero, List.getElem_cons_succ, List.setIfInBounds_toArray, List.set_cons_zero, List.set_cons_succ]))
            (first | (refine wpS_pass _ rfl (by rfl) ?_; simp only [Act.put, List.getElem_toArray, List.getElem_cons_zero, List.getElem_cons_succ, List.setIfInBounds_toArray, List.set_cons_zero, List.set_cons_succ]) | (refine wpS_take _ ?_ rfl (by rfl) ?_ ?_; rotate_left; (focus (intro w' hS'; (try dsimp only at hS'); (repeat (have hS1 := hS'.1; replace hS' := hS'.2)); go_simp; (try with_reducible rfl); done)); simp only [Act.put, List.getElem_toArray, List.getElem_cons_zero, List.getElem_cons_succ, List.setIfInBounds_toArray, List.set_cons_zero, List.set_cons_succ]))
            refine wpS_take _ (.string pr.name) rfl (by rfl) (fun w' hS' => by have hq := HPC.out w' hS'.2; go_simp) ?_
            simp only [Act.put, List.getElem_toArray, List.getElem_cons_zero, List.getElem_cons_succ, List.setIfInBounds_toArray, List.set_cons_zero, List.set_cons_succ]
            (first | (refine wpS_pass _ rfl (by rfl) ?_; simp only [Act.put, List.getElem_toArray, List.getElem_cons_zero, List.getElem_cons_succ, List.setIfInBounds_toArray, List.set_cons_zero, List.set_cons_succ]) | (refine wpS_take _ ?_ rfl (by rfl) ?_ ?_; rotate_left; (focus (intro w' hS'; (try dsimp only at hS'); (repeat (have hS1 := hS'.1; replace hS' := hS'.2)); go_simp; (try with_reducible rfl); done)); simp only [Act.put, List.getElem_toArray, List.getElem_cons_zero, List.getElem_cons_succ, List.setIfInBounds_toArray, List.set_cons_zero, List.set_cons_succ]))
            (first | (refine wpS_pass _ rfl (by rfl) ?_; simp only [Act.put, List.getElem_toArray, List.getElem_cons_zero, List.getElem_cons_succ, List.setIfInBounds_toArray, List.set_cons_zero, List.set_cons_succ]) | (refine wpS_take _ ?_ rfl (by rfl) ?_ ?_; rotate_left; (focus (intro w' hS'; (try dsimp only at hS'); (repeat (have hS1 := hS'.1; replace hS' := hS'.2)); go_simp; (try with_reducible rfl); done)); simp only [Act.put, List.getElem_toArray, List.getElem_cons_zero, List.getElem_cons_succ, List.setIfInBounds_toArray, List.set_cons_zero, List.set_cons_succ]))
            (first | (refine wpS_pass _ rfl (by rfl) ?_; simp only [Act.put, List.getElem_toArray, List.getElem_cons_zero, List.getElem_cons_succ, List.setIfInBounds_toArray, List.set_cons_zero, List.set_cons_succ]) | (refine wpS_take _ ?_ rfl (by rfl) ?_ ?_; rotate_left; (focus (intro w' hS'; (try dsimp only at hS'); (repeat (have hS1 := hS'.1; replace hS' := hS'.2)); go_simp; (try with_reducible rfl); done)); simp only [Act.put, List.getElem_toArray, List.getElem_cons_zero, List.getElem_cons_succ, List.setIfInBounds_toArray, List.set_cons_zero, List.set_cons_succ]))
            (first | (refine wpS_pass _ rfl (by rfl) ?_; simp only [Act.put, List.getElem_toArray, List.getElem_cons_zero, List.getElem_cons_succ, List.setIfInBounds_toArray, List.set_cons_zero, List.set_cons_succ]) | (refine wpS_take _ ?_ rfl (by rfl) ?_ ?_; rotate_left; (focus (intro w' hS'; (try dsimp only at hS'); (repeat (have hS1 := hS'.1; replace hS' := hS'.2)); go_simp; (try with_reducible rfl); done)); simp only [Act.put, List.getElem_toArray, List.getElem_cons_zero, List.getElem_cons_succ, List.setIfInBounds_toArray, List.set_cons_zero, List.set_cons_succ]))
            (first | (refine wpS_pass _ rfl (by rfl) ?_; simp only [Act.put, List.getElem_toArray, List.getElem_cons_zero, List.getElem_cons_succ, List.setIfInBounds_toArray, List.set_cons_zero, List.set_cons_succ]) | (refine wpS_take _ ?_ rfl (by rfl) ?_ ?_; rotate_left; (focus (intro w' hS'; (try dsimp only at hS'); (repeat (have hS1 := hS'.1; replace hS' := hS'.2)); go_simp; (try with_reducible rfl); done)); simp only [Act.put, List.getElem_toArray, List.getElem_cons_zero, List.getElem_cons_succ, List.setIfInBounds_toArray, List.set_cons_zero, List.set_cons_succ]))
            refine wpS_take _ (.string s.name) rfl (by rfl) (fun w' hS' => by have hq := HC0.out w' hS'.2; go_simp) ?_
            simp only [Act.put, List.getElem_toArray, List.getElem_cons_zero, List.getElem_cons_succ, List.setIfInBounds_toArray, List.set_cons_zero, List.set_cons_succ]
            cases c3 : nameLt pr.name s.name
            · have C3 := Lib.hid c3
              have hbl : Op.bytesLess pr.name.toList s.name.toList = false := c3
              clear c3
              (repeat (first | (refine wpS_pass _ rfl (by rfl) ?_; simp only [Act.put, List.getElem_toArray, List.getElem_cons_zero, List.getElem_cons_succ, List.setIfInBounds_toArray, List.set_cons_zero, List.set_cons_succ]) | (refine wpS_take _ ?_ rfl (by rfl) ?_ ?_; rotate_left; (focus (intro w' hS'; (try dsimp only at hS'); (repeat (have hS1 := hS'.1; replace hS' := hS'.2)); go_simp; (try with_reducible rfl); done)); simp only [Act.put, List.getElem_toArray, List.getElem_cons_zero, List.getElem_cons_succ, List.setIfInBounds_toArray, List.set_cons_zero, List.set_cons_succ])))
              refine wpS_done ?_
              clear hbl
              go_wp2_with fail
              go_ret
              exact ⟨ret_bool (by rw [E2.out, refsAll_bad k hlt (by rw [HGET.out, HPV.out, C3.out, Bool.and_false]), Bool.false_and]), HBW.out _ HBD.out⟩
            · have C3 := Lib.hid c3
              have hbl : Op.bytesLess pr.name.toList s.name.toList = true := c3
              clear c3
              (repeat (first | (refine wpS_pass _ rfl (by rfl) ?_; simp only [Act.put, List.getElem_toArray, List.getElem_cons_zero, List.getElem_cons_succ, List.setIfInBounds_toArray, List.set_cons_zero, List.set_cons_succ]) | (refine wpS_take _ ?_ rfl (by rfl) ?_ ?_; rotate_left; (focus (intro w' hS'; (try dsimp only at hS'); (repeat (have hS1 := hS'.1; replace hS' := hS'.2)); go_simp; (try with_reducible rfl); done)); simp only [Act.put, List.getElem_toArray, List.getElem_cons_zero, List.getElem_cons_succ, List.setIfInBounds_toArray, List.set_cons_zero, List.set_cons_succ])))
              refine wpS_done ?_
              clear hbl
              go_wp2_with fail
              go_roundg (l.refs.length - (k + 1))
              case measure => omega
              case rel => exact ⟨k + 1, by omega, rfl, by first | rfl | exact congrArg (Value.int .i64) (by omega) | go_num, HBD, Lib.hid (fun j hj => by
                rcases Nat.lt_or_ge j k with h | h
                · exact HOK.out j h
                · obtain rfl : j = k := by omega
                  rw [HGET.out, C1.out, HQ.out, HPV.out, C3.out]; rfl)⟩
        · (repeat (first | (refine wpS_pass _ rfl (by rfl) ?_; simp only [Act.put, List.getElem_toArray, List.getElem_cons_zero, List.getElem_cons_succ, List.setIfInBounds_toArray, List.set_cons_zero, List.set_cons_succ]) | (refine wpS_take _ ?_ rfl (by rfl) ?_ ?_; rotate_left; (focus (intro w' hS'; (try dsimp only at hS'); (repeat (have hS1 := hS'.1; replace hS' := hS'.2)); go_simp; (try with_reducible rfl); done)); simp only [Act.put, List.getElem_toArray, List.getElem_cons_zero, List.getElem_cons_succ, List.setIfInBounds_toArray, List.set_cons_zero, List.set_cons_succ])))
          refine wpS_done ?_
          go_wp2_with fail
          go_ret
          exact ⟨ret_bool (by rw [E2.out, refsAll_bad k hlt (by rw [HGET.out, HQ.out, Bool.not_true, Bool.and_false, Bool.false_and]), Bool.false_and]), HBW.out _ HBD.out⟩
    · obtain rfl : k = l.refs.length := by omega
      have HALL := Lib.hid (refsAll_all HOK.out)
      by_cases c1 : l.refs.length ≤ 100
      rotate_left
      · have i1 : ¬ (l.refs.length : Int) ≤ 100 := by omega
        have C1 := Lib.hid (decide_eq_false c1)
        go_wp2_with fail
        go_ret
        exact ⟨ret_bool (by rw [E2.out, C1.out]; simp), HBW.out _ HBR.out⟩
      have i1 : (l.refs.length : Int) ≤ 100 := by omega
      have C1 := Lib.hid (decide_eq_true c1)
      go_wp2_with fail
      go_ret
      exact ⟨ret_bool (by rw [E2.out]; simp), HBW.out _ HBR.out⟩

set_option maxRecDepth 100000 in
set_option maxHeartbeats 32000000 in
theorem rright_ok2c (l : Lt) (p : LtP) (w : World) (hin : LtIn w l p) (hok : (1 ≤ l.from_ ∧ l.from_ ≤ 65536 ∧ 1 ≤ l.to_ ∧ l.to_ ≤ 65536 ∧ l.from_ ≠ l.to_ ∧ 1 ≤ l.session ∧ l.session ≤ 1099511627776)) (e1 : ¬ l.kind = 1) (e2 : l.kind = 2) (hcfg : l.wants.length = 0) (hcfg2 : l.haves.length = 0) (hoff : -9223372036854775808 ≤ l.off ∧ l.off ≤ 9223372036854775807) : Calls Try.prog 10 #[l.val p] w fun e w' => e = .returned (.bool (rightL l)) ∧ Below w.heap.size w w' := by
  obtain ⟨W1, hW1⟩ : ∃ W, w.alloc (.cells (l.cells p).toArray 37) = W := ⟨_, rfl⟩
  obtain ⟨r1, b1, s1⟩ := new_row hW1
  obtain ⟨g, hg⟩ : ∃ g, w.heap.size = g := ⟨_, rfl⟩
  rw [hg] at r1
  have HGS : Hid (g < W1.heap.size) := Lib.hid (Array.getElem?_eq_some_iff.1 r1).1
  have HR1 := Lib.hid r1
  have HB1 : Hid (Below g w W1) := Lib.hid (hg ▸ b1)
  have HIN := Lib.hid (hin.below b1)
  have HLN := Lib.hid hin.len
  have HF : Hid (∀ W, Below W1.heap.size W1 W → W.heap[g]? = some (.cells (l.cells p).toArray 37 (0, 0))) := Lib.hid (fun W h => (h.block g HGS.out).trans HR1.out)
  have HBW : Hid (∀ W, Below W1.heap.size W1 W → Below g w W) := Lib.hid (fun W h => HB1.out.trans (h.mono (Nat.le_of_lt HGS.out)))
  obtain ⟨V, hV⟩ : ∃ V, rightL l = V := ⟨_, rfl⟩
  have HV : Hid (rrL l = V) := Lib.hid ((rrL_right l).trans hV)
  rw [hV]
  obtain ⟨x0, x1, x2, x3, x4, x5, x6, x7, x8, x9, xp⟩ := ltRow_of r1 hin.len
  have HX : Hid (W1.cell? ⟨g, 0, none⟩ = some (.int .i64 l.kind) ∧ W1.cell? ⟨g, 4, none⟩ = some (.slice p.rA l.refs.length p.rc) ∧ W1.cell? ⟨g, 5, none⟩ = some (.slice p.wA l.wants.length p.wc) ∧ W1.cell? ⟨g, 6, none⟩ = some (.slice p.hA l.haves.length p.hc) ∧ W1.cell? ⟨g, 7, none⟩ = some (.int .i64 l.off) ∧ W1.cell? ⟨g, 8, none⟩ = some (.int .i64 l.total) ∧ W1.cell? ⟨g, 41, none⟩ = some (.slice p.dA l.data.length p.dc) ∧ W1.rangeAt g 9 (b8s l.pack)) := Lib.hid ⟨x0, x4, x5, x6, x7, x8, x9, xp⟩
  unfold Lt.val
  rw [hg]
  clear r1 b1 s1 hin hV x0 x4 x5 x6 x7 x8 x9 xp
  have HRR : Hid (rrL l = kindR l) := Lib.hid (rrL_rest hok)
  obtain ⟨x0, x4, x5, x6, x7, x8, x9, xp⟩ := HX.out
  have HIX := Lib.hid (info_arr32 l.pack HLN.out)
  have heqi : ∀ w, (Op.equalIn 10000 24 (.agg (b8s l.pack).toArray) (.agg #[Value.int .u8 0, Value.int .u8 0, Value.int .u8 0, Value.int .u8 0, Value.int .u8 0, Value.int .u8 0, Value.int .u8 0, Value.int .u8 0, Value.int .u8 0, Value.int .u8 0, Value.int .u8 0, Value.int .u8 0, Value.int .u8 0, Value.int .u8 0, Value.int .u8 0, Value.int .u8 0, Value.int .u8 0, Value.int .u8 0, Value.int .u8 0, Value.int .u8 0, Value.int .u8 0, Value.int .u8 0, Value.int .u8 0, Value.int .u8 0, Value.int .u8 0, Value.int .u8 0, Value.int .u8 0, Value.int .u8 0, Value.int .u8 0, Value.int .u8 0, Value.int .u8 0, Value.int .u8 0])).run Try.prog w = .ok (decide (l.pack = zeros32)) w := fun w => by
    have := eqin_id 24 Try.underlying24 9998 l.pack zeros32 HLN.out rfl w
    rw [zeros32_cells] at this
    exact this
  have hgd : ∀ o x y w, (eqGuard o 24 x y (.agg (b8s l.pack).toArray) (.agg #[Value.int .u8 0, Value.int .u8 0, Value.int .u8 0, Value.int .u8 0, Value.int .u8 0, Value.int .u8 0, Value.int .u8 0, Value.int .u8 0, Value.int .u8 0, Value.int .u8 0, Value.int .u8 0, Value.int .u8 0, Value.int .u8 0, Value.int .u8 0, Value.int .u8 0, Value.int .u8 0, Value.int .u8 0, Value.int .u8 0, Value.int .u8 0, Value.int .u8 0, Value.int .u8 0, Value.int .u8 0, Value.int .u8 0, Value.int .u8 0, Value.int .u8 0, Value.int .u8 0, Value.int .u8 0, Value.int .u8 0, Value.int .u8 0, Value.int .u8 0, Value.int .u8 0, Value.int .u8 0])).run Try.prog w = .ok () w := fun o x y w => guard_arr o 24 x y _ _ w (by kernel_rfl)
  obtain ⟨t1, t2, t3, t4, t5, t6, t7⟩ := hok
  have HE1 := Lib.hid e1
  have HE2 := Lib.hid e2
  clear e1 e2
  have tb : (l.from_ == l.to_) = false := by simpa using t5
  have HN0 : Hid (want0 l = true) := Lib.hid (by unfold want0; simp [hcfg, hcfg2])
  obtain ⟨nw, hnw⟩ : ∃ n, l.wants.length = n := ⟨_, rfl⟩
  obtain ⟨nh, hnh⟩ : ∃ n, l.haves.length = n := ⟨_, rfl⟩
  have HNW := Lib.hid hnw
  have HNH := Lib.hid hnh
  rw [hnw] at x5
  rw [hnh] at x6
  rw [hnw] at hcfg
  rw [hnh] at hcfg2
  obtain rfl : nw = 0 := by omega
  obtain rfl : nh = 0 := by omega
  clear hnw hnh hcfg hcfg2
  go_enter Try.func10, Try.ntmps10
  go_upto_region 5 with fail
  clear t1 t2 t3 t4 t5 t6 t7 tb x1 x2 x3 
  go_cut [5] (fun a wx => a = .bool (part0 l) ∧ wx = W1)
  case first =>
    go_wp2_with ((with_reducible (refine wpList_load_cells 24 _ g 9 (b8s l.pack) xp Try.underlying24 rfl HIX.out ?_ rfl ?_ ?_)); (exact rfl); (exact rfl))
    all_goals
      go_meet
      case rel => exact ⟨congrArg Value.bool (by unfold part0; rw [← len0]; simp_all), rfl⟩
  case rest =>
  obtain ⟨rfl, hw⟩ := hcut
  have hw' := hw.symm
  subst hw'
  clear hw heqi
  obtain ⟨P0, hP0⟩ : ∃ b, part0 l = b := ⟨_, rfl⟩
  rw [hP0]
  have HP0 := Lib.hid hP0
  clear hP0
  have e1 := HE1.out
  have e2 := HE2.out
  have d1 : (l.kind == 1) = false := by simpa using e1
  have d2 : (l.kind == 2) = true := by rw [e2]; rfl
  have E2 : Hid (V = (refsAll l.refs && (decide (l.refs.length ≤ 100) && true && P0 && (l.off == 0)))) := Lib.hid (by rw [← HV.out, HRR.out, kindR_2 e2, HN0.out, HP0.out])
  have HB0 : Hid (Below W1.heap.size W1 W1) := Lib.hid (Below.refl _ _)
  have hl1 := HIN.out.rr.2.1
  have hl2 := HIN.out.rr.2.2
  clear e1 e2 hgd
  go_wp2_with fail
  clear d1 d2 hW1
  go_loopg [6] (l.refs.length * 1) (fun gk_ s wr => ∃ (k : Nat), k ≤ l.refs.length ∧ gk_ = l.refs.length - k ∧ s = .int .i64 (k : Int) ∧ Hid (Below W1.heap.size W1 wr) ∧ Hid (∀ j < k, refAt l.refs j = true))
  case atStart => exact ⟨0, by omega, by omega, rfl, HB0, Lib.hid (fun j hj => absurd hj (Nat.not_lt_zero _))⟩
  case round =>
    clear HB0 x0 x4 x5 x6 x7 x8 x9 xp
    obtain ⟨k, hk, rfl, rfl, HBR, HOK⟩ := hrel
    obtain ⟨_, _, _, _, x4, _, _, x7, _, _, _⟩ := ltRow_of (HF.out _ HBR.out) HLN.out
    by_cases hlt : k < l.refs.length
    · have hin2 := HIN.out.below HBR.out
      have HO := Lib.hid hin2.rok
      have hrd := hin2.rr.1
      have hpos : 0 < (rfc l.refs).length := by rw [rfc_length HO.out]; omega
      obtain ⟨b, off, hA, _⟩ := hrd.all hpos
      rw [hA] at hrd x4
      have RS := rd_ref hrd HO.out k hlt
      have hso := rOk_get HO.out k hlt
      have hget := refAt_get l.refs k hlt
      obtain ⟨s, hs⟩ : ∃ s, l.refs[k] = s := ⟨_, rfl⟩
      rw [hs] at RS hso hget
      have HGET := Lib.hid hget
      have HSO := Lib.hid hso
      have HIW := Lib.hid (info_arr32 s.id hso.1)
      have GL := Lib.hid (hrd.lt hpos)
      have HRD := Lib.hid hrd
      have HC0 : Hid (∀ w', Below wr.heap.size wr w' → w'.cell? ⟨b, off + k * 33, none⟩ = some (.string s.name)) := Lib.hid (fun w' hb => cell_below (ref_cell0 RS) GL.out hb)
      have HC1 := Lib.hid (ref_range1 RS)
      have i1 : (k : Int) < (l.refs.length : Int) := by omega
      have i2 : (l.refs.length : Int) ≤ (p.rc : Int) := by omega
      obtain ⟨q, hq⟩ : ∃ q, decide (s.id = zeros32) = q := ⟨_, rfl⟩
      have HQ := Lib.hid hq
      have heq : ∀ w, (binOp .eql 24 (.agg (b8s s.id).toArray) (.agg #[Value.int .u8 0, Value.int .u8 0, Value.int .u8 0, Value.int .u8 0, Value.int .u8 0, Value.int .u8 0, Value.int .u8 0, Value.int .u8 0, Value.int .u8 0, Value.int .u8 0, Value.int .u8 0, Value.int .u8 0, Value.int .u8 0, Value.int .u8 0, Value.int .u8 0, Value.int .u8 0, Value.int .u8 0, Value.int .u8 0, Value.int .u8 0, Value.int .u8 0, Value.int .u8 0, Value.int .u8 0, Value.int .u8 0, Value.int .u8 0, Value.int .u8 0, Value.int .u8 0, Value.int .u8 0, Value.int .u8 0, Value.int .u8 0, Value.int .u8 0, Value.int .u8 0, Value.int .u8 0])).run Try.prog w = .ok (.bool q) w := fun w => by
        have := eql_id 24 Try.underlying24 s.id zeros32 HSO.out.1 rfl w
        rw [zeros32_cells] at this
        rw [this, HQ.out]
      have hgd : ∀ b x y w, (eqGuard b 24 x y (.agg (b8s s.id).toArray) (.agg #[Value.int .u8 0, Value.int .u8 0, Value.int .u8 0, Value.int .u8 0, Value.int .u8 0, Value.int .u8 0, Value.int .u8 0, Value.int .u8 0, Value.int .u8 0, Value.int .u8 0, Value.int .u8 0, Value.int .u8 0, Value.int .u8 0, Value.int .u8 0, Value.int .u8 0, Value.int .u8 0, Value.int .u8 0, Value.int .u8 0, Value.int .u8 0, Value.int .u8 0, Value.int .u8 0, Value.int .u8 0, Value.int .u8 0, Value.int .u8 0, Value.int .u8 0, Value.int .u8 0, Value.int .u8 0, Value.int .u8 0, Value.int .u8 0, Value.int .u8 0, Value.int .u8 0, Value.int .u8 0])).run Try.prog w = .ok () w := fun b x y w => guard_arr b 24 x y _ _ w (by kernel_rfl)
      have HBD : Hid (Below W1.heap.size W1 wr.drew) := Lib.hid HBR.out.drew
      clear hq hs hget hso RS hrd hpos hin2 hA x7
      have X4 := Lib.hid x4
      go_wp2_with fail
      refine wp_region_sched (fun w' => w'.cell? ⟨g, 4, none⟩ = some (.slice (some ⟨b, off, none⟩) l.refs.length p.rc) ∧ Below wr.heap.size wr w') [(true, 0), (true, 1), (true, 2), (true, 3), (true, 4), (true, 5), (false, 6), (true, 7), (true, 8), (true, 9), (true, 10), (true, 11), (true, 12), (true, 13), (true, 14), (true, 15), (true, 16), (true, 17), (true, 18), (true, 19), (true, 20), (true, 21), (true, 22), (true, 23), (true, 24), (true, 25), (true, 26), (true, 27), (true, 28), (true, 29), (true, 30), (true, 31), (true, 32), (true, 33), (true, 34), (true, 35), (true, 36), (true, 37)] (by kernel_rfl) (by kernel_rfl) rfl (by kernel_rfl) ⟨X4.out, (Below.refl _ _).drew⟩ ?_
      (first | (refine wpS_pass _ rfl (by rfl) ?_; simp only [Act.put, List.getElem_toArray, List.getElem_cons_zero, List.getElem_cons_succ, List.setIfInBounds_toArray, List.set_cons_zero, List.set_cons_succ]) | (refine wpS_take _ ?_ rfl (by rfl) ?_ ?_; rotate_left; (focus (intro w' hS'; (try dsimp only at hS'); (repeat (have hS1 := hS'.1; replace hS' := hS'.2)); go_simp; (try with_reducible rfl); done)); simp only [Act.put, List.getElem_toArray, List.getElem_cons_zero, List.getElem_cons_succ, List.setIfInBounds_toArray, List.set_cons_zero, List.set_cons_succ]))
      (first | (refine wpS_pass _ rfl (by rfl) ?_; simp only [Act.put, List.getElem_toArray, List.getElem_cons_zero, List.getElem_cons_succ, List.setIfInBounds_toArray, List.set_cons_zero, List.set_cons_succ]) | (refine wpS_take _ ?_ rfl (by rfl) ?_ ?_; rotate_left; (focus (intro w' hS'; (try dsimp only at hS'); (repeat (have hS1 := hS'.1; replace hS' := hS'.2)); go_simp; (try with_reducible rfl); done)); simp only [Act.put, List.getElem_toArray, List.getElem_cons_zero, List.getElem_cons_succ, List.setIfInBounds_toArray, List.set_cons_zero, List.set_cons_succ]))
      (first | (refine wpS_pass _ rfl (by rfl) ?_; simp only [Act.put, List.getElem_toArray, List.getElem_cons_zero, List.getElem_cons_succ, List.setIfInBounds_toArray, List.set_cons_zero, List.set_cons_succ]) | (refine wpS_take _ ?_ rfl (by rfl) ?_ ?_; rotate_left; (focus (intro w' hS'; (try dsimp only at hS'); (repeat (have hS1 := hS'.1; replace hS' := hS'.2)); go_simp; (try with_reducible rfl); done)); simp only [Act.put, List.getElem_toArray, List.getElem_cons_zero, List.getElem_cons_succ, List.setIfInBounds_toArray, List.set_cons_zero, List.set_cons_succ]))
      (first | (refine wpS_pass _ rfl (by rfl) ?_; simp only [Act.put, List.getElem_toArray, List.getElem_cons_zero, List.getElem_cons_succ, List.setIfInBounds_toArray, List.set_cons_zero, List.set_cons_succ]) | (refine wpS_take _ ?_ rfl (by rfl) ?_ ?_; rotate_left; (focus (intro w' hS'; (try dsimp only at hS'); (repeat (have hS1 := hS'.1; replace hS' := hS'.2)); go_simp; (try with_reducible rfl); done)); simp only [Act.put, List.getElem_toArray, List.getElem_cons_zero, List.getElem_cons_succ, List.setIfInBounds_toArray, List.set_cons_zero, List.set_cons_succ]))
      (first | (refine wpS_pass _ rfl (by rfl) ?_; simp only [Act.put, List.getElem_toArray, List.getElem_cons_zero, List.getElem_cons_succ, List.setIfInBounds_toArray, List.set_cons_zero, List.set_cons_succ]) | (refine wpS_take _ ?_ rfl (by rfl) ?_ ?_; rotate_left; (focus (intro w' hS'; (try dsimp only at hS'); (repeat (have hS1 := hS'.1; replace hS' := hS'.2)); go_simp; (try with_reducible rfl); done)); simp only [Act.put, List.getElem_toArray, List.getElem_cons_zero, List.getElem_cons_succ, List.setIfInBounds_toArray, List.set_cons_zero, List.set_cons_succ]))
      refine wpS_take _ (.string s.name) rfl (by rfl) (fun w' hS' => by have hq := HC0.out w' hS'.2; go_simp) ?_
      simp only [Act.put, List.getElem_toArray, List.getElem_cons_zero, List.getElem_cons_succ, List.setIfInBounds_toArray, List.set_cons_zero, List.set_cons_succ]
      refine wpS_do _ rfl (by rfl) (fun K hK => ?_)
      go_simp
      refine (rname_any s.name HSO.out.2 _).mono ?_
      rintro e w3 ⟨rfl, rfl⟩
      refine hK.out _ _ ⟨X4.out, (Below.refl _ _).drew⟩ (fun hS => ?_)
      clear hK hS x4
      cases c1 : nameS s.name
      · have C1 := Lib.hid c1
        clear c1
        (repeat (first | (refine wpS_pass _ rfl (by rfl) ?_; simp only [Act.put, List.getElem_toArray, List.getElem_cons_zero, List.getElem_cons_succ, List.setIfInBounds_toArray, List.set_cons_zero, List.set_cons_succ]) | (refine wpS_take _ ?_ rfl (by rfl) ?_ ?_; rotate_left; (focus (intro w' hS'; (try dsimp only at hS'); (repeat (have hS1 := hS'.1; replace hS' := hS'.2)); go_simp; (try with_reducible rfl); done)); simp only [Act.put, List.getElem_toArray, List.getElem_cons_zero, List.getElem_cons_succ, List.setIfInBounds_toArray, List.set_cons_zero, List.set_cons_succ])))
        refine wpS_done ?_
        go_wp2_with fail
        go_ret
        exact ⟨ret_bool (by rw [E2.out, refsAll_bad k hlt (by rw [HGET.out, C1.out, Bool.false_and, Bool.false_and]), Bool.false_and]), HBW.out _ HBD.out⟩
      · have C1 := Lib.hid c1
        clear c1
        (first | (refine wpS_pass _ rfl (by rfl) ?_; simp only [Act.put, List.getElem_toArray, List.getElem_cons_zero, List.getElem_cons_succ, List.setIfInBounds_toArray, List.set_cons_zero, List.set_cons_succ]) | (refine wpS_take _ ?_ rfl (by rfl) ?_ ?_; rotate_left; (focus (intro w' hS'; (try dsimp only at hS'); (repeat (have hS1 := hS'.1; replace hS' := hS'.2)); go_simp; (try with_reducible rfl); done)); simp only [Act.put, List.getElem_toArray, List.getElem_cons_zero, List.getElem_cons_succ, List.setIfInBounds_toArray, List.set_cons_zero, List.set_cons_succ]))
        (first | (refine wpS_pass _ rfl (by rfl) ?_; simp only [Act.put, List.getElem_toArray, List.getElem_cons_zero, List.getElem_cons_succ, List.setIfInBounds_toArray, List.set_cons_zero, List.set_cons_succ]) | (refine wpS_take _ ?_ rfl (by rfl) ?_ ?_; rotate_left; (focus (intro w' hS'; (try dsimp only at hS'); (repeat (have hS1 := hS'.1; replace hS' := hS'.2)); go_simp; (try with_reducible rfl); done)); simp only [Act.put, List.getElem_toArray, List.getElem_cons_zero, List.getElem_cons_succ, List.setIfInBounds_toArray, List.set_cons_zero, List.set_cons_succ]))
        (first | (refine wpS_pass _ rfl (by rfl) ?_; simp only [Act.put, List.getElem_toArray, List.getElem_cons_zero, List.getElem_cons_succ, List.setIfInBounds_toArray, List.set_cons_zero, List.set_cons_succ]) | (refine wpS_take _ ?_ rfl (by rfl) ?_ ?_; rotate_left; (focus (intro w' hS'; (try dsimp only at hS'); (repeat (have hS1 := hS'.1; replace hS' := hS'.2)); go_simp; (try with_reducible rfl); done)); simp only [Act.put, List.getElem_toArray, List.getElem_cons_zero, List.getElem_cons_succ, List.setIfInBounds_toArray, List.set_cons_zero, List.set_cons_succ]))
        (first | (refine wpS_pass _ rfl (by rfl) ?_; simp only [Act.put, List.getElem_toArray, List.getElem_cons_zero, List.getElem_cons_succ, List.setIfInBounds_toArray, List.set_cons_zero, List.set_cons_succ]) | (refine wpS_take _ ?_ rfl (by rfl) ?_ ?_; rotate_left; (focus (intro w' hS'; (try dsimp only at hS'); (repeat (have hS1 := hS'.1; replace hS' := hS'.2)); go_simp; (try with_reducible rfl); done)); simp only [Act.put, List.getElem_toArray, List.getElem_cons_zero, List.getElem_cons_succ, List.setIfInBounds_toArray, List.set_cons_zero, List.set_cons_succ]))
        (first | (refine wpS_pass _ rfl (by rfl) ?_; simp only [Act.put, List.getElem_toArray, List.getElem_cons_zero, List.getElem_cons_succ, List.setIfInBounds_toArray, List.set_cons_zero, List.set_cons_succ]) | (refine wpS_take _ ?_ rfl (by rfl) ?_ ?_; rotate_left; (focus (intro w' hS'; (try dsimp only at hS'); (repeat (have hS1 := hS'.1; replace hS' := hS'.2)); go_simp; (try with_reducible rfl); done)); simp only [Act.put, List.getElem_toArray, List.getElem_cons_zero, List.getElem_cons_succ, List.setIfInBounds_toArray, List.set_cons_zero, List.set_cons_succ]))
        (first | (refine wpS_pass _ rfl (by rfl) ?_; simp only [Act.put, List.getElem_toArray, List.getElem_cons_zero, List.getElem_cons_succ, List.setIfInBounds_toArray, List.set_cons_zero, List.set_cons_succ]) | (refine wpS_take _ ?_ rfl (by rfl) ?_ ?_; rotate_left; (focus (intro w' hS'; (try dsimp only at hS'); (repeat (have hS1 := hS'.1; replace hS' := hS'.2)); go_simp; (try with_reducible rfl); done)); simp only [Act.put, List.getElem_toArray, List.getElem_cons_zero, List.getElem_cons_succ, List.setIfInBounds_toArray, List.set_cons_zero, List.set_cons_succ]))
        (first | (refine wpS_pass _ rfl (by rfl) ?_; simp only [Act.put, List.getElem_toArray, List.getElem_cons_zero, List.getElem_cons_succ, List.setIfInBounds_toArray, List.set_cons_zero, List.set_cons_succ]) | (refine wpS_take _ ?_ rfl (by rfl) ?_ ?_; rotate_left; (focus (intro w' hS'; (try dsimp only at hS'); (repeat (have hS1 := hS'.1; replace hS' := hS'.2)); go_simp; (try with_reducible rfl); done)); simp only [Act.put, List.getElem_toArray, List.getElem_cons_zero, List.getElem_cons_succ, List.setIfInBounds_toArray, List.set_cons_zero, List.set_cons_succ]))
        refine wpS_load _ rfl (by rfl) _ _ rfl b (off + k * 33 + 1) rfl (b8s s.id) _ (fun w' hS' => range_below HC1.out GL.out hS'.2) Try.underlying24 rfl HIW.out ?_
        simp only [Act.put, List.getElem_toArray, List.getElem_cons_zero, List.getElem_cons_succ, List.setIfInBounds_toArray, List.set_cons_zero, List.set_cons_succ]
        (first | (refine wpS_pass _ rfl (by rfl) ?_; simp only [Act.put, List.getElem_toArray, List.getElem_cons_zero, List.getElem_cons_succ, List.setIfInBounds_toArray, List.set_cons_zero, List.set_cons_succ]) | (refine wpS_take _ ?_ rfl (by rfl) ?_ ?_; rotate_left; (focus (intro w' hS'; (try dsimp only at hS'); (repeat (have hS1 := hS'.1; replace hS' := hS'.2)); go_simp; (try with_reducible rfl); done)); simp only [Act.put, List.getElem_toArray, List.getElem_cons_zero, List.getElem_cons_succ, List.setIfInBounds_toArray, List.set_cons_zero, List.set_cons_succ]))
        refine wpS_take _ _ rfl (by rfl) (fun w' hS' => exec_bin _ _ _ _ _ rfl _ _ _ rfl rfl (hgd _ _ _ w') (heq w')) ?_
        simp only [Act.put, List.getElem_toArray, List.getElem_cons_zero, List.getElem_cons_succ, List.setIfInBounds_toArray, List.set_cons_zero, List.set_cons_succ]
        clear heq hgd
        cases q
        · by_cases hk0 : k = 0
          · have d3 : decide ((0 : Int) < (k : Int)) = false := decide_eq_false (by omega)
            (repeat (first | (refine wpS_pass _ rfl (by rfl) ?_; simp only [Act.put, List.getElem_toArray, List.getElem_cons_zero, List.getElem_cons_succ, List.setIfInBounds_toArray, List.set_cons_zero, List.set_cons_succ]) | (refine wpS_take _ ?_ rfl (by rfl) ?_ ?_; rotate_left; (focus (intro w' hS'; (try dsimp only at hS'); (repeat (have hS1 := hS'.1; replace hS' := hS'.2)); go_simp; (try with_reducible rfl); done)); simp only [Act.put, List.getElem_toArray, List.getElem_cons_zero, List.getElem_cons_succ, List.setIfInBounds_toArray, List.set_cons_zero, List.set_cons_succ])))
            refine wpS_done ?_
            go_wp2_with fail
            go_roundg (l.refs.length - (k + 1))
            case measure => omega
            case rel => exact ⟨k + 1, by omega, rfl, by first | rfl | exact congrArg (Value.int .i64) (by omega) | go_num, HBD, Lib.hid (fun j hj => by
              rcases Nat.lt_or_ge j k with h | h
              · exact HOK.out j h
              · obtain rfl : j = k := by omega
                rw [HGET.out, C1.out, HQ.out, hk0]; rfl)⟩
          · have d3 : decide ((0 : Int) < (k : Int)) = true := decide_eq_true (by omega)
            have d3n : 0 < k := by omega
            have d3m : decide (0 < k) = true := decide_eq_true d3n
            obtain ⟨j, hj⟩ : ∃ j, k = j + 1 := ⟨k - 1, by omega⟩
            have hjl : j < l.refs.length := by omega
            obtain ⟨pr, hp⟩ : ∃ pr, l.refs[j] = pr := ⟨_, rfl⟩
            have RP := rd_ref HRD.out HO.out j hjl
            rw [hp] at RP
            have HPC : Hid (∀ w', Below wr.heap.size wr w' → w'.cell? ⟨b, off + j * 33, none⟩ = some (.string pr.name)) := Lib.hid (fun w' hb => cell_below (ref_cell0 RP) GL.out hb)
            have HPV : Hid (prevLess l.refs s k = nameLt pr.name s.name) := Lib.hid (by rw [hj, prevLess_succ _ _ _ hjl, hp])
            have hsub := fun w => bin_sub (P := Try.prog) (t := 3) (k : Int) 1 (j : Int) w (by omega) (by omega) (by omega)
            have l1 : (j : Int) < (l.refs.length : Int) := by omega
            clear hp RP hj
            (first | (refine wpS_pass _ rfl (by rfl) ?_; simp only [Act.put, List.getElem_toArray, List.getElem_cons_zero, List.getElem_cons_succ, List.setIfInBounds_toArray, List.set_cons_zero, List.set_cons_succ]) | (refine wpS_take _ ?_ rfl (by rfl) ?_ ?_; rotate_left; (focus (intro w' hS'; (try dsimp only at hS'); (repeat (have hS1 := hS'.1; replace hS' := hS'.2)); go_simp; (try with_reducible rfl); done)); simp only [Act.put, List.getElem_toArray, List.getElem_cons_zero, List.getElem_cons_succ, List.setIfInBounds_toArray, List.set_cons_zero, List.set_cons_succ]))
            (first | (refine wpS_pass _ rfl (by rfl) ?_; simp only [Act.put, List.getElem_toArray, List.getElem_cons_zero, List.getElem_cons_succ, List.setIfInBounds_toArray, List.set_cons_zero, List.set_cons_succ]) | (refine wpS_take _ ?_ rfl (by rfl) ?_ ?_; rotate_left; (focus (intro w' hS'; (try dsimp only at hS'); (repeat (have hS1 := hS'.1; replace hS' := hS'.2)); go_simp; (try with_reducible rfl); done)); simp only [Act.put, List.getElem_toArray, List.getElem_cons_zero, List.getElem_cons_succ, List.setIfInBounds_toArray, List.set_cons_zero, List.set_cons_succ]))
            (first | (refine wpS_pass _ rfl (by rfl) ?_; simp only [Act.put, List.getElem_toArray, List.getElem_cons_zero, List.getElem_cons_succ, List.setIfInBounds_toArray, List.set_cons_zero, List.set_cons_succ]) | (refine wpS_take _ ?_ rfl (by rfl) ?_ ?_; rotate_left; (focus (intro w' hS'; (try dsimp only at hS'); (repeat (have hS1 := hS'.1; replace hS' := hS'.2)); go_simp; (try with_reducible rfl); done)); simp only [Act.put, List.getElem_toArray, List.getElem_cons_zero, List.getElem_cons_succ, List.setIfInBounds_toArray, List.set_cons_zero, List.set_cons_succ]))
            (first | (refine wpS_pass _ rfl (by rfl) ?_; simp only [Act.put, List.getElem_toArray, List.getElem_cons_zero, List.getElem_cons_succ, List.setIfInBounds_toArray, List.set_cons_zero, List.set_cons_succ]) | (refine wpS_take _ ?_ rfl (by rfl) ?_ ?_; rotate_left; (focus (intro w' hS'; (try dsimp only at hS'); (repeat (have hS1 := hS'.1; replace hS' := hS'.2)); go_simp; (try with_reducible rfl); done)); simp only [Act.put, List.getElem_toArray, List.getElem_cons_zero, List.getElem_cons_succ, List.setIfInBounds_toArray, List.set_cons_zero, List.set_cons_succ]))
            (first | (refine wpS_pass _ rfl (by rfl) ?_; simp only [Act.put, List.getElem_toArray, List.getElem_cons_zero, List.getElem_cons_succ, List.setIfInBounds_toArray, List.set_cons_zero, List.set_cons_succ]) | (refine wpS_take _ ?_ rfl (by rfl) ?_ ?_; rotate_left; (focus (intro w' hS'; (try dsimp only at hS'); (repeat (have hS1 := hS'.1; replace hS' := hS'.2)); go_simp; (try with_reducible rfl); done)); simp only [Act.put, List.getElem_toArray, List.getElem_cons_zero, List.getElem_cons_succ, List.setIfInBounds_toArray, List.set_cons_zero, List.set_cons_succ]))
            (first | (refine wpS_pass _ rfl (by rfl) ?_; simp only [Act.put, List.getElem_toArray, List.getElem_cons_zero, List.getElem_cons_succ, List.setIfInBounds_toArray, List.set_cons_zero, List.set_cons_succ]) | (refine wpS_take _ ?_ rfl (by rfl) ?_ ?_; rotate_left; (focus (intro w' hS'; (try dsimp only at hS'); (repeat (have hS1 := hS'.1; replace hS' := hS'.2)); go_simp; (try with_reducible rfl); done)); simp only [Act.put, List.getElem_toArray, List.getElem_cons_zero, List.getElem_cons_succ, List.setIfInBounds_toArray, List.set_cons_zero, List.set_cons_succ]))
            (first | (refine wpS_pass _ rfl (by rfl) ?_; simp only [Act.put, List.getElem_toArray, List.getElem_cons_zero, List.getElem_cons_succ, List.setIfInBounds_toArray, List.set_cons_zero, List.set_cons_succ]) | (refine wpS_take _ ?_ rfl (by rfl) ?_ ?_; rotate_left; (focus (intro w' hS'; (try dsimp only at hS'); (repeat (have hS1 := hS'.1; replace hS' := hS'.2)); go_simp; (try with_reducible rfl); done)); simp only [Act.put, List.getElem_toArray, List.getElem_cons_zero, List.getElem_cons_succ, List.setIfInBounds_toArray, List.set_cons_zero, List.set_cons_succ]))
            (first | (refine wpS_pass _ rfl (by rfl) ?_; simp only [Act.put, List.getElem_toArray, List.getElem_cons_zero, List.getElem_cons_succ, List.setIfInBounds_toArray, List.set_cons_zero, List.set_cons_succ]) | (refine wpS_take _ ?_ rfl (by rfl) ?_ ?_; rotate_left; (focus (intro w' hS'; (try dsimp only at hS'); (repeat (have hS1 := hS'.1; replace hS' := hS'.2)); go_simp; (try with_reducible rfl); done)); simp only [Act.put, List.getElem_toArray, List.getElem_cons_zero, List.getElem_cons_succ, List.setIfInBounds_toArray, List.set_cons_zero, List.set_cons_succ]))
            refine wpS_take _ _ rfl (by rfl) (fun w' hS' => exec_bin _ _ _ _ _ rfl _ _ _ rfl rfl rfl (hsub w')) ?_
            simp only [Act.put, List.getElem_toArray, List.getElem_cons_zero, List.getElem_cons_succ, List.setIfInBounds_toArray, List.set_cons_zero, List.set_cons_succ]
            clear hsub
            (first | (refine wpS_pass _ rfl (by rfl) ?_; simp only [Act.put, List.getElem_toArray, List.getElem_cons_zero, List.getElem_cons_succ, List.setIfInBounds_toArray, List.set_cons_zero, List.set_cons_succ]) | (refine wpS_take _ ?_ rfl (by rfl) ?_ ?_; rotate_left; (focus (intro w' hS'; (try dsimp only at hS'); (repeat (have hS1 := hS'.1; replace hS' := hS'.2)); go_simp; (try with_reducible rfl); done)); simp only [Act.put, List.getElem_toArray, List.getElem_cons_zero, List.getElem_cons_succ, List.setIfInBounds_toArray, List.set_cons_zero, List.set_cons_succ]))
            (first | (refine wpS_pass _ rfl (by rfl) ?_; simp only [Act.put, List.getElem_toArray, List.getElem_cons_zero, List.getElem_cons_succ, List.setIfInBounds_toArray, List.set_cons_zero, List.set_cons_succ]) | (refine wpS_take _ ?_ rfl (by rfl) ?_ ?_; rotate_left; (focus (intro w' hS'; (try dsimp only at hS'); (repeat (have hS1 := hS'.1; replace hS' := hS'.2)); go_simp; (try with_reducible rfl); done)); simp only [Act.put, List.getElem_toArray, List.getElem_cons_zero, List.getElem_cons_succ, List.setIfInBounds_toArray, List.set_cons_zero, List.set_cons_succ]))
            refine wpS_take _ (.string pr.name) rfl (by rfl) (fun w' hS' => by have hq := HPC.out w' hS'.2; go_simp) ?_
            simp only [Act.put, List.getElem_toArray, List.getElem_cons_zero, List.getElem_cons_succ, List.setIfInBounds_toArray, List.set_cons_zero, List.set_cons_succ]
            (first | (refine wpS_pass _ rfl (by rfl) ?_; simp only [Act.put, List.getElem_toArray, List.getElem_cons_zero, List.getElem_cons_succ, List.setIfInBounds_toArray, List.set_cons_zero, List.set_cons_succ]) | (refine wpS_take _ ?_ rfl (by rfl) ?_ ?_; rotate_left; (focus (intro w' hS'; (try dsimp only at hS'); (repeat (have hS1 := hS'.1; replace hS' := hS'.2)); go_simp; (try with_reducible rfl); done)); simp only [Act.put, List.getElem_toArray, List.getElem_cons_zero, List.getElem_cons_succ, List.setIfInBounds_toArray, List.set_cons_zero, List.set_cons_succ]))
            (first | (refine wpS_pass _ rfl (by rfl) ?_; simp only [Act.put, List.getElem_toArray, List.getElem_cons_zero, List.getElem_cons_succ, List.setIfInBounds_toArray, List.set_cons_zero, List.set_cons_succ]) | (refine wpS_take _ ?_ rfl (by rfl) ?_ ?_; rotate_left; (focus (intro w' hS'; (try dsimp only at hS'); (repeat (have hS1 := hS'.1; replace hS' := hS'.2)); go_simp; (try with_reducible rfl); done)); simp only [Act.put, List.getElem_toArray, List.getElem_cons_zero, List.getElem_cons_succ, List.setIfInBounds_toArray, List.set_cons_zero, List.set_cons_succ]))
            (first | (refine wpS_pass _ rfl (by rfl) ?_; simp only [Act.put, List.getElem_toArray, List.getElem_cons_zero, List.getElem_cons_succ, List.setIfInBounds_toArray, List.set_cons_zero, List.set_cons_succ]) | (refine wpS_take _ ?_ rfl (by rfl) ?_ ?_; rotate_left; (focus (intro w' hS'; (try dsimp only at hS'); (repeat (have hS1 := hS'.1; replace hS' := hS'.2)); go_simp; (try with_reducible rfl); done)); simp only [Act.put, List.getElem_toArray, List.getElem_cons_zero, List.getElem_cons_succ, List.setIfInBounds_toArray, List.set_cons_zero, List.set_cons_succ]))
            (first | (refine wpS_pass _ rfl (by rfl) ?_; simp only [Act.put, List.getElem_toArray, List.getElem_cons_zero, List.getElem_cons_succ, List.setIfInBounds_toArray, List.set_cons_zero, List.set_cons_succ]) | (refine wpS_take _ ?_ rfl (by rfl) ?_ ?_; rotate_left; (focus (intro w' hS'; (try dsimp only at hS'); (repeat (have hS1 := hS'.1; replace hS' := hS'.2)); go_simp; (try with_reducible rfl); done)); simp only [Act.put, List.getElem_toArray, List.getElem_cons_zero, List.getElem_cons_succ, List.setIfInBounds_toArray, List.set_cons_zero, List.set_cons_succ]))
            (first | (refine wpS_pass _ rfl (by rfl) ?_; simp only [Act.put, List.getElem_toArray, List.getElem_cons_zero, List.getElem_cons_succ, List.setIfInBounds_toArray, List.set_cons_zero, List.set_cons_succ]) | (refine wpS_take _ ?_ rfl (by rfl) ?_ ?_; rotate_left; (focus (intro w' hS'; (try dsimp only at hS'); (repeat (have hS1 := hS'.1; replace hS' := hS'.2)); go_simp; (try with_reducible rfl); done)); simp only [Act.put, List.getElem_toArray, List.getElem_cons_zero, List.getElem_cons_succ, List.setIfInBounds_toArray, List.set_cons_zero, List.set_cons_succ]))
            refine wpS_take _ (.string s.name) rfl (by rfl) (fun w' hS' => by have hq := HC0.out w' hS'.2; go_simp) ?_
            simp only [Act.put, List.getElem_toArray, List.getElem_cons_zero, List.getElem_cons_succ, List.setIfInBounds_toArray, List.set_cons_zero, List.set_cons_succ]
            cases c3 : nameLt pr.name s.name
            · have C3 := Lib.hid c3
              have hbl : Op.bytesLess pr.name.toList s.name.toList = false := c3
              clear c3
              (repeat (first | (refine wpS_pass _ rfl (by rfl) ?_; simp only [Act.put, List.getElem_toArray, List.getElem_cons_zero, List.getElem_cons_succ, List.setIfInBounds_toArray, List.set_cons_zero, List.set_cons_succ]) | (refine wpS_take _ ?_ rfl (by rfl) ?_ ?_; rotate_left; (focus (intro w' hS'; (try dsimp only at hS'); (repeat (have hS1 := hS'.1; replace hS' := hS'.2)); go_simp; (try with_reducible rfl); done)); simp only [Act.put, List.getElem_toArray, List.getElem_cons_zero, List.getElem_cons_succ, List.setIfInBounds_toArray, List.set_cons_zero, List.set_cons_succ])))
              refine wpS_done ?_
              clear hbl
              go_wp2_with fail
              go_ret
              exact ⟨ret_bool (by rw [E2.out, refsAll_bad k hlt (by rw [HGET.out, HPV.out, C3.out, Bool.and_false]), Bool.false_and]), HBW.out _ HBD.out⟩
            · have C3 := Lib.hid c3
              have hbl : Op.bytesLess pr.name.toList s.name.toList = true := c3
              clear c3
              (repeat (first | (refine wpS_pass _ rfl (by rfl) ?_; simp only [Act.put, List.getElem_toArray, List.getElem_cons_zero, List.getElem_cons_succ, List.setIfInBounds_toArray, List.set_cons_zero, List.set_cons_succ]) | (refine wpS_take _ ?_ rfl (by rfl) ?_ ?_; rotate_left; (focus (intro w' hS'; (try dsimp only at hS'); (repeat (have hS1 := hS'.1; replace hS' := hS'.2)); go_simp; (try with_reducible rfl); done)); simp only [Act.put, List.getElem_toArray, List.getElem_cons_zero, List.getElem_cons_succ, List.setIfInBounds_toArray, List.set_cons_zero, List.set_cons_succ])))
              refine wpS_done ?_
              clear hbl
              go_wp2_with fail
              go_roundg (l.refs.length - (k + 1))
              case measure => omega
              case rel => exact ⟨k + 1, by omega, rfl, by first | rfl | exact congrArg (Value.int .i64) (by omega) | go_num, HBD, Lib.hid (fun j hj => by
                rcases Nat.lt_or_ge j k with h | h
                · exact HOK.out j h
                · obtain rfl : j = k := by omega
                  rw [HGET.out, C1.out, HQ.out, HPV.out, C3.out]; rfl)⟩
        · (repeat (first | (refine wpS_pass _ rfl (by rfl) ?_; simp only [Act.put, List.getElem_toArray, List.getElem_cons_zero, List.getElem_cons_succ, List.setIfInBounds_toArray, List.set_cons_zero, List.set_cons_succ]) | (refine wpS_take _ ?_ rfl (by rfl) ?_ ?_; rotate_left; (focus (intro w' hS'; (try dsimp only at hS'); (repeat (have hS1 := hS'.1; replace hS' := hS'.2)); go_simp; (try with_reducible rfl); done)); simp only [Act.put, List.getElem_toArray, List.getElem_cons_zero, List.getElem_cons_succ, List.setIfInBounds_toArray, List.set_cons_zero, List.set_cons_succ])))
          refine wpS_done ?_
          go_wp2_with fail
          go_ret
          exact ⟨ret_bool (by rw [E2.out, refsAll_bad k hlt (by rw [HGET.out, HQ.out, Bool.not_true, Bool.and_false, Bool.false_and]), Bool.false_and]), HBW.out _ HBD.out⟩
    · obtain rfl : k = l.refs.length := by omega
      have HALL := Lib.hid (refsAll_all HOK.out)
      by_cases c1 : l.refs.length ≤ 100
      rotate_left
      · have i1 : ¬ (l.refs.length : Int) ≤ 100 := by omega
        have C1 := Lib.hid (decide_eq_false c1)
        go_wp2_with fail
        go_ret
        exact ⟨ret_bool (by rw [E2.out, C1.out]; simp), HBW.out _ HBR.out⟩
      have i1 : (l.refs.length : Int) ≤ 100 := by omega
      have C1 := Lib.hid (decide_eq_true c1)
      cases P0
      · go_wp2_with fail
        go_ret
        exact ⟨ret_bool (by rw [E2.out]; simp), HBW.out _ HBR.out⟩
      cases d7 : (l.off == 0)
      all_goals
        have D7 := Lib.hid d7
        go_wp2_with fail
        go_ret
        exact ⟨ret_bool (by rw [E2.out, HALL.out, C1.out, D7.out]; rfl), HBW.out _ HBR.out⟩

end Go.Proofs.Ytfjfidhhmidflaa
