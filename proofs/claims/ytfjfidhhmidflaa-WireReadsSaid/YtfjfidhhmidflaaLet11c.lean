
/- The document's Right, kind 3 and none. (Printed by wip/genL11.py.) -/

import Derived.Test.YtfjfidhhmidflaaLet10

namespace Go.Proofs.Ytfjfidhhmidflaa

set_option linter.unusedVariables false

set_option linter.unusedSimpArgs false

open Go.RowKit

set_option maxRecDepth 100000 in
set_option maxHeartbeats 32000000 in
theorem rright_ok3a (l : Lt) (p : LtP) (w : World) (hin : LtIn w l p) (hok : (1 ≤ l.from_ ∧ l.from_ ≤ 65536 ∧ 1 ≤ l.to_ ∧ l.to_ ≤ 65536 ∧ l.from_ ≠ l.to_ ∧ 1 ≤ l.session ∧ l.session ≤ 1099511627776)) (e1 : ¬ l.kind = 1) (e2 : ¬ l.kind = 2) (e3 : l.kind = 3) (hcfg : ¬ l.wants.length = 0) (hoff : -9223372036854775808 ≤ l.off ∧ l.off ≤ 9223372036854775807) : Calls Try.prog 10 #[l.val p] w fun e w' => e = .returned (.bool (rightL l)) ∧ Below w.heap.size w w' := by
  obtain ⟨W1, hW1⟩ : ∃ W, w.alloc (.cells (l.cells p).toArray 37) = W := ⟨_, rfl⟩
  obtain ⟨r1, b1, s1⟩ := new_row hW1
  obtain ⟨g, hg⟩ : ∃ g, w.heap.size = g := ⟨_, rfl⟩
  rw [hg] at r1
  have HGS : Hid (g < W1.heap.size) := Lib.hid (Array.getElem?_eq_some_iff.1 r1).1
  have HR1 := Lib.hid r1
  have HB1 : Hid (Below g w W1) := Lib.hid (hg ▸ b1)
  have HIN := Lib.hid (hin.below b1)
  have HLN := Lib.hid hin.len
  have HF : Hid (∀ W, Below W1.heap.size W1 W → W.heap[g]? = some (.cells (l.cells p).toArray 37 (0, 0))) := Lib.hid (fun W h => (h.block g HGS.out).trans HR1.out)
  have HBW : Hid (∀ W, Below W1.heap.size W1 W → Below g w W) := Lib.hid (fun W h => HB1.out.trans (h.mono (Nat.le_of_lt HGS.out)))
  obtain ⟨V, hV⟩ : ∃ V, rightL l = V := ⟨_, rfl⟩
  have HV : Hid (rrL l = V) := Lib.hid ((rrL_right l).trans hV)
  rw [hV]
  obtain ⟨x0, x1, x2, x3, x4, x5, x6, x7, x8, x9, xp⟩ := ltRow_of r1 hin.len
  have HX : Hid (W1.cell? ⟨g, 0, none⟩ = some (.int .i64 l.kind) ∧ W1.cell? ⟨g, 4, none⟩ = some (.slice p.rA l.refs.length p.rc) ∧ W1.cell? ⟨g, 5, none⟩ = some (.slice p.wA l.wants.length p.wc) ∧ W1.cell? ⟨g, 6, none⟩ = some (.slice p.hA l.haves.length p.hc) ∧ W1.cell? ⟨g, 7, none⟩ = some (.int .i64 l.off) ∧ W1.cell? ⟨g, 8, none⟩ = some (.int .i64 l.total) ∧ W1.cell? ⟨g, 41, none⟩ = some (.slice p.dA l.data.length p.dc) ∧ W1.rangeAt g 9 (b8s l.pack)) := Lib.hid ⟨x0, x4, x5, x6, x7, x8, x9, xp⟩
  unfold Lt.val
  rw [hg]
  clear r1 b1 s1 hin hV x0 x4 x5 x6 x7 x8 x9 xp
  have HRR : Hid (rrL l = kindR l) := Lib.hid (rrL_rest hok)
  obtain ⟨x0, x4, x5, x6, x7, x8, x9, xp⟩ := HX.out
  have HIX := Lib.hid (info_arr32 l.pack HLN.out)
  have heqi : ∀ w, (Op.equalIn 10000 24 (.agg (b8s l.pack).toArray) (.agg #[Value.int .u8 0, Value.int .u8 0, Value.int .u8 0, Value.int .u8 0, Value.int .u8 0, Value.int .u8 0, Value.int .u8 0, Value.int .u8 0, Value.int .u8 0, Value.int .u8 0, Value.int .u8 0, Value.int .u8 0, Value.int .u8 0, Value.int .u8 0, Value.int .u8 0, Value.int .u8 0, Value.int .u8 0, Value.int .u8 0, Value.int .u8 0, Value.int .u8 0, Value.int .u8 0, Value.int .u8 0, Value.int .u8 0, Value.int .u8 0, Value.int .u8 0, Value.int .u8 0, Value.int .u8 0, Value.int .u8 0, Value.int .u8 0, Value.int .u8 0, Value.int .u8 0, Value.int .u8 0])).run Try.prog w = .ok (decide (l.pack = zeros32)) w := fun w => by
    have := eqin_id 24 Try.underlying24 9998 l.pack zeros32 HLN.out rfl w
    rw [zeros32_cells] at this
    exact this
  have hgd : ∀ o x y w, (eqGuard o 24 x y (.agg (b8s l.pack).toArray) (.agg #[Value.int .u8 0, Value.int .u8 0, Value.int .u8 0, Value.int .u8 0, Value.int .u8 0, Value.int .u8 0, Value.int .u8 0, Value.int .u8 0, Value.int .u8 0, Value.int .u8 0, Value.int .u8 0, Value.int .u8 0, Value.int .u8 0, Value.int .u8 0, Value.int .u8 0, Value.int .u8 0, Value.int .u8 0, Value.int .u8 0, Value.int .u8 0, Value.int .u8 0, Value.int .u8 0, Value.int .u8 0, Value.int .u8 0, Value.int .u8 0, Value.int .u8 0, Value.int .u8 0, Value.int .u8 0, Value.int .u8 0, Value.int .u8 0, Value.int .u8 0, Value.int .u8 0, Value.int .u8 0])).run Try.prog w = .ok () w := fun o x y w => guard_arr o 24 x y _ _ w (by kernel_rfl)
  obtain ⟨t1, t2, t3, t4, t5, t6, t7⟩ := hok
  have HE1 := Lib.hid e1
  have HE2 := Lib.hid e2
  have HE3 := Lib.hid e3
  clear e1 e2 e3
  have tb : (l.from_ == l.to_) = false := by simpa using t5
  obtain ⟨nr, hnr⟩ : ∃ n, l.refs.length = n := ⟨_, rfl⟩
  have HNR := Lib.hid hnr
  rw [hnr] at x4
  have HR0 : Hid (refs0 l = decide (nr = 0)) := Lib.hid (by unfold refs0; rw [hnr])
  clear hnr
  have HN0 : Hid (want0 l = false) := Lib.hid (by unfold want0; simp [hcfg])
  obtain ⟨nw, hnw⟩ : ∃ n, l.wants.length = n := ⟨_, rfl⟩
  obtain ⟨nh, hnh⟩ : ∃ n, l.haves.length = n := ⟨_, rfl⟩
  have HNW := Lib.hid hnw
  have HNH := Lib.hid hnh
  rw [hnw] at x5
  rw [hnh] at x6
  rw [hnw] at hcfg
  have q1 : ((nw : Int) == 0) = false := by rw [beq_eq_false_iff_ne]; omega
  have Q2 := Lib.hid hcfg
  clear hnw hnh hcfg
  go_enter Try.func10, Try.ntmps10
  go_upto_region 5 with fail
  clear t1 t2 t3 t4 t5 t6 t7 tb x1 x2 x3 q1
  go_cut [5] (fun a wx => a = .bool (part0 l) ∧ wx = W1)
  case first =>
    go_wp2_with ((with_reducible (refine wpList_load_cells 24 _ g 9 (b8s l.pack) xp Try.underlying24 rfl HIX.out ?_ rfl ?_ ?_)); (exact rfl); (exact rfl))
    all_goals
      go_meet
      case rel => exact ⟨congrArg Value.bool (by unfold part0; rw [← len0]; simp_all), rfl⟩
  case rest =>
  obtain ⟨rfl, hw⟩ := hcut
  have hw' := hw.symm
  subst hw'
  clear hw heqi
  obtain ⟨P0, hP0⟩ : ∃ b, part0 l = b := ⟨_, rfl⟩
  rw [hP0]
  have HP0 := Lib.hid hP0
  clear hP0
  have e1 := HE1.out
  have e2 := HE2.out
  have e3 := HE3.out
  have q2 := Q2.out
  have d1 : (l.kind == 1) = false := by simpa using e1
  have d2 : (l.kind == 2) = false := by simpa using e2
  have d3 : (l.kind == 3) = true := by rw [e3]; rfl
  have E3 : Hid (V = (decide (nr = 0) && P0 && decide (0 < nw) && decide (nw ≤ 100) && decide (nh ≤ 200) && risingB zeros32 l.wants && risingB zeros32 l.haves && decide (0 ≤ l.off) && decide (l.off ≤ 1048576))) := Lib.hid (by rw [← HV.out, HRR.out, kindR_3 e3, HR0.out, HP0.out, HNW.out, HNH.out])
  clear e1 e2 e3 hgd
  by_cases hr : nr = 0
  rotate_left
  · have r1 : ((nr : Int) == 0) = false := by rw [beq_eq_false_iff_ne]; omega
    have HH := Lib.hid (decide_eq_false hr)
    go_wp2_with fail
    go_ret
    exact ⟨ret_bool (by rw [E3.out, HH.out]; simp), HB1.out⟩
  subst hr
  cases P0
  · go_wp2_with fail
    go_ret
    exact ⟨ret_bool (by rw [E3.out]; simp), HB1.out⟩
  have c1 : 0 < nw := by have := q2; omega
  by_cases c2 : nw ≤ 100
  rotate_left
  · have i2 : ¬ (nw : Int) ≤ 100 := by omega
    have C2 := Lib.hid (decide_eq_false c2)
    go_wp2_with fail
    go_ret
    exact ⟨ret_bool (by rw [E3.out, C2.out]; simp), HB1.out⟩
  by_cases c3 : nh ≤ 200
  rotate_left
  · have i2 : (nw : Int) ≤ 100 := by omega
    have i3 : ¬ (nh : Int) ≤ 200 := by omega
    have C3 := Lib.hid (decide_eq_false c3)
    go_wp2_with fail
    go_ret
    exact ⟨ret_bool (by rw [E3.out, C3.out]; simp), HB1.out⟩
  have i2 : (nw : Int) ≤ 100 := by omega
  have i3 : (nh : Int) ≤ 200 := by omega
  have C1 := Lib.hid (decide_eq_true c1)
  have C2 := Lib.hid (decide_eq_true c2)
  have C3 := Lib.hid (decide_eq_true c3)
  have hr1 := rrising_any p.wA l.wants p.wc W1 HIN.out.wr.1 HIN.out.wok HIN.out.wr.2.1 HIN.out.wr.2.2
  rw [HNW.out] at hr1
  have HRI := Lib.hid hr1
  clear hr1
  go_wp2_with fail
  refine HRI.out.mono ?_
  rintro e w6 ⟨rfl, hb6⟩
  have HB6 := Lib.hid hb6
  clear hb6 x0 x4 x5 x6 x7 x8 x9 xp d1 d2 d3 hW1 HRI c1 c2 c3 i2 i3
  cases c9 : risingB zeros32 l.wants
  · have C9 := Lib.hid c9
    clear c9
    go_wp2_with fail
    go_ret
    exact ⟨ret_bool (by rw [E3.out, C9.out]; simp), HBW.out _ HB6.out⟩
  have C9 := Lib.hid c9
  clear c9
  have HIN6 := Lib.hid (HIN.out.below HB6.out)
  obtain ⟨_, _, _, _, _, _, x6, _, _, _, _⟩ := ltRow_of (HF.out _ HB6.out) HLN.out
  go_wp2_with fail
  refine (rrising_any p.hA l.haves p.hc w6 HIN6.out.hr.1 HIN6.out.hok HIN6.out.hr.2.1 HIN6.out.hr.2.2).mono ?_
  rintro e w7 ⟨rfl, hb7⟩
  have HB7 := Lib.hid (ext_trans HB6.out hb7)
  clear hb7 x6
  cases c10 : risingB zeros32 l.haves
  · have C10 := Lib.hid c10
    clear c10
    go_wp2_with fail
    go_ret
    exact ⟨ret_bool (by rw [E3.out, C10.out]; simp), HBW.out _ HB7.out⟩
  have C10 := Lib.hid c10
  clear c10
  obtain ⟨_, _, _, _, _, _, _, x7, _, _, _⟩ := ltRow_of (HF.out _ HB7.out) HLN.out
  by_cases c11 : 0 ≤ l.off
  rotate_left
  · have C11 := Lib.hid (decide_eq_false c11)
    go_wp2_with fail
    go_ret
    exact ⟨ret_bool (by rw [E3.out, C11.out]; simp), HBW.out _ HB7.out⟩
  have C11 := Lib.hid (decide_eq_true c11)
  by_cases c12 : l.off ≤ 1048576
  rotate_left
  · have C12 := Lib.hid (decide_eq_false c12)
    go_wp2_with fail
    go_ret
    exact ⟨ret_bool (by rw [E3.out, C12.out]; simp), HBW.out _ HB7.out⟩
  have C12 := Lib.hid (decide_eq_true c12)
  go_wp2_with fail
  go_ret
  exact ⟨ret_bool (by rw [E3.out, C1.out, C2.out, C3.out, C9.out, C10.out, C11.out, C12.out]; rfl), HBW.out _ HB7.out⟩

set_option maxRecDepth 100000 in
set_option maxHeartbeats 32000000 in
theorem rright_ok3b (l : Lt) (p : LtP) (w : World) (hin : LtIn w l p) (hok : (1 ≤ l.from_ ∧ l.from_ ≤ 65536 ∧ 1 ≤ l.to_ ∧ l.to_ ≤ 65536 ∧ l.from_ ≠ l.to_ ∧ 1 ≤ l.session ∧ l.session ≤ 1099511627776)) (e1 : ¬ l.kind = 1) (e2 : ¬ l.kind = 2) (e3 : l.kind = 3) (hcfg : l.wants.length = 0) (hcfg2 : ¬ l.haves.length = 0) (hoff : -9223372036854775808 ≤ l.off ∧ l.off ≤ 9223372036854775807) : Calls Try.prog 10 #[l.val p] w fun e w' => e = .returned (.bool (rightL l)) ∧ Below w.heap.size w w' := by
  obtain ⟨W1, hW1⟩ : ∃ W, w.alloc (.cells (l.cells p).toArray 37) = W := ⟨_, rfl⟩
  obtain ⟨r1, b1, s1⟩ := new_row hW1
  obtain ⟨g, hg⟩ : ∃ g, w.heap.size = g := ⟨_, rfl⟩
  rw [hg] at r1
  have HGS : Hid (g < W1.heap.size) := Lib.hid (Array.getElem?_eq_some_iff.1 r1).1
  have HR1 := Lib.hid r1
  have HB1 : Hid (Below g w W1) := Lib.hid (hg ▸ b1)
  have HIN := Lib.hid (hin.below b1)
  have HLN := Lib.hid hin.len
  have HF : Hid (∀ W, Below W1.heap.size W1 W → W.heap[g]? = some (.cells (l.cells p).toArray 37 (0, 0))) := Lib.hid (fun W h => (h.block g HGS.out).trans HR1.out)
  have HBW : Hid (∀ W, Below W1.heap.size W1 W → Below g w W) := Lib.hid (fun W h => HB1.out.trans (h.mono (Nat.le_of_lt HGS.out)))
  obtain ⟨V, hV⟩ : ∃ V, rightL l = V := ⟨_, rfl⟩
  have HV : Hid (rrL l = V) := Lib.hid ((rrL_right l).trans hV)
  rw [hV]
  obtain ⟨x0, x1, x2, x3, x4, x5, x6, x7, x8, x9, xp⟩ := ltRow_of r1 hin.len
  have HX : Hid (W1.cell? ⟨g, 0, none⟩ = some (.int .i64 l.kind) ∧ W1.cell? ⟨g, 4, none⟩ = some (.slice p.rA l.refs.length p.rc) ∧ W1.cell? ⟨g, 5, none⟩ = some (.slice p.wA l.wants.length p.wc) ∧ W1.cell? ⟨g, 6, none⟩ = some (.slice p.hA l.haves.length p.hc) ∧ W1.cell? ⟨g, 7, none⟩ = some (.int .i64 l.off) ∧ W1.cell? ⟨g, 8, none⟩ = some (.int .i64 l.total) ∧ W1.cell? ⟨g, 41, none⟩ = some (.slice p.dA l.data.length p.dc) ∧ W1.rangeAt g 9 (b8s l.pack)) := Lib.hid ⟨x0, x4, x5, x6, x7, x8, x9, xp⟩
  unfold Lt.val
  rw [hg]
  clear r1 b1 s1 hin hV x0 x4 x5 x6 x7 x8 x9 xp
  have HRR : Hid (rrL l = kindR l) := Lib.hid (rrL_rest hok)
  obtain ⟨x0, x4, x5, x6, x7, x8, x9, xp⟩ := HX.out
  have HIX := Lib.hid (info_arr32 l.pack HLN.out)
  have heqi : ∀ w, (Op.equalIn 10000 24 (.agg (b8s l.pack).toArray) (.agg #[Value.int .u8 0, Value.int .u8 0, Value.int .u8 0, Value.int .u8 0, Value.int .u8 0, Value.int .u8 0, Value.int .u8 0, Value.int .u8 0, Value.int .u8 0, Value.int .u8 0, Value.int .u8 0, Value.int .u8 0, Value.int .u8 0, Value.int .u8 0, Value.int .u8 0, Value.int .u8 0, Value.int .u8 0, Value.int .u8 0, Value.int .u8 0, Value.int .u8 0, Value.int .u8 0, Value.int .u8 0, Value.int .u8 0, Value.int .u8 0, Value.int .u8 0, Value.int .u8 0, Value.int .u8 0, Value.int .u8 0, Value.int .u8 0, Value.int .u8 0, Value.int .u8 0, Value.int .u8 0])).run Try.prog w = .ok (decide (l.pack = zeros32)) w := fun w => by
    have := eqin_id 24 Try.underlying24 9998 l.pack zeros32 HLN.out rfl w
    rw [zeros32_cells] at this
    exact this
  have hgd : ∀ o x y w, (eqGuard o 24 x y (.agg (b8s l.pack).toArray) (.agg #[Value.int .u8 0, Value.int .u8 0, Value.int .u8 0, Value.int .u8 0, Value.int .u8 0, Value.int .u8 0, Value.int .u8 0, Value.int .u8 0, Value.int .u8 0, Value.int .u8 0, Value.int .u8 0, Value.int .u8 0, Value.int .u8 0, Value.int .u8 0, Value.int .u8 0, Value.int .u8 0, Value.int .u8 0, Value.int .u8 0, Value.int .u8 0, Value.int .u8 0, Value.int .u8 0, Value.int .u8 0, Value.int .u8 0, Value.int .u8 0, Value.int .u8 0, Value.int .u8 0, Value.int .u8 0, Value.int .u8 0, Value.int .u8 0, Value.int .u8 0, Value.int .u8 0, Value.int .u8 0])).run Try.prog w = .ok () w := fun o x y w => guard_arr o 24 x y _ _ w (by kernel_rfl)
  obtain ⟨t1, t2, t3, t4, t5, t6, t7⟩ := hok
  have HE1 := Lib.hid e1
  have HE2 := Lib.hid e2
  have HE3 := Lib.hid e3
  clear e1 e2 e3
  have tb : (l.from_ == l.to_) = false := by simpa using t5
  obtain ⟨nr, hnr⟩ : ∃ n, l.refs.length = n := ⟨_, rfl⟩
  have HNR := Lib.hid hnr
  rw [hnr] at x4
  have HR0 : Hid (refs0 l = decide (nr = 0)) := Lib.hid (by unfold refs0; rw [hnr])
  clear hnr
  have HN0 : Hid (want0 l = false) := Lib.hid (by unfold want0; simp [hcfg, hcfg2])
  obtain ⟨nw, hnw⟩ : ∃ n, l.wants.length = n := ⟨_, rfl⟩
  obtain ⟨nh, hnh⟩ : ∃ n, l.haves.length = n := ⟨_, rfl⟩
  have HNW := Lib.hid hnw
  have HNH := Lib.hid hnh
  rw [hnw] at x5
  rw [hnh] at x6
  rw [hnw] at hcfg
  rw [hnh] at hcfg2
  obtain rfl : nw = 0 := by omega
  have q1 : ((nh : Int) == 0) = false := by rw [beq_eq_false_iff_ne]; omega
  clear hnw hnh hcfg hcfg2
  go_enter Try.func10, Try.ntmps10
  go_upto_region 5 with fail
  clear t1 t2 t3 t4 t5 t6 t7 tb x1 x2 x3 q1
  go_cut [5] (fun a wx => a = .bool (part0 l) ∧ wx = W1)
  case first =>
    go_wp2_with ((with_reducible (refine wpList_load_cells 24 _ g 9 (b8s l.pack) xp Try.underlying24 rfl HIX.out ?_ rfl ?_ ?_)); (exact rfl); (exact rfl))
    all_goals
      go_meet
      case rel => exact ⟨congrArg Value.bool (by unfold part0; rw [← len0]; simp_all), rfl⟩
  case rest =>
  obtain ⟨rfl, hw⟩ := hcut
  have hw' := hw.symm
  subst hw'
  clear hw heqi
  obtain ⟨P0, hP0⟩ : ∃ b, part0 l = b := ⟨_, rfl⟩
  rw [hP0]
  have HP0 := Lib.hid hP0
  clear hP0
  have e1 := HE1.out
  have e2 := HE2.out
  have e3 := HE3.out
  have d1 : (l.kind == 1) = false := by simpa using e1
  have d2 : (l.kind == 2) = false := by simpa using e2
  have d3 : (l.kind == 3) = true := by rw [e3]; rfl
  have E3 : Hid (V = (decide (nr = 0) && P0 && decide (0 < 0) && decide (0 ≤ 100) && decide (nh ≤ 200) && risingB zeros32 l.wants && risingB zeros32 l.haves && decide (0 ≤ l.off) && decide (l.off ≤ 1048576))) := Lib.hid (by rw [← HV.out, HRR.out, kindR_3 e3, HR0.out, HP0.out, HNW.out, HNH.out])
  clear e1 e2 e3 hgd
  by_cases hr : nr = 0
  rotate_left
  · have r1 : ((nr : Int) == 0) = false := by rw [beq_eq_false_iff_ne]; omega
    have HH := Lib.hid (decide_eq_false hr)
    go_wp2_with fail
    go_ret
    exact ⟨ret_bool (by rw [E3.out, HH.out]; simp), HB1.out⟩
  subst hr
  cases P0
  · go_wp2_with fail
    go_ret
    exact ⟨ret_bool (by rw [E3.out]; simp), HB1.out⟩
  go_wp2_with fail
  go_ret
  exact ⟨ret_bool (by rw [E3.out]; simp), HB1.out⟩

set_option maxRecDepth 100000 in
set_option maxHeartbeats 32000000 in
theorem rright_ok3c (l : Lt) (p : LtP) (w : World) (hin : LtIn w l p) (hok : (1 ≤ l.from_ ∧ l.from_ ≤ 65536 ∧ 1 ≤ l.to_ ∧ l.to_ ≤ 65536 ∧ l.from_ ≠ l.to_ ∧ 1 ≤ l.session ∧ l.session ≤ 1099511627776)) (e1 : ¬ l.kind = 1) (e2 : ¬ l.kind = 2) (e3 : l.kind = 3) (hcfg : l.wants.length = 0) (hcfg2 : l.haves.length = 0) (hoff : -9223372036854775808 ≤ l.off ∧ l.off ≤ 9223372036854775807) : Calls Try.prog 10 #[l.val p] w fun e w' => e = .returned (.bool (rightL l)) ∧ Below w.heap.size w w' := by
  obtain ⟨W1, hW1⟩ : ∃ W, w.alloc (.cells (l.cells p).toArray 37) = W := ⟨_, rfl⟩
  obtain ⟨r1, b1, s1⟩ := new_row hW1
  obtain ⟨g, hg⟩ : ∃ g, w.heap.size = g := ⟨_, rfl⟩
  rw [hg] at r1
  have HGS : Hid (g < W1.heap.size) := Lib.hid (Array.getElem?_eq_some_iff.1 r1).1
  have HR1 := Lib.hid r1
  have HB1 : Hid (Below g w W1) := Lib.hid (hg ▸ b1)
  have HIN := Lib.hid (hin.below b1)
  have HLN := Lib.hid hin.len
  have HF : Hid (∀ W, Below W1.heap.size W1 W → W.heap[g]? = some (.cells (l.cells p).toArray 37 (0, 0))) := Lib.hid (fun W h => (h.block g HGS.out).trans HR1.out)
  have HBW : Hid (∀ W, Below W1.heap.size W1 W → Below g w W) := Lib.hid (fun W h => HB1.out.trans (h.mono (Nat.le_of_lt HGS.out)))
  obtain ⟨V, hV⟩ : ∃ V, rightL l = V := ⟨_, rfl⟩
  have HV : Hid (rrL l = V) := Lib.hid ((rrL_right l).trans hV)
  rw [hV]
  obtain ⟨x0, x1, x2, x3, x4, x5, x6, x7, x8, x9, xp⟩ := ltRow_of r1 hin.len
  have HX : Hid (W1.cell? ⟨g, 0, none⟩ = some (.int .i64 l.kind) ∧ W1.cell? ⟨g, 4, none⟩ = some (.slice p.rA l.refs.length p.rc) ∧ W1.cell? ⟨g, 5, none⟩ = some (.slice p.wA l.wants.length p.wc) ∧ W1.cell? ⟨g, 6, none⟩ = some (.slice p.hA l.haves.length p.hc) ∧ W1.cell? ⟨g, 7, none⟩ = some (.int .i64 l.off) ∧ W1.cell? ⟨g, 8, none⟩ = some (.int .i64 l.total) ∧ W1.cell? ⟨g, 41, none⟩ = some (.slice p.dA l.data.length p.dc) ∧ W1.rangeAt g 9 (b8s l.pack)) := Lib.hid ⟨x0, x4, x5, x6, x7, x8, x9, xp⟩
  unfold Lt.val
  rw [hg]
  clear r1 b1 s1 hin hV x0 x4 x5 x6 x7 x8 x9 xp
  have HRR : Hid (rrL l = kindR l) := Lib.hid (rrL_rest hok)
  obtain ⟨x0, x4, x5, x6, x7, x8, x9, xp⟩ := HX.out
  have HIX := Lib.hid (info_arr32 l.pack HLN.out)
  have heqi : ∀ w, (Op.equalIn 10000 24 (.agg (b8s l.pack).toArray) (.agg #[Value.int .u8 0, Value.int .u8 0, Value.int .u8 0, Value.int .u8 0, Value.int .u8 0, Value.int .u8 0, Value.int .u8 0, Value.int .u8 0, Value.int .u8 0, Value.int .u8 0, Value.int .u8 0, Value.int .u8 0, Value.int .u8 0, Value.int .u8 0, Value.int .u8 0, Value.int .u8 0, Value.int .u8 0, Value.int .u8 0, Value.int .u8 0, Value.int .u8 0, Value.int .u8 0, Value.int .u8 0, Value.int .u8 0, Value.int .u8 0, Value.int .u8 0, Value.int .u8 0, Value.int .u8 0, Value.int .u8 0, Value.int .u8 0, Value.int .u8 0, Value.int .u8 0, Value.int .u8 0])).run Try.prog w = .ok (decide (l.pack = zeros32)) w := fun w => by
    have := eqin_id 24 Try.underlying24 9998 l.pack zeros32 HLN.out rfl w
    rw [zeros32_cells] at this
    exact this
  have hgd : ∀ o x y w, (eqGuard o 24 x y (.agg (b8s l.pack).toArray) (.agg #[Value.int .u8 0, Value.int .u8 0, Value.int .u8 0, Value.int .u8 0, Value.int .u8 0, Value.int .u8 0, Value.int .u8 0, Value.int .u8 0, Value.int .u8 0, Value.int .u8 0, Value.int .u8 0, Value.int .u8 0, Value.int .u8 0, Value.int .u8 0, Value.int .u8 0, Value.int .u8 0, Value.int .u8 0, Value.int .u8 0, Value.int .u8 0, Value.int .u8 0, Value.int .u8 0, Value.int .u8 0, Value.int .u8 0, Value.int .u8 0, Value.int .u8 0, Value.int .u8 0, Value.int .u8 0, Value.int .u8 0, Value.int .u8 0, Value.int .u8 0, Value.int .u8 0, Value.int .u8 0])).run Try.prog w = .ok () w := fun o x y w => guard_arr o 24 x y _ _ w (by kernel_rfl)
  obtain ⟨t1, t2, t3, t4, t5, t6, t7⟩ := hok
  have HE1 := Lib.hid e1
  have HE2 := Lib.hid e2
  have HE3 := Lib.hid e3
  clear e1 e2 e3
  have tb : (l.from_ == l.to_) = false := by simpa using t5
  obtain ⟨nr, hnr⟩ : ∃ n, l.refs.length = n := ⟨_, rfl⟩
  have HNR := Lib.hid hnr
  rw [hnr] at x4
  have HR0 : Hid (refs0 l = decide (nr = 0)) := Lib.hid (by unfold refs0; rw [hnr])
  clear hnr
  have HN0 : Hid (want0 l = true) := Lib.hid (by unfold want0; simp [hcfg, hcfg2])
  obtain ⟨nw, hnw⟩ : ∃ n, l.wants.length = n := ⟨_, rfl⟩
  obtain ⟨nh, hnh⟩ : ∃ n, l.haves.length = n := ⟨_, rfl⟩
  have HNW := Lib.hid hnw
  have HNH := Lib.hid hnh
  rw [hnw] at x5
  rw [hnh] at x6
  rw [hnw] at hcfg
  rw [hnh] at hcfg2
  obtain rfl : nw = 0 := by omega
  obtain rfl : nh = 0 := by omega
  clear hnw hnh hcfg hcfg2
  go_enter Try.func10, Try.ntmps10
  go_upto_region 5 with fail
  clear t1 t2 t3 t4 t5 t6 t7 tb x1 x2 x3 
  go_cut [5] (fun a wx => a = .bool (part0 l) ∧ wx = W1)
  case first =>
    go_wp2_with ((with_reducible (refine wpList_load_cells 24 _ g 9 (b8s l.pack) xp Try.underlying24 rfl HIX.out ?_ rfl ?_ ?_)); (exact rfl); (exact rfl))
    all_goals
      go_meet
      case rel => exact ⟨congrArg Value.bool (by unfold part0; rw [← len0]; simp_all), rfl⟩
  case rest =>
  obtain ⟨rfl, hw⟩ := hcut
  have hw' := hw.symm
  subst hw'
  clear hw heqi
  obtain ⟨P0, hP0⟩ : ∃ b, part0 l = b := ⟨_, rfl⟩
  rw [hP0]
  have HP0 := Lib.hid hP0
  clear hP0
  have e1 := HE1.out
  have e2 := HE2.out
  have e3 := HE3.out
  have d1 : (l.kind == 1) = false := by simpa using e1
  have d2 : (l.kind == 2) = false := by simpa using e2
  have d3 : (l.kind == 3) = true := by rw [e3]; rfl
  have E3 : Hid (V = (decide (nr = 0) && P0 && decide (0 < 0) && decide (0 ≤ 100) && decide (0 ≤ 200) && risingB zeros32 l.wants && risingB zeros32 l.haves && decide (0 ≤ l.off) && decide (l.off ≤ 1048576))) := Lib.hid (by rw [← HV.out, HRR.out, kindR_3 e3, HR0.out, HP0.out, HNW.out, HNH.out])
  clear e1 e2 e3 hgd
  by_cases hr : nr = 0
  rotate_left
  · have r1 : ((nr : Int) == 0) = false := by rw [beq_eq_false_iff_ne]; omega
    have HH := Lib.hid (decide_eq_false hr)
    go_wp2_with fail
    go_ret
    exact ⟨ret_bool (by rw [E3.out, HH.out]; simp), HB1.out⟩
  subst hr
  cases P0
  · go_wp2_with fail
    go_ret
    exact ⟨ret_bool (by rw [E3.out]; simp), HB1.out⟩
  go_wp2_with fail
  go_ret
  exact ⟨ret_bool (by rw [E3.out]; simp), HB1.out⟩

set_option maxRecDepth 100000 in
set_option maxHeartbeats 32000000 in
theorem rright_ok0a (l : Lt) (p : LtP) (w : World) (hin : LtIn w l p) (hok : (1 ≤ l.from_ ∧ l.from_ ≤ 65536 ∧ 1 ≤ l.to_ ∧ l.to_ ≤ 65536 ∧ l.from_ ≠ l.to_ ∧ 1 ≤ l.session ∧ l.session ≤ 1099511627776)) (e1 : ¬ l.kind = 1) (e2 : ¬ l.kind = 2) (e3 : ¬ l.kind = 3) (e4 : ¬ l.kind = 4) (hcfg : ¬ l.wants.length = 0) (hoff : -9223372036854775808 ≤ l.off ∧ l.off ≤ 9223372036854775807) : Calls Try.prog 10 #[l.val p] w fun e w' => e = .returned (.bool (rightL l)) ∧ Below w.heap.size w w' := by
  obtain ⟨W1, hW1⟩ : ∃ W, w.alloc (.cells (l.cells p).toArray 37) = W := ⟨_, rfl⟩
  obtain ⟨r1, b1, s1⟩ := new_row hW1
  obtain ⟨g, hg⟩ : ∃ g, w.heap.size = g := ⟨_, rfl⟩
  rw [hg] at r1
  have HGS : Hid (g < W1.heap.size) := Lib.hid (Array.getElem?_eq_some_iff.1 r1).1
  have HR1 := Lib.hid r1
  have HB1 : Hid (Below g w W1) := Lib.hid (hg ▸ b1)
  have HIN := Lib.hid (hin.below b1)
  have HLN := Lib.hid hin.len
  have HF : Hid (∀ W, Below W1.heap.size W1 W → W.heap[g]? = some (.cells (l.cells p).toArray 37 (0, 0))) := Lib.hid (fun W h => (h.block g HGS.out).trans HR1.out)
  have HBW : Hid (∀ W, Below W1.heap.size W1 W → Below g w W) := Lib.hid (fun W h => HB1.out.trans (h.mono (Nat.le_of_lt HGS.out)))
  obtain ⟨V, hV⟩ : ∃ V, rightL l = V := ⟨_, rfl⟩
  have HV : Hid (rrL l = V) := Lib.hid ((rrL_right l).trans hV)
  rw [hV]
  obtain ⟨x0, x1, x2, x3, x4, x5, x6, x7, x8, x9, xp⟩ := ltRow_of r1 hin.len
  have HX : Hid (W1.cell? ⟨g, 0, none⟩ = some (.int .i64 l.kind) ∧ W1.cell? ⟨g, 4, none⟩ = some (.slice p.rA l.refs.length p.rc) ∧ W1.cell? ⟨g, 5, none⟩ = some (.slice p.wA l.wants.length p.wc) ∧ W1.cell? ⟨g, 6, none⟩ = some (.slice p.hA l.haves.length p.hc) ∧ W1.cell? ⟨g, 7, none⟩ = some (.int .i64 l.off) ∧ W1.cell? ⟨g, 8, none⟩ = some (.int .i64 l.total) ∧ W1.cell? ⟨g, 41, none⟩ = some (.slice p.dA l.data.length p.dc) ∧ W1.rangeAt g 9 (b8s l.pack)) := Lib.hid ⟨x0, x4, x5, x6, x7, x8, x9, xp⟩
  unfold Lt.val
  rw [hg]
  clear r1 b1 s1 hin hV x0 x4 x5 x6 x7 x8 x9 xp
  have HRR : Hid (rrL l = kindR l) := Lib.hid (rrL_rest hok)
  obtain ⟨x0, x4, x5, x6, x7, x8, x9, xp⟩ := HX.out
  have HIX := Lib.hid (info_arr32 l.pack HLN.out)
  have heqi : ∀ w, (Op.equalIn 10000 24 (.agg (b8s l.pack).toArray) (.agg #[Value.int .u8 0, Value.int .u8 0, Value.int .u8 0, Value.int .u8 0, Value.int .u8 0, Value.int .u8 0, Value.int .u8 0, Value.int .u8 0, Value.int .u8 0, Value.int .u8 0, Value.int .u8 0, Value.int .u8 0, Value.int .u8 0, Value.int .u8 0, Value.int .u8 0, Value.int .u8 0, Value.int .u8 0, Value.int .u8 0, Value.int .u8 0, Value.int .u8 0, Value.int .u8 0, Value.int .u8 0, Value.int .u8 0, Value.int .u8 0, Value.int .u8 0, Value.int .u8 0, Value.int .u8 0, Value.int .u8 0, Value.int .u8 0, Value.int .u8 0, Value.int .u8 0, Value.int .u8 0])).run Try.prog w = .ok (decide (l.pack = zeros32)) w := fun w => by
    have := eqin_id 24 Try.underlying24 9998 l.pack zeros32 HLN.out rfl w
    rw [zeros32_cells] at this
    exact this
  have hgd : ∀ o x y w, (eqGuard o 24 x y (.agg (b8s l.pack).toArray) (.agg #[Value.int .u8 0, Value.int .u8 0, Value.int .u8 0, Value.int .u8 0, Value.int .u8 0, Value.int .u8 0, Value.int .u8 0, Value.int .u8 0, Value.int .u8 0, Value.int .u8 0, Value.int .u8 0, Value.int .u8 0, Value.int .u8 0, Value.int .u8 0, Value.int .u8 0, Value.int .u8 0, Value.int .u8 0, Value.int .u8 0, Value.int .u8 0, Value.int .u8 0, Value.int .u8 0, Value.int .u8 0, Value.int .u8 0, Value.int .u8 0, Value.int .u8 0, Value.int .u8 0, Value.int .u8 0, Value.int .u8 0, Value.int .u8 0, Value.int .u8 0, Value.int .u8 0, Value.int .u8 0])).run Try.prog w = .ok () w := fun o x y w => guard_arr o 24 x y _ _ w (by kernel_rfl)
  obtain ⟨t1, t2, t3, t4, t5, t6, t7⟩ := hok
  have HE1 := Lib.hid e1
  have HE2 := Lib.hid e2
  have HE3 := Lib.hid e3
  have HE4 := Lib.hid e4
  clear e1 e2 e3 e4
  have tb : (l.from_ == l.to_) = false := by simpa using t5
  obtain ⟨nr, hnr⟩ : ∃ n, l.refs.length = n := ⟨_, rfl⟩
  have HNR := Lib.hid hnr
  rw [hnr] at x4
  have HR0 : Hid (refs0 l = decide (nr = 0)) := Lib.hid (by unfold refs0; rw [hnr])
  clear hnr
  have HN0 : Hid (want0 l = false) := Lib.hid (by unfold want0; simp [hcfg])
  obtain ⟨nw, hnw⟩ : ∃ n, l.wants.length = n := ⟨_, rfl⟩
  obtain ⟨nh, hnh⟩ : ∃ n, l.haves.length = n := ⟨_, rfl⟩
  have HNW := Lib.hid hnw
  have HNH := Lib.hid hnh
  rw [hnw] at x5
  rw [hnh] at x6
  rw [hnw] at hcfg
  have q1 : ((nw : Int) == 0) = false := by rw [beq_eq_false_iff_ne]; omega
  clear hnw hnh hcfg
  go_enter Try.func10, Try.ntmps10
  go_upto_region 5 with fail
  clear t1 t2 t3 t4 t5 t6 t7 tb x1 x2 x3 q1
  go_cut [5] (fun a wx => a = .bool (part0 l) ∧ wx = W1)
  case first =>
    go_wp2_with ((with_reducible (refine wpList_load_cells 24 _ g 9 (b8s l.pack) xp Try.underlying24 rfl HIX.out ?_ rfl ?_ ?_)); (exact rfl); (exact rfl))
    all_goals
      go_meet
      case rel => exact ⟨congrArg Value.bool (by unfold part0; rw [← len0]; simp_all), rfl⟩
  case rest =>
  obtain ⟨rfl, hw⟩ := hcut
  have hw' := hw.symm
  subst hw'
  clear hw heqi
  obtain ⟨P0, hP0⟩ : ∃ b, part0 l = b := ⟨_, rfl⟩
  rw [hP0]
  have HP0 := Lib.hid hP0
  clear hP0
  have e1 := HE1.out
  have e2 := HE2.out
  have e3 := HE3.out
  have e4 := HE4.out
  have d1 : (l.kind == 1) = false := by simpa using e1
  have d2 : (l.kind == 2) = false := by simpa using e2
  have d3 : (l.kind == 3) = false := by simpa using e3
  have d4 : (l.kind == 4) = false := by simpa using e4
  have E0 : Hid (V = false) := Lib.hid (by rw [← HV.out, HRR.out, kindR_0 e1 e2 e3 e4])
  clear e1 e2 e3 e4
  go_wp2_with fail
  go_ret
  exact ⟨ret_bool (by rw [E0.out]), HB1.out⟩

set_option maxRecDepth 100000 in
set_option maxHeartbeats 32000000 in
theorem rright_ok0b (l : Lt) (p : LtP) (w : World) (hin : LtIn w l p) (hok : (1 ≤ l.from_ ∧ l.from_ ≤ 65536 ∧ 1 ≤ l.to_ ∧ l.to_ ≤ 65536 ∧ l.from_ ≠ l.to_ ∧ 1 ≤ l.session ∧ l.session ≤ 1099511627776)) (e1 : ¬ l.kind = 1) (e2 : ¬ l.kind = 2) (e3 : ¬ l.kind = 3) (e4 : ¬ l.kind = 4) (hcfg : l.wants.length = 0) (hcfg2 : ¬ l.haves.length = 0) (hoff : -9223372036854775808 ≤ l.off ∧ l.off ≤ 9223372036854775807) : Calls Try.prog 10 #[l.val p] w fun e w' => e = .returned (.bool (rightL l)) ∧ Below w.heap.size w w' := by
  obtain ⟨W1, hW1⟩ : ∃ W, w.alloc (.cells (l.cells p).toArray 37) = W := ⟨_, rfl⟩
  obtain ⟨r1, b1, s1⟩ := new_row hW1
  obtain ⟨g, hg⟩ : ∃ g, w.heap.size = g := ⟨_, rfl⟩
  rw [hg] at r1
  have HGS : Hid (g < W1.heap.size) := Lib.hid (Array.getElem?_eq_some_iff.1 r1).1
  have HR1 := Lib.hid r1
  have HB1 : Hid (Below g w W1) := Lib.hid (hg ▸ b1)
  have HIN := Lib.hid (hin.below b1)
  have HLN := Lib.hid hin.len
  have HF : Hid (∀ W, Below W1.heap.size W1 W → W.heap[g]? = some (.cells (l.cells p).toArray 37 (0, 0))) := Lib.hid (fun W h => (h.block g HGS.out).trans HR1.out)
  have HBW : Hid (∀ W, Below W1.heap.size W1 W → Below g w W) := Lib.hid (fun W h => HB1.out.trans (h.mono (Nat.le_of_lt HGS.out)))
  obtain ⟨V, hV⟩ : ∃ V, rightL l = V := ⟨_, rfl⟩
  have HV : Hid (rrL l = V) := Lib.hid ((rrL_right l).trans hV)
  rw [hV]
  obtain ⟨x0, x1, x2, x3, x4, x5, x6, x7, x8, x9, xp⟩ := ltRow_of r1 hin.len
  have HX : Hid (W1.cell? ⟨g, 0, none⟩ = some (.int .i64 l.kind) ∧ W1.cell? ⟨g, 4, none⟩ = some (.slice p.rA l.refs.length p.rc) ∧ W1.cell? ⟨g, 5, none⟩ = some (.slice p.wA l.wants.length p.wc) ∧ W1.cell? ⟨g, 6, none⟩ = some (.slice p.hA l.haves.length p.hc) ∧ W1.cell? ⟨g, 7, none⟩ = some (.int .i64 l.off) ∧ W1.cell? ⟨g, 8, none⟩ = some (.int .i64 l.total) ∧ W1.cell? ⟨g, 41, none⟩ = some (.slice p.dA l.data.length p.dc) ∧ W1.rangeAt g 9 (b8s l.pack)) := Lib.hid ⟨x0, x4, x5, x6, x7, x8, x9, xp⟩
  unfold Lt.val
  rw [hg]
  clear r1 b1 s1 hin hV x0 x4 x5 x6 x7 x8 x9 xp
  have HRR : Hid (rrL l = kindR l) := Lib.hid (rrL_rest hok)
  obtain ⟨x0, x4, x5, x6, x7, x8, x9, xp⟩ := HX.out
  have HIX := Lib.hid (info_arr32 l.pack HLN.out)
  have heqi : ∀ w, (Op.equalIn 10000 24 (.agg (b8s l.pack).toArray) (.agg #[Value.int .u8 0, Value.int .u8 0, Value.int .u8 0, Value.int .u8 0, Value.int .u8 0, Value.int .u8 0, Value.int .u8 0, Value.int .u8 0, Value.int .u8 0, Value.int .u8 0, Value.int .u8 0, Value.int .u8 0, Value.int .u8 0, Value.int .u8 0, Value.int .u8 0, Value.int .u8 0, Value.int .u8 0, Value.int .u8 0, Value.int .u8 0, Value.int .u8 0, Value.int .u8 0, Value.int .u8 0, Value.int .u8 0, Value.int .u8 0, Value.int .u8 0, Value.int .u8 0, Value.int .u8 0, Value.int .u8 0, Value.int .u8 0, Value.int .u8 0, Value.int .u8 0, Value.int .u8 0])).run Try.prog w = .ok (decide (l.pack = zeros32)) w := fun w => by
    have := eqin_id 24 Try.underlying24 9998 l.pack zeros32 HLN.out rfl w
    rw [zeros32_cells] at this
    exact this
  have hgd : ∀ o x y w, (eqGuard o 24 x y (.agg (b8s l.pack).toArray) (.agg #[Value.int .u8 0, Value.int .u8 0, Value.int .u8 0, Value.int .u8 0, Value.int .u8 0, Value.int .u8 0, Value.int .u8 0, Value.int .u8 0, Value.int .u8 0, Value.int .u8 0, Value.int .u8 0, Value.int .u8 0, Value.int .u8 0, Value.int .u8 0, Value.int .u8 0, Value.int .u8 0, Value.int .u8 0, Value.int .u8 0, Value.int .u8 0, Value.int .u8 0, Value.int .u8 0, Value.int .u8 0, Value.int .u8 0, Value.int .u8 0, Value.int .u8 0, Value.int .u8 0, Value.int .u8 0, Value.int .u8 0, Value.int .u8 0, Value.int .u8 0, Value.int .u8 0, Value.int .u8 0])).run Try.prog w = .ok () w := fun o x y w => guard_arr o 24 x y _ _ w (by kernel_rfl)
  obtain ⟨t1, t2, t3, t4, t5, t6, t7⟩ := hok
  have HE1 := Lib.hid e1
  have HE2 := Lib.hid e2
  have HE3 := Lib.hid e3
  have HE4 := Lib.hid e4
  clear e1 e2 e3 e4
  have tb : (l.from_ == l.to_) = false := by simpa using t5
  obtain ⟨nr, hnr⟩ : ∃ n, l.refs.length = n := ⟨_, rfl⟩
  have HNR := Lib.hid hnr
  rw [hnr] at x4
  have HR0 : Hid (refs0 l = decide (nr = 0)) := Lib.hid (by unfold refs0; rw [hnr])
  clear hnr
  have HN0 : Hid (want0 l = false) := Lib.hid (by unfold want0; simp [hcfg, hcfg2])
  obtain ⟨nw, hnw⟩ : ∃ n, l.wants.length = n := ⟨_, rfl⟩
  obtain ⟨nh, hnh⟩ : ∃ n, l.haves.length = n := ⟨_, rfl⟩
  have HNW := Lib.hid hnw
  have HNH := Lib.hid hnh
  rw [hnw] at x5
  rw [hnh] at x6
  rw [hnw] at hcfg
  rw [hnh] at hcfg2
  obtain rfl : nw = 0 := by omega
  have q1 : ((nh : Int) == 0) = false := by rw [beq_eq_false_iff_ne]; omega
  clear hnw hnh hcfg hcfg2
  go_enter Try.func10, Try.ntmps10
  go_upto_region 5 with fail
  clear t1 t2 t3 t4 t5 t6 t7 tb x1 x2 x3 q1
  go_cut [5] (fun a wx => a = .bool (part0 l) ∧ wx = W1)
  case first =>
    go_wp2_with ((with_reducible (refine wpList_load_cells 24 _ g 9 (b8s l.pack) xp Try.underlying24 rfl HIX.out ?_ rfl ?_ ?_)); (exact rfl); (exact rfl))
    all_goals
      go_meet
      case rel => exact ⟨congrArg Value.bool (by unfold part0; rw [← len0]; simp_all), rfl⟩
  case rest =>
  obtain ⟨rfl, hw⟩ := hcut
  have hw' := hw.symm
  subst hw'
  clear hw heqi
  obtain ⟨P0, hP0⟩ : ∃ b, part0 l = b := ⟨_, rfl⟩
  rw [hP0]
  have HP0 := Lib.hid hP0
  clear hP0
  have e1 := HE1.out
  have e2 := HE2.out
  have e3 := HE3.out
  have e4 := HE4.out
  have d1 : (l.kind == 1) = false := by simpa using e1
  have d2 : (l.kind == 2) = false := by simpa using e2
  have d3 : (l.kind == 3) = false := by simpa using e3
  have d4 : (l.kind == 4) = false := by simpa using e4
  have E0 : Hid (V = false) := Lib.hid (by rw [← HV.out, HRR.out, kindR_0 e1 e2 e3 e4])
  clear e1 e2 e3 e4
  go_wp2_with fail
  go_ret
  exact ⟨ret_bool (by rw [E0.out]), HB1.out⟩

set_option maxRecDepth 100000 in
set_option maxHeartbeats 32000000 in
theorem rright_ok0c (l : Lt) (p : LtP) (w : World) (hin : LtIn w l p) (hok : (1 ≤ l.from_ ∧ l.from_ ≤ 65536 ∧ 1 ≤ l.to_ ∧ l.to_ ≤ 65536 ∧ l.from_ ≠ l.to_ ∧ 1 ≤ l.session ∧ l.session ≤ 1099511627776)) (e1 : ¬ l.kind = 1) (e2 : ¬ l.kind = 2) (e3 : ¬ l.kind = 3) (e4 : ¬ l.kind = 4) (hcfg : l.wants.length = 0) (hcfg2 : l.haves.length = 0) (hoff : -9223372036854775808 ≤ l.off ∧ l.off ≤ 9223372036854775807) : Calls Try.prog 10 #[l.val p] w fun e w' => e = .returned (.bool (rightL l)) ∧ Below w.heap.size w w' := by
  obtain ⟨W1, hW1⟩ : ∃ W, w.alloc (.cells (l.cells p).toArray 37) = W := ⟨_, rfl⟩
  obtain ⟨r1, b1, s1⟩ := new_row hW1
  obtain ⟨g, hg⟩ : ∃ g, w.heap.size = g := ⟨_, rfl⟩
  rw [hg] at r1
  have HGS : Hid (g < W1.heap.size) := Lib.hid (Array.getElem?_eq_some_iff.1 r1).1
  have HR1 := Lib.hid r1
  have HB1 : Hid (Below g w W1) := Lib.hid (hg ▸ b1)
  have HIN := Lib.hid (hin.below b1)
  have HLN := Lib.hid hin.len
  have HF : Hid (∀ W, Below W1.heap.size W1 W → W.heap[g]? = some (.cells (l.cells p).toArray 37 (0, 0))) := Lib.hid (fun W h => (h.block g HGS.out).trans HR1.out)
  have HBW : Hid (∀ W, Below W1.heap.size W1 W → Below g w W) := Lib.hid (fun W h => HB1.out.trans (h.mono (Nat.le_of_lt HGS.out)))
  obtain ⟨V, hV⟩ : ∃ V, rightL l = V := ⟨_, rfl⟩
  have HV : Hid (rrL l = V) := Lib.hid ((rrL_right l).trans hV)
  rw [hV]
  obtain ⟨x0, x1, x2, x3, x4, x5, x6, x7, x8, x9, xp⟩ := ltRow_of r1 hin.len
  have HX : Hid (W1.cell? ⟨g, 0, none⟩ = some (.int .i64 l.kind) ∧ W1.cell? ⟨g, 4, none⟩ = some (.slice p.rA l.refs.length p.rc) ∧ W1.cell? ⟨g, 5, none⟩ = some (.slice p.wA l.wants.length p.wc) ∧ W1.cell? ⟨g, 6, none⟩ = some (.slice p.hA l.haves.length p.hc) ∧ W1.cell? ⟨g, 7, none⟩ = some (.int .i64 l.off) ∧ W1.cell? ⟨g, 8, none⟩ = some (.int .i64 l.total) ∧ W1.cell? ⟨g, 41, none⟩ = some (.slice p.dA l.data.length p.dc) ∧ W1.rangeAt g 9 (b8s l.pack)) := Lib.hid ⟨x0, x4, x5, x6, x7, x8, x9, xp⟩
  unfold Lt.val
  rw [hg]
  clear r1 b1 s1 hin hV x0 x4 x5 x6 x7 x8 x9 xp
  have HRR : Hid (rrL l = kindR l) := Lib.hid (rrL_rest hok)
  obtain ⟨x0, x4, x5, x6, x7, x8, x9, xp⟩ := HX.out
  have HIX := Lib.hid (info_arr32 l.pack HLN.out)
  have heqi : ∀ w, (Op.equalIn 10000 24 (.agg (b8s l.pack).toArray) (.agg #[Value.int .u8 0, Value.int .u8 0, Value.int .u8 0, Value.int .u8 0, Value.int .u8 0, Value.int .u8 0, Value.int .u8 0, Value.int .u8 0, Value.int .u8 0, Value.int .u8 0, Value.int .u8 0, Value.int .u8 0, Value.int .u8 0, Value.int .u8 0, Value.int .u8 0, Value.int .u8 0, Value.int .u8 0, Value.int .u8 0, Value.int .u8 0, Value.int .u8 0, Value.int .u8 0, Value.int .u8 0, Value.int .u8 0, Value.int .u8 0, Value.int .u8 0, Value.int .u8 0, Value.int .u8 0, Value.int .u8 0, Value.int .u8 0, Value.int .u8 0, Value.int .u8 0, Value.int .u8 0])).run Try.prog w = .ok (decide (l.pack = zeros32)) w := fun w => by
    have := eqin_id 24 Try.underlying24 9998 l.pack zeros32 HLN.out rfl w
    rw [zeros32_cells] at this
    exact this
  have hgd : ∀ o x y w, (eqGuard o 24 x y (.agg (b8s l.pack).toArray) (.agg #[Value.int .u8 0, Value.int .u8 0, Value.int .u8 0, Value.int .u8 0, Value.int .u8 0, Value.int .u8 0, Value.int .u8 0, Value.int .u8 0, Value.int .u8 0, Value.int .u8 0, Value.int .u8 0, Value.int .u8 0, Value.int .u8 0, Value.int .u8 0, Value.int .u8 0, Value.int .u8 0, Value.int .u8 0, Value.int .u8 0, Value.int .u8 0, Value.int .u8 0, Value.int .u8 0, Value.int .u8 0, Value.int .u8 0, Value.int .u8 0, Value.int .u8 0, Value.int .u8 0, Value.int .u8 0, Value.int .u8 0, Value.int .u8 0, Value.int .u8 0, Value.int .u8 0, Value.int .u8 0])).run Try.prog w = .ok () w := fun o x y w => guard_arr o 24 x y _ _ w (by kernel_rfl)
  obtain ⟨t1, t2, t3, t4, t5, t6, t7⟩ := hok
  have HE1 := Lib.hid e1
  have HE2 := Lib.hid e2
  have HE3 := Lib.hid e3
  have HE4 := Lib.hid e4
  clear e1 e2 e3 e4
  have tb : (l.from_ == l.to_) = false := by simpa using t5
  obtain ⟨nr, hnr⟩ : ∃ n, l.refs.length = n := ⟨_, rfl⟩
  have HNR := Lib.hid hnr
  rw [hnr] at x4
  have HR0 : Hid (refs0 l = decide (nr = 0)) := Lib.hid (by unfold refs0; rw [hnr])
  clear hnr
  have HN0 : Hid (want0 l = true) := Lib.hid (by unfold want0; simp [hcfg, hcfg2])
  obtain ⟨nw, hnw⟩ : ∃ n, l.wants.length = n := ⟨_, rfl⟩
  obtain ⟨nh, hnh⟩ : ∃ n, l.haves.length = n := ⟨_, rfl⟩
  have HNW := Lib.hid hnw
  have HNH := Lib.hid hnh
  rw [hnw] at x5
  rw [hnh] at x6
  rw [hnw] at hcfg
  rw [hnh] at hcfg2
  obtain rfl : nw = 0 := by omega
  obtain rfl : nh = 0 := by omega
  clear hnw hnh hcfg hcfg2
  go_enter Try.func10, Try.ntmps10
  go_upto_region 5 with fail
  clear t1 t2 t3 t4 t5 t6 t7 tb x1 x2 x3 
  go_cut [5] (fun a wx => a = .bool (part0 l) ∧ wx = W1)
  case first =>
    go_wp2_with ((with_reducible (refine wpList_load_cells 24 _ g 9 (b8s l.pack) xp Try.underlying24 rfl HIX.out ?_ rfl ?_ ?_)); (exact rfl); (exact rfl))
    all_goals
      go_meet
      case rel => exact ⟨congrArg Value.bool (by unfold part0; rw [← len0]; simp_all), rfl⟩
  case rest =>
  obtain ⟨rfl, hw⟩ := hcut
  have hw' := hw.symm
  subst hw'
  clear hw heqi
  obtain ⟨P0, hP0⟩ : ∃ b, part0 l = b := ⟨_, rfl⟩
  rw [hP0]
  have HP0 := Lib.hid hP0
  clear hP0
  have e1 := HE1.out
  have e2 := HE2.out
  have e3 := HE3.out
  have e4 := HE4.out
  have d1 : (l.kind == 1) = false := by simpa using e1
  have d2 : (l.kind == 2) = false := by simpa using e2
  have d3 : (l.kind == 3) = false := by simpa using e3
  have d4 : (l.kind == 4) = false := by simpa using e4
  have E0 : Hid (V = false) := Lib.hid (by rw [← HV.out, HRR.out, kindR_0 e1 e2 e3 e4])
  clear e1 e2 e3 e4
  go_wp2_with fail
  go_ret
  exact ⟨ret_bool (by rw [E0.out]), HB1.out⟩

end Go.Proofs.Ytfjfidhhmidflaa
