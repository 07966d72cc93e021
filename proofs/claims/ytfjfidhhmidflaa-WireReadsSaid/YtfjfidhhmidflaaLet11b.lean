
/- The document's Right, kinds 1 and 4. (Printed by wip/genL11.py.) -/

import Derived.Test.YtfjfidhhmidflaaLet10

namespace Go.Proofs.Ytfjfidhhmidflaa

set_option linter.unusedVariables false

set_option linter.unusedSimpArgs false

open Go.RowKit

set_option maxRecDepth 100000 in
set_option maxHeartbeats 32000000 in
theorem rright_ok1a (l : Lt) (p : LtP) (w : World) (hin : LtIn w l p) (hok : (1 ≤ l.from_ ∧ l.from_ ≤ 65536 ∧ 1 ≤ l.to_ ∧ l.to_ ≤ 65536 ∧ l.from_ ≠ l.to_ ∧ 1 ≤ l.session ∧ l.session ≤ 1099511627776)) (e1 : l.kind = 1) (hcfg : ¬ l.wants.length = 0) (hoff : -9223372036854775808 ≤ l.off ∧ l.off ≤ 9223372036854775807) : Calls Try.prog 10 #[l.val p] w fun e w' => e = .returned (.bool (rightL l)) ∧ Below w.heap.size w w' := by
  obtain ⟨W1, hW1⟩ : ∃ W, w.alloc (.cells (l.cells p).toArray 37) = W := ⟨_, rfl⟩
  obtain ⟨r1, b1, s1⟩ := new_row hW1
  obtain ⟨g, hg⟩ : ∃ g, w.heap.size = g := ⟨_, rfl⟩
  rw [hg] at r1
  have HGS : Hid (g < W1.heap.size) := Lib.hid (Array.getElem?_eq_some_iff.1 r1).1
  have HR1 := Lib.hid r1
  have HB1 : Hid (Below g w W1) := Lib.hid (hg ▸ b1)
  have HIN := Lib.hid (hin.below b1)
  have HLN := Lib.hid hin.len
  have HF : Hid (∀ W, Below W1.heap.size W1 W → W.heap[g]? = some (.cells (l.cells p).toArray 37 (0, 0))) := Lib.hid (fun W h => (h.block g HGS.out).trans HR1.out)
  have HBW : Hid (∀ W, Below W1.heap.size W1 W → Below g w W) := Lib.hid (fun W h => HB1.out.trans (h.mono (Nat.le_of_lt HGS.out)))
  obtain ⟨V, hV⟩ : ∃ V, rightL l = V := ⟨_, rfl⟩
  have HV : Hid (rrL l = V) := Lib.hid ((rrL_right l).trans hV)
  rw [hV]
  obtain ⟨x0, x1, x2, x3, x4, x5, x6, x7, x8, x9, xp⟩ := ltRow_of r1 hin.len
  have HX : Hid (W1.cell? ⟨g, 0, none⟩ = some (.int .i64 l.kind) ∧ W1.cell? ⟨g, 4, none⟩ = some (.slice p.rA l.refs.length p.rc) ∧ W1.cell? ⟨g, 5, none⟩ = some (.slice p.wA l.wants.length p.wc) ∧ W1.cell? ⟨g, 6, none⟩ = some (.slice p.hA l.haves.length p.hc) ∧ W1.cell? ⟨g, 7, none⟩ = some (.int .i64 l.off) ∧ W1.cell? ⟨g, 8, none⟩ = some (.int .i64 l.total) ∧ W1.cell? ⟨g, 41, none⟩ = some (.slice p.dA l.data.length p.dc) ∧ W1.rangeAt g 9 (b8s l.pack)) := Lib.hid ⟨x0, x4, x5, x6, x7, x8, x9, xp⟩
  unfold Lt.val
  rw [hg]
  clear r1 b1 s1 hin hV x0 x4 x5 x6 x7 x8 x9 xp
  have HRR : Hid (rrL l = kindR l) := Lib.hid (rrL_rest hok)
  obtain ⟨x0, x4, x5, x6, x7, x8, x9, xp⟩ := HX.out
  have HIX := Lib.hid (info_arr32 l.pack HLN.out)
  have heqi : ∀ w, (Op.equalIn 10000 24 (.agg (b8s l.pack).toArray) (.agg #[Value.int .u8 0, Value.int .u8 0, Value.int .u8 0, Value.int .u8 0, Value.int .u8 0, Value.int .u8 0, Value.int .u8 0, Value.int .u8 0, Value.int .u8 0, Value.int .u8 0, Value.int .u8 0, Value.int .u8 0, Value.int .u8 0, Value.int .u8 0, Value.int .u8 0, Value.int .u8 0, Value.int .u8 0, Value.int .u8 0, Value.int .u8 0, Value.int .u8 0, Value.int .u8 0, Value.int .u8 0, Value.int .u8 0, Value.int .u8 0, Value.int .u8 0, Value.int .u8 0, Value.int .u8 0, Value.int .u8 0, Value.int .u8 0, Value.int .u8 0, Value.int .u8 0, Value.int .u8 0])).run Try.prog w = .ok (decide (l.pack = zeros32)) w := fun w => by
    have := eqin_id 24 Try.underlying24 9998 l.pack zeros32 HLN.out rfl w
    rw [zeros32_cells] at this
    exact this
  have hgd : ∀ o x y w, (eqGuard o 24 x y (.agg (b8s l.pack).toArray) (.agg #[Value.int .u8 0, Value.int .u8 0, Value.int .u8 0, Value.int .u8 0, Value.int .u8 0, Value.int .u8 0, Value.int .u8 0, Value.int .u8 0, Value.int .u8 0, Value.int .u8 0, Value.int .u8 0, Value.int .u8 0, Value.int .u8 0, Value.int .u8 0, Value.int .u8 0, Value.int .u8 0, Value.int .u8 0, Value.int .u8 0, Value.int .u8 0, Value.int .u8 0, Value.int .u8 0, Value.int .u8 0, Value.int .u8 0, Value.int .u8 0, Value.int .u8 0, Value.int .u8 0, Value.int .u8 0, Value.int .u8 0, Value.int .u8 0, Value.int .u8 0, Value.int .u8 0, Value.int .u8 0])).run Try.prog w = .ok () w := fun o x y w => guard_arr o 24 x y _ _ w (by kernel_rfl)
  obtain ⟨t1, t2, t3, t4, t5, t6, t7⟩ := hok
  have HE1 := Lib.hid e1
  clear e1
  have tb : (l.from_ == l.to_) = false := by simpa using t5
  obtain ⟨nr, hnr⟩ : ∃ n, l.refs.length = n := ⟨_, rfl⟩
  have HNR := Lib.hid hnr
  rw [hnr] at x4
  have HR0 : Hid (refs0 l = decide (nr = 0)) := Lib.hid (by unfold refs0; rw [hnr])
  clear hnr
  have HN0 : Hid (want0 l = false) := Lib.hid (by unfold want0; simp [hcfg])
  obtain ⟨nw, hnw⟩ : ∃ n, l.wants.length = n := ⟨_, rfl⟩
  obtain ⟨nh, hnh⟩ : ∃ n, l.haves.length = n := ⟨_, rfl⟩
  have HNW := Lib.hid hnw
  have HNH := Lib.hid hnh
  rw [hnw] at x5
  rw [hnh] at x6
  rw [hnw] at hcfg
  have q1 : ((nw : Int) == 0) = false := by rw [beq_eq_false_iff_ne]; omega
  clear hnw hnh hcfg
  go_enter Try.func10, Try.ntmps10
  go_upto_region 5 with fail
  clear t1 t2 t3 t4 t5 t6 t7 tb x1 x2 x3 q1
  go_cut [5] (fun a wx => a = .bool (part0 l) ∧ wx = W1)
  case first =>
    go_wp2_with ((with_reducible (refine wpList_load_cells 24 _ g 9 (b8s l.pack) xp Try.underlying24 rfl HIX.out ?_ rfl ?_ ?_)); (exact rfl); (exact rfl))
    all_goals
      go_meet
      case rel => exact ⟨congrArg Value.bool (by unfold part0; rw [← len0]; simp_all), rfl⟩
  case rest =>
  obtain ⟨rfl, hw⟩ := hcut
  have hw' := hw.symm
  subst hw'
  clear hw heqi
  obtain ⟨P0, hP0⟩ : ∃ b, part0 l = b := ⟨_, rfl⟩
  rw [hP0]
  have HP0 := Lib.hid hP0
  clear hP0
  have e1 := HE1.out
  have d1 : (l.kind == 1) = true := by rw [e1]; rfl
  have E1 : Hid (V = (decide (nr = 0) && false && P0 && (l.off == 0))) := Lib.hid (by rw [← HV.out, HRR.out, kindR_1 e1, HR0.out, HN0.out, HP0.out])
  clear e1
  by_cases hr : nr = 0
  rotate_left
  · have r1 : ((nr : Int) == 0) = false := by rw [beq_eq_false_iff_ne]; omega
    have HH := Lib.hid (decide_eq_false hr)
    go_wp2_with fail
    go_ret
    exact ⟨ret_bool (by rw [E1.out, HH.out]; simp), HB1.out⟩
  subst hr
  go_wp2_with fail
  go_ret
  exact ⟨ret_bool (by rw [E1.out]; simp), HB1.out⟩

set_option maxRecDepth 100000 in
set_option maxHeartbeats 32000000 in
theorem rright_ok1b (l : Lt) (p : LtP) (w : World) (hin : LtIn w l p) (hok : (1 ≤ l.from_ ∧ l.from_ ≤ 65536 ∧ 1 ≤ l.to_ ∧ l.to_ ≤ 65536 ∧ l.from_ ≠ l.to_ ∧ 1 ≤ l.session ∧ l.session ≤ 1099511627776)) (e1 : l.kind = 1) (hcfg : l.wants.length = 0) (hcfg2 : ¬ l.haves.length = 0) (hoff : -9223372036854775808 ≤ l.off ∧ l.off ≤ 9223372036854775807) : Calls Try.prog 10 #[l.val p] w fun e w' => e = .returned (.bool (rightL l)) ∧ Below w.heap.size w w' := by
  obtain ⟨W1, hW1⟩ : ∃ W, w.alloc (.cells (l.cells p).toArray 37) = W := ⟨_, rfl⟩
  obtain ⟨r1, b1, s1⟩ := new_row hW1
  obtain ⟨g, hg⟩ : ∃ g, w.heap.size = g := ⟨_, rfl⟩
  rw [hg] at r1
  have HGS : Hid (g < W1.heap.size) := Lib.hid (Array.getElem?_eq_some_iff.1 r1).1
  have HR1 := Lib.hid r1
  have HB1 : Hid (Below g w W1) := Lib.hid (hg ▸ b1)
  have HIN := Lib.hid (hin.below b1)
  have HLN := Lib.hid hin.len
  have HF : Hid (∀ W, Below W1.heap.size W1 W → W.heap[g]? = some (.cells (l.cells p).toArray 37 (0, 0))) := Lib.hid (fun W h => (h.block g HGS.out).trans HR1.out)
  have HBW : Hid (∀ W, Below W1.heap.size W1 W → Below g w W) := Lib.hid (fun W h => HB1.out.trans (h.mono (Nat.le_of_lt HGS.out)))
  obtain ⟨V, hV⟩ : ∃ V, rightL l = V := ⟨_, rfl⟩
  have HV : Hid (rrL l = V) := Lib.hid ((rrL_right l).trans hV)
  rw [hV]
  obtain ⟨x0, x1, x2, x3, x4, x5, x6, x7, x8, x9, xp⟩ := ltRow_of r1 hin.len
  have HX : Hid (W1.cell? ⟨g, 0, none⟩ = some (.int .i64 l.kind) ∧ W1.cell? ⟨g, 4, none⟩ = some (.slice p.rA l.refs.length p.rc) ∧ W1.cell? ⟨g, 5, none⟩ = some (.slice p.wA l.wants.length p.wc) ∧ W1.cell? ⟨g, 6, none⟩ = some (.slice p.hA l.haves.length p.hc) ∧ W1.cell? ⟨g, 7, none⟩ = some (.int .i64 l.off) ∧ W1.cell? ⟨g, 8, none⟩ = some (.int .i64 l.total) ∧ W1.cell? ⟨g, 41, none⟩ = some (.slice p.dA l.data.length p.dc) ∧ W1.rangeAt g 9 (b8s l.pack)) := Lib.hid ⟨x0, x4, x5, x6, x7, x8, x9, xp⟩
  unfold Lt.val
  rw [hg]
  clear r1 b1 s1 hin hV x0 x4 x5 x6 x7 x8 x9 xp
  have HRR : Hid (rrL l = kindR l) := Lib.hid (rrL_rest hok)
  obtain ⟨x0, x4, x5, x6, x7, x8, x9, xp⟩ := HX.out
  have HIX := Lib.hid (info_arr32 l.pack HLN.out)
  have heqi : ∀ w, (Op.equalIn 10000 24 (.agg (b8s l.pack).toArray) (.agg #[Value.int .u8 0, Value.int .u8 0, Value.int .u8 0, Value.int .u8 0, Value.int .u8 0, Value.int .u8 0, Value.int .u8 0, Value.int .u8 0, Value.int .u8 0, Value.int .u8 0, Value.int .u8 0, Value.int .u8 0, Value.int .u8 0, Value.int .u8 0, Value.int .u8 0, Value.int .u8 0, Value.int .u8 0, Value.int .u8 0, Value.int .u8 0, Value.int .u8 0, Value.int .u8 0, Value.int .u8 0, Value.int .u8 0, Value.int .u8 0, Value.int .u8 0, Value.int .u8 0, Value.int .u8 0, Value.int .u8 0, Value.int .u8 0, Value.int .u8 0, Value.int .u8 0, Value.int .u8 0])).run Try.prog w = .ok (decide (l.pack = zeros32)) w := fun w => by
    have := eqin_id 24 Try.underlying24 9998 l.pack zeros32 HLN.out rfl w
    rw [zeros32_cells] at this
    exact this
  have hgd : ∀ o x y w, (eqGuard o 24 x y (.agg (b8s l.pack).toArray) (.agg #[Value.int .u8 0, Value.int .u8 0, Value.int .u8 0, Value.int .u8 0, Value.int .u8 0, Value.int .u8 0, Value.int .u8 0, Value.int .u8 0, Value.int .u8 0, Value.int .u8 0, Value.int .u8 0, Value.int .u8 0, Value.int .u8 0, Value.int .u8 0, Value.int .u8 0, Value.int .u8 0, Value.int .u8 0, Value.int .u8 0, Value.int .u8 0, Value.int .u8 0, Value.int .u8 0, Value.int .u8 0, Value.int .u8 0, Value.int .u8 0, Value.int .u8 0, Value.int .u8 0, Value.int .u8 0, Value.int .u8 0, Value.int .u8 0, Value.int .u8 0, Value.int .u8 0, Value.int .u8 0])).run Try.prog w = .ok () w := fun o x y w => guard_arr o 24 x y _ _ w (by kernel_rfl)
  obtain ⟨t1, t2, t3, t4, t5, t6, t7⟩ := hok
  have HE1 := Lib.hid e1
  clear e1
  have tb : (l.from_ == l.to_) = false := by simpa using t5
  obtain ⟨nr, hnr⟩ : ∃ n, l.refs.length = n := ⟨_, rfl⟩
  have HNR := Lib.hid hnr
  rw [hnr] at x4
  have HR0 : Hid (refs0 l = decide (nr = 0)) := Lib.hid (by unfold refs0; rw [hnr])
  clear hnr
  have HN0 : Hid (want0 l = false) := Lib.hid (by unfold want0; simp [hcfg, hcfg2])
  obtain ⟨nw, hnw⟩ : ∃ n, l.wants.length = n := ⟨_, rfl⟩
  obtain ⟨nh, hnh⟩ : ∃ n, l.haves.length = n := ⟨_, rfl⟩
  have HNW := Lib.hid hnw
  have HNH := Lib.hid hnh
  rw [hnw] at x5
  rw [hnh] at x6
  rw [hnw] at hcfg
  rw [hnh] at hcfg2
  obtain rfl : nw = 0 := by omega
  have q1 : ((nh : Int) == 0) = false := by rw [beq_eq_false_iff_ne]; omega
  clear hnw hnh hcfg hcfg2
  go_enter Try.func10, Try.ntmps10
  go_upto_region 5 with fail
  clear t1 t2 t3 t4 t5 t6 t7 tb x1 x2 x3 q1
  go_cut [5] (fun a wx => a = .bool (part0 l) ∧ wx = W1)
  case first =>
    go_wp2_with ((with_reducible (refine wpList_load_cells 24 _ g 9 (b8s l.pack) xp Try.underlying24 rfl HIX.out ?_ rfl ?_ ?_)); (exact rfl); (exact rfl))
    all_goals
      go_meet
      case rel => exact ⟨congrArg Value.bool (by unfold part0; rw [← len0]; simp_all), rfl⟩
  case rest =>
  obtain ⟨rfl, hw⟩ := hcut
  have hw' := hw.symm
  subst hw'
  clear hw heqi
  obtain ⟨P0, hP0⟩ : ∃ b, part0 l = b := ⟨_, rfl⟩
  rw [hP0]
  have HP0 := Lib.hid hP0
  clear hP0
  have e1 := HE1.out
  have d1 : (l.kind == 1) = true := by rw [e1]; rfl
  have E1 : Hid (V = (decide (nr = 0) && false && P0 && (l.off == 0))) := Lib.hid (by rw [← HV.out, HRR.out, kindR_1 e1, HR0.out, HN0.out, HP0.out])
  clear e1
  by_cases hr : nr = 0
  rotate_left
  · have r1 : ((nr : Int) == 0) = false := by rw [beq_eq_false_iff_ne]; omega
    have HH := Lib.hid (decide_eq_false hr)
    go_wp2_with fail
    go_ret
    exact ⟨ret_bool (by rw [E1.out, HH.out]; simp), HB1.out⟩
  subst hr
  go_wp2_with fail
  go_ret
  exact ⟨ret_bool (by rw [E1.out]; simp), HB1.out⟩

set_option maxRecDepth 100000 in
set_option maxHeartbeats 32000000 in
theorem rright_ok1c (l : Lt) (p : LtP) (w : World) (hin : LtIn w l p) (hok : (1 ≤ l.from_ ∧ l.from_ ≤ 65536 ∧ 1 ≤ l.to_ ∧ l.to_ ≤ 65536 ∧ l.from_ ≠ l.to_ ∧ 1 ≤ l.session ∧ l.session ≤ 1099511627776)) (e1 : l.kind = 1) (hcfg : l.wants.length = 0) (hcfg2 : l.haves.length = 0) (hoff : -9223372036854775808 ≤ l.off ∧ l.off ≤ 9223372036854775807) : Calls Try.prog 10 #[l.val p] w fun e w' => e = .returned (.bool (rightL l)) ∧ Below w.heap.size w w' := by
  obtain ⟨W1, hW1⟩ : ∃ W, w.alloc (.cells (l.cells p).toArray 37) = W := ⟨_, rfl⟩
  obtain ⟨r1, b1, s1⟩ := new_row hW1
  obtain ⟨g, hg⟩ : ∃ g, w.heap.size = g := ⟨_, rfl⟩
  rw [hg] at r1
  have HGS : Hid (g < W1.heap.size) := Lib.hid (Array.getElem?_eq_some_iff.1 r1).1
  have HR1 := Lib.hid r1
  have HB1 : Hid (Below g w W1) := Lib.hid (hg ▸ b1)
  have HIN := Lib.hid (hin.below b1)
  have HLN := Lib.hid hin.len
  have HF : Hid (∀ W, Below W1.heap.size W1 W → W.heap[g]? = some (.cells (l.cells p).toArray 37 (0, 0))) := Lib.hid (fun W h => (h.block g HGS.out).trans HR1.out)
  have HBW : Hid (∀ W, Below W1.heap.size W1 W → Below g w W) := Lib.hid (fun W h => HB1.out.trans (h.mono (Nat.le_of_lt HGS.out)))
  obtain ⟨V, hV⟩ : ∃ V, rightL l = V := ⟨_, rfl⟩
  have HV : Hid (rrL l = V) := Lib.hid ((rrL_right l).trans hV)
  rw [hV]
  obtain ⟨x0, x1, x2, x3, x4, x5, x6, x7, x8, x9, xp⟩ := ltRow_of r1 hin.len
  have HX : Hid (W1.cell? ⟨g, 0, none⟩ = some (.int .i64 l.kind) ∧ W1.cell? ⟨g, 4, none⟩ = some (.slice p.rA l.refs.length p.rc) ∧ W1.cell? ⟨g, 5, none⟩ = some (.slice p.wA l.wants.length p.wc) ∧ W1.cell? ⟨g, 6, none⟩ = some (.slice p.hA l.haves.length p.hc) ∧ W1.cell? ⟨g, 7, none⟩ = some (.int .i64 l.off) ∧ W1.cell? ⟨g, 8, none⟩ = some (.int .i64 l.total) ∧ W1.cell? ⟨g, 41, none⟩ = some (.slice p.dA l.data.length p.dc) ∧ W1.rangeAt g 9 (b8s l.pack)) := Lib.hid ⟨x0, x4, x5, x6, x7, x8, x9, xp⟩
  unfold Lt.val
  rw [hg]
  clear r1 b1 s1 hin hV x0 x4 x5 x6 x7 x8 x9 xp
  have HRR : Hid (rrL l = kindR l) := Lib.hid (rrL_rest hok)
  obtain ⟨x0, x4, x5, x6, x7, x8, x9, xp⟩ := HX.out
  have HIX := Lib.hid (info_arr32 l.pack HLN.out)
  have heqi : ∀ w, (Op.equalIn 10000 24 (.agg (b8s l.pack).toArray) (.agg #[Value.int .u8 0, Value.int .u8 0, Value.int .u8 0, Value.int .u8 0, Value.int .u8 0, Value.int .u8 0, Value.int .u8 0, Value.int .u8 0, Value.int .u8 0, Value.int .u8 0, Value.int .u8 0, Value.int .u8 0, Value.int .u8 0, Value.int .u8 0, Value.int .u8 0, Value.int .u8 0, Value.int .u8 0, Value.int .u8 0, Value.int .u8 0, Value.int .u8 0, Value.int .u8 0, Value.int .u8 0, Value.int .u8 0, Value.int .u8 0, Value.int .u8 0, Value.int .u8 0, Value.int .u8 0, Value.int .u8 0, Value.int .u8 0, Value.int .u8 0, Value.int .u8 0, Value.int .u8 0])).run Try.prog w = .ok (decide (l.pack = zeros32)) w := fun w => by
    have := eqin_id 24 Try.underlying24 9998 l.pack zeros32 HLN.out rfl w
    rw [zeros32_cells] at this
    exact this
  have hgd : ∀ o x y w, (eqGuard o 24 x y (.agg (b8s l.pack).toArray) (.agg #[Value.int .u8 0, Value.int .u8 0, Value.int .u8 0, Value.int .u8 0, Value.int .u8 0, Value.int .u8 0, Value.int .u8 0, Value.int .u8 0, Value.int .u8 0, Value.int .u8 0, Value.int .u8 0, Value.int .u8 0, Value.int .u8 0, Value.int .u8 0, Value.int .u8 0, Value.int .u8 0, Value.int .u8 0, Value.int .u8 0, Value.int .u8 0, Value.int .u8 0, Value.int .u8 0, Value.int .u8 0, Value.int .u8 0, Value.int .u8 0, Value.int .u8 0, Value.int .u8 0, Value.int .u8 0, Value.int .u8 0, Value.int .u8 0, Value.int .u8 0, Value.int .u8 0, Value.int .u8 0])).run Try.prog w = .ok () w := fun o x y w => guard_arr o 24 x y _ _ w (by kernel_rfl)
  obtain ⟨t1, t2, t3, t4, t5, t6, t7⟩ := hok
  have HE1 := Lib.hid e1
  clear e1
  have tb : (l.from_ == l.to_) = false := by simpa using t5
  obtain ⟨nr, hnr⟩ : ∃ n, l.refs.length = n := ⟨_, rfl⟩
  have HNR := Lib.hid hnr
  rw [hnr] at x4
  have HR0 : Hid (refs0 l = decide (nr = 0)) := Lib.hid (by unfold refs0; rw [hnr])
  clear hnr
  have HN0 : Hid (want0 l = true) := Lib.hid (by unfold want0; simp [hcfg, hcfg2])
  obtain ⟨nw, hnw⟩ : ∃ n, l.wants.length = n := ⟨_, rfl⟩
  obtain ⟨nh, hnh⟩ : ∃ n, l.haves.length = n := ⟨_, rfl⟩
  have HNW := Lib.hid hnw
  have HNH := Lib.hid hnh
  rw [hnw] at x5
  rw [hnh] at x6
  rw [hnw] at hcfg
  rw [hnh] at hcfg2
  obtain rfl : nw = 0 := by omega
  obtain rfl : nh = 0 := by omega
  clear hnw hnh hcfg hcfg2
  go_enter Try.func10, Try.ntmps10
  go_upto_region 5 with fail
  clear t1 t2 t3 t4 t5 t6 t7 tb x1 x2 x3 
  go_cut [5] (fun a wx => a = .bool (part0 l) ∧ wx = W1)
  case first =>
    go_wp2_with ((with_reducible (refine wpList_load_cells 24 _ g 9 (b8s l.pack) xp Try.underlying24 rfl HIX.out ?_ rfl ?_ ?_)); (exact rfl); (exact rfl))
    all_goals
      go_meet
      case rel => exact ⟨congrArg Value.bool (by unfold part0; rw [← len0]; simp_all), rfl⟩
  case rest =>
  obtain ⟨rfl, hw⟩ := hcut
  have hw' := hw.symm
  subst hw'
  clear hw heqi
  obtain ⟨P0, hP0⟩ : ∃ b, part0 l = b := ⟨_, rfl⟩
  rw [hP0]
  have HP0 := Lib.hid hP0
  clear hP0
  have e1 := HE1.out
  have d1 : (l.kind == 1) = true := by rw [e1]; rfl
  have E1 : Hid (V = (decide (nr = 0) && true && P0 && (l.off == 0))) := Lib.hid (by rw [← HV.out, HRR.out, kindR_1 e1, HR0.out, HN0.out, HP0.out])
  clear e1
  by_cases hr : nr = 0
  rotate_left
  · have r1 : ((nr : Int) == 0) = false := by rw [beq_eq_false_iff_ne]; omega
    have HH := Lib.hid (decide_eq_false hr)
    go_wp2_with fail
    go_ret
    exact ⟨ret_bool (by rw [E1.out, HH.out]; simp), HB1.out⟩
  subst hr
  cases P0
  · go_wp2_with fail
    go_ret
    exact ⟨ret_bool (by rw [E1.out]; simp), HB1.out⟩
  cases d7 : (l.off == 0)
  all_goals
    have D7 := Lib.hid d7
    go_wp2_with fail
    go_ret
    exact ⟨ret_bool (by rw [E1.out, D7.out]; rfl), HB1.out⟩

set_option maxRecDepth 100000 in
set_option maxHeartbeats 32000000 in
theorem rright_ok4a (l : Lt) (p : LtP) (w : World) (hin : LtIn w l p) (hok : (1 ≤ l.from_ ∧ l.from_ ≤ 65536 ∧ 1 ≤ l.to_ ∧ l.to_ ≤ 65536 ∧ l.from_ ≠ l.to_ ∧ 1 ≤ l.session ∧ l.session ≤ 1099511627776)) (e1 : ¬ l.kind = 1) (e2 : ¬ l.kind = 2) (e3 : ¬ l.kind = 3) (e4 : l.kind = 4) (hcfg : ¬ l.wants.length = 0) (hoff : -9223372036854775808 ≤ l.off ∧ l.off ≤ 9223372036854775807) : Calls Try.prog 10 #[l.val p] w fun e w' => e = .returned (.bool (rightL l)) ∧ Below w.heap.size w w' := by
  obtain ⟨W1, hW1⟩ : ∃ W, w.alloc (.cells (l.cells p).toArray 37) = W := ⟨_, rfl⟩
  obtain ⟨r1, b1, s1⟩ := new_row hW1
  obtain ⟨g, hg⟩ : ∃ g, w.heap.size = g := ⟨_, rfl⟩
  rw [hg] at r1
  have HGS : Hid (g < W1.heap.size) := Lib.hid (Array.getElem?_eq_some_iff.1 r1).1
  have HR1 := Lib.hid r1
  have HB1 : Hid (Below g w W1) := Lib.hid (hg ▸ b1)
  have HIN := Lib.hid (hin.below b1)
  have HLN := Lib.hid hin.len
  have HF : Hid (∀ W, Below W1.heap.size W1 W → W.heap[g]? = some (.cells (l.cells p).toArray 37 (0, 0))) := Lib.hid (fun W h => (h.block g HGS.out).trans HR1.out)
  have HBW : Hid (∀ W, Below W1.heap.size W1 W → Below g w W) := Lib.hid (fun W h => HB1.out.trans (h.mono (Nat.le_of_lt HGS.out)))
  obtain ⟨V, hV⟩ : ∃ V, rightL l = V := ⟨_, rfl⟩
  have HV : Hid (rrL l = V) := Lib.hid ((rrL_right l).trans hV)
  rw [hV]
  obtain ⟨x0, x1, x2, x3, x4, x5, x6, x7, x8, x9, xp⟩ := ltRow_of r1 hin.len
  have HX : Hid (W1.cell? ⟨g, 0, none⟩ = some (.int .i64 l.kind) ∧ W1.cell? ⟨g, 4, none⟩ = some (.slice p.rA l.refs.length p.rc) ∧ W1.cell? ⟨g, 5, none⟩ = some (.slice p.wA l.wants.length p.wc) ∧ W1.cell? ⟨g, 6, none⟩ = some (.slice p.hA l.haves.length p.hc) ∧ W1.cell? ⟨g, 7, none⟩ = some (.int .i64 l.off) ∧ W1.cell? ⟨g, 8, none⟩ = some (.int .i64 l.total) ∧ W1.cell? ⟨g, 41, none⟩ = some (.slice p.dA l.data.length p.dc) ∧ W1.rangeAt g 9 (b8s l.pack)) := Lib.hid ⟨x0, x4, x5, x6, x7, x8, x9, xp⟩
  unfold Lt.val
  rw [hg]
  clear r1 b1 s1 hin hV x0 x4 x5 x6 x7 x8 x9 xp
  have HRR : Hid (rrL l = kindR l) := Lib.hid (rrL_rest hok)
  obtain ⟨x0, x4, x5, x6, x7, x8, x9, xp⟩ := HX.out
  have HIX := Lib.hid (info_arr32 l.pack HLN.out)
  have heqi : ∀ w, (Op.equalIn 10000 24 (.agg (b8s l.pack).toArray) (.agg #[Value.int .u8 0, Value.int .u8 0, Value.int .u8 0, Value.int .u8 0, Value.int .u8 0, Value.int .u8 0, Value.int .u8 0, Value.int .u8 0, Value.int .u8 0, Value.int .u8 0, Value.int .u8 0, Value.int .u8 0, Value.int .u8 0, Value.int .u8 0, Value.int .u8 0, Value.int .u8 0, Value.int .u8 0, Value.int .u8 0, Value.int .u8 0, Value.int .u8 0, Value.int .u8 0, Value.int .u8 0, Value.int .u8 0, Value.int .u8 0, Value.int .u8 0, Value.int .u8 0, Value.int .u8 0, Value.int .u8 0, Value.int .u8 0, Value.int .u8 0, Value.int .u8 0, Value.int .u8 0])).run Try.prog w = .ok (decide (l.pack = zeros32)) w := fun w => by
    have := eqin_id 24 Try.underlying24 9998 l.pack zeros32 HLN.out rfl w
    rw [zeros32_cells] at this
    exact this
  have hgd : ∀ o x y w, (eqGuard o 24 x y (.agg (b8s l.pack).toArray) (.agg #[Value.int .u8 0, Value.int .u8 0, Value.int .u8 0, Value.int .u8 0, Value.int .u8 0, Value.int .u8 0, Value.int .u8 0, Value.int .u8 0, Value.int .u8 0, Value.int .u8 0, Value.int .u8 0, Value.int .u8 0, Value.int .u8 0, Value.int .u8 0, Value.int .u8 0, Value.int .u8 0, Value.int .u8 0, Value.int .u8 0, Value.int .u8 0, Value.int .u8 0, Value.int .u8 0, Value.int .u8 0, Value.int .u8 0, Value.int .u8 0, Value.int .u8 0, Value.int .u8 0, Value.int .u8 0, Value.int .u8 0, Value.int .u8 0, Value.int .u8 0, Value.int .u8 0, Value.int .u8 0])).run Try.prog w = .ok () w := fun o x y w => guard_arr o 24 x y _ _ w (by kernel_rfl)
  obtain ⟨t1, t2, t3, t4, t5, t6, t7⟩ := hok
  have HE1 := Lib.hid e1
  have HE2 := Lib.hid e2
  have HE3 := Lib.hid e3
  have HE4 := Lib.hid e4
  clear e1 e2 e3 e4
  have tb : (l.from_ == l.to_) = false := by simpa using t5
  obtain ⟨nr, hnr⟩ : ∃ n, l.refs.length = n := ⟨_, rfl⟩
  have HNR := Lib.hid hnr
  rw [hnr] at x4
  have HR0 : Hid (refs0 l = decide (nr = 0)) := Lib.hid (by unfold refs0; rw [hnr])
  clear hnr
  have HN0 : Hid (want0 l = false) := Lib.hid (by unfold want0; simp [hcfg])
  obtain ⟨nw, hnw⟩ : ∃ n, l.wants.length = n := ⟨_, rfl⟩
  obtain ⟨nh, hnh⟩ : ∃ n, l.haves.length = n := ⟨_, rfl⟩
  have HNW := Lib.hid hnw
  have HNH := Lib.hid hnh
  rw [hnw] at x5
  rw [hnh] at x6
  rw [hnw] at hcfg
  have q1 : ((nw : Int) == 0) = false := by rw [beq_eq_false_iff_ne]; omega
  clear hnw hnh hcfg
  go_enter Try.func10, Try.ntmps10
  go_upto_region 5 with fail
  clear t1 t2 t3 t4 t5 t6 t7 tb x1 x2 x3 q1
  go_cut [5] (fun a wx => a = .bool (part0 l) ∧ wx = W1)
  case first =>
    go_wp2_with ((with_reducible (refine wpList_load_cells 24 _ g 9 (b8s l.pack) xp Try.underlying24 rfl HIX.out ?_ rfl ?_ ?_)); (exact rfl); (exact rfl))
    all_goals
      go_meet
      case rel => exact ⟨congrArg Value.bool (by unfold part0; rw [← len0]; simp_all), rfl⟩
  case rest =>
  obtain ⟨rfl, hw⟩ := hcut
  have hw' := hw.symm
  subst hw'
  clear hw heqi
  obtain ⟨P0, hP0⟩ : ∃ b, part0 l = b := ⟨_, rfl⟩
  rw [hP0]
  have HP0 := Lib.hid hP0
  clear hP0
  have e1 := HE1.out
  have e2 := HE2.out
  have e3 := HE3.out
  have e4 := HE4.out
  have d1 : (l.kind == 1) = false := by simpa using e1
  have d2 : (l.kind == 2) = false := by simpa using e2
  have d3 : (l.kind == 3) = false := by simpa using e3
  have d4 : (l.kind == 4) = true := by rw [e4]; rfl
  have E4 : Hid (V = (decide (nr = 0) && false && !decide (l.pack = zeros32) && decide (0 ≤ l.off) && decide (l.total ≤ 1048576) && decide (l.data.length ≤ 500) && decide (l.off ≤ 1048576) && decide (l.off + (l.data.length : Int) ≤ l.total) && (decide (0 < l.data.length) || (l.off == l.total)))) := Lib.hid (by rw [← HV.out, HRR.out, kindR_4 e4, HR0.out, HN0.out])
  clear e1 e2 e3 e4
  obtain ⟨n, hn⟩ : ∃ n, l.data.length = n := ⟨_, rfl⟩
  rw [hn] at x9 E4
  clear hn
  by_cases hr : nr = 0
  rotate_left
  · have r1 : ((nr : Int) == 0) = false := by rw [beq_eq_false_iff_ne]; omega
    have HH := Lib.hid (decide_eq_false hr)
    go_wp2_with fail
    go_ret
    exact ⟨ret_bool (by rw [E4.out, HH.out]; simp), HB1.out⟩
  subst hr
  go_wp2_with fail
  go_ret
  exact ⟨ret_bool (by rw [E4.out]; simp), HB1.out⟩

set_option maxRecDepth 100000 in
set_option maxHeartbeats 32000000 in
theorem rright_ok4b (l : Lt) (p : LtP) (w : World) (hin : LtIn w l p) (hok : (1 ≤ l.from_ ∧ l.from_ ≤ 65536 ∧ 1 ≤ l.to_ ∧ l.to_ ≤ 65536 ∧ l.from_ ≠ l.to_ ∧ 1 ≤ l.session ∧ l.session ≤ 1099511627776)) (e1 : ¬ l.kind = 1) (e2 : ¬ l.kind = 2) (e3 : ¬ l.kind = 3) (e4 : l.kind = 4) (hcfg : l.wants.length = 0) (hcfg2 : ¬ l.haves.length = 0) (hoff : -9223372036854775808 ≤ l.off ∧ l.off ≤ 9223372036854775807) : Calls Try.prog 10 #[l.val p] w fun e w' => e = .returned (.bool (rightL l)) ∧ Below w.heap.size w w' := by
  obtain ⟨W1, hW1⟩ : ∃ W, w.alloc (.cells (l.cells p).toArray 37) = W := ⟨_, rfl⟩
  obtain ⟨r1, b1, s1⟩ := new_row hW1
  obtain ⟨g, hg⟩ : ∃ g, w.heap.size = g := ⟨_, rfl⟩
  rw [hg] at r1
  have HGS : Hid (g < W1.heap.size) := Lib.hid (Array.getElem?_eq_some_iff.1 r1).1
  have HR1 := Lib.hid r1
  have HB1 : Hid (Below g w W1) := Lib.hid (hg ▸ b1)
  have HIN := Lib.hid (hin.below b1)
  have HLN := Lib.hid hin.len
  have HF : Hid (∀ W, Below W1.heap.size W1 W → W.heap[g]? = some (.cells (l.cells p).toArray 37 (0, 0))) := Lib.hid (fun W h => (h.block g HGS.out).trans HR1.out)
  have HBW : Hid (∀ W, Below W1.heap.size W1 W → Below g w W) := Lib.hid (fun W h => HB1.out.trans (h.mono (Nat.le_of_lt HGS.out)))
  obtain ⟨V, hV⟩ : ∃ V, rightL l = V := ⟨_, rfl⟩
  have HV : Hid (rrL l = V) := Lib.hid ((rrL_right l).trans hV)
  rw [hV]
  obtain ⟨x0, x1, x2, x3, x4, x5, x6, x7, x8, x9, xp⟩ := ltRow_of r1 hin.len
  have HX : Hid (W1.cell? ⟨g, 0, none⟩ = some (.int .i64 l.kind) ∧ W1.cell? ⟨g, 4, none⟩ = some (.slice p.rA l.refs.length p.rc) ∧ W1.cell? ⟨g, 5, none⟩ = some (.slice p.wA l.wants.length p.wc) ∧ W1.cell? ⟨g, 6, none⟩ = some (.slice p.hA l.haves.length p.hc) ∧ W1.cell? ⟨g, 7, none⟩ = some (.int .i64 l.off) ∧ W1.cell? ⟨g, 8, none⟩ = some (.int .i64 l.total) ∧ W1.cell? ⟨g, 41, none⟩ = some (.slice p.dA l.data.length p.dc) ∧ W1.rangeAt g 9 (b8s l.pack)) := Lib.hid ⟨x0, x4, x5, x6, x7, x8, x9, xp⟩
  unfold Lt.val
  rw [hg]
  clear r1 b1 s1 hin hV x0 x4 x5 x6 x7 x8 x9 xp
  have HRR : Hid (rrL l = kindR l) := Lib.hid (rrL_rest hok)
  obtain ⟨x0, x4, x5, x6, x7, x8, x9, xp⟩ := HX.out
  have HIX := Lib.hid (info_arr32 l.pack HLN.out)
  have heqi : ∀ w, (Op.equalIn 10000 24 (.agg (b8s l.pack).toArray) (.agg #[Value.int .u8 0, Value.int .u8 0, Value.int .u8 0, Value.int .u8 0, Value.int .u8 0, Value.int .u8 0, Value.int .u8 0, Value.int .u8 0, Value.int .u8 0, Value.int .u8 0, Value.int .u8 0, Value.int .u8 0, Value.int .u8 0, Value.int .u8 0, Value.int .u8 0, Value.int .u8 0, Value.int .u8 0, Value.int .u8 0, Value.int .u8 0, Value.int .u8 0, Value.int .u8 0, Value.int .u8 0, Value.int .u8 0, Value.int .u8 0, Value.int .u8 0, Value.int .u8 0, Value.int .u8 0, Value.int .u8 0, Value.int .u8 0, Value.int .u8 0, Value.int .u8 0, Value.int .u8 0])).run Try.prog w = .ok (decide (l.pack = zeros32)) w := fun w => by
    have := eqin_id 24 Try.underlying24 9998 l.pack zeros32 HLN.out rfl w
    rw [zeros32_cells] at this
    exact this
  have hgd : ∀ o x y w, (eqGuard o 24 x y (.agg (b8s l.pack).toArray) (.agg #[Value.int .u8 0, Value.int .u8 0, Value.int .u8 0, Value.int .u8 0, Value.int .u8 0, Value.int .u8 0, Value.int .u8 0, Value.int .u8 0, Value.int .u8 0, Value.int .u8 0, Value.int .u8 0, Value.int .u8 0, Value.int .u8 0, Value.int .u8 0, Value.int .u8 0, Value.int .u8 0, Value.int .u8 0, Value.int .u8 0, Value.int .u8 0, Value.int .u8 0, Value.int .u8 0, Value.int .u8 0, Value.int .u8 0, Value.int .u8 0, Value.int .u8 0, Value.int .u8 0, Value.int .u8 0, Value.int .u8 0, Value.int .u8 0, Value.int .u8 0, Value.int .u8 0, Value.int .u8 0])).run Try.prog w = .ok () w := fun o x y w => guard_arr o 24 x y _ _ w (by kernel_rfl)
  obtain ⟨t1, t2, t3, t4, t5, t6, t7⟩ := hok
  have HE1 := Lib.hid e1
  have HE2 := Lib.hid e2
  have HE3 := Lib.hid e3
  have HE4 := Lib.hid e4
  clear e1 e2 e3 e4
  have tb : (l.from_ == l.to_) = false := by simpa using t5
  obtain ⟨nr, hnr⟩ : ∃ n, l.refs.length = n := ⟨_, rfl⟩
  have HNR := Lib.hid hnr
  rw [hnr] at x4
  have HR0 : Hid (refs0 l = decide (nr = 0)) := Lib.hid (by unfold refs0; rw [hnr])
  clear hnr
  have HN0 : Hid (want0 l = false) := Lib.hid (by unfold want0; simp [hcfg, hcfg2])
  obtain ⟨nw, hnw⟩ : ∃ n, l.wants.length = n := ⟨_, rfl⟩
  obtain ⟨nh, hnh⟩ : ∃ n, l.haves.length = n := ⟨_, rfl⟩
  have HNW := Lib.hid hnw
  have HNH := Lib.hid hnh
  rw [hnw] at x5
  rw [hnh] at x6
  rw [hnw] at hcfg
  rw [hnh] at hcfg2
  obtain rfl : nw = 0 := by omega
  have q1 : ((nh : Int) == 0) = false := by rw [beq_eq_false_iff_ne]; omega
  clear hnw hnh hcfg hcfg2
  go_enter Try.func10, Try.ntmps10
  go_upto_region 5 with fail
  clear t1 t2 t3 t4 t5 t6 t7 tb x1 x2 x3 q1
  go_cut [5] (fun a wx => a = .bool (part0 l) ∧ wx = W1)
  case first =>
    go_wp2_with ((with_reducible (refine wpList_load_cells 24 _ g 9 (b8s l.pack) xp Try.underlying24 rfl HIX.out ?_ rfl ?_ ?_)); (exact rfl); (exact rfl))
    all_goals
      go_meet
      case rel => exact ⟨congrArg Value.bool (by unfold part0; rw [← len0]; simp_all), rfl⟩
  case rest =>
  obtain ⟨rfl, hw⟩ := hcut
  have hw' := hw.symm
  subst hw'
  clear hw heqi
  obtain ⟨P0, hP0⟩ : ∃ b, part0 l = b := ⟨_, rfl⟩
  rw [hP0]
  have HP0 := Lib.hid hP0
  clear hP0
  have e1 := HE1.out
  have e2 := HE2.out
  have e3 := HE3.out
  have e4 := HE4.out
  have d1 : (l.kind == 1) = false := by simpa using e1
  have d2 : (l.kind == 2) = false := by simpa using e2
  have d3 : (l.kind == 3) = false := by simpa using e3
  have d4 : (l.kind == 4) = true := by rw [e4]; rfl
  have E4 : Hid (V = (decide (nr = 0) && false && !decide (l.pack = zeros32) && decide (0 ≤ l.off) && decide (l.total ≤ 1048576) && decide (l.data.length ≤ 500) && decide (l.off ≤ 1048576) && decide (l.off + (l.data.length : Int) ≤ l.total) && (decide (0 < l.data.length) || (l.off == l.total)))) := Lib.hid (by rw [← HV.out, HRR.out, kindR_4 e4, HR0.out, HN0.out])
  clear e1 e2 e3 e4
  obtain ⟨n, hn⟩ : ∃ n, l.data.length = n := ⟨_, rfl⟩
  rw [hn] at x9 E4
  clear hn
  by_cases hr : nr = 0
  rotate_left
  · have r1 : ((nr : Int) == 0) = false := by rw [beq_eq_false_iff_ne]; omega
    have HH := Lib.hid (decide_eq_false hr)
    go_wp2_with fail
    go_ret
    exact ⟨ret_bool (by rw [E4.out, HH.out]; simp), HB1.out⟩
  subst hr
  go_wp2_with fail
  go_ret
  exact ⟨ret_bool (by rw [E4.out]; simp), HB1.out⟩

set_option maxRecDepth 100000 in
set_option maxHeartbeats 32000000 in
theorem rright_ok4c (l : Lt) (p : LtP) (w : World) (hin : LtIn w l p) (hok : (1 ≤ l.from_ ∧ l.from_ ≤ 65536 ∧ 1 ≤ l.to_ ∧ l.to_ ≤ 65536 ∧ l.from_ ≠ l.to_ ∧ 1 ≤ l.session ∧ l.session ≤ 1099511627776)) (e1 : ¬ l.kind = 1) (e2 : ¬ l.kind = 2) (e3 : ¬ l.kind = 3) (e4 : l.kind = 4) (hcfg : l.wants.length = 0) (hcfg2 : l.haves.length = 0) (hoff : -9223372036854775808 ≤ l.off ∧ l.off ≤ 9223372036854775807) : Calls Try.prog 10 #[l.val p] w fun e w' => e = .returned (.bool (rightL l)) ∧ Below w.heap.size w w' := by
  obtain ⟨W1, hW1⟩ : ∃ W, w.alloc (.cells (l.cells p).toArray 37) = W := ⟨_, rfl⟩
  obtain ⟨r1, b1, s1⟩ := new_row hW1
  obtain ⟨g, hg⟩ : ∃ g, w.heap.size = g := ⟨_, rfl⟩
  rw [hg] at r1
  have HGS : Hid (g < W1.heap.size) := Lib.hid (Array.getElem?_eq_some_iff.1 r1).1
  have HR1 := Lib.hid r1
  have HB1 : Hid (Below g w W1) := Lib.hid (hg ▸ b1)
  have HIN := Lib.hid (hin.below b1)
  have HLN := Lib.hid hin.len
  have HF : Hid (∀ W, Below W1.heap.size W1 W → W.heap[g]? = some (.cells (l.cells p).toArray 37 (0, 0))) := Lib.hid (fun W h => (h.block g HGS.out).trans HR1.out)
  have HBW : Hid (∀ W, Below W1.heap.size W1 W → Below g w W) := Lib.hid (fun W h => HB1.out.trans (h.mono (Nat.le_of_lt HGS.out)))
  obtain ⟨V, hV⟩ : ∃ V, rightL l = V := ⟨_, rfl⟩
  have HV : Hid (rrL l = V) := Lib.hid ((rrL_right l).trans hV)
  rw [hV]
  obtain ⟨x0, x1, x2, x3, x4, x5, x6, x7, x8, x9, xp⟩ := ltRow_of r1 hin.len
  have HX : Hid (W1.cell? ⟨g, 0, none⟩ = some (.int .i64 l.kind) ∧ W1.cell? ⟨g, 4, none⟩ = some (.slice p.rA l.refs.length p.rc) ∧ W1.cell? ⟨g, 5, none⟩ = some (.slice p.wA l.wants.length p.wc) ∧ W1.cell? ⟨g, 6, none⟩ = some (.slice p.hA l.haves.length p.hc) ∧ W1.cell? ⟨g, 7, none⟩ = some (.int .i64 l.off) ∧ W1.cell? ⟨g, 8, none⟩ = some (.int .i64 l.total) ∧ W1.cell? ⟨g, 41, none⟩ = some (.slice p.dA l.data.length p.dc) ∧ W1.rangeAt g 9 (b8s l.pack)) := Lib.hid ⟨x0, x4, x5, x6, x7, x8, x9, xp⟩
  unfold Lt.val
  rw [hg]
  clear r1 b1 s1 hin hV x0 x4 x5 x6 x7 x8 x9 xp
  have HRR : Hid (rrL l = kindR l) := Lib.hid (rrL_rest hok)
  obtain ⟨x0, x4, x5, x6, x7, x8, x9, xp⟩ := HX.out
  have HIX := Lib.hid (info_arr32 l.pack HLN.out)
  have heqi : ∀ w, (Op.equalIn 10000 24 (.agg (b8s l.pack).toArray) (.agg #[Value.int .u8 0, Value.int .u8 0, Value.int .u8 0, Value.int .u8 0, Value.int .u8 0, Value.int .u8 0, Value.int .u8 0, Value.int .u8 0, Value.int .u8 0, Value.int .u8 0, Value.int .u8 0, Value.int .u8 0, Value.int .u8 0, Value.int .u8 0, Value.int .u8 0, Value.int .u8 0, Value.int .u8 0, Value.int .u8 0, Value.int .u8 0, Value.int .u8 0, Value.int .u8 0, Value.int .u8 0, Value.int .u8 0, Value.int .u8 0, Value.int .u8 0, Value.int .u8 0, Value.int .u8 0, Value.int .u8 0, Value.int .u8 0, Value.int .u8 0, Value.int .u8 0, Value.int .u8 0])).run Try.prog w = .ok (decide (l.pack = zeros32)) w := fun w => by
    have := eqin_id 24 Try.underlying24 9998 l.pack zeros32 HLN.out rfl w
    rw [zeros32_cells] at this
    exact this
  have hgd : ∀ o x y w, (eqGuard o 24 x y (.agg (b8s l.pack).toArray) (.agg #[Value.int .u8 0, Value.int .u8 0, Value.int .u8 0, Value.int .u8 0, Value.int .u8 0, Value.int .u8 0, Value.int .u8 0, Value.int .u8 0, Value.int .u8 0, Value.int .u8 0, Value.int .u8 0, Value.int .u8 0, Value.int .u8 0, Value.int .u8 0, Value.int .u8 0, Value.int .u8 0, Value.int .u8 0, Value.int .u8 0, Value.int .u8 0, Value.int .u8 0, Value.int .u8 0, Value.int .u8 0, Value.int .u8 0, Value.int .u8 0, Value.int .u8 0, Value.int .u8 0, Value.int .u8 0, Value.int .u8 0, Value.int .u8 0, Value.int .u8 0, Value.int .u8 0, Value.int .u8 0])).run Try.prog w = .ok () w := fun o x y w => guard_arr o 24 x y _ _ w (by kernel_rfl)
  obtain ⟨t1, t2, t3, t4, t5, t6, t7⟩ := hok
  have HE1 := Lib.hid e1
  have HE2 := Lib.hid e2
  have HE3 := Lib.hid e3
  have HE4 := Lib.hid e4
  clear e1 e2 e3 e4
  have tb : (l.from_ == l.to_) = false := by simpa using t5
  obtain ⟨nr, hnr⟩ : ∃ n, l.refs.length = n := ⟨_, rfl⟩
  have HNR := Lib.hid hnr
  rw [hnr] at x4
  have HR0 : Hid (refs0 l = decide (nr = 0)) := Lib.hid (by unfold refs0; rw [hnr])
  clear hnr
  have HN0 : Hid (want0 l = true) := Lib.hid (by unfold want0; simp [hcfg, hcfg2])
  obtain ⟨nw, hnw⟩ : ∃ n, l.wants.length = n := ⟨_, rfl⟩
  obtain ⟨nh, hnh⟩ : ∃ n, l.haves.length = n := ⟨_, rfl⟩
  have HNW := Lib.hid hnw
  have HNH := Lib.hid hnh
  rw [hnw] at x5
  rw [hnh] at x6
  rw [hnw] at hcfg
  rw [hnh] at hcfg2
  obtain rfl : nw = 0 := by omega
  obtain rfl : nh = 0 := by omega
  clear hnw hnh hcfg hcfg2
  go_enter Try.func10, Try.ntmps10
  go_upto_region 5 with fail
  clear t1 t2 t3 t4 t5 t6 t7 tb x1 x2 x3 
  go_cut [5] (fun a wx => a = .bool (part0 l) ∧ wx = W1)
  case first =>
    go_wp2_with ((with_reducible (refine wpList_load_cells 24 _ g 9 (b8s l.pack) xp Try.underlying24 rfl HIX.out ?_ rfl ?_ ?_)); (exact rfl); (exact rfl))
    all_goals
      go_meet
      case rel => exact ⟨congrArg Value.bool (by unfold part0; rw [← len0]; simp_all), rfl⟩
  case rest =>
  obtain ⟨rfl, hw⟩ := hcut
  have hw' := hw.symm
  subst hw'
  clear hw heqi
  obtain ⟨P0, hP0⟩ : ∃ b, part0 l = b := ⟨_, rfl⟩
  rw [hP0]
  have HP0 := Lib.hid hP0
  clear hP0
  have e1 := HE1.out
  have e2 := HE2.out
  have e3 := HE3.out
  have e4 := HE4.out
  have d1 : (l.kind == 1) = false := by simpa using e1
  have d2 : (l.kind == 2) = false := by simpa using e2
  have d3 : (l.kind == 3) = false := by simpa using e3
  have d4 : (l.kind == 4) = true := by rw [e4]; rfl
  have E4 : Hid (V = (decide (nr = 0) && true && !decide (l.pack = zeros32) && decide (0 ≤ l.off) && decide (l.total ≤ 1048576) && decide (l.data.length ≤ 500) && decide (l.off ≤ 1048576) && decide (l.off + (l.data.length : Int) ≤ l.total) && (decide (0 < l.data.length) || (l.off == l.total)))) := Lib.hid (by rw [← HV.out, HRR.out, kindR_4 e4, HR0.out, HN0.out])
  clear e1 e2 e3 e4
  obtain ⟨n, hn⟩ : ∃ n, l.data.length = n := ⟨_, rfl⟩
  rw [hn] at x9 E4
  clear hn
  by_cases hr : nr = 0
  rotate_left
  · have r1 : ((nr : Int) == 0) = false := by rw [beq_eq_false_iff_ne]; omega
    have HH := Lib.hid (decide_eq_false hr)
    go_wp2_with fail
    go_ret
    exact ⟨ret_bool (by rw [E4.out, HH.out]; simp), HB1.out⟩
  subst hr
  obtain ⟨z, hz⟩ : ∃ z, decide (l.pack = zeros32) = z := ⟨_, rfl⟩
  have HZ := Lib.hid hz
  have heqi : ∀ w, (Op.equalIn 10000 24 (.agg (b8s l.pack).toArray) (.agg #[Value.int .u8 0, Value.int .u8 0, Value.int .u8 0, Value.int .u8 0, Value.int .u8 0, Value.int .u8 0, Value.int .u8 0, Value.int .u8 0, Value.int .u8 0, Value.int .u8 0, Value.int .u8 0, Value.int .u8 0, Value.int .u8 0, Value.int .u8 0, Value.int .u8 0, Value.int .u8 0, Value.int .u8 0, Value.int .u8 0, Value.int .u8 0, Value.int .u8 0, Value.int .u8 0, Value.int .u8 0, Value.int .u8 0, Value.int .u8 0, Value.int .u8 0, Value.int .u8 0, Value.int .u8 0, Value.int .u8 0, Value.int .u8 0, Value.int .u8 0, Value.int .u8 0, Value.int .u8 0])).run Try.prog w = .ok z w := fun w => by
    have := eqin_id 24 Try.underlying24 9998 l.pack zeros32 HLN.out rfl w
    rw [zeros32_cells] at this
    rw [this, HZ.out]
  clear hz
  cases z
  rotate_left
  · go_wp2_with ((with_reducible (refine wpList_load_cells 24 _ g 9 (b8s l.pack) xp Try.underlying24 rfl HIX.out ?_ rfl ?_ ?_)); (exact rfl); (exact rfl))
    go_ret
    exact ⟨ret_bool (by rw [E4.out, HZ.out]; simp), HB1.out⟩
  by_cases c1 : 0 ≤ l.off
  rotate_left
  · have C1 := Lib.hid (decide_eq_false c1)
    go_wp2_with ((with_reducible (refine wpList_load_cells 24 _ g 9 (b8s l.pack) xp Try.underlying24 rfl HIX.out ?_ rfl ?_ ?_)); (exact rfl); (exact rfl))
    go_ret
    exact ⟨ret_bool (by rw [E4.out, C1.out]; simp), HB1.out⟩
  have C1 := Lib.hid (decide_eq_true c1)
  by_cases c2 : l.total ≤ 1048576
  rotate_left
  · have C2 := Lib.hid (decide_eq_false c2)
    go_wp2_with ((with_reducible (refine wpList_load_cells 24 _ g 9 (b8s l.pack) xp Try.underlying24 rfl HIX.out ?_ rfl ?_ ?_)); (exact rfl); (exact rfl))
    go_ret
    exact ⟨ret_bool (by rw [E4.out, C2.out]; simp), HB1.out⟩
  have C2 := Lib.hid (decide_eq_true c2)
  by_cases c3 : n ≤ 500
  rotate_left
  · have i3 : ¬ (n : Int) ≤ 500 := by omega
    have C3 := Lib.hid (decide_eq_false c3)
    go_wp2_with ((with_reducible (refine wpList_load_cells 24 _ g 9 (b8s l.pack) xp Try.underlying24 rfl HIX.out ?_ rfl ?_ ?_)); (exact rfl); (exact rfl))
    go_ret
    exact ⟨ret_bool (by rw [E4.out, C3.out]; simp), HB1.out⟩
  have i3 : (n : Int) ≤ 500 := by omega
  have C3 := Lib.hid (decide_eq_true c3)
  by_cases c4 : l.off ≤ 1048576
  rotate_left
  · have C4 := Lib.hid (decide_eq_false c4)
    go_wp2_with ((with_reducible (refine wpList_load_cells 24 _ g 9 (b8s l.pack) xp Try.underlying24 rfl HIX.out ?_ rfl ?_ ?_)); (exact rfl); (exact rfl))
    go_ret
    exact ⟨ret_bool (by rw [E4.out, C4.out]; simp), HB1.out⟩
  have C4 := Lib.hid (decide_eq_true c4)
  have hw : IntKind.i64.wrap (l.off + (n : Int)) = l.off + (n : Int) := wrap64_in _ (by omega) (by omega)
  by_cases c5 : l.off + (n : Int) ≤ l.total
  rotate_left
  · have C5 := Lib.hid (decide_eq_false c5)
    go_wp2_with ((with_reducible (refine wpList_load_cells 24 _ g 9 (b8s l.pack) xp Try.underlying24 rfl HIX.out ?_ rfl ?_ ?_)); (exact rfl); (exact rfl))
    go_ret
    exact ⟨ret_bool (by rw [E4.out, C5.out]; simp), HB1.out⟩
  have C5 := Lib.hid (decide_eq_true c5)
  by_cases c6 : 0 < n
  · have C6 := Lib.hid (decide_eq_true c6)
    go_wp2_with ((with_reducible (refine wpList_load_cells 24 _ g 9 (b8s l.pack) xp Try.underlying24 rfl HIX.out ?_ rfl ?_ ?_)); (exact rfl); (exact rfl))
    go_ret
    exact ⟨ret_bool (by rw [E4.out, HZ.out, C1.out, C2.out, C3.out, C4.out, C5.out, C6.out]; rfl), HB1.out⟩
  have C6 := Lib.hid (decide_eq_false c6)
  cases c7 : (l.off == l.total)
  all_goals
    have C7 := Lib.hid c7
    go_wp2_with ((with_reducible (refine wpList_load_cells 24 _ g 9 (b8s l.pack) xp Try.underlying24 rfl HIX.out ?_ rfl ?_ ?_)); (exact rfl); (exact rfl))
    go_ret
    exact ⟨ret_bool (by rw [E4.out, HZ.out, C1.out, C2.out, C3.out, C4.out, C5.out, C6.out, C7.out]; rfl), HB1.out⟩

end Go.Proofs.Ytfjfidhhmidflaa
