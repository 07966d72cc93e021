
/- ShaParts: the walk. -/

import Derived.Test.YtkiggfahcakdeaaShaAlive

import Derived.Test.YtkiggfahcakdeaaNamed

namespace Go.Proofs.Ytkiggfahcakdeaa

set_option linter.unusedVariables false

set_option linter.unusedSimpArgs false

open Go.RowKit

theorem sum_nn (A : Option Addr) (bs : List UInt8) (n c : Nat) (hn : n = bs.length) (w : World) (hr : Rd w A (b8s bs)) (hm : bs.length ≤ 140737488355328) (hcap : n ≤ c) (hc2 : c ≤ 9223372036854775807) :
    Calls Try.prog 19 #[.slice A n c] w fun e w' => e = .returned (.agg (b8s (shaL bs)).toArray) ∧ Below w.heap.size w w' := by
  subst hn
  exact sum_any A bs c w hr hm hcap hc2
theorem eq_ids_self (id : List UInt8) (h : id.length = 32) (w : World) : (binOp .eql 23 (.agg (b8s id).toArray) (.agg (b8s id).toArray)).run Try.prog w = .ok (.bool true) w := by
  have := run_eql_ids (P := Try.prog) (t := 23) (e := 5) (n := 32) Try.underlying23 Try.underlying5 (by kernel_rfl) (by kernel_rfl) (by kernel_rfl) id id h h w
  simpa using this

theorem exec_conv {P : Program} {a : Act} {o : Oper} {w : World} (S T : TypeId) (x : Operand) (ho : o.op = .convert S T x) (X V : Value) (hx : a.eval x = X) (h : (convert S T X).run P w = .ok V w) : (execOp a.eval o).run P w = .ok (.value V) w := by
  simp [execOp, ho, hx, h]
/-- the name of bytes, made and asked once -/
theorem id_first_n (g : Nat) (A : Option Addr) (bs V : List UInt8) (hV : shaL bs = V) (c : Nat) (w : World) (hr : Rd w A (b8s bs)) (hAg : ∀ ad, A = some ad → ad.block ≠ g) (hm : bs.length ≤ 140737488355328) (hcap : bs.length ≤ c) (hc2 : c ≤ 9223372036854775807)
    (hN : NamedAt w g (.slice A bs.length c) 0 0 zeros32 0) :
    Calls Try.prog 23 #[.pointer (some ⟨g, 0, none⟩)] w fun e w' => e = .returned (.agg (b8s V).toArray) ∧ NamedAt w' g (.slice A bs.length c) 1 0 V 1 ∧ w.grownBy w' (some g) := by
  subst hV
  exact id_first g A bs zeros32 c w hr hAg hm hcap hc2 hN
theorem sum_v (A : Option Addr) (bs V : List UInt8) (hV : shaL bs = V) (n c : Nat) (hn : n = bs.length) (w : World) (hr : Rd w A (b8s bs)) (hm : bs.length ≤ 140737488355328) (hcap : n ≤ c) (hc2 : c ≤ 9223372036854775807) :
    Calls Try.prog 19 #[.slice A n c] w fun e w' => e = .returned (.agg (b8s V).toArray) ∧ Below w.heap.size w w' := by
  subst hV
  exact sum_nn A bs n c hn w hr hm hcap hc2

set_option maxRecDepth 100000 in
set_option maxHeartbeats 2000000 in
theorem shaParts_any (A0 A1 A2 : Option Addr) (b x y : List UInt8) (c0 c1 c2 : Nat) (w : World) (h0 : Rd w A0 (b8s b)) (h1 : Rd w A1 (b8s x)) (h2 : Rd w A2 (b8s y)) (k0 : b.length ≤ c0) (k1 : x.length ≤ c1) (k2 : y.length ≤ c2)
    (m0 : c0 ≤ 9223372036854775807) :
    Calls Try.prog 8 #[.slice A0 b.length c0, .slice A1 x.length c1, .slice A2 y.length c2] w fun e w' => e = .returned (.bool true) ∧ Below w.heap.size w w' := by
  have H0 := Lib.hid h0
  have H1 := Lib.hid h1
  have H2 := Lib.hid h2
  clear h0 h1 h2
  by_cases hs : b.length ≤ 5000 ∧ x.length ≤ 5000 ∧ y.length ≤ 5000
  · obtain ⟨s0, s1, s2⟩ := hs
    have e0 : decide ((5000 : Int) < (b.length : Int)) = false := by rw [decide_eq_false_iff_not]; omega
    have e1 : decide ((5000 : Int) < (x.length : Int)) = false := by rw [decide_eq_false_iff_not]; omega
    have e2 : decide ((5000 : Int) < (y.length : Int)) = false := by rw [decide_eq_false_iff_not]; omega
    go_enter Try.func8, Try.ntmps8
    go_wp2_with fail
    refine (alive_any w).mono ?_
    rintro e w1 ⟨rfl, hb1⟩
    go_wp2_with fail
    refine (sum_any A0 b c0 w1 (H0.out.below hb1) (by omega) k0 m0).mono ?_
    rintro e w2 ⟨rfl, hb2⟩
    obtain ⟨V, hV⟩ : ∃ V, shaL b = V := ⟨_, rfl⟩
    have hVl : V.length = 32 := by rw [← hV]; rfl
    rw [hV]
    obtain ⟨gi, Wa, W5, hgi, hWa, hW5, HTH, HROW, HB5, HS5⟩ := arr_place (w := w2) 23 V hVl
    have HW5 := Lib.hid hW5
    have HI : Hid ((Try.prog.info? 23).map (·.size) = some (b8s V).toArray.size) := Lib.hid (info_of_arr _ hVl info_id)
    have HVL := Lib.hid hVl
    have HV := Lib.hid hV
    have hb5 := ext_trans hb1 (ext_trans hb2 HB5.out)
    have R0 := Lib.hid (H0.out.below hb5)
    have R1 := Lib.hid (H1.out.below hb5)
    have R2 := Lib.hid (H2.out.below hb5)
    have HBB := Lib.hid hb5
    have hst := Own8.startN W5 W5 W5.heap.size (Below.refl _ _) (Nat.le_refl _)
    clear hW5 hVl hV hb5 hb1 hb2
    have l1 : ([] : List UInt8).length + x.length ≤ 140737488355328 := by simp; omega
    have l2 : (([] : List UInt8) ++ x).length + b.length ≤ 140737488355328 := by simp; omega
    have l3 : ((([] : List UInt8) ++ x) ++ b).length + y.length ≤ 140737488355328 := by simp; omega
    go_wp2_with (first
      | ((with_reducible (refine wpList_store_mid rfl _ _ _ rfl ?_ ?_ ?_ ?_ ?_ ?_ ?_ ?_ ?_)); (exact gi); (exact 0); (exact (b8s V).toArray); (exact rfl); (exact rfl); (exact HTH.out); (exact HI.out); (exact all_oneCell_toArray (b8s_one' _)); rw [HW5.out])
      | (at_builtin; refine wpList_append_bytes rfl _ _ rfl x rfl rfl (R1.out.alloc _) hst l1 ?_; intro v1 u1 o1 g1)
      | (at_builtin; refine wpList_append_bytes rfl _ _ rfl b rfl rfl (R0.out.below o1.bel) o1 l2 ?_; intro v2 u2 o2 g2)
      | (at_builtin; refine wpList_append_bytes rfl _ _ rfl y rfl rfl (R2.out.below o2.bel) o2 l3 ?_; intro v3 u3 o3 g3))
    have p0 := Lib.hid (R0.out.below o3.bel)
    have hBW := Lib.hid o3.bel
    have hrow := (o3.bel.block gi (by have := HS5.out; omega)).trans HROW.out
    have HROW3 := Lib.hid hrow
    have HB3 := Lib.hid (ext_trans HBB.out o3.bel)
    obtain ⟨A3, n3, c3, rfl, hn3, hnc3, hc3, hr3, _⟩ := o3.sliceN
    have hn3' : n3 = x.length + b.length + y.length := by rw [hn3]; simp; omega
    have Hr3 := Lib.hid hr3
    have Hn3 := Lib.hid hn3
    unfold maxLen at hc3
    have hn3a : x.length + b.length ≤ n3 := by omega
    clear hn3'
    clear o1 g1 o2 g2 o3 g3 hn3 hr3 hrow l1 l2 l3 hst HROW HTH HW5 HS5 HB5 hWa HBB R0 R1 R2
    obtain ⟨T, hT⟩ : ∃ T : ByteArray, (⟨(([] : List UInt8) ++ x ++ b ++ y).toArray⟩ : ByteArray) = T := ⟨_, rfl⟩
    have hcv : ∀ w', Rd w' A3 (b8s (([] : List UInt8) ++ x ++ b ++ y)) → (convert 32 9 (.slice A3 n3 c3)).run Try.prog w' = .ok (.string T) w' := fun w' h => by
      rw [← hT]
      exact run_str_of_bytes n3 c3 Hn3.out Try.underlying32 Try.underlying5 Try.underlying9 h
    have HCV := Lib.hid hcv
    clear hcv hT
    rw [HCV.out _ Hr3.out]
    simp only [Result.andThen]
    rw [Oper.upon_value]
    have HIL : Hid ((Try.prog.info? 23).map (·.size) = some (b8s V).length) := Lib.hid (by rw [b8s_length, HVL.out]; exact info_id)
    have heq := fun w => eq_ids_self V HVL.out w
    have hm5 : b.length ≤ 140737488355328 := by omega
    have i1 : (x.length : Int) ≤ (x.length : Int) + (b.length : Int) := by omega
    have i2 : (x.length : Int) + (b.length : Int) ≤ (c3 : Int) := by omega
    have i3 : (x.length : Int) ≤ (c3 : Int) := by omega
    have i4 : (0 : Int) ≤ (x.length : Int) + (b.length : Int) := by omega
    have i5 : ((x.length : Int) + (b.length : Int)).toNat = x.length + b.length := by omega
    go_wp2_with fail
    case inl h =>
      subst h
      have hb0 : b.length = 0 := by omega
      have hbn : b = [] := List.eq_nil_of_length_eq_zero hb0
      have HR10 : Hid (Rd u3 A3 (b8s b)) := Lib.hid (by rw [hbn]; exact Rd.nil)
      have hq1 : b.length ≤ 0 := by omega
      have hq2 : 0 ≤ 9223372036854775807 := by omega
      clear hb0 hbn i1 i2 i3 i4 i5 e0 e1 e2
      refine wp_region_sched (fun w' => w'.rangeAt gi 0 (b8s V) ∧ Rd w' A3 (b8s (([] : List UInt8) ++ x ++ b ++ y)))
        [(true, 0), (true, 2), (false, 1), (true, 3), (true, 4), (true, 5), (true, 7), (false, 6), (true, 8), (true, 9), (true, 10), (true, 11), (true, 12), (true, 13), (true, 14), (true, 15), (true, 16), (true, 17), (true, 20), (false, 18), (false, 19), (true, 21), (true, 22), (true, 23)] (by kernel_rfl) (by kernel_rfl) rfl (by kernel_rfl) ⟨range_of_row HROW3.out, Hr3.out⟩ ?_
      (first | (refine wpS_pass _ rfl (by rfl) ?_; simp only [Act.put, List.getElem_toArray, List.getElem_cons_zero, List.getElem_cons_succ, List.setIfInBounds_toArray, List.set_cons_zero, List.set_cons_succ]) | (refine wpS_take _ ?_ rfl (by rfl) ?_ ?_; rotate_left; (focus (intro w' hS'; (try dsimp only at hS'); (repeat (have hS1 := hS'.1; replace hS' := hS'.2)); go_simp; (try with_reducible rfl); done)); simp only [Act.put, List.getElem_toArray, List.getElem_cons_zero, List.getElem_cons_succ, List.setIfInBounds_toArray, List.set_cons_zero, List.set_cons_succ]))
      refine wpS_load _ rfl (by rfl) _ _ rfl _ _ rfl (b8s V) _ (fun w' hS' => hS'.1) Try.underlying23 rfl HIL.out ?_
      simp only [Act.put, List.getElem_toArray, List.getElem_cons_zero, List.getElem_cons_succ, List.setIfInBounds_toArray, List.set_cons_zero, List.set_cons_succ]
      refine wpS_do _ rfl (by rfl) (fun K hK => ?_)
      go_simp
      refine (sum_v _ b V HV.out b.length _ rfl u3.drew HR10.out.drew hm5 hq1 hq2).mono ?_
      rintro e w4 ⟨rfl, hb4⟩
      have hb34 : Below u3.heap.size u3 w4 := (Below.refl _ _).drew.trans hb4
      refine hK.out _ _ ⟨range_of_row ((hb34.block gi (Array.getElem?_eq_some_iff.1 HROW3.out).1).trans HROW3.out), Hr3.out.below hb34⟩ (fun hS => ?_)
      clear hK hS
      (first | (refine wpS_pass _ rfl (by rfl) ?_; simp only [Act.put, List.getElem_toArray, List.getElem_cons_zero, List.getElem_cons_succ, List.setIfInBounds_toArray, List.set_cons_zero, List.set_cons_succ]) | (refine wpS_take _ ?_ rfl (by rfl) ?_ ?_; rotate_left; (focus (intro w' hS'; (try dsimp only at hS'); (repeat (have hS1 := hS'.1; replace hS' := hS'.2)); go_simp; (try with_reducible rfl); done)); simp only [Act.put, List.getElem_toArray, List.getElem_cons_zero, List.getElem_cons_succ, List.setIfInBounds_toArray, List.set_cons_zero, List.set_cons_succ]))
      (first | (refine wpS_pass _ rfl (by rfl) ?_; simp only [Act.put, List.getElem_toArray, List.getElem_cons_zero, List.getElem_cons_succ, List.setIfInBounds_toArray, List.set_cons_zero, List.set_cons_succ]) | (refine wpS_take _ ?_ rfl (by rfl) ?_ ?_; rotate_left; (focus (intro w' hS'; (try dsimp only at hS'); (repeat (have hS1 := hS'.1; replace hS' := hS'.2)); go_simp; (try with_reducible rfl); done)); simp only [Act.put, List.getElem_toArray, List.getElem_cons_zero, List.getElem_cons_succ, List.setIfInBounds_toArray, List.set_cons_zero, List.set_cons_succ]))
      (first | (refine wpS_pass _ rfl (by rfl) ?_; simp only [Act.put, List.getElem_toArray, List.getElem_cons_zero, List.getElem_cons_succ, List.setIfInBounds_toArray, List.set_cons_zero, List.set_cons_succ]) | (refine wpS_take _ ?_ rfl (by rfl) ?_ ?_; rotate_left; (focus (intro w' hS'; (try dsimp only at hS'); (repeat (have hS1 := hS'.1; replace hS' := hS'.2)); go_simp; (try with_reducible rfl); done)); simp only [Act.put, List.getElem_toArray, List.getElem_cons_zero, List.getElem_cons_succ, List.setIfInBounds_toArray, List.set_cons_zero, List.set_cons_succ]))
      refine wpS_load _ rfl (by rfl) _ _ rfl _ _ rfl (b8s V) _ (fun w' hS' => hS'.1) Try.underlying23 rfl HIL.out ?_
      simp only [Act.put, List.getElem_toArray, List.getElem_cons_zero, List.getElem_cons_succ, List.setIfInBounds_toArray, List.set_cons_zero, List.set_cons_succ]
      refine wpS_do _ rfl (by rfl) (fun K hK => ?_)
      go_simp
      refine (sum_v A0 b V HV.out b.length c0 rfl w4 (p0.out.below hb34) hm5 k0 m0).mono ?_
      rintro e w5 ⟨rfl, hb5⟩
      have hb35 := hb34.trans (hb5.mono hb34.size)
      refine hK.out _ _ ⟨range_of_row ((hb35.block gi (Array.getElem?_eq_some_iff.1 HROW3.out).1).trans HROW3.out), Hr3.out.below hb35⟩ (fun hS => ?_)
      clear hK hS
      (first | (refine wpS_pass _ rfl (by rfl) ?_; simp only [Act.put, List.getElem_toArray, List.getElem_cons_zero, List.getElem_cons_succ, List.setIfInBounds_toArray, List.set_cons_zero, List.set_cons_succ]) | (refine wpS_take _ ?_ rfl (by rfl) ?_ ?_; rotate_left; (focus (intro w' hS'; (try dsimp only at hS'); (repeat (have hS1 := hS'.1; replace hS' := hS'.2)); go_simp; (try with_reducible rfl); done)); simp only [Act.put, List.getElem_toArray, List.getElem_cons_zero, List.getElem_cons_succ, List.setIfInBounds_toArray, List.set_cons_zero, List.set_cons_succ]))
      (first | (refine wpS_pass _ rfl (by rfl) ?_; simp only [Act.put, List.getElem_toArray, List.getElem_cons_zero, List.getElem_cons_succ, List.setIfInBounds_toArray, List.set_cons_zero, List.set_cons_succ]) | (refine wpS_take _ ?_ rfl (by rfl) ?_ ?_; rotate_left; (focus (intro w' hS'; (try dsimp only at hS'); (repeat (have hS1 := hS'.1; replace hS' := hS'.2)); go_simp; (try with_reducible rfl); done)); simp only [Act.put, List.getElem_toArray, List.getElem_cons_zero, List.getElem_cons_succ, List.setIfInBounds_toArray, List.set_cons_zero, List.set_cons_succ]))
      (first | (refine wpS_pass _ rfl (by rfl) ?_; simp only [Act.put, List.getElem_toArray, List.getElem_cons_zero, List.getElem_cons_succ, List.setIfInBounds_toArray, List.set_cons_zero, List.set_cons_succ]) | (refine wpS_take _ ?_ rfl (by rfl) ?_ ?_; rotate_left; (focus (intro w' hS'; (try dsimp only at hS'); (repeat (have hS1 := hS'.1; replace hS' := hS'.2)); go_simp; (try with_reducible rfl); done)); simp only [Act.put, List.getElem_toArray, List.getElem_cons_zero, List.getElem_cons_succ, List.setIfInBounds_toArray, List.set_cons_zero, List.set_cons_succ]))
      (first | (refine wpS_pass _ rfl (by rfl) ?_; simp only [Act.put, List.getElem_toArray, List.getElem_cons_zero, List.getElem_cons_succ, List.setIfInBounds_toArray, List.set_cons_zero, List.set_cons_succ]) | (refine wpS_take _ ?_ rfl (by rfl) ?_ ?_; rotate_left; (focus (intro w' hS'; (try dsimp only at hS'); (repeat (have hS1 := hS'.1; replace hS' := hS'.2)); go_simp; (try with_reducible rfl); done)); simp only [Act.put, List.getElem_toArray, List.getElem_cons_zero, List.getElem_cons_succ, List.setIfInBounds_toArray, List.set_cons_zero, List.set_cons_succ]))
      refine wpS_take _ (.string T) rfl (by rfl) (fun w' hS' => exec_conv _ _ _ rfl _ _ rfl (HCV.out w' hS'.2)) ?_
      simp only [Act.put, List.getElem_toArray, List.getElem_cons_zero, List.getElem_cons_succ, List.setIfInBounds_toArray, List.set_cons_zero, List.set_cons_succ]
      have hts : ∀ w', (binOp .eql 9 (.string T) (.string T)).run Try.prog w' = .ok (.bool true) w' := fun w' => by simp [binOp, Op.stringOp]
      (repeat (first | (refine wpS_pass _ rfl (by rfl) ?_; simp only [Act.put, List.getElem_toArray, List.getElem_cons_zero, List.getElem_cons_succ, List.setIfInBounds_toArray, List.set_cons_zero, List.set_cons_succ]) | (refine wpS_take _ ?_ rfl (by rfl) ?_ ?_; rotate_left; (focus (intro w' hS'; (try dsimp only at hS'); (repeat (have hS1 := hS'.1; replace hS' := hS'.2)); go_simp; (try with_reducible rfl); done)); simp only [Act.put, List.getElem_toArray, List.getElem_cons_zero, List.getElem_cons_succ, List.setIfInBounds_toArray, List.set_cons_zero, List.set_cons_succ])))
      clear hts
      refine wpS_load _ rfl (by rfl) _ _ rfl _ _ rfl (b8s V) _ (fun w' hS' => hS'.1) Try.underlying23 rfl HIL.out ?_
      simp only [Act.put, List.getElem_toArray, List.getElem_cons_zero, List.getElem_cons_succ, List.setIfInBounds_toArray, List.set_cons_zero, List.set_cons_succ]
      refine wpS_do _ rfl (by rfl) (fun K hK => ?_)
      go_simp
      refine (of_any _ b b.length _ rfl w5 (HR10.out.below hb35) hm5).mono ?_
      rintro e w6 ⟨g, A6, c6, rfl, hN6, hr6, hg6, hc6, hc6b, hb6, hgw⟩
      have hb36 := hb35.trans (hb6.mono hb35.size)
      refine hK.out _ _ ⟨range_of_row ((hb36.block gi (Array.getElem?_eq_some_iff.1 HROW3.out).1).trans HROW3.out), Hr3.out.below hb36⟩ (fun hS => ?_)
      clear hK hS
      refine wpS_do _ rfl (by rfl) (fun K hK => ?_)
      go_simp
      refine (id_first_n g A6 b V HV.out c6 w6 hr6 (fun ad h => (hg6 ad h).1) hm5 hc6 hc6b hN6).mono ?_
      rintro e w7 ⟨rfl, hN7, hg7⟩
      have hs35 := hb35.size
      have hb37 : Below u3.heap.size u3 w7 := bel_grown hb36 hb36.size hg7 (by omega)
      refine hK.out _ _ ⟨range_of_row ((hb37.block gi (Array.getElem?_eq_some_iff.1 HROW3.out).1).trans HROW3.out), Hr3.out.below hb37⟩ (fun hS => ?_)
      clear hK hS hN6 hr6 hg6 hN7
      (repeat (first | (refine wpS_pass _ rfl (by rfl) ?_; simp only [Act.put, List.getElem_toArray, List.getElem_cons_zero, List.getElem_cons_succ, List.setIfInBounds_toArray, List.set_cons_zero, List.set_cons_succ]) | (refine wpS_take _ ?_ rfl (by rfl) ?_ ?_; rotate_left; (focus (intro w' hS'; (try dsimp only at hS'); (repeat (have hS1 := hS'.1; replace hS' := hS'.2)); go_simp; (try with_reducible rfl); done)); simp only [Act.put, List.getElem_toArray, List.getElem_cons_zero, List.getElem_cons_succ, List.setIfInBounds_toArray, List.set_cons_zero, List.set_cons_succ])))
      refine wpS_done ?_
      clear heq
      go_wp2_with fail
      go_ret
      exact ⟨rfl, ext_trans HB3.out hb37⟩
    case inr h =>
      have HR10 : Hid (Rd u3 (A3.map fun a => a.add x.length) (b8s b)) := Lib.hid (fun j u hu => by
        have hj := (List.getElem?_eq_some_iff.1 hu).1
        rw [b8s_length] at hj
        have hu2 : (b8s (([] : List UInt8) ++ x ++ b ++ y))[x.length + j]? = some u := by
          rw [b8s_append, b8s_append, List.getElem?_append_left (by simp [b8s]; omega), List.getElem?_append_right (by simp [b8s])]
          simpa [b8s] using hu
        obtain ⟨bb, oo, rfl, hcell⟩ := Hr3.out _ u hu2
        exact ⟨bb, oo + x.length, by rw [Option.map_some, Addr.add_lit], by rw [Nat.add_assoc]; exact hcell⟩)
      have hq1 : b.length ≤ c3 - x.length := by omega
      have hq2 : c3 - x.length ≤ 9223372036854775807 := by omega
      clear i1 i2 i3 i4 i5 e0 e1 e2 h
      refine wp_region_sched (fun w' => w'.rangeAt gi 0 (b8s V) ∧ Rd w' A3 (b8s (([] : List UInt8) ++ x ++ b ++ y)))
        [(true, 0), (true, 2), (false, 1), (true, 3), (true, 4), (true, 5), (true, 7), (false, 6), (true, 8), (true, 9), (true, 10), (true, 11), (true, 12), (true, 13), (true, 14), (true, 15), (true, 16), (true, 17), (true, 20), (false, 18), (false, 19), (true, 21), (true, 22), (true, 23)] (by kernel_rfl) (by kernel_rfl) rfl (by kernel_rfl) ⟨range_of_row HROW3.out, Hr3.out⟩ ?_
      (first | (refine wpS_pass _ rfl (by rfl) ?_; simp only [Act.put, List.getElem_toArray, List.getElem_cons_zero, List.getElem_cons_succ, List.setIfInBounds_toArray, List.set_cons_zero, List.set_cons_succ]) | (refine wpS_take _ ?_ rfl (by rfl) ?_ ?_; rotate_left; (focus (intro w' hS'; (try dsimp only at hS'); (repeat (have hS1 := hS'.1; replace hS' := hS'.2)); go_simp; (try with_reducible rfl); done)); simp only [Act.put, List.getElem_toArray, List.getElem_cons_zero, List.getElem_cons_succ, List.setIfInBounds_toArray, List.set_cons_zero, List.set_cons_succ]))
      refine wpS_load _ rfl (by rfl) _ _ rfl _ _ rfl (b8s V) _ (fun w' hS' => hS'.1) Try.underlying23 rfl HIL.out ?_
      simp only [Act.put, List.getElem_toArray, List.getElem_cons_zero, List.getElem_cons_succ, List.setIfInBounds_toArray, List.set_cons_zero, List.set_cons_succ]
      refine wpS_do _ rfl (by rfl) (fun K hK => ?_)
      go_simp
      refine (sum_v _ b V HV.out b.length _ rfl u3.drew HR10.out.drew hm5 hq1 hq2).mono ?_
      rintro e w4 ⟨rfl, hb4⟩
      have hb34 : Below u3.heap.size u3 w4 := (Below.refl _ _).drew.trans hb4
      refine hK.out _ _ ⟨range_of_row ((hb34.block gi (Array.getElem?_eq_some_iff.1 HROW3.out).1).trans HROW3.out), Hr3.out.below hb34⟩ (fun hS => ?_)
      clear hK hS
      (first | (refine wpS_pass _ rfl (by rfl) ?_; simp only [Act.put, List.getElem_toArray, List.getElem_cons_zero, List.getElem_cons_succ, List.setIfInBounds_toArray, List.set_cons_zero, List.set_cons_succ]) | (refine wpS_take _ ?_ rfl (by rfl) ?_ ?_; rotate_left; (focus (intro w' hS'; (try dsimp only at hS'); (repeat (have hS1 := hS'.1; replace hS' := hS'.2)); go_simp; (try with_reducible rfl); done)); simp only [Act.put, List.getElem_toArray, List.getElem_cons_zero, List.getElem_cons_succ, List.setIfInBounds_toArray, List.set_cons_zero, List.set_cons_succ]))
      (first | (refine wpS_pass _ rfl (by rfl) ?_; simp only [Act.put, List.getElem_toArray, List.getElem_cons_zero, List.getElem_cons_succ, List.setIfInBounds_toArray, List.set_cons_zero, List.set_cons_succ]) | (refine wpS_take _ ?_ rfl (by rfl) ?_ ?_; rotate_left; (focus (intro w' hS'; (try dsimp only at hS'); (repeat (have hS1 := hS'.1; replace hS' := hS'.2)); go_simp; (try with_reducible rfl); done)); simp only [Act.put, List.getElem_toArray, List.getElem_cons_zero, List.getElem_cons_succ, List.setIfInBounds_toArray, List.set_cons_zero, List.set_cons_succ]))
      (first | (refine wpS_pass _ rfl (by rfl) ?_; simp only [Act.put, List.getElem_toArray, List.getElem_cons_zero, List.getElem_cons_succ, List.setIfInBounds_toArray, List.set_cons_zero, List.set_cons_succ]) | (refine wpS_take _ ?_ rfl (by rfl) ?_ ?_; rotate_left; (focus (intro w' hS'; (try dsimp only at hS'); (repeat (have hS1 := hS'.1; replace hS' := hS'.2)); go_simp; (try with_reducible rfl); done)); simp only [Act.put, List.getElem_toArray, List.getElem_cons_zero, List.getElem_cons_succ, List.setIfInBounds_toArray, List.set_cons_zero, List.set_cons_succ]))
      refine wpS_load _ rfl (by rfl) _ _ rfl _ _ rfl (b8s V) _ (fun w' hS' => hS'.1) Try.underlying23 rfl HIL.out ?_
      simp only [Act.put, List.getElem_toArray, List.getElem_cons_zero, List.getElem_cons_succ, List.setIfInBounds_toArray, List.set_cons_zero, List.set_cons_succ]
      refine wpS_do _ rfl (by rfl) (fun K hK => ?_)
      go_simp
      refine (sum_v A0 b V HV.out b.length c0 rfl w4 (p0.out.below hb34) hm5 k0 m0).mono ?_
      rintro e w5 ⟨rfl, hb5⟩
      have hb35 := hb34.trans (hb5.mono hb34.size)
      refine hK.out _ _ ⟨range_of_row ((hb35.block gi (Array.getElem?_eq_some_iff.1 HROW3.out).1).trans HROW3.out), Hr3.out.below hb35⟩ (fun hS => ?_)
      clear hK hS
      (first | (refine wpS_pass _ rfl (by rfl) ?_; simp only [Act.put, List.getElem_toArray, List.getElem_cons_zero, List.getElem_cons_succ, List.setIfInBounds_toArray, List.set_cons_zero, List.set_cons_succ]) | (refine wpS_take _ ?_ rfl (by rfl) ?_ ?_; rotate_left; (focus (intro w' hS'; (try dsimp only at hS'); (repeat (have hS1 := hS'.1; replace hS' := hS'.2)); go_simp; (try with_reducible rfl); done)); simp only [Act.put, List.getElem_toArray, List.getElem_cons_zero, List.getElem_cons_succ, List.setIfInBounds_toArray, List.set_cons_zero, List.set_cons_succ]))
      (first | (refine wpS_pass _ rfl (by rfl) ?_; simp only [Act.put, List.getElem_toArray, List.getElem_cons_zero, List.getElem_cons_succ, List.setIfInBounds_toArray, List.set_cons_zero, List.set_cons_succ]) | (refine wpS_take _ ?_ rfl (by rfl) ?_ ?_; rotate_left; (focus (intro w' hS'; (try dsimp only at hS'); (repeat (have hS1 := hS'.1; replace hS' := hS'.2)); go_simp; (try with_reducible rfl); done)); simp only [Act.put, List.getElem_toArray, List.getElem_cons_zero, List.getElem_cons_succ, List.setIfInBounds_toArray, List.set_cons_zero, List.set_cons_succ]))
      (first | (refine wpS_pass _ rfl (by rfl) ?_; simp only [Act.put, List.getElem_toArray, List.getElem_cons_zero, List.getElem_cons_succ, List.setIfInBounds_toArray, List.set_cons_zero, List.set_cons_succ]) | (refine wpS_take _ ?_ rfl (by rfl) ?_ ?_; rotate_left; (focus (intro w' hS'; (try dsimp only at hS'); (repeat (have hS1 := hS'.1; replace hS' := hS'.2)); go_simp; (try with_reducible rfl); done)); simp only [Act.put, List.getElem_toArray, List.getElem_cons_zero, List.getElem_cons_succ, List.setIfInBounds_toArray, List.set_cons_zero, List.set_cons_succ]))
      (first | (refine wpS_pass _ rfl (by rfl) ?_; simp only [Act.put, List.getElem_toArray, List.getElem_cons_zero, List.getElem_cons_succ, List.setIfInBounds_toArray, List.set_cons_zero, List.set_cons_succ]) | (refine wpS_take _ ?_ rfl (by rfl) ?_ ?_; rotate_left; (focus (intro w' hS'; (try dsimp only at hS'); (repeat (have hS1 := hS'.1; replace hS' := hS'.2)); go_simp; (try with_reducible rfl); done)); simp only [Act.put, List.getElem_toArray, List.getElem_cons_zero, List.getElem_cons_succ, List.setIfInBounds_toArray, List.set_cons_zero, List.set_cons_succ]))
      refine wpS_take _ (.string T) rfl (by rfl) (fun w' hS' => exec_conv _ _ _ rfl _ _ rfl (HCV.out w' hS'.2)) ?_
      simp only [Act.put, List.getElem_toArray, List.getElem_cons_zero, List.getElem_cons_succ, List.setIfInBounds_toArray, List.set_cons_zero, List.set_cons_succ]
      have hts : ∀ w', (binOp .eql 9 (.string T) (.string T)).run Try.prog w' = .ok (.bool true) w' := fun w' => by simp [binOp, Op.stringOp]
      (repeat (first | (refine wpS_pass _ rfl (by rfl) ?_; simp only [Act.put, List.getElem_toArray, List.getElem_cons_zero, List.getElem_cons_succ, List.setIfInBounds_toArray, List.set_cons_zero, List.set_cons_succ]) | (refine wpS_take _ ?_ rfl (by rfl) ?_ ?_; rotate_left; (focus (intro w' hS'; (try dsimp only at hS'); (repeat (have hS1 := hS'.1; replace hS' := hS'.2)); go_simp; (try with_reducible rfl); done)); simp only [Act.put, List.getElem_toArray, List.getElem_cons_zero, List.getElem_cons_succ, List.setIfInBounds_toArray, List.set_cons_zero, List.set_cons_succ])))
      clear hts
      refine wpS_load _ rfl (by rfl) _ _ rfl _ _ rfl (b8s V) _ (fun w' hS' => hS'.1) Try.underlying23 rfl HIL.out ?_
      simp only [Act.put, List.getElem_toArray, List.getElem_cons_zero, List.getElem_cons_succ, List.setIfInBounds_toArray, List.set_cons_zero, List.set_cons_succ]
      refine wpS_do _ rfl (by rfl) (fun K hK => ?_)
      go_simp
      refine (of_any _ b b.length _ rfl w5 (HR10.out.below hb35) hm5).mono ?_
      rintro e w6 ⟨g, A6, c6, rfl, hN6, hr6, hg6, hc6, hc6b, hb6, hgw⟩
      have hb36 := hb35.trans (hb6.mono hb35.size)
      refine hK.out _ _ ⟨range_of_row ((hb36.block gi (Array.getElem?_eq_some_iff.1 HROW3.out).1).trans HROW3.out), Hr3.out.below hb36⟩ (fun hS => ?_)
      clear hK hS
      refine wpS_do _ rfl (by rfl) (fun K hK => ?_)
      go_simp
      refine (id_first_n g A6 b V HV.out c6 w6 hr6 (fun ad h => (hg6 ad h).1) hm5 hc6 hc6b hN6).mono ?_
      rintro e w7 ⟨rfl, hN7, hg7⟩
      have hs35 := hb35.size
      have hb37 : Below u3.heap.size u3 w7 := bel_grown hb36 hb36.size hg7 (by omega)
      refine hK.out _ _ ⟨range_of_row ((hb37.block gi (Array.getElem?_eq_some_iff.1 HROW3.out).1).trans HROW3.out), Hr3.out.below hb37⟩ (fun hS => ?_)
      clear hK hS hN6 hr6 hg6 hN7
      (repeat (first | (refine wpS_pass _ rfl (by rfl) ?_; simp only [Act.put, List.getElem_toArray, List.getElem_cons_zero, List.getElem_cons_succ, List.setIfInBounds_toArray, List.set_cons_zero, List.set_cons_succ]) | (refine wpS_take _ ?_ rfl (by rfl) ?_ ?_; rotate_left; (focus (intro w' hS'; (try dsimp only at hS'); (repeat (have hS1 := hS'.1; replace hS' := hS'.2)); go_simp; (try with_reducible rfl); done)); simp only [Act.put, List.getElem_toArray, List.getElem_cons_zero, List.getElem_cons_succ, List.setIfInBounds_toArray, List.set_cons_zero, List.set_cons_succ])))
      refine wpS_done ?_
      clear heq
      go_wp2_with fail
      go_ret
      exact ⟨rfl, ext_trans HB3.out hb37⟩
  · have hd : (decide ((5000 : Int) < (b.length : Int)) || decide ((5000 : Int) < (x.length : Int)) || decide ((5000 : Int) < (y.length : Int))) = true := by
      simp only [Bool.or_eq_true, decide_eq_true_eq]; omega
    clear hs
    go_enter Try.func8, Try.ntmps8
    go_wp2_with fail
    refine (alive_any w).mono ?_
    rintro e w1 ⟨rfl, hb1⟩
    go_wp2_with fail
    all_goals first | (go_ret; exact ⟨rfl, hb1⟩) | (exfalso; simp only [Bool.or_eq_true, decide_eq_true_eq] at hd; omega) | skip
end Go.Proofs.Ytkiggfahcakdeaa
