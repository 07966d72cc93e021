
/- StampSets, walked: true. Conditions: the lists of the operations have at most 2^47 bytes. -/

import Derived.Test.YtabkgoandfpclaaSs18

namespace Go.Proofs.Ytabkgoandfpclaa

set_option linter.unusedVariables false

set_option linter.unusedSimpArgs false

set_option linter.unusedSectionVars false

open Go.RowKit

theorem i64_and_mask (x : Int) (m : Nat) (hm : m < 9223372036854775808) : ∃ n : Nat, n ≤ m ∧ bits .and .i64 x (m : Int) = (n : Int) := by
  refine ⟨(BitVec.ofInt 64 x &&& BitVec.ofInt 64 (m : Int)).toNat, ?_, ?_⟩
  · rw [BitVec.toNat_and]
    refine Nat.le_trans Nat.and_le_right ?_
    rw [BitVec.ofInt_natCast, BitVec.toNat_ofNat]
    exact Nat.mod_le _ _
  · show IntKind.i64.wrap ((BitVec.ofInt 64 x &&& BitVec.ofInt 64 (m : Int)).toNat : Int) = _
    have h1 : (BitVec.ofInt 64 x &&& BitVec.ofInt 64 (m : Int)).toNat ≤ m := by
      rw [BitVec.toNat_and]
      refine Nat.le_trans Nat.and_le_right ?_
      rw [BitVec.ofInt_natCast, BitVec.toNat_ofNat]
      exact Nat.mod_le _ _
    exact IntWalk.i64_in _ (by omega)

theorem rd_shift {w : World} {g : Nat} {xs : List Value} (h : Rd w (some ⟨g, 0, none⟩) xs) (q : Nat) : Rd w (some ⟨g, q, none⟩) (xs.drop q) := fun j u hu => by
  rw [List.getElem?_drop] at hu
  obtain ⟨b, o, hA, hc⟩ := h _ _ hu
  cases hA
  exact ⟨g, q, rfl, by rw [Nat.zero_add] at hc; exact hc⟩
theorem rd_front {w : World} {A : Option Addr} {xs : List Value} (h : Rd w A xs) (q : Nat) : Rd w A (xs.take q) := fun j u hu => by
  rw [List.getElem?_take] at hu
  split at hu
  · exact h j u hu
  · cases hu

set_option maxRecDepth 100000 in
set_option maxHeartbeats 8000000 in
theorem stampSets_any (A : Option Addr) (c : Nat) (os : List OpM) (turn : Int) (w : World) (hr : Rd w A (oc os)) (hin : ∀ o ∈ os, OpIn w o) (hsm : ∀ o ∈ os, o.os.length * 16 ≤ 140737488355328) :
    Calls Try.prog 10 #[.slice A os.length c, .int .i64 turn] w fun e w' => e = .returned (.bool true) ∧ Below w.heap.size w w' := by
  have mixed : Try.prog.follows .mixedOrders = true := by kernel_rfl
  obtain ⟨n, hnn⟩ : ∃ n, os.length = n := ⟨_, rfl⟩
  have HN := Lib.hid hnn
  have HRD := Lib.hid hr
  have HIN := Lib.hid hin
  have HSM := Lib.hid hsm
  rw [hnn]
  clear hr hin hsm hnn
  go_enter Try.func10, Try.ntmps10
  go_wp2_with fail
  refine (alive_any w).mono ?_
  rintro e w1 ⟨rfl, hb1⟩
  have HB1 := Lib.hid hb1
  clear hb1
  go_wp2_with fail
  refine (first_any w1).mono ?_
  rintro e w2 ⟨rfl, hb2⟩
  have HB2 := Lib.hid (HB1.out.trans (hb2.mono HB1.out.size))
  clear hb2
  unfold OpM.val
  go_wp2_with fail
  refine (first_any w2).mono ?_
  rintro e w3 ⟨rfl, hb3⟩
  have HB3 := Lib.hid (HB2.out.trans (hb3.mono HB2.out.size))
  clear hb3
  unfold OpM.val
  obtain ⟨w4, hw4⟩ : ∃ W, w3.alloc (.cells (o1.cells ++ o1.cells).toArray 33) = W := ⟨_, rfl⟩
  have HR4 : Hid (Rd w4 (some ⟨w3.heap.size, 0, none⟩) (oc [o1, o1])) := Lib.hid (by rw [← hw4]; exact rd_two w3)
  have HB4 : Hid (Below w.heap.size w w4) := Lib.hid (by rw [← hw4]; exact HB3.out.alloc HB3.out.size _)
  have HSO := Lib.hid (sort_any (some ⟨w3.heap.size, 0, none⟩) 2 [o1, o1] w4 HR4.out (fun o ho => by simp at ho; rw [ho]; exact opIn_o1 _) (fun o ho => by simp at ho; rw [ho]; decide) (by decide))
  have hl2 : ([o1, o1] : List OpM).length = 2 := rfl
  rw [hl2] at HSO
  clear hl2
  have HW4 := Lib.hid hw4
  clear hw4
  go_wp2_with (refine wpList_build2_w rfl 53 33 _ _ rfl o1.cells o1.cells rfl rfl Try.underlying53 (by rw [o1_len]; exact info_opb') rfl (by rw [o1_len]; decide) (by rw [o1_len]; decide) ?_; rw [HW4.out])
  refine HSO.out.mono ?_
  rintro e w5 ⟨v, outs, rfl, hov, hsv⟩
  obtain ⟨A5, c5, hv5, _, _, _⟩ := hov.v
  have HB5 := Lib.hid (HB4.out.trans (hov.bel.mono HB4.out.size))
  have hl5 := sort_o1 hsv
  rw [hl5] at hv5
  subst hv5
  clear hov hsv hl5 HSO
  by_cases h100 : 100 < n
  · have hz3 : (100 : Int) < (n : Int) := by omega
    go_wp2_with fail
    go_ret
    exact ⟨rfl, HB5.out⟩
  have hz3 : ¬ (100 : Int) < (n : Int) := by omega
  by_cases h0 : n = 0
  · have hz4 : ((n : Int) == 0) = true := by rw [h0]; rfl
    go_wp2_with fail
    go_ret
    exact ⟨rfl, HB5.out⟩
  have hz4 : ((n : Int) == 0) = false := by simpa using h0
  have HS7 := Lib.hid (sort_any A c os w5 (HRD.out.below HB5.out) (fun o ho => (HIN.out o ho).below HB5.out) HSM.out (by rw [HN.out]; omega))
  rw [HN.out] at HS7
  clear h0
  go_wp2_with fail
  refine HS7.out.mono ?_
  rintro e w8 ⟨v8, outs8, rfl, hov8, hsv8⟩
  obtain ⟨A8, c8, hv8, hl8, hm8, hcase⟩ := hov8.v
  subst hv8
  have hpos : 0 < outs8.length := hsv8.pos (by rw [HN.out]; have := hz4; simp at this; omega)
  obtain ⟨g, hg1, hg2, hg3, hg4, hg5⟩ : ∃ g, A8 = some ⟨g, 0, none⟩ ∧ w5.heap.size ≤ g ∧ g < w8.heap.size ∧ RowO w8 g outs8 ∧ ∀ o ∈ outs8, OvO w8 w5.heap.size g o := by
    rcases hcase with h | h
    · rw [h] at hpos; exact absurd hpos (Nat.lt_irrefl 0)
    · exact h
  subst hg1
  have HB8 := Lib.hid (HB5.out.trans (hov8.bel.mono HB5.out.size))
  have HSV := Lib.hid hsv8
  have HROW := Lib.hid hg4
  have HOVO := Lib.hid hg5
  have HG := Lib.hid hg3
  have hln : outs8.length ≤ n := by have := hsv8.len; rw [HN.out] at this; exact this
  have HDL8 : Hid (∀ o ∈ outs8, o.data.length = 32) := Lib.hid (fun o ho => (hg5 o ho).dl)
  have HOS8 : Hid (∀ o ∈ outs8, o.os.length * 16 ≤ 140737488355328) := Lib.hid (fun o ho => by
    obtain ⟨p, hp, he⟩ := hsv8.from_ o ho
    rw [bare_os he]
    exact HSM.out p hp)
  have HO18 := Lib.hid (oc_one outs8 (fun o ho => by obtain ⟨A, c, h, _⟩ := (hg5 o ho).opIn.ov; exact ⟨A, _, c, h⟩))
  have HRD8 := Lib.hid (hg4.rd HDL8.out)
  obtain ⟨m, hm⟩ : ∃ m, outs8.length = m := ⟨_, rfl⟩
  have HM := Lib.hid hm
  rw [hm] at hl8 hpos hln ⊢
  clear hov8 hsv8 hcase HS7 hm hg2 hg3 hg4 hg5
  obtain ⟨t, ht, hta⟩ : ∃ t : Nat, t ≤ 1023 ∧ bits .and .i64 turn 1023 = (t : Int) := i64_and_mask turn 1023 (by decide)
  have hmz : ¬ (m : Int) = 0 := by omega
  have hmz2 : ((m : Int) == 0) = false := by simpa using hmz
  obtain ⟨k, hk⟩ : ∃ k, t % m = k := ⟨_, rfl⟩
  have hkm : k < m := by rw [← hk]; exact Nat.mod_lt _ hpos
  have htm : (t : Int).tmod (m : Int) = (k : Int) := by rw [Int.tmod_eq_emod_of_nonneg (by omega), ← Int.natCast_emod, hk]
  have hkw : IntKind.i64.wrap (k : Int) = (k : Int) := by rw [IntKind.wrap_i64] <;> omega
  go_wp2_with fail
  have hck : ¬ ((c8 : Int) = (k : Int)) := by omega
  have hck2 : ¬ (c8 = k) := by omega
  have n1 : ((m : Int) - (k : Int)).toNat = m - k := by omega
  have n2 : ((c8 : Int) - (k : Int)).toNat = c8 - k := by omega
  have hk9 : (k : Int) ≤ (m : Int) := by omega
  have hk8 : (k : Int) ≤ (c8 : Int) := by omega
  clear hta htm hmz hmz2 hz3 hz4 hk
  refine wp_region_sched (fun w' => True) [(true, 1), (true, 2), (true, 3), (true, 5), (true, 6), (true, 7), (false, 0), (false, 4), (false, 8), (true, 9)] (by kernel_rfl) (by kernel_rfl) rfl (by kernel_rfl) trivial ?_
  iterate 6 (first | (refine wpS_pass _ rfl (by rfl) ?_; simp only [Act.put, List.getElem_toArray, List.getElem_cons_zero, List.getElem_cons_succ, List.setIfInBounds_toArray, List.set_cons_zero, List.set_cons_succ]) | (refine wpS_take _ ?_ rfl (by rfl) ?_ ?_; rotate_left; (focus (intro w' hS'; (try dsimp only at hS'); (repeat (have hS1 := hS'.1; replace hS' := hS'.2)); go_simp; (try with_reducible rfl); done)); simp only [Act.put, List.getElem_toArray, List.getElem_cons_zero, List.getElem_cons_succ, List.setIfInBounds_toArray, List.set_cons_zero, List.set_cons_succ]))
  clear hck hck2 n1 n2 hk9 hk8
  have HDQ : Hid (∀ o ∈ outs8.drop k, o.data.length = 32) := Lib.hid (fun o ho => HDL8.out o (List.mem_of_mem_drop ho))
  have HDP : Hid (∀ o ∈ outs8.take k, o.data.length = 32) := Lib.hid (fun o ho => HDL8.out o (List.mem_of_mem_take ho))
  have HRQ : Hid (Rd w8 (some ⟨g, k * 41, none⟩) (oc (outs8.drop k))) := Lib.hid (by
    rw [← oc_drop HDL8.out k (by rw [HM.out]; omega)]
    exact rd_shift HRD8.out _)
  have HRP : Hid (Rd w8 (some ⟨g, 0, none⟩) (oc (outs8.take k))) := Lib.hid (by
    rw [← oc_take HDL8.out k (by rw [HM.out]; omega)]
    exact rd_front HRD8.out _)
  have HLQ : Hid ((oc (outs8.drop k)).length = (m - k) * 41) := Lib.hid (by rw [oc_len HDQ.out, List.length_drop, HM.out])
  have HLP : Hid ((oc (outs8.take k)).length = k * 41) := Lib.hid (by rw [oc_len HDP.out, List.length_take, HM.out, Nat.min_eq_left (by omega)])
  have HOQ : Hid (∀ u ∈ oc (outs8.drop k), u.oneCell' = true) := Lib.hid (fun u hu => HO18.out u (by rw [← oc_drop HDL8.out k (by rw [HM.out]; omega)] at hu; exact List.mem_of_mem_drop hu))
  have HOP : Hid (∀ u ∈ oc (outs8.take k), u.oneCell' = true) := Lib.hid (fun u hu => HO18.out u (by rw [← oc_take HDL8.out k (by rw [HM.out]; omega)] at hu; exact List.mem_of_mem_take hu))
  obtain ⟨N8, hN8⟩ : ∃ N8, w8.drew.heap.size = N8 := ⟨_, rfl⟩
  have HN8 : Hid (w8.heap.size = N8) := Lib.hid hN8
  refine wpS_do _ rfl (by rfl) (fun K hK => ?_)
  go_simp
  refine hK.out _ _ trivial (fun _ => ?_)
  clear hK
  obtain ⟨w9, hw9⟩ : ∃ W, (w8.alloc (.cells #[] 33)).drew = W := ⟨_, rfl⟩
  have HO9 : Hid (w9.ownsRow N8 33 41 (.slice (some ⟨N8, 0, none⟩) 0 0) 0 []) := Lib.hid (by
    have h1 := World.ownsRow_made (e := 33) (size := 41) (base := N8) w8 #[] 0 (by rw [HN8.out]; exact Nat.le_refl _) (by unfold maxLen; omega) rfl
    rw [HN8.out] at h1
    rw [← hw9]
    exact h1)
  have HB89 : Hid (Below N8 w8 w9) := Lib.hid (by rw [← hw9]; exact ((Below.refl N8 w8).alloc (by rw [HN8.out]; exact Nat.le_refl _) _).drew)
  have HS9 : Hid (N8 ≤ w9.heap.size) := Lib.hid (by have := HB89.out.size; have := HN8.out; omega)
  rw [hw9]
  clear hw9 hN8
  refine wpS_do _ rfl (by rfl) (fun K hK => ?_)
  refine wp_append_rd _ _ _ 53 rfl N8 33 (.agg op0.cells.toArray) 41 128 Try.underlying53 info_op3 rfl (by decide) (.slice (some ⟨N8, 0, none⟩) 0 0) 0 [] rfl HO9.out (some ⟨g, k * 41, none⟩) (m - k) (c8 - k) (oc (outs8.drop k)) rfl HLQ.out (HRQ.out.below (by rw [HN8.out]; exact HB89.out)) HOQ.out (by unfold maxLen; omega) (by omega) HS9.out (fun va wa hoa hga hba => ?_)
  obtain ⟨Aa, ca, ea, hca1, hca2, hca3, hca4⟩ := own_slice hoa
  subst ea
  rw [List.nil_append, Nat.zero_add] at hoa
  have HOA := Lib.hid hoa
  have HBA : Hid (Below N8 w8 wa) := Lib.hid (below_grown_own HB89.out HO9.out hga HS9.out)
  have HSA : Hid (N8 ≤ wa.heap.size) := Lib.hid (by have := HBA.out.size; have := HN8.out; omega)
  rw [Nat.zero_add]
  clear hoa hga hba hca1 hca2 hca3 hca4
  refine hK.out _ _ trivial (fun _ => ?_)
  clear hK
  simp only [Act.put, List.getElem_toArray, List.getElem_cons_zero, List.getElem_cons_succ, List.setIfInBounds_toArray, List.set_cons_zero, List.set_cons_succ]
  refine wpS_do _ rfl (by rfl) (fun K hK => ?_)
  refine wp_append_rd _ _ _ 53 rfl N8 33 (.agg op0.cells.toArray) 41 128 Try.underlying53 info_op3 rfl (by decide) (.slice Aa (m - k) ca) (m - k) (oc (outs8.drop k)) rfl HOA.out (some ⟨g, 0, none⟩) k c8 (oc (outs8.take k)) rfl HLP.out (HRP.out.below (by rw [HN8.out]; exact HBA.out)) HOP.out (by unfold maxLen; omega) (by omega) HSA.out (fun vb wb hob hgb hbb => ?_)
  obtain ⟨Ab, cb, eb, hcb1, hcb2, hcb3, hcb4⟩ := own_slice hob
  subst eb
  have HLM : m - k + k = m := by omega
  rw [HLM, ← oc_app] at hob
  rw [HLM]
  have HOB := Lib.hid hob
  have HBB : Hid (Below N8 w8 wb) := Lib.hid (below_grown_own HBA.out HOA.out hgb HSA.out)
  have HSB : Hid (N8 ≤ wb.heap.size) := Lib.hid (by have := HBB.out.size; have := HN8.out; omega)
  clear hob hgb hbb hcb1 hcb2 hcb3 hcb4 HLM
  refine hK.out _ _ trivial (fun _ => ?_)
  clear hK
  (first | (refine wpS_pass _ rfl (by rfl) ?_; simp only [Act.put, List.getElem_toArray, List.getElem_cons_zero, List.getElem_cons_succ, List.setIfInBounds_toArray, List.set_cons_zero, List.set_cons_succ]) | (refine wpS_take _ ?_ rfl (by rfl) ?_ ?_; rotate_left; (focus (intro w' hS'; (try dsimp only at hS'); (repeat (have hS1 := hS'.1; replace hS' := hS'.2)); go_simp; (try with_reducible rfl); done)); simp only [Act.put, List.getElem_toArray, List.getElem_cons_zero, List.getElem_cons_succ, List.setIfInBounds_toArray, List.set_cons_zero, List.set_cons_succ]))
  refine wpS_done ?_
  have HRB8 : Hid (Rd wb (some ⟨g, 0, none⟩) (oc outs8)) := Lib.hid (HRD8.out.below (by rw [HN8.out]; exact HBB.out))
  have HL8 : Hid ((oc outs8).length = m * 41) := Lib.hid (by rw [oc_len HDL8.out, HM.out])
  go_wp2_with (at_builtin; refine wpList_append_rd _ rfl _ _ 53 rfl N8 33 (.agg op0.cells.toArray) 41 128 Try.underlying53 info_op3 rfl (by decide) (.slice Ab m cb) m (oc (outs8.drop k ++ outs8.take k)) rfl HOB.out (some ⟨g, 0, none⟩) m c8 (oc outs8) rfl HL8.out HRB8.out HO18.out (by unfold maxLen; omega) (by omega) HSB.out ?_; intro vc wc hoc hgc hbc; obtain ⟨Ac, cc, ec, _⟩ := own_slice hoc; subst ec)
  rw [← oc_app] at hoc
  have HRC := Lib.hid (own_rd hoc)
  have HBC : Hid (Below N8 w8 wc) := Lib.hid (below_grown_own HBB.out HOB.out hgc HSB.out)
  have HAL : Hid ((outs8.drop k ++ outs8.take k ++ outs8).length = m + m) := Lib.hid (by rw [List.length_append, List.length_append, List.length_drop, List.length_take, HM.out, Nat.min_eq_left (by omega)]; omega)
  have HIN8 : Hid (∀ W, Below N8 w8 W → ∀ o ∈ outs8, OpIn W o) := Lib.hid (fun W hW o ho => (HOVO.out o ho).opIn.below (by rw [HN8.out]; exact hW))
  have HAI : Hid (∀ o ∈ outs8.drop k ++ outs8.take k ++ outs8, o ∈ outs8) := Lib.hid (fun o ho => by
    rcases List.mem_append.1 ho with ho | ho
    · rcases List.mem_append.1 ho with ho | ho
      · exact List.mem_of_mem_drop ho
      · exact List.mem_of_mem_take ho
    · exact ho)
  have HSPL : Hid (outs8 = outs8.take k ++ outs8.drop k) := Lib.hid (List.take_append_drop k outs8).symm
  clear hoc hgc hbc
  go_loopg [8] m (fun gk_ s wr => ∃ i : Nat, s = .int .i64 (i : Int) ∧ i ≤ m ∧ m - i ≤ gk_ ∧ Hid (Below wc.heap.size wc wr))
  case atStart => exact ⟨0, rfl, by omega, by omega, Lib.hid (Below.refl _ _)⟩
  case round =>
    obtain ⟨i, rfl, hi, hgk, HBW⟩ := hrel
    have HB8W : Hid (Below N8 w8 wr) := Lib.hid (HBC.out.trans (HBW.out.mono (by have := HBC.out.size; have := HN8.out; omega)))
    have hw1 : IntKind.i64.wrap ((i : Int) + 1) = (i : Int) + 1 := by rw [IntKind.wrap_i64] <;> omega
    by_cases hlt : i + 1 < m
    · have hltz : (i : Int) + 1 < (m : Int) := by omega
      have hz1 : (i : Int) < (m : Int) := by omega
      have hz0 : (0 : Int) ≤ (i : Int) + 1 := by omega
      have hi1 : i < outs8.length := by rw [HM.out]; omega
      have hi2 : i + 1 < outs8.length := by rw [HM.out]; omega
      have r1 := rd_at (HRD8.out.below (by rw [HN8.out]; exact HB8W.out)) HDL8.out i hi1
      have r2 := rd_at (HRD8.out.below (by rw [HN8.out]; exact HB8W.out)) HDL8.out (i + 1) hi2
      rw [Nat.zero_add] at r1 r2
      have hcm : cmpS (outs8[i]'hi1).at_ (outs8[i + 1]'hi2).at_ = -1 := cmpS_neg (List.pairwise_iff_getElem.1 HSV.out.up i (i + 1) hi1 hi2 (by omega))
      obtain ⟨o, ho⟩ : ∃ o, outs8[i]'hi1 = o := ⟨_, rfl⟩
      obtain ⟨p, hp⟩ : ∃ p, outs8[i + 1]'hi2 = p := ⟨_, rfl⟩
      rw [ho] at r1 hcm
      rw [hp] at r2 hcm
      have R1 := Lib.hid r1
      have R2 := Lib.hid r2
      have GL : Hid (g < wr.heap.size) := Lib.hid (by have := HG.out; have := HB8W.out.size; omega)
      have HCM : Hid (∀ W, Calls Try.prog 12 #[o.at_.val, p.at_.val] W fun e w' => e = .returned (.int .i64 (-1)) ∧ Below W.heap.size W w') := Lib.hid (fun W => by
        have h5 := cmp_any o.at_ p.at_ W
        rw [hcm] at h5
        exact h5)
      clear r1 r2 ho hp hcm
      go_wp2_with fail
      refine wp_region_sched (fun w' => Below wr.heap.size wr w') [(true, 0), (true, 1), (true, 2), (true, 3), (true, 4), (true, 5), (true, 6), (true, 7), (true, 8), (true, 9), (true, 10), (false, 11), (true, 12)] (by kernel_rfl) (by kernel_rfl) rfl (by kernel_rfl) (Below.refl _ _).drew ?_
      iterate 4 (first | (refine wpS_pass _ rfl (by rfl) ?_; simp only [Act.put, List.getElem_toArray, List.getElem_cons_zero, List.getElem_cons_succ, List.setIfInBounds_toArray, List.set_cons_zero, List.set_cons_succ]) | (refine wpS_take _ ?_ rfl (by rfl) ?_ ?_; rotate_left; (focus (intro w' hS'; (try dsimp only at hS'); (repeat (have hS1 := hS'.1; replace hS' := hS'.2)); go_simp; (try with_reducible rfl); done)); simp only [Act.put, List.getElem_toArray, List.getElem_cons_zero, List.getElem_cons_succ, List.setIfInBounds_toArray, List.set_cons_zero, List.set_cons_succ]))
      refine wpS_load_stm _ rfl (by rfl) _ _ rfl g (i * 41 + 1) rfl o.at_ _ (fun w' hS' => range_below R1.out GL.out hS') Try.underlying23 rfl info_stm ?_
      simp only [Act.put, List.getElem_toArray, List.getElem_cons_zero, List.getElem_cons_succ, List.setIfInBounds_toArray, List.set_cons_zero, List.set_cons_succ]
      iterate 5 (first | (refine wpS_pass _ rfl (by rfl) ?_; simp only [Act.put, List.getElem_toArray, List.getElem_cons_zero, List.getElem_cons_succ, List.setIfInBounds_toArray, List.set_cons_zero, List.set_cons_succ]) | (refine wpS_take _ ?_ rfl (by rfl) ?_ ?_; rotate_left; (focus (intro w' hS'; (try dsimp only at hS'); (repeat (have hS1 := hS'.1; replace hS' := hS'.2)); go_simp; (try with_reducible rfl); done)); simp only [Act.put, List.getElem_toArray, List.getElem_cons_zero, List.getElem_cons_succ, List.setIfInBounds_toArray, List.set_cons_zero, List.set_cons_succ]))
      refine wpS_load_stm _ rfl (by rfl) _ _ rfl g ((i + 1) * 41 + 1) rfl p.at_ _ (fun w' hS' => range_below R2.out GL.out hS') Try.underlying23 rfl info_stm ?_
      simp only [Act.put, List.getElem_toArray, List.getElem_cons_zero, List.getElem_cons_succ, List.setIfInBounds_toArray, List.set_cons_zero, List.set_cons_succ]
      refine wpS_do _ rfl (by rfl) (fun K hK => ?_)
      go_simp
      refine (HCM.out _).mono ?_
      rintro e wd ⟨rfl, hbd⟩
      have HBD : Hid (Below wr.heap.size wr wd) := Lib.hid ((Below.refl wr.heap.size wr).drew.trans hbd)
      refine hK.out _ _ HBD.out (fun hS => ?_)
      clear hK hS hbd
      (first | (refine wpS_pass _ rfl (by rfl) ?_; simp only [Act.put, List.getElem_toArray, List.getElem_cons_zero, List.getElem_cons_succ, List.setIfInBounds_toArray, List.set_cons_zero, List.set_cons_succ]) | (refine wpS_take _ ?_ rfl (by rfl) ?_ ?_; rotate_left; (focus (intro w' hS'; (try dsimp only at hS'); (repeat (have hS1 := hS'.1; replace hS' := hS'.2)); go_simp; (try with_reducible rfl); done)); simp only [Act.put, List.getElem_toArray, List.getElem_cons_zero, List.getElem_cons_succ, List.setIfInBounds_toArray, List.set_cons_zero, List.set_cons_succ]))
      refine wpS_done ?_
      go_wp2_with fail
      go_roundg (m - (i + 1))
      case measure => omega
      case rel => exact ⟨i + 1, by go_num, by omega, Nat.le_refl _, Lib.hid (HBW.out.trans (HBD.out.mono HBW.out.size))⟩
    · have hltz : ¬ (i : Int) + 1 < (m : Int) := by omega
      have HSO2 := Lib.hid (sort_any Ac cc (outs8.drop k ++ outs8.take k ++ outs8) wr (HRC.out.below HBW.out) (fun o ho => HIN8.out wr HB8W.out o (HAI.out o ho)) (fun o ho => HOS8.out o (HAI.out o ho)) (by rw [HAL.out]; omega))
      rw [HAL.out] at HSO2
      go_wp2_with fail
      refine HSO2.out.mono ?_
      rintro e we ⟨ve, outse, rfl, hove, hsve⟩
      obtain ⟨Ae, ce, hve, hle, hme, hcasee⟩ := hove.v
      subst hve
      have HBE := Lib.hid (HB8W.out.trans (hove.bel.mono (by have := HB8W.out.size; have := HN8.out; omega)))
      have HSA2 := Lib.hid (sameAll_any Ae (some ⟨g, 0, none⟩) ce c8 outse outs8 we (by
        rcases hcasee with h | ⟨g', h1, h2, h3, h4, h5⟩
        · rw [h]; exact Rd.nil
        · subst h1
          exact h4.rd (fun o ho => (h5 o ho).dl)) (HRD8.out.below (by rw [HN8.out]; exact HBE.out)) (by
        rcases hcasee with h | ⟨g', h1, h2, h3, h4, h5⟩
        · rw [h]; exact fun o ho => by cases ho
        · exact fun o ho => (h5 o ho).opIn) (HIN8.out we HBE.out) (isSort_turn HSV.out.up HSPL.out hsve) (by omega))
      rw [HM.out] at HSA2
      clear hove hsve hcasee HSO2
      go_wp2_with fail
      refine HSA2.out.mono ?_
      rintro e wf ⟨rfl, hbf⟩
      have HBF := Lib.hid (HB8.out.trans ((HBE.out.trans (hbf.mono (by have := HBE.out.size; have := HN8.out; omega))).mono (by have := HB8.out.size; have := HN8.out; omega)))
      clear hbf
      go_wp2_with fail
      go_ret
      exact ⟨rfl, HBF.out⟩
end Go.Proofs.Ytabkgoandfpclaa
