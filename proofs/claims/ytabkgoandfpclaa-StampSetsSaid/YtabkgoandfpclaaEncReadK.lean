
/- The reader's calls, with a bound on the block of the bytes that are left. (Printed by wip/genK.py.) -/

import Derived.Test.YtabkgoandfpclaaEncRead3

namespace Go.Proofs.Ytabkgoandfpclaa

set_option linter.unusedVariables false

set_option linter.unusedSimpArgs false

open Go.RowKit

def RdrK (w : World) (g K : Nat) : St → Prop
  | some bs => RdrB w g K bs
  | none => RdrM w g none
theorem RdrK.m {w : World} {g K : Nat} {st : St} (h : RdrK w g K st) : RdrM w g st := by
  cases st with
  | none => exact h
  | some bs => exact RdrB.m h
theorem RdrM.k {w : World} {g : Nat} {st : St} (h : RdrM w g st) : RdrK w g w.heap.size st := by
  cases st with
  | none => exact h
  | some bs => exact h.b
theorem RdrK.below {w w' : World} {g K : Nat} {st : St} (h : RdrK w g K st) (hb : Below w.heap.size w w') : RdrK w' g K st := by
  cases st with
  | none => exact RdrM.below (st := none) h hb
  | some bs => exact RdrB.below h hb
theorem RdrK.far {w w' : World} {g K B : Nat} {st : St} (h : RdrK w g K st) (hne : g ≠ B) (hK : K ≤ B) (hg : w.grownBy w' (some B)) : RdrK w' g K st := by
  cases st with
  | none => exact RdrM.far_none h hne hg
  | some bs => exact RdrB.far h hne hK hg

set_option maxRecDepth 100000 in
set_option maxHeartbeats 1000000 in
theorem rdnum_k (K g : Nat) (st : St) (most : Int) (w : World) (h : RdrK w g K st) :
    Calls Try.prog 52 #[.pointer (some ⟨g, 0, none⟩), .int .i64 most] w fun e w' => e = .returned (.int .i64 ((getNum st most).1 : Int)) ∧ RdrK w' g K (getNum st most).2 ∧ w.grownBy w' (some g) := by
  have hst := numFrom_start most st
  generalize getNum st most = R at *
  have Hst := Lib.hid hst
  clear hst
  go_enter Try.func52, Try.ntmps52
  go_wp2_with fail
  go_loopw [5, 6] (fun u s wr => ∃ (i acc : Nat) (st' : St), i ≤ 9 ∧ u = .int .u64 (acc : Int) ∧ s = .int .i64 ((7 * i : Nat) : Int) ∧ Hid (acc < 128 ^ i) ∧ acc < 9223372036854775808 ∧ RdrK wr g K st' ∧ w.grownBy wr (some g) ∧ Hid (numFrom most i acc st' = R)) (fun _ s _ => 63 - (intOf s).toNat)
  case atStart => exact ⟨0, 0, st, by omega, rfl, rfl, by show 0 < 128 ^ 0; decide, by omega, h, World.grownBy.refl _ _, Hst.out⟩
  case round =>
    clear h Hst
    obtain ⟨i, acc, st', hi, rfl, rfl, hacc, hacc2, hm, hg, hR⟩ := hrel
    by_cases hlt : i < 9
    · by_cases hno : ∀ bs, st' = some bs → bs.length < 1
      · have hN := numFrom_none most i acc hlt st' hno
        have ht := take_no g 1 st' wr hm.m (by omega) hno
        have Ht := Lib.hid ht
        have HN := Lib.hid hN
        clear ht hN hno
        have hnil := fun (w : World) (A : Option Addr) (n c : Nat) => Lib.run_eql_slice_nil (P := Try.prog) w 36 5 A n c 0 0 Try.underlying36
        go_wp2_with fail
        refine Ht.out.mono ?_
        rintro e w1 ⟨rfl, h1, h2⟩
        go_wp2_with fail
        go_ret
        have : R = (0, none) := by rw [← hR.out, HN.out]
        subst this
        exact ⟨rfl, h1, grown_trans1 hg h2⟩
      · obtain ⟨c, r, rfl⟩ : ∃ c r, st' = some (c :: r) := by
          cases st' with
          | none => exact absurd (fun bs h => by cases h) hno
          | some bs =>
            cases bs with
            | nil => exact absurd (fun bs h => by cases h; simp) hno
            | cons c r => exact ⟨c, r, rfl⟩
        have ht := take_yesB g 1 K (c :: r) wr hm (by simp)
        have Ht := Lib.hid ht
        clear ht hno hm
        have hnil := fun (w : World) (A : Option Addr) (n c : Nat) => Lib.run_eql_slice_nil (P := Try.prog) w 36 5 A n c 0 0 Try.underlying36
        go_wp2_with fail
        refine Ht.out.mono ?_
        rintro e w1 ⟨⟨A1, c1, rfl, hr1, hn1⟩, h1, h2⟩
        have hA := hn1 (by omega)
        obtain ⟨b, o, rfl, hc⟩ := hr1.byte 0 (by simp)
        have hg2 := grown_trans1 hg h2
        clear hn1 hr1 h2 hg Ht
        simp only [List.take_succ_cons, List.take_zero, List.getElem_cons_zero, Nat.add_zero] at hc
        have e1 := and127 c
        have hm7 : c.toNat % 128 ≤ 127 := by omega
        have e2 := shl_group (c.toNat % 128) i hm7 hlt
        have e3 := or_group acc (c.toNat % 128) i hacc.out hm7 hlt
        have hV1 := acc_le i acc c hlt hacc.out
        have hV2 := acc_lt i acc c hacc.out
        have hmore := numFrom_more most i acc hlt c r
        have hbad := numFrom_bad most i acc hlt c r
        have hgood := numFrom_good most i acc hlt c r
        generalize acc + c.toNat % 128 * 128 ^ i = V at *
        generalize c.toNat % 128 * 128 ^ i = M at *
        generalize c.toNat % 128 = m at *
        have HV2 := Lib.hid hV2
        clear hV2
        by_cases hc1 : 128 ≤ c.toNat
        · have HM := Lib.hid (hmore hc1)
          clear hmore hbad hgood
          go_wp2_with fail
          go_roundw
          case rel => exact ⟨i + 1, V, some r, by omega, rfl, by first | rfl | (congr 1; omega), HV2.out, hV1, h1, hg2, by show _ = _; rw [← HM.out]; exact hR.out⟩
          case measure => simp [intOf]; omega
        have hc2 : c.toNat < 128 := by omega
        by_cases hb1 : 4611686018427387904 < V
        · have HB := Lib.hid (hbad hc2 (.inl hb1))
          clear hmore hbad hgood
          go_wp2_with fail
          refine (fail_any g (some r) _ (RdrB.m h1)).mono ?_
          rintro e w2 ⟨rfl, h3, h4⟩
          go_wp2_with fail
          go_ret
          have : R = (0, none) := by rw [← hR.out, HB.out]
          subst this
          exact ⟨rfl, h3, grown_trans1 hg2 h4⟩
        by_cases hb2 : most < (V : Int)
        · have HB := Lib.hid (hbad hc2 (.inr (.inl hb2)))
          clear hmore hbad hgood
          go_wp2_with fail
          refine (fail_any g (some r) _ (RdrB.m h1)).mono ?_
          rintro e w2 ⟨rfl, h3, h4⟩
          go_wp2_with fail
          go_ret
          have : R = (0, none) := by rw [← hR.out, HB.out]
          subst this
          exact ⟨rfl, h3, grown_trans1 hg2 h4⟩
        by_cases hb3 : c.toNat = 0
        · have hz : ((c.toNat : Int) == 0) = true := by rw [beq_iff_eq]; omega
          by_cases hi0 : 0 < i
          · have HB := Lib.hid (hbad hc2 (.inr (.inr ⟨hb3, hi0⟩)))
            clear hmore hbad hgood hb3
            go_wp2_with fail
            refine (fail_any g (some r) _ (RdrB.m h1)).mono ?_
            rintro e w2 ⟨rfl, h3, h4⟩
            go_wp2_with fail
            go_ret
            have : R = (0, none) := by rw [← hR.out, HB.out]
            subst this
            exact ⟨rfl, h3, grown_trans1 hg2 h4⟩
          · have HG := Lib.hid (hgood hc2 (by omega))
            clear hmore hbad hgood hb3
            go_wp2_with fail
            go_ret
            have : R = (V, some r) := by rw [← hR.out, HG.out]
            subst this
            exact ⟨rfl, h1, hg2⟩
        · have hz : ((c.toNat : Int) == 0) = false := by rw [beq_eq_false_iff_ne]; omega
          have HG := Lib.hid (hgood hc2 (by omega))
          clear hmore hbad hgood hb3
          go_wp2_with fail
          go_ret
          have : R = (V, some r) := by rw [← hR.out, HG.out]
          subst this
          exact ⟨rfl, h1, hg2⟩
    · have : i = 9 := by omega
      subst this
      have HE := Lib.hid (numFrom_end most acc st')
      go_wp2_with fail
      refine (fail_any g _ _ hm.m).mono ?_
      rintro e w2 ⟨rfl, h3, h4⟩
      go_wp2_with fail
      go_ret
      have : R = (0, none) := by rw [← hR.out, HE.out]
      subst this
      exact ⟨rfl, h3, grown_trans1 hg h4⟩

set_option maxHeartbeats 1000000 in
theorem rdtext_k (K g : Nat) (st : St) (most : Int) (w : World) (h : RdrK w g K st) :
    Calls Try.prog 54 #[.pointer (some ⟨g, 0, none⟩), .int .i64 most] w fun e w' => e = .returned (.string ⟨(getText st most).1.toArray⟩) ∧ RdrK w' g K (getText st most).2 ∧ w.grownBy w' (some g) := by
  have hn := rdnum_k K g st most w h
  have hle := getNum_le st most
  have hcases := st_cases (getNum st most).2 (getNum st most).1
  have hT : getText st most = getN (getNum st most).2 (getNum st most).1 := rfl
  generalize getText st most = T at *
  generalize getNum st most = R at *
  obtain ⟨n, st2⟩ := R
  dsimp only at hn hle hcases hT
  have HN := Lib.hid hn
  clear hn
  go_enter Try.func54, Try.ntmps54
  rcases hcases with ⟨bs, rfl, hlen⟩ | hno
  · rw [getN_yes hlen] at hT
    have HT := Lib.hid hT
    clear hT
    go_wp2_with fail
    refine HN.out.mono ?_
    rintro e w1 ⟨rfl, h1, hg1⟩
    go_wp2_with fail
    refine (take_yesB g n K bs w1 h1 hlen).mono ?_
    rintro e w2 ⟨⟨A2, c2, rfl, hr2, _⟩, h2, hg2⟩
    have hcv := run_str_of_bytes (P := Try.prog) (src := 36) (dst := 9) (e := 5) n c2 (by rw [List.length_take]; omega) Try.underlying36 Try.underlying5 Try.underlying9 hr2
    go_wp2_with fail
    go_ret
    have := HT.out
    subst this
    exact ⟨rfl, h2, grown_trans1 hg1 hg2⟩
  · rw [getN_no hno] at hT
    have HT := Lib.hid hT
    have ht := fun w1 (h1 : RdrK w1 g K st2) => take_no g n st2 w1 (RdrK.m h1) (by omega) hno
    have Ht := Lib.hid ht
    clear hT hno ht
    go_wp2_with fail
    refine HN.out.mono ?_
    rintro e w1 ⟨rfl, h1, hg1⟩
    go_wp2_with fail
    refine (Ht.out w1 h1).mono ?_
    rintro e w2 ⟨rfl, h2, hg2⟩
    have hcv := run_str_of_bytes (P := Try.prog) (w := w2) (A := none) (bs := []) (src := 36) (dst := 9) (e := 5) 0 0 rfl Try.underlying36 Try.underlying5 Try.underlying9 Rd.nil
    go_wp2_with fail
    go_ret
    have := HT.out
    subst this
    exact ⟨rfl, h2, grown_trans1 hg1 hg2⟩


set_option maxRecDepth 100000 in
set_option maxHeartbeats 1000000 in
theorem rdid_k (KB g : Nat) (st : St) (w : World) (h : RdrK w g KB st) (hKw : KB ≤ w.heap.size) :
    Calls Try.prog 55 #[.pointer (some ⟨g, 0, none⟩)] w fun e w' => e = .returned (.agg (b8s (getId st).1).toArray) ∧ RdrK w' g KB (getId st).2 ∧ w.grownBy w' (some g) := by
  have hlt := h.m.lt
  obtain ⟨W0, hW0⟩ : ∃ W0 : World, W0 = w.alloc (.cells (b8s zeros32).toArray 30) := ⟨_, rfl⟩
  have hrow : W0.heap[w.heap.size]? = some (.cells (b8s zeros32).toArray 30 (0, 0)) := by rw [hW0]; exact heap_alloc_new w _
  have hB : Below w.heap.size w W0 := by rw [hW0]; exact (Below.refl _ _).alloc (Nat.le_refl _) _
  have hW1 : w.alloc (.cells #[.int .u8 0, .int .u8 0, .int .u8 0, .int .u8 0, .int .u8 0, .int .u8 0, .int .u8 0, .int .u8 0, .int .u8 0, .int .u8 0, .int .u8 0, .int .u8 0, .int .u8 0, .int .u8 0, .int .u8 0, .int .u8 0, .int .u8 0, .int .u8 0, .int .u8 0, .int .u8 0, .int .u8 0, .int .u8 0, .int .u8 0, .int .u8 0, .int .u8 0, .int .u8 0, .int .u8 0, .int .u8 0, .int .u8 0, .int .u8 0, .int .u8 0, .int .u8 0] 30) = W0 := hW0.symm
  have hcases := st_cases st 32
  have hT : getId st = (padId (getN st 32).1, (getN st 32).2) := rfl
  have hlen := getId_len st
  generalize getId st = T at *
  obtain ⟨idv, st2⟩ := T
  dsimp only at hT hlen ⊢
  have HT := Lib.hid hT
  have HL := Lib.hid hlen
  clear hW0 hT hlen
  go_enter Try.func55, Try.ntmps55
  go_wp2_with fail
  clear hW1
  rcases hcases with ⟨bs, rfl, hle⟩ | hno
  · have hR : RdrB W0 g KB bs := RdrB.below h hB
    refine wp_region_sched (fun w' => True) [(true, 0), (true, 1), (false, 2), (false, 3)] (by kernel_rfl) (by kernel_rfl) rfl (by kernel_rfl) trivial ?_
    (repeat (first | (refine wpS_pass _ rfl (by rfl) ?_; simp only [Act.put, List.getElem_toArray, List.getElem_cons_zero, List.getElem_cons_succ, List.setIfInBounds_toArray, List.set_cons_zero, List.set_cons_succ]) | (refine wpS_take _ ?_ rfl (by rfl) ?_ ?_; rotate_left; (focus (intro w' hS'; (try dsimp only at hS'); (repeat (have hS1 := hS'.1; replace hS' := hS'.2)); go_simp; (try with_reducible rfl); done)); simp only [Act.put, List.getElem_toArray, List.getElem_cons_zero, List.getElem_cons_succ, List.setIfInBounds_toArray, List.set_cons_zero, List.set_cons_succ])))
    refine wpS_do _ rfl (by rfl) (fun K hK => ?_)
    go_simp
    refine (take_yesB g 32 KB bs W0.drew hR hle).mono ?_
    rintro e w2 ⟨⟨A2, c2, rfl, hr2, _⟩, h2, hg2⟩
    refine hK.out _ _ trivial (fun _ => ?_)
    clear hK K
    have hrow2 : w2.heap[w.heap.size]? = some (.cells (b8s zeros32).toArray 30 (0, 0)) := (hg2.block _ (Array.getElem?_eq_some_iff.1 hrow).1 (by simp; omega)).trans hrow
    have hid2 : bs.take 32 = idv ∧ st2 = some (bs.drop 32) := by
      have := HT.out
      rw [getN_yes hle] at this
      simp only [Prod.mk.injEq] at this
      rw [this.1, this.2]
      refine ⟨?_, rfl⟩
      unfold padId
      rw [if_neg (by intro h0; have h1 := congrArg List.length h0; rw [List.length_take, List.length_nil] at h1; omega)]
    obtain ⟨e1, rfl⟩ := hid2
    rw [e1] at hr2
    have hcopy := fun ty => run_copy_whole (P := Try.prog) (ty := ty) (dT := 36) (sT := 36) (c := 32) (sc := c2) Try.underlying36 info_u8s hrow2 (n := 32) (bs := idv) HL.out rfl hr2 (by omega)
    have HC := Lib.hid hcopy
    have hrow3 : (w2.setRow w.heap.size (b8s idv).toArray).heap[w.heap.size]? = some (.cells (b8s idv).toArray 30 (0, 0)) := setRow_heap _ _ _ _ _ _ hrow2
    have hg3 : w2.grownBy (w2.setRow w.heap.size (b8s idv).toArray) (some w.heap.size) := ⟨rfl, rfl, rfl, by simp, fun k _ hk => setRow_other _ _ _ _ (by simpa using hk)⟩
    have hend : ∀ w4, (w2.setRow w.heap.size (b8s idv).toArray).grownBy w4 (some w.heap.size) → RdrB w4 g KB (bs.drop 32) ∧ w.grownBy w4 (some g) := by
      intro w4 hg4
      have h24 := grown_trans1 hg3 hg4
      refine ⟨h2.far (by omega) hKw h24, ?_⟩
      exact ⟨h24.os.trans (hg2.os.trans hB.os), h24.tape.trans (hg2.tape.trans hB.tape), h24.output.trans (hg2.output.trans hB.output), Nat.le_trans hB.size (Nat.le_trans hg2.size h24.size),
        fun k hk hne => (h24.block k (Nat.lt_of_lt_of_le (Nat.lt_of_lt_of_le hk hB.size) hg2.size) (by simp; omega)).trans ((hg2.block k (Nat.lt_of_lt_of_le hk hB.size) hne).trans (hB.block k hk))⟩
    generalize (w2.setRow w.heap.size (b8s idv).toArray) = w3 at *
    clear hrow2 hg3 h2 hg2 hr2 hR h hrow
    refine wpS_do _ rfl (by rfl) (fun K hK => ?_)
    refine Lib.wp_copy_run _ _ _ 36 36 rfl _ _ rfl rfl (HC.out _) ?_
    refine hK.out _ _ trivial (fun _ => ?_)
    clear hK K HC
    go_simp
    refine wpS_done ?_
    have Hend := Lib.hid hend
    have Hrow3 := Lib.hid hrow3
    clear hend hrow3
    go_wp2_with (first
      | (refine wpList_load_mid rfl _ _ rfl w.heap.size 0 rfl (b8s idv) _ (range_of_row Hrow3.out) Try.underlying30 rfl (by rw [b8s_length, HL.out]; exact info_id) ?_)
      | (refine wpList_store_mid rfl _ _ _ rfl w.heap.size 0 (b8s idv).toArray rfl rfl (there_of_row Hrow3.out) (by rw [List.size_toArray, b8s_length, HL.out]; exact info_id) (all_oneCell_toArray (b8s_one' _)) ?_))
    have hend := Hend.out _ (setCells_grown w.heap.size (b8s idv) 0 _)
    have hres := World.rangeAt_setCells_same _ w.heap.size 0 (b8s idv) (by have := there_of_row Hrow3.out; simpa using this)
    refine bodyPost_ret (v := .agg (b8s idv).toArray) ?_ rfl ⟨rfl, hend.1, hend.2⟩
    have hl := run_loadVar_mid (P := Try.prog) _ w.heap.size 0 30 (b8s idv) _ hres Try.underlying30 rfl (by rw [b8s_length, HL.out]; exact info_id)
    simp [results, Try.results55, asAddr, hl, Act.put]
  · have hM : RdrM W0 g st := h.m.below hB
    have ht := take_no g 32 st W0.drew hM (by omega) hno
    have Ht := Lib.hid ht
    have hid2 : zeros32 = idv ∧ st2 = none := by
      have := HT.out
      rw [getN_no hno] at this
      simp only [Prod.mk.injEq] at this
      exact ⟨this.1.symm, this.2⟩
    obtain ⟨e1, rfl⟩ := hid2
    rw [e1] at hrow
    clear ht hno
    refine wp_region_sched (fun w' => True) [(true, 0), (true, 1), (false, 2), (false, 3)] (by kernel_rfl) (by kernel_rfl) rfl (by kernel_rfl) trivial ?_
    (repeat (first | (refine wpS_pass _ rfl (by rfl) ?_; simp only [Act.put, List.getElem_toArray, List.getElem_cons_zero, List.getElem_cons_succ, List.setIfInBounds_toArray, List.set_cons_zero, List.set_cons_succ]) | (refine wpS_take _ ?_ rfl (by rfl) ?_ ?_; rotate_left; (focus (intro w' hS'; (try dsimp only at hS'); (repeat (have hS1 := hS'.1; replace hS' := hS'.2)); go_simp; (try with_reducible rfl); done)); simp only [Act.put, List.getElem_toArray, List.getElem_cons_zero, List.getElem_cons_succ, List.setIfInBounds_toArray, List.set_cons_zero, List.set_cons_succ])))
    refine wpS_do _ rfl (by rfl) (fun K hK => ?_)
    go_simp
    refine Ht.out.mono ?_
    rintro e w2 ⟨rfl, h2, hg2⟩
    refine hK.out _ _ trivial (fun _ => ?_)
    clear hK K
    have hrow3 : w2.heap[w.heap.size]? = some (.cells (b8s idv).toArray 30 (0, 0)) := (hg2.block _ (Array.getElem?_eq_some_iff.1 hrow).1 (by simp; omega)).trans hrow
    have hend : ∀ w4, w2.grownBy w4 (some w.heap.size) → RdrM w4 g none ∧ w.grownBy w4 (some g) := by
      intro w4 h24
      refine ⟨h2.far_none (by omega) h24, ?_⟩
      exact ⟨h24.os.trans (hg2.os.trans hB.os), h24.tape.trans (hg2.tape.trans hB.tape), h24.output.trans (hg2.output.trans hB.output), Nat.le_trans hB.size (Nat.le_trans hg2.size h24.size),
        fun k hk hne => (h24.block k (Nat.lt_of_lt_of_le (Nat.lt_of_lt_of_le hk hB.size) hg2.size) (by simp; omega)).trans ((hg2.block k (Nat.lt_of_lt_of_le hk hB.size) hne).trans (hB.block k hk))⟩
    clear h2 hg2 hM h hrow
    refine wpS_do _ rfl (by rfl) (fun K hK => ?_)
    refine Lib.wp_copy_run _ _ _ 36 36 rfl _ _ rfl rfl (run_copy_nil (P := Try.prog) w2 36 36 _ 5 _ 32 32 Try.underlying36 (by rw [info_u8s]; rfl)) ?_
    refine hK.out _ _ trivial (fun _ => ?_)
    clear hK K
    go_simp
    refine wpS_done ?_
    have Hend := Lib.hid hend
    have Hrow3 := Lib.hid hrow3
    clear hend hrow3
    go_wp2_with (first
      | (refine wpList_load_mid rfl _ _ rfl w.heap.size 0 rfl (b8s idv) _ (range_of_row Hrow3.out) Try.underlying30 rfl (by rw [b8s_length, HL.out]; exact info_id) ?_)
      | (refine wpList_store_mid rfl _ _ _ rfl w.heap.size 0 (b8s idv).toArray rfl rfl (there_of_row Hrow3.out) (by rw [List.size_toArray, b8s_length, HL.out]; exact info_id) (all_oneCell_toArray (b8s_one' _)) ?_))
    have hend := Hend.out _ (setCells_grown w.heap.size (b8s idv) 0 _)
    have hres := World.rangeAt_setCells_same _ w.heap.size 0 (b8s idv) (by have := there_of_row Hrow3.out; simpa using this)
    refine bodyPost_ret (v := .agg (b8s idv).toArray) ?_ rfl ⟨rfl, hend.1, hend.2⟩
    have hl := run_loadVar_mid (P := Try.prog) _ w.heap.size 0 30 (b8s idv) _ hres Try.underlying30 rfl (by rw [b8s_length, HL.out]; exact info_id)
    simp [results, Try.results55, asAddr, hl, Act.put]
end Go.Proofs.Ytabkgoandfpclaa
