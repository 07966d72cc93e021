
/- DiskPlays, walked. (Printed by wip/genDp19.py.) -/

import Derived.Test.YtpmifpblamjclaaDp18

import Derived.Test.YtpmifpblamjclaaDpOpen

namespace Go.Proofs.Ytpmifpblamjclaa

set_option linter.unusedVariables false

set_option linter.unusedSimpArgs false

set_option linter.unusedSectionVars false

open Go.RowKit

/-- no name is empty -/
def NE (m : DM) : Prop := (∀ p ∈ m.now, p.1 ≠ []) ∧ (∀ p ∈ m.sure, p.1 ≠ [])
theorem NE.step {m : DM} (h : NE m) : NE (stepM m).1 := by
  obtain ⟨n1, n2, n3, n4, n5⟩ := step_same m
  unfold stepM
  split
  · split <;> exact h
  · exact h
theorem NE.turn {m : DM} (h : NE m) (t : TM) : NE (turnM m t).1 := by
  have hs := h.step
  unfold turnM
  dsimp only
  split
  · exact ⟨doN_ne hs.1 t, hs.2⟩
  · exact hs
theorem NE.do_ {m : DM} (h : NE m) (k : Nat) (a z b : List UInt8) : NE (doM m k a z b).1 := by
  have hs := h.step
  unfold doM
  split
  · unfold createM
    split
    · exact h
    split
    · exact h
    split
    · exact h
    split
    · exact h
    split
    · exact NE.turn (m := { m with files := m.files ++ [⟨[], 0⟩] }) h _
    · exact hs
  split
  · unfold appendM
    split
    · exact h
    · split
      · exact h
      · split
        · exact hs
        · exact hs
  split
  · unfold syncM
    split
    · exact h
    · split
      · exact hs
      · exact hs
  split
  · unfold renameM
    split
    · exact h
    · split
      · exact h
      · exact h.turn _
  split
  · unfold removeM
    split
    · exact h
    · exact h.turn _
  · unfold flushM
    split
    · exact h
    · split
      · exact ⟨hs.1, h.1⟩
      · exact hs
theorem NE.cut : ∀ (ns : NM) (keep : List Int) {m : DM}, NE m → NE (cutM ns keep m)
  | [], _, _, h => h
  | p :: ns, keep, m, h => by
    rw [cutM.eq_def]
    dsimp only
    split
    · exact NE.cut ns keep h
    · exact NE.cut ns _ (m := setF m p.2 _) h
theorem NE.crash {m : DM} (h : NE m) (turns : Int) (keep : List Int) : NE (crashM m turns keep) := by
  rw [crashM_eq]
  exact NE.cut _ _ (m := crash0 m turns) ⟨foldN_ne _ h.2, foldN_ne _ h.2⟩

theorem RdF.cross {F G : Nat → Prop} {w w' : World} {A : Option Addr} {cs : List Value} (h1 : RdF F w' A cs) (h2 : RdF G w A cs) : RdF (fun b => F b ∨ G b) w' A cs := ⟨h1.1, fun hn a ha h => h.elim (h1.2 hn a ha) (h2.2 hn a ha)⟩
theorem RIn.cross {F G : Nat → Prop} {w w' : World} {R : RA} {m : DM} (h1 : RIn F w' R m) (h2 : RIn G w R m) : RIn (fun b => F b ∨ G b) w' R m :=
  ⟨h1.fm, h1.rf.cross h2.rf, fun p hp => ⟨(h1.rb p hp).1.cross (h2.rb p hp).1, (h1.rb p hp).2⟩, h1.rn.cross h2.rn, h1.rs.cross h2.rs, h1.rt.cross h2.rt⟩
/-- a row of a disk, as a list -/
def RA.cells (R : RA) (m : DM) : List Value := [.slice R.fa m.files.length R.fc, .slice R.na m.now.length R.nc, .slice R.sa m.sure.length R.sc, .slice R.ta m.turns.length R.tc, .int .i64 (m.most : Int), .int .i64 (m.fuse : Int), .bool m.down]
theorem info_dkl (R : RA) (m : DM) : (Try.prog.info? 50).map (·.size) = some (R.cells m).toArray.size := by
  show _ = some 7
  kernel_rfl
theorem dk_one (R : RA) (m : DM) : (R.cells m).toArray.all (·.oneCell') = true := by simp [RA.cells, Value.oneCell']

/-- where the play stands -/
structure PlaySt (N g gm : Nat) (w1 wr : World) (d0 : DA) (m : DM) (d : DA) (R : RA) (K L : Nat) : Prop where
  aft : Aft N g w1 wr m d0 d
  row : wr.heap[gm]? = some (.cells (R.cells m).toArray 50 (0, 0))
  nf : ¬ foot g d gm
  rin : RIn (fun b => foot g d b ∨ b = gm) wr R m
  fit : Fit K L m
  ne : NE m
section

variable {N g gm K L K' L' : Nat} {w1 wr w2 w3 : World} {d0 d d' : DA} {m m' : DM} {R R' : RA}

theorem PlaySt.below (h : PlaySt N g gm w1 wr d0 m d R K L) (hb : Below wr.heap.size wr w2) : PlaySt N g gm w1 w2 d0 m d R K L :=
  ⟨h.aft.then hb, (hb.block _ (Array.getElem?_eq_some_iff.1 h.row).1).trans h.row, h.nf, h.rin.below hb, h.fit, h.ne⟩
theorem PlaySt.lt (h : PlaySt N g gm w1 wr d0 m d R K L) {b : Nat} (hb : foot g d b ∨ b = gm) : b < wr.heap.size := by
  rcases hb with hb | rfl
  · exact h.aft.disk.foot_lt hb
  · exact (Array.getElem?_eq_some_iff.1 h.row).1
/-- behind a call of the disk: the document's disk is the old one as yet -/
theorem PlaySt.moved (h : PlaySt N g gm w1 wr d0 m d R K L) (ha : Aft N g wr w2 m' d d') :
    Aft N g w1 w2 m' d0 d' ∧ w2.heap[gm]? = some (.cells (R.cells m).toArray 50 (0, 0)) ∧ ¬ foot g d' gm ∧ RIn (fun b => foot g d' b ∨ b = gm) w2 R m := by
  have hl := (Array.getElem?_eq_some_iff.1 h.row).1
  refine ⟨h.aft.trans ha, (ha.frm.block _ hl h.nf).trans h.row, fun hf => ?_, ?_⟩
  · rcases ha.ext _ hf with h1 | h1
    · exact h.nf h1
    · omega
  · exact ((h.rin.narrow (G := foot g d) (fun b hb => .inl hb)).aft ha).cross (h.rin.narrow (G := fun b => b = gm) (fun b hb => .inr hb))
/-- the document's disk is stored -/
theorem PlaySt.store (ha : Aft N g w1 wr m' d0 d) (hgm : w1.heap.size ≤ gm) (hg : wr.grownBy w2 (some gm)) (hr : w2.heap[gm]? = some (.cells (R'.cells m').toArray 50 (0, 0))) (hn : ¬ foot g d gm)
    (hri : RIn (fun b => foot g d b ∨ b = gm) wr R' m') (hf : Fit K L m') (hne : NE m') : PlaySt N g gm w1 w2 d0 m' d R' K L := by
  have hfr : Frm (fun b => b = gm) wr w2 := grown_frm hg rfl
  refine ⟨⟨ha.disk.frm hfr (fun b hb e => hn (by rw [← e]; exact hb)), ha.frm.trans hfr (fun i hi => .inr (by rw [hi]; exact hgm)), ha.ext⟩, hr, hn, hri.frm hfr (fun b hb => .inr hb), hf, hne⟩
end

theorem info_op6 {a b c d e f : Value} : (Try.prog.info? 53).map (·.size) = some (#[a, b, c, d, e, f] : Array Value).size := by kernel_rfl
theorem op_one (o : OpP) : (opC o).toArray.all (·.oneCell') = true := by simp [opC, Value.oneCell']
theorem info_opc (o : OpP) : (Try.prog.info? 53).map (·.size) = some (opC o).length := by
  show _ = some 6
  kernel_rfl
theorem info_opa (o : OpP) : (Try.prog.info? 53).map (·.size) = some (opC o).toArray.size := by
  show _ = some 6
  kernel_rfl

set_option maxRecDepth 100000 in
set_option maxHeartbeats 16000000 in
theorem plays_any (room : Int) (hroom : -9223372036854775808 ≤ room ∧ room ≤ 9223372036854775807) (A : Option Addr) (os : List OpP) (n c : Nat) (hn : os.length = n) (hnl : n ≤ 9223372036854775807) (Nm : ByteArray) (hNm : Nm.size ≤ maxLen) (w : World) (hr : Rd w A (os.flatMap opC)) (hok : ∀ o ∈ os, o.ok w) :
    Calls Try.prog 7 #[.int .i64 room, .slice A n c, .string Nm] w fun e w' => e = .returned (.bool true) ∧ Below w.heap.size w w' := by
  have HR := Lib.hid hr
  have HOK := Lib.hid hok
  have HN := Lib.hid hn
  clear hr hok hn
  have HNW := Lib.hid (new_any room hroom w)
  go_enter Try.func7, Try.ntmps7
  go_wp2_with fail
  refine HNW.out.mono ?_
  rintro e w1 ⟨g, d0, rfl, hd0, hb0⟩
  have A0 := Lib.hid (Aft.refl hd0)
  have B0 := Lib.hid hb0
  have F0 := Lib.hid (fit_new room hroom.2)
  clear hd0 hb0 HNW
  go_wp2_with fail
  refine (alive_any _).mono ?_
  rintro e w2 ⟨rfl, hb⟩
  have A1 := Lib.hid (A0.out.then hb)
  have B2 := Lib.hid hb
  clear hb
  have HRN := Lib.hid (rnew_any room w2)
  go_wp2_with fail
  refine HRN.out.mono ?_
  rintro e w3 ⟨rfl, hb⟩
  have A3 := Lib.hid (A1.out.then hb)
  have B3 : Hid (Below w1.heap.size w1 w3) := Lib.hid (B2.out.trans (hb.mono B2.out.size))
  clear hb HRN
  obtain ⟨lm, hlm⟩ : ∃ l, R0.cells (newM room) = l := ⟨_, rfl⟩
  have HLM := Lib.hid hlm
  have hlv : R0.val (newM room) = .agg lm.toArray := by rw [← hlm]; rfl
  rw [hlv]
  obtain ⟨gm, hgm⟩ : ∃ x, w3.heap.size = x := ⟨_, rfl⟩
  obtain ⟨WA, hWA⟩ : ∃ W, w3.alloc (.cells #[.slice none 0 0, .slice none 0 0, .slice none 0 0, .slice none 0 0, .int .i64 0, .int .i64 0, .bool false] 50) = W := ⟨_, rfl⟩
  obtain ⟨rA, bA, sA⟩ := new_row hWA
  rw [hgm] at rA
  obtain ⟨WB, hWB, TB, RB, GB⟩ := put_row (new := lm) rA (by rw [← hlm]; rfl)
  have HWB := Lib.hid hWB
  have HIL : Hid ((Try.prog.info? 50).map (·.size) = some lm.toArray.size) := Lib.hid (by rw [← hlm]; exact info_dkl _ _)
  have HOL : Hid (lm.toArray.all (·.oneCell') = true) := Lib.hid (by rw [← hlm]; exact dk_one _ _)
  have HGM : Hid (w1.heap.size ≤ gm) := Lib.hid (by have := B3.out.size; omega)
  have hnf0 : ¬ foot g d0 gm := fun hf => by
    have h1 := A3.out.disk.foot_lt hf
    omega
  have P0 : Hid (PlaySt w.heap.size g gm w1 WB d0 (newM room) d0 R0 0 0) := Lib.hid (by
    refine PlaySt.store (A3.out.then bA) HGM.out GB.out (by rw [hlm]; exact RB.out) hnf0 (rin_new _ _ room) F0.out ⟨?_, ?_⟩
    · intro p hp; cases hp
    · intro p hp; cases hp)
  have HBW : Hid (∀ (wr : World) (m : DM) (d : DA) (R : RA) (K L : Nat), PlaySt w.heap.size g gm w1 wr d0 m d R K L → Below w.heap.size w wr) := Lib.hid (fun wr m d R K L h => B0.out.trans (h.aft.bel A0.out.disk B0.out.size))
  clear hlm hlv rA bA sA hWB hnf0 A1 A3 B2 B3
  go_wp2_with ((with_reducible (refine wpList_store_mid rfl _ _ _ rfl ?_ ?_ ?_ ?_ ?_ ?_ ?_ ?_ ?_)); (exact gm); (exact 0); (exact (lm).toArray); (exact rfl); (exact rfl); (exact TB.out); (exact HIL.out); (exact HOL.out); rw [HWB.out])
  try rw [hgm]
  clear hgm hWA
  go_loopg [9, 30] (n * 1) (fun gk_ uv iv wr => ∃ (j u K L : Nat) (m : DM) (d : DA) (R : RA), j ≤ n ∧ gk_ = n - j ∧ uv = .int .i64 (u : Int) ∧ iv = .int .i64 (j : Int) ∧ u ≤ 10000 ∧ 20 * K ≤ u ∧ L ≤ u ∧ Hid (PlaySt w.heap.size g gm w1 wr d0 m d R K L))
  case atStart => exact ⟨0, 0, 0, 0, _, d0, R0, by omega, by omega, rfl, rfl, by omega, by omega, by omega, P0⟩
  case round =>
  clear P0 HIL HOL HLM TB RB GB HWB
  obtain ⟨j, u, K, L, m, d, R, hj, rfl, rfl, rfl, hu, hKu, hLu, HP⟩ := hrel
  by_cases hlt : j < n
  · have i1 : (j : Int) < (n : Int) := by omega
    have hjl : j < os.length := by rw [HN.out]; exact hlt
    obtain ⟨o, ho⟩ : ∃ o, os[j] = o := ⟨_, rfl⟩
    have HO : Hid (o.ok w) := Lib.hid (HOK.out o (by rw [← ho]; exact List.getElem_mem hjl))
    have hrd := HR.out.below ((HBW.out _ _ _ _ _ _ HP.out))
    obtain ⟨b, of_, hA, _⟩ := hrd.all (by rw [flat_length (f := opC) (m := 6) os (fun _ _ => rfl)]; omega)
    rw [hA] at hrd
    have hrow := rd_flat (f := opC) (m := 6) hrd (fun _ _ => rfl) j hjl
    rw [ho] at hrow
    have HRW := Lib.hid hrow
    have HA := Lib.hid hA
    rw [hA]
    obtain ⟨lo, hlo⟩ : ∃ l, opC o = l := ⟨_, rfl⟩
    have HLO := Lib.hid hlo
    have HIO1 : Hid ((Try.prog.info? 53).map (·.size) = some lo.length) := Lib.hid (by rw [← hlo]; exact info_opc _)
    have HIO2 : Hid ((Try.prog.info? 53).map (·.size) = some lo.toArray.size) := Lib.hid (by rw [← hlo]; exact info_opa _)
    have HOO : Hid (lo.toArray.all (·.oneCell') = true) := Lib.hid (by rw [← hlo]; exact op_one _)
    rw [hlo] at HRW
    obtain ⟨gq, hgq⟩ : ∃ x, wr.heap.size = x := ⟨_, rfl⟩
    obtain ⟨WC, hWC⟩ : ∃ W, wr.alloc (.cells #[.int .i64 0, .string ⟨#[]⟩, .string ⟨#[]⟩, .int .i64 0, .slice none 0 0, .slice none 0 0] 53) = W := ⟨_, rfl⟩
    obtain ⟨rC, bC, sC⟩ := new_row hWC
    rw [hgq] at rC
    obtain ⟨WD, hWD, TD, RD, GD⟩ := put_row (new := lo) rC (by rw [← hlo]; rfl)
    have HWD := Lib.hid hWD
    have BD : Hid (Below wr.heap.size wr WD) := Lib.hid (bel_grown bC bC.size GD.out (by omega))
    have PD := Lib.hid (HP.out.below BD.out)
    rw [← hlo] at RD
    obtain ⟨ok_, S, Z, nI, Ab, cb, bs, Ak, ck, ks⟩ := o
    obtain ⟨nb, hnb⟩ : ∃ x, bs.length = x := ⟨_, rfl⟩
    obtain ⟨nk, hnk⟩ : ∃ x, ks.length = x := ⟨_, rfl⟩
    have HNB := Lib.hid hnb
    have HNK := Lib.hid hnk
    have hnb47 : nb ≤ 140737488355328 := by rw [← hnb]; exact HO.out.lb
    have hnr := HO.out.n
    dsimp only at hnr
    have RQ : Hid (WD.heap[gq]? = some (.cells #[.int .i64 ok_, .string S, .string Z, .int .i64 nI, .slice Ab nb cb, .slice Ak nk ck] 53 (0, 0))) := Lib.hid (by rw [← hnb, ← hnk]; exact RD.out)
    have q0 : WD.cell? ⟨gq, 0, none⟩ = some (.int .i64 ok_) := row_cell RQ.out 0
    have q1 : WD.cell? ⟨gq, 1, none⟩ = some (.string S) := row_cell RQ.out 1
    have q2 : WD.cell? ⟨gq, 2, none⟩ = some (.string Z) := row_cell RQ.out 2
    have q3 : WD.cell? ⟨gq, 3, none⟩ = some (.int .i64 nI) := row_cell RQ.out 3
    have q4 : WD.cell? ⟨gq, 4, none⟩ = some (.slice Ab nb cb) := row_cell RQ.out 4
    have q5 : WD.cell? ⟨gq, 5, none⟩ = some (.slice Ak nk ck) := row_cell RQ.out 5
    have hw1 : IntKind.i64.wrap ((nb : Int) + 20) = (nb : Int) + 20 := by rw [IntKind.wrap_i64]; omega
    have hw2 : IntKind.i64.wrap ((u : Int) + ((nb : Int) + 20)) = (u : Int) + ((nb : Int) + 20) := by rw [IntKind.wrap_i64]; omega
    have HRB : Hid (Rd w Ab (b8s bs)) := Lib.hid HO.out.rb
    have HRK : Hid (Rd w Ak (ks.map (Value.int .i64))) := Lib.hid HO.out.rk
    have HSZ : Hid (S.size ≤ maxLen ∧ Z.size ≤ maxLen) := Lib.hid ⟨HO.out.S, HO.out.Z⟩
    have HKC : Hid (nk ≤ ck ∧ nk ≤ 9223372036854775807) := Lib.hid (by have h := HO.out.lk; dsimp only at h; omega)
    have HBD : Hid (Below w.heap.size w WD) := Lib.hid (HBW.out _ _ _ _ _ _ PD.out)
    have HP0 : Hid (∀ b, foot g d b → b ≠ gq) := Lib.hid (fun b hb e => by have := HP.out.aft.disk.foot_lt hb; omega)
    clear ho hrd hA hrow hlo rC bC sC hWD RD HO HP hnb hnk HLO
    by_cases hov : 10000 < u + (nb + 20)
    · have i2 : (10000 : Int) < (u : Int) + ((nb : Int) + 20) := by omega
      go_wp2_with (first
        | ((with_reducible (refine wpList_load_cells 53 _ b (of_ + j * 6) (lo) HRW.out Try.underlying53 rfl HIO1.out ?_ rfl ?_ ?_)); (exact rfl); (exact rfl))
        | ((with_reducible (refine wpList_store_mid rfl _ _ _ rfl ?_ ?_ ?_ ?_ ?_ ?_ ?_ ?_ ?_)); (exact gq); (exact 0); (exact (lo).toArray); (exact rfl); (exact rfl); (exact TD.out); (exact HIO2.out); (exact HOO.out); rw [HWD.out]))
      go_ret
      exact ⟨rfl, HBD.out⟩
    have i2 : ¬ ((10000 : Int) < (u : Int) + ((nb : Int) + 20)) := by omega
    have hnbs : nb ≤ 10000 := by omega
    obtain ⟨lm, hlm⟩ : ∃ l, R.cells m = l := ⟨_, rfl⟩
    have HLM := Lib.hid hlm
    have HIL : Hid ((Try.prog.info? 50).map (·.size) = some lm.toArray.size) := Lib.hid (by rw [← hlm]; exact info_dkl _ _)
    have hfarb : ∀ (A' : Option Addr) (cs : List Value), Rd w A' cs → RdF (foot g d) WD A' cs := fun A' cs h => ⟨h.below HBD.out, fun hn a ha hf => by
      have h1 := PD.out.aft.disk.foot_ge hf
      obtain ⟨b', o', e', _⟩ := h.all (List.length_pos_iff.2 hn)
      rw [e'] at ha
      cases ha
      rw [e'] at h
      have h2 := h.lt (List.length_pos_iff.2 hn)
      dsimp only at h1
      omega⟩
    have HFB := Lib.hid hfarb
    clear hlm hfarb
    by_cases hk : 1 ≤ ok_ ∧ ok_ ≤ 6
    · obtain ⟨k, hkk⟩ : ∃ k : Nat, ok_ = (k : Int) := ⟨ok_.toNat, by omega⟩
      subst hkk
      have hk16 : 1 ≤ k ∧ k ≤ 6 := by omega
      obtain ⟨ik1, ik2⟩ := hk
      obtain ⟨⟨m', e'⟩, he⟩ : ∃ p, doM m k S.data.toList Z.data.toList bs = p := ⟨_, rfl⟩
      have HE := Lib.hid he
      have HNE' : Hid (NE m') := Lib.hid (by have := PD.out.ne.do_ k S.data.toList Z.data.toList bs; rw [he] at this; exact this)
      have HDS := Lib.hid (does_any (w := WD) k hk16 S Z nI Ab nb cb bs (.slice Ak nk ck) PD.out.aft.disk PD.out.fit (by omega) (by omega) HSZ.out.1 HSZ.out.2 ⟨HNB.out.symm, by omega⟩ (HFB.out _ _ HRB.out) m' e' HE.out)
      clear he
      go_wp2_with (first
        | ((with_reducible (refine wpList_load_cells 53 _ b (of_ + j * 6) (lo) HRW.out Try.underlying53 rfl HIO1.out ?_ rfl ?_ ?_)); (exact rfl); (exact rfl))
        | ((with_reducible (refine wpList_store_mid rfl _ _ _ rfl ?_ ?_ ?_ ?_ ?_ ?_ ?_ ?_ ?_)); (exact gq); (exact 0); (exact (lo).toArray); (exact rfl); (exact rfl); (exact TD.out); (exact HIO2.out); (exact HOO.out); rw [HWD.out])
        | (refine wpList_load_row rfl _ _ rfl _ rfl _ _ _ _ RQ.out Try.underlying53 rfl info_op6 ?_))
      try rw [hgq]
      clear hWC
      refine HDS.out.mono ?_
      rintro e w3 ⟨rfl, d', ha, hf⟩
      obtain ⟨ha3, hr3, hn3, hi3⟩ := PD.out.moved ha
      have A3 := Lib.hid ha3
      have NF3 := Lib.hid hn3
      have I3 := Lib.hid hi3
      have F3 := Lib.hid hf
      have R3 : Hid (w3.heap[gm]? = some (.cells lm.toArray 50 (0, 0))) := Lib.hid (by rw [HLM.out] at hr3; exact hr3)
      have BW3 : Hid (Below w.heap.size w w3) := Lib.hid (HBD.out.trans (ha.bel PD.out.aft.disk PD.out.aft.disk.size))
      have hq3 : ¬ foot g d gq := fun hf' => HP0.out gq hf' rfl
      have RQ3 : Hid (w3.heap[gq]? = some (.cells #[.int .i64 (k : Int), .string S, .string Z, .int .i64 nI, .slice Ab nb cb, .slice Ak nk ck] 53 (0, 0))) := Lib.hid ((ha.frm.block _ (Array.getElem?_eq_some_iff.1 RQ.out).1 hq3).trans RQ.out)
      have p0 : w3.cell? ⟨gq, 0, none⟩ = some (.int .i64 (k : Int)) := row_cell RQ3.out 0
      have p1 : w3.cell? ⟨gq, 1, none⟩ = some (.string S) := row_cell RQ3.out 1
      have p2 : w3.cell? ⟨gq, 2, none⟩ = some (.string Z) := row_cell RQ3.out 2
      have p4 : w3.cell? ⟨gq, 4, none⟩ = some (.slice Ab nb cb) := row_cell RQ3.out 4
      have HDO : Hid (Calls Try.prog 25 #[.agg lm.toArray, .agg #[.int .i64 (k : Int), .string S, .string Z, .slice Ab nb cb]] w3 fun e w' => ∃ R' : RA, e = .returned (.tuple #[.agg (R'.cells m').toArray, .int .i64 e']) ∧ RIn (fun b => foot g d' b ∨ b = gm) w' R' m' ∧ Below w3.heap.size w3 w') := Lib.hid (by
        rw [← HLM.out]
        exact rDo_any R m S Z Ab nb cb bs w3 I3.out (fun b hb => by
          rcases hb with hb | rfl
          · exact A3.out.disk.foot_lt hb
          · exact (Array.getElem?_eq_some_iff.1 R3.out).1) PD.out.fit (by omega) (by omega) ⟨HNB.out.symm, by omega⟩ (HRB.out.below BW3.out) PD.out.ne.1 k hk16 m' e' HE.out)
      clear ha hf ha3 hr3 hn3 hi3 hq3 q0 q1 q2 q3 q4 q5
      go_wp2_with (refine wpList_load_row rfl _ _ rfl _ rfl _ _ _ _ R3.out Try.underlying50 rfl HIL.out ?_)
      refine HDO.out.mono ?_
      rintro e w4 ⟨R', rfl, hri, hb4⟩
      have A4 := Lib.hid (A3.out.then hb4)
      have R4 : Hid (w4.heap[gm]? = some (.cells lm.toArray 50 (0, 0))) := Lib.hid ((hb4.block _ (Array.getElem?_eq_some_iff.1 R3.out).1).trans R3.out)
      obtain ⟨ln, hln⟩ : ∃ l, R'.cells m' = l := ⟨_, rfl⟩
      obtain ⟨W5, hW5, T5, R5, G5⟩ := put_row (new := ln) R4.out (by rw [← hln, ← HLM.out]; rfl)
      have HW5 := Lib.hid hW5
      have P5 : Hid (PlaySt w.heap.size g gm w1 W5 d0 m' d' R' (K + 1) (L + nb)) := Lib.hid (PlaySt.store A4.out HGM.out G5.out (by rw [hln]; exact R5.out) NF3.out hri (by have := F3.out; rw [HNB.out] at this; exact this) HNE'.out)
      have HIN : Hid ((Try.prog.info? 50).map (·.size) = some ln.toArray.size) := Lib.hid (by rw [← hln]; exact info_dkl _ _)
      have HON : Hid (ln.toArray.all (·.oneCell') = true) := Lib.hid (by rw [← hln]; exact dk_one _ _)
      have zee : (e' != e') = false := by simp
      obtain ⟨lz, hlz⟩ : ∃ l, (R').cells (m') = l := ⟨_, rfl⟩
      have HLZ := Lib.hid hlz
      have HIZ : Hid ((Try.prog.info? 50).map (·.size) = some lz.toArray.size) := Lib.hid (by rw [← hlz]; exact info_dkl _ _)
      have RZ : Hid (W5.heap[gm]? = some (.cells lz.toArray 50 (0, 0))) := Lib.hid (by have := P5.out.row; rw [hlz] at this; exact this)
      have HSM : Hid (Calls Try.prog 27 #[.pointer (some ⟨g, 0, none⟩), .agg lz.toArray] W5 fun e w' => e = .returned (.bool true) ∧ Below W5.heap.size W5 w') := Lib.hid (by
        rw [← hlz]
        cases hdn : (m').down with
        | true => exact same_down (R := R') P5.out.aft.disk P5.out.rin P5.out.fit (by omega) (by omega) hdn
        | false => exact same_up (R := R') P5.out.aft.disk P5.out.rin P5.out.fit (by omega) (by omega) hdn)
      clear hlz
      rw [hln]
      clear hri hb4 hln hW5 p0 p1 p2 p4
      go_wp2_with (first
        | ((with_reducible (refine wpList_store_mid rfl _ _ _ rfl ?_ ?_ ?_ ?_ ?_ ?_ ?_ ?_ ?_)); (exact gm); (exact 0); (exact (ln).toArray); (exact rfl); (exact rfl); (exact T5.out); (exact HIN.out); (exact HON.out); rw [HW5.out])
        | ((with_reducible (refine wpList_load_row_w _ _ rfl _ rfl _ _ _ _ RZ.out Try.underlying50 rfl HIZ.out ?_ ?_)); (focus (rfl))))
      refine HSM.out.mono ?_
      rintro e w9 ⟨rfl, hb9⟩
      have P9 := Lib.hid (P5.out.below hb9)
      clear hb9
      go_wp2_with fail
      rw [← HA.out]
      go_roundg (n - (j + 1))
      case measure => omega
      case rel => exact ⟨j + 1, u + (nb + 20), K + 1, L + nb, m', d', R', by omega, rfl, by first | rfl | exact congrArg (Value.int .i64) (by omega) | go_num, by first | rfl | exact congrArg (Value.int .i64) (by omega) | go_num, by omega, by omega, by omega, P9⟩
    have ik : ¬ (1 ≤ ok_) ∨ ¬ (ok_ ≤ 6) := by omega
    by_cases hk7 : ok_ = 7
    · subst hk7
      have hmx := fun (w : World) => run_max2c (P := Try.prog) w #[3, 3] 3 .i64 .i64 nI 0
      go_wp2_with (first
        | ((with_reducible (refine wpList_load_cells 53 _ b (of_ + j * 6) (lo) HRW.out Try.underlying53 rfl HIO1.out ?_ rfl ?_ ?_)); (exact rfl); (exact rfl))
        | ((with_reducible (refine wpList_store_mid rfl _ _ _ rfl ?_ ?_ ?_ ?_ ?_ ?_ ?_ ?_ ?_)); (exact gq); (exact 0); (exact (lo).toArray); (exact rfl); (exact rfl); (exact TD.out); (exact HIO2.out); (exact HOO.out); rw [HWD.out])
        | (refine wpList_load_row rfl _ _ rfl _ rfl _ _ _ _ RQ.out Try.underlying53 rfl info_op6 ?_))
      try rw [hgq]
      clear hWC
      refine (fail_st PD.out.aft.disk PD.out.fit hnr).mono ?_
      rintro e w3 ⟨rfl, d', ha, hf⟩
      obtain ⟨ha3, hr3, hn3, hi3⟩ := PD.out.moved ha
      have A3 := Lib.hid ha3
      have NF3 := Lib.hid hn3
      have I3 := Lib.hid hi3
      have F3 := Lib.hid hf
      have R3 : Hid (w3.heap[gm]? = some (.cells (R.cells m).toArray 50 (0, 0))) := Lib.hid hr3
      have hq3 : ¬ foot g d gq := fun hf' => HP0.out gq hf' rfl
      have RQ3 : Hid (w3.heap[gq]? = some (.cells #[.int .i64 7, .string S, .string Z, .int .i64 nI, .slice Ab nb cb, .slice Ak nk ck] 53 (0, 0))) := Lib.hid ((ha.frm.block _ (Array.getElem?_eq_some_iff.1 RQ.out).1 hq3).trans RQ.out)
      have p3 : w3.cell? ⟨gq, 3, none⟩ = some (.int .i64 nI) := row_cell RQ3.out 3
      have x5 : w3.cell? ⟨gm, 5, none⟩ = some (.int .i64 (m.fuse : Int)) := row_cell R3.out 5
      have y5 : w3.frozen? ⟨gm, 5, none⟩ = false := row_free R3.out 5
      obtain ⟨W5, hW5⟩ : ∃ W, w3.setCell ⟨gm, 5, none⟩ (.int .i64 (max nI 0)) = W := ⟨_, rfl⟩
      have R5 : Hid (W5.heap[gm]? = some (.cells (R.cells (failM m nI)).toArray 50 (0, 0))) := Lib.hid (by
        have h9 := row_set R3.out 5 (.int .i64 (max nI 0))
        rw [hW5] at h9
        have e9 : (R.cells m).toArray.setIfInBounds 5 (.int .i64 (max nI 0)) = (R.cells (failM m nI)).toArray := by
          have e8 : (((max nI 0).toNat : Nat) : Int) = max nI 0 := by omega
          unfold RA.cells failM
          dsimp only
          rw [e8]
          rfl
        rw [e9] at h9
        exact h9)
      have P5 : Hid (PlaySt w.heap.size g gm w1 W5 d0 (failM m nI) d' R K L) := Lib.hid (PlaySt.store A3.out HGM.out (by rw [← hW5]; exact grown_set gm 5 _) R5.out NF3.out (I3.out.same rfl rfl rfl rfl) F3.out PD.out.ne)
      obtain ⟨lz, hlz⟩ : ∃ l, (R).cells (failM m nI) = l := ⟨_, rfl⟩
      have HLZ := Lib.hid hlz
      have HIZ : Hid ((Try.prog.info? 50).map (·.size) = some lz.toArray.size) := Lib.hid (by rw [← hlz]; exact info_dkl _ _)
      have RZ : Hid (W5.heap[gm]? = some (.cells lz.toArray 50 (0, 0))) := Lib.hid (by have := P5.out.row; rw [hlz] at this; exact this)
      have HSM : Hid (Calls Try.prog 27 #[.pointer (some ⟨g, 0, none⟩), .agg lz.toArray] W5 fun e w' => e = .returned (.bool true) ∧ Below W5.heap.size W5 w') := Lib.hid (by
        rw [← hlz]
        cases hdn : (failM m nI).down with
        | true => exact same_down (R := R) P5.out.aft.disk P5.out.rin P5.out.fit (by omega) (by omega) hdn
        | false => exact same_up (R := R) P5.out.aft.disk P5.out.rin P5.out.fit (by omega) (by omega) hdn)
      clear hlz
      clear ha hf ha3 hr3 hn3 hi3 hq3 q0 q1 q2 q3 q4 q5
      go_wp2_with ((with_reducible (refine wpList_load_row_w _ _ rfl _ rfl _ _ _ _ RZ.out Try.underlying50 rfl HIZ.out ?_ ?_)); (focus (rfl)))
      refine HSM.out.mono ?_
      rintro e w9 ⟨rfl, hb9⟩
      have P9 := Lib.hid (P5.out.below hb9)
      clear hb9
      go_wp2_with fail
      rw [← HA.out]
      go_roundg (n - (j + 1))
      case measure => omega
      case rel => exact ⟨j + 1, u + (nb + 20), K, L, failM m nI, d', R, by omega, rfl, by first | rfl | exact congrArg (Value.int .i64) (by omega) | go_num, by first | rfl | exact congrArg (Value.int .i64) (by omega) | go_num, by omega, by omega, by omega, P9⟩
    by_cases hk8 : ok_ = 8
    · subst hk8
      obtain ⟨m', hm'⟩ : ∃ m', crashM m nI ks = m' := ⟨_, rfl⟩
      have HM := Lib.hid hm'
      have HNE' : Hid (NE m') := Lib.hid (by rw [← hm']; exact PD.out.ne.crash nI ks)
      have HKF : Hid (ks ≠ [] → ∀ a, Ak = some a → a.block < WD.heap.size ∧ ¬ foot g d a.block) := Lib.hid (fun hks a ha => by
        have h1 := HFB.out _ _ HRK.out
        have hne : ks.map (Value.int .i64) ≠ [] := fun e => hks (List.map_eq_nil_iff.1 e)
        refine ⟨?_, h1.2 hne a ha⟩
        obtain ⟨b', o', e', _⟩ := h1.1.all (List.length_pos_iff.2 hne)
        rw [e'] at ha
        cases ha
        have h2 := h1.1
        rw [e'] at h2
        exact h2.lt (List.length_pos_iff.2 hne))
      clear hm'
      go_wp2_with (first
        | ((with_reducible (refine wpList_load_cells 53 _ b (of_ + j * 6) (lo) HRW.out Try.underlying53 rfl HIO1.out ?_ rfl ?_ ?_)); (exact rfl); (exact rfl))
        | ((with_reducible (refine wpList_store_mid rfl _ _ _ rfl ?_ ?_ ?_ ?_ ?_ ?_ ?_ ?_ ?_)); (exact gq); (exact 0); (exact (lo).toArray); (exact rfl); (exact rfl); (exact TD.out); (exact HIO2.out); (exact HOO.out); rw [HWD.out])
        | (refine wpList_load_row rfl _ _ rfl _ rfl _ _ _ _ RQ.out Try.underlying53 rfl info_op6 ?_))
      try rw [hgq]
      clear hWC
      refine (crash_st (keep := ks) PD.out.aft.disk PD.out.fit (by omega) (by omega) HNK.out HKC.out.1 HKC.out.2 (HRK.out.below HBD.out) HKF.out HM.out).mono ?_
      rintro e w3 ⟨rfl, d', ha, hf⟩
      obtain ⟨ha3, hr3, hn3, hi3⟩ := PD.out.moved ha
      have A3 := Lib.hid ha3
      have NF3 := Lib.hid hn3
      have I3 := Lib.hid hi3
      have F3 := Lib.hid hf
      have R3 : Hid (w3.heap[gm]? = some (.cells lm.toArray 50 (0, 0))) := Lib.hid (by rw [HLM.out] at hr3; exact hr3)
      have BW3 : Hid (Below w.heap.size w w3) := Lib.hid (HBD.out.trans (ha.bel PD.out.aft.disk PD.out.aft.disk.size))
      have hq3 : ¬ foot g d gq := fun hf' => HP0.out gq hf' rfl
      have RQ3 : Hid (w3.heap[gq]? = some (.cells #[.int .i64 8, .string S, .string Z, .int .i64 nI, .slice Ab nb cb, .slice Ak nk ck] 53 (0, 0))) := Lib.hid ((ha.frm.block _ (Array.getElem?_eq_some_iff.1 RQ.out).1 hq3).trans RQ.out)
      have p3 : w3.cell? ⟨gq, 3, none⟩ = some (.int .i64 nI) := row_cell RQ3.out 3
      have p5 : w3.cell? ⟨gq, 5, none⟩ = some (.slice Ak nk ck) := row_cell RQ3.out 5
      have HDO : Hid (Calls Try.prog 26 #[.agg lm.toArray, .int .i64 nI, .slice Ak nk ck] w3 fun e w' => ∃ R' : RA, e = .returned (.agg (R'.cells m').toArray) ∧ RIn (fun b => foot g d' b ∨ b = gm) w' R' m' ∧ Below w3.heap.size w3 w') := Lib.hid (by
        rw [← HLM.out]
        exact rcrash_any R m nI Ak ks nk ck w3 I3.out (fun b hb => by
          rcases hb with hb | rfl
          · exact A3.out.disk.foot_lt hb
          · exact (Array.getElem?_eq_some_iff.1 R3.out).1) PD.out.fit (by omega) (by omega) HNK.out HKC.out.2 (HRK.out.below BW3.out) PD.out.ne.2 m' HM.out)
      clear ha hf ha3 hr3 hn3 hi3 hq3 q0 q1 q2 q3 q4 q5
      go_wp2_with (refine wpList_load_row rfl _ _ rfl _ rfl _ _ _ _ R3.out Try.underlying50 rfl HIL.out ?_)
      refine HDO.out.mono ?_
      rintro e w4 ⟨R', rfl, hri, hb4⟩
      have A4 := Lib.hid (A3.out.then hb4)
      have R4 : Hid (w4.heap[gm]? = some (.cells lm.toArray 50 (0, 0))) := Lib.hid ((hb4.block _ (Array.getElem?_eq_some_iff.1 R3.out).1).trans R3.out)
      obtain ⟨ln, hln⟩ : ∃ l, R'.cells m' = l := ⟨_, rfl⟩
      obtain ⟨W5, hW5, T5, R5, G5⟩ := put_row (new := ln) R4.out (by rw [← hln, ← HLM.out]; rfl)
      have HW5 := Lib.hid hW5
      have P5 : Hid (PlaySt w.heap.size g gm w1 W5 d0 m' d' R' K L) := Lib.hid (PlaySt.store A4.out HGM.out G5.out (by rw [hln]; exact R5.out) NF3.out hri F3.out HNE'.out)
      have HIN : Hid ((Try.prog.info? 50).map (·.size) = some ln.toArray.size) := Lib.hid (by rw [← hln]; exact info_dkl _ _)
      have HON : Hid (ln.toArray.all (·.oneCell') = true) := Lib.hid (by rw [← hln]; exact dk_one _ _)
      obtain ⟨lz, hlz⟩ : ∃ l, (R').cells (m') = l := ⟨_, rfl⟩
      have HLZ := Lib.hid hlz
      have HIZ : Hid ((Try.prog.info? 50).map (·.size) = some lz.toArray.size) := Lib.hid (by rw [← hlz]; exact info_dkl _ _)
      have RZ : Hid (W5.heap[gm]? = some (.cells lz.toArray 50 (0, 0))) := Lib.hid (by have := P5.out.row; rw [hlz] at this; exact this)
      have HSM : Hid (Calls Try.prog 27 #[.pointer (some ⟨g, 0, none⟩), .agg lz.toArray] W5 fun e w' => e = .returned (.bool true) ∧ Below W5.heap.size W5 w') := Lib.hid (by
        rw [← hlz]
        cases hdn : (m').down with
        | true => exact same_down (R := R') P5.out.aft.disk P5.out.rin P5.out.fit (by omega) (by omega) hdn
        | false => exact same_up (R := R') P5.out.aft.disk P5.out.rin P5.out.fit (by omega) (by omega) hdn)
      clear hlz
      rw [hln]
      clear hri hb4 hln hW5 p3 p5
      go_wp2_with (first
        | ((with_reducible (refine wpList_store_mid rfl _ _ _ rfl ?_ ?_ ?_ ?_ ?_ ?_ ?_ ?_ ?_)); (exact gm); (exact 0); (exact (ln).toArray); (exact rfl); (exact rfl); (exact T5.out); (exact HIN.out); (exact HON.out); rw [HW5.out])
        | ((with_reducible (refine wpList_load_row_w _ _ rfl _ rfl _ _ _ _ RZ.out Try.underlying50 rfl HIZ.out ?_ ?_)); (focus (rfl))))
      refine HSM.out.mono ?_
      rintro e w9 ⟨rfl, hb9⟩
      have P9 := Lib.hid (P5.out.below hb9)
      clear hb9
      go_wp2_with fail
      rw [← HA.out]
      go_roundg (n - (j + 1))
      case measure => omega
      case rel => exact ⟨j + 1, u + (nb + 20), K, L, m', d', R', by omega, rfl, by first | rfl | exact congrArg (Value.int .i64) (by omega) | go_num, by first | rfl | exact congrArg (Value.int .i64) (by omega) | go_num, by omega, by omega, by omega, P9⟩
    have z7 : (ok_ == 7) = false := by rw [beq_eq_false_iff_ne]; exact hk7
    have z8 : (ok_ == 8) = false := by rw [beq_eq_false_iff_ne]; exact hk8
    clear hk7 hk8 hk
    obtain ⟨lz, hlz⟩ : ∃ l, (R).cells (m) = l := ⟨_, rfl⟩
    have HLZ := Lib.hid hlz
    have HIZ : Hid ((Try.prog.info? 50).map (·.size) = some lz.toArray.size) := Lib.hid (by rw [← hlz]; exact info_dkl _ _)
    have RZ : Hid (WD.heap[gm]? = some (.cells lz.toArray 50 (0, 0))) := Lib.hid (by have := PD.out.row; rw [hlz] at this; exact this)
    have HSM : Hid (Calls Try.prog 27 #[.pointer (some ⟨g, 0, none⟩), .agg lz.toArray] WD fun e w' => e = .returned (.bool true) ∧ Below WD.heap.size WD w') := Lib.hid (by
      rw [← hlz]
      cases hdn : (m).down with
      | true => exact same_down (R := R) PD.out.aft.disk PD.out.rin PD.out.fit (by omega) (by omega) hdn
      | false => exact same_up (R := R) PD.out.aft.disk PD.out.rin PD.out.fit (by omega) (by omega) hdn)
    clear hlz
    by_cases ik1 : 1 ≤ ok_
    · have ik2 : ¬ (ok_ ≤ 6) := by omega
      clear ik
      go_wp2_with (first
        | ((with_reducible (refine wpList_load_cells 53 _ b (of_ + j * 6) (lo) HRW.out Try.underlying53 rfl HIO1.out ?_ rfl ?_ ?_)); (exact rfl); (exact rfl))
        | ((with_reducible (refine wpList_store_mid rfl _ _ _ rfl ?_ ?_ ?_ ?_ ?_ ?_ ?_ ?_ ?_)); (exact gq); (exact 0); (exact (lo).toArray); (exact rfl); (exact rfl); (exact TD.out); (exact HIO2.out); (exact HOO.out); rw [HWD.out])
        | ((with_reducible (refine wpList_load_row_w _ _ rfl _ rfl _ _ _ _ RZ.out Try.underlying50 rfl HIZ.out ?_ ?_)); (focus (rfl))))
      try rw [hgq]
      clear hWC
      refine HSM.out.mono ?_
      rintro e w9 ⟨rfl, hb9⟩
      have P9 := Lib.hid (PD.out.below hb9)
      clear hb9
      go_wp2_with fail
      rw [← HA.out]
      go_roundg (n - (j + 1))
      case measure => omega
      case rel => exact ⟨j + 1, u + (nb + 20), K, L, m, d, R, by omega, rfl, by first | rfl | exact congrArg (Value.int .i64) (by omega) | go_num, by first | rfl | exact congrArg (Value.int .i64) (by omega) | go_num, by omega, by omega, by omega, P9⟩
    · clear ik
      go_wp2_with (first
        | ((with_reducible (refine wpList_load_cells 53 _ b (of_ + j * 6) (lo) HRW.out Try.underlying53 rfl HIO1.out ?_ rfl ?_ ?_)); (exact rfl); (exact rfl))
        | ((with_reducible (refine wpList_store_mid rfl _ _ _ rfl ?_ ?_ ?_ ?_ ?_ ?_ ?_ ?_ ?_)); (exact gq); (exact 0); (exact (lo).toArray); (exact rfl); (exact rfl); (exact TD.out); (exact HIO2.out); (exact HOO.out); rw [HWD.out])
        | ((with_reducible (refine wpList_load_row_w _ _ rfl _ rfl _ _ _ _ RZ.out Try.underlying50 rfl HIZ.out ?_ ?_)); (focus (rfl))))
      try rw [hgq]
      clear hWC
      refine HSM.out.mono ?_
      rintro e w9 ⟨rfl, hb9⟩
      have P9 := Lib.hid (PD.out.below hb9)
      clear hb9
      go_wp2_with fail
      rw [← HA.out]
      go_roundg (n - (j + 1))
      case measure => omega
      case rel => exact ⟨j + 1, u + (nb + 20), K, L, m, d, R, by omega, rfl, by first | rfl | exact congrArg (Value.int .i64) (by omega) | go_num, by first | rfl | exact congrArg (Value.int .i64) (by omega) | go_num, by omega, by omega, by omega, P9⟩
  · obtain rfl : j = n := by omega
    obtain ⟨⟨rb, re⟩, hre⟩ : ∃ p, readM m Nm.data.toList = p := ⟨_, rfl⟩
    have HRE := Lib.hid hre
    have HBD : Hid (Below w.heap.size w wr) := Lib.hid (HBW.out _ _ _ _ _ _ HP.out)
    have hrl : rb.length ≤ L := by
      have h1 : (readM m Nm.data.toList).1 = rb := by rw [hre]
      rw [← h1]
      unfold readM
      split
      · exact Nat.zero_le _
      · exact (HP.out.fit.fileM _).1
    obtain ⟨lm, hlm⟩ : ∃ l, R.cells m = l := ⟨_, rfl⟩
    have HLM := Lib.hid hlm
    have HIL : Hid ((Try.prog.info? 50).map (·.size) = some lm.toArray.size) := Lib.hid (by rw [← hlm]; exact info_dkl _ _)
    clear hre hlm
    go_wp2_with fail
    refine (read_st HP.out.aft.disk HP.out.fit (by omega) (by omega) hNm HRE.out).mono ?_
    rintro e w5 ⟨v, rfl, ho⟩
    obtain ⟨Ar, nr, cr, rfl, hnr, _, _, hrr, har⟩ := ho.sliceN
    have P5 := Lib.hid (HP.out.below ho.bel)
    have B5 : Hid (Below w.heap.size w w5) := Lib.hid (HBW.out _ _ _ _ _ _ P5.out)
    have R5 : Hid (w5.heap[gm]? = some (.cells lm.toArray 50 (0, 0))) := Lib.hid (by have := P5.out.row; rw [HLM.out] at this; exact this)
    have HRR := Lib.hid hrr
    have HNR := Lib.hid hnr
    have HRD : Hid (Calls Try.prog 28 #[.agg lm.toArray, .string Nm] w5 fun e w' => ∃ A n c, e = .returned (.tuple #[.slice A n c, .int .i64 re]) ∧ n = rb.length ∧ Rd w' A (b8s rb) ∧ Below w5.heap.size w5 w') := Lib.hid (by
      rw [← HLM.out]
      exact rread_any R m Nm w5 P5.out.rin P5.out.fit (by omega) rb re HRE.out)
    clear ho hrr har hnr
    go_wp2_with (refine wpList_load_row rfl _ _ rfl _ rfl _ _ _ _ R5.out Try.underlying50 rfl HIL.out ?_)
    refine HRD.out.mono ?_
    rintro e w6 ⟨Ac, nc, cc, rfl, hnc, hrc, hb6⟩
    have B6 : Hid (Below w.heap.size w w6) := Lib.hid (B5.out.trans (hb6.mono B5.out.size))
    have HSM := Lib.hid (same_n true Ar Ac rb rb cr cc w6 (HRR.out.below hb6) hrc nr nc HNR.out hnc (by omega) (by omega) (decide_eq_true rfl))
    have zre : (re == re) = true := by simp
    clear hrc hb6 hnc
    go_wp2_with fail
    refine HSM.out.mono ?_
    rintro e w7 ⟨rfl, hb7⟩
    have B7 : Hid (Below w.heap.size w w7) := Lib.hid (B6.out.trans (hb7.mono B6.out.size))
    clear hb7
    go_wp2_with fail
    go_ret
    exact ⟨rfl, B7.out⟩
end Go.Proofs.Ytpmifpblamjclaa
