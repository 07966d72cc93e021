
/- A disk's Crash, whole. -/

import Derived.Test.YtelbofikcpchiaaGreatDk11

import Derived.Deep.CutBlock

namespace Go.Proofs.YtelbofikcpchiaaGreat

set_option linter.unusedVariables false

set_option linter.unusedSimpArgs false

set_option linter.unusedSectionVars false

open Go.RowKit

theorem delN_len1 (ns : NM) (s : List UInt8) : (delN ns s).length ≤ ns.length := delN_length ns s
theorem doN_len (ns : NM) (t : TM) : (doN ns t).length ≤ ns.length + 1 := by
  unfold doN
  dsimp only
  have h1 := delN_length ns t.fr
  split
  · split
    · omega
    · omega
  · split
    · exact putN_length _ _ _
    · have := putN_length (delN ns t.fr) t.to_ t.f; omega
theorem doN_mem {ns : NM} {t : TM} {p : List UInt8 × Nat} (h : p ∈ doN ns t) : p ∈ ns ∨ (p = (t.to_, t.f) ∧ t.to_ ≠ []) := by
  unfold doN at h
  dsimp only at h
  have hd : ∀ {p}, p ∈ (if t.fr = [] then ns else delN ns t.fr) → p ∈ ns := fun {p} h => by
    split at h
    · exact h
    · exact (delN_mem.1 h).1
  by_cases ht : t.to_ = []
  · rw [if_pos ht] at h
    exact .inl (hd h)
  · rw [if_neg ht] at h
    unfold putN at h
    rcases insN_mem.1 h with h | h
    · exact .inr ⟨h, ht⟩
    · exact .inl (hd (delN_mem.1 h).1)
theorem foldN_len : ∀ (ts : List TM) (ns : NM), (ts.foldl doN ns).length ≤ ns.length + ts.length
  | [], ns => by simp
  | t :: ts, ns => by
    have h1 := foldN_len ts (doN ns t)
    have h2 := doN_len ns t
    simp only [List.foldl_cons, List.length_cons]
    omega
theorem foldN_rises : ∀ (ts : List TM) {ns : NM}, risesN ns → risesN (ts.foldl doN ns)
  | [], _, h => h
  | t :: ts, _, h => foldN_rises ts (risesN_do h t)
theorem foldN_mem : ∀ (ts : List TM) {ns : NM} {p : List UInt8 × Nat}, p ∈ ts.foldl doN ns → p ∈ ns ∨ ∃ t ∈ ts, p = (t.to_, t.f) ∧ t.to_ ≠ []
  | [], _, _, h => .inl h
  | t :: ts, ns, p, h => by
    rcases foldN_mem ts (ns := doN ns t) h with h | ⟨u, hu, he⟩
    · rcases doN_mem h with h | h
      · exact .inl h
      · exact .inr ⟨t, by simp, h⟩
    · exact .inr ⟨u, by simp [hu], he⟩
/-- the disk behind a loss of power, ahead of the cut -/
def crash0 (m : DM) (turns : Int) : DM :=
  { m with down := false, fuse := 0, sure := (m.turns.take (min (max turns 0) m.turns.length).toNat).foldl doN m.sure, now := (m.turns.take (min (max turns 0) m.turns.length).toNat).foldl doN m.sure, turns := [] }
theorem crashM_eq (m : DM) (turns : Int) (keep : List Int) : crashM m turns keep = cutM (crash0 m turns).now keep (crash0 m turns) := rfl
theorem crash0_bnd {m : DM} (hB : Bnd m) (turns : Int) (hl : m.sure.length + m.turns.length < 1000000) : Bnd (crash0 m turns) := by
  have h1 := foldN_len (m.turns.take (min (max turns 0) m.turns.length).toNat) m.sure
  rw [List.length_take] at h1
  have h2 : ∀ p ∈ (m.turns.take (min (max turns 0) m.turns.length).toNat).foldl doN m.sure, p.1.length ≤ 100 := fun p hp => by
    rcases foldN_mem _ hp with h | ⟨t, ht, rfl, _⟩
    · exact hB.sl p h
    · exact (hB.tl t (List.mem_of_mem_take ht)).2
  have h3 := foldN_rises (m.turns.take (min (max turns 0) m.turns.length).toNat) hB.rs
  exact ⟨by simp [crash0], hB.most, by dsimp only [crash0]; omega, by dsimp only [crash0]; omega, by simp [crash0], hB.files, hB.len, h3, h3, by simp [crash0], h2, h2⟩
theorem crash0_ids {m : DM} (hI : IdsOk m) (turns : Int) : IdsOk (crash0 m turns) := by
  have h2 : ∀ p ∈ (m.turns.take (min (max turns 0) m.turns.length).toNat).foldl doN m.sure, p.2 < m.files.length := fun p hp => by
    rcases foldN_mem _ hp with h | ⟨t, ht, rfl, h⟩
    · exact hI.sure p h
    · rcases hI.turns t (List.mem_of_mem_take ht) with h' | h'
      · exact absurd h' h
      · exact h'
  exact ⟨h2, h2, by simp [crash0]⟩
section

variable {N g : Nat} {w w' : World} {m : DM} {d : DA}

theorem DiskIn.crash (h : DiskIn N w g m d) {mb' : Nat} (hmN : N ≤ mb') (hne : mb' ≠ d.sb) (ho : w.ownsMap Tryz.prog 9 ptrR mb' m.sure.length (namesD d.bs m.sure)) :
    DiskIn N ((w.setCell ⟨g, 0, none⟩ (.map (some mb'))).setCell ⟨g, 2, none⟩ (.slice none 0 0)) g { m with now := m.sure, turns := [] } { d with mb := mb', tv := .slice none 0 0 } := by
  have hk : ∀ b, b ≠ g → ((w.setCell ⟨g, 0, none⟩ (.map (some mb'))).setCell ⟨g, 2, none⟩ (.slice none 0 0)).heap[b]? = w.heap[b]? := fun b hn => (Below.heap_setCell _ _ _ _ hn).trans (Below.heap_setCell _ _ _ _ hn)
  refine h.setG ?_ (fun b _ hb => hk b hb) ⟨rfl, rfl⟩ rfl ho h.sure (World.ownsRow_nil _ _ _ _) hne hmN h.base.2.2.1
  have := h.row
  simp only [World.setCell, Array.getElem?_modify, this, if_true, Option.map_some]
  rfl
end

set_option maxRecDepth 1000000 in
set_option maxHeartbeats 8000000 in
theorem crash_any (N g : Nat) (m : DM) (d : DA) (turns : Int) (Ak : Option Addr) (keep : List Int) (kl kc : Nat) (hkl : keep.length = kl) (hkc : kl ≤ kc) (hkm : kl ≤ 9223372036854775807) (w : World) (h : DiskIn N w g m d) (hB : Bnd m) (hI : IdsOk m) (hl : m.sure.length + m.turns.length < 1000000)
    (hrk : Rd w Ak (keep.map (Value.int .i64))) (hkf : keep ≠ [] → ∀ a, Ak = some a → a.block < w.heap.size ∧ ¬ foot g d a.block) :
    Calls Tryz.prog 25 #[.pointer (some ⟨g, 0, none⟩), .int .i64 turns, .slice Ak kl kc] w fun e w' => e = .returned (.tuple #[]) ∧ ∃ d', Aft N g w w' (crashM m turns keep) d d' := by
  have H := Lib.hid h
  have HKL := Lib.hid hkl
  have HKC := Lib.hid hkc
  have HRK := Lib.hid hrk
  have HKF := Lib.hid hkf
  have HB4 := Lib.hid (crash0_bnd hB turns hl)
  have HI4 := Lib.hid (crash0_ids hI turns)
  obtain ⟨c0, c1, c2, c3, c4, c5⟩ := h.cells
  have f5 := h.froz 5
  have H1 : Hid (DiskIn N (w.setCell ⟨g, 5, none⟩ (.bool false)) g { m with down := false } d) := Lib.hid (h.cellG 5 _ rfl ⟨rfl, rfl, rfl, rfl⟩)
  have H2 : Hid (DiskIn N ((w.setCell ⟨g, 5, none⟩ (.bool false)).setCell ⟨g, 4, none⟩ (.int .i64 0)) g { m with down := false, fuse := 0 } d) := Lib.hid (H1.out.cellG 4 _ rfl ⟨rfl, rfl, rfl, rfl⟩)
  have HF2 : Hid (Frm (foot g d) w ((w.setCell ⟨g, 5, none⟩ (.bool false)).setCell ⟨g, 4, none⟩ (.int .i64 0))) := Lib.hid ((Frm.of_cell (.inl rfl)).trans (Frm.of_cell (F := foot g d) (.inl rfl)) (fun i hi => .inl hi))
  obtain ⟨W1, hW1⟩ : ∃ W, w.setCell ⟨g, 5, none⟩ (.bool false) = W := ⟨_, rfl⟩
  rw [hW1] at H1 H2 HF2
  have d4 := H1.out.cells.2.2.2.2.1
  dsimp only at d4
  have g4 := H1.out.froz 4
  obtain ⟨W2, hW2⟩ : ∃ W, W1.setCell ⟨g, 4, none⟩ (.int .i64 0) = W := ⟨_, rfl⟩
  rw [hW2] at H2 HF2
  have A2 : Hid (Aft N g w W2 { m with down := false, fuse := 0 } d d) := Lib.hid ⟨H2.out, HF2.out, fun b hb => .inl hb⟩
  have hto := h.turns
  obtain ⟨At, ct, htv, hct, hct2, _, _⟩ := own_slice hto
  have HAT : Hid (∀ a, At = some a → a.spot = none) := Lib.hid (fun a ha => by
    subst ha
    rcases hto.2 with ⟨e, _⟩ | ⟨g', cap, cur, e, _⟩
    · rw [htv] at e; cases e
    · rw [htv] at e
      cases e
      rfl)
  have hB2 : Bnd { m with down := false, fuse := 0 } := ⟨by simp, hB.most, hB.now, hB.sure, hB.turns, hB.files, hB.len, hB.rn, hB.rs, hB.tl, hB.nl, hB.sl⟩
  have HB2 := Lib.hid hB2
  have htl := hB.turns
  obtain ⟨n0, hn0⟩ : ∃ n0, m.turns.length = n0 := ⟨_, rfl⟩
  obtain ⟨k, hk⟩ : ∃ k, (min (max turns 0) (m.turns.length : Int)).toNat = k := ⟨_, rfl⟩
  have HK := Lib.hid hk
  have HKM : Hid (k ≤ m.turns.length ∧ k ≤ 1000000 ∧ k ≤ ct ∧ k ≤ n0) := Lib.hid (by omega)
  have hkz : min (max turns 0) (n0 : Int) = (k : Int) := by rw [← hn0]; omega
  have hmx := fun (w : World) => run_max2c (P := Tryz.prog) w #[3, 3] 3 .i64 .i64 turns 0
  have hmn : ∀ w : World, (Builtin.min_ #[3, 3] 3 #[.int .i64 (max turns 0), .int .i64 (n0 : Int)]).run Tryz.prog w = .ok (.int .i64 (k : Int)) w := fun w => by rw [run_min2c, hkz]
  rw [hn0] at htv
  have HTV := Lib.hid htv
  have e2 : W2.cell? ⟨g, 2, none⟩ = some (.slice At n0 ct) := by rw [← htv]; exact H2.out.cells.2.2.1
  clear c0 c1 c2 c3 c4 h hB hI hl hrk hkf hkl hkc hk hkz hct hct2 htv hto hn0 htl H1 hB2
  go_enter Tryz.func25, Tryz.ntmps25
  go_wp2_with fail
  refine wp_region_sched (fun w' => w'.cell? ⟨g, 2, none⟩ = some (.slice At n0 ct)) [(true, 0), (true, 1), (true, 2), (true, 3), (true, 4), (true, 5), (true, 6), (true, 7), (true, 8), (true, 9), (true, 10), (true, 11), (true, 12), (true, 13), (true, 14)] (by kernel_rfl) (by kernel_rfl) rfl (by kernel_rfl) e2 ?_
  (first | (refine wpS_pass _ rfl (by rfl) ?_; simp only [Act.put, List.getElem_toArray, List.getElem_cons_zero, List.getElem_cons_succ, List.setIfInBounds_toArray, List.set_cons_zero, List.set_cons_succ]) | (refine wpS_take _ ?_ rfl (by rfl) ?_ ?_; rotate_left; (focus (intro w' hS'; (try dsimp only at hS'); (repeat (have hS1 := hS'.1; replace hS' := hS'.2)); go_simp; (try with_reducible rfl); done)); simp only [Act.put, List.getElem_toArray, List.getElem_cons_zero, List.getElem_cons_succ, List.setIfInBounds_toArray, List.set_cons_zero, List.set_cons_succ]))
  (first | (refine wpS_pass _ rfl (by rfl) ?_; simp only [Act.put, List.getElem_toArray, List.getElem_cons_zero, List.getElem_cons_succ, List.setIfInBounds_toArray, List.set_cons_zero, List.set_cons_succ]) | (refine wpS_take _ ?_ rfl (by rfl) ?_ ?_; rotate_left; (focus (intro w' hS'; (try dsimp only at hS'); (repeat (have hS1 := hS'.1; replace hS' := hS'.2)); go_simp; (try with_reducible rfl); done)); simp only [Act.put, List.getElem_toArray, List.getElem_cons_zero, List.getElem_cons_succ, List.setIfInBounds_toArray, List.set_cons_zero, List.set_cons_succ]))
  (first | (refine wpS_pass _ rfl (by rfl) ?_; simp only [Act.put, List.getElem_toArray, List.getElem_cons_zero, List.getElem_cons_succ, List.setIfInBounds_toArray, List.set_cons_zero, List.set_cons_succ]) | (refine wpS_take _ ?_ rfl (by rfl) ?_ ?_; rotate_left; (focus (intro w' hS'; (try dsimp only at hS'); (repeat (have hS1 := hS'.1; replace hS' := hS'.2)); go_simp; (try with_reducible rfl); done)); simp only [Act.put, List.getElem_toArray, List.getElem_cons_zero, List.getElem_cons_succ, List.setIfInBounds_toArray, List.set_cons_zero, List.set_cons_succ]))
  (first | (refine wpS_pass _ rfl (by rfl) ?_; simp only [Act.put, List.getElem_toArray, List.getElem_cons_zero, List.getElem_cons_succ, List.setIfInBounds_toArray, List.set_cons_zero, List.set_cons_succ]) | (refine wpS_take _ ?_ rfl (by rfl) ?_ ?_; rotate_left; (focus (intro w' hS'; (try dsimp only at hS'); (repeat (have hS1 := hS'.1; replace hS' := hS'.2)); go_simp; (try with_reducible rfl); done)); simp only [Act.put, List.getElem_toArray, List.getElem_cons_zero, List.getElem_cons_succ, List.setIfInBounds_toArray, List.set_cons_zero, List.set_cons_succ]))
  (first | (refine wpS_pass _ rfl (by rfl) ?_; simp only [Act.put, List.getElem_toArray, List.getElem_cons_zero, List.getElem_cons_succ, List.setIfInBounds_toArray, List.set_cons_zero, List.set_cons_succ]) | (refine wpS_take _ ?_ rfl (by rfl) ?_ ?_; rotate_left; (focus (intro w' hS'; (try dsimp only at hS'); (repeat (have hS1 := hS'.1; replace hS' := hS'.2)); go_simp; (try with_reducible rfl); done)); simp only [Act.put, List.getElem_toArray, List.getElem_cons_zero, List.getElem_cons_succ, List.setIfInBounds_toArray, List.set_cons_zero, List.set_cons_succ]))
  (first | (refine wpS_pass _ rfl (by rfl) ?_; simp only [Act.put, List.getElem_toArray, List.getElem_cons_zero, List.getElem_cons_succ, List.setIfInBounds_toArray, List.set_cons_zero, List.set_cons_succ]) | (refine wpS_take _ ?_ rfl (by rfl) ?_ ?_; rotate_left; (focus (intro w' hS'; (try dsimp only at hS'); (repeat (have hS1 := hS'.1; replace hS' := hS'.2)); go_simp; (try with_reducible rfl); done)); simp only [Act.put, List.getElem_toArray, List.getElem_cons_zero, List.getElem_cons_succ, List.setIfInBounds_toArray, List.set_cons_zero, List.set_cons_succ]))
  (first | (refine wpS_pass _ rfl (by rfl) ?_; simp only [Act.put, List.getElem_toArray, List.getElem_cons_zero, List.getElem_cons_succ, List.setIfInBounds_toArray, List.set_cons_zero, List.set_cons_succ]) | (refine wpS_take _ ?_ rfl (by rfl) ?_ ?_; rotate_left; (focus (intro w' hS'; (try dsimp only at hS'); (repeat (have hS1 := hS'.1; replace hS' := hS'.2)); go_simp; (try with_reducible rfl); done)); simp only [Act.put, List.getElem_toArray, List.getElem_cons_zero, List.getElem_cons_succ, List.setIfInBounds_toArray, List.set_cons_zero, List.set_cons_succ]))
  (first | (refine wpS_pass _ rfl (by rfl) ?_; simp only [Act.put, List.getElem_toArray, List.getElem_cons_zero, List.getElem_cons_succ, List.setIfInBounds_toArray, List.set_cons_zero, List.set_cons_succ]) | (refine wpS_take _ ?_ rfl (by rfl) ?_ ?_; rotate_left; (focus (intro w' hS'; (try dsimp only at hS'); (repeat (have hS1 := hS'.1; replace hS' := hS'.2)); go_simp; (try with_reducible rfl); done)); simp only [Act.put, List.getElem_toArray, List.getElem_cons_zero, List.getElem_cons_succ, List.setIfInBounds_toArray, List.set_cons_zero, List.set_cons_succ]))
  (first | (refine wpS_pass _ rfl (by rfl) ?_; simp only [Act.put, List.getElem_toArray, List.getElem_cons_zero, List.getElem_cons_succ, List.setIfInBounds_toArray, List.set_cons_zero, List.set_cons_succ]) | (refine wpS_take _ ?_ rfl (by rfl) ?_ ?_; rotate_left; (focus (intro w' hS'; (try dsimp only at hS'); (repeat (have hS1 := hS'.1; replace hS' := hS'.2)); go_simp; (try with_reducible rfl); done)); simp only [Act.put, List.getElem_toArray, List.getElem_cons_zero, List.getElem_cons_succ, List.setIfInBounds_toArray, List.set_cons_zero, List.set_cons_succ]))
  (first | (refine wpS_pass _ rfl (by rfl) ?_; simp only [Act.put, List.getElem_toArray, List.getElem_cons_zero, List.getElem_cons_succ, List.setIfInBounds_toArray, List.set_cons_zero, List.set_cons_succ]) | (refine wpS_take _ ?_ rfl (by rfl) ?_ ?_; rotate_left; (focus (intro w' hS'; (try dsimp only at hS'); (repeat (have hS1 := hS'.1; replace hS' := hS'.2)); go_simp; (try with_reducible rfl); done)); simp only [Act.put, List.getElem_toArray, List.getElem_cons_zero, List.getElem_cons_succ, List.setIfInBounds_toArray, List.set_cons_zero, List.set_cons_succ]))
  (first | (refine wpS_pass _ rfl (by rfl) ?_; simp only [Act.put, List.getElem_toArray, List.getElem_cons_zero, List.getElem_cons_succ, List.setIfInBounds_toArray, List.set_cons_zero, List.set_cons_succ]) | (refine wpS_take _ ?_ rfl (by rfl) ?_ ?_; rotate_left; (focus (intro w' hS'; (try dsimp only at hS'); (repeat (have hS1 := hS'.1; replace hS' := hS'.2)); go_simp; (try with_reducible rfl); done)); simp only [Act.put, List.getElem_toArray, List.getElem_cons_zero, List.getElem_cons_succ, List.setIfInBounds_toArray, List.set_cons_zero, List.set_cons_succ]))
  (first | (refine wpS_pass _ rfl (by rfl) ?_; simp only [Act.put, List.getElem_toArray, List.getElem_cons_zero, List.getElem_cons_succ, List.setIfInBounds_toArray, List.set_cons_zero, List.set_cons_succ]) | (refine wpS_take _ ?_ rfl (by rfl) ?_ ?_; rotate_left; (focus (intro w' hS'; (try dsimp only at hS'); (repeat (have hS1 := hS'.1; replace hS' := hS'.2)); go_simp; (try with_reducible rfl); done)); simp only [Act.put, List.getElem_toArray, List.getElem_cons_zero, List.getElem_cons_succ, List.setIfInBounds_toArray, List.set_cons_zero, List.set_cons_succ]))
  refine wpS_take _ _ rfl (by rfl) (fun w' hS' => exec_slice_hi _ _ _ rfl At n0 ct k rfl rfl HKM.out.2.2.1 Tryz.underlying78 (sz := 3) (by kernel_rfl) HAT.out) ?_
  simp only [Act.put, List.getElem_toArray, List.getElem_cons_zero, List.getElem_cons_succ, List.setIfInBounds_toArray, List.set_cons_zero, List.set_cons_succ]
  (first | (refine wpS_pass _ rfl (by rfl) ?_; simp only [Act.put, List.getElem_toArray, List.getElem_cons_zero, List.getElem_cons_succ, List.setIfInBounds_toArray, List.set_cons_zero, List.set_cons_succ]) | (refine wpS_take _ ?_ rfl (by rfl) ?_ ?_; rotate_left; (focus (intro w' hS'; (try dsimp only at hS'); (repeat (have hS1 := hS'.1; replace hS' := hS'.2)); go_simp; (try with_reducible rfl); done)); simp only [Act.put, List.getElem_toArray, List.getElem_cons_zero, List.getElem_cons_succ, List.setIfInBounds_toArray, List.set_cons_zero, List.set_cons_succ]))
  (first | (refine wpS_pass _ rfl (by rfl) ?_; simp only [Act.put, List.getElem_toArray, List.getElem_cons_zero, List.getElem_cons_succ, List.setIfInBounds_toArray, List.set_cons_zero, List.set_cons_succ]) | (refine wpS_take _ ?_ rfl (by rfl) ?_ ?_; rotate_left; (focus (intro w' hS'; (try dsimp only at hS'); (repeat (have hS1 := hS'.1; replace hS' := hS'.2)); go_simp; (try with_reducible rfl); done)); simp only [Act.put, List.getElem_toArray, List.getElem_cons_zero, List.getElem_cons_succ, List.setIfInBounds_toArray, List.set_cons_zero, List.set_cons_succ]))
  refine wpS_done ?_
  have HD2 : Hid (DiskIn N W2.drew g { m with down := false, fuse := 0 } d) := Lib.hid H2.out.drew
  have A2' : Hid (Aft N g w W2.drew { m with down := false, fuse := 0 } d d) := Lib.hid ⟨H2.out.drew, ⟨HF2.out.os, HF2.out.tape, HF2.out.output, HF2.out.size, HF2.out.block⟩, fun b hb => .inl hb⟩
  clear A2 e2 hmx hmn d4 g4 c5 f5 HF2 H2
  go_upto_block 0 with (fail)
  refine cr_turns N g _ d HB2.out At k ct n0 HTV HKM.out.1 HKM.out.2.1 _ HD2 _ ?_
  intros
  rename_i wx HA
  obtain ⟨sr, hsr⟩ : ∃ sr, (m.turns.take k).foldl doN m.sure = sr := ⟨_, rfl⟩
  have HC0 : Hid (crash0 m turns = { m with down := false, fuse := 0, sure := sr, now := sr, turns := [] }) := Lib.hid (by unfold crash0; rw [HK.out, hsr])
  have HA3 : Hid (Aft N g w wx { m with down := false, fuse := 0, sure := sr } d d) := Lib.hid (by have := A2'.out.trans HA.out; rw [← hsr]; exact this)
  have hc1 := HA3.out.disk.cells.2.1
  have hsn : sr.length < 1000000 := by have := HB4.out.now; rw [HC0.out] at this; exact this
  have HCL := Lib.hid (AnyW.maps_Clone_owns Tryz.clone52 9 ptrR d.sb sr.length (namesD d.bs sr) wx HA3.out.disk.sure)
  clear HA hsr
  go_wp2_with fail
  refine HCL.out.mono ?_
  rintro e w3 ⟨rfl, ho1, ho2, hb3⟩
  obtain ⟨mb', hmb⟩ : ∃ mb', wx.heap.size = mb' := ⟨_, rfl⟩
  have D3 := Lib.hid (HA3.out.disk.below hb3)
  have A3 := Lib.hid (HA3.out.then hb3)
  rw [hmb] at ho1
  have HO1 := Lib.hid ho1
  have HMB : Hid (wx.heap.size = mb' ∧ N ≤ mb' ∧ mb' ≠ d.sb ∧ w.heap.size ≤ mb') := Lib.hid ⟨hmb, by have := HA3.out.disk.size; omega, by have := HA3.out.disk.foot_lt (b := d.sb) (.inr (.inr (.inl rfl))); omega, by have := HA3.out.frm.size; omega⟩
  have c1' : w3.cell? ⟨g, 0, none⟩ = some (.map (some d.mb)) := D3.out.cells.1
  have f1 := D3.out.froz 0
  obtain ⟨W4, hW4⟩ : ∃ W, w3.setCell ⟨g, 0, none⟩ (.map (some mb')) = W := ⟨_, rfl⟩
  have hr4 := set_row (j := 0) (.map (some mb')) D3.out.row
  rw [hW4] at hr4
  have c2' : W4.cell? ⟨g, 2, none⟩ = some d.tv := row_cell hr4 2
  have f2 := row_froz (j := 2) hr4
  have D5 := D3.out.crash HMB.out.2.1 HMB.out.2.2.1 HO1.out
  have hF : Frm (foot g d) w3 (W4.setCell ⟨g, 2, none⟩ (.slice none 0 0)) := by
    rw [← hW4]
    exact (Frm.of_cell (.inl rfl)).trans (Frm.of_cell (F := foot g d) (.inl rfl)) (fun i hi => .inl hi)
  rw [hW4] at D5
  have A5 : Hid (Aft N g w (W4.setCell ⟨g, 2, none⟩ (.slice none 0 0)) (crash0 m turns) d { d with mb := mb', tv := .slice none 0 0 }) := Lib.hid (by
    rw [HC0.out]
    refine ⟨D5, A3.out.frm.trans hF (fun i hi => .inl hi), fun b hb => ?_⟩
    rcases hb with h1 | h1 | h1 | h1 | h1
    · exact .inl (.inl h1)
    · right
      have h2 : b = mb' := h1
      have := HMB.out.2.2.2
      omega
    · exact .inl (.inr (.inr (.inl h1)))
    · cases h1
    · exact .inl (.inr (.inr (.inr (.inr h1)))))
  rw [hmb]
  clear ho1 ho2 hb3 hmb hc1 hr4 D5 hF HO1
  obtain ⟨m4, hm4⟩ : ∃ m4, crash0 m turns = m4 := ⟨_, rfl⟩
  have HM4 := Lib.hid hm4
  rw [hm4] at HB4 HI4 A5 HC0
  have hnn : m4.now.length < 1000000 := HB4.out.now
  obtain ⟨d4, hd4⟩ : ∃ d4, ({ d with mb := mb', tv := .slice none 0 0 } : DA) = d4 := ⟨_, rfl⟩
  rw [hd4] at A5
  have HNA := Lib.hid (names_any N g m4 d4 _ A5.out.disk HB4.out)
  obtain ⟨W5, hW5⟩ : ∃ W, W4.setCell ⟨g, 2, none⟩ (.slice none 0 0) = W := ⟨_, rfl⟩
  rw [hW5] at A5 HNA
  clear hm4 hd4
  go_wp2_with fail
  refine HNA.out.mono ?_
  rintro e w6 ⟨v, rfl, ho6, hb6⟩
  obtain ⟨nn, hnn'⟩ : ∃ nn, m4.now.length = nn := ⟨_, rfl⟩
  rw [hnn'] at ho6 hnn
  obtain ⟨An, cn, rfl, _, _, hAn, _⟩ := own_slice ho6
  have A6 := Lib.hid (A5.out.then hb6)
  have HRN := Lib.hid (own_rd ho6)
  have HNN := Lib.hid hnn'
  have HNF : Hid (∀ a, An = some a → ¬ foot g d4 a.block) := Lib.hid (fun a ha hf => by
    have h1 := (hAn a ha).1
    have h2 := A5.out.disk.foot_lt hf
    omega)
  have HRK6 : Hid (Rd w6 Ak (keep.map (Value.int .i64))) := Lib.hid (by
    by_cases hk0 : keep = []
    · rw [hk0]; exact Rd.nil
    · exact HRK.out.keep (fun ad e hlt => A6.out.frm.block _ hlt (HKF.out hk0 ad e).2))
  have HKF6 : Hid (keep ≠ [] → ∀ a, Ak = some a → ¬ foot g d4 a.block) := Lib.hid (fun hk0 a ha hf => by
    rcases A6.out.ext _ hf with h1 | h1
    · exact (HKF.out hk0 a ha).2 h1
    · have := (HKF.out hk0 a ha).1
      omega)
  have HD6 := Lib.hid A6.out.disk
  clear ho6 hb6 hAn hnn'
  go_upto_block 2 with (fail)
  refine cr_cut N g m4 d4 HB4 HI4 An nn cn HNN (by omega) Ak keep kl kc HKL HKC hkm _ HD6 HRN HNF HRK6 HKF6 _ ?_
  intros
  rename_i wz d7 HZ
  have HFIN : Hid (Aft N g w wz (crashM m turns keep) d d7) := Lib.hid (by
    rw [crashM_eq, HM4.out]
    exact A6.out.trans HZ.out)
  go_wp2_with fail
  go_end0
  exact ⟨rfl, d7, HFIN.out⟩
end Go.Proofs.YtelbofikcpchiaaGreat
