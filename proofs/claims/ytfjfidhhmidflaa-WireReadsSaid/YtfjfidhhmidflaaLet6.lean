
/- bare. -/

import Derived.Test.YtfjfidhhmidflaaLet5

namespace Go.Proofs.Ytfjfidhhmidflaa

set_option linter.unusedVariables false

set_option linter.unusedSimpArgs false

open Go.RowKit

def base0 (l : Lt) : Lt := ⟨l.kind, l.from_, l.to_, l.session, [], [], [], 0, 0, zeros32, []⟩
def bareL (l : Lt) : Lt :=
  if l.kind = 2 then ⟨l.kind, l.from_, l.to_, l.session, l.refs, [], [], 0, 0, zeros32, []⟩
  else if l.kind = 3 then ⟨l.kind, l.from_, l.to_, l.session, [], l.wants, l.haves, l.off, 0, zeros32, []⟩
  else if l.kind = 4 then ⟨l.kind, l.from_, l.to_, l.session, [], [], [], l.off, l.total, l.pack, l.data⟩
  else base0 l
def p0 : LtP := ⟨none, 0, none, 0, none, 0, none, 0⟩
def bareP (k : Int) (p : LtP) : LtP :=
  if k = 2 then ⟨p.rA, p.rc, none, 0, none, 0, none, 0⟩
  else if k = 3 then ⟨none, 0, p.wA, p.wc, p.hA, p.hc, none, 0⟩
  else if k = 4 then ⟨none, 0, none, 0, none, 0, p.dA, p.dc⟩
  else p0
theorem bare_in {w : World} {l : Lt} {p : LtP} (h : LtIn w l p) : LtIn w (bareL l) (bareP l.kind p) := by
  have e1 : rOk [] := fun r hr => by cases hr
  have e2 : iOk [] := fun r hr => by cases hr
  have n1 : Rd w none (rfc []) := Rd.nil
  have n2 : Rd w none (idc []) := Rd.nil
  have n3 : Rd w none (b8s []) := Rd.nil
  unfold bareL bareP base0 p0
  split
  · exact ⟨rfl, h.rok, e2, e2, h.rr, ⟨n2, Nat.le_refl _, Nat.zero_le _⟩, ⟨n2, Nat.le_refl _, Nat.zero_le _⟩, ⟨n3, Nat.le_refl _, Nat.zero_le _⟩⟩
  · split
    · exact ⟨rfl, e1, h.wok, h.hok, ⟨n1, Nat.le_refl _, Nat.zero_le _⟩, h.wr, h.hr, ⟨n3, Nat.le_refl _, Nat.zero_le _⟩⟩
    · split
      · exact ⟨h.len, e1, e2, e2, ⟨n1, Nat.le_refl _, Nat.zero_le _⟩, ⟨n2, Nat.le_refl _, Nat.zero_le _⟩, ⟨n2, Nat.le_refl _, Nat.zero_le _⟩, h.dr⟩
      · exact ⟨rfl, e1, e2, e2, ⟨n1, Nat.le_refl _, Nat.zero_le _⟩, ⟨n2, Nat.le_refl _, Nat.zero_le _⟩, ⟨n2, Nat.le_refl _, Nat.zero_le _⟩, ⟨n3, Nat.le_refl _, Nat.zero_le _⟩⟩

def lt0 : Lt := ⟨0, 0, 0, 0, [], [], [], 0, 0, zeros32, []⟩
theorem lt0_cells : (lt0.cells p0).toArray = #[Value.int .i64 0, Value.int .i64 0, Value.int .i64 0, Value.int .i64 0, Value.slice none 0 0, Value.slice none 0 0, Value.slice none 0 0, Value.int .i64 0, Value.int .i64 0, Value.int .u8 0, Value.int .u8 0, Value.int .u8 0, Value.int .u8 0, Value.int .u8 0, Value.int .u8 0, Value.int .u8 0, Value.int .u8 0, Value.int .u8 0, Value.int .u8 0, Value.int .u8 0, Value.int .u8 0, Value.int .u8 0, Value.int .u8 0, Value.int .u8 0, Value.int .u8 0, Value.int .u8 0, Value.int .u8 0, Value.int .u8 0, Value.int .u8 0, Value.int .u8 0, Value.int .u8 0, Value.int .u8 0, Value.int .u8 0, Value.int .u8 0, Value.int .u8 0, Value.int .u8 0, Value.int .u8 0, Value.int .u8 0, Value.int .u8 0, Value.int .u8 0, Value.int .u8 0, Value.slice none 0 0] := by rfl
theorem info_let (l : Lt) (p : LtP) (h : l.pack.length = 32) : (Try.prog.info? 28).map (·.size) = some (l.cells p).length := by rw [l.cells_len p h]; kernel_rfl
theorem info_leta (l : Lt) (p : LtP) (h : l.pack.length = 32) : (Try.prog.info? 28).map (·.size) = some (l.cells p).toArray.size := by rw [List.size_toArray]; exact info_let l p h
/-- a letter's row is written whole -/
theorem let_write {w0 w : World} {g N : Nat} {l m : Lt} {p q : LtP} {t : TypeId} (h : w.heap[g]? = some (.cells (l.cells p).toArray t (0, 0))) (hl : l.pack.length = 32) (hm : m.pack.length = 32) (hb : Below N w0 w) (hN : N ≤ w.heap.size) (hg : N ≤ g) :
    ∃ W, w.setCells g 0 (m.cells q).toArray.toList = W ∧ Hid (w.there g 0 (m.cells q).toArray.size) ∧ Hid (W.heap[g]? = some (.cells (m.cells q).toArray t (0, 0))) ∧ Hid (Below N w0 W) ∧ Hid (∀ k, k ≠ g → W.heap[k]? = w.heap[k]?) ∧ Hid (w.heap.size ≤ W.heap.size) := by
  have hs : (m.cells q).toArray.size = (l.cells p).toArray.size := by rw [List.size_toArray, List.size_toArray, l.cells_len p hl, m.cells_len q hm]
  exact ⟨_, rfl, Lib.hid (by rw [hs]; exact there_of_row h), Lib.hid (by simpa using row_setAll h (by rw [l.cells_len p hl, m.cells_len q hm])), Lib.hid (bel_grown hb hN (setCells_grown _ _ _ _) hg), Lib.hid (fun k hk => setCells_other g _ 0 w k hk), Lib.hid (setCells_size g _ 0 w)⟩
theorem info_id32' (bs : List UInt8) (h : bs.length = 32) : (Try.prog.info? 25).map (·.size) = some (b8s bs).length ∧ (Try.prog.info? 25).map (·.size) = some (b8s bs).toArray.size := ⟨info_id32 bs h, by rw [List.size_toArray]; exact info_id32 bs h⟩
theorem info_slice1 {t : TypeId} (h : (Try.prog.info? t).map (·.size) = some 1) : (Try.prog.info? t).map (·.size) = some 1 := h

set_option maxRecDepth 100000 in
set_option maxHeartbeats 4000000 in
theorem bare_any (l : Lt) (p : LtP) (w : World) (hl : l.pack.length = 32) : Calls Try.prog 28 #[l.val p] w fun e w' => e = .returned ((bareL l).val (bareP l.kind p)) ∧ Below w.heap.size w w' := by
  obtain ⟨W1, hW1⟩ : ∃ W, w.alloc (.cells (l.cells p).toArray 28) = W := ⟨_, rfl⟩
  obtain ⟨r1, b1, s1⟩ := new_row hW1
  obtain ⟨W2, hW2⟩ : ∃ W, W1.alloc (.cells #[Value.int .i64 0, Value.int .i64 0, Value.int .i64 0, Value.int .i64 0, Value.slice none 0 0, Value.slice none 0 0, Value.slice none 0 0, Value.int .i64 0, Value.int .i64 0, Value.int .u8 0, Value.int .u8 0, Value.int .u8 0, Value.int .u8 0, Value.int .u8 0, Value.int .u8 0, Value.int .u8 0, Value.int .u8 0, Value.int .u8 0, Value.int .u8 0, Value.int .u8 0, Value.int .u8 0, Value.int .u8 0, Value.int .u8 0, Value.int .u8 0, Value.int .u8 0, Value.int .u8 0, Value.int .u8 0, Value.int .u8 0, Value.int .u8 0, Value.int .u8 0, Value.int .u8 0, Value.int .u8 0, Value.int .u8 0, Value.int .u8 0, Value.int .u8 0, Value.int .u8 0, Value.int .u8 0, Value.int .u8 0, Value.int .u8 0, Value.int .u8 0, Value.int .u8 0, Value.slice none 0 0] 28) = W := ⟨_, rfl⟩
  obtain ⟨r2, b2, s2⟩ := new_row hW2
  obtain ⟨W3, hW3⟩ : ∃ W, W2.alloc (.cells #[Value.int .i64 0, Value.int .i64 0, Value.int .i64 0, Value.int .i64 0, Value.slice none 0 0, Value.slice none 0 0, Value.slice none 0 0, Value.int .i64 0, Value.int .i64 0, Value.int .u8 0, Value.int .u8 0, Value.int .u8 0, Value.int .u8 0, Value.int .u8 0, Value.int .u8 0, Value.int .u8 0, Value.int .u8 0, Value.int .u8 0, Value.int .u8 0, Value.int .u8 0, Value.int .u8 0, Value.int .u8 0, Value.int .u8 0, Value.int .u8 0, Value.int .u8 0, Value.int .u8 0, Value.int .u8 0, Value.int .u8 0, Value.int .u8 0, Value.int .u8 0, Value.int .u8 0, Value.int .u8 0, Value.int .u8 0, Value.int .u8 0, Value.int .u8 0, Value.int .u8 0, Value.int .u8 0, Value.int .u8 0, Value.int .u8 0, Value.int .u8 0, Value.int .u8 0, Value.slice none 0 0] 28) = W := ⟨_, rfl⟩
  obtain ⟨r3, b3, s3⟩ := new_row hW3
  rw [← lt0_cells] at r2 r3
  have q1 := (b3.block _ (by omega)).trans ((b2.block _ (by omega)).trans r1)
  have q2 := (b3.block _ (by omega)).trans r2
  have q0 := (b2.block _ (by omega)).trans r1
  have hb3 : Below w.heap.size w W3 := b1.trans ((b2.mono (by omega)).trans (b3.mono (by omega)))
  obtain ⟨g1, hg1⟩ : ∃ g, w.heap.size = g := ⟨_, rfl⟩
  obtain ⟨g2, hg2⟩ : ∃ g, W1.heap.size = g := ⟨_, rfl⟩
  obtain ⟨g3, hg3⟩ : ∃ g, W2.heap.size = g := ⟨_, rfl⟩
  rw [hg1] at q1 q0
  rw [hg2] at q2
  rw [hg3] at r3
  have HN : Hid (w.heap.size ≤ g2 ∧ w.heap.size ≤ g3 ∧ g1 ≠ g3 ∧ g2 ≠ g3 ∧ g1 ≠ g2) := Lib.hid (by omega)
  obtain ⟨W4, hW4, HTH, HR3, HB4, HK4, HSZ4⟩ := let_write (q := p0) (m := base0 l) r3 rfl rfl hb3 hb3.size HN.out.2.1
  have HW4 := Lib.hid hW4
  have HR1 := Lib.hid ((HK4.out g1 HN.out.2.2.1).trans q1)
  have HR2 := Lib.hid ((HK4.out g2 HN.out.2.2.2.1).trans q2)
  have HLP := Lib.hid hl
  obtain ⟨f0, f1, f2, f3, _⟩ := ltRow_of q0 hl
  have HIB := Lib.hid (info_leta (base0 l) p0 rfl)
  have HOB := Lib.hid (all_oneCell_toArray ((base0 l).cells_one p0))
  have hfin : ∀ (m : Lt) (q : LtP), m.pack.length = 32 → bareL l = m → bareP l.kind p = q → Hid (Ending.returned (m.val q) = .returned ((bareL l).val (bareP l.kind p))) := fun m q _ e1 e2 => Lib.hid (by rw [e1, e2])
  have HFIN := Lib.hid hfin
  unfold Lt.val
  clear r1 r2 r3 b1 b2 b3 s1 s2 s3 q1 q2 q0 hb3 hW4 hfin
  have hPL : (bareL l).pack.length = 32 := by
    unfold bareL
    split
    · rfl
    · split
      · rfl
      · split
        · exact hl
        · rfl
  have HPL := Lib.hid hPL
  have HIL := Lib.hid (info_leta (bareL l) (bareP l.kind p) hPL)
  have HOL := Lib.hid (all_oneCell_toArray ((bareL l).cells_one (bareP l.kind p)))
  clear hPL
  -- what comes behind the switch
  have htail : ∀ W5 : World, W4.grownBy W5 (some g3) → W5.heap[g3]? = some (.cells ((bareL l).cells (bareP l.kind p)).toArray 28 (0, 0)) →
      ∃ W6, W5.setCells g2 0 ((bareL l).cells (bareP l.kind p)).toArray.toList = W6 ∧ Hid (W5.there g2 0 ((bareL l).cells (bareP l.kind p)).toArray.size) ∧ Hid (W6.heap[g2]? = some (.cells ((bareL l).cells (bareP l.kind p)).toArray 28 (0, 0))) ∧ Hid (Below w.heap.size w W6) := by
    intro W5 hg h3
    have h2 : W5.heap[g2]? = some (.cells (lt0.cells p0).toArray 28 (0, 0)) := (hg.block g2 (Array.getElem?_eq_some_iff.1 HR2.out).1 (by have := HN.out.2.2.2.1; simp; omega)).trans HR2.out
    have hb5 := bel_grown HB4.out HB4.out.size hg HN.out.2.1
    obtain ⟨W6, h1, h4, h5, h6, _⟩ := let_write (q := bareP l.kind p) (m := bareL l) h2 rfl HPL.out hb5 hb5.size HN.out.1
    exact ⟨W6, h1, h4, h5, h6⟩
  have HTAIL := Lib.hid htail
  have q4 := row_free HR3.out 4
  have q5 := row_free HR3.out 5
  have q6 := row_free HR3.out 6
  have q7 := row_free HR3.out 7
  have q8 := row_free HR3.out 8
  have q41 := row_free HR3.out 41
  have HQ := Lib.hid (And.intro q4 (And.intro q5 (And.intro q6 (And.intro q7 (And.intro q8 q41)))))
  obtain ⟨k0, k1, k2, k3, k4, k5, k6, k7, k8, k9, kp⟩ := ltRow_of HR1.out hl
  obtain ⟨z0, z1, z2, z3, z4, z5, z6, z7, z8, z9, zp⟩ := ltRow_of HR3.out rfl
  have HKP := Lib.hid kp
  have HZP := Lib.hid zp
  clear htail hl q4 q5 q6 q7 q8 q41 z0 z1 z2 z3 k1 k2 k3 kp zp
  by_cases e2 : l.kind = 2
  · have d2 : (l.kind == 2) = true := by rw [e2]; rfl
    have gr := grown_set (w := W4) g3 4 (.slice p.rA l.refs.length p.rc)
    have hr5 : (W4.setCell ⟨g3, 4, none⟩ (.slice p.rA l.refs.length p.rc)).heap[g3]? = some (.cells ((bareL l).cells (bareP l.kind p)).toArray 28 (0, 0)) := by
      rw [row_set HR3.out 4 _]
      unfold bareL bareP
      rw [if_pos e2, if_pos e2]
      rfl
    obtain ⟨W6, hW6, HTH6, HR6, HB6⟩ := HTAIL.out _ gr hr5
    have HW6 := Lib.hid hW6
    have HR5 := Lib.hid hr5
    have q4 := HQ.out.1
    clear e2 gr hr5 hW6 k5 k6 k7 k8 k9 z5 z6 z7 z8 z9
    go_enter Try.func28, Try.ntmps28
    go_wp2_with (first
      | ((with_reducible (refine wpList_store_mid rfl _ _ _ rfl ?_ ?_ ?_ ?_ ?_ ?_ ?_ ?_ ?_)); (exact g3); (exact 0); (exact ((base0 l).cells p0).toArray); (exact rfl); (exact rfl); (exact HTH.out); (exact HIB.out); (exact HOB.out); rw [HW4.out])
      | ((with_reducible (refine wpList_load_row_w _ _ rfl _ rfl _ _ _ _ HR5.out Try.underlying28 rfl HIL.out ?_ ?_)); (focus (rfl)))
      | ((with_reducible (refine wpList_store_mid rfl _ _ _ rfl ?_ ?_ ?_ ?_ ?_ ?_ ?_ ?_ ?_)); (exact g2); (exact 0); (exact ((bareL l).cells (bareP l.kind p)).toArray); (exact rfl); (exact rfl); (exact HTH6.out); (exact HIL.out); (exact HOL.out); rw [HW6.out]))
    refine bodyPost_ret (results_row1 rfl _ _ _ _ _ _ _ rfl HR6.out Try.underlying28 rfl HIL.out) rfl ?_
    exact ⟨rfl, by first | exact HB6.out | (rw [← hg1]; exact HB6.out)⟩
  · have n2 : (l.kind == 2) = false := by simpa using e2
    have hne : ∀ i : Nat, (⟨g3, i, none⟩ : Addr).block ≠ g1 := fun i e => HN.out.2.2.1 e.symm
    by_cases e3 : l.kind = 3
    · have d3 : (l.kind == 3) = true := by rw [e3]; rfl
      have hkeep : ∀ (W : World) (i : Nat) (v : Value), (W.cell? ⟨g1, 5, none⟩ = some (.slice p.wA l.wants.length p.wc) ∧ W.cell? ⟨g1, 6, none⟩ = some (.slice p.hA l.haves.length p.hc) ∧ W.cell? ⟨g1, 7, none⟩ = some (.int .i64 l.off)) →
          ((W.setCell ⟨g3, i, none⟩ v).cell? ⟨g1, 5, none⟩ = some (.slice p.wA l.wants.length p.wc) ∧ (W.setCell ⟨g3, i, none⟩ v).cell? ⟨g1, 6, none⟩ = some (.slice p.hA l.haves.length p.hc) ∧ (W.setCell ⟨g3, i, none⟩ v).cell? ⟨g1, 7, none⟩ = some (.int .i64 l.off)) :=
        fun W i v h => ⟨(World.cell?_setCell_far _ _ _ _ (hne i)).trans h.1, (World.cell?_setCell_far _ _ _ _ (hne i)).trans h.2.1, (World.cell?_setCell_far _ _ _ _ (hne i)).trans h.2.2⟩
      have HKEEP := Lib.hid hkeep
      have gr := grown_trans1 (grown_trans1 (grown_set (w := W4.drew) g3 5 (.slice p.wA l.wants.length p.wc)) (grown_set g3 6 (.slice p.hA l.haves.length p.hc))) (grown_set g3 7 (.int .i64 l.off))
      have gr' : W4.grownBy (((W4.drew.setCell ⟨g3, 5, none⟩ (.slice p.wA l.wants.length p.wc)).setCell ⟨g3, 6, none⟩ (.slice p.hA l.haves.length p.hc)).setCell ⟨g3, 7, none⟩ (.int .i64 l.off)) (some g3) := ⟨gr.os, gr.tape, gr.output, gr.size, gr.block⟩
      have hr5a := row_set (w := W4.drew) HR3.out 5 (.slice p.wA l.wants.length p.wc)
      have hr5b := row_set hr5a 6 (.slice p.hA l.haves.length p.hc)
      have hr5 : (((W4.drew.setCell ⟨g3, 5, none⟩ (.slice p.wA l.wants.length p.wc)).setCell ⟨g3, 6, none⟩ (.slice p.hA l.haves.length p.hc)).setCell ⟨g3, 7, none⟩ (.int .i64 l.off)).heap[g3]? = some (.cells ((bareL l).cells (bareP l.kind p)).toArray 28 (0, 0)) := by
        rw [row_set hr5b 7 _]
        unfold bareL bareP
        rw [if_neg e2, if_neg e2, if_pos e3, if_pos e3]
        rfl
      obtain ⟨W6, hW6, HTH6, HR6, HB6⟩ := HTAIL.out _ gr' hr5
      have HW6 := Lib.hid hW6
      have HR5 := Lib.hid hr5
      have HA := Lib.hid hr5a
      have HB := Lib.hid hr5b
      have HK : Hid (W4.cell? ⟨g1, 5, none⟩ = some (.slice p.wA l.wants.length p.wc) ∧ W4.cell? ⟨g1, 6, none⟩ = some (.slice p.hA l.haves.length p.hc) ∧ W4.cell? ⟨g1, 7, none⟩ = some (.int .i64 l.off)) := Lib.hid ⟨k5, k6, k7⟩
      clear e2 e3 gr gr' hr5 hr5a hr5b hW6 k4 k5 k6 k7 k8 k9 z4 z5 z6 z7 z8 z9 hkeep
      go_enter Try.func28, Try.ntmps28
      go_wp2_with (((with_reducible (refine wpList_store_mid rfl _ _ _ rfl ?_ ?_ ?_ ?_ ?_ ?_ ?_ ?_ ?_)); (exact g3); (exact 0); (exact ((base0 l).cells p0).toArray); (exact rfl); (exact rfl); (exact HTH.out); (exact HIB.out); (exact HOB.out); rw [HW4.out]))
      refine wp_region_sched (fun w' => w'.cell? ⟨g1, 5, none⟩ = some (.slice p.wA l.wants.length p.wc) ∧ w'.cell? ⟨g1, 6, none⟩ = some (.slice p.hA l.haves.length p.hc) ∧ w'.cell? ⟨g1, 7, none⟩ = some (.int .i64 l.off)) [(true, 0), (true, 1), (true, 2), (true, 3), (true, 4), (true, 5), (true, 6), (false, 7), (true, 8), (false, 9), (true, 10), (false, 11)] (by kernel_rfl) (by kernel_rfl) rfl (by kernel_rfl) HK.out ?_
      (repeat (first | (refine wpS_pass _ rfl (by rfl) ?_; simp only [Act.put, List.getElem_toArray, List.getElem_cons_zero, List.getElem_cons_succ, List.setIfInBounds_toArray, List.set_cons_zero, List.set_cons_succ]) | (refine wpS_take _ ?_ rfl (by rfl) ?_ ?_; rotate_left; (focus (intro w' hS'; (try dsimp only at hS'); (repeat (have hS1 := hS'.1; replace hS' := hS'.2)); go_simp; (try with_reducible rfl); done)); simp only [Act.put, List.getElem_toArray, List.getElem_cons_zero, List.getElem_cons_succ, List.setIfInBounds_toArray, List.set_cons_zero, List.set_cons_succ])))
      have hS1 := HKEEP.out W4.drew 5 (.slice p.wA l.wants.length p.wc) HK.out
      have hS2 := HKEEP.out _ 6 (.slice p.hA l.haves.length p.hc) hS1
      have hS3 := HKEEP.out _ 7 (.int .i64 l.off) hS2
      refine wpS_store_cell _ rfl (by rfl) _ _ _ rfl g3 5 rfl (.slice p.wA l.wants.length p.wc) rfl rfl _ (row_cell (w := W4.drew) HR3.out 5) (row_free (w := W4.drew) HR3.out 5) (by kernel_rfl) hS1 ?_
      simp only [Act.put, List.getElem_toArray, List.getElem_cons_zero, List.getElem_cons_succ, List.setIfInBounds_toArray, List.set_cons_zero, List.set_cons_succ]
      (repeat (first | (refine wpS_pass _ rfl (by rfl) ?_; simp only [Act.put, List.getElem_toArray, List.getElem_cons_zero, List.getElem_cons_succ, List.setIfInBounds_toArray, List.set_cons_zero, List.set_cons_succ]) | (refine wpS_take _ ?_ rfl (by rfl) ?_ ?_; rotate_left; (focus (intro w' hS'; (try dsimp only at hS'); (repeat (have hS1 := hS'.1; replace hS' := hS'.2)); go_simp; (try with_reducible rfl); done)); simp only [Act.put, List.getElem_toArray, List.getElem_cons_zero, List.getElem_cons_succ, List.setIfInBounds_toArray, List.set_cons_zero, List.set_cons_succ])))
      refine wpS_store_cell _ rfl (by rfl) _ _ _ rfl g3 6 rfl (.slice p.hA l.haves.length p.hc) rfl rfl _ (row_cell HA.out 6) (row_free HA.out 6) (by kernel_rfl) hS2 ?_
      simp only [Act.put, List.getElem_toArray, List.getElem_cons_zero, List.getElem_cons_succ, List.setIfInBounds_toArray, List.set_cons_zero, List.set_cons_succ]
      (repeat (first | (refine wpS_pass _ rfl (by rfl) ?_; simp only [Act.put, List.getElem_toArray, List.getElem_cons_zero, List.getElem_cons_succ, List.setIfInBounds_toArray, List.set_cons_zero, List.set_cons_succ]) | (refine wpS_take _ ?_ rfl (by rfl) ?_ ?_; rotate_left; (focus (intro w' hS'; (try dsimp only at hS'); (repeat (have hS1 := hS'.1; replace hS' := hS'.2)); go_simp; (try with_reducible rfl); done)); simp only [Act.put, List.getElem_toArray, List.getElem_cons_zero, List.getElem_cons_succ, List.setIfInBounds_toArray, List.set_cons_zero, List.set_cons_succ])))
      refine wpS_store_cell _ rfl (by rfl) _ _ _ rfl g3 7 rfl (.int .i64 l.off) rfl rfl _ (row_cell HB.out 7) (row_free HB.out 7) (by kernel_rfl) hS3 ?_
      simp only [Act.put, List.getElem_toArray, List.getElem_cons_zero, List.getElem_cons_succ, List.setIfInBounds_toArray, List.set_cons_zero, List.set_cons_succ]
      refine wpS_done ?_
      clear hS1 hS2 hS3
      generalize ((W4.drew.setCell ⟨g3, 5, none⟩ (.slice p.wA l.wants.length p.wc)).setCell ⟨g3, 6, none⟩ (.slice p.hA l.haves.length p.hc)).setCell ⟨g3, 7, none⟩ (.int .i64 l.off) = W5 at *
      go_wp2_with (first
        | ((with_reducible (refine wpList_load_row_w _ _ rfl _ rfl _ _ _ _ HR5.out Try.underlying28 rfl HIL.out ?_ ?_)); (focus (rfl)))
        | ((with_reducible (refine wpList_store_mid rfl _ _ _ rfl ?_ ?_ ?_ ?_ ?_ ?_ ?_ ?_ ?_)); (exact g2); (exact 0); (exact ((bareL l).cells (bareP l.kind p)).toArray); (exact rfl); (exact rfl); (exact HTH6.out); (exact HIL.out); (exact HOL.out); rw [HW6.out]))
      refine bodyPost_ret (results_row1 rfl _ _ _ _ _ _ _ rfl HR6.out Try.underlying28 rfl HIL.out) rfl ?_
      exact ⟨rfl, by first | exact HB6.out | (rw [← hg1]; exact HB6.out)⟩
    · have n3 : (l.kind == 3) = false := by simpa using e3
      by_cases e4 : l.kind = 4
      · have d4 : (l.kind == 4) = true := by rw [e4]; rfl
        have hkeep : ∀ (W W' : World), W.grownBy W' (some g3) → (W.cell? ⟨g1, 7, none⟩ = some (.int .i64 l.off) ∧ W.cell? ⟨g1, 8, none⟩ = some (.int .i64 l.total) ∧ W.cell? ⟨g1, 41, none⟩ = some (.slice p.dA l.data.length p.dc) ∧ W.heap[g1]? = some (.cells (l.cells p).toArray 28 (0, 0))) →
            (W'.cell? ⟨g1, 7, none⟩ = some (.int .i64 l.off) ∧ W'.cell? ⟨g1, 8, none⟩ = some (.int .i64 l.total) ∧ W'.cell? ⟨g1, 41, none⟩ = some (.slice p.dA l.data.length p.dc) ∧ W'.heap[g1]? = some (.cells (l.cells p).toArray 28 (0, 0))) := by
          intro W W' hg h
          have hb := (hg.block g1 (Array.getElem?_eq_some_iff.1 h.2.2.2).1 (by have := HN.out.2.2.1; simp; omega)).trans h.2.2.2
          obtain ⟨_, _, _, _, _, _, _, a7, a8, a9, _⟩ := ltRow_of hb HLP.out
          exact ⟨a7, a8, a9, hb⟩
        have HKEEP := Lib.hid hkeep
        have hz : ∀ W : World, W.grownBy W.drew (some g3) := fun W => ⟨rfl, rfl, rfl, Nat.le_refl _, fun _ _ _ => rfl⟩
        have x1 := setCells_grown g3 (b8s l.pack) 9 W4.drew
        have x2 := grown_set (w := W4.drew.setCells g3 9 (b8s l.pack)) g3 7 (.int .i64 l.off)
        have x3 := grown_set (w := (W4.drew.setCells g3 9 (b8s l.pack)).setCell ⟨g3, 7, none⟩ (.int .i64 l.off)) g3 8 (.int .i64 l.total)
        have x4 := grown_set (w := ((W4.drew.setCells g3 9 (b8s l.pack)).setCell ⟨g3, 7, none⟩ (.int .i64 l.off)).setCell ⟨g3, 8, none⟩ (.int .i64 l.total)) g3 41 (Value.slice p.dA l.data.length p.dc)
        have HX := Lib.hid (And.intro x1 (And.intro x2 (And.intro x3 x4)))
        have gr : W4.grownBy ((((W4.drew.setCells g3 9 (b8s l.pack)).setCell ⟨g3, 7, none⟩ (.int .i64 l.off)).setCell ⟨g3, 8, none⟩ (.int .i64 l.total)).setCell ⟨g3, 41, none⟩ (.slice p.dA l.data.length p.dc)) (some g3) := grown_trans1 (hz W4) (grown_trans1 (grown_trans1 (grown_trans1 x1 x2) x3) x4)
        have y0 : W4.drew.heap[g3]? = some (.cells (([.int .i64 l.kind, .int .i64 l.from_, .int .i64 l.to_, .int .i64 l.session, .slice none 0 0, .slice none 0 0, .slice none 0 0, .int .i64 0, .int .i64 0] : List Value) ++ b8s zeros32 ++ ([.slice none 0 0] : List Value)).toArray 28 (0, 0)) := HR3.out
        have hth : W4.drew.there g3 9 (b8s l.pack).toArray.size := by
          intro j hj
          have hj' : j < 32 := by rw [List.size_toArray, b8s_length, HLP.out] at hj; exact hj
          refine ⟨?_, row_free (w := W4.drew) HR3.out _⟩
          rw [row_cell (w := W4.drew) HR3.out, Array.getElem?_eq_getElem (by rw [List.size_toArray, (base0 l).cells_len p0 rfl]; omega)]
          rfl
        have y1 := row_setCells (b8s l.pack) _ _ _ _ y0 (by rw [b8s_length, b8s_length, HLP.out]; rfl)
        have y2 := row_set y1 7 (.int .i64 l.off)
        have y3 := row_set y2 8 (.int .i64 l.total)
        have hr5 : ((((W4.drew.setCells g3 9 (b8s l.pack)).setCell ⟨g3, 7, none⟩ (.int .i64 l.off)).setCell ⟨g3, 8, none⟩ (.int .i64 l.total)).setCell ⟨g3, 41, none⟩ (.slice p.dA l.data.length p.dc)).heap[g3]? = some (.cells ((bareL l).cells (bareP l.kind p)).toArray 28 (0, 0)) := by
          refine (row_set y3 41 _).trans ?_
          unfold bareL bareP
          rw [if_neg e2, if_neg e2, if_neg e3, if_neg e3, if_pos e4, if_pos e4]
          congr 2
          rw [← Array.toList_inj]
          have hq : (b8s l.pack).length = 32 := by rw [b8s_length, HLP.out]
          simp [Lt.cells, List.set_append, hq]
        obtain ⟨W6, hW6, HTH6, HR6, HB6⟩ := HTAIL.out _ gr hr5
        have HW6 := Lib.hid hW6
        have HR5 := Lib.hid hr5
        have HY1 := Lib.hid y1
        have HY2 := Lib.hid y2
        have HY3 := Lib.hid y3
        have HTP := Lib.hid hth
        have HZ := Lib.hid (hz W4)
        have HK : Hid (W4.cell? ⟨g1, 7, none⟩ = some (.int .i64 l.off) ∧ W4.cell? ⟨g1, 8, none⟩ = some (.int .i64 l.total) ∧ W4.cell? ⟨g1, 41, none⟩ = some (.slice p.dA l.data.length p.dc) ∧ W4.heap[g1]? = some (.cells (l.cells p).toArray 28 (0, 0))) := Lib.hid ⟨k7, k8, k9, HR1.out⟩
        have HIP := Lib.hid (info_id32' l.pack HLP.out)
        clear e2 e3 e4 gr hr5 hW6 k4 k5 k6 k7 k8 k9 z4 z5 z6 z7 z8 z9 hkeep hz x1 x2 x3 x4 y0 y1 y2 y3 hth
        go_enter Try.func28, Try.ntmps28
        go_wp2_with (((with_reducible (refine wpList_store_mid rfl _ _ _ rfl ?_ ?_ ?_ ?_ ?_ ?_ ?_ ?_ ?_)); (exact g3); (exact 0); (exact ((base0 l).cells p0).toArray); (exact rfl); (exact rfl); (exact HTH.out); (exact HIB.out); (exact HOB.out); rw [HW4.out]))
        refine wp_region_sched (fun w' => w'.cell? ⟨g1, 7, none⟩ = some (.int .i64 l.off) ∧ w'.cell? ⟨g1, 8, none⟩ = some (.int .i64 l.total) ∧ w'.cell? ⟨g1, 41, none⟩ = some (.slice p.dA l.data.length p.dc) ∧ w'.heap[g1]? = some (.cells (l.cells p).toArray 28 (0, 0))) [(true, 0), (true, 1), (true, 2), (true, 3), (true, 4), (true, 5), (true, 6), (true, 7), (true, 8), (false, 9), (true, 10), (false, 11), (true, 12), (false, 13), (true, 14), (false, 15)] (by kernel_rfl) (by kernel_rfl) rfl (by kernel_rfl) HK.out ?_
        (first | (refine wpS_pass _ rfl (by rfl) ?_; simp only [Act.put, List.getElem_toArray, List.getElem_cons_zero, List.getElem_cons_succ, List.setIfInBounds_toArray, List.set_cons_zero, List.set_cons_succ]) | (refine wpS_take _ ?_ rfl (by rfl) ?_ ?_; rotate_left; (focus (intro w' hS'; (try dsimp only at hS'); (repeat (have hS1 := hS'.1; replace hS' := hS'.2)); go_simp; (try with_reducible rfl); done)); simp only [Act.put, List.getElem_toArray, List.getElem_cons_zero, List.getElem_cons_succ, List.setIfInBounds_toArray, List.set_cons_zero, List.set_cons_succ]))
        refine wpS_load _ rfl (by rfl) _ _ rfl g1 9 rfl (b8s l.pack) _ (fun w' hS' => (ltRow_of hS'.2.2.2 HLP.out).2.2.2.2.2.2.2.2.2.2) Try.underlying25 rfl HIP.out.1 ?_
        simp only [Act.put, List.getElem_toArray, List.getElem_cons_zero, List.getElem_cons_succ, List.setIfInBounds_toArray, List.set_cons_zero, List.set_cons_succ]
        (repeat (first | (refine wpS_pass _ rfl (by rfl) ?_; simp only [Act.put, List.getElem_toArray, List.getElem_cons_zero, List.getElem_cons_succ, List.setIfInBounds_toArray, List.set_cons_zero, List.set_cons_succ]) | (refine wpS_take _ ?_ rfl (by rfl) ?_ ?_; rotate_left; (focus (intro w' hS'; (try dsimp only at hS'); (repeat (have hS1 := hS'.1; replace hS' := hS'.2)); go_simp; (try with_reducible rfl); done)); simp only [Act.put, List.getElem_toArray, List.getElem_cons_zero, List.getElem_cons_succ, List.setIfInBounds_toArray, List.set_cons_zero, List.set_cons_succ])))
        have hS1 := HKEEP.out W4.drew _ HX.out.1 HK.out
        have hS2 := HKEEP.out _ _ HX.out.2.1 hS1
        have hS3 := HKEEP.out _ _ HX.out.2.2.1 hS2
        have hS4 := HKEEP.out _ _ HX.out.2.2.2 hS3
        refine wpS_store_mid _ rfl (by rfl) _ _ _ rfl g3 9 (b8s l.pack).toArray rfl rfl HTP.out HIP.out.2 (all_oneCell_toArray (b8s_one' _)) hS1 ?_
        simp only [Act.put, List.getElem_toArray, List.getElem_cons_zero, List.getElem_cons_succ, List.setIfInBounds_toArray, List.set_cons_zero, List.set_cons_succ]
        (repeat (first | (refine wpS_pass _ rfl (by rfl) ?_; simp only [Act.put, List.getElem_toArray, List.getElem_cons_zero, List.getElem_cons_succ, List.setIfInBounds_toArray, List.set_cons_zero, List.set_cons_succ]) | (refine wpS_take _ ?_ rfl (by rfl) ?_ ?_; rotate_left; (focus (intro w' hS'; (try dsimp only at hS'); (repeat (have hS1 := hS'.1; replace hS' := hS'.2)); go_simp; (try with_reducible rfl); done)); simp only [Act.put, List.getElem_toArray, List.getElem_cons_zero, List.getElem_cons_succ, List.setIfInBounds_toArray, List.set_cons_zero, List.set_cons_succ])))
        refine wpS_store_cell _ rfl (by rfl) _ _ _ rfl g3 7 rfl (.int .i64 l.off) rfl rfl _ (row_cell HY1.out 7) (row_free HY1.out 7) (by kernel_rfl) hS2 ?_
        simp only [Act.put, List.getElem_toArray, List.getElem_cons_zero, List.getElem_cons_succ, List.setIfInBounds_toArray, List.set_cons_zero, List.set_cons_succ]
        (repeat (first | (refine wpS_pass _ rfl (by rfl) ?_; simp only [Act.put, List.getElem_toArray, List.getElem_cons_zero, List.getElem_cons_succ, List.setIfInBounds_toArray, List.set_cons_zero, List.set_cons_succ]) | (refine wpS_take _ ?_ rfl (by rfl) ?_ ?_; rotate_left; (focus (intro w' hS'; (try dsimp only at hS'); (repeat (have hS1 := hS'.1; replace hS' := hS'.2)); go_simp; (try with_reducible rfl); done)); simp only [Act.put, List.getElem_toArray, List.getElem_cons_zero, List.getElem_cons_succ, List.setIfInBounds_toArray, List.set_cons_zero, List.set_cons_succ])))
        refine wpS_store_cell _ rfl (by rfl) _ _ _ rfl g3 8 rfl (.int .i64 l.total) rfl rfl _ (row_cell HY2.out 8) (row_free HY2.out 8) (by kernel_rfl) hS3 ?_
        simp only [Act.put, List.getElem_toArray, List.getElem_cons_zero, List.getElem_cons_succ, List.setIfInBounds_toArray, List.set_cons_zero, List.set_cons_succ]
        (repeat (first | (refine wpS_pass _ rfl (by rfl) ?_; simp only [Act.put, List.getElem_toArray, List.getElem_cons_zero, List.getElem_cons_succ, List.setIfInBounds_toArray, List.set_cons_zero, List.set_cons_succ]) | (refine wpS_take _ ?_ rfl (by rfl) ?_ ?_; rotate_left; (focus (intro w' hS'; (try dsimp only at hS'); (repeat (have hS1 := hS'.1; replace hS' := hS'.2)); go_simp; (try with_reducible rfl); done)); simp only [Act.put, List.getElem_toArray, List.getElem_cons_zero, List.getElem_cons_succ, List.setIfInBounds_toArray, List.set_cons_zero, List.set_cons_succ])))
        refine wpS_store_cell _ rfl (by rfl) _ _ _ rfl g3 41 rfl (.slice p.dA l.data.length p.dc) rfl rfl (.slice none 0 0) ((row_cell HY3.out 41).trans ?_) (row_free HY3.out 41) (by kernel_rfl) hS4 ?_
        · have hq : (b8s l.pack).length = 32 := by rw [b8s_length, HLP.out]
          simp [hq]
        simp only [Act.put, List.getElem_toArray, List.getElem_cons_zero, List.getElem_cons_succ, List.setIfInBounds_toArray, List.set_cons_zero, List.set_cons_succ]
        refine wpS_done ?_
        clear hS1 hS2 hS3 hS4
        generalize (((W4.drew.setCells g3 9 (b8s l.pack)).setCell ⟨g3, 7, none⟩ (.int .i64 l.off)).setCell ⟨g3, 8, none⟩ (.int .i64 l.total)).setCell ⟨g3, 41, none⟩ (.slice p.dA l.data.length p.dc) = W5 at *
        go_wp2_with (first
          | ((with_reducible (refine wpList_load_row_w _ _ rfl _ rfl _ _ _ _ HR5.out Try.underlying28 rfl HIL.out ?_ ?_)); (focus (rfl)))
          | ((with_reducible (refine wpList_store_mid rfl _ _ _ rfl ?_ ?_ ?_ ?_ ?_ ?_ ?_ ?_ ?_)); (exact g2); (exact 0); (exact ((bareL l).cells (bareP l.kind p)).toArray); (exact rfl); (exact rfl); (exact HTH6.out); (exact HIL.out); (exact HOL.out); rw [HW6.out]))
        refine bodyPost_ret (results_row1 rfl _ _ _ _ _ _ _ rfl HR6.out Try.underlying28 rfl HIL.out) rfl ?_
        exact ⟨rfl, by first | exact HB6.out | (rw [← hg1]; exact HB6.out)⟩
      · have n4 : (l.kind == 4) = false := by simpa using e4
        have hr5 : W4.heap[g3]? = some (.cells ((bareL l).cells (bareP l.kind p)).toArray 28 (0, 0)) := by
          rw [HR3.out]
          unfold bareL bareP
          rw [if_neg e2, if_neg e2, if_neg e3, if_neg e3, if_neg e4, if_neg e4]
        obtain ⟨W6, hW6, HTH6, HR6, HB6⟩ := HTAIL.out _ (World.grownBy.refl _ _) hr5
        have HW6 := Lib.hid hW6
        have HR5 := Lib.hid hr5
        clear e2 e3 e4 hr5 hW6 k4 k5 k6 k7 k8 k9 z4 z5 z6 z7 z8 z9
        go_enter Try.func28, Try.ntmps28
        go_wp2_with (first
          | ((with_reducible (refine wpList_store_mid rfl _ _ _ rfl ?_ ?_ ?_ ?_ ?_ ?_ ?_ ?_ ?_)); (exact g3); (exact 0); (exact ((base0 l).cells p0).toArray); (exact rfl); (exact rfl); (exact HTH.out); (exact HIB.out); (exact HOB.out); rw [HW4.out])
          | ((with_reducible (refine wpList_load_row_w _ _ rfl _ rfl _ _ _ _ HR5.out Try.underlying28 rfl HIL.out ?_ ?_)); (focus (rfl)))
          | ((with_reducible (refine wpList_store_mid rfl _ _ _ rfl ?_ ?_ ?_ ?_ ?_ ?_ ?_ ?_ ?_)); (exact g2); (exact 0); (exact ((bareL l).cells (bareP l.kind p)).toArray); (exact rfl); (exact rfl); (exact HTH6.out); (exact HIL.out); (exact HOL.out); rw [HW6.out]))
        refine bodyPost_ret (results_row1 rfl _ _ _ _ _ _ _ rfl HR6.out Try.underlying28 rfl HIL.out) rfl ?_
        exact ⟨rfl, by first | exact HB6.out | (rw [← hg1]; exact HB6.out)⟩
end Go.Proofs.Ytfjfidhhmidflaa
