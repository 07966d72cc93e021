
/- A disk's turn. -/

import Derived.Test.YtpmifpblamjclaaDk3

import Derived.Test.YtpmifpblamjclaaAppend

namespace Go.Proofs.Ytpmifpblamjclaa

set_option linter.unusedVariables false

set_option linter.unusedSimpArgs false

set_option linter.unusedSectionVars false

open Go.RowKit

section

variable {N g : Nat} {w w' : World} {m : DM} {d : DA}

theorem grown_frm {F : Nat → Prop} {k : Nat} (h : w.grownBy w' (some k)) (hk : F k) : Frm F w w' := Frm.of_grown h (fun j hj => .inl (by cases hj; exact hk))
/-- the names as they are are turned -/
theorem DiskIn.nowSet (h : DiskIn N w g m d) (ns : NM) (hg : w.grownBy w' (some d.mb)) (ho : w'.ownsMap Try.prog 9 ptrR d.mb ns.length (namesD d.bs ns)) : DiskIn N w' g { m with now := ns } d := by
  have hb : ∀ b, foot g d b → b ≠ d.mb → w'.heap[b]? = w.heap[b]? := fun b hf hn => hg.block b (h.foot_lt hf) (by simpa using hn)
  have h0 := map_ty h.now h.ty_g
  refine ⟨(hb g (.inl rfl) (Ne.symm h0)).trans h.row, ho, h.sure.kept hg (by simpa using Ne.symm h.ne), own_keep h.turns (fun b hv _ => hb b (.inr (.inr (.inr (.inl hv.symm)))) (Ne.symm (map_ty h.now (h.ty_t hv)))), h.lb, h.lv, ?_, h.nb, h.nv, h.ne, h.base⟩
  intro i b v f h1 h2 h3
  obtain ⟨k1, k2⟩ := h.file i b v f h1 h2 h3
  have hbm := List.mem_of_getElem? h1
  have hvm := List.mem_of_getElem? h2
  exact ⟨(hb b (.inr (.inr (.inr (.inr (.inl hbm))))) (Ne.symm (map_ty h.now (h.ty_b hbm)))).trans k1, own_keep k2 (fun c hc _ => hb c (.inr (.inr (.inr (.inr (.inr ⟨v, hvm, hc.symm⟩))))) (Ne.symm (map_ty h.now (h.ty_v hvm hc))))⟩
/-- the sure names are turned -/
theorem DiskIn.sureSet (h : DiskIn N w g m d) (ns : NM) (hg : w.grownBy w' (some d.sb)) (ho : w'.ownsMap Try.prog 9 ptrR d.sb ns.length (namesD d.bs ns)) : DiskIn N w' g { m with sure := ns } d := by
  have hb : ∀ b, foot g d b → b ≠ d.sb → w'.heap[b]? = w.heap[b]? := fun b hf hn => hg.block b (h.foot_lt hf) (by simpa using hn)
  have h0 := map_ty h.sure h.ty_g
  refine ⟨(hb g (.inl rfl) (Ne.symm h0)).trans h.row, h.now.kept hg (by simpa using h.ne), ho, own_keep h.turns (fun b hv _ => hb b (.inr (.inr (.inr (.inl hv.symm)))) (Ne.symm (map_ty h.sure (h.ty_t hv)))), h.lb, h.lv, ?_, h.nb, h.nv, h.ne, h.base⟩
  intro i b v f h1 h2 h3
  obtain ⟨k1, k2⟩ := h.file i b v f h1 h2 h3
  have hbm := List.mem_of_getElem? h1
  have hvm := List.mem_of_getElem? h2
  exact ⟨(hb b (.inr (.inr (.inr (.inr (.inl hbm))))) (Ne.symm (map_ty h.sure (h.ty_b hbm)))).trans k1, own_keep k2 (fun c hc _ => hb c (.inr (.inr (.inr (.inr (.inr ⟨v, hvm, hc.symm⟩))))) (Ne.symm (map_ty h.sure (h.ty_v hvm hc))))⟩
/-- a turn more -/
theorem DiskIn.turnsSet (h : DiskIn N w g m d) (ts : List TM) (tv' : Value) (hg : w.grownBy w' d.tv.ownBlock) (ho : w'.ownsRow N 77 3 tv' ts.length (turnsC d.bs ts)) (hv : tv'.ownBlock = d.tv.ownBlock ∨ tv'.ownBlock = some w.heap.size) :
    DiskIn N (w'.setCell ⟨g, 2, none⟩ tv') g { m with turns := ts } { d with tv := tv' } ∧ Frm (foot g d) w (w'.setCell ⟨g, 2, none⟩ tv') ∧ ∀ b, foot g { d with tv := tv' } b → foot g d b ∨ w.heap.size ≤ b := by
  have hb : ∀ b, b < w.heap.size → some b ≠ d.tv.ownBlock → w'.heap[b]? = w.heap[b]? := fun b hf hn => hg.block b hf hn
  have ht : ∀ b, tyAt w b 77 ∨ some b ≠ d.tv.ownBlock := fun b => by
    by_cases e : some b = d.tv.ownBlock
    · exact .inl (h.ty_t e.symm)
    · exact .inr e
  have gb : w'.heap[g]? = w.heap[g]? := hb g (h.foot_lt (.inl rfl)) (fun e => tyAt_ne (h.ty_t e.symm) h.ty_g (by decide) rfl)
  have hG : DiskIn N w' g { m with turns := [] } { d with tv := .slice none 0 0 } ∨ True := .inr trivial
  have key : ∀ b, foot g d b → some b ≠ d.tv.ownBlock → w'.heap[b]? = w.heap[b]? := fun b hf hn => hb b (h.foot_lt hf) hn
  have mk : ∀ {c n : Nat} {D : DataW Unit}, foot g d c → w.ownsMap Try.prog 9 ptrR c n D → w'.ownsMap Try.prog 9 ptrR c n D := fun hc hm => hm.kept hg (fun e => map_ty hm (h.ty_t e.symm) rfl)
  refine ⟨?_, ⟨hg.os, hg.tape, hg.output, by simp [World.setCell]; exact hg.size, fun i hi hF => ?_⟩, ?_⟩
  · have hrow : (w'.setCell ⟨g, 2, none⟩ tv').heap[g]? = some (.cells (rowD { m with turns := ts } { d with tv := tv' }) 69 (0, 0)) := by
      have := gb.trans h.row
      simp only [World.setCell, Array.getElem?_modify, this, if_true, Option.map_some]
      rfl
    have hk : ∀ b, b ≠ g → (w'.setCell ⟨g, 2, none⟩ tv').heap[b]? = w'.heap[b]? := fun b hn => Below.heap_setCell _ _ _ _ hn
    have mk2 : ∀ {c n : Nat} {D : DataW Unit}, foot g d c → w.ownsMap Try.prog 9 ptrR c n D → (w'.setCell ⟨g, 2, none⟩ tv').ownsMap Try.prog 9 ptrR c n D := fun hc hm => by
      have h1 := mk hc hm
      have h2 := map_ty hm h.ty_g
      obtain ⟨es, clock, k1, k2⟩ := h1
      exact ⟨es, clock, (hk _ h2).trans k1, k2⟩
    refine ⟨hrow, mk2 (.inr (.inl rfl)) h.now, mk2 (.inr (.inr (.inl rfl))) h.sure, own_keep ho (fun b hv' _ => hk b ?_), h.lb, h.lv, ?_, h.nb, h.nv, h.ne, h.base⟩
    · exact tyAt_ne (own_ty ho hv') ⟨_, _, gb.trans h.row⟩ (by decide)
    · intro i b v f h1 h2 h3
      obtain ⟨k1, k2⟩ := h.file i b v f h1 h2 h3
      have hbm := List.mem_of_getElem? h1
      have hvm := List.mem_of_getElem? h2
      refine ⟨(hk b (tyAt_ne (h.ty_b hbm) h.ty_g (by decide))).trans ((key b (.inr (.inr (.inr (.inr (.inl hbm))))) (fun e => tyAt_ne (h.ty_b hbm) (h.ty_t e.symm) (by decide) rfl)).trans k1), own_keep k2 (fun c hc _ => ?_)⟩
      exact (hk c (tyAt_ne (h.ty_v hvm hc) h.ty_g (by decide))).trans (key c (.inr (.inr (.inr (.inr (.inr ⟨v, hvm, hc.symm⟩))))) (fun e => tyAt_ne (h.ty_v hvm hc) (h.ty_t e.symm) (by decide) rfl))
  · have hn : i ≠ g := fun e => hF (.inl e)
    rw [Below.heap_setCell _ _ _ _ hn]
    exact hb i hi (fun e => hF (.inr (.inr (.inr (.inl e)))))
  · intro b hf
    rcases hf with h1 | h1 | h1 | h1 | h1
    · exact .inl (.inl h1)
    · exact .inl (.inr (.inl h1))
    · exact .inl (.inr (.inr (.inl h1)))
    · rcases hv with e | e
      · exact .inl (.inr (.inr (.inr (.inl (by rw [← e]; exact h1)))))
      · right
        have : some b = some w.heap.size := h1.trans e
        cases this
        exact Nat.le_refl _
    · exact .inl (.inr (.inr (.inr (.inr h1))))
end

theorem step_cases (m : DM) : (stepM m).2 = 0 ∨ (stepM m).2 = 50 := by
  unfold stepM
  split
  · split
    · exact .inr rfl
    · exact .inl rfl
  · exact .inl rfl
theorem step_same (m : DM) : (stepM m).1.now = m.now ∧ (stepM m).1.sure = m.sure ∧ (stepM m).1.turns = m.turns ∧ (stepM m).1.files = m.files ∧ (stepM m).1.most = m.most := by
  unfold stepM
  split
  · split <;> exact ⟨rfl, rfl, rfl, rfl, rfl⟩
  · exact ⟨rfl, rfl, rfl, rfl, rfl⟩
theorem info_turn : (Try.prog.info? 77).map (fun i => (i.zero, i.size, i.bytes)) = some (some (.agg #[.string ⟨#[]⟩, .string ⟨#[]⟩, .pointer none]), 3, 40) := by kernel_rfl
theorem info_turn3 {a b c : Value} : (Try.prog.info? 77).map (·.size) = some ([a, b, c] : List Value).length := by kernel_rfl
theorem turnC_one (S T : ByteArray) (p : Option Addr) : ∀ u ∈ ([.string S, .string T, .pointer p] : List Value), u.oneCell' = true := by
  intro u hu
  simp at hu
  rcases hu with rfl | rfl | rfl <;> rfl

set_option maxRecDepth 100000 in
set_option maxHeartbeats 4000000 in
theorem turn_any (N g : Nat) (m : DM) (d : DA) (S T : ByteArray) (p : Option Addr) (f : Nat) (w : World) (h : DiskIn N w g m d) (hf : m.fuse ≤ 9223372036854775807) (hn : m.now.length < 1000000000) (ht : m.turns.length ≤ 1000000000) (hS : S.size ≤ maxLen) (hT : T.size ≤ maxLen)
    (hpp : (stepM m).2 = 0 → (T.data.toList ≠ [] → p = some ⟨d.bs.getD f 0, 0, none⟩) ∧ (T.data.toList = [] → p = none)) :
    Calls Try.prog 32 #[.pointer (some ⟨g, 0, none⟩), .agg #[.string S, .string T, .pointer p]] w fun e w' => e = .returned (.int .i64 (turnM m ⟨S.data.toList, T.data.toList, f⟩).2) ∧ ∃ d', Aft N g w w' (turnM m ⟨S.data.toList, T.data.toList, f⟩).1 d d' ∧ d'.bs = d.bs ∧ d'.vs = d.vs := by
  obtain ⟨tb, htb⟩ : ∃ tb, w.heap.size = tb := ⟨_, rfl⟩
  obtain ⟨W1, hW1⟩ : ∃ W, w.alloc (.cells #[.string S, .string T, .pointer p] 77) = W := ⟨_, rfl⟩
  obtain ⟨r1, b1, s1⟩ := new_row hW1
  rw [htb] at r1 s1
  have A1 : Hid (Aft N g w W1 m d d) := Lib.hid (Aft.below h b1)
  have HN0 := Lib.hid h.size
  have HFT : Hid (∀ b, foot g d b → b < tb) := Lib.hid (fun b hb => by have := h.foot_lt hb; omega)
  have HST := Lib.hid (step_any N g m d hf W1 A1.out.disk)
  have HR1 := Lib.hid r1
  have hbt : 77 ≠ 69 := by decide
  obtain ⟨e1, m1, hs1, hs2⟩ : ∃ e1 m1, (stepM m).2 = e1 ∧ (stepM m).1 = m1 := ⟨_, _, rfl, rfl⟩
  have hsc := step_cases m
  obtain ⟨n1, n2, n3, n4, n5⟩ := step_same m
  rw [hs2] at n1 n2 n3 n4 n5
  have N1 := Lib.hid n1
  have N3 := Lib.hid n3
  clear n1 n2 n3 n4 n5
  rw [hs1, hs2] at HST
  rw [hs1] at hsc
  have HTB := Lib.hid htb
  have HS1 := Lib.hid s1
  have HEQ : Hid (turnM m ⟨S.data.toList, T.data.toList, f⟩ = if e1 = 0 then ({ m1 with now := doN m1.now ⟨S.data.toList, T.data.toList, f⟩, turns := m1.turns ++ [⟨S.data.toList, T.data.toList, f⟩] }, 0) else (m1, e1)) := Lib.hid (by
    unfold turnM
    dsimp only
    rw [hs1, hs2]
    split
    · rfl
    · rw [← hs1, ← hs2])
  rw [hs1] at hpp
  clear r1 b1 s1 h hs1 hs2 htb
  rcases hsc with rfl | rfl
  · rw [HEQ.out, if_pos rfl]
    obtain ⟨hp, hp0⟩ := hpp rfl
    clear hpp
    have HTC : Hid (turnsC d.bs ([⟨S.data.toList, T.data.toList, f⟩] : List TM) = [.string S, .string T, .pointer p]) := Lib.hid (by
      show turnC d.bs _ ++ [] = _
      rw [List.append_nil]
      unfold turnC strV
      have e1 : (⟨S.data.toList.toArray⟩ : ByteArray) = S := ba_ext (by simp)
      have e2 : (⟨T.data.toList.toArray⟩ : ByteArray) = T := ba_ext (by simp)
      dsimp only
      rw [e1, e2]
      split
      · rename_i e; rw [hp0 e]
      · rename_i e; rw [hp e]; rfl)
    go_enter Try.func32, Try.ntmps32
    go_wp2_with fail
    rw [HTB.out]
    refine HST.out.mono ?_
    rintro e w2 ⟨rfl, ha2⟩
    have A2 := Lib.hid ha2
    have HR2 : Hid (w2.heap[tb]? = some (.cells #[.string S, .string T, .pointer p] 77 (0, 0))) := Lib.hid ((ha2.frm.block tb (by have := HS1.out; omega) (fun e => by have := HFT.out tb e; omega)).trans HR1.out)
    have HL2 : Hid (tb < w2.heap.size) := Lib.hid (Array.getElem?_eq_some_iff.1 HR2.out).1
    clear ha2
    go_wp2_with fail
    have hc0 : w2.cell? ⟨g, 0, none⟩ = some (.map (some d.mb)) := A2.out.disk.cells.1
    refine wp_region_sched (fun w' => w'.cell? ⟨g, 0, none⟩ = some (.map (some d.mb)) ∧ w'.rangeAt tb 0 [.string S, .string T, .pointer p]) [(true, 0), (true, 1), (true, 2), (true, 3), (true, 4), (false, 5)] (by kernel_rfl) (by kernel_rfl) rfl (by kernel_rfl) ⟨hc0, range_of_row (cs := [.string S, .string T, .pointer p]) HR2.out⟩ ?_
    (first | (refine wpS_pass _ rfl (by rfl) ?_; simp only [Act.put, List.getElem_toArray, List.getElem_cons_zero, List.getElem_cons_succ, List.setIfInBounds_toArray, List.set_cons_zero, List.set_cons_succ]) | (refine wpS_take _ ?_ rfl (by rfl) ?_ ?_; rotate_left; (focus (intro w' hS'; (try dsimp only at hS'); (repeat (have hS1 := hS'.1; replace hS' := hS'.2)); go_simp; (try with_reducible rfl); done)); simp only [Act.put, List.getElem_toArray, List.getElem_cons_zero, List.getElem_cons_succ, List.setIfInBounds_toArray, List.set_cons_zero, List.set_cons_succ]))
    (first | (refine wpS_pass _ rfl (by rfl) ?_; simp only [Act.put, List.getElem_toArray, List.getElem_cons_zero, List.getElem_cons_succ, List.setIfInBounds_toArray, List.set_cons_zero, List.set_cons_succ]) | (refine wpS_take _ ?_ rfl (by rfl) ?_ ?_; rotate_left; (focus (intro w' hS'; (try dsimp only at hS'); (repeat (have hS1 := hS'.1; replace hS' := hS'.2)); go_simp; (try with_reducible rfl); done)); simp only [Act.put, List.getElem_toArray, List.getElem_cons_zero, List.getElem_cons_succ, List.setIfInBounds_toArray, List.set_cons_zero, List.set_cons_succ]))
    (first | (refine wpS_pass _ rfl (by rfl) ?_; simp only [Act.put, List.getElem_toArray, List.getElem_cons_zero, List.getElem_cons_succ, List.setIfInBounds_toArray, List.set_cons_zero, List.set_cons_succ]) | (refine wpS_take _ ?_ rfl (by rfl) ?_ ?_; rotate_left; (focus (intro w' hS'; (try dsimp only at hS'); (repeat (have hS1 := hS'.1; replace hS' := hS'.2)); go_simp; (try with_reducible rfl); done)); simp only [Act.put, List.getElem_toArray, List.getElem_cons_zero, List.getElem_cons_succ, List.setIfInBounds_toArray, List.set_cons_zero, List.set_cons_succ]))
    (first | (refine wpS_pass _ rfl (by rfl) ?_; simp only [Act.put, List.getElem_toArray, List.getElem_cons_zero, List.getElem_cons_succ, List.setIfInBounds_toArray, List.set_cons_zero, List.set_cons_succ]) | (refine wpS_take _ ?_ rfl (by rfl) ?_ ?_; rotate_left; (focus (intro w' hS'; (try dsimp only at hS'); (repeat (have hS1 := hS'.1; replace hS' := hS'.2)); go_simp; (try with_reducible rfl); done)); simp only [Act.put, List.getElem_toArray, List.getElem_cons_zero, List.getElem_cons_succ, List.setIfInBounds_toArray, List.set_cons_zero, List.set_cons_succ]))
    refine wpS_load _ rfl (by rfl) 77 _ rfl tb 0 rfl [.string S, .string T, .pointer p] _ (fun w' hS => hS.2) Try.underlying77 rfl info_turn3 ?_
    simp only [Act.put, List.getElem_toArray, List.getElem_cons_zero, List.getElem_cons_succ, List.setIfInBounds_toArray, List.set_cons_zero, List.set_cons_succ]
    refine wpS_do _ rfl (by rfl) (fun K hK => ?_)
    go_simp
    have hO2 := A2.out.disk.now
    refine (do_any d.mb m1.now.length d.bs m1.now S T p f w2.drew hO2 (by rw [N1.out]; unfold maxLen; omega) hS hT hp).mono ?_
    rintro e w3 ⟨rfl, ho3, hg3⟩
    dsimp only
    have hg3' : w2.grownBy w3 (some d.mb) := ⟨hg3.os, hg3.tape, hg3.output, hg3.size, hg3.block⟩
    have D3 : Hid (DiskIn N w3 g { m1 with now := doN m1.now ⟨S.data.toList, T.data.toList, f⟩ } d) := Lib.hid (A2.out.disk.nowSet _ hg3' ho3)
    have F3 : Hid (Frm (foot g d) w2 w3) := Lib.hid (grown_frm hg3' (.inr (.inl rfl)))
    have HR3 : Hid (w3.heap[tb]? = some (.cells #[.string S, .string T, .pointer p] 77 (0, 0))) := Lib.hid ((F3.out.block tb HL2.out (fun e => by have := HFT.out tb e; omega)).trans HR2.out)
    have HL3 : Hid (tb < w3.heap.size) := Lib.hid (Array.getElem?_eq_some_iff.1 HR3.out).1
    refine hK.out _ _ ⟨D3.out.cells.1, range_of_row (cs := [.string S, .string T, .pointer p]) HR3.out⟩ (fun hS' => ?_)
    clear hS' hK ho3 hg3 hg3' hO2 hc0
    refine wpS_done ?_
    go_wp2_with fail
    have hc2 : w3.cell? ⟨g, 2, none⟩ = some d.tv := D3.out.cells.2.2.1
    have ho3 := D3.out.turns
    obtain ⟨A3, c3, hv3, _⟩ := own_slice ho3
    rw [hv3] at hc2
    have HV3 := Lib.hid hv3
    have HO3 : Hid (w3.ownsRow N 77 3 (.slice A3 m1.turns.length c3) m1.turns.length (turnsC d.bs m1.turns)) := Lib.hid (by rw [← hv3]; exact ho3)
    obtain ⟨q, hq⟩ : ∃ q, m1.turns.length = q := ⟨_, rfl⟩
    have hql : q ≤ 1000000000 := by rw [← hq, N3.out]; exact ht
    rw [hq] at hc2 HO3 HV3
    have HQ := Lib.hid hq
    clear hv3 ho3 hq
    have HC2 := Lib.hid hc2
    refine wp_region_sched2 (fun w' => w'.rangeAt tb 0 [.string S, .string T, .pointer p]) [(true, 0), (true, 1), (true, 2), (true, 3), (true, 5)] 4 6 [(false, 7), (true, 8), (true, 9), (false, 10)] (by kernel_rfl) (by kernel_rfl) rfl (by kernel_rfl) (range_of_row (cs := [.string S, .string T, .pointer p]) HR3.out) ?_
    (repeat ((refine wpS2_take _ ?_ rfl (by rfl) ?_ ?_; rotate_left; (focus (intro w' hS'; (try dsimp only at hS'); (repeat (have hS1 := hS'.1; replace hS' := hS'.2)); go_simp; (try with_reducible rfl); done)); simp only [Act.put, List.getElem_toArray, List.getElem_cons_zero, List.getElem_cons_succ, List.setIfInBounds_toArray, List.set_cons_zero, List.set_cons_succ])))
    refine wpS2_load _ rfl (by rfl) 77 _ rfl tb 0 rfl [.string S, .string T, .pointer p] _ (fun w' hS => hS) Try.underlying77 rfl info_turn3 ?_
    simp only [Act.put, List.getElem_toArray, List.getElem_cons_zero, List.getElem_cons_succ, List.setIfInBounds_toArray, List.set_cons_zero, List.set_cons_succ]
    refine wpS2_both ?_ ?_
    · refine doStep_do _ rfl (by rfl) (fun K hK => ?_)
      go_simp
      refine hK.out _ _ (range_of_row (cs := [.string S, .string T, .pointer p]) HR3.out) (fun hS' => ?_)
      clear hS' hK
      refine doStep_do _ rfl (by rfl) (fun K hK => ?_)
      go_simp
      refine hK.out _ _ (range_of_row (cs := [.string S, .string T, .pointer p]) ((Below.heap_alloc _ _ _ HL3.out).trans HR3.out)) (fun hS' => ?_)
      clear hS' hK hc2
      have HW5 : Hid (Below w3.heap.size w3 (w3.alloc (.cells #[.string S, .string T, .pointer p] 77)).drew) := Lib.hid ((Below.refl _ _).alloc (Nat.le_refl _) _).drew
      have hrd : Rd (w3.alloc (.cells #[.string S, .string T, .pointer p] 77)).drew (some ⟨w3.heap.size, 0, none⟩) [.string S, .string T, .pointer p] := (Rd.new w3 [.string S, .string T, .pointer p] 77).drew
      have HRD := Lib.hid hrd
      clear hrd
      generalize (w3.alloc (.cells #[.string S, .string T, .pointer p] 77)).drew = w5 at *
      have HO5 := Lib.hid (own_below HO3.out HW5.out)
      have D5 := Lib.hid (D3.out.below HW5.out)
      have HR5 : Hid (w5.heap[tb]? = some (.cells #[.string S, .string T, .pointer p] 77 (0, 0))) := Lib.hid ((HW5.out.block tb HL3.out).trans HR3.out)
      refine wpS_do _ rfl (by rfl) (fun K hK => ?_)
      refine wp_append_rd _ _ _ 67 rfl N 77 _ 3 40 Try.underlying67 info_turn rfl (by decide) (.slice A3 q c3) q (turnsC d.bs m1.turns) rfl HO5.out _ 1 1 [.string S, .string T, .pointer p] rfl rfl HRD.out (turnC_one S T p) (by unfold maxLen; omega) (by omega) D5.out.size ?_
      intro v6 w6 ho6 hg6 hvb6
      obtain ⟨A6, c6, e6, _⟩ := own_slice ho6
      subst e6
      have HG6 := Lib.hid hg6
      have HVB := Lib.hid hvb6
      have HO6 : Hid (w6.ownsRow N 77 3 (.slice A6 (q + 1) c6) (m1.turns ++ ([⟨S.data.toList, T.data.toList, f⟩] : List TM)).length (turnsC d.bs (m1.turns ++ ([⟨S.data.toList, T.data.toList, f⟩] : List TM)))) := Lib.hid (by
        rw [List.length_append, HQ.out, turnsC_app]
        have e : turnsC d.bs ([⟨S.data.toList, T.data.toList, f⟩] : List TM) = [.string S, .string T, .pointer p] := HTC.out
        rw [e]
        exact ho6)
      have HTS := Lib.hid (D5.out.turnsSet (m1.turns ++ ([⟨S.data.toList, T.data.toList, f⟩] : List TM)) (.slice A6 (q + 1) c6) (by rw [HV3.out]; exact HG6.out) HO6.out (by rw [HV3.out]; exact HVB.out))
      have HR6 : Hid (w6.heap[tb]? = some (.cells #[.string S, .string T, .pointer p] 77 (0, 0))) := Lib.hid ((HG6.out.block tb (Array.getElem?_eq_some_iff.1 HR5.out).1 (fun e => by have := HFT.out tb (.inr (.inr (.inr (.inl (by rw [HV3.out]; exact e))))); omega)).trans HR5.out)
      refine hK.out _ _ (range_of_row (cs := [.string S, .string T, .pointer p]) HR6.out) (fun hS' => ?_)
      clear hS' hK ho6 hg6 hvb6
      simp only [Act.put, List.getElem_toArray, List.getElem_cons_zero, List.getElem_cons_succ, List.setIfInBounds_toArray, List.set_cons_zero, List.set_cons_succ]
      (first | (refine wpS_pass _ rfl (by rfl) ?_; simp only [Act.put, List.getElem_toArray, List.getElem_cons_zero, List.getElem_cons_succ, List.setIfInBounds_toArray, List.set_cons_zero, List.set_cons_succ]) | (refine wpS_take _ ?_ rfl (by rfl) ?_ ?_; rotate_left; (focus (intro w' hS'; (try dsimp only at hS'); (repeat (have hS1 := hS'.1; replace hS' := hS'.2)); go_simp; (try with_reducible rfl); done)); simp only [Act.put, List.getElem_toArray, List.getElem_cons_zero, List.getElem_cons_succ, List.setIfInBounds_toArray, List.set_cons_zero, List.set_cons_succ]))
      (first | (refine wpS_pass _ rfl (by rfl) ?_; simp only [Act.put, List.getElem_toArray, List.getElem_cons_zero, List.getElem_cons_succ, List.setIfInBounds_toArray, List.set_cons_zero, List.set_cons_succ]) | (refine wpS_take _ ?_ rfl (by rfl) ?_ ?_; rotate_left; (focus (intro w' hS'; (try dsimp only at hS'); (repeat (have hS1 := hS'.1; replace hS' := hS'.2)); go_simp; (try with_reducible rfl); done)); simp only [Act.put, List.getElem_toArray, List.getElem_cons_zero, List.getElem_cons_succ, List.setIfInBounds_toArray, List.set_cons_zero, List.set_cons_succ]))
      have hr6 : w6.heap[g]? = some (.cells (rowD { m1 with now := doN m1.now ⟨S.data.toList, T.data.toList, f⟩ } d) 69 (0, 0)) := (HG6.out.block g (D5.out.foot_lt (.inl rfl)) (fun e => tyAt_ne (D5.out.ty_t (by rw [HV3.out]; exact e.symm)) D5.out.ty_g (by decide) rfl)).trans D5.out.row
      refine wpS_store_cell _ rfl (by rfl) 67 _ _ rfl g 2 rfl (.slice A6 (q + 1) c6) rfl rfl (.slice A3 q c3) ?_ ?_ (by kernel_rfl) ?_ ?_
      · rw [row_cell hr6, ← HV3.out]; rfl
      · simp [World.frozen?, hr6]
      · intro j u hj
        have h1 := range_of_row (cs := [.string S, .string T, .pointer p]) HR6.out j u hj
        rw [show ((w6.setCell ⟨g, 2, none⟩ (.slice A6 (q + 1) c6)).cell? ⟨tb, 0 + j, none⟩) = w6.cell? ⟨tb, 0 + j, none⟩ from World.cell?_of_block (a := ⟨tb, 0 + j, none⟩) (Below.heap_setCell _ _ _ _ (fun e => by have := HFT.out g (.inl rfl); have : tb = g := e; omega))]
        exact h1
      simp only [Act.put, List.getElem_toArray, List.getElem_cons_zero, List.getElem_cons_succ, List.setIfInBounds_toArray, List.set_cons_zero, List.set_cons_succ]
      refine wpS_done ?_
      go_wp2_with fail
      go_ret
      obtain ⟨t1, t2, t3⟩ := HTS.out
      have A5 : Aft N g w3 w5 { m1 with now := doN m1.now ⟨S.data.toList, T.data.toList, f⟩ } d d := Aft.below D3.out HW5.out
      exact ⟨rfl, _, ((A1.out.trans A2.out).trans (Aft.mk D3.out F3.out (fun b hb => .inl hb))).trans (A5.trans (Aft.mk t1 t2 t3)), rfl, rfl⟩
    · refine doStep_do _ rfl (by rfl) (fun K hK => ?_)
      go_simp
      refine hK.out _ _ (range_of_row (cs := [.string S, .string T, .pointer p]) ((Below.heap_alloc _ _ _ HL3.out).trans HR3.out)) (fun hS' => ?_)
      clear hS' hK
      have hc5 : (w3.alloc (.cells #[.string S, .string T, .pointer p] 77)).cell? ⟨g, 2, none⟩ = some (.slice A3 q c3) := (World.cell?_of_block (a := ⟨g, 2, none⟩) (Below.heap_alloc _ _ _ (World.block_lt_of_cell? _ _ hc2))).trans hc2
      refine doStep_do _ rfl (by rfl) (fun K hK => ?_)
      go_simp
      refine hK.out _ _ (range_of_row (cs := [.string S, .string T, .pointer p]) ((Below.heap_alloc _ _ _ HL3.out).trans HR3.out)) (fun hS' => ?_)
      clear hS' hK hc2 hc5
      have HW5 : Hid (Below w3.heap.size w3 (w3.alloc (.cells #[.string S, .string T, .pointer p] 77)).drew) := Lib.hid ((Below.refl _ _).alloc (Nat.le_refl _) _).drew
      have hrd : Rd (w3.alloc (.cells #[.string S, .string T, .pointer p] 77)).drew (some ⟨w3.heap.size, 0, none⟩) [.string S, .string T, .pointer p] := (Rd.new w3 [.string S, .string T, .pointer p] 77).drew
      have HRD := Lib.hid hrd
      clear hrd
      generalize (w3.alloc (.cells #[.string S, .string T, .pointer p] 77)).drew = w5 at *
      have HO5 := Lib.hid (own_below HO3.out HW5.out)
      have D5 := Lib.hid (D3.out.below HW5.out)
      have HR5 : Hid (w5.heap[tb]? = some (.cells #[.string S, .string T, .pointer p] 77 (0, 0))) := Lib.hid ((HW5.out.block tb HL3.out).trans HR3.out)
      refine wpS_do _ rfl (by rfl) (fun K hK => ?_)
      refine wp_append_rd _ _ _ 67 rfl N 77 _ 3 40 Try.underlying67 info_turn rfl (by decide) (.slice A3 q c3) q (turnsC d.bs m1.turns) rfl HO5.out _ 1 1 [.string S, .string T, .pointer p] rfl rfl HRD.out (turnC_one S T p) (by unfold maxLen; omega) (by omega) D5.out.size ?_
      intro v6 w6 ho6 hg6 hvb6
      obtain ⟨A6, c6, e6, _⟩ := own_slice ho6
      subst e6
      have HG6 := Lib.hid hg6
      have HVB := Lib.hid hvb6
      have HO6 : Hid (w6.ownsRow N 77 3 (.slice A6 (q + 1) c6) (m1.turns ++ ([⟨S.data.toList, T.data.toList, f⟩] : List TM)).length (turnsC d.bs (m1.turns ++ ([⟨S.data.toList, T.data.toList, f⟩] : List TM)))) := Lib.hid (by
        rw [List.length_append, HQ.out, turnsC_app]
        have e : turnsC d.bs ([⟨S.data.toList, T.data.toList, f⟩] : List TM) = [.string S, .string T, .pointer p] := HTC.out
        rw [e]
        exact ho6)
      have HTS := Lib.hid (D5.out.turnsSet (m1.turns ++ ([⟨S.data.toList, T.data.toList, f⟩] : List TM)) (.slice A6 (q + 1) c6) (by rw [HV3.out]; exact HG6.out) HO6.out (by rw [HV3.out]; exact HVB.out))
      have HR6 : Hid (w6.heap[tb]? = some (.cells #[.string S, .string T, .pointer p] 77 (0, 0))) := Lib.hid ((HG6.out.block tb (Array.getElem?_eq_some_iff.1 HR5.out).1 (fun e => by have := HFT.out tb (.inr (.inr (.inr (.inl (by rw [HV3.out]; exact e))))); omega)).trans HR5.out)
      refine hK.out _ _ (range_of_row (cs := [.string S, .string T, .pointer p]) HR6.out) (fun hS' => ?_)
      clear hS' hK ho6 hg6 hvb6
      simp only [Act.put, List.getElem_toArray, List.getElem_cons_zero, List.getElem_cons_succ, List.setIfInBounds_toArray, List.set_cons_zero, List.set_cons_succ]
      (first | (refine wpS_pass _ rfl (by rfl) ?_; simp only [Act.put, List.getElem_toArray, List.getElem_cons_zero, List.getElem_cons_succ, List.setIfInBounds_toArray, List.set_cons_zero, List.set_cons_succ]) | (refine wpS_take _ ?_ rfl (by rfl) ?_ ?_; rotate_left; (focus (intro w' hS'; (try dsimp only at hS'); (repeat (have hS1 := hS'.1; replace hS' := hS'.2)); go_simp; (try with_reducible rfl); done)); simp only [Act.put, List.getElem_toArray, List.getElem_cons_zero, List.getElem_cons_succ, List.setIfInBounds_toArray, List.set_cons_zero, List.set_cons_succ]))
      (first | (refine wpS_pass _ rfl (by rfl) ?_; simp only [Act.put, List.getElem_toArray, List.getElem_cons_zero, List.getElem_cons_succ, List.setIfInBounds_toArray, List.set_cons_zero, List.set_cons_succ]) | (refine wpS_take _ ?_ rfl (by rfl) ?_ ?_; rotate_left; (focus (intro w' hS'; (try dsimp only at hS'); (repeat (have hS1 := hS'.1; replace hS' := hS'.2)); go_simp; (try with_reducible rfl); done)); simp only [Act.put, List.getElem_toArray, List.getElem_cons_zero, List.getElem_cons_succ, List.setIfInBounds_toArray, List.set_cons_zero, List.set_cons_succ]))
      have hr6 : w6.heap[g]? = some (.cells (rowD { m1 with now := doN m1.now ⟨S.data.toList, T.data.toList, f⟩ } d) 69 (0, 0)) := (HG6.out.block g (D5.out.foot_lt (.inl rfl)) (fun e => tyAt_ne (D5.out.ty_t (by rw [HV3.out]; exact e.symm)) D5.out.ty_g (by decide) rfl)).trans D5.out.row
      refine wpS_store_cell _ rfl (by rfl) 67 _ _ rfl g 2 rfl (.slice A6 (q + 1) c6) rfl rfl (.slice A3 q c3) ?_ ?_ (by kernel_rfl) ?_ ?_
      · rw [row_cell hr6, ← HV3.out]; rfl
      · simp [World.frozen?, hr6]
      · intro j u hj
        have h1 := range_of_row (cs := [.string S, .string T, .pointer p]) HR6.out j u hj
        rw [show ((w6.setCell ⟨g, 2, none⟩ (.slice A6 (q + 1) c6)).cell? ⟨tb, 0 + j, none⟩) = w6.cell? ⟨tb, 0 + j, none⟩ from World.cell?_of_block (a := ⟨tb, 0 + j, none⟩) (Below.heap_setCell _ _ _ _ (fun e => by have := HFT.out g (.inl rfl); have : tb = g := e; omega))]
        exact h1
      simp only [Act.put, List.getElem_toArray, List.getElem_cons_zero, List.getElem_cons_succ, List.setIfInBounds_toArray, List.set_cons_zero, List.set_cons_succ]
      refine wpS_done ?_
      go_wp2_with fail
      go_ret
      obtain ⟨t1, t2, t3⟩ := HTS.out
      have A5 : Aft N g w3 w5 { m1 with now := doN m1.now ⟨S.data.toList, T.data.toList, f⟩ } d d := Aft.below D3.out HW5.out
      exact ⟨rfl, _, ((A1.out.trans A2.out).trans (Aft.mk D3.out F3.out (fun b hb => .inl hb))).trans (A5.trans (Aft.mk t1 t2 t3)), rfl, rfl⟩
  · rw [HEQ.out, if_neg (by decide)]
    clear hpp
    go_enter Try.func32, Try.ntmps32
    go_wp2_with fail
    refine HST.out.mono ?_
    rintro e w2 ⟨rfl, ha2⟩
    have A2 := Lib.hid ha2
    clear ha2
    go_wp2_with fail
    go_ret
    exact ⟨rfl, d, A1.out.trans A2.out, rfl, rfl⟩
end Go.Proofs.Ytpmifpblamjclaa
