
/- A disk's calls: Rename, Remove, Flush. -/

import Derived.Test.YtpmifpblamjclaaDk5

namespace Go.Proofs.Ytpmifpblamjclaa

set_option linter.unusedVariables false

set_option linter.unusedSimpArgs false

set_option linter.unusedSectionVars false

open Go.RowKit

theorem find_cases (m : DM) (s : List UInt8) : (∃ f, findM m s = (some f, 0) ∧ m.down = false ∧ findN m.now s = some f) ∨ (∃ e, findM m s = (none, e) ∧ (e = 50 ∨ e = 4)) := by
  unfold findM
  cases hd : m.down with
  | true => exact .inr ⟨50, rfl, .inl rfl⟩
  | false =>
    cases hf : findN m.now s with
    | none => exact .inr ⟨4, rfl, .inr rfl⟩
    | some f => exact .inl ⟨f, rfl, rfl, rfl⟩
theorem find_mem {ns : NM} {s : List UInt8} {f : Nat} (h : findN ns s = some f) : (s, f) ∈ ns := by
  unfold findN at h
  cases hf : ns.find? (fun p => p.1 == s) with
  | none => rw [hf] at h; cases h
  | some p =>
    rw [hf] at h
    have h1 := List.mem_of_find?_eq_some hf
    have h2 := List.find?_some hf
    simp at h h2
    obtain ⟨a, b⟩ := p
    dsimp only at h h2
    rw [h2, h] at h1
    exact h1

set_option maxRecDepth 100000 in
set_option maxHeartbeats 4000000 in
theorem rename_any (N g : Nat) (m : DM) (d : DA) (S T : ByteArray) (hS : S.size ≤ maxLen) (hT : T.size ≤ maxLen) (w : World) (h : DiskIn N w g m d) (hB : Bnd m) :
    Calls Try.prog 17 #[.pointer (some ⟨g, 0, none⟩), .string S, .string T] w fun e w' => e = .returned (.int .i64 (renameM m S.data.toList T.data.toList).2) ∧ ∃ d', Aft N g w w' (renameM m S.data.toList T.data.toList).1 d d' := by
  have H := Lib.hid h
  obtain ⟨c0, c1, c2, c3, c4, c5⟩ := h.cells
  have HN := Lib.hid (named_any T w)
  have HFI := Lib.hid (find_any N g m d S hS w h)
  clear c0 c1 c2 c3 c4 h
  by_cases hbad : m.down = false ∧ namedB T.data.toList = false
  · have e1 : renameM m S.data.toList T.data.toList = (m, 1) := by unfold renameM; rw [if_pos hbad]
    rw [e1]
    rw [hbad.1] at c5
    rw [hbad.2] at HN
    clear e1 hbad
    go_enter Try.func17, Try.ntmps17
    go_wp2_with fail
    refine HN.out.mono ?_
    rintro e w1 ⟨rfl, rfl⟩
    go_wp2_with fail
    go_ret
    exact ⟨rfl, d, Aft.refl H.out⟩
  have e0 : renameM m S.data.toList T.data.toList = (match findM m S.data.toList with
      | (none, e) => (m, e)
      | (some f, _) => turnM m ⟨S.data.toList, T.data.toList, f⟩) := by unfold renameM; rw [if_neg hbad]; rfl
  rcases find_cases m S.data.toList with ⟨f, hf, hdn, hfn⟩ | ⟨e, hf, he⟩
  · rw [hf] at e0 HFI
    replace e0 : renameM m S.data.toList T.data.toList = turnM m ⟨S.data.toList, T.data.toList, f⟩ := e0
    rw [e0]
    obtain ⟨b, hb⟩ : ∃ b, d.bs.getD f 0 = b := ⟨_, rfl⟩
    have e2 : ptrO d.bs (some f) = .pointer (some ⟨b, 0, none⟩) := by rw [← hb]; rfl
    rw [e2] at HFI
    have hnm : namedB T.data.toList = true := by
      cases hx : namedB T.data.toList with
      | true => rfl
      | false => exact absurd ⟨hdn, hx⟩ hbad
    rw [hnm] at HN
    rw [hdn] at c5
    have hne : T.data.toList ≠ [] := by
      intro e
      rw [e] at hnm
      cases hnm
    have HTU := Lib.hid (turn_any N g m d S T (some ⟨b, 0, none⟩) f w H.out hB.fuse (by have := hB.now; omega) (by have := hB.turns; omega) hS hT (fun _ => ⟨fun _ => by rw [hb], fun e => absurd e hne⟩))
    have HTB := Lib.hid (turn_built3 S T (some ⟨b, 0, none⟩))
    clear e0 hf hdn hfn hb e2 hbad hnm hne
    go_enter Try.func17, Try.ntmps17
    go_wp2_with fail
    refine HN.out.mono ?_
    rintro e w1 ⟨rfl, rfl⟩
    go_wp2_with fail
    refine HFI.out.mono ?_
    rintro e w1 ⟨rfl, rfl⟩
    go_wp2_with ((with_reducible (refine wpList_built ?_ _ #[(0, .tmp 29), (1, .tmp 30), (2, .tmp 31)] ?_ _ ?_ _ HTB.out ?_)); (exact rfl); (exact rfl); (exact rfl))
    refine HTU.out.mono ?_
    rintro e w2 ⟨rfl, d2, ha2, _, _⟩
    have A2 := Lib.hid ha2
    clear ha2
    go_wp2_with fail
    go_ret
    exact ⟨rfl, d2, A2.out⟩
  · rw [hf] at e0 HFI
    replace e0 : renameM m S.data.toList T.data.toList = (m, e) := e0
    rw [e0]
    have e2 : ptrO d.bs none = .pointer none := rfl
    rw [e2] at HFI
    clear e0 hf e2
    cases hdn : m.down with
    | true =>
      rw [hdn] at c5
      clear hbad hdn
      rcases he with rfl | rfl
      all_goals (
        go_enter Try.func17, Try.ntmps17
        go_wp2_with fail
        refine HFI.out.mono ?_
        rintro e w1 ⟨rfl, rfl⟩
        go_wp2_with fail
        go_ret
        exact ⟨rfl, d, Aft.refl H.out⟩)
    | false =>
      have hnm : namedB T.data.toList = true := by
        cases hx : namedB T.data.toList with
        | true => rfl
        | false => exact absurd ⟨hdn, hx⟩ hbad
      rw [hdn] at c5
      rw [hnm] at HN
      clear hbad hdn hnm
      rcases he with rfl | rfl
      all_goals (
        go_enter Try.func17, Try.ntmps17
        go_wp2_with fail
        refine HN.out.mono ?_
        rintro e w1 ⟨rfl, rfl⟩
        go_wp2_with fail
        refine HFI.out.mono ?_
        rintro e w1 ⟨rfl, rfl⟩
        go_wp2_with fail
        go_ret
        exact ⟨rfl, d, Aft.refl H.out⟩)

set_option maxRecDepth 100000 in
set_option maxHeartbeats 4000000 in
theorem remove_any (N g : Nat) (m : DM) (d : DA) (S : ByteArray) (hS : S.size ≤ maxLen) (w : World) (h : DiskIn N w g m d) (hB : Bnd m) :
    Calls Try.prog 22 #[.pointer (some ⟨g, 0, none⟩), .string S] w fun e w' => e = .returned (.int .i64 (removeM m S.data.toList).2) ∧ ∃ d', Aft N g w w' (removeM m S.data.toList).1 d d' := by
  have H := Lib.hid h
  have HFI := Lib.hid (find_any N g m d S hS w h)
  clear h
  rcases find_cases m S.data.toList with ⟨f, hf, hdn, hfn⟩ | ⟨e, hf, he⟩
  · have e0 : removeM m S.data.toList = turnM m ⟨S.data.toList, [], f⟩ := by unfold removeM; rw [hf]
    rw [e0]
    rw [hf] at HFI
    obtain ⟨b, hb⟩ : ∃ b, d.bs.getD f 0 = b := ⟨_, rfl⟩
    have e2 : ptrO d.bs (some f) = .pointer (some ⟨b, 0, none⟩) := by rw [← hb]; rfl
    rw [e2] at HFI
    have HTU := Lib.hid (turn_any N g m d S ⟨#[]⟩ none f w H.out hB.fuse (by have := hB.now; omega) (by have := hB.turns; omega) hS (by decide) (fun _ => ⟨fun e => absurd rfl e, fun _ => rfl⟩))
    have HTB := Lib.hid (turn_built1 S)
    clear e0 hf hdn hfn hb e2
    go_enter Try.func22, Try.ntmps22
    go_wp2_with fail
    refine HFI.out.mono ?_
    rintro e w1 ⟨rfl, rfl⟩
    go_wp2_with ((with_reducible (refine wpList_built ?_ _ #[(0, .tmp 17)] ?_ _ ?_ _ HTB.out ?_)); (exact rfl); (exact rfl); (exact rfl))
    refine HTU.out.mono ?_
    rintro e w2 ⟨rfl, d2, ha2, _, _⟩
    have A2 := Lib.hid ha2
    clear ha2
    go_wp2_with fail
    go_ret
    exact ⟨rfl, d2, A2.out⟩
  · have e0 : removeM m S.data.toList = (m, e) := by unfold removeM; rw [hf]
    rw [e0]
    rw [hf] at HFI
    have e2 : ptrO d.bs none = .pointer none := rfl
    rw [e2] at HFI
    clear e0 hf e2
    rcases he with rfl | rfl
    all_goals (
      go_enter Try.func22, Try.ntmps22
      go_wp2_with fail
      refine HFI.out.mono ?_
      rintro e w1 ⟨rfl, rfl⟩
      go_wp2_with fail
      go_ret
      exact ⟨rfl, d, Aft.refl H.out⟩)

section

variable {N g : Nat} {w w' : World} {m : DM} {d : DA}

theorem set_row {w : World} {g j : Nat} {cs : Array Value} {t : TypeId} {fr : Nat × Nat} (v : Value) (h : w.heap[g]? = some (.cells cs t fr)) : (w.setCell ⟨g, j, none⟩ v).heap[g]? = some (.cells (cs.set! j v) t fr) := by
  simp only [World.setCell, Array.getElem?_modify, h, if_true, Option.map_some]
  rfl
theorem row_froz {w : World} {g j : Nat} {cs : Array Value} {t : TypeId} (h : w.heap[g]? = some (.cells cs t (0, 0))) : w.frozen? ⟨g, j, none⟩ = false := by
  simp [World.frozen?, h]
/-- the sure names become the names as they are, in a map of their own -/
theorem DiskIn.flush (h : DiskIn N w g m d) {mb' : Nat} (hmN : N ≤ mb') (hne : d.mb ≠ mb') (ho : w.ownsMap Try.prog 9 ptrR mb' m.now.length (namesD d.bs m.now)) :
    DiskIn N ((w.setCell ⟨g, 1, none⟩ (.map (some mb'))).setCell ⟨g, 2, none⟩ (.slice none 0 0)) g { m with sure := m.now, turns := [] } { d with sb := mb', tv := .slice none 0 0 } := by
  have hk : ∀ b, b ≠ g → ((w.setCell ⟨g, 1, none⟩ (.map (some mb'))).setCell ⟨g, 2, none⟩ (.slice none 0 0)).heap[b]? = w.heap[b]? := fun b hn => (Below.heap_setCell _ _ _ _ hn).trans (Below.heap_setCell _ _ _ _ hn)
  refine h.setG ?_ (fun b _ hb => hk b hb) ⟨rfl, rfl⟩ rfl h.now ho (World.ownsRow_nil _ _ _ _) hne h.base.2.1 hmN
  have := h.row
  simp only [World.setCell, Array.getElem?_modify, this, if_true, Option.map_some]
  rfl
end

set_option maxRecDepth 100000 in
set_option maxHeartbeats 4000000 in
theorem flush_any (N g : Nat) (m : DM) (d : DA) (w : World) (h : DiskIn N w g m d) (hB : Bnd m) :
    Calls Try.prog 12 #[.pointer (some ⟨g, 0, none⟩)] w fun e w' => e = .returned (.int .i64 (flushM m).2) ∧ ∃ d', Aft N g w w' (flushM m).1 d d' := by
  have H := Lib.hid h
  obtain ⟨c0, c1, c2, c3, c4, c5⟩ := h.cells
  have HST := Lib.hid (step_any N g m d hB.fuse w h)
  clear c0 c1 c2 c3 c4 h
  cases hd : m.down with
  | true =>
    have e1 : flushM m = (m, 50) := by simp [flushM, hd]
    rw [e1]
    rw [hd] at c5
    clear e1 hd
    go_enter Try.func12, Try.ntmps12
    go_wp2_with fail
    go_ret
    exact ⟨rfl, d, Aft.refl H.out⟩
  | false =>
  rw [hd] at c5
  rcases step_cases m with hs | hs
  · obtain ⟨m1, hm1⟩ : ∃ m1, (stepM m).1 = m1 := ⟨_, rfl⟩
    have e1 : flushM m = ({ m1 with sure := m1.now, turns := [] }, 0) := by
      have := (step_same m).1
      rw [hm1] at this
      simp [flushM, hd, hs, hm1, this]
    rw [e1]
    rw [hs, hm1] at HST
    clear e1 hd hs hm1
    go_enter Try.func12, Try.ntmps12
    go_wp2_with fail
    refine HST.out.mono ?_
    rintro e w2 ⟨rfl, ha2⟩
    have A2 := Lib.hid ha2
    have hc0 := ha2.disk.cells.1
    have HCL := Lib.hid (AnyW.maps_Clone_owns Try.clone34 9 ptrR d.mb m1.now.length (namesD d.bs m1.now) w2 ha2.disk.now)
    clear ha2
    go_wp2_with fail
    refine HCL.out.mono ?_
    rintro e w3 ⟨rfl, ho1, ho2, hb3⟩
    obtain ⟨mb', hmb⟩ : ∃ mb', w2.heap.size = mb' := ⟨_, rfl⟩
    have D3 := Lib.hid (A2.out.disk.below hb3)
    have A3 := Lib.hid (Aft.below A2.out.disk hb3)
    rw [hmb] at ho1
    have HO1 := Lib.hid ho1
    have HMB : Hid (w2.heap.size = mb' ∧ N ≤ mb' ∧ d.mb ≠ mb') := Lib.hid ⟨hmb, by have := A2.out.disk.size; omega, by have := A2.out.disk.foot_lt (b := d.mb) (.inr (.inl rfl)); omega⟩
    have c1' : w3.cell? ⟨g, 1, none⟩ = some (.map (some d.sb)) := D3.out.cells.2.1
    have f1 := D3.out.froz 1
    obtain ⟨W4, hW4⟩ : ∃ W, w3.setCell ⟨g, 1, none⟩ (.map (some mb')) = W := ⟨_, rfl⟩
    have hr4 := set_row (j := 1) (.map (some mb')) D3.out.row
    rw [hW4] at hr4
    have c2' : W4.cell? ⟨g, 2, none⟩ = some d.tv := row_cell hr4 2
    have f2 := row_froz (j := 2) hr4
    rw [hmb]
    clear ho1 ho2 hb3 hmb hc0 hr4
    go_wp2_with fail
    go_ret
    have D5 := D3.out.flush HMB.out.2.1 HMB.out.2.2 HO1.out
    have hF : Frm (foot g d) w3 (W4.setCell ⟨g, 2, none⟩ (.slice none 0 0)) := by
      rw [← hW4]
      exact (Frm.of_cell (.inl rfl)).trans (Frm.of_cell (F := foot g d) (.inl rfl)) (fun i hi => .inl hi)
    rw [hW4] at D5
    refine ⟨rfl, _, A2.out.trans (Aft.mk D5 (A3.out.frm.trans hF (fun i hi => .inl hi)) (fun b hb => ?_))⟩
    rcases hb with h1 | h1 | h1 | h1 | h1
    · exact .inl (.inl h1)
    · exact .inl (.inr (.inl h1))
    · right
      have h2 : b = mb' := h1
      have := HMB.out.1
      omega
    · cases h1
    · exact .inl (.inr (.inr (.inr (.inr h1))))
  · have e1 : flushM m = stepM m := by simp [flushM, hd, hs]
    rw [e1]
    rw [hs] at HST ⊢
    obtain ⟨m1, hm1⟩ : ∃ m1, (stepM m).1 = m1 := ⟨_, rfl⟩
    rw [hm1] at HST ⊢
    clear e1 hd hs hm1
    go_enter Try.func12, Try.ntmps12
    go_wp2_with fail
    refine HST.out.mono ?_
    rintro e w2 ⟨rfl, ha2⟩
    have A2 := Lib.hid ha2
    clear ha2
    go_wp2_with fail
    go_ret
    exact ⟨rfl, d, A2.out⟩
end Go.Proofs.Ytpmifpblamjclaa
