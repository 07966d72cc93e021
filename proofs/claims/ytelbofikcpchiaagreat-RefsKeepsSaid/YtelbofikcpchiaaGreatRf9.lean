
/- Refs: Head. -/

import Derived.Test.YtelbofikcpchiaaGreatRf8

namespace Go.Proofs.YtelbofikcpchiaaGreat

set_option linter.unusedVariables false

set_option linter.unusedSimpArgs false

set_option linter.unusedSectionVars false

open Go.RowKit

/-- HEAD's ID -/
def headR (r : RfM) : List UInt8 := if r.head = [] then r.at_ else getA r.all r.head
set_option maxRecDepth 100000 in
set_option maxHeartbeats 4000000 in
theorem head_any {N gr g : Nat} {w : World} {r : RfM} {q : QA} (h : RfIn N w gr g r q) (hk : RfOk r) :
    Calls Tryz.prog 13 #[.pointer (some ⟨gr, 0, none⟩)] w fun e w' => e = .returned (.tuple #[strV r.head, .agg (b8s (headR r)).toArray]) ∧ Below w.heap.size w w' := by
  obtain ⟨id, hid⟩ : ∃ id, headR r = id := ⟨_, rfl⟩
  have hl : id.length = 32 := by
    rw [← hid]
    unfold headR
    split
    · exact hk.al
    · exact getA_len hk.ids _
  obtain ⟨Hz, Wa, W5, hH, hWa, hW5, HTH, HR5, HB5, _⟩ := arr_place (w := w) 24 id hl
  have HWZ : Hid (∃ cs, Wa.heap[Hz]? = some (.cells cs 24 (0, 0))) := by
    rw [← hWa, ← hH]
    exact Lib.hid ⟨_, heap_alloc_new w _⟩
  have hba : Below w.heap.size w Wa := by rw [← hWa]; exact (Below.refl _ _).alloc (Nat.le_refl _) _
  have ha := Lib.hid (h.below hba)
  have HB5' : Hid (Below w.heap.size w W5) := HB5
  obtain ⟨X, hX, hXs⟩ : ∃ X : ByteArray, strV r.head = .string X ∧ X.data.toList = r.head := ⟨_, rfl, rfl⟩
  have hXm : X.size ≤ 140737488355328 := by
    have h1 := size_toList X
    rw [hXs] at h1
    have := hk.hd
    omega
  have c1 : Wa.cell? ⟨gr, 1, none⟩ = some (.map (some q.mb)) := ha.out.cells.2.1
  have c2 : Wa.cell? ⟨gr, 2, none⟩ = some (.string X) := by rw [← hX]; exact ha.out.cells.2.2
  have HIA := Lib.hid (info_ida id hl)
  have HIL := Lib.hid (info_idl id hl)
  have HOC : Hid ((b8s id).toArray.all (·.oneCell') = true) := Lib.hid (all_oneCell_toArray (b8s_one' _))
  have HW5 := Lib.hid hW5
  have HGR : Hid (gr ≠ Hz) := Lib.hid (by have := h.foot_lt (.inl rfl); omega)
  have HHL := Lib.hid hH
  have HID := Lib.hid hid
  have HXS := Lib.hid hXs
  rw [hX, hid]
  clear h hk hid hba hW5 hX hXs
  by_cases hh : X.data.toList = []
  · have hem : X.toList.isEmpty = true := by rw [tl_data, hh]; rfl
    have hX0 : X = ⟨#[]⟩ := ba_ext hh
    have HAT : Hid (Wa.rangeAt gr 3 (b8s id)) := Lib.hid (by
      have h1 := ha.out.at_
      have h2 : headR _ = id := HID.out
      unfold headR at h2
      rw [if_pos (by rw [← HXS.out]; exact hh)] at h2
      rw [h2] at h1
      exact h1)
    have HATS : Hid (∀ u, (Wa.setCells Hz 0 (b8s id)).cell? u = W5.cell? u) := Lib.hid (fun u => by rw [show (b8s id) = (b8s id).toArray.toList from rfl, HW5.out])
    clear hh HXS
    subst hX0
    go_enter Tryz.func13, Tryz.ntmps13
    go_wp2_with fail
    refine wp_region_sched (fun w' => w'.rangeAt gr 3 (b8s id)) [(true, 0), (true, 1), (true, 2), (true, 3), (true, 4), (false, 5)] (by kernel_rfl) (by kernel_rfl) rfl (by kernel_rfl) HAT.out ?_
    (first | (refine wpS_pass _ rfl (by rfl) ?_; simp only [Act.put, List.getElem_toArray, List.getElem_cons_zero, List.getElem_cons_succ, List.setIfInBounds_toArray, List.set_cons_zero, List.set_cons_succ]) | (refine wpS_take _ ?_ rfl (by rfl) ?_ ?_; rotate_left; (focus (intro w' hS'; (try dsimp only at hS'); (repeat (have hS1 := hS'.1; replace hS' := hS'.2)); go_simp; (try with_reducible rfl); done)); simp only [Act.put, List.getElem_toArray, List.getElem_cons_zero, List.getElem_cons_succ, List.setIfInBounds_toArray, List.set_cons_zero, List.set_cons_succ]))
    (first | (refine wpS_pass _ rfl (by rfl) ?_; simp only [Act.put, List.getElem_toArray, List.getElem_cons_zero, List.getElem_cons_succ, List.setIfInBounds_toArray, List.set_cons_zero, List.set_cons_succ]) | (refine wpS_take _ ?_ rfl (by rfl) ?_ ?_; rotate_left; (focus (intro w' hS'; (try dsimp only at hS'); (repeat (have hS1 := hS'.1; replace hS' := hS'.2)); go_simp; (try with_reducible rfl); done)); simp only [Act.put, List.getElem_toArray, List.getElem_cons_zero, List.getElem_cons_succ, List.setIfInBounds_toArray, List.set_cons_zero, List.set_cons_succ]))
    (first | (refine wpS_pass _ rfl (by rfl) ?_; simp only [Act.put, List.getElem_toArray, List.getElem_cons_zero, List.getElem_cons_succ, List.setIfInBounds_toArray, List.set_cons_zero, List.set_cons_succ]) | (refine wpS_take _ ?_ rfl (by rfl) ?_ ?_; rotate_left; (focus (intro w' hS'; (try dsimp only at hS'); (repeat (have hS1 := hS'.1; replace hS' := hS'.2)); go_simp; (try with_reducible rfl); done)); simp only [Act.put, List.getElem_toArray, List.getElem_cons_zero, List.getElem_cons_succ, List.setIfInBounds_toArray, List.set_cons_zero, List.set_cons_succ]))
    refine wpS_load _ rfl (by rfl) 24 _ rfl gr 3 rfl (b8s id) _ (fun w' hS => hS) Tryz.underlying24 rfl HIL.out ?_
    simp only [Act.put, List.getElem_toArray, List.getElem_cons_zero, List.getElem_cons_succ, List.setIfInBounds_toArray, List.set_cons_zero, List.set_cons_succ]
    (first | (refine wpS_pass _ rfl (by rfl) ?_; simp only [Act.put, List.getElem_toArray, List.getElem_cons_zero, List.getElem_cons_succ, List.setIfInBounds_toArray, List.set_cons_zero, List.set_cons_succ]) | (refine wpS_take _ ?_ rfl (by rfl) ?_ ?_; rotate_left; (focus (intro w' hS'; (try dsimp only at hS'); (repeat (have hS1 := hS'.1; replace hS' := hS'.2)); go_simp; (try with_reducible rfl); done)); simp only [Act.put, List.getElem_toArray, List.getElem_cons_zero, List.getElem_cons_succ, List.setIfInBounds_toArray, List.set_cons_zero, List.set_cons_succ]))
    refine wpS_store_mid _ rfl (by rfl) 24 _ _ rfl Hz 0 (b8s id).toArray rfl rfl HTH.out HIA.out HOC.out ?_ ?_
    · rw [setCells_drew, HW5.out]
      intro x v hv
      rw [← HW5.out]
      exact (World.cell?_of_block (a := ⟨gr, 3 + x, none⟩) (setCells_other Hz _ 0 Wa gr HGR.out)).trans (HAT.out x v hv)
    refine wpS_done ?_
    rw [setCells_drew, HW5.out]
    have HR5d : Hid (W5.drew.heap[Hz]? = some (.cells (b8s id).toArray 24 (0, 0))) := Lib.hid HR5.out
    have HB5d : Hid (Below w.heap.size w W5.drew) := Lib.hid HB5'.out.drew
    generalize W5.drew = W6 at *
    go_wp2_with fail
    refine bodyPost_ret (results_tmp_row rfl _ _ _ _ _ _ _ rfl HR5d.out Tryz.underlying24 rfl HIA.out) rfl ?_
    exact ⟨rfl, by first | exact HB5d.out | (rw [← hH]; exact HB5d.out)⟩
  · have hem : X.toList.isEmpty = false := by rw [tl_data, List.isEmpty_eq_false_iff]; exact hh
    have HMP : Hid (Hid (Wa.ownsMap Tryz.prog 9 idR q.mb r.all.length (mapA idD r.all))) := Lib.hid (Lib.hid ha.out.map)
    have HGT : Hid (getA r.all X.data.toList = id) := Lib.hid (by
      have h2 := HID.out
      unfold headR at h2
      rw [if_neg (by rw [← HXS.out]; exact hh), ← HXS.out] at h2
      exact h2)
    clear hh HXS
    go_enter Tryz.func13, Tryz.ntmps13
    go_wp2_with fail
    refine wp_region_sched (fun w' => w'.cell? ⟨gr, 1, none⟩ = some (.map (some q.mb)) ∧ w'.cell? ⟨gr, 2, none⟩ = some (.string X) ∧ Hid (w'.ownsMap Tryz.prog 9 idR q.mb r.all.length (mapA idD r.all))) [(true, 0), (true, 1), (true, 2), (true, 3), (true, 4), (true, 5), (true, 6), (true, 7), (true, 8), (true, 9), (true, 10), (true, 11), (true, 12), (true, 13), (false, 14)] (by kernel_rfl) (by kernel_rfl) rfl (by kernel_rfl) ⟨c1, c2, HMP.out⟩ ?_
    (first | (refine wpS_pass _ rfl (by rfl) ?_; simp only [Act.put, List.getElem_toArray, List.getElem_cons_zero, List.getElem_cons_succ, List.setIfInBounds_toArray, List.set_cons_zero, List.set_cons_succ]) | (refine wpS_take _ ?_ rfl (by rfl) ?_ ?_; rotate_left; (focus (intro w' hS'; (try dsimp only at hS'); (repeat (have hS1 := hS'.1; replace hS' := hS'.2)); go_simp; (try with_reducible rfl); done)); simp only [Act.put, List.getElem_toArray, List.getElem_cons_zero, List.getElem_cons_succ, List.setIfInBounds_toArray, List.set_cons_zero, List.set_cons_succ]))
    (first | (refine wpS_pass _ rfl (by rfl) ?_; simp only [Act.put, List.getElem_toArray, List.getElem_cons_zero, List.getElem_cons_succ, List.setIfInBounds_toArray, List.set_cons_zero, List.set_cons_succ]) | (refine wpS_take _ ?_ rfl (by rfl) ?_ ?_; rotate_left; (focus (intro w' hS'; (try dsimp only at hS'); (repeat (have hS1 := hS'.1; replace hS' := hS'.2)); go_simp; (try with_reducible rfl); done)); simp only [Act.put, List.getElem_toArray, List.getElem_cons_zero, List.getElem_cons_succ, List.setIfInBounds_toArray, List.set_cons_zero, List.set_cons_succ]))
    (first | (refine wpS_pass _ rfl (by rfl) ?_; simp only [Act.put, List.getElem_toArray, List.getElem_cons_zero, List.getElem_cons_succ, List.setIfInBounds_toArray, List.set_cons_zero, List.set_cons_succ]) | (refine wpS_take _ ?_ rfl (by rfl) ?_ ?_; rotate_left; (focus (intro w' hS'; (try dsimp only at hS'); (repeat (have hS1 := hS'.1; replace hS' := hS'.2)); go_simp; (try with_reducible rfl); done)); simp only [Act.put, List.getElem_toArray, List.getElem_cons_zero, List.getElem_cons_succ, List.setIfInBounds_toArray, List.set_cons_zero, List.set_cons_succ]))
    (first | (refine wpS_pass _ rfl (by rfl) ?_; simp only [Act.put, List.getElem_toArray, List.getElem_cons_zero, List.getElem_cons_succ, List.setIfInBounds_toArray, List.set_cons_zero, List.set_cons_succ]) | (refine wpS_take _ ?_ rfl (by rfl) ?_ ?_; rotate_left; (focus (intro w' hS'; (try dsimp only at hS'); (repeat (have hS1 := hS'.1; replace hS' := hS'.2)); go_simp; (try with_reducible rfl); done)); simp only [Act.put, List.getElem_toArray, List.getElem_cons_zero, List.getElem_cons_succ, List.setIfInBounds_toArray, List.set_cons_zero, List.set_cons_succ]))
    (first | (refine wpS_pass _ rfl (by rfl) ?_; simp only [Act.put, List.getElem_toArray, List.getElem_cons_zero, List.getElem_cons_succ, List.setIfInBounds_toArray, List.set_cons_zero, List.set_cons_succ]) | (refine wpS_take _ ?_ rfl (by rfl) ?_ ?_; rotate_left; (focus (intro w' hS'; (try dsimp only at hS'); (repeat (have hS1 := hS'.1; replace hS' := hS'.2)); go_simp; (try with_reducible rfl); done)); simp only [Act.put, List.getElem_toArray, List.getElem_cons_zero, List.getElem_cons_succ, List.setIfInBounds_toArray, List.set_cons_zero, List.set_cons_succ]))
    (first | (refine wpS_pass _ rfl (by rfl) ?_; simp only [Act.put, List.getElem_toArray, List.getElem_cons_zero, List.getElem_cons_succ, List.setIfInBounds_toArray, List.set_cons_zero, List.set_cons_succ]) | (refine wpS_take _ ?_ rfl (by rfl) ?_ ?_; rotate_left; (focus (intro w' hS'; (try dsimp only at hS'); (repeat (have hS1 := hS'.1; replace hS' := hS'.2)); go_simp; (try with_reducible rfl); done)); simp only [Act.put, List.getElem_toArray, List.getElem_cons_zero, List.getElem_cons_succ, List.setIfInBounds_toArray, List.set_cons_zero, List.set_cons_succ]))
    (first | (refine wpS_pass _ rfl (by rfl) ?_; simp only [Act.put, List.getElem_toArray, List.getElem_cons_zero, List.getElem_cons_succ, List.setIfInBounds_toArray, List.set_cons_zero, List.set_cons_succ]) | (refine wpS_take _ ?_ rfl (by rfl) ?_ ?_; rotate_left; (focus (intro w' hS'; (try dsimp only at hS'); (repeat (have hS1 := hS'.1; replace hS' := hS'.2)); go_simp; (try with_reducible rfl); done)); simp only [Act.put, List.getElem_toArray, List.getElem_cons_zero, List.getElem_cons_succ, List.setIfInBounds_toArray, List.set_cons_zero, List.set_cons_succ]))
    (first | (refine wpS_pass _ rfl (by rfl) ?_; simp only [Act.put, List.getElem_toArray, List.getElem_cons_zero, List.getElem_cons_succ, List.setIfInBounds_toArray, List.set_cons_zero, List.set_cons_succ]) | (refine wpS_take _ ?_ rfl (by rfl) ?_ ?_; rotate_left; (focus (intro w' hS'; (try dsimp only at hS'); (repeat (have hS1 := hS'.1; replace hS' := hS'.2)); go_simp; (try with_reducible rfl); done)); simp only [Act.put, List.getElem_toArray, List.getElem_cons_zero, List.getElem_cons_succ, List.setIfInBounds_toArray, List.set_cons_zero, List.set_cons_succ]))
    (first | (refine wpS_pass _ rfl (by rfl) ?_; simp only [Act.put, List.getElem_toArray, List.getElem_cons_zero, List.getElem_cons_succ, List.setIfInBounds_toArray, List.set_cons_zero, List.set_cons_succ]) | (refine wpS_take _ ?_ rfl (by rfl) ?_ ?_; rotate_left; (focus (intro w' hS'; (try dsimp only at hS'); (repeat (have hS1 := hS'.1; replace hS' := hS'.2)); go_simp; (try with_reducible rfl); done)); simp only [Act.put, List.getElem_toArray, List.getElem_cons_zero, List.getElem_cons_succ, List.setIfInBounds_toArray, List.set_cons_zero, List.set_cons_succ]))
    (first | (refine wpS_pass _ rfl (by rfl) ?_; simp only [Act.put, List.getElem_toArray, List.getElem_cons_zero, List.getElem_cons_succ, List.setIfInBounds_toArray, List.set_cons_zero, List.set_cons_succ]) | (refine wpS_take _ ?_ rfl (by rfl) ?_ ?_; rotate_left; (focus (intro w' hS'; (try dsimp only at hS'); (repeat (have hS1 := hS'.1; replace hS' := hS'.2)); go_simp; (try with_reducible rfl); done)); simp only [Act.put, List.getElem_toArray, List.getElem_cons_zero, List.getElem_cons_succ, List.setIfInBounds_toArray, List.set_cons_zero, List.set_cons_succ]))
    (first | (refine wpS_pass _ rfl (by rfl) ?_; simp only [Act.put, List.getElem_toArray, List.getElem_cons_zero, List.getElem_cons_succ, List.setIfInBounds_toArray, List.set_cons_zero, List.set_cons_succ]) | (refine wpS_take _ ?_ rfl (by rfl) ?_ ?_; rotate_left; (focus (intro w' hS'; (try dsimp only at hS'); (repeat (have hS1 := hS'.1; replace hS' := hS'.2)); go_simp; (try with_reducible rfl); done)); simp only [Act.put, List.getElem_toArray, List.getElem_cons_zero, List.getElem_cons_succ, List.setIfInBounds_toArray, List.set_cons_zero, List.set_cons_succ]))
    (first | (refine wpS_pass _ rfl (by rfl) ?_; simp only [Act.put, List.getElem_toArray, List.getElem_cons_zero, List.getElem_cons_succ, List.setIfInBounds_toArray, List.set_cons_zero, List.set_cons_succ]) | (refine wpS_take _ ?_ rfl (by rfl) ?_ ?_; rotate_left; (focus (intro w' hS'; (try dsimp only at hS'); (repeat (have hS1 := hS'.1; replace hS' := hS'.2)); go_simp; (try with_reducible rfl); done)); simp only [Act.put, List.getElem_toArray, List.getElem_cons_zero, List.getElem_cons_succ, List.setIfInBounds_toArray, List.set_cons_zero, List.set_cons_succ]))
    refine wpS_take _ (.agg (b8s id).toArray) rfl (by rfl) (fun w' hS' => exec_lookup _ _ _ rfl _ _ _ rfl rfl (by have h1 := rlook_any hS'.2.2.out X (by unfold maxLen; omega); rw [HGT.out] at h1; exact h1)) ?_
    simp only [Act.put, List.getElem_toArray, List.getElem_cons_zero, List.getElem_cons_succ, List.setIfInBounds_toArray, List.set_cons_zero, List.set_cons_succ]
    (first | (refine wpS_pass _ rfl (by rfl) ?_; simp only [Act.put, List.getElem_toArray, List.getElem_cons_zero, List.getElem_cons_succ, List.setIfInBounds_toArray, List.set_cons_zero, List.set_cons_succ]) | (refine wpS_take _ ?_ rfl (by rfl) ?_ ?_; rotate_left; (focus (intro w' hS'; (try dsimp only at hS'); (repeat (have hS1 := hS'.1; replace hS' := hS'.2)); go_simp; (try with_reducible rfl); done)); simp only [Act.put, List.getElem_toArray, List.getElem_cons_zero, List.getElem_cons_succ, List.setIfInBounds_toArray, List.set_cons_zero, List.set_cons_succ]))
    refine wpS_store_mid _ rfl (by rfl) 24 _ _ rfl Hz 0 (b8s id).toArray rfl rfl HTH.out HIA.out HOC.out ?_ ?_
    · rw [setCells_drew, HW5.out]
      have hk : ∀ k, k ≠ Hz → W5.heap[k]? = Wa.heap[k]? := fun k hk => by rw [← HW5.out]; exact setCells_other Hz _ 0 Wa k hk
      refine ⟨(World.cell?_of_block (a := ⟨gr, 1, none⟩) (hk gr HGR.out)).trans c1, (World.cell?_of_block (a := ⟨gr, 2, none⟩) (hk gr HGR.out)).trans c2, Lib.hid ?_⟩
      obtain ⟨es, clock, h1, h2⟩ := HMP.out.out
      refine ⟨es, clock, (hk q.mb (fun e => ?_)).trans h1, h2⟩
      obtain ⟨cs, h4⟩ := HWZ.out
      rw [e, h4] at h1
      cases h1
    refine wpS_done ?_
    rw [setCells_drew, HW5.out]
    have HR5d : Hid (W5.drew.heap[Hz]? = some (.cells (b8s id).toArray 24 (0, 0))) := Lib.hid HR5.out
    have HB5d : Hid (Below w.heap.size w W5.drew) := Lib.hid HB5'.out.drew
    generalize W5.drew = W6 at *
    go_wp2_with fail
    refine bodyPost_ret (results_tmp_row rfl _ _ _ _ _ _ _ rfl HR5d.out Tryz.underlying24 rfl HIA.out) rfl ?_
    exact ⟨rfl, by first | exact HB5d.out | (rw [← hH]; exact HB5d.out)⟩
end Go.Proofs.YtelbofikcpchiaaGreat
