
/- A disk's calls on files: Sync, Append, Read; Room. -/

import Derived.Test.YtpmifpblamjclaaDk6

import Derived.Test.YtpmifpblamjclaaClone

import Derived.Sort.MapsRangeIn

namespace Go.Proofs.Ytpmifpblamjclaa

set_option linter.unusedVariables false

set_option linter.unusedSimpArgs false

set_option linter.unusedSectionVars false

open Go.RowKit

section

variable {N g : Nat} {w w' : World} {m : DM} {d : DA}

/-- a file is turned -/
theorem DiskIn.fileSet (h : DiskIn N w g m d) {i b : Nat} {v : Value} {f : FM} (h1 : d.bs[i]? = some b) (h2 : d.vs[i]? = some v) (h3 : m.files[i]? = some f) (f' : FM) (v' : Value)
    (hrow : w'.heap[b]? = some (.cells #[v', .int .i64 (f'.safe : Int)] 75 (0, 0))) (hown : w'.ownsRow N 5 1 v' f'.b.length (b8s f'.b))
    (hk : ∀ c, foot g d c → c ≠ b → some c ≠ v.ownBlock → w'.heap[c]? = w.heap[c]?) (hv : v'.ownBlock = v.ownBlock ∨ v'.ownBlock = none ∨ ∃ c, v'.ownBlock = some c ∧ w.heap.size ≤ c) :
    DiskIn N w' g (setF m i f') { d with vs := d.vs.set i v' } := by
  have hbm := List.mem_of_getElem? h1
  have hvm := List.mem_of_getElem? h2
  have tyb := h.ty_b hbm
  have tyv : ∀ c, some c = v.ownBlock → tyAt w c 5 := fun c e => h.ty_v hvm e.symm
  have hm : ∀ {c n : Nat} {D : DataW Unit}, foot g d c → w.ownsMap Try.prog 9 ptrR c n D → w'.ownsMap Try.prog 9 ptrR c n D := fun {c n D} hc ho => by
    have e1 := map_ty ho tyb
    have e2 : some c ≠ v.ownBlock := fun e => map_ty ho (tyv c e) rfl
    obtain ⟨es, clock, k1, k2⟩ := ho
    exact ⟨es, clock, (hk c hc e1 e2).trans k1, k2⟩
  refine ⟨(hk g (.inl rfl) (Ne.symm (tyAt_ne tyb h.ty_g (by decide))) (fun e => tyAt_ne (tyv g e) h.ty_g (by decide) rfl)).trans h.row, hm (.inr (.inl rfl)) h.now, hm (.inr (.inr (.inl rfl))) h.sure,
    own_keep h.turns (fun c hc _ => hk c (.inr (.inr (.inr (.inl hc.symm)))) (Ne.symm (tyAt_ne tyb (h.ty_t hc) (by decide))) (fun e => tyAt_ne (tyv c e) (h.ty_t hc) (by decide) rfl)), by simp [setF, h.lb], by simp [setF, h.lv], ?_, h.nb, ?_, h.ne, h.base⟩
  · intro j c u x k1 k2 k3
    dsimp only [setF] at k1 k2 k3
    by_cases hij : i = j
    · subst hij
      rw [h1] at k1
      cases k1
      have hlt := (List.getElem?_eq_some_iff.1 h2).1
      have hlt3 := (List.getElem?_eq_some_iff.1 h3).1
      rw [List.getElem?_set_self hlt] at k2
      rw [List.getElem?_set_self hlt3] at k3
      cases k2
      cases k3
      exact ⟨hrow, hown⟩
    · rw [List.getElem?_set_ne hij] at k2 k3
      obtain ⟨q1, q2⟩ := h.file j c u x k1 k2 k3
      have hcm := List.mem_of_getElem? k1
      have hum := List.mem_of_getElem? k2
      have hcb : c ≠ b := fun e => by
        subst e
        have hi := (List.getElem?_eq_some_iff.1 h1)
        have hj := (List.getElem?_eq_some_iff.1 k1)
        obtain ⟨hi1, hi2⟩ := hi
        obtain ⟨hj1, hj2⟩ := hj
        exact hij ((List.getElem_inj h.nb).1 (hi2.trans hj2.symm))
      refine ⟨(hk c (.inr (.inr (.inr (.inr (.inl hcm))))) hcb (fun e => tyAt_ne (tyv c e) (h.ty_b hcm) (by decide) rfl)).trans q1, own_keep q2 (fun e he _ => hk e (.inr (.inr (.inr (.inr (.inr ⟨u, hum, he.symm⟩))))) (Ne.symm (tyAt_ne tyb (h.ty_v hum he) (by decide))) (fun e2 => ?_))⟩
      rcases h.nv j i u v (Ne.symm hij) k2 h2 with h0 | h0
      · rw [he] at h0; cases h0
      · exact h0 (he.trans e2)
  · intro j k u u' hjk k1 k2
    dsimp only at k1 k2
    have hlt := (List.getElem?_eq_some_iff.1 h2).1
    have old : ∀ (l : Nat) (x : Value), d.vs[l]? = some x → ∀ c, x.ownBlock = some c → c < w.heap.size := fun l x hx c hc => h.foot_lt (.inr (.inr (.inr (.inr (.inr ⟨x, List.mem_of_getElem? hx, hc.symm⟩)))))
    by_cases hij : i = j
    · subst hij
      rw [List.getElem?_set_self hlt] at k1
      rw [List.getElem?_set_ne hjk] at k2
      cases k1
      rcases hv with e | e | ⟨c, e, hc⟩
      · rw [e]; exact h.nv i k v u' hjk h2 k2
      · exact .inl e
      · right
        intro e2
        rw [e] at e2
        have := old k u' k2 c e2.symm
        omega
    · rw [List.getElem?_set_ne hij] at k1
      by_cases hik : i = k
      · subst hik
        rw [List.getElem?_set_self hlt] at k2
        cases k2
        rcases hv with e | e | ⟨c, e, hc⟩
        · rw [e]; exact h.nv j i u v hjk k1 h2
        · rw [e]
          by_cases e0 : u.ownBlock = none
          · exact .inl e0
          · exact .inr e0
        · by_cases e0 : u.ownBlock = none
          · exact .inl e0
          · right
            intro e2
            rw [e] at e2
            have := old j u k1 c e2
            omega
      · rw [List.getElem?_set_ne hik] at k2
        exact h.nv j k u u' hjk k1 k2
theorem foot_set {i : Nat} {v' : Value} : ∀ b, foot g { d with vs := d.vs.set i v' } b → foot g d b ∨ some b = v'.ownBlock := by
  intro b hb
  rcases hb with h1 | h1 | h1 | h1 | h1 | ⟨v, h1, h2⟩
  · exact .inl (.inl h1)
  · exact .inl (.inr (.inl h1))
  · exact .inl (.inr (.inr (.inl h1)))
  · exact .inl (.inr (.inr (.inr (.inl h1))))
  · exact .inl (.inr (.inr (.inr (.inr (.inl h1)))))
  · rcases List.mem_or_eq_of_mem_set h1 with h | h
    · exact .inl (.inr (.inr (.inr (.inr (.inr ⟨v, h, h2⟩)))))
    · rw [h] at h2
      exact .inr h2
end

theorem fileM_at {m : DM} {f : Nat} {x : FM} (h : m.files[f]? = some x) : fileM m f = x := by
  unfold fileM
  simp [List.getD, h]
theorem step_fileM (m : DM) (f : Nat) : fileM (stepM m).1 f = fileM m f := by
  unfold fileM
  rw [(step_same m).2.2.2.1]

set_option maxRecDepth 100000 in
set_option maxHeartbeats 4000000 in
theorem sync_any (N g : Nat) (m : DM) (d : DA) (S : ByteArray) (hS : S.size ≤ maxLen) (w : World) (h : DiskIn N w g m d) (hB : Bnd m) (hI : IdsOk m) :
    Calls Try.prog 16 #[.pointer (some ⟨g, 0, none⟩), .string S] w fun e w' => e = .returned (.int .i64 (syncM m S.data.toList).2) ∧ ∃ d', Aft N g w w' (syncM m S.data.toList).1 d d' := by
  have H := Lib.hid h
  have HFI := Lib.hid (find_any N g m d S hS w h)
  have HST := Lib.hid (step_any N g m d hB.fuse w h)
  clear h
  rcases find_cases m S.data.toList with ⟨f, hf, hdn, hfn⟩ | ⟨e, hf, he⟩
  · have hfl : f < m.files.length := hI.now _ (find_mem hfn)
    have e0 : syncM m S.data.toList = if (stepM m).2 = 0 then (setF (stepM m).1 f ⟨(fileM m f).b, (fileM m f).b.length⟩, 0) else stepM m := by unfold syncM; rw [hf]
    rw [hf] at HFI
    obtain ⟨b, hb⟩ : ∃ b, d.bs.getD f 0 = b := ⟨_, rfl⟩
    have e2 : ptrO d.bs (some f) = .pointer (some ⟨b, 0, none⟩) := by rw [← hb]; rfl
    rw [e2] at HFI
    rcases step_cases m with hs | hs
    · rw [if_pos hs] at e0
      rw [e0]
      have hmf := (step_same m).2.2.2.1
      obtain ⟨x, hx⟩ : ∃ x, fileM m f = x := ⟨_, rfl⟩
      have hxf : m.files[f]? = some x := by
        rw [← hx]; unfold fileM; simp [List.getD, hfl]
      have hxl := (hB.len x (List.mem_of_getElem? hxf)).1
      rw [hx]
      obtain ⟨m1, hm1⟩ : ∃ m1, (stepM m).1 = m1 := ⟨_, rfl⟩
      rw [hs, hm1] at HST
      rw [hm1] at hmf ⊢
      rw [← hmf] at hxf
      have HXF := Lib.hid hxf
      have HBF := Lib.hid hb
      clear e0 hf hdn hfn hb e2 hs hm1 hmf hxf hx hfl
      go_enter Try.func16, Try.ntmps16
      go_wp2_with fail
      refine HFI.out.mono ?_
      rintro e w1 ⟨rfl, rfl⟩
      go_wp2_with fail
      refine HST.out.mono ?_
      rintro e w2 ⟨rfl, ha2⟩
      have A2 := Lib.hid ha2
      obtain ⟨b', v, q1, q2, q3, q4, q5⟩ := ha2.disk.row_of HXF.out
      have hbb : b' = b := by rw [← q3, HBF.out]
      subst hbb
      obtain ⟨Av, cv, rfl, _⟩ := own_slice q5
      obtain ⟨xn, hxn⟩ : ∃ xn, x.b.length = xn := ⟨_, rfl⟩
      have hr1 := set_row (j := 1) (.int .i64 (xn : Int)) q4
      have HD : Hid (DiskIn N (w2.setCell ⟨b', 1, none⟩ (.int .i64 (xn : Int))) g (setF m1 f ⟨x.b, x.b.length⟩) { d with vs := d.vs.set f (.slice Av xn cv) }) := Lib.hid (by
        rw [← hxn] at hr1 ⊢
        refine ha2.disk.fileSet q1 q2 HXF.out ⟨x.b, x.b.length⟩ _ hr1 (own_keep q5 (fun c hc _ => Below.heap_setCell _ _ _ _ ?_)) (fun c _ hcb _ => Below.heap_setCell _ _ _ _ hcb) (.inl rfl)
        exact Ne.symm (tyAt_ne (ha2.disk.ty_b (List.mem_of_getElem? q1)) (ha2.disk.ty_v (List.mem_of_getElem? q2) hc) (by decide)))
      have HF2 : Hid (Frm (foot g d) w2 (w2.setCell ⟨b', 1, none⟩ (.int .i64 (xn : Int)))) := Lib.hid (Frm.of_cell (.inr (.inr (.inr (.inr (.inl (List.mem_of_getElem? q1)))))))
      have HEX : Hid (∀ c, foot g { d with vs := d.vs.set f (.slice Av xn cv) } c → foot g d c ∨ w2.heap.size ≤ c) := Lib.hid (fun c hc => by
        rcases foot_set c hc with h1 | h1
        · exact .inl h1
        · exact .inl (.inr (.inr (.inr (.inr (.inr ⟨_, List.mem_of_getElem? q2, by rw [h1]; cases Av <;> rfl⟩))))))
      have k0 : w2.cell? ⟨b', 0, none⟩ = some (.slice Av xn cv) := by rw [← hxn]; exact row_cell q4 0
      have k1 : w2.cell? ⟨b', 1, none⟩ = some (.int .i64 (x.safe : Int)) := row_cell q4 1
      have f1 := row_froz (j := 1) q4
      rw [hxn] at hxl
      clear q1 q2 q3 q4 q5 ha2 hr1 hxn
      go_wp2_with fail
      go_ret
      exact ⟨rfl, _, A2.out.trans (Aft.mk HD.out HF2.out HEX.out)⟩
    · rw [if_neg (by rw [hs]; decide)] at e0
      rw [e0]
      rw [hs] at HST ⊢
      obtain ⟨m1, hm1⟩ : ∃ m1, (stepM m).1 = m1 := ⟨_, rfl⟩
      rw [hm1] at HST ⊢
      clear e0 hf hdn hfn hb e2 hs hm1
      go_enter Try.func16, Try.ntmps16
      go_wp2_with fail
      refine HFI.out.mono ?_
      rintro e w1 ⟨rfl, rfl⟩
      go_wp2_with fail
      refine HST.out.mono ?_
      rintro e w2 ⟨rfl, ha2⟩
      have A2 := Lib.hid ha2
      clear ha2
      go_wp2_with fail
      go_ret
      exact ⟨rfl, d, A2.out⟩
  · have e0 : syncM m S.data.toList = (m, e) := by unfold syncM; rw [hf]
    rw [e0]
    rw [hf] at HFI
    have e2 : ptrO d.bs none = .pointer none := rfl
    rw [e2] at HFI
    clear e0 hf e2
    rcases he with rfl | rfl
    all_goals (
      go_enter Try.func16, Try.ntmps16
      go_wp2_with fail
      refine HFI.out.mono ?_
      rintro e w1 ⟨rfl, rfl⟩
      go_wp2_with fail
      go_ret
      exact ⟨rfl, d, Aft.refl H.out⟩)

set_option maxRecDepth 100000 in
set_option maxHeartbeats 4000000 in
theorem read_any (N g : Nat) (m : DM) (d : DA) (S : ByteArray) (hS : S.size ≤ maxLen) (w : World) (h : DiskIn N w g m d) (hB : Bnd m) (hI : IdsOk m) :
    Calls Try.prog 18 #[.pointer (some ⟨g, 0, none⟩), .string S] w fun e w' => ∃ v, e = .returned (.tuple #[v, .int .i64 (readM m S.data.toList).2]) ∧ Own8 w.heap.size w w' v (readM m S.data.toList).1 := by
  have H := Lib.hid h
  have HFI := Lib.hid (find_any N g m d S hS w h)
  clear h
  rcases find_cases m S.data.toList with ⟨f, hf, hdn, hfn⟩ | ⟨e, hf, he⟩
  · have hfl : f < m.files.length := hI.now _ (find_mem hfn)
    have e0 : readM m S.data.toList = ((fileM m f).b, 0) := by unfold readM; rw [hf]
    rw [hf] at HFI
    obtain ⟨b, hb⟩ : ∃ b, d.bs.getD f 0 = b := ⟨_, rfl⟩
    have e2 : ptrO d.bs (some f) = .pointer (some ⟨b, 0, none⟩) := by rw [← hb]; rfl
    rw [e2] at HFI
    rw [e0]
    obtain ⟨x, hx⟩ : ∃ x, fileM m f = x := ⟨_, rfl⟩
    have hxf : m.files[f]? = some x := by
      rw [← hx]; unfold fileM; simp [List.getD, hfl]
    have hxl := (hB.len x (List.mem_of_getElem? hxf)).1
    rw [hx]
    obtain ⟨b', v, q1, q2, q3, q4, q5⟩ := H.out.row_of hxf
    have hbb : b' = b := by rw [← q3, hb]
    subst hbb
    obtain ⟨Av, cv, rfl, _⟩ := own_slice q5
    have k0 : w.cell? ⟨b', 0, none⟩ = some (.slice Av x.b.length cv) := row_cell q4 0
    have HCL := Lib.hid (clone_any Av x.b cv w (own_rd q5) (by omega))
    clear q1 q2 q3 q4 q5 e0 hf hdn hfn hb e2 hxf hx hfl
    go_enter Try.func18, Try.ntmps18
    go_wp2_with fail
    refine HFI.out.mono ?_
    rintro e w1 ⟨rfl, rfl⟩
    go_wp2_with fail
    refine HCL.out.mono ?_
    rintro e w2 ⟨v2, rfl, hown⟩
    have HO := Lib.hid hown
    clear hown
    go_wp2_with fail
    go_ret2
    exact ⟨_, rfl, HO.out⟩
  · have e0 : readM m S.data.toList = ([], e) := by unfold readM; rw [hf]
    rw [e0]
    rw [hf] at HFI
    have e2 : ptrO d.bs none = .pointer none := rfl
    rw [e2] at HFI
    clear e0 hf e2
    rcases he with rfl | rfl
    all_goals (
      go_enter Try.func18, Try.ntmps18
      go_wp2_with fail
      refine HFI.out.mono ?_
      rintro e w1 ⟨rfl, rfl⟩
      go_wp2_with fail
      go_ret2
      exact ⟨_, rfl, Own8.nil _ _ _ (Below.refl _ _) (Nat.le_refl _)⟩)
end Go.Proofs.Ytpmifpblamjclaa
