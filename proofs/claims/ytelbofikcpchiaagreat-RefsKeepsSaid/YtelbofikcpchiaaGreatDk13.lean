
/- What a disk's calls keep of its bounds. -/

import Derived.Test.YtelbofikcpchiaaGreatDk12

namespace Go.Proofs.YtelbofikcpchiaaGreat

set_option linter.unusedVariables false

set_option linter.unusedSimpArgs false

set_option linter.unusedSectionVars false

structure Fit (K L : Nat) (m : DM) : Prop where
  fuse : m.fuse ≤ 9223372036854775807
  most : m.most ≤ 9223372036854775807
  now : m.now.length ≤ K
  st : m.sure.length + m.turns.length ≤ K
  files : m.files.length ≤ K
  len : ∀ f ∈ m.files, f.b.length ≤ L ∧ f.safe ≤ f.b.length
  rn : risesN m.now
  rs : risesN m.sure
  tl : ∀ t ∈ m.turns, t.fr.length ≤ 100 ∧ t.to_.length ≤ 100
  nl : ∀ p ∈ m.now, p.1.length ≤ 100
  sl : ∀ p ∈ m.sure, p.1.length ≤ 100
  ids : IdsOk m
section

variable {K L : Nat} {m : DM}

theorem Fit.bnd (h : Fit K L m) (hK : K < 1000000) (hL : L ≤ 1099511627776) : Bnd m := by
  have h1 := h.now
  have h2 := h.st
  have h3 := h.files
  exact ⟨h.fuse, h.most, by omega, by omega, by omega, by omega, fun f hf => ⟨Nat.le_trans (h.len f hf).1 hL, (h.len f hf).2⟩, h.rn, h.rs, h.tl, h.nl, h.sl⟩
theorem Fit.mono {K' L' : Nat} (h : Fit K L m) (hK : K ≤ K') (hL : L ≤ L') : Fit K' L' m :=
  ⟨h.fuse, h.most, Nat.le_trans h.now hK, Nat.le_trans h.st hK, Nat.le_trans h.files hK, fun f hf => ⟨Nat.le_trans (h.len f hf).1 hL, (h.len f hf).2⟩, h.rn, h.rs, h.tl, h.nl, h.sl, h.ids⟩
theorem fit_new (n : Int) (hn : n ≤ 9223372036854775807) : Fit 0 0 (newM n) := by
  refine ⟨by simp [newM], by dsimp only [newM]; omega, by simp [newM], by simp [newM], by simp [newM], by simp [newM], .nil, .nil, by simp [newM], by simp [newM], by simp [newM], ⟨by simp [newM], by simp [newM], by simp [newM]⟩⟩
theorem Fit.step (h : Fit K L m) : Fit K L (stepM m).1 := by
  obtain ⟨e1, e2, e3, e4, e5⟩ := step_same m
  have hf : (stepM m).1.fuse ≤ m.fuse := by
    unfold stepM
    split
    · split
      · exact Nat.zero_le _
      · exact Nat.sub_le _ _
    · exact Nat.le_refl _
  exact ⟨Nat.le_trans hf h.fuse, by rw [e5]; exact h.most, by rw [e1]; exact h.now, by rw [e2, e3]; exact h.st, by rw [e4]; exact h.files, by rw [e4]; exact h.len, by rw [e1]; exact h.rn, by rw [e2]; exact h.rs, by rw [e3]; exact h.tl, by rw [e1]; exact h.nl, by rw [e2]; exact h.sl, ⟨by rw [e1, e4]; exact h.ids.now, by rw [e2, e4]; exact h.ids.sure, by rw [e3, e4]; exact h.ids.turns⟩⟩
theorem Fit.turn (h : Fit K L m) (t : TM) (h1 : t.fr.length ≤ 100) (h2 : t.to_.length ≤ 100) (h3 : t.to_ = [] ∨ t.f < m.files.length) : Fit (K + 1) L (turnM m t).1 := by
  have hs := h.step
  have e4 := (step_same m).2.2.2.1
  unfold turnM
  dsimp only
  split
  · have hn := doN_len (stepM m).1.now t
    refine ⟨hs.fuse, hs.most, ?_, ?_, Nat.le_succ_of_le hs.files, hs.len, risesN_do hs.rn t, hs.rs, ?_, ?_, hs.sl, ⟨?_, hs.ids.sure, ?_⟩⟩
    · have := hs.now
      dsimp only
      omega
    · have := hs.st
      simp only [List.length_append, List.length_cons, List.length_nil]
      omega
    · intro u hu
      rcases List.mem_append.1 hu with h' | h'
      · exact hs.tl u h'
      · simp at h'
        subst h'
        exact ⟨h1, h2⟩
    · intro p hp
      rcases doN_mem hp with h' | ⟨rfl, _⟩
      · exact hs.nl p h'
      · exact h2
    · intro p hp
      rcases doN_mem hp with h' | ⟨rfl, h'⟩
      · exact hs.ids.now p h'
      · rcases h3 with h3 | h3
        · exact absurd h3 h'
        · dsimp only
          rw [e4]
          exact h3
    · intro u hu
      rcases List.mem_append.1 hu with h' | h'
      · exact hs.ids.turns u h'
      · simp at h'
        subst h'
        dsimp only
        rw [e4]
        exact h3
  · exact hs.mono (by omega) (Nat.le_refl _)
theorem namedB_len {s : List UInt8} (h : namedB s = true) : s.length ≤ 100 := by
  unfold namedB at h
  simp at h
  exact h.2
theorem Fit.create (h : Fit K L m) (s : List UInt8) : Fit (K + 1) L (createM m s).1 := by
  have hm := h.mono (Nat.le_succ K) (Nat.le_refl L)
  unfold createM
  split
  · exact hm
  split
  · exact hm
  rename_i hn
  split
  · exact hm
  split
  · exact hm
  split
  · have h0 : Fit K L m := h
    -- with one more file
    have e4 := (step_same { m with files := m.files ++ [⟨[], 0⟩] })
    have hs := h.step
    unfold turnM
    dsimp only
    obtain ⟨q1, q2, q3, q4, q5⟩ := e4
    have hfz : (stepM { m with files := m.files ++ [⟨[], 0⟩] }).1.fuse ≤ m.fuse := by
      unfold stepM
      dsimp only
      split
      · split
        · exact Nat.zero_le _
        · exact Nat.sub_le _ _
      · exact Nat.le_refl _
    have hlen : ∀ f ∈ m.files ++ [(⟨[], 0⟩ : FM)], f.b.length ≤ L ∧ f.safe ≤ f.b.length := fun f hf => by
      rcases List.mem_append.1 hf with h' | h'
      · exact h.len f h'
      · simp at h'
        subst h'
        exact ⟨Nat.zero_le _, Nat.le_refl _⟩
    have hfl : (m.files ++ [(⟨[], 0⟩ : FM)]).length = m.files.length + 1 := by simp
    have hnl : s.length ≤ 100 := namedB_len (by simpa using hn)
    split
    · have hn := doN_len (stepM { m with files := m.files ++ [⟨[], 0⟩] }).1.now ⟨[], s, m.files.length⟩
      refine ⟨Nat.le_trans hfz h.fuse, by dsimp only; rw [q5]; exact h.most, ?_, ?_, by dsimp only; rw [q4]; dsimp only; rw [hfl]; have := h.files; omega, by dsimp only; rw [q4]; exact hlen, ?_, by dsimp only; rw [q2]; exact h.rs, ?_, ?_, by dsimp only; rw [q2]; exact h.sl, ⟨?_, ?_, ?_⟩⟩
      · dsimp only
        rw [q1] at hn ⊢
        have := h.now
        dsimp only at hn ⊢
        omega
      · dsimp only
        rw [q2, q3]
        have := h.st
        simp only [List.length_append, List.length_cons, List.length_nil]
        omega
      · dsimp only
        rw [q1]
        exact risesN_do h.rn _
      · dsimp only
        rw [q3]
        intro u hu
        rcases List.mem_append.1 hu with h' | h'
        · exact h.tl u h'
        · simp at h'
          subst h'
          exact ⟨Nat.zero_le _, hnl⟩
      · dsimp only
        rw [q1]
        intro p hp
        rcases doN_mem hp with h' | ⟨rfl, _⟩
        · exact h.nl p h'
        · exact hnl
      · dsimp only
        rw [q1, q4]
        dsimp only
        rw [hfl]
        intro p hp
        rcases doN_mem hp with h' | ⟨rfl, _⟩
        · have := h.ids.now p h'
          omega
        · exact Nat.lt_succ_self _
      · dsimp only
        rw [q2, q4]
        dsimp only
        rw [hfl]
        intro p hp
        have := h.ids.sure p hp
        omega
      · dsimp only
        rw [q3, q4]
        dsimp only
        rw [hfl]
        intro u hu
        rcases List.mem_append.1 hu with h' | h'
        · rcases h.ids.turns u h' with h2 | h2
          · exact .inl h2
          · exact .inr (by omega)
        · simp at h'
          subst h'
          exact .inr (Nat.lt_succ_self _)
    · refine ⟨Nat.le_trans hfz h.fuse, by rw [q5]; exact h.most, ?_, ?_, by rw [q4]; dsimp only; rw [hfl]; have := h.files; omega, by rw [q4]; exact hlen, by rw [q1]; exact h.rn, by rw [q2]; exact h.rs, by rw [q3]; exact h.tl, by rw [q1]; exact h.nl, by rw [q2]; exact h.sl, ⟨?_, ?_, ?_⟩⟩
      · rw [q1]; have := h.now; dsimp only; omega
      · rw [q2, q3]; have := h.st; dsimp only; omega
      · rw [q1, q4]; dsimp only; rw [hfl]; intro p hp; have := h.ids.now p hp; omega
      · rw [q2, q4]; dsimp only; rw [hfl]; intro p hp; have := h.ids.sure p hp; omega
      · rw [q3, q4]; dsimp only; rw [hfl]; intro u hu
        rcases h.ids.turns u hu with h2 | h2
        · exact .inl h2
        · exact .inr (by omega)
  · exact h.step.mono (Nat.le_succ K) (Nat.le_refl L)
theorem Fit.setF (h : Fit K L m) (f : Nat) (x : FM) (h1 : x.b.length ≤ L ∧ x.safe ≤ x.b.length) : Fit K L (setF m f x) :=
  ⟨h.fuse, h.most, h.now, h.st, by simpa [Go.Proofs.YtelbofikcpchiaaGreat.setF] using h.files, fun y hy => by
    dsimp only [Go.Proofs.YtelbofikcpchiaaGreat.setF] at hy
    rcases List.mem_or_eq_of_mem_set hy with h' | h'
    · exact h.len y h'
    · rw [h']; exact h1, h.rn, h.rs, h.tl, h.nl, h.sl, ⟨by simpa [Go.Proofs.YtelbofikcpchiaaGreat.setF] using h.ids.now, by simpa [Go.Proofs.YtelbofikcpchiaaGreat.setF] using h.ids.sure, by simpa [Go.Proofs.YtelbofikcpchiaaGreat.setF] using h.ids.turns⟩⟩
theorem Fit.fileM (h : Fit K L m) (f : Nat) : (fileM m f).b.length ≤ L ∧ (fileM m f).safe ≤ (fileM m f).b.length := by
  unfold Go.Proofs.YtelbofikcpchiaaGreat.fileM
  rw [List.getD]
  cases hf : m.files[f]? with
  | none => exact ⟨Nat.zero_le _, Nat.le_refl _⟩
  | some x => exact h.len x (List.mem_of_getElem? hf)
theorem Fit.append (h : Fit K L m) (s b : List UInt8) : Fit K (L + b.length) (appendM m s b).1 := by
  have hm : Fit K (L + b.length) m := h.mono (Nat.le_refl _) (by omega)
  unfold appendM
  split
  · exact hm
  · rename_i f _ _
    split
    · exact hm
    · split
      · refine hm.step.setF f _ ?_
        have := h.fileM f
        dsimp only
        rw [List.length_append]
        omega
      · exact hm.step
theorem Fit.sync (h : Fit K L m) (s : List UInt8) : Fit K L (syncM m s).1 := by
  unfold syncM
  split
  · exact h
  · rename_i f _ _
    split
    · refine h.step.setF f _ ?_
      have := h.fileM f
      exact ⟨this.1, Nat.le_refl _⟩
    · exact h.step
theorem Fit.flush (h : Fit K L m) : Fit K L (flushM m).1 := by
  unfold flushM
  split
  · exact h
  · split
    · have hs := h.step
      have e1 := (step_same m).1
      rw [← e1]
      exact ⟨hs.fuse, hs.most, hs.now, by have := hs.now; simpa using this, hs.files, hs.len, hs.rn, hs.rn, by simp, hs.nl, hs.nl, ⟨hs.ids.now, hs.ids.now, by simp⟩⟩
    · exact h.step
theorem Fit.rename (h : Fit K L m) (s t : List UInt8) : Fit (K + 1) L (renameM m s t).1 := by
  have hm := h.mono (Nat.le_succ K) (Nat.le_refl L)
  unfold renameM
  split
  · exact hm
  · rename_i hb
    rcases find_cases m s with ⟨f, hf, hd, hfn⟩ | ⟨e, hf, _⟩
    · rw [hf]
      have hmem := find_mem hfn
      exact h.turn _ (h.nl _ hmem) (namedB_len (by
        cases hn : namedB t with
        | true => rfl
        | false => exact absurd ⟨hd, hn⟩ hb)) (.inr (h.ids.now _ hmem))
    · rw [hf]
      exact hm
theorem Fit.remove (h : Fit K L m) (s : List UInt8) : Fit (K + 1) L (removeM m s).1 := by
  have hm := h.mono (Nat.le_succ K) (Nat.le_refl L)
  unfold removeM
  rcases find_cases m s with ⟨f, hf, hd, hfn⟩ | ⟨e, hf, _⟩
  · rw [hf]
    have hmem := find_mem hfn
    exact h.turn _ (h.nl _ hmem) (Nat.zero_le _) (.inl rfl)
  · rw [hf]
    exact hm
theorem Fit.fail (h : Fit K L m) (n : Int) (hn : n ≤ 9223372036854775807) : Fit K L (failM m n) :=
  ⟨by dsimp only [failM]; omega, h.most, h.now, h.st, h.files, h.len, h.rn, h.rs, h.tl, h.nl, h.sl, ⟨h.ids.now, h.ids.sure, h.ids.turns⟩⟩
theorem Fit.crash0 (h : Fit K L m) (turns : Int) : Fit K L (crash0 m turns) := by
  have hI := crash0_ids h.ids turns
  have h1 := foldN_len (m.turns.take (min (max turns 0) m.turns.length).toNat) m.sure
  rw [List.length_take] at h1
  have h2 : ∀ p ∈ (m.turns.take (min (max turns 0) m.turns.length).toNat).foldl doN m.sure, p.1.length ≤ 100 := fun p hp => by
    rcases foldN_mem _ hp with h' | ⟨t, ht, rfl, _⟩
    · exact h.sl p h'
    · exact (h.tl t (List.mem_of_mem_take ht)).2
  have h3 := foldN_rises (m.turns.take (min (max turns 0) m.turns.length).toNat) h.rs
  have h4 := h.st
  exact ⟨by simp [Go.Proofs.YtelbofikcpchiaaGreat.crash0], h.most, by dsimp only [Go.Proofs.YtelbofikcpchiaaGreat.crash0]; omega, by simp only [Go.Proofs.YtelbofikcpchiaaGreat.crash0, List.length_nil]; omega, h.files, h.len, h3, h3, by simp [Go.Proofs.YtelbofikcpchiaaGreat.crash0], h2, h2, hI⟩
theorem Fit.cut : ∀ (ns : NM) (keep : List Int) {m : DM}, Fit K L m → Fit K L (cutM ns keep m)
  | [], _, m, h => h
  | p :: ns, keep, m, h => by
    rw [cutM.eq_def]
    dsimp only
    split
    · exact Fit.cut ns keep h
    · refine Fit.cut ns keep.tail (h.setF p.2 _ ?_)
      have hx := h.fileM p.2
      rename_i hlo
      cases keep with
      | nil =>
        dsimp only
        rw [List.length_take]
        omega
      | cons z r =>
        dsimp only
        rw [List.length_take]
        omega
theorem Fit.crash (h : Fit K L m) (turns : Int) (keep : List Int) : Fit K L (crashM m turns keep) := by
  rw [crashM_eq]
  exact Fit.cut _ _ (h.crash0 turns)
end

end Go.Proofs.YtelbofikcpchiaaGreat
