
/- A disk's calls that turn names: New, Create, Rename, Remove, Flush. -/

import Derived.Test.YtpmifpblamjclaaDk4

import Derived.Test.YtpmifpblamjclaaDkLay

namespace Go.Proofs.Ytpmifpblamjclaa

set_option linter.unusedVariables false

set_option linter.unusedSimpArgs false

set_option linter.unusedSectionVars false

open Go.RowKit

/-- all numbers are files' -/
structure IdsOk (m : DM) : Prop where
  now : ∀ p ∈ m.now, p.2 < m.files.length
  sure : ∀ p ∈ m.sure, p.2 < m.files.length
  turns : ∀ t ∈ m.turns, t.to_ = [] ∨ t.f < m.files.length
theorem namesD_more {bs : List Nat} {ns : NM} (x : Nat) (h : ∀ p ∈ ns, p.2 < bs.length) : namesD (bs ++ [x]) ns = namesD bs ns := by
  unfold namesD
  congr 1
  refine List.map_congr_left fun p hp => ?_
  unfold entD fileD
  have := h p hp
  simp [List.getD, List.getElem?_append_left this]
theorem turnsC_more {bs : List Nat} {ts : List TM} (x : Nat) (h : ∀ t ∈ ts, t.to_ = [] ∨ t.f < bs.length) : turnsC (bs ++ [x]) ts = turnsC bs ts := by
  unfold turnsC
  simp only [List.flatMap]
  congr 1
  refine List.map_congr_left fun t ht => ?_
  unfold turnC ptrV
  rcases h t ht with h | h
  · rw [if_pos h, if_pos h]
  · simp [List.getD, List.getElem?_append_left h]
section

variable {N g : Nat} {w w' : World} {m : DM} {d : DA}

/-- a file more, behind the heap -/
theorem DiskIn.newFile (h : DiskIn N w g m d) (hi : IdsOk m) : DiskIn N (w.alloc (.cells #[.slice none 0 0, .int .i64 0] 75)) g { m with files := m.files ++ [⟨[], 0⟩] } { d with bs := d.bs ++ [w.heap.size], vs := d.vs ++ [.slice none 0 0] } := by
  have hb : Below w.heap.size w (w.alloc (.cells #[.slice none 0 0, .int .i64 0] 75)) := (Below.refl _ _).alloc (Nat.le_refl _) _
  have h' := h.below hb
  have hlb := h.lb
  have hlv := h.lv
  refine ⟨h'.row, ?_, ?_, ?_, by simp [hlb], by simp [hlv], ?_, ?_, ?_, h.ne, ⟨h.base.1, h.base.2.1, h.base.2.2.1, ?_⟩⟩
  · show World.ownsMap _ _ _ _ _ _ (namesD (d.bs ++ _) _)
    rw [namesD_more _ (by rw [hlb]; exact hi.now)]
    exact h'.now
  · show World.ownsMap _ _ _ _ _ _ (namesD (d.bs ++ _) _)
    rw [namesD_more _ (by rw [hlb]; exact hi.sure)]
    exact h'.sure
  · show World.ownsRow _ _ _ _ _ _ (turnsC (d.bs ++ _) _)
    rw [turnsC_more _ (by rw [hlb]; exact hi.turns)]
    exact h'.turns
  · intro i b v f h1 h2 h3
    dsimp only at h1 h2 h3
    by_cases hlt : i < m.files.length
    · rw [List.getElem?_append_left (by omega)] at h1 h2 h3
      exact h'.file i b v f h1 h2 h3
    · have e : i = m.files.length := by
        have := (List.getElem?_eq_some_iff.1 h3).1
        simp at this
        omega
      subst e
      rw [List.getElem?_append_right (by omega)] at h1 h2 h3
      rw [hlb] at h1
      rw [hlv] at h2
      simp at h1 h2 h3
      subst h1 h2 h3
      exact ⟨heap_alloc_new w _, World.ownsRow_nil _ _ _ _⟩
  · refine List.nodup_append.2 ⟨h.nb, by simp, fun a ha b hb' => ?_⟩
    have := h.foot_lt (b := a) (.inr (.inr (.inr (.inr (.inl ha)))))
    rw [List.mem_singleton.1 hb']
    omega
  · intro i j v v' hij h1 h2
    dsimp only at h1 h2
    by_cases hlt : i < d.vs.length
    · by_cases hlt2 : j < d.vs.length
      · rw [List.getElem?_append_left hlt] at h1
        rw [List.getElem?_append_left hlt2] at h2
        exact h.nv i j v v' hij h1 h2
      · rw [List.getElem?_append_right (by omega)] at h2
        have : v' = .slice none 0 0 := by
          have hh := List.mem_of_getElem? h2
          simpa using hh
        subst this
        by_cases e : v.ownBlock = none
        · exact .inl e
        · exact .inr e
    · rw [List.getElem?_append_right (by omega)] at h1
      have : v = .slice none 0 0 := by
        have hh := List.mem_of_getElem? h1
        simpa using hh
      subst this
      exact .inl rfl
  · intro b hb'
    rcases List.mem_append.1 hb' with h1 | h1
    · exact h.base.2.2.2 b h1
    · rw [List.mem_singleton.1 h1]
      exact h.size
theorem DiskIn.newFile_ext {x : Nat} : ∀ b, foot g { d with bs := d.bs ++ [x], vs := d.vs ++ [.slice none 0 0] } b → foot g d b ∨ b = x := by
  intro b hb
  rcases hb with h1 | h1 | h1 | h1 | h1 | ⟨v, h1, h2⟩
  · exact .inl (.inl h1)
  · exact .inl (.inr (.inl h1))
  · exact .inl (.inr (.inr (.inl h1)))
  · exact .inl (.inr (.inr (.inr (.inl h1))))
  · rcases List.mem_append.1 h1 with h | h
    · exact .inl (.inr (.inr (.inr (.inr (.inl h)))))
    · exact .inr (List.mem_singleton.1 h)
  · rcases List.mem_append.1 h1 with h | h
    · exact .inl (.inr (.inr (.inr (.inr (.inr ⟨v, h, h2⟩)))))
    · rw [List.mem_singleton.1 h] at h2
      cases h2
end

theorem step_files (m : DM) (fs : List FM) : stepM { m with files := fs } = ({ (stepM m).1 with files := fs }, (stepM m).2) := by
  unfold stepM
  split
  · split <;> rfl
  · rfl
theorem turn_bad {m : DM} {t : TM} (h : (stepM m).2 = 50) : turnM m t = stepM m := by
  unfold turnM
  dsimp only
  rw [if_neg (by rw [h]; decide)]

theorem disk_built (a b : Nat) (n : Int) : Try.prog.built 69 [(0, .map (some a)), (1, .map (some b)), (3, .int .i64 n)] = some #[.map (some a), .map (some b), .slice none 0 0, .int .i64 n, .int .i64 0, .bool false] := by kernel_rfl

set_option maxRecDepth 100000 in
set_option maxHeartbeats 4000000 in
theorem new_any (n : Int) (hn : -9223372036854775808 ≤ n ∧ n ≤ 9223372036854775807) (w : World) :
    Calls Try.prog 9 #[.int .i64 n] w fun e w' => ∃ g d, e = .returned (.pointer (some ⟨g, 0, none⟩)) ∧ DiskIn w.heap.size w' g (newM n) d ∧ Below w.heap.size w w' := by
  have hmx := fun (w : World) => run_max2c (P := Try.prog) w #[3, 3] 3 .i64 .i64 n 0
  have hmm := @run_makeMap Try.prog
  have HDB := Lib.hid (disk_built w.heap.size (w.heap.size + 1) (max n 0))
  go_enter Try.func9, Try.ntmps9
  go_wp2_with (first
    | ((with_reducible (refine wpList_built ?_ _ #[(0, .tmp 3), (1, .tmp 4), (3, .tmp 6)] ?_ _ ?_ _ HDB.out ?_)); (exact rfl); (exact rfl); (exact rfl)))
  go_ret
  have e1 : ((w.alloc (.map #[] 0)).alloc (.map #[] 0)).heap.size = w.heap.size + 2 := by simp
  have e0 : (w.alloc (.map #[] 0)).heap.size = w.heap.size + 1 := by simp
  have hO1 : ((w.alloc (.map #[] 0)).alloc (.map #[] 0)).ownsMap Try.prog 9 ptrR w.heap.size 0 (namesD [] []) := (World.ownsMap_made w _ _ _).alloc _
  have hO2 := World.ownsMap_made (w.alloc (.map #[] 0)) Try.prog 9 ptrR
  rw [e0] at hO2
  refine ⟨w.heap.size + 2, ⟨w.heap.size, w.heap.size + 1, .slice none 0 0, [], []⟩, rfl, ?_, ?_⟩
  · refine ⟨?_, hO1.alloc _, hO2.alloc _, World.ownsRow_nil _ _ _ _, rfl, rfl, ?_, List.nodup_nil, ?_, ?_, ?_⟩
    · have := heap_alloc_new ((w.alloc (.map #[] 0)).alloc (.map #[] 0)) (.cells #[.map (some w.heap.size), .map (some (w.heap.size + 1)), .slice none 0 0, .int .i64 (max n 0), .int .i64 0, .bool false] 69)
      rw [e1] at this
      have e : (((max n 0).toNat : Nat) : Int) = max n 0 := by omega
      simp only [rowD, newM]
      rw [e]
      exact this
    · intro i b v f h1; simp at h1
    · intro i j v v' _ h1; simp at h1
    · show w.heap.size ≠ w.heap.size + 1; omega
    · exact ⟨by omega, Nat.le_refl _, by show _ ≤ w.heap.size + 1; omega, fun b hb => by cases hb⟩
  · exact (((Below.refl _ w).alloc (Nat.le_refl _) _).alloc (by simp) _).alloc (by simp; omega) _
theorem file_built : Try.prog.built 75 [] = some #[.slice none 0 0, .int .i64 0] := by kernel_rfl
theorem turn_built2 (s : ByteArray) (p : Option Addr) : Try.prog.built 77 [(1, .string s), (2, .pointer p)] = some #[.string ⟨#[]⟩, .string s, .pointer p] := by kernel_rfl
theorem turn_built3 (r s : ByteArray) (p : Option Addr) : Try.prog.built 77 [(0, .string r), (1, .string s), (2, .pointer p)] = some #[.string r, .string s, .pointer p] := by kernel_rfl
theorem turn_built1 (r : ByteArray) : Try.prog.built 77 [(0, .string r)] = some #[.string r, .string ⟨#[]⟩, .pointer none] := by kernel_rfl
/-- bounds that a disk keeps -/
structure Bnd (m : DM) : Prop where
  fuse : m.fuse ≤ 9223372036854775807
  most : m.most ≤ 9223372036854775807
  now : m.now.length < 1000000
  sure : m.sure.length < 1000000
  turns : m.turns.length ≤ 1000000
  files : m.files.length ≤ 1000000
  len : ∀ f ∈ m.files, f.b.length ≤ 1099511627776 ∧ f.safe ≤ f.b.length
  rn : risesN m.now
  rs : risesN m.sure
  tl : ∀ t ∈ m.turns, t.fr.length ≤ 100 ∧ t.to_.length ≤ 100
  nl : ∀ p ∈ m.now, p.1.length ≤ 100
  sl : ∀ p ∈ m.sure, p.1.length ≤ 100

set_option maxRecDepth 100000 in
set_option maxHeartbeats 4000000 in
theorem create_any (N g : Nat) (m : DM) (d : DA) (S : ByteArray) (hS : S.size ≤ maxLen) (w : World) (h : DiskIn N w g m d) (hB : Bnd m) (hI : IdsOk m) :
    Calls Try.prog 11 #[.pointer (some ⟨g, 0, none⟩), .string S] w fun e w' => e = .returned (.int .i64 (createM m S.data.toList).2) ∧ ∃ d', Aft N g w w' (createM m S.data.toList).1 d d' := by
  have H := Lib.hid h
  obtain ⟨c0, c1, c2, c3, c4, c5⟩ := h.cells
  have hlk := look_any h.now S hS
  have hln := h.now.len Try.underlying66 3
  rw [namesD_size] at hln
  have HN := Lib.hid (named_any S w)
  have HBD := Lib.hid hB
  have HID := Lib.hid hI
  clear c1 c2 c3 c4 h hI
  cases hd : m.down with
  | true =>
    have e1 : createM m S.data.toList = (m, 50) := by simp [createM, hd]
    rw [e1]
    rw [hd] at c5
    clear hd e1 hlk hln
    go_enter Try.func11, Try.ntmps11
    go_wp2_with fail
    go_ret
    exact ⟨rfl, d, Aft.refl H.out⟩
  | false =>
  rw [hd] at c5
  cases hnm : namedB S.data.toList with
  | false =>
    have e1 : createM m S.data.toList = (m, 1) := by simp [createM, hd, hnm]
    rw [e1]
    rw [hnm] at HN
    clear hd e1 hlk hln hnm
    go_enter Try.func11, Try.ntmps11
    go_wp2_with fail
    refine HN.out.mono ?_
    rintro e w1 ⟨rfl, rfl⟩
    go_wp2_with fail
    go_ret
    exact ⟨rfl, d, Aft.refl H.out⟩
  | true =>
  rw [hnm] at HN
  have hne : S.data.toList ≠ [] := by
    intro e
    rw [e] at hnm
    cases hnm
  cases hfn : findN m.now S.data.toList with
  | some f =>
    have e1 : createM m S.data.toList = (m, 5) := by simp [createM, hd, hnm, hfn]
    rw [e1]
    rw [hfn] at hlk
    obtain ⟨b, hb⟩ : ∃ b, d.bs.getD f 0 = b := ⟨_, rfl⟩
    have e2 : ptrO d.bs (some f) = .pointer (some ⟨b, 0, none⟩) := by rw [← hb]; rfl
    rw [e2] at hlk
    clear hd e1 hln hnm hfn hb e2
    go_enter Try.func11, Try.ntmps11
    go_wp2_with fail
    refine HN.out.mono ?_
    rintro e w1 ⟨rfl, rfl⟩
    go_wp2_with fail
    go_ret
    exact ⟨rfl, d, Aft.refl H.out⟩
  | none =>
  rw [hfn] at hlk
  replace hlk : (Instr.lookup 66 (.map (some d.mb)) (.string S) false).run Try.prog w = .ok (.pointer none) w := hlk
  obtain ⟨q, hq⟩ : ∃ q, m.now.length = q := ⟨_, rfl⟩
  rw [hq] at hln
  by_cases hmany : 4096 ≤ q
  · have e1 : createM m S.data.toList = (m, 3) := by simp [createM, hd, hnm, hfn, hq, hmany]
    rw [e1]
    have j1 : (4096 : Int) ≤ (q : Int) := by omega
    clear hd e1 hnm hfn hq hmany
    go_enter Try.func11, Try.ntmps11
    go_wp2_with fail
    refine HN.out.mono ?_
    rintro e w1 ⟨rfl, rfl⟩
    go_wp2_with fail
    go_ret
    exact ⟨rfl, d, Aft.refl H.out⟩
  have j1 : ¬ ((4096 : Int) ≤ (q : Int)) := by omega
  have j2 : decide ((4096 : Int) ≤ (q : Int)) = false := decide_eq_false j1
  obtain ⟨W1, hW1⟩ : ∃ W, w.alloc (.cells #[.slice none 0 0, .int .i64 0] 75) = W := ⟨_, rfl⟩
  have HFB := Lib.hid file_built
  have HTB := Lib.hid (turn_built2 S (some ⟨w.heap.size, 0, none⟩))
  have HES : Hid ((⟨#[]⟩ : ByteArray).data.toList = []) := Lib.hid rfl
  rcases step_cases m with hs | hs
  · have e1 : createM m S.data.toList = turnM { m with files := m.files ++ [⟨[], 0⟩] } ⟨[], S.data.toList, m.files.length⟩ := by
      simp only [createM, hd, hnm, hfn, hq]
      simp [hmany, hs]
    rw [e1]
    have H1 := H.out.newFile HID.out
    rw [hW1] at H1
    have HH1 := Lib.hid H1
    have HTU := Lib.hid (turn_any N g { m with files := m.files ++ [⟨[], 0⟩] } { d with bs := d.bs ++ [w.heap.size], vs := d.vs ++ [.slice none 0 0] } ⟨#[]⟩ S (some ⟨w.heap.size, 0, none⟩) m.files.length W1 H1 hB.fuse (by have := hB.now; show m.now.length < _; omega) (by have := hB.turns; show m.turns.length ≤ _; omega) (by decide) hS
      (fun _ => ⟨fun _ => by rw [← H.out.lb]; simp [List.getD], fun e => absurd e hne⟩))
    have HA1 : Hid (Frm (foot g d) w W1) := Lib.hid (by rw [← hW1]; exact Frm.of_below ((Below.refl _ _).alloc (Nat.le_refl _) _))
    clear H1 hd e1 hnm hfn hq hmany hs hne
    go_enter Try.func11, Try.ntmps11
    go_wp2_with fail
    refine HN.out.mono ?_
    rintro e w1 ⟨rfl, rfl⟩
    go_wp2_with (first
      | ((with_reducible (refine wpList_built ?_ _ #[] ?_ _ ?_ _ HFB.out ?_)); (exact rfl); (exact rfl); (exact rfl))
      | ((with_reducible (refine wpList_built ?_ _ #[(1, .tmp 30), (2, .tmp 32)] ?_ _ ?_ _ HTB.out ?_)); (exact rfl); (exact rfl); (exact rfl)))
    refine HTU.out.mono ?_
    rintro e w2 ⟨rfl, d2, ha2, _, _⟩
    have A2 := Lib.hid ha2
    clear ha2
    go_wp2_with fail
    go_ret
    refine ⟨rfl, d2, A2.out.disk, HA1.out.trans A2.out.frm (fun i hi => ?_), fun b hb => ?_⟩
    · rcases DiskIn.newFile_ext i hi with h | h
      · exact .inl h
      · exact .inr (by omega)
    · rcases A2.out.ext b hb with h | h
      · rcases DiskIn.newFile_ext b h with h | h
        · exact .inl h
        · exact .inr (by omega)
      · exact .inr (Nat.le_trans HA1.out.size h)
  · have e1 : createM m S.data.toList = stepM m := by
      simp only [createM, hd, hnm, hfn, hq]
      simp [hmany, hs]
    rw [e1]
    have HA1 : Hid (Aft N g w W1 m d d) := Lib.hid (by rw [← hW1]; exact Aft.below H.out ((Below.refl _ _).alloc (Nat.le_refl _) _))
    have HTU := Lib.hid (turn_any N g m d ⟨#[]⟩ S (some ⟨w.heap.size, 0, none⟩) 0 W1 HA1.out.disk hB.fuse (by have := hB.now; omega) (by have := hB.turns; omega) (by decide) hS (fun e => by rw [hs] at e; cases e))
    rw [turn_bad hs] at HTU
    clear hd e1 hnm hfn hq hmany hs hne
    go_enter Try.func11, Try.ntmps11
    go_wp2_with fail
    refine HN.out.mono ?_
    rintro e w1 ⟨rfl, rfl⟩
    go_wp2_with (first
      | ((with_reducible (refine wpList_built ?_ _ #[] ?_ _ ?_ _ HFB.out ?_)); (exact rfl); (exact rfl); (exact rfl))
      | ((with_reducible (refine wpList_built ?_ _ #[(1, .tmp 30), (2, .tmp 32)] ?_ _ ?_ _ HTB.out ?_)); (exact rfl); (exact rfl); (exact rfl)))
    refine HTU.out.mono ?_
    rintro e w2 ⟨rfl, d2, ha2, _, _⟩
    have A2 := Lib.hid ha2
    clear ha2
    go_wp2_with fail
    go_ret
    exact ⟨rfl, d2, HA1.out.trans A2.out⟩
end Go.Proofs.Ytpmifpblamjclaa
