/- Room; Append. (With the texts that it stands on.) -/
import Derived.Test.YtelbofikcpchiaaGreatQD
import Derived.Test.YtelbofikcpchiaaGreatDkLay
import Derived.Test.YtelbofikcpchiaaGreatClone
import Derived.Sort.MapsRangeIn
namespace Go.Proofs.YtelbofikcpchiaaGreat
open Go.RowKit
structure IdsOk (m : DM) : Prop where
 now : ∀ p ∈ m.now, p.2 < m.files.length
 sure : ∀ p ∈ m.sure, p.2 < m.files.length
 turns : ∀ t ∈ m.turns, t.to_ = [] ∨ t.f < m.files.length
theorem namesD_more {bs : List Nat} {ns : NM} (x : Nat) (h : ∀ p ∈ ns, p.2 < bs.length) : namesD (bs ++ [x]) ns = namesD bs ns := by
 unfold namesD
 congr 1
 refine List.map_congr_left fun p hp => ?_
 unfold entD fileD
 have := h p hp
 simp [List.getD, List.getElem?_append_left this]
theorem turnsC_more {bs : List Nat} {ts : List TM} (x : Nat) (h : ∀ t ∈ ts, t.to_ = [] ∨ t.f < bs.length) : turnsC (bs ++ [x]) ts = turnsC bs ts := by
 unfold turnsC
 simp only [List.flatMap]
 congr 1
 refine List.map_congr_left fun t ht => ?_
 unfold turnC ptrV
 rcases h t ht with h | h
 ·rw [if_pos h, if_pos h]
 ·simp [List.getD, List.getElem?_append_left h]
set_option linter.unusedSectionVars false
section
variable {N g : Nat} {w w' : World} {m : DM} {d : DA}
theorem DiskIn.newFile (h : DiskIn N w g m d) (hi : IdsOk m) : DiskIn N (w.alloc (.cells #[.slice none 0 0, .int .i64 0] 112)) g { m with files := m.files ++ [⟨[], 0⟩] } { d with bs := d.bs ++ [w.heap.size], vs := d.vs ++ [.slice none 0 0] } := by
 have hb : Below w.heap.size w (w.alloc (.cells #[.slice none 0 0, .int .i64 0] 112)) := (Below.refl _ _).alloc (Nat.le_refl _) _
 have h' := h.below hb
 have hlb := h.lb
 have hlv := h.lv
 refine ⟨h'.row, ?_, ?_, ?_, by simp [hlb], by simp [hlv], ?_, ?_, ?_, h.ne, ⟨h.base.1, h.base.2.1, h.base.2.2.1, ?_⟩⟩
 ·show World.ownsMap _ _ _ _ _ _ (namesD (d.bs ++ _) _)
  rw [namesD_more _ (by rw [hlb]; exact hi.now)]
  exact h'.now
 ·show World.ownsMap _ _ _ _ _ _ (namesD (d.bs ++ _) _)
  rw [namesD_more _ (by rw [hlb]; exact hi.sure)]
  exact h'.sure
 ·show World.ownsRow _ _ _ _ _ _ (turnsC (d.bs ++ _) _)
  rw [turnsC_more _ (by rw [hlb]; exact hi.turns)]
  exact h'.turns
 ·intro i b v f h1 h2 h3
  dsimp only at h1 h2 h3
  by_cases hlt : i < m.files.length
  ·rw [List.getElem?_append_left (by omega)] at h1 h2 h3
   exact h'.file i b v f h1 h2 h3
  ·have e : i = m.files.length := by
    have := (List.getElem?_eq_some_iff.1 h3).1
    simp at this
    omega
   subst e
   rw [List.getElem?_append_right (by omega)] at h1 h2 h3
   rw [hlb] at h1
   rw [hlv] at h2
   simp at h1 h2 h3
   subst h1 h2 h3
   exact ⟨heap_alloc_new w _, World.ownsRow_nil _ _ _ _⟩
 ·refine List.nodup_append.2 ⟨h.nb, by simp, fun a ha b hb' => ?_⟩
  have := h.foot_lt (b := a) (.inr (.inr (.inr (.inr (.inl ha)))))
  rw [List.mem_singleton.1 hb']
  omega
 ·intro i j v v' hij h1 h2
  dsimp only at h1 h2
  by_cases hlt : i < d.vs.length
  ·by_cases hlt2 : j < d.vs.length
   ·rw [List.getElem?_append_left hlt] at h1
    rw [List.getElem?_append_left hlt2] at h2
    exact h.nv i j v v' hij h1 h2
   ·rw [List.getElem?_append_right (by omega)] at h2
    have : v' = .slice none 0 0 := by
     have hh := List.mem_of_getElem? h2
     simpa using hh
    subst this
    by_cases e : v.ownBlock = none
    ·exact .inl e
    ·exact .inr e
  ·rw [List.getElem?_append_right (by omega)] at h1
   have : v = .slice none 0 0 := by
    have hh := List.mem_of_getElem? h1
    simpa using hh
   subst this
   exact .inl rfl
 ·intro b hb'
  rcases List.mem_append.1 hb' with h1 | h1
  ·exact h.base.2.2.2 b h1
  ·rw [List.mem_singleton.1 h1]
   exact h.size
theorem DiskIn.newFile_ext {x : Nat} : ∀ b, foot g { d with bs := d.bs ++ [x], vs := d.vs ++ [.slice none 0 0] } b → foot g d b ∨ b = x := by
 intro b hb
 rcases hb with h1 | h1 | h1 | h1 | h1 | ⟨v, h1, h2⟩
 ·exact .inl (.inl h1)
 ·exact .inl (.inr (.inl h1))
 ·exact .inl (.inr (.inr (.inl h1)))
 ·exact .inl (.inr (.inr (.inr (.inl h1))))
 ·rcases List.mem_append.1 h1 with h | h
  ·exact .inl (.inr (.inr (.inr (.inr (.inl h)))))
  ·exact .inr (List.mem_singleton.1 h)
 ·rcases List.mem_append.1 h1 with h | h
  ·exact .inl (.inr (.inr (.inr (.inr (.inr ⟨v, h, h2⟩)))))
  ·rw [List.mem_singleton.1 h] at h2
   cases h2
end
theorem turn_bad {m : DM} {t : TM} (h : (stepM m).2 = 50) : turnM m t = stepM m := by
 unfold turnM
 dsimp only
 rw [if_neg (by rw [h]; decide)]
theorem disk_built (a b : Nat) (n : Int) : Tryz.prog.built 80 [(0, .map (some a)), (1, .map (some b)), (3, .int .i64 n)] = some #[.map (some a), .map (some b), .slice none 0 0, .int .i64 n, .int .i64 0, .bool false] := by kernel_rfl
set_option maxRecDepth 100000 in
set_option maxHeartbeats 4000000 in
theorem new_any (n : Int) (hn : -9223372036854775808 ≤ n ∧ n ≤ 9223372036854775807) (w : World) :
  Calls Tryz.prog 8 #[.int .i64 n] w fun e w' => ∃ g d, e = .returned (.pointer (some ⟨g, 0, none⟩)) ∧ DiskIn w.heap.size w' g (newM n) d ∧ Below w.heap.size w w' := by
 have hmx := fun (w : World) => run_max2c (P := Tryz.prog) w #[3, 3] 3 .i64 .i64 n 0
 have hmm := @run_makeMap Tryz.prog
 have HDB := h_ (disk_built w.heap.size (w.heap.size + 1) (max n 0))
 go_enter Tryz.func8, Tryz.ntmps8
 go_wp2_with (first
  | ((with_reducible (refine wpList_built ?_ _ #[(0, .tmp 3), (1, .tmp 4), (3, .tmp 6)] ?_ _ ?_ _ HDB.out ?_)); exact rfl; exact rfl; (exact rfl)))
 go_ret
 have e1 : ((w.alloc (.map #[] 0)).alloc (.map #[] 0)).heap.size = w.heap.size + 2 := by simp
 have e0 : (w.alloc (.map #[] 0)).heap.size = w.heap.size + 1 := by simp
 have hO1 : ((w.alloc (.map #[] 0)).alloc (.map #[] 0)).ownsMap Tryz.prog 9 ptrR w.heap.size 0 (namesD [] []) := (World.ownsMap_made w _ _ _).alloc _
 have hO2 := World.ownsMap_made (w.alloc (.map #[] 0)) Tryz.prog 9 ptrR
 rw [e0] at hO2
 refine ⟨w.heap.size + 2, ⟨w.heap.size, w.heap.size + 1, .slice none 0 0, [], []⟩, rfl, ?_, ?_⟩
 ·refine ⟨?_, hO1.alloc _, hO2.alloc _, World.ownsRow_nil _ _ _ _, rfl, rfl, ?_, List.nodup_nil, ?_, ?_, ?_⟩
  ·have := heap_alloc_new ((w.alloc (.map #[] 0)).alloc (.map #[] 0)) (.cells #[.map (some w.heap.size), .map (some (w.heap.size + 1)), .slice none 0 0, .int .i64 (max n 0), .int .i64 0, .bool false] 80)
   rw [e1] at this
   have e : (((max n 0).toNat : Nat) : Int) = max n 0 := by omega
   simp only [rowD, newM]
   rw [e]
   exact this
  ·intro i b v f h1; simp at h1
  ·intro i j v v' _ h1; simp at h1
  ·show w.heap.size ≠ w.heap.size + 1; omega
  ·exact ⟨by omega, Nat.le_refl _, by show _ ≤ w.heap.size + 1; omega, fun b hb => by cases hb⟩
 ·exact (((Below.refl _ w).alloc (Nat.le_refl _) _).alloc (by simp) _).alloc (by simp; omega) _
theorem file_built : Tryz.prog.built 112 [] = some #[.slice none 0 0, .int .i64 0] := by kernel_rfl
theorem turn_built2 (s : ByteArray) (p : Option Addr) : Tryz.prog.built 114 [(1, .string s), (2, .pointer p)] = some #[.string ⟨#[]⟩, .string s, .pointer p] := by kernel_rfl
theorem turn_built3 (r s : ByteArray) (p : Option Addr) : Tryz.prog.built 114 [(0, .string r), (1, .string s), (2, .pointer p)] = some #[.string r, .string s, .pointer p] := by kernel_rfl
structure Bnd (m : DM) : Prop where
 fuse : m.fuse ≤ 9223372036854775807
 most : m.most ≤ 9223372036854775807
 now : m.now.length < 1000000
 sure : m.sure.length < 1000000
 turns : m.turns.length ≤ 1000000
 files : m.files.length ≤ 1000000
 len : ∀ f ∈ m.files, f.b.length ≤ 1099511627776 ∧ f.safe ≤ f.b.length
 rn : risesN m.now
 rs : risesN m.sure
 tl : ∀ t ∈ m.turns, t.fr.length ≤ 100 ∧ t.to_.length ≤ 100
 nl : ∀ p ∈ m.now, p.1.length ≤ 100
 sl : ∀ p ∈ m.sure, p.1.length ≤ 100
set_option maxRecDepth 100000 in
set_option maxHeartbeats 4000000 in
theorem create_any (N g : Nat) (m : DM) (d : DA) (S : ByteArray) (hS : S.size ≤ maxLen) (w : World) (h : DiskIn N w g m d) (hB : Bnd m) (hI : IdsOk m) :
  Calls Tryz.prog 19 #[.pointer (some ⟨g, 0, none⟩), .string S] w fun e w' => e = .returned (.int .i64 (createM m S.data.toList).2) ∧ ∃ d', Aft N g w w' (createM m S.data.toList).1 d d' := by
 have H := h_ h
 obtain ⟨c0, c1, c2, c3, c4, c5⟩ := h.cells
 have hlk := look_any h.now S hS
 have hln := h.now.len Tryz.underlying77 3
 rw [namesD_size] at hln
 have HN := h_ (named_any S w)
 have HBD := h_ hB
 have HID := h_ hI
 clear c1 c2 c3 c4 h hI
 cases hd : m.down with
 | true =>
   have e1 : createM m S.data.toList = (m, 50) := by simp [createM, hd]
   rw [e1]
   rw [hd] at c5
   clear hd e1 hlk hln
   go_enter Tryz.func19, Tryz.ntmps19
   go_wp2_with fail
   go_ret
   exact ⟨rfl, d, Aft.refl H.out⟩
 | false =>
 rw [hd] at c5
 cases hnm : namedB S.data.toList with
 | false =>
   have e1 : createM m S.data.toList = (m, 1) := by simp [createM, hd, hnm]
   rw [e1]
   rw [hnm] at HN
   clear hd e1 hlk hln hnm
   go_enter Tryz.func19, Tryz.ntmps19
   go_wp2_with fail
   refine HN.out.mono ?_
   rintro e w1 ⟨rfl, rfl⟩
   go_wp2_with fail
   go_ret
   exact ⟨rfl, d, Aft.refl H.out⟩
 | true =>
 rw [hnm] at HN
 have hne : S.data.toList ≠ [] := by
  intro e
  rw [e] at hnm
  cases hnm
 cases hfn : findN m.now S.data.toList with
 | some f =>
   have e1 : createM m S.data.toList = (m, 5) := by simp [createM, hd, hnm, hfn]
   rw [e1]
   rw [hfn] at hlk
   obtain ⟨b, hb⟩ := eX (d.bs.getD f 0)
   have e2 : ptrO d.bs (some f) = .pointer (some ⟨b, 0, none⟩) := by rw [← hb]; rfl
   rw [e2] at hlk
   clear hd e1 hln hnm hfn hb e2
   go_enter Tryz.func19, Tryz.ntmps19
   go_wp2_with fail
   refine HN.out.mono ?_
   rintro e w1 ⟨rfl, rfl⟩
   go_wp2_with fail
   go_ret
   exact ⟨rfl, d, Aft.refl H.out⟩
 | none =>
 rw [hfn] at hlk
 replace hlk : (Instr.lookup 77 (.map (some d.mb)) (.string S) false).run Tryz.prog w = .ok (.pointer none) w := hlk
 obtain ⟨q, hq⟩ := eX m.now.length
 rw [hq] at hln
 by_cases hmany : 4096 ≤ q
 ·have e1 : createM m S.data.toList = (m, 3) := by simp [createM, hd, hnm, hfn, hq, hmany]
  rw [e1]
  have j1 : (4096 : Int) ≤ (q : Int) := by omega
  clear hd e1 hnm hfn hq hmany
  go_enter Tryz.func19, Tryz.ntmps19
  go_wp2_with fail
  refine HN.out.mono ?_
  rintro e w1 ⟨rfl, rfl⟩
  go_wp2_with fail
  go_ret
  exact ⟨rfl, d, Aft.refl H.out⟩
 have j1 : ¬ ((4096 : Int) ≤ (q : Int)) := by omega
 have j2 : decide ((4096 : Int) ≤ (q : Int)) = false := decide_eq_false j1
 obtain ⟨W1, hW1⟩ := eX (w.alloc (.cells #[.slice none 0 0, .int .i64 0] 112))
 have HFB := h_ file_built
 have HTB := h_ (turn_built2 S (some ⟨w.heap.size, 0, none⟩))
 have HES : Hid ((⟨#[]⟩ : ByteArray).data.toList = []) := h_ rfl
 rcases step_cases m with hs | hs
 ·have e1 : createM m S.data.toList = turnM { m with files := m.files ++ [⟨[], 0⟩] } ⟨[], S.data.toList, m.files.length⟩ := by
   simp only [createM, hd, hnm, hfn, hq]
   simp [hmany, hs]
  rw [e1]
  have H1 := H.out.newFile HID.out
  rw [hW1] at H1
  have HH1 := h_ H1
  have HTU := h_ (turn_any N g { m with files := m.files ++ [⟨[], 0⟩] } { d with bs := d.bs ++ [w.heap.size], vs := d.vs ++ [.slice none 0 0] } ⟨#[]⟩ S (some ⟨w.heap.size, 0, none⟩) m.files.length W1 H1 hB.fuse (by have := hB.now; show m.now.length < _; omega) (by have := hB.turns; show m.turns.length ≤ _; omega) (by decide) hS
   (fun _ => ⟨fun _ => by rw [← H.out.lb]; simp [List.getD], fun e => absurd e hne⟩))
  have HA1 : Hid (Frm (foot g d) w W1) := h_ (by rw [← hW1]; exact Frm.of_below ((Below.refl _ _).alloc (Nat.le_refl _) _))
  clear H1 hd e1 hnm hfn hq hmany hs hne
  go_enter Tryz.func19, Tryz.ntmps19
  go_wp2_with fail
  refine HN.out.mono ?_
  rintro e w1 ⟨rfl, rfl⟩
  go_wp2_with (first
   | ((with_reducible (refine wpList_built ?_ _ #[] ?_ _ ?_ _ HFB.out ?_)); exact rfl; exact rfl; (exact rfl))
   | ((with_reducible (refine wpList_built ?_ _ #[(1, .tmp 30), (2, .tmp 32)] ?_ _ ?_ _ HTB.out ?_)); exact rfl; exact rfl; (exact rfl)))
  refine HTU.out.mono ?_
  rintro e w2 ⟨rfl, d2, ha2, _, _⟩
  have A2 := h_ ha2
  clear ha2
  go_wp2_with fail
  go_ret
  refine ⟨rfl, d2, A2.out.disk, HA1.out.trans A2.out.frm (fun i hi => ?_), fun b hb => ?_⟩
  ·rcases DiskIn.newFile_ext i hi with h | h
   ·exact .inl h
   ·exact .inr (by omega)
  ·rcases A2.out.ext b hb with h | h
   ·rcases DiskIn.newFile_ext b h with h | h
    ·exact .inl h
    ·exact .inr (by omega)
   ·exact .inr (Nat.le_trans HA1.out.size h)
 ·have e1 : createM m S.data.toList = stepM m := by
   simp only [createM, hd, hnm, hfn, hq]
   simp [hmany, hs]
  rw [e1]
  have HA1 : Hid (Aft N g w W1 m d d) := h_ (by rw [← hW1]; exact Aft.below H.out ((Below.refl _ _).alloc (Nat.le_refl _) _))
  have HTU := h_ (turn_any N g m d ⟨#[]⟩ S (some ⟨w.heap.size, 0, none⟩) 0 W1 HA1.out.disk hB.fuse (by have := hB.now; omega) (by have := hB.turns; omega) (by decide) hS (fun e => by rw [hs] at e; cases e))
  rw [turn_bad hs] at HTU
  clear hd e1 hnm hfn hq hmany hs hne
  go_enter Tryz.func19, Tryz.ntmps19
  go_wp2_with fail
  refine HN.out.mono ?_
  rintro e w1 ⟨rfl, rfl⟩
  go_wp2_with (first
   | ((with_reducible (refine wpList_built ?_ _ #[] ?_ _ ?_ _ HFB.out ?_)); exact rfl; exact rfl; (exact rfl))
   | ((with_reducible (refine wpList_built ?_ _ #[(1, .tmp 30), (2, .tmp 32)] ?_ _ ?_ _ HTB.out ?_)); exact rfl; exact rfl; (exact rfl)))
  refine HTU.out.mono ?_
  rintro e w2 ⟨rfl, d2, ha2, _, _⟩
  have A2 := h_ ha2
  clear ha2
  go_wp2_with fail
  go_ret
  exact ⟨rfl, d2, HA1.out.trans A2.out⟩
theorem find_cases (m : DM) (s : List UInt8) : (∃ f, findM m s = (some f, 0) ∧ m.down = false ∧ findN m.now s = some f) ∨ (∃ e, findM m s = (none, e) ∧ (e = 50 ∨ e = 4)) := by
 unfold findM
 cases hd : m.down with
 | true => exact .inr ⟨50, rfl, .inl rfl⟩
 | false =>
   cases hf : findN m.now s with
   | none => exact .inr ⟨4, rfl, .inr rfl⟩
   | some f => exact .inl ⟨f, rfl, rfl, rfl⟩
theorem find_mem {ns : NM} {s : List UInt8} {f : Nat} (h : findN ns s = some f) : (s, f) ∈ ns := by
 unfold findN at h
 cases hf : ns.find? (fun p => p.1 == s) with
 | none => rw [hf] at h; cases h
 | some p =>
   rw [hf] at h
   have h1 := List.mem_of_find?_eq_some hf
   have h2 := List.find?_some hf
   simp at h h2
   obtain ⟨a, b⟩ := p
   dsimp only at h h2
   rw [h2, h] at h1
   exact h1
set_option maxRecDepth 100000 in
set_option maxHeartbeats 4000000 in
theorem rename_any (N g : Nat) (m : DM) (d : DA) (S T : ByteArray) (hS : S.size ≤ maxLen) (hT : T.size ≤ maxLen) (w : World) (h : DiskIn N w g m d) (hB : Bnd m) :
  Calls Tryz.prog 74 #[.pointer (some ⟨g, 0, none⟩), .string S, .string T] w fun e w' => e = .returned (.int .i64 (renameM m S.data.toList T.data.toList).2) ∧ ∃ d', Aft N g w w' (renameM m S.data.toList T.data.toList).1 d d' := by
 have H := h_ h
 obtain ⟨c0, c1, c2, c3, c4, c5⟩ := h.cells
 have HN := h_ (named_any T w)
 have HFI := h_ (find_any N g m d S hS w h)
 clear c0 c1 c2 c3 c4 h
 by_cases hbad : m.down = false ∧ namedB T.data.toList = false
 ·have e1 : renameM m S.data.toList T.data.toList = (m, 1) := by unfold renameM; rw [if_pos hbad]
  rw [e1]
  rw [hbad.1] at c5
  rw [hbad.2] at HN
  clear e1 hbad
  go_enter Tryz.func74, Tryz.ntmps74
  go_wp2_with fail
  refine HN.out.mono ?_
  rintro e w1 ⟨rfl, rfl⟩
  go_wp2_with fail
  go_ret
  exact ⟨rfl, d, Aft.refl H.out⟩
 have e0 : renameM m S.data.toList T.data.toList = (match findM m S.data.toList with
   | (none, e) => (m, e)
   | (some f, _) => turnM m ⟨S.data.toList, T.data.toList, f⟩) := by unfold renameM; rw [if_neg hbad]; rfl
 rcases find_cases m S.data.toList with ⟨f, hf, hdn, hfn⟩ | ⟨e, hf, he⟩
 ·rw [hf] at e0 HFI
  replace e0 : renameM m S.data.toList T.data.toList = turnM m ⟨S.data.toList, T.data.toList, f⟩ := e0
  rw [e0]
  obtain ⟨b, hb⟩ := eX (d.bs.getD f 0)
  have e2 : ptrO d.bs (some f) = .pointer (some ⟨b, 0, none⟩) := by rw [← hb]; rfl
  rw [e2] at HFI
  have hnm : namedB T.data.toList = true := by
   cases hx : namedB T.data.toList with
   | true => rfl
   | false => exact absurd ⟨hdn, hx⟩ hbad
  rw [hnm] at HN
  rw [hdn] at c5
  have hne : T.data.toList ≠ [] := by
   intro e
   rw [e] at hnm
   cases hnm
  have HTU := h_ (turn_any N g m d S T (some ⟨b, 0, none⟩) f w H.out hB.fuse (by have := hB.now; omega) (by have := hB.turns; omega) hS hT (fun _ => ⟨fun _ => by rw [hb], fun e => absurd e hne⟩))
  have HTB := h_ (turn_built3 S T (some ⟨b, 0, none⟩))
  clear e0 hf hdn hfn hb e2 hbad hnm hne
  go_enter Tryz.func74, Tryz.ntmps74
  go_wp2_with fail
  refine HN.out.mono ?_
  rintro e w1 ⟨rfl, rfl⟩
  go_wp2_with fail
  refine HFI.out.mono ?_
  rintro e w1 ⟨rfl, rfl⟩
  go_wp2_with ((with_reducible (refine wpList_built ?_ _ #[(0, .tmp 29), (1, .tmp 30), (2, .tmp 31)] ?_ _ ?_ _ HTB.out ?_)); exact rfl; exact rfl; (exact rfl))
  refine HTU.out.mono ?_
  rintro e w2 ⟨rfl, d2, ha2, _, _⟩
  have A2 := h_ ha2
  clear ha2
  go_wp2_with fail
  go_ret
  exact ⟨rfl, d2, A2.out⟩
 ·rw [hf] at e0 HFI
  replace e0 : renameM m S.data.toList T.data.toList = (m, e) := e0
  rw [e0]
  have e2 : ptrO d.bs none = .pointer none := rfl
  rw [e2] at HFI
  clear e0 hf e2
  cases hdn : m.down with
  | true =>
    rw [hdn] at c5
    clear hbad hdn
    rcases he with rfl | rfl
    all_goals (
     go_enter Tryz.func74, Tryz.ntmps74
     go_wp2_with fail
     refine HFI.out.mono ?_
     rintro e w1 ⟨rfl, rfl⟩
     go_wp2_with fail
     go_ret
     exact ⟨rfl, d, Aft.refl H.out⟩)
  | false =>
    have hnm : namedB T.data.toList = true := by
     cases hx : namedB T.data.toList with
     | true => rfl
     | false => exact absurd ⟨hdn, hx⟩ hbad
    rw [hdn] at c5
    rw [hnm] at HN
    clear hbad hdn hnm
    rcases he with rfl | rfl
    all_goals (
     go_enter Tryz.func74, Tryz.ntmps74
     go_wp2_with fail
     refine HN.out.mono ?_
     rintro e w1 ⟨rfl, rfl⟩
     go_wp2_with fail
     refine HFI.out.mono ?_
     rintro e w1 ⟨rfl, rfl⟩
     go_wp2_with fail
     go_ret
     exact ⟨rfl, d, Aft.refl H.out⟩)
section
variable {N g : Nat} {w w' : World} {m : DM} {d : DA}
theorem set_row {w : World} {g j : Nat} {cs : Array Value} {t : TypeId} {fr : Nat × Nat} (v : Value) (h : w.heap[g]? = some (.cells cs t fr)) : (w.setCell ⟨g, j, none⟩ v).heap[g]? = some (.cells (cs.set! j v) t fr) := by
 simp only [World.setCell, Array.getElem?_modify, h, if_true, Option.map_some]
 rfl
theorem row_froz {w : World} {g j : Nat} {cs : Array Value} {t : TypeId} (h : w.heap[g]? = some (.cells cs t (0, 0))) : w.frozen? ⟨g, j, none⟩ = false := by
 simp [World.frozen?, h]
theorem DiskIn.flush (h : DiskIn N w g m d) {mb' : Nat} (hmN : N ≤ mb') (hne : d.mb ≠ mb') (ho : w.ownsMap Tryz.prog 9 ptrR mb' m.now.length (namesD d.bs m.now)) :
  DiskIn N ((w.setCell ⟨g, 1, none⟩ (.map (some mb'))).setCell ⟨g, 2, none⟩ (.slice none 0 0)) g { m with sure := m.now, turns := [] } { d with sb := mb', tv := .slice none 0 0 } := by
 have hk : ∀ b, b ≠ g → ((w.setCell ⟨g, 1, none⟩ (.map (some mb'))).setCell ⟨g, 2, none⟩ (.slice none 0 0)).heap[b]? = w.heap[b]? := fun b hn => (Below.heap_setCell _ _ _ _ hn).trans (Below.heap_setCell _ _ _ _ hn)
 refine h.setG ?_ (fun b _ hb => hk b hb) ⟨rfl, rfl⟩ rfl h.now ho (World.ownsRow_nil _ _ _ _) hne h.base.2.1 hmN
 have := h.row
 simp only [World.setCell, Array.getElem?_modify, this, if_true, Option.map_some]
 rfl
end
set_option maxRecDepth 100000 in
set_option maxHeartbeats 4000000 in
theorem flush_any (N g : Nat) (m : DM) (d : DA) (w : World) (h : DiskIn N w g m d) (hB : Bnd m) :
  Calls Tryz.prog 22 #[.pointer (some ⟨g, 0, none⟩)] w fun e w' => e = .returned (.int .i64 (flushM m).2) ∧ ∃ d', Aft N g w w' (flushM m).1 d d' := by
 have H := h_ h
 obtain ⟨c0, c1, c2, c3, c4, c5⟩ := h.cells
 have HST := h_ (step_any N g m d hB.fuse w h)
 clear c0 c1 c2 c3 c4 h
 cases hd : m.down with
 | true =>
   have e1 : flushM m = (m, 50) := by simp [flushM, hd]
   rw [e1]
   rw [hd] at c5
   clear e1 hd
   go_enter Tryz.func22, Tryz.ntmps22
   go_wp2_with fail
   go_ret
   exact ⟨rfl, d, Aft.refl H.out⟩
 | false =>
 rw [hd] at c5
 rcases step_cases m with hs | hs
 ·obtain ⟨m1, hm1⟩ := eX ((stepM m).1)
  have e1 : flushM m = ({ m1 with sure := m1.now, turns := [] }, 0) := by
   have := (step_same m).1
   rw [hm1] at this
   simp [flushM, hd, hs, hm1, this]
  rw [e1]
  rw [hs, hm1] at HST
  clear e1 hd hs hm1
  go_enter Tryz.func22, Tryz.ntmps22
  go_wp2_with fail
  refine HST.out.mono ?_
  rintro e w2 ⟨rfl, ha2⟩
  have A2 := h_ ha2
  have hc0 := ha2.disk.cells.1
  have HCL := h_ (AnyW.maps_Clone_owns Tryz.clone52 9 ptrR d.mb m1.now.length (namesD d.bs m1.now) w2 ha2.disk.now)
  clear ha2
  go_wp2_with fail
  refine HCL.out.mono ?_
  rintro e w3 ⟨rfl, ho1, ho2, hb3⟩
  obtain ⟨mb', hmb⟩ := eX w2.heap.size
  have D3 := h_ (A2.out.disk.below hb3)
  have A3 := h_ (Aft.below A2.out.disk hb3)
  rw [hmb] at ho1
  have HO1 := h_ ho1
  have HMB : Hid (w2.heap.size = mb' ∧ N ≤ mb' ∧ d.mb ≠ mb') := h_ ⟨hmb, by have := A2.out.disk.size; omega, by have := A2.out.disk.foot_lt (b := d.mb) (.inr (.inl rfl)); omega⟩
  have c1' : w3.cell? ⟨g, 1, none⟩ = some (.map (some d.sb)) := D3.out.cells.2.1
  have f1 := D3.out.froz 1
  obtain ⟨W4, hW4⟩ := eX (w3.setCell ⟨g, 1, none⟩ (.map (some mb')))
  have hr4 := set_row (j := 1) (.map (some mb')) D3.out.row
  rw [hW4] at hr4
  have c2' : W4.cell? ⟨g, 2, none⟩ = some d.tv := row_cell hr4 2
  have f2 := row_froz (j := 2) hr4
  rw [hmb]
  clear ho1 ho2 hb3 hmb hc0 hr4
  go_wp2_with fail
  go_ret
  have D5 := D3.out.flush HMB.out.2.1 HMB.out.2.2 HO1.out
  have hF : Frm (foot g d) w3 (W4.setCell ⟨g, 2, none⟩ (.slice none 0 0)) := by
   rw [← hW4]
   exact (Frm.of_cell (.inl rfl)).trans (Frm.of_cell (F := foot g d) (.inl rfl)) (fun i hi => .inl hi)
  rw [hW4] at D5
  refine ⟨rfl, _, A2.out.trans (Aft.mk D5 (A3.out.frm.trans hF (fun i hi => .inl hi)) (fun b hb => ?_))⟩
  rcases hb with h1 | h1 | h1 | h1 | h1
  ·exact .inl (.inl h1)
  ·exact .inl (.inr (.inl h1))
  ·right
   have h2 : b = mb' := h1
   have := HMB.out.1
   omega
  ·cases h1
  ·exact .inl (.inr (.inr (.inr (.inr h1))))
 ·have e1 : flushM m = stepM m := by simp [flushM, hd, hs]
  rw [e1]
  rw [hs] at HST ⊢
  obtain ⟨m1, hm1⟩ := eX ((stepM m).1)
  rw [hm1] at HST ⊢
  clear e1 hd hs hm1
  go_enter Tryz.func22, Tryz.ntmps22
  go_wp2_with fail
  refine HST.out.mono ?_
  rintro e w2 ⟨rfl, ha2⟩
  have A2 := h_ ha2
  clear ha2
  go_wp2_with fail
  go_ret
  exact ⟨rfl, d, A2.out⟩
section
variable {N g : Nat} {w w' : World} {m : DM} {d : DA}
theorem DiskIn.fileSet (h : DiskIn N w g m d) {i b : Nat} {v : Value} {f : FM} (h1 : d.bs[i]? = some b) (h2 : d.vs[i]? = some v) (h3 : m.files[i]? = some f) (f' : FM) (v' : Value)
  (hrow : w'.heap[b]? = some (.cells #[v', .int .i64 (f'.safe : Int)] 112 (0, 0))) (hown : w'.ownsRow N 5 1 v' f'.b.length (b8s f'.b))
  (hk : ∀ c, foot g d c → c ≠ b → some c ≠ v.ownBlock → w'.heap[c]? = w.heap[c]?) (hv : v'.ownBlock = v.ownBlock ∨ v'.ownBlock = none ∨ ∃ c, v'.ownBlock = some c ∧ w.heap.size ≤ c) :
  DiskIn N w' g (setF m i f') { d with vs := d.vs.set i v' } := by
 have hbm := List.mem_of_getElem? h1
 have hvm := List.mem_of_getElem? h2
 have tyb := h.ty_b hbm
 have tyv : ∀ c, some c = v.ownBlock → tyAt w c 5 := fun c e => h.ty_v hvm e.symm
 have hm : ∀ {c n : Nat} {D : DataW Unit}, foot g d c → w.ownsMap Tryz.prog 9 ptrR c n D → w'.ownsMap Tryz.prog 9 ptrR c n D := fun {c n D} hc ho => by
  have e1 := map_ty ho tyb
  have e2 : some c ≠ v.ownBlock := fun e => map_ty ho (tyv c e) rfl
  obtain ⟨es, clock, k1, k2⟩ := ho
  exact ⟨es, clock, (hk c hc e1 e2).trans k1, k2⟩
 refine ⟨(hk g (.inl rfl) (Ne.symm (tyAt_ne tyb h.ty_g (by decide))) (fun e => tyAt_ne (tyv g e) h.ty_g (by decide) rfl)).trans h.row, hm (.inr (.inl rfl)) h.now, hm (.inr (.inr (.inl rfl))) h.sure,
  own_keep h.turns (fun c hc _ => hk c (.inr (.inr (.inr (.inl hc.symm)))) (Ne.symm (tyAt_ne tyb (h.ty_t hc) (by decide))) (fun e => tyAt_ne (tyv c e) (h.ty_t hc) (by decide) rfl)), by simp [setF, h.lb], by simp [setF, h.lv], ?_, h.nb, ?_, h.ne, h.base⟩
 ·intro j c u x k1 k2 k3
  dsimp only [setF] at k1 k2 k3
  by_cases hij : i = j
  ·subst hij
   rw [h1] at k1
   cases k1
   have hlt := (List.getElem?_eq_some_iff.1 h2).1
   have hlt3 := (List.getElem?_eq_some_iff.1 h3).1
   rw [List.getElem?_set_self hlt] at k2
   rw [List.getElem?_set_self hlt3] at k3
   cases k2
   cases k3
   exact ⟨hrow, hown⟩
  ·rw [List.getElem?_set_ne hij] at k2 k3
   obtain ⟨q1, q2⟩ := h.file j c u x k1 k2 k3
   have hcm := List.mem_of_getElem? k1
   have hum := List.mem_of_getElem? k2
   have hcb : c ≠ b := fun e => by
    subst e
    have hi := (List.getElem?_eq_some_iff.1 h1)
    have hj := (List.getElem?_eq_some_iff.1 k1)
    obtain ⟨hi1, hi2⟩ := hi
    obtain ⟨hj1, hj2⟩ := hj
    exact hij ((List.getElem_inj h.nb).1 (hi2.trans hj2.symm))
   refine ⟨(hk c (.inr (.inr (.inr (.inr (.inl hcm))))) hcb (fun e => tyAt_ne (tyv c e) (h.ty_b hcm) (by decide) rfl)).trans q1, own_keep q2 (fun e he _ => hk e (.inr (.inr (.inr (.inr (.inr ⟨u, hum, he.symm⟩))))) (Ne.symm (tyAt_ne tyb (h.ty_v hum he) (by decide))) (fun e2 => ?_))⟩
   rcases h.nv j i u v (Ne.symm hij) k2 h2 with h0 | h0
   ·rw [he] at h0; cases h0
   ·exact h0 (he.trans e2)
 ·intro j k u u' hjk k1 k2
  dsimp only at k1 k2
  have hlt := (List.getElem?_eq_some_iff.1 h2).1
  have old : ∀ (l : Nat) (x : Value), d.vs[l]? = some x → ∀ c, x.ownBlock = some c → c < w.heap.size := fun l x hx c hc => h.foot_lt (.inr (.inr (.inr (.inr (.inr ⟨x, List.mem_of_getElem? hx, hc.symm⟩)))))
  by_cases hij : i = j
  ·subst hij
   rw [List.getElem?_set_self hlt] at k1
   rw [List.getElem?_set_ne hjk] at k2
   cases k1
   rcases hv with e | e | ⟨c, e, hc⟩
   ·rw [e]; exact h.nv i k v u' hjk h2 k2
   ·exact .inl e
   ·right
    intro e2
    rw [e] at e2
    have := old k u' k2 c e2.symm
    omega
  ·rw [List.getElem?_set_ne hij] at k1
   by_cases hik : i = k
   ·subst hik
    rw [List.getElem?_set_self hlt] at k2
    cases k2
    rcases hv with e | e | ⟨c, e, hc⟩
    ·rw [e]; exact h.nv j i u v hjk k1 h2
    ·rw [e]
     by_cases e0 : u.ownBlock = none
     ·exact .inl e0
     ·exact .inr e0
    ·by_cases e0 : u.ownBlock = none
     ·exact .inl e0
     ·right
      intro e2
      rw [e] at e2
      have := old j u k1 c e2
      omega
   ·rw [List.getElem?_set_ne hik] at k2
    exact h.nv j k u u' hjk k1 k2
theorem foot_set {i : Nat} {v' : Value} : ∀ b, foot g { d with vs := d.vs.set i v' } b → foot g d b ∨ some b = v'.ownBlock := by
 intro b hb
 rcases hb with h1 | h1 | h1 | h1 | h1 | ⟨v, h1, h2⟩
 ·exact .inl (.inl h1)
 ·exact .inl (.inr (.inl h1))
 ·exact .inl (.inr (.inr (.inl h1)))
 ·exact .inl (.inr (.inr (.inr (.inl h1))))
 ·exact .inl (.inr (.inr (.inr (.inr (.inl h1)))))
 ·rcases List.mem_or_eq_of_mem_set h1 with h | h
  ·exact .inl (.inr (.inr (.inr (.inr (.inr ⟨v, h, h2⟩)))))
  ·rw [h] at h2
   exact .inr h2
end
theorem fileM_at {m : DM} {f : Nat} {x : FM} (h : m.files[f]? = some x) : fileM m f = x := by
 unfold fileM
 simp [List.getD, h]
set_option maxRecDepth 100000 in
set_option maxHeartbeats 4000000 in
theorem sync_any (N g : Nat) (m : DM) (d : DA) (S : ByteArray) (hS : S.size ≤ maxLen) (w : World) (h : DiskIn N w g m d) (hB : Bnd m) (hI : IdsOk m) :
  Calls Tryz.prog 21 #[.pointer (some ⟨g, 0, none⟩), .string S] w fun e w' => e = .returned (.int .i64 (syncM m S.data.toList).2) ∧ ∃ d', Aft N g w w' (syncM m S.data.toList).1 d d' := by
 have H := h_ h
 have HFI := h_ (find_any N g m d S hS w h)
 have HST := h_ (step_any N g m d hB.fuse w h)
 clear h
 rcases find_cases m S.data.toList with ⟨f, hf, hdn, hfn⟩ | ⟨e, hf, he⟩
 ·have hfl : f < m.files.length := hI.now _ (find_mem hfn)
  have e0 : syncM m S.data.toList = if (stepM m).2 = 0 then (setF (stepM m).1 f ⟨(fileM m f).b, (fileM m f).b.length⟩, 0) else stepM m := by unfold syncM; rw [hf]
  rw [hf] at HFI
  obtain ⟨b, hb⟩ := eX (d.bs.getD f 0)
  have e2 : ptrO d.bs (some f) = .pointer (some ⟨b, 0, none⟩) := by rw [← hb]; rfl
  rw [e2] at HFI
  rcases step_cases m with hs | hs
  ·rw [if_pos hs] at e0
   rw [e0]
   have hmf := (step_same m).2.2.2.1
   obtain ⟨x, hx⟩ := eX (fileM m f)
   have hxf : m.files[f]? = some x := by
    rw [← hx]; unfold fileM; simp [List.getD, hfl]
   have hxl := (hB.len x (List.mem_of_getElem? hxf)).1
   rw [hx]
   obtain ⟨m1, hm1⟩ := eX ((stepM m).1)
   rw [hs, hm1] at HST
   rw [hm1] at hmf ⊢
   rw [← hmf] at hxf
   have HXF := h_ hxf
   have HBF := h_ hb
   clear e0 hf hdn hfn hb e2 hs hm1 hmf hxf hx hfl
   go_enter Tryz.func21, Tryz.ntmps21
   go_wp2_with fail
   refine HFI.out.mono ?_
   rintro e w1 ⟨rfl, rfl⟩
   go_wp2_with fail
   refine HST.out.mono ?_
   rintro e w2 ⟨rfl, ha2⟩
   have A2 := h_ ha2
   obtain ⟨b', v, q1, q2, q3, q4, q5⟩ := ha2.disk.row_of HXF.out
   have hbb : b' = b := by rw [← q3, HBF.out]
   subst hbb
   obtain ⟨Av, cv, rfl, _⟩ := own_slice q5
   obtain ⟨xn, hxn⟩ := eX x.b.length
   have hr1 := set_row (j := 1) (.int .i64 (xn : Int)) q4
   have HD : Hid (DiskIn N (w2.setCell ⟨b', 1, none⟩ (.int .i64 (xn : Int))) g (setF m1 f ⟨x.b, x.b.length⟩) { d with vs := d.vs.set f (.slice Av xn cv) }) := h_ (by
    rw [← hxn] at hr1 ⊢
    refine ha2.disk.fileSet q1 q2 HXF.out ⟨x.b, x.b.length⟩ _ hr1 (own_keep q5 (fun c hc _ => Below.heap_setCell _ _ _ _ ?_)) (fun c _ hcb _ => Below.heap_setCell _ _ _ _ hcb) (.inl rfl)
    exact Ne.symm (tyAt_ne (ha2.disk.ty_b (List.mem_of_getElem? q1)) (ha2.disk.ty_v (List.mem_of_getElem? q2) hc) (by decide)))
   have HF2 : Hid (Frm (foot g d) w2 (w2.setCell ⟨b', 1, none⟩ (.int .i64 (xn : Int)))) := h_ (Frm.of_cell (.inr (.inr (.inr (.inr (.inl (List.mem_of_getElem? q1)))))))
   have HEX : Hid (∀ c, foot g { d with vs := d.vs.set f (.slice Av xn cv) } c → foot g d c ∨ w2.heap.size ≤ c) := h_ (fun c hc => by
    rcases foot_set c hc with h1 | h1
    ·exact .inl h1
    ·exact .inl (.inr (.inr (.inr (.inr (.inr ⟨_, List.mem_of_getElem? q2, by rw [h1]; cases Av <;> rfl⟩))))))
   have k0 : w2.cell? ⟨b', 0, none⟩ = some (.slice Av xn cv) := by rw [← hxn]; exact row_cell q4 0
   have k1 : w2.cell? ⟨b', 1, none⟩ = some (.int .i64 (x.safe : Int)) := row_cell q4 1
   have f1 := row_froz (j := 1) q4
   rw [hxn] at hxl
   clear q1 q2 q3 q4 q5 ha2 hr1 hxn
   go_wp2_with fail
   go_ret
   exact ⟨rfl, _, A2.out.trans (Aft.mk HD.out HF2.out HEX.out)⟩
  ·rw [if_neg (by rw [hs]; decide)] at e0
   rw [e0]
   rw [hs] at HST ⊢
   obtain ⟨m1, hm1⟩ := eX ((stepM m).1)
   rw [hm1] at HST ⊢
   clear e0 hf hdn hfn hb e2 hs hm1
   go_enter Tryz.func21, Tryz.ntmps21
   go_wp2_with fail
   refine HFI.out.mono ?_
   rintro e w1 ⟨rfl, rfl⟩
   go_wp2_with fail
   refine HST.out.mono ?_
   rintro e w2 ⟨rfl, ha2⟩
   have A2 := h_ ha2
   clear ha2
   go_wp2_with fail
   go_ret
   exact ⟨rfl, d, A2.out⟩
 ·have e0 : syncM m S.data.toList = (m, e) := by unfold syncM; rw [hf]
  rw [e0]
  rw [hf] at HFI
  have e2 : ptrO d.bs none = .pointer none := rfl
  rw [e2] at HFI
  clear e0 hf e2
  rcases he with rfl | rfl
  all_goals (
   go_enter Tryz.func21, Tryz.ntmps21
   go_wp2_with fail
   refine HFI.out.mono ?_
   rintro e w1 ⟨rfl, rfl⟩
   go_wp2_with fail
   go_ret
   exact ⟨rfl, d, Aft.refl H.out⟩)
set_option maxRecDepth 100000 in
set_option maxHeartbeats 4000000 in
theorem dread_any (N g : Nat) (m : DM) (d : DA) (S : ByteArray) (hS : S.size ≤ maxLen) (w : World) (h : DiskIn N w g m d) (hB : Bnd m) (hI : IdsOk m) :
  Calls Tryz.prog 28 #[.pointer (some ⟨g, 0, none⟩), .string S] w fun e w' => ∃ v, e = .returned (.tuple #[v, .int .i64 (readM m S.data.toList).2]) ∧ Own8 w.heap.size w w' v (readM m S.data.toList).1 := by
 have H := h_ h
 have HFI := h_ (find_any N g m d S hS w h)
 clear h
 rcases find_cases m S.data.toList with ⟨f, hf, hdn, hfn⟩ | ⟨e, hf, he⟩
 ·have hfl : f < m.files.length := hI.now _ (find_mem hfn)
  have e0 : readM m S.data.toList = ((fileM m f).b, 0) := by unfold readM; rw [hf]
  rw [hf] at HFI
  obtain ⟨b, hb⟩ := eX (d.bs.getD f 0)
  have e2 : ptrO d.bs (some f) = .pointer (some ⟨b, 0, none⟩) := by rw [← hb]; rfl
  rw [e2] at HFI
  rw [e0]
  obtain ⟨x, hx⟩ := eX (fileM m f)
  have hxf : m.files[f]? = some x := by
   rw [← hx]; unfold fileM; simp [List.getD, hfl]
  have hxl := (hB.len x (List.mem_of_getElem? hxf)).1
  rw [hx]
  obtain ⟨b', v, q1, q2, q3, q4, q5⟩ := H.out.row_of hxf
  have hbb : b' = b := by rw [← q3, hb]
  subst hbb
  obtain ⟨Av, cv, rfl, _⟩ := own_slice q5
  have k0 : w.cell? ⟨b', 0, none⟩ = some (.slice Av x.b.length cv) := row_cell q4 0
  have HCL := h_ (clone_any Av x.b cv w (own_rd q5) (by omega))
  clear q1 q2 q3 q4 q5 e0 hf hdn hfn hb e2 hxf hx hfl
  go_enter Tryz.func28, Tryz.ntmps28
  go_wp2_with fail
  refine HFI.out.mono ?_
  rintro e w1 ⟨rfl, rfl⟩
  go_wp2_with fail
  refine HCL.out.mono ?_
  rintro e w2 ⟨v2, rfl, hown⟩
  have HO := h_ hown
  clear hown
  go_wp2_with fail
  go_ret2
  exact ⟨_, rfl, HO.out⟩
 ·have e0 : readM m S.data.toList = ([], e) := by unfold readM; rw [hf]
  rw [e0]
  rw [hf] at HFI
  have e2 : ptrO d.bs none = .pointer none := rfl
  rw [e2] at HFI
  clear e0 hf e2
  rcases he with rfl | rfl
  all_goals (
   go_enter Tryz.func28, Tryz.ntmps28
   go_wp2_with fail
   refine HFI.out.mono ?_
   rintro e w1 ⟨rfl, rfl⟩
   go_wp2_with fail
   go_ret2
   exact ⟨_, rfl, Own8.nil _ _ _ (Below.refl _ _) (Nat.le_refl _)⟩)
def sumL (m : DM) (left : Lit → Bool) (ns : NM) : Nat := ((ns.filter fun p => left (.string p.1)).map fun p => (fileM m p.2).b.length).sum
theorem sumL_cons (m : DM) (left : Lit → Bool) (p : List UInt8 × Nat) (ns : NM) : sumL m left (p :: ns) = (if left (.string p.1) then (fileM m p.2).b.length else 0) + sumL m left ns := by
 unfold sumL
 rw [List.filter_cons]
 split <;> simp
theorem sumL_all {m : DM} {left : Lit → Bool} {ns : NM} (h : ∀ p ∈ ns, left (.string p.1) = true) : sumL m left ns = lenN m ns := by
 unfold sumL lenN
 rw [List.filter_eq_self.2 h]
theorem sumL_none {m : DM} {left : Lit → Bool} {ns : NM} (h : ∀ kl, left kl = false) : sumL m left ns = 0 := by
 unfold sumL
 rw [List.filter_eq_nil_iff.2 (fun p _ => by rw [h]; decide)]
 rfl
theorem sumL_le (m : DM) (left : Lit → Bool) (ns : NM) : sumL m left ns ≤ lenN m ns := by
 induction ns with
 | nil => exact Nat.le_refl _
 | cons p ns ih =>
   rw [sumL_cons]
   have : lenN m (p :: ns) = (fileM m p.2).b.length + lenN m ns := by simp [lenN]
   split <;> omega
theorem sumL_other {m : DM} {left : Lit → Bool} {ns : NM} {s : List UInt8} (h : ∀ p ∈ ns, p.1 ≠ s) : sumL m (fun z => left z && !z.sameKey (.string s)) ns = sumL m left ns := by
 unfold sumL
 congr 2
 refine List.filter_congr fun p hp => ?_
 have h1 : (Lit.string p.1).sameKey (.string s) = false := by
  show (p.1 == s) = false
  rw [beq_eq_false_iff_ne]
  exact h p hp
 simp [h1]
theorem sumL_step {m : DM} {left : Lit → Bool} {ns : NM} (hr : risesN ns) {s : List UInt8} {f : Nat} (hf : (s, f) ∈ ns) (hl : left (.string s) = true) : sumL m left ns = (fileM m f).b.length + sumL m (fun z => left z && !z.sameKey (.string s)) ns := by
 induction ns with
 | nil => cases hf
 | cons p ns ih =>
   obtain ⟨h1, h2⟩ := List.pairwise_cons.1 hr
   rw [sumL_cons, sumL_cons]
   rcases List.mem_cons.1 hf with e | e
   ·subst e
    have hne : ∀ q ∈ ns, q.1 ≠ s := fun q hq e => by
     have := h1 q hq
     rw [e, WideAt.bytes_irrefl] at this
     cases this
    rw [sumL_other hne, if_pos hl]
    have hs : (Lit.string s).sameKey (.string s) = true := by show (s == s) = true; simp
    simp [hs]
   ·rw [ih h2 e]
    have hne : p.1 ≠ s := fun e2 => by
     have := h1 _ e
     rw [e2, WideAt.bytes_irrefl] at this
     cases this
    have hs : (Lit.string p.1).sameKey (.string s) = false := by
     show (p.1 == s) = false
     rw [beq_eq_false_iff_ne]; exact hne
    simp only [hs, Bool.not_false, Bool.and_true]
    omega
theorem fileM_len {m : DM} (h : Bnd m) (f : Nat) : (fileM m f).b.length ≤ 1099511627776 := by
 unfold fileM
 rw [List.getD_eq_getElem?_getD]
 cases hf : m.files[f]? with
 | none => simp
 | some x => exact (h.len x (List.mem_of_getElem? hf)).1
theorem lenN_le {m : DM} (h : Bnd m) (ns : NM) : lenN m ns ≤ ns.length * 1099511627776 := by
 induction ns with
 | nil => simp [lenN]
 | cons p ns ih =>
   have h1 := fileM_len h p.2
   have : lenN m (p :: ns) = (fileM m p.2).b.length + lenN m ns := by simp [lenN]
   rw [this, List.length_cons, Nat.succ_mul]
   omega
def ptrN (o : Option Nat) : Value := .pointer (o.map fun g => ⟨g, 0, none⟩)
theorem ptrN_inv {v : Value} {y : DataW Unit × List MemPlace} (h : ptrR v = some y) : ∃ c, v = ptrN c := by
 unfold ptrR at h
 split at h
 ·exact ⟨none, rfl⟩
 ·rename_i g
  exact ⟨some g, rfl⟩
 ·cases h
theorem has_names (bs : List Nat) (ns : NM) : ∀ p ∈ ns, Maps.has (namesD bs ns) (.string p.1) = true := fun p hp => by
 show (ns.map (entD bs)).any _ = true
 rw [List.any_eq_true]
 refine ⟨entD bs p, List.mem_map.2 ⟨p, hp, rfl⟩, ?_⟩
 show (p.1 == p.1) = true
 simp
theorem str_key {S : ByteArray} {kl : Lit} (h : keyOf Tryz.prog 9 (.string S) = some kl) : kl = .string S.data.toList := by
 rw [keyOf_string Tryz.underlying9] at h
 simp [mapKey, Tryz.underlying9] at h
 exact h.2.symm
theorem met {bs : List Nat} {ns : NM} {s : List UInt8} {ya : DataW Unit} {yb : List MemPlace} {c : Option Nat} (hat : ∀ zd, (namesD bs ns).atKey (.string s) zd = ya) (hR : ptrR (ptrN c) = some (ya, yb)) : ∃ f, findN ns s = some f ∧ c = some (bs.getD f 0) := by
 cases hf : findN ns s with
 | none =>
   have h1 := hat .nil
   have h2 := hat (.lit (.bool true))
   rw [namesD_at, hf] at h1 h2
   have : (DataW.nil : DataW Unit) = .lit (.bool true) := h1.trans h2.symm
   cases this
 | some f =>
   have h1 := hat .nil
   rw [namesD_at, hf] at h1
   have h2 : ptrR (ptrN c) = some (fileD bs f, yb) := by rw [hR, ← h1]; rfl
   have h3 := ptrR_inv h2
   cases c with
   | none => cases h3
   | some x =>
     have : x = bs.getD f 0 := by simpa [ptrN] using h3
     exact ⟨f, rfl, by rw [this]⟩
set_option maxRecDepth 100000 in
set_option maxHeartbeats 8000000 in
theorem room_any (N g : Nat) (m : DM) (d : DA) (w : World) (h : DiskIn N w g m d) (hB : Bnd m) (hI : IdsOk m) :
  Calls Tryz.prog 50 #[.pointer (some ⟨g, 0, none⟩)] w fun e w' => e = .returned (.int .i64 (roomM m : Int)) ∧ Below w.heap.size w w' := by
 have H := h_ h
 obtain ⟨c0, c1, c2, c3, c4, c5⟩ := h.cells
 have hown := h.now
 have HMB := h_ h.now.lt
 have hmost := hB.most
 have HLN : Hid (lenN m m.now ≤ 1099511627776000000) := h_ (by
  have h1 := lenN_le hB m.now
  have h2 := hB.now
  omega)
 have HBD := h_ hB
 have HID := h_ hI
 obtain ⟨T, hT⟩ := eX (lenN m m.now)
 have hTl : T ≤ 1099511627776000000 := by rw [← hT]; exact HLN.out
 have HT := h_ hT
 obtain ⟨mo, hmo⟩ := eX m.most
 have HR : Hid (roomM m = mo - T) := h_ (by unfold roomM; rw [hT, hmo])
 rw [hmo] at hmost c3
 clear c1 c2 c4 c5 h hT hmo
 go_enter Tryz.func50, Tryz.ntmps50
 go_wp2_with (first
  | (at_range; refine wpList_range_own _ rfl _ 77 rfl 9 109 keyed_str Tryz.underlying77 ptrR d.mb m.now.length _ rfl hown ?_; intro w4 hrg4 hg4 hs4))
 go_frame
 have HR4 := h_ hrg4
 have HB4 : Hid (Below w.heap.size w w4) := h_ (grown_none hg4)
 obtain ⟨r, hr⟩ := eX w.heap.size
 rw [hr] at HR4 hrg4 ⊢
 have HRR := h_ hr
 clear hrg4 hg4 hs4 hr
 go_loopw [3] (fun nv wc => ∃ (left : Lit → Bool) (cnt : Nat) (x : Int), nv = .int .i64 x ∧ Hid (wc.ranges Tryz.prog 9 ptrR d.mb r m.now.length (namesD d.bs m.now) left cnt) ∧ Hid (x = (mo : Int) - T + sumL m left m.now) ∧ Hid (Below w.heap.size w wc)) (fun _ wc => wc.rangeLeft d.mb r)
 case atStart => exact ⟨_, _, (mo : Int), rfl, HR4, h_ (by rw [sumL_all (has_names d.bs m.now), HT.out]; omega), HB4⟩
 case round =>
 clear HR4 HB4
 obtain ⟨left, cnt, x, rfl, HRG, HX, HBC⟩ := hrel
 have hrg := HRG.out
 go_wp2_with (first
  | (at_next; refine wpList_next_ranges _ rfl _ rfl 9 keyed_str ptrR Value.string ptrN (fun key kl hk => Maps.keyOf_string_inv Tryz.underlying9 hk) (fun v y hv => ptrN_inv hv) d.mb r m.now.length _ _ _ rfl hrg ?_ ?_))
 ·intro hc0 hl0
  have hx : x = (mo : Int) - T := by rw [HX.out, sumL_none hl0]; omega
  have hmx := fun (w : World) => run_max2c (P := Tryz.prog) w #[3, 3] 3 .i64 .i64 x 0
  go_wp2_with fail
  go_ret
  refine ⟨?_, HBC.out⟩
  have e : ((roomM m : Nat) : Int) = max ((mo : Int) - T) 0 := by rw [HR.out]; omega
  rw [e]
  rfl
 ·intro S c kl ya yb w5 cnt5 hkey hleft hRv hat hrg5 hlt5 hgr5 hsz5 hen5
  have hk := str_key hkey
  subst hk
  obtain ⟨f, hfn, hc⟩ := met hat hRv
  subst hc
  have hmem := find_mem hfn
  have hfl : f < m.files.length := HID.out.now _ hmem
  have hxf : m.files[f]? = some (fileM m f) := by unfold fileM; simp [List.getD, hfl]
  have hst := sumL_step (m := m) HBD.out.rn hmem hleft
  have hle := sumL_le m left m.now
  have D5 : DiskIn N w5 g m d := (H.out.below HBC.out).keep (fun b hb => hgr5.block b (by have h1 := H.out.foot_lt hb; have h2 := HBC.out.size; omega) (by have h1 := H.out.foot_lt hb; have h2 := HRR.out; intro e; cases e; omega))
  obtain ⟨b, v, q1, q2, q3, q4, q5⟩ := D5.row_of hxf
  obtain ⟨Av, cv, rfl, _⟩ := own_slice q5
  obtain ⟨fl, hfl'⟩ := eX ((fileM m f).b.length)
  rw [q3] at hen5
  replace hen5 : (Instr.entry (.pointer (some ⟨r, 0, none⟩))).run Tryz.prog w5 = .ok (.tuple #[.string S, .pointer (some ⟨b, 0, none⟩)]) w5 := hen5
  have k0 : w5.cell? ⟨b, 0, none⟩ = some (.slice Av fl cv) := by rw [← hfl']; exact row_cell q4 0
  have hxb : -1099511627776000000 ≤ x ∧ x ≤ 9223372036854775807 ∧ fl ≤ 1099511627776 := by
   have h1 := HX.out
   have h2 := HT.out
   have h3 := fileM_len HBD.out f
   omega
  have hw1 : IntKind.i64.wrap (x - (fl : Int)) = x - (fl : Int) := by rw [IntKind.wrap_i64]; omega
  have HX2 : Hid (x - (fl : Int) = (mo : Int) - T + sumL m (fun z => left z && !z.sameKey (.string S.data.toList)) m.now) := h_ (by have h1 := HX.out; omega)
  have HRG5 := h_ hrg5
  have HB5 : Hid (Below w.heap.size w w5) := h_ (by
   have h1 := HBC.out
   have h2 := HRR.out
   exact ⟨hgr5.os.trans h1.os, hgr5.tape.trans h1.tape, hgr5.output.trans h1.output, Nat.le_trans h1.size hgr5.size, fun i hi => (hgr5.block i (by have := h1.size; omega) (by intro e; cases e; omega)).trans (h1.block i hi)⟩)
  have HLE5 := h_ hlt5
  rw [q3]
  clear hkey hleft hRv hat hgr5 hsz5 hfn hmem hfl hxf hst hle D5 q1 q2 q3 q4 q5 hfl' hrg5 hlt5
  go_wp2_with fail
  go_roundw
  case rel => exact ⟨_, cnt5, x - (fl : Int), by first | rfl | exact congrArg (Value.int .i64) (by omega), HRG5, HX2, HB5⟩
  case measure => rw [HRG5.out.left_eq, hrg.left_eq]; exact HLE5.out
set_option maxRecDepth 100000 in
set_option maxHeartbeats 4000000 in
theorem append_any (N g : Nat) (m : DM) (d : DA) (S : ByteArray) (hS : S.size ≤ maxLen) (A : Option Addr) (bs : List UInt8) (c : Nat) (w : World) (h : DiskIn N w g m d) (hB : Bnd m) (hI : IdsOk m) (hr : Rd w A (b8s bs)) (hA : bs ≠ [] → ∀ a, A = some a → ¬ foot g d a.block) (hl : bs.length ≤ 1099511627776) :
  Calls Tryz.prog 20 #[.pointer (some ⟨g, 0, none⟩), .string S, .slice A bs.length c] w fun e w' => e = .returned (.int .i64 (appendM m S.data.toList bs).2) ∧ ∃ d', Aft N g w w' (appendM m S.data.toList bs).1 d d' := by
 have H := h_ h
 have HFI := h_ (find_any N g m d S hS w h)
 have HRO := h_ (room_any N g m d w h hB hI)
 have HRD := h_ hr
 have HNF := h_ hA
 have HBD := h_ hB
 obtain ⟨n, hn⟩ := eX bs.length
 have HN := h_ hn
 rw [hn] at hl ⊢
 clear h hr hA hn
 rcases find_cases m S.data.toList with ⟨f, hf, hdn, hfn⟩ | ⟨e, hf, he⟩
 ·have hfl : f < m.files.length := hI.now _ (find_mem hfn)
  have e0 : appendM m S.data.toList bs = if roomM m < bs.length then (m, 51) else if (stepM m).2 = 0 then (setF (stepM m).1 f ⟨(fileM m f).b ++ bs, (fileM m f).safe⟩, 0) else stepM m := by unfold appendM; rw [hf]
  rw [HN.out] at e0
  rw [hf] at HFI
  obtain ⟨b, hb⟩ := eX (d.bs.getD f 0)
  have e2 : ptrO d.bs (some f) = .pointer (some ⟨b, 0, none⟩) := by rw [← hb]; rfl
  rw [e2] at HFI
  obtain ⟨rm, hrm⟩ := eX (roomM m)
  rw [hrm] at e0 HRO
  by_cases hroom : rm < n
  ·rw [if_pos hroom] at e0
   rw [e0]
   have i1 : (rm : Int) < (n : Int) := by omega
   clear e0 hf hdn hfn hb e2 hrm hroom hfl
   go_enter Tryz.func20, Tryz.ntmps20
   go_wp2_with fail
   refine HFI.out.mono ?_
   rintro e w1 ⟨rfl, rfl⟩
   go_wp2_with fail
   refine HRO.out.mono ?_
   rintro e w2 ⟨rfl, hb2⟩
   have B2 := h_ hb2
   clear hb2
   go_wp2_with fail
   go_ret
   exact ⟨rfl, d, Aft.below H.out B2.out⟩
  rw [if_neg hroom] at e0
  have i1 : ¬ ((rm : Int) < (n : Int)) := by omega
  rcases step_cases m with hs | hs
  ·rw [if_pos hs] at e0
   rw [e0]
   have hmf := (step_same m).2.2.2.1
   obtain ⟨x, hx⟩ := eX (fileM m f)
   have hxf : m.files[f]? = some x := by
    rw [← hx]; unfold fileM; simp [List.getD, hfl]
   have hxl := (hB.len x (List.mem_of_getElem? hxf)).1
   rw [hx]
   have HST : Hid (∀ w', DiskIn N w' g m d → Calls Tryz.prog 51 #[.pointer (some ⟨g, 0, none⟩)] w' fun e w'' => e = .returned (.int .i64 0) ∧ Aft N g w' w'' (stepM m).1 d d) := h_ (fun w' hd' => by
    have := step_any N g m d hB.fuse w' hd'
    rwa [hs] at this)
   obtain ⟨m1, hm1⟩ := eX ((stepM m).1)
   rw [hm1] at HST
   rw [hm1] at hmf ⊢
   rw [← hmf] at hxf
   have HXF := h_ hxf
   have HBF := h_ hb
   clear e0 hf hdn hfn hb e2 hs hm1 hmf hxf hx hfl hrm hroom
   go_enter Tryz.func20, Tryz.ntmps20
   go_wp2_with fail
   refine HFI.out.mono ?_
   rintro e w1 ⟨rfl, rfl⟩
   go_wp2_with fail
   refine HRO.out.mono ?_
   rintro e w2 ⟨rfl, hb2⟩
   have A2 := h_ (Aft.below H.out hb2)
   clear hb2
   go_wp2_with fail
   refine (HST.out w2 A2.out.disk).mono ?_
   rintro e w3 ⟨rfl, ha3⟩
   have A3 := h_ (A2.out.trans ha3)
   obtain ⟨b', v, q1, q2, q3, q4, q5⟩ := ha3.disk.row_of HXF.out
   have hbb : b' = b := by rw [← q3, HBF.out]
   subst hbb
   obtain ⟨Av, cv, rfl, _⟩ := own_slice q5
   obtain ⟨xn, hxn⟩ := eX x.b.length
   have HXN := h_ hxn
   rw [hxn] at q4 q5 hxl
   have k0 : w3.cell? ⟨b', 0, none⟩ = some (.slice Av xn cv) := row_cell q4 0
   have HR3 : Hid (Rd w3 A (b8s bs)) := h_ (by
    by_cases hne : bs = []
    ·rw [hne]; exact Rd.nil
    ·exact HRD.out.keep (fun ad e hlt => A3.out.frm.block _ hlt (HNF.out hne ad e)))
   have Q1 := h_ q1
   have Q2 := h_ q2
   have Q4 := h_ q4
   have Q5 := h_ q5
   have HD3 := h_ ha3.disk
   have HTV : Hid (∀ c, some c = (Value.slice Av xn cv).ownBlock → tyAt w3 c 5) := h_ (fun c e => ha3.disk.ty_v (List.mem_of_getElem? q2) (by rw [e]; cases Av <;> rfl))
   have HAP : Hid (∀ w', w3.grownBy w' (Value.slice Av xn cv).ownBlock → w'.heap[b']? = some (.cells #[.slice Av xn cv, .int .i64 (x.safe : Int)] 112 (0, 0))) := h_ (fun w' hg => (hg.block b' (Array.getElem?_eq_some_iff.1 q4).1 (fun e => tyAt_ne (HTV.out b' e) (ha3.disk.ty_b (List.mem_of_getElem? q1)) (by decide) rfl)).trans q4)
   have HL3 : Hid ((b8s bs).length = n * 1) := h_ (by rw [b8s_length, HN.out, Nat.mul_one])
   clear q1 q2 q3 q4 q5 ha3 hxn
   go_wp2_with (at_builtin; refine wpList_append_rd _ rfl _ _ 29 rfl N 5 _ 1 1 Tryz.underlying29 info_u8 rfl (by decide) (.slice Av xn cv) xn _ rfl Q5.out A n c (b8s bs) rfl HL3.out HR3.out (b8s_one' _) (by unfold maxLen; omega) (by omega) HD3.out.size ?_; intro v7 w7 ho7 hg7 hvb7; have r7 := HAP.out w7 hg7; have k7 : w7.cell? ⟨b', 0, none⟩ = some (.slice Av xn cv) := row_cell r7 0; have f7 := row_froz (j := 0) r7; obtain ⟨A7, c7, e7, _⟩ := own_slice ho7; subst e7; have R7 := h_ r7; have HO7 := h_ ho7; have HG7 := h_ hg7; have HV7 := h_ hvb7; clear r7 ho7 hg7 hvb7)
   go_ret
   have hty : tyAt w7 b' 112 := ⟨_, _, R7.out⟩
   have hown : (w7.setCell ⟨b', 0, none⟩ (.slice A7 (xn + n) c7)).ownsRow N 5 1 (.slice A7 (xn + n) c7) (x.b ++ bs).length (b8s (x.b ++ bs)) := by
    rw [List.length_append, HXN.out, HN.out, b8s_append]
    exact own_keep HO7.out (fun c hc _ => Below.heap_setCell _ _ _ _ (tyAt_ne (own_ty HO7.out hc) hty (by decide)))
   have hob : ∀ a b c d : Nat, ∀ A : Option Addr, (Value.slice A a b).ownBlock = (Value.slice A c d).ownBlock := fun a b c d A => by cases A <;> rfl
   have hF : Frm (foot g d) w3 (w7.setCell ⟨b', 0, none⟩ (.slice A7 (xn + n) c7)) := (Frm.of_grown (F := foot g d) HG7.out (fun k hk => .inl (.inr (.inr (.inr (.inr (.inr ⟨_, List.mem_of_getElem? Q2.out, by rw [← hk]; exact hob _ _ _ _ _⟩))))))).trans (Frm.of_cell (F := foot g d) (.inr (.inr (.inr (.inr (.inl (List.mem_of_getElem? Q1.out))))))) (fun i hi => .inl hi)
   have hvb : (Value.slice A7 (xn + n) c7).ownBlock = (Value.slice Av x.b.length cv).ownBlock ∨ (Value.slice A7 (xn + n) c7).ownBlock = none ∨ ∃ c, (Value.slice A7 (xn + n) c7).ownBlock = some c ∧ w3.heap.size ≤ c := by
    rcases HV7.out with e | e
    ·exact .inl (by rw [e]; exact hob _ _ _ _ _)
    ·exact .inr (.inr ⟨_, e, Nat.le_refl _⟩)
   have hD := HD3.out.fileSet Q1.out Q2.out HXF.out ⟨x.b ++ bs, x.safe⟩ (.slice A7 (xn + n) c7) (set_row (j := 0) _ R7.out) hown (fun c hc hcb hcv => (Below.heap_setCell _ _ _ _ hcb).trans (HG7.out.block c (HD3.out.foot_lt hc) (by rw [hob xn cv x.b.length cv]; exact hcv))) hvb
   refine ⟨rfl, _, A3.out.trans (Aft.mk hD hF (fun c hc => ?_))⟩
   rcases foot_set c hc with h1 | h1
   ·exact .inl h1
   ·rcases hvb with e | e | ⟨k, e, hk⟩
    ·exact .inl (.inr (.inr (.inr (.inr (.inr ⟨_, List.mem_of_getElem? Q2.out, h1.trans e⟩)))))
    ·rw [e] at h1; cases h1
    ·right
     rw [e] at h1
     cases h1
     exact hk
  ·rw [if_neg (by rw [hs]; decide)] at e0
   rw [e0]
   have HST : Hid (∀ w', DiskIn N w' g m d → Calls Tryz.prog 51 #[.pointer (some ⟨g, 0, none⟩)] w' fun e w'' => e = .returned (.int .i64 50) ∧ Aft N g w' w'' (stepM m).1 d d) := h_ (fun w' hd' => by
    have := step_any N g m d hB.fuse w' hd'
    rwa [hs] at this)
   rw [hs]
   obtain ⟨m1, hm1⟩ := eX ((stepM m).1)
   rw [hm1] at HST ⊢
   clear e0 hf hdn hfn hb e2 hs hm1 hfl hrm hroom
   go_enter Tryz.func20, Tryz.ntmps20
   go_wp2_with fail
   refine HFI.out.mono ?_
   rintro e w1 ⟨rfl, rfl⟩
   go_wp2_with fail
   refine HRO.out.mono ?_
   rintro e w2 ⟨rfl, hb2⟩
   have A2 := h_ (Aft.below H.out hb2)
   clear hb2
   go_wp2_with fail
   refine (HST.out w2 A2.out.disk).mono ?_
   rintro e w3 ⟨rfl, ha3⟩
   have A3 := h_ (A2.out.trans ha3)
   clear ha3
   go_wp2_with fail
   go_ret
   exact ⟨rfl, d, A3.out⟩
 ·have e0 : appendM m S.data.toList bs = (m, e) := by unfold appendM; rw [hf]
  rw [e0]
  rw [hf] at HFI
  have e2 : ptrO d.bs none = .pointer none := rfl
  rw [e2] at HFI
  clear e0 hf e2
  rcases he with rfl | rfl
  all_goals (
   go_enter Tryz.func20, Tryz.ntmps20
   go_wp2_with fail
   refine HFI.out.mono ?_
   rintro e w1 ⟨rfl, rfl⟩
   go_wp2_with fail
   go_ret
   exact ⟨rfl, d, Aft.refl H.out⟩)
end Go.Proofs.YtelbofikcpchiaaGreat
