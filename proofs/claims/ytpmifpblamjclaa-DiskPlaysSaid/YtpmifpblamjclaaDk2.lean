
/- A disk's small calls: named, Down, Fail, step, find, a turn done to names. -/

import Derived.Test.YtpmifpblamjclaaDk1

import Derived.Test.YtpmifpblamjclaaExec

import Derived.Test.YtpmifpblamjclaaSchedT

namespace Go.Proofs.Ytpmifpblamjclaa

set_option linter.unusedVariables false

set_option linter.unusedSimpArgs false

set_option linter.unusedSectionVars false

open Go.RowKit

/-- what a call leaves of a disk -/
structure Aft (N g : Nat) (w w' : World) (m' : DM) (d d' : DA) : Prop where
  disk : DiskIn N w' g m' d'
  frm : Frm (foot g d) w w'
  ext : ∀ b, foot g d' b → foot g d b ∨ w.heap.size ≤ b
theorem Aft.trans {N g : Nat} {w w1 w2 : World} {m1 m2 : DM} {d d1 d2 : DA} (h : Aft N g w w1 m1 d d1) (k : Aft N g w1 w2 m2 d1 d2) : Aft N g w w2 m2 d d2 :=
  ⟨k.disk, h.frm.trans k.frm h.ext, fun b hb => by rcases k.ext b hb with h1 | h1; exact h.ext b h1; exact .inr (Nat.le_trans h.frm.size h1)⟩
theorem Aft.refl {N g : Nat} {w : World} {m : DM} {d : DA} (h : DiskIn N w g m d) : Aft N g w w m d d := ⟨h, Frm.refl _ _, fun b hb => .inl hb⟩
theorem Aft.below {N g : Nat} {w w1 : World} {m : DM} {d : DA} (h : DiskIn N w g m d) (hb : Below w.heap.size w w1) : Aft N g w w1 m d d := ⟨h.below hb, Frm.of_below hb, fun b hb => .inl hb⟩
/-- behind it, what else comes -/
theorem Aft.then {N g : Nat} {w w1 w2 : World} {m1 : DM} {d d1 : DA} (h : Aft N g w w1 m1 d d1) (hb : Below w1.heap.size w1 w2) : Aft N g w w2 m1 d d1 := h.trans (Aft.below h.disk hb)
theorem Aft.bel {N g : Nat} {w w1 : World} {m m1 : DM} {d d1 : DA} (h : Aft N g w w1 m1 d d1) (h0 : DiskIn N w g m d) (hN : N ≤ w.heap.size) : Below N w w1 := h.frm.below hN (fun i hi => h0.foot_ge hi)
theorem DiskIn.size {N g : Nat} {w : World} {m : DM} {d : DA} (h : DiskIn N w g m d) : N ≤ w.heap.size := by
  have h1 := h.base.1
  have h2 := (Array.getElem?_eq_some_iff.1 h.row).1
  omega
/-- cells of the disk's row -/
theorem DiskIn.cells {N g : Nat} {w : World} {m : DM} {d : DA} (h : DiskIn N w g m d) : w.cell? ⟨g, 0, none⟩ = some (.map (some d.mb)) ∧ w.cell? ⟨g, 1, none⟩ = some (.map (some d.sb)) ∧ w.cell? ⟨g, 2, none⟩ = some d.tv ∧ w.cell? ⟨g, 3, none⟩ = some (.int .i64 (m.most : Int)) ∧ w.cell? ⟨g, 4, none⟩ = some (.int .i64 (m.fuse : Int)) ∧ w.cell? ⟨g, 5, none⟩ = some (.bool m.down) :=
  ⟨row_cell h.row 0, row_cell h.row 1, row_cell h.row 2, row_cell h.row 3, row_cell h.row 4, row_cell h.row 5⟩
theorem DiskIn.froz {N g : Nat} {w : World} {m : DM} {d : DA} (h : DiskIn N w g m d) (j : Nat) : w.frozen? ⟨g, j, none⟩ = false := by
  simp [World.frozen?, h.row]

theorem named_any (S : ByteArray) (w : World) : Calls Try.prog 31 #[.string S] w fun e w' => e = .returned (.bool (namedB S.data.toList)) ∧ w' = w := by
  have hs := size_toList S
  unfold namedB
  rw [hs]
  by_cases h1 : 1 ≤ S.size
  · have j1 : (1 : Int) ≤ (S.size : Int) := by omega
    by_cases h2 : S.size ≤ 100
    · have j2 : (S.size : Int) ≤ 100 := by omega
      go_enter Try.func31, Try.ntmps31
      go_wp2_with fail
      go_ret
      exact ⟨by simp [h1, h2], rfl⟩
    · have j2 : ¬ ((S.size : Int) ≤ 100) := by omega
      go_enter Try.func31, Try.ntmps31
      go_wp2_with fail
      go_ret
      exact ⟨by simp [h1, h2], rfl⟩
  · have j1 : ¬ ((1 : Int) ≤ (S.size : Int)) := by omega
    go_enter Try.func31, Try.ntmps31
    go_wp2_with fail
    go_ret
    exact ⟨by simp [h1], rfl⟩

theorem down_any (N g : Nat) (m : DM) (d : DA) (w : World) (h : DiskIn N w g m d) : Calls Try.prog 29 #[.pointer (some ⟨g, 0, none⟩)] w fun e w' => e = .returned (.bool m.down) ∧ w' = w := by
  have c5 := h.cells.2.2.2.2.2
  go_enter Try.func29, Try.ntmps29
  go_wp2_with fail
  go_ret
  exact ⟨rfl, rfl⟩

theorem fail_any (N g : Nat) (m : DM) (d : DA) (n : Int) (hn : -9223372036854775808 ≤ n ∧ n ≤ 9223372036854775807) (w : World) (h : DiskIn N w g m d) :
    Calls Try.prog 21 #[.pointer (some ⟨g, 0, none⟩), .int .i64 n] w fun e w' => e = .returned (.tuple #[]) ∧ Aft N g w w' (failM m n) d d := by
  have H := Lib.hid h
  have c4 := h.cells.2.2.2.2.1
  have f4 := h.froz 4
  have hmx := fun (w : World) => run_max2c (P := Try.prog) w #[3, 3] 3 .i64 .i64 n 0
  clear h
  go_enter Try.func21, Try.ntmps21
  go_wp2_with fail
  go_end0
  refine ⟨rfl, H.out.cellG 4 _ ?_ ⟨rfl, rfl, rfl, rfl⟩, Frm.of_cell (.inl rfl), fun b hb => .inl hb⟩
  simp only [rowD, failM]
  have e : (((max n 0).toNat : Nat) : Int) = max n 0 := by omega
  rw [e]
  rfl

theorem step_any (N g : Nat) (m : DM) (d : DA) (hf : m.fuse ≤ 9223372036854775807) (w : World) (h : DiskIn N w g m d) :
    Calls Try.prog 33 #[.pointer (some ⟨g, 0, none⟩)] w fun e w' => e = .returned (.int .i64 (stepM m).2) ∧ Aft N g w w' (stepM m).1 d d := by
  have H := Lib.hid h
  obtain ⟨c0, c1, c2, c3, c4, c5⟩ := h.cells
  have f4 := h.froz 4
  have f5 := h.froz 5
  clear c0 c1 c2 c3 h
  by_cases h0 : 0 < m.fuse
  · have j0 : (0 : Int) < (m.fuse : Int) := by omega
    by_cases h1 : m.fuse = 1
    · have e1 : stepM m = ({ m with fuse := 0, down := true }, 50) := by unfold stepM; rw [if_pos h0, if_pos h1]
      rw [e1]
      rw [h1] at c4
      clear h0 j0 e1
      have H1 : Hid (DiskIn N (w.setCell ⟨g, 4, none⟩ (.int .i64 0)) g { m with fuse := 0 } d) := Lib.hid (H.out.cellG 4 _ rfl ⟨rfl, rfl, rfl, rfl⟩)
      have H2 : Hid (DiskIn N ((w.setCell ⟨g, 4, none⟩ (.int .i64 0)).setCell ⟨g, 5, none⟩ (.bool true)) g { m with fuse := 0, down := true } d) := Lib.hid (H1.out.cellG 5 _ rfl ⟨rfl, rfl, rfl, rfl⟩)
      have HF : Hid (Frm (foot g d) w ((w.setCell ⟨g, 4, none⟩ (.int .i64 0)).setCell ⟨g, 5, none⟩ (.bool true))) := Lib.hid ((Frm.of_cell (.inl rfl)).trans (Frm.of_cell (F := foot g d) (.inl rfl)) (fun i hi => .inl hi))
      obtain ⟨W1, hW1⟩ : ∃ W, w.setCell ⟨g, 4, none⟩ (.int .i64 0) = W := ⟨_, rfl⟩
      rw [hW1] at H1 H2 HF
      have d4 : W1.cell? ⟨g, 4, none⟩ = some (.int .i64 0) := H1.out.cells.2.2.2.2.1
      have d5 := H1.out.cells.2.2.2.2.2
      have g5 := H1.out.froz 5
      go_enter Try.func33, Try.ntmps33
      go_wp2_with fail
      go_ret
      exact ⟨rfl, H2.out, HF.out, fun b hb => .inl hb⟩
    · have e1 : stepM m = ({ m with fuse := m.fuse - 1 }, 0) := by unfold stepM; rw [if_pos h0, if_neg h1]
      rw [e1]
      obtain ⟨k, hk⟩ : ∃ k, m.fuse = k + 2 := ⟨m.fuse - 2, by omega⟩
      rw [hk] at hf c4 ⊢
      replace c4 : w.cell? ⟨g, 4, none⟩ = some (.int .i64 ((k : Int) + 2)) := c4
      clear h0 h1 e1 j0
      have H1 : Hid (DiskIn N (w.setCell ⟨g, 4, none⟩ (.int .i64 ((k : Int) + 1))) g { m with fuse := k + 2 - 1 } d) := Lib.hid (H.out.cellG 4 _ rfl ⟨rfl, rfl, rfl, rfl⟩)
      have HF : Hid (Frm (foot g d) w (w.setCell ⟨g, 4, none⟩ (.int .i64 ((k : Int) + 1)))) := Lib.hid (Frm.of_cell (.inl rfl))
      obtain ⟨W1, hW1⟩ : ∃ W, w.setCell ⟨g, 4, none⟩ (.int .i64 ((k : Int) + 1)) = W := ⟨_, rfl⟩
      rw [hW1] at H1 HF
      have d4 : W1.cell? ⟨g, 4, none⟩ = some (.int .i64 ((k : Int) + 1)) := H1.out.cells.2.2.2.2.1
      have j0 : (0 : Int) < (k : Int) + 2 := by omega
      have j1 : (k : Int) + 2 - 1 = (k : Int) + 1 := by omega
      have z1 : ((k : Int) + 1 == 0) = false := by rw [beq_eq_false_iff_ne]; omega
      have hw : IntKind.i64.wrap ((k : Int) + 1) = (k : Int) + 1 := by rw [IntKind.wrap_i64]; omega
      go_enter Try.func33, Try.ntmps33
      go_wp2_with fail
      go_ret
      exact ⟨rfl, H1.out, HF.out, fun b hb => .inl hb⟩
  · have e1 : stepM m = (m, 0) := by unfold stepM; rw [if_neg h0]
    rw [e1]
    have j0 : ¬ ((0 : Int) < (m.fuse : Int)) := by omega
    clear h0 e1
    go_enter Try.func33, Try.ntmps33
    go_wp2_with fail
    go_ret
    exact ⟨rfl, Aft.refl H.out⟩

/-- a file's pointer, or nil -/
def ptrO (bs : List Nat) : Option Nat → Value
  | none => .pointer none
  | some f => ptrV bs f
theorem look_any {w : World} {b n : Nat} {bs : List Nat} {ns : NM} (h : w.ownsMap Try.prog 9 ptrR b n (namesD bs ns)) (S : ByteArray) (hs : S.size ≤ maxLen) :
    (Instr.lookup 66 (.map (some b)) (.string S) false).run Try.prog w = .ok (ptrO bs (findN ns S.data.toList)) w := by
  obtain ⟨v, ps, hr, hR⟩ := h.lookup keyed_str Try.underlying66 (z := .pointer none) (by kernel_rfl) (zd := .nil) (zp := []) rfl (key := .string S) (kl := .string S.data.toList) (WideMaps.keyOf_string_mk Try.underlying9 hs)
  have hv : v = ptrO bs (findN ns S.data.toList) := by
    rw [namesD_at] at hR
    cases hfn : findN ns S.data.toList with
    | none =>
      rw [hfn] at hR
      exact ptrR_nil hR
    | some f =>
      rw [hfn] at hR
      exact ptrR_inv hR
  rw [hr, hv]

set_option maxRecDepth 100000 in
theorem find_any (N g : Nat) (m : DM) (d : DA) (S : ByteArray) (hs : S.size ≤ maxLen) (w : World) (h : DiskIn N w g m d) :
    Calls Try.prog 38 #[.pointer (some ⟨g, 0, none⟩), .string S] w fun e w' =>
      e = .returned (.tuple #[ptrO d.bs (findM m S.data.toList).1, .int .i64 (findM m S.data.toList).2]) ∧ w' = w := by
  obtain ⟨c0, c1, c2, c3, c4, c5⟩ := h.cells
  have hlk := look_any h.now S hs
  clear c1 c2 c3 c4 h
  cases hd : m.down with
  | true =>
    have e1 : findM m S.data.toList = (none, 50) := by simp [findM, hd]
    rw [e1]
    rw [hd] at c5
    clear hd e1 hlk
    go_enter Try.func38, Try.ntmps38
    go_wp2_with fail
    go_ret2
    exact ⟨rfl, rfl⟩
  | false =>
    rw [hd] at c5
    cases hf : findN m.now S.data.toList with
    | none =>
      have e1 : findM m S.data.toList = (none, 4) := by simp [findM, hd, hf]
      rw [e1]
      rw [hf] at hlk
      clear hf e1 hd
      replace hlk : (Instr.lookup 66 (.map (some d.mb)) (.string S) false).run Try.prog w = .ok (.pointer none) w := hlk
      go_enter Try.func38, Try.ntmps38
      go_wp2_with fail
      go_ret2
      exact ⟨rfl, rfl⟩
    | some f =>
      have e1 : findM m S.data.toList = (some f, 0) := by simp [findM, hd, hf]
      rw [e1]
      rw [hf] at hlk
      obtain ⟨b, hb⟩ : ∃ b, d.bs.getD f 0 = b := ⟨_, rfl⟩
      have e2 : ptrO d.bs (some f) = .pointer (some ⟨b, 0, none⟩) := by rw [← hb]; rfl
      rw [e2] at hlk
      show Calls _ _ _ _ fun e w' => e = .returned (.tuple #[ptrO d.bs (some f), .int .i64 0]) ∧ w' = w
      rw [e2]
      clear hf e1 hd hb e2
      go_enter Try.func38, Try.ntmps38
      go_wp2_with fail
      go_ret2
      exact ⟨rfl, rfl⟩
end Go.Proofs.Ytpmifpblamjclaa
