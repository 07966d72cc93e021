
/- The document's Right. (Printed by wip/genL10.py.) -/

import Derived.Test.YtfjfidhhmidflaaLet9

import Derived.Deep.CutBlock

import Derived.Deep.DeepCutAuto

namespace Go.Proofs.Ytfjfidhhmidflaa

set_option linter.unusedVariables false

set_option linter.unusedSimpArgs false

open Go.RowKit

/-! ### plain -/

theorem len0 (n : Nat) : ((n : Int) == 0) = decide (n = 0) := by
  by_cases h : n = 0
  · subst h; rfl
  · rw [decide_eq_false h, beq_eq_false_iff_ne]; omega
def refs0 (l : Lt) : Bool := decide (l.refs.length = 0)
def want0 (l : Lt) : Bool := decide (l.wants.length = 0) && decide (l.haves.length = 0)
def part0 (l : Lt) : Bool := (l.total == 0) && decide (l.pack = zeros32) && decide (l.data.length = 0)
def kindR (l : Lt) : Bool :=
  if l.kind = 1 then refs0 l && want0 l && part0 l && (l.off == 0)
  else if l.kind = 2 then refsAll l.refs && (decide (l.refs.length ≤ 100) && want0 l && part0 l && (l.off == 0))
  else if l.kind = 3 then refs0 l && part0 l && decide (0 < l.wants.length) && decide (l.wants.length ≤ 100) && decide (l.haves.length ≤ 200) && risingB zeros32 l.wants && risingB zeros32 l.haves && decide (0 ≤ l.off) && decide (l.off ≤ 1048576)
  else if l.kind = 4 then refs0 l && want0 l && !decide (l.pack = zeros32) && decide (0 ≤ l.off) && decide (l.total ≤ 1048576) && decide (l.data.length ≤ 500) && decide (l.off ≤ 1048576) && decide (l.off + (l.data.length : Int) ≤ l.total) && (decide (0 < l.data.length) || (l.off == l.total))
  else false
def rrL (l : Lt) : Bool := headB l && kindR l
theorem headB_iff (l : Lt) : headB l = true ↔ (1 ≤ l.from_ ∧ l.from_ ≤ 65536 ∧ 1 ≤ l.to_ ∧ l.to_ ≤ 65536 ∧ l.from_ ≠ l.to_ ∧ 1 ≤ l.session ∧ l.session ≤ 1099511627776) := by
  unfold headB withinB
  simp [and_assoc]
theorem rrL_head {l : Lt} (h : ¬ (1 ≤ l.from_ ∧ l.from_ ≤ 65536 ∧ 1 ≤ l.to_ ∧ l.to_ ≤ 65536 ∧ l.from_ ≠ l.to_ ∧ 1 ≤ l.session ∧ l.session ≤ 1099511627776)) : rrL l = false := by
  unfold rrL
  cases hh : headB l
  · rfl
  · exact absurd ((headB_iff l).1 hh) h
theorem rrL_rest {l : Lt} (h : 1 ≤ l.from_ ∧ l.from_ ≤ 65536 ∧ 1 ≤ l.to_ ∧ l.to_ ≤ 65536 ∧ l.from_ ≠ l.to_ ∧ 1 ≤ l.session ∧ l.session ≤ 1099511627776) : rrL l = kindR l := by
  unfold rrL
  rw [(headB_iff l).2 h]; rfl
theorem kindR_1 {l : Lt} (h : l.kind = 1) : kindR l = (refs0 l && want0 l && part0 l && (l.off == 0)) := by unfold kindR; rw [if_pos h]
theorem kindR_2 {l : Lt} (h : l.kind = 2) : kindR l = (refsAll l.refs && (decide (l.refs.length ≤ 100) && want0 l && part0 l && (l.off == 0))) := by unfold kindR; rw [if_neg (by omega), if_pos h]
theorem kindR_3 {l : Lt} (h : l.kind = 3) : kindR l = (refs0 l && part0 l && decide (0 < l.wants.length) && decide (l.wants.length ≤ 100) && decide (l.haves.length ≤ 200) && risingB zeros32 l.wants && risingB zeros32 l.haves && decide (0 ≤ l.off) && decide (l.off ≤ 1048576)) := by unfold kindR; rw [if_neg (by omega), if_neg (by omega), if_pos h]
theorem kindR_4 {l : Lt} (h : l.kind = 4) : kindR l = (refs0 l && want0 l && !decide (l.pack = zeros32) && decide (0 ≤ l.off) && decide (l.total ≤ 1048576) && decide (l.data.length ≤ 500) && decide (l.off ≤ 1048576) && decide (l.off + (l.data.length : Int) ≤ l.total) && (decide (0 < l.data.length) || (l.off == l.total))) := by unfold kindR; rw [if_neg (by omega), if_neg (by omega), if_neg (by omega), if_pos h]
theorem kindR_0 {l : Lt} (h1 : l.kind ≠ 1) (h2 : l.kind ≠ 2) (h3 : l.kind ≠ 3) (h4 : l.kind ≠ 4) : kindR l = false := by unfold kindR; rw [if_neg h1, if_neg h2, if_neg h3, if_neg h4]

/-- the document's right letters are the program's -/
theorem rrL_right (l : Lt) : rrL l = rightL l := by
  unfold rrL rightL
  rw [Bool.and_assoc]
  congr 1
  obtain ⟨k, f, t, s, rs, ws, hs, o, tot, pk, dt⟩ := l
  unfold kindR kindB sameL bareL base0 refs0 want0 part0 rightRefsB withinB
  by_cases e1 : k = 1
  · subst e1
    rw [Bool.eq_iff_iff]
    simp
    constructor
    · rintro ⟨⟨⟨h1, h2, h3⟩, ⟨h4, h5⟩, h6⟩, h7⟩; exact ⟨⟨⟨⟨⟨⟨h1, h2⟩, h3⟩, h7⟩, h4⟩, h5⟩, h6⟩
    · rintro ⟨⟨⟨⟨⟨⟨h1, h2⟩, h3⟩, h7⟩, h4⟩, h5⟩, h6⟩; exact ⟨⟨⟨h1, h2, h3⟩, ⟨h4, h5⟩, h6⟩, h7⟩
  · by_cases e2 : k = 2
    · subst e2
      rw [Bool.eq_iff_iff]
      simp
      constructor <;> (intro h; simp_all)
    · by_cases e3 : k = 3
      · subst e3
        rw [Bool.eq_iff_iff]
        simp
        constructor
        · rintro ⟨⟨⟨⟨⟨⟨⟨⟨a, ⟨b, c⟩, d⟩, e⟩, f⟩, g⟩, h⟩, i⟩, j⟩, k⟩
          exact ⟨⟨⟨⟨a, b⟩, c⟩, d⟩, ⟨⟨⟨⟨by omega, by omega⟩, g⟩, h⟩, i⟩, j, k⟩
        · rintro ⟨⟨⟨⟨a, b⟩, c⟩, d⟩, ⟨⟨⟨⟨e, f⟩, g⟩, h⟩, i⟩, j, k⟩
          exact ⟨⟨⟨⟨⟨⟨⟨⟨a, ⟨b, c⟩, d⟩, by omega⟩, by omega⟩, g⟩, h⟩, i⟩, j⟩, k⟩
      · by_cases e4 : k = 4
        · subst e4
          rw [Bool.eq_iff_iff]
          simp
          constructor <;> intro h <;> refine ⟨?_, ?_⟩ <;> simp_all <;> omega
        · simp [e1, e2, e3, e4]

set_option maxRecDepth 100000 in
set_option maxHeartbeats 16000000 in
theorem rright_bad (l : Lt) (p : LtP) (w : World) (hin : LtIn w l p) (hbad : ¬ (1 ≤ l.from_ ∧ l.from_ ≤ 65536 ∧ 1 ≤ l.to_ ∧ l.to_ ≤ 65536 ∧ l.from_ ≠ l.to_ ∧ 1 ≤ l.session ∧ l.session ≤ 1099511627776)) : Calls Try.prog 10 #[l.val p] w fun e w' => e = .returned (.bool (rightL l)) ∧ Below w.heap.size w w' := by
  obtain ⟨W1, hW1⟩ : ∃ W, w.alloc (.cells (l.cells p).toArray 37) = W := ⟨_, rfl⟩
  obtain ⟨r1, b1, s1⟩ := new_row hW1
  obtain ⟨g, hg⟩ : ∃ g, w.heap.size = g := ⟨_, rfl⟩
  rw [hg] at r1
  have HGS : Hid (g < W1.heap.size) := Lib.hid (Array.getElem?_eq_some_iff.1 r1).1
  have HR1 := Lib.hid r1
  have HB1 : Hid (Below g w W1) := Lib.hid (hg ▸ b1)
  have HIN := Lib.hid (hin.below b1)
  have HLN := Lib.hid hin.len
  have HF : Hid (∀ W, Below W1.heap.size W1 W → W.heap[g]? = some (.cells (l.cells p).toArray 37 (0, 0))) := Lib.hid (fun W h => (h.block g HGS.out).trans HR1.out)
  have HBW : Hid (∀ W, Below W1.heap.size W1 W → Below g w W) := Lib.hid (fun W h => HB1.out.trans (h.mono (Nat.le_of_lt HGS.out)))
  obtain ⟨V, hV⟩ : ∃ V, rightL l = V := ⟨_, rfl⟩
  have HV : Hid (rrL l = V) := Lib.hid ((rrL_right l).trans hV)
  rw [hV]
  obtain ⟨x0, x1, x2, x3, x4, x5, x6, x7, x8, x9, xp⟩ := ltRow_of r1 hin.len
  have HX : Hid (W1.cell? ⟨g, 0, none⟩ = some (.int .i64 l.kind) ∧ W1.cell? ⟨g, 4, none⟩ = some (.slice p.rA l.refs.length p.rc) ∧ W1.cell? ⟨g, 5, none⟩ = some (.slice p.wA l.wants.length p.wc) ∧ W1.cell? ⟨g, 6, none⟩ = some (.slice p.hA l.haves.length p.hc) ∧ W1.cell? ⟨g, 7, none⟩ = some (.int .i64 l.off) ∧ W1.cell? ⟨g, 8, none⟩ = some (.int .i64 l.total) ∧ W1.cell? ⟨g, 41, none⟩ = some (.slice p.dA l.data.length p.dc) ∧ W1.rangeAt g 9 (b8s l.pack)) := Lib.hid ⟨x0, x4, x5, x6, x7, x8, x9, xp⟩
  unfold Lt.val
  rw [hg]
  clear r1 b1 s1 hin hV x0 x4 x5 x6 x7 x8 x9 xp
  have HH : Hid (rrL l = false) := Lib.hid (rrL_head hbad)
  have HBAD := Lib.hid hbad
  clear hbad
  by_cases t1 : l.from_ < 1
  · go_enter Try.func10, Try.ntmps10
    go_wp2_with fail
    go_ret
    exact ⟨ret_bool (by rw [← HV.out, HH.out]), HB1.out⟩
  by_cases t2 : 65536 < l.from_
  · go_enter Try.func10, Try.ntmps10
    go_wp2_with fail
    go_ret
    exact ⟨ret_bool (by rw [← HV.out, HH.out]), HB1.out⟩
  by_cases t3 : l.to_ < 1
  · go_enter Try.func10, Try.ntmps10
    go_wp2_with fail
    go_ret
    exact ⟨ret_bool (by rw [← HV.out, HH.out]), HB1.out⟩
  by_cases t4 : 65536 < l.to_
  · go_enter Try.func10, Try.ntmps10
    go_wp2_with fail
    go_ret
    exact ⟨ret_bool (by rw [← HV.out, HH.out]), HB1.out⟩
  by_cases t5 : l.from_ = l.to_
  · have tb : (l.from_ == l.to_) = true := by simpa using t5
    clear t5
    go_enter Try.func10, Try.ntmps10
    go_wp2_with fail
    go_ret
    exact ⟨ret_bool (by rw [← HV.out, HH.out]), HB1.out⟩
  have tb : (l.from_ == l.to_) = false := by simpa using t5
  by_cases t6 : l.session < 1
  · go_enter Try.func10, Try.ntmps10
    go_wp2_with fail
    go_ret
    exact ⟨ret_bool (by rw [← HV.out, HH.out]), HB1.out⟩
  by_cases t7 : 1099511627776 < l.session
  · go_enter Try.func10, Try.ntmps10
    go_wp2_with fail
    go_ret
    exact ⟨ret_bool (by rw [← HV.out, HH.out]), HB1.out⟩
  exact absurd ⟨by omega, by omega, by omega, by omega, t5, by omega, by omega⟩ HBAD.out
end Go.Proofs.Ytfjfidhhmidflaa
