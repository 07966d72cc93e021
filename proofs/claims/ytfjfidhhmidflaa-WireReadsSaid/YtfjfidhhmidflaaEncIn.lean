
/- The document's reader In, as the plain state: its calls. -/

import Derived.Test.YtfjfidhhmidflaaEncRead3

namespace Go.Proofs.Ytfjfidhhmidflaa

set_option linter.unusedVariables false

set_option linter.unusedSimpArgs false

open Go.RowKit

/-- a value In is the state st -/
def InV (w : World) (v : Value) : St → Prop
  | some bs => ∃ A n c, v = .agg #[.slice A n c, .bool false] ∧ n = bs.length ∧ n ≤ c ∧ c ≤ maxLen ∧ Rd w A (b8s bs)
  | none => v = .agg #[.slice none 0 0, .bool true]
theorem InV.below {w w' : World} {v : Value} {st : St} (h : InV w v st) (hb : Below w.heap.size w w') : InV w' v st := by
  cases st with
  | none => exact h
  | some bs =>
    obtain ⟨A, n, c, h0, h1, h2, h3, h4⟩ := h
    exact ⟨A, n, c, h0, h1, h2, h3, h4.below hb⟩

theorem info_in : (Try.prog.info? 86).map (·.size) = some 2 := by kernel_rfl
theorem failed_any (w : World) :
    Calls Try.prog 62 #[] w fun e w' => e = .returned (.agg #[.slice none 0 0, .bool true]) ∧ Below w.heap.size w w' := by
  go_enter Try.func62, Try.ntmps62
  go_wp2_with fail
  have hc : (w.alloc (.cells #[.slice none 0 0, .bool true] 86)).heap[w.heap.size]? = _ := heap_alloc_new w _
  exact bodyPost_ret (results_cell_row rfl _ _ _ _ _ _ _ rfl hc Try.underlying86 rfl info_in) rfl ⟨rfl, (Below.refl _ _).alloc (Nat.le_refl _) _⟩

theorem idone_any (st : St) (v : Value) (w : World) (h : InV w v st) :
    Calls Try.prog 54 #[v] w fun e w' => e = .returned (.bool (doneS st)) ∧ Below w.heap.size w w' := by
  cases st with
  | none =>
    cases h
    go_enter Try.func54, Try.ntmps54
    go_wp2_with fail
    go_ret
    exact ⟨rfl, (Below.refl _ _).alloc (Nat.le_refl _) _⟩
  | some bs =>
    obtain ⟨A, n, c, rfl, hn, h2, h3, h4⟩ := h
    have Hn := Lib.hid hn
    have hz : ((n : Int) == 0) = decide (bs.length = 0) := by subst hn; by_cases hb : bs.length = 0 <;> simp [hb]
    clear hn
    go_enter Try.func54, Try.ntmps54
    go_wp2_with fail
    go_ret
    refine ⟨?_, (Below.refl _ _).alloc (Nat.le_refl _) _⟩
    congr 2
    simp [doneS]

/-! ### an In in a box, and one for the result -/

section

variable {P : Program}

end

/-- the world behind a box of an In and a cell for one -/
theorem in_entry (w : World) (x y : Value) : ∃ (W1 : World), (w.alloc (.cells #[x, y] 86)).alloc (.cells #[.slice none 0 0, .bool false] 86) = W1 ∧
    W1.heap[w.heap.size]? = some (.cells #[x, y] 86 (0, 0)) ∧ W1.heap[w.heap.size + 1]? = some (.cells #[.slice none 0 0, .bool false] 86 (0, 0)) ∧ Below w.heap.size w W1 ∧ W1.heap.size = w.heap.size + 2 :=
  ⟨_, rfl, heap_alloc2_old w _ _, heap_alloc2_new w _ _, ((Below.refl _ _).alloc (Nat.le_refl _) _).alloc (by simp) _, by simp⟩

theorem four4 (a b c d : UInt8) : ((((a.toNat : Int) % 4294967296 + 256 * ((b.toNat : Int) % 4294967296) % 4294967296) % 4294967296 + 65536 * ((c.toNat : Int) % 4294967296) % 4294967296) % 4294967296 + 16777216 * ((d.toNat : Int) % 4294967296) % 4294967296) % 4294967296 = ((four [a, b, c, d] : Nat) : Int) := by
  have ha := a.toNat_lt
  have hb := b.toNat_lt
  have hc := c.toNat_lt
  have hd := d.toNat_lt
  simp only [four]
  omega

theorem igetfour_any (st : St) (v : Value) (w : World) (h : InV w v st) :
    Calls Try.prog 49 #[v] w fun e w' => ∃ u, e = .returned (.tuple #[.int .u32 ((getFour st).1 : Int), u]) ∧ InV w' u (getFour st).2 ∧ Below w.heap.size w w' := by
  have hcases := st_cases st 4
  have hT : getFour st = (four (getN st 4).1, (getN st 4).2) := rfl
  generalize getFour st = T at *
  rcases hcases with ⟨bs, rfl, hlen⟩ | hno
  · rw [getN_yes hlen] at hT
    have HT := Lib.hid hT
    clear hT
    obtain ⟨A, n, c, rfl, hn, h2, h3, h4⟩ := h
    obtain ⟨W1, hW1, hb, hc, hbel, hsz⟩ := in_entry w (.slice A n c) (.bool false)
    have cb0 : W1.cell? ⟨w.heap.size, 0, none⟩ = some (.slice A n c) := row_cell hb 0
    have cb1 : W1.cell? ⟨w.heap.size, 1, none⟩ = some (.bool false) := row_cell hb 1
    have hl : ¬ (n : Int) < 4 := by omega
    have hl2 : (4 : Int) ≤ (n : Int) := by omega
    have hl0 : 0 < n := by omega
    have hl1 : 1 < n := by omega
    have hl3 : 2 < n := by omega
    have hl4 : 3 < n := by omega
    have hl5 : 4 ≤ n := by omega
    have hi1 : (1 : Int) < (n : Int) := by omega
    have hi2 : (2 : Int) < (n : Int) := by omega
    have hi3 : (3 : Int) < (n : Int) := by omega
    have Hn := Lib.hid hn
    clear hn
    have HR := Lib.hid (h4.below hbel)
    obtain ⟨x0, x1, x2, x3, rest, rfl⟩ : ∃ x0 x1 x2 x3 rest, bs = x0 :: x1 :: x2 :: x3 :: rest := by
      match bs, hlen with
      | x0 :: x1 :: x2 :: x3 :: rest, _ => exact ⟨_, _, _, _, _, rfl⟩
    have HB := Lib.hid hb
    have HC := Lib.hid hc
    have Hsz := Lib.hid hsz
    have H4 := Lib.hid h4
    clear h4 hb hc hlen hsz
    go_enter Try.func49, Try.ntmps49
    go_wp2_with fail
    clear hW1 hl
    have hr2 := HR.out
    obtain ⟨b, o, rfl, hc0⟩ := hr2.byte 0 (by simp)
    obtain ⟨b', o', he, hc1⟩ := hr2.byte 1 (by simp)
    cases he
    obtain ⟨b', o', he, hc2⟩ := hr2.byte 2 (by simp)
    cases he
    obtain ⟨b', o', he, hc3⟩ := hr2.byte 3 (by simp)
    cases he
    simp only [List.getElem_cons_zero, List.getElem_cons_succ, Nat.add_zero] at hc0 hc1 hc2 hc3
    have hne : b ≠ w.heap.size + 1 := by
      obtain ⟨b', o', he, hc⟩ := H4.out.byte 0 (by simp)
      cases he
      have := World.block_lt_of_cell? w _ hc
      dsimp only at this
      omega
    clear hr2
    refine wp_region_sched (fun w' => w'.cell? ⟨w.heap.size, 0, none⟩ = some (.slice (some ⟨b, o, none⟩) n c) ∧ w'.cell? ⟨b, o, none⟩ = some (.int .u8 x0.toNat) ∧ w'.cell? ⟨b, o + 1, none⟩ = some (.int .u8 x1.toNat) ∧ w'.cell? ⟨b, o + 2, none⟩ = some (.int .u8 x2.toNat) ∧ w'.cell? ⟨b, o + 3, none⟩ = some (.int .u8 x3.toNat))
      ((List.range 31).map (fun i => (true, i)) ++ [(false, 31)]) (by kernel_rfl) (by kernel_rfl) rfl (by kernel_rfl) ⟨by simpa using cb0, by simpa using hc0, by simpa using hc1, by simpa using hc2, by simpa using hc3⟩ ?_
    simp only [List.range, List.range.loop, List.map, List.cons_append, List.nil_append]
    (repeat (first | (refine wpS_pass _ rfl (by rfl) ?_; simp only [Act.put, List.getElem_toArray, List.getElem_cons_zero, List.getElem_cons_succ, List.setIfInBounds_toArray, List.set_cons_zero, List.set_cons_succ]) | (refine wpS_take _ ?_ rfl (by rfl) ?_ ?_; rotate_left; (focus (intro w' hS'; (try dsimp only at hS'); (repeat (have hS1 := hS'.1; replace hS' := hS'.2)); go_simp; (try with_reducible rfl); done)); simp only [Act.put, List.getElem_toArray, List.getElem_cons_zero, List.getElem_cons_succ, List.setIfInBounds_toArray, List.set_cons_zero, List.set_cons_succ])))
    have hs1 : w.heap.size ≤ W1.heap.size := by rw [Hsz.out]; omega
    obtain ⟨A', hA'⟩ : ∃ A', (if c = 4 then some (⟨b, o, none⟩ : Addr) else some ⟨b, o + 4, none⟩) = A' := ⟨_, rfl⟩
    rw [hA']
    have HA' := Lib.hid hA'
    refine wpS_do _ rfl (by rfl) (fun K hK => ?_)
    have hc := HC.out
    have f0 : W1.frozen? ⟨w.heap.size + 1, 0, none⟩ = false := row_free hc 0
    have f1 : W1.frozen? ⟨w.heap.size + 1, 1, none⟩ = false := row_free hc 1
    have c0 : W1.cell? ⟨w.heap.size + 1, 0, none⟩ = some (.slice none 0 0) := row_cell hc 0
    have c1 : W1.cell? ⟨w.heap.size + 1, 1, none⟩ = some (.bool false) := row_cell hc 1
    clear hc hA'
    go_simp
    refine hK.out _ _ ⟨?_, ?_, ?_, ?_, ?_⟩ (fun hS => ?_)
    · rw [set2_far _ _ _ _ _ (by simp)]; exact cb0
    · rw [set2_far _ _ _ _ _ (by simpa using Ne.symm hne)]; exact hc0
    · rw [set2_far _ _ _ _ _ (by simpa using Ne.symm hne)]; exact hc1
    · rw [set2_far _ _ _ _ _ (by simpa using Ne.symm hne)]; exact hc2
    · rw [set2_far _ _ _ _ _ (by simpa using Ne.symm hne)]; exact hc3
    have hrow : (((W1.setCell ⟨w.heap.size + 1, 0, none⟩ (.slice A' (n - 4) (c - 4))).setCell ⟨w.heap.size + 1, 1, none⟩ (.bool false)).drew).heap[w.heap.size + 1]? = _ := row_set2 HC.out (.slice A' (n - 4) (c - 4)) (.bool false)
    have hbl := (bel_set2 hbel hs1 (g := w.heap.size + 1) (by omega) (.slice A' (n - 4) (c - 4)) (.bool false)).drew
    clear hS hK f0 f1 c0 c1
    generalize (((W1.setCell ⟨w.heap.size + 1, 0, none⟩ (.slice A' (n - 4) (c - 4))).setCell ⟨w.heap.size + 1, 1, none⟩ (.bool false)).drew) = W2 at *
    refine wpS_done ?_
    have Hrow := Lib.hid hrow
    clear hrow
    go_wp2_with fail
    have := HT.out
    subst this
    refine bodyPost_ret (results_tmp_row rfl _ _ _ _ _ _ _ rfl Hrow.out Try.underlying86 rfl info_in) rfl ?_
    refine ⟨.agg #[.slice A' (n - 4) (c - 4), .bool false], ?_, ?_, hbl⟩
    · exact congrArg (fun z => Ending.returned (.tuple #[.int .u32 z, .agg #[.slice A' (n - 4) (c - 4), .bool false]])) (four4 x0 x1 x2 x3)
    · have hn := Hn.out
      have hd := Rd.drop (k := 4) (size := 1) (cap := c) (H4.out.below hbl) (by rw [b8s_length, ← Hn.out]; omega)
      refine ⟨_, _, _, rfl, ?_, by omega, by omega, ?_⟩
      · simp only [List.take_succ_cons, List.drop_succ_cons, List.drop_zero, List.length_cons] at hn ⊢; omega
      · rw [← HA'.out]; simpa [b8s, Addr.add] using hd
  · rw [getN_no hno] at hT
    have HT := Lib.hid hT
    clear hT
    cases st with
    | none =>
      cases h
      obtain ⟨W1, hW1, hb, hc, hbel, hsz⟩ := in_entry w (.slice none 0 0) (.bool true)
      have cb0 : W1.cell? ⟨w.heap.size, 0, none⟩ = some (.slice none 0 0) := row_cell hb 0
      have cb1 : W1.cell? ⟨w.heap.size, 1, none⟩ = some (.bool true) := row_cell hb 1
      have HC := Lib.hid hc
      have Hsz := Lib.hid hsz
      clear hb hc hsz
      go_enter Try.func49, Try.ntmps49
      go_wp2_with fail
      refine (failed_any _).mono ?_
      rintro e w1 ⟨rfl, hbl⟩
      have hc := (hbl.block _ (by rw [Hsz.out]; omega)).trans HC.out
      have f0 := row_free hc 0
      have f1 := row_free hc 1
      have c0 : w1.cell? ⟨w.heap.size + 1, 0, none⟩ = some (.slice none 0 0) := row_cell hc 0
      have c1 : w1.cell? ⟨w.heap.size + 1, 1, none⟩ = some (.bool false) := row_cell hc 1
      have Hc := Lib.hid hc
      clear hW1 hc
      go_wp2_with fail
      have := HT.out
      subst this
      have hs1 : w.heap.size ≤ W1.heap.size := by rw [Hsz.out]; omega
      exact bodyPost_ret (results_tmp_row rfl _ _ _ _ _ _ _ rfl (row_set2 Hc.out _ _) Try.underlying86 rfl info_in) rfl ⟨_, rfl, rfl, bel_set2 (hbel.trans (hbl.mono hs1)) (Nat.le_trans hs1 hbl.size) (by omega) _ _⟩
    | some bs =>
      have hl := hno bs rfl
      obtain ⟨A, n, c, rfl, hn, h2, h3, h4⟩ := h
      have hl' : (n : Int) < 4 := by omega
      clear h4 hn hl
      obtain ⟨W1, hW1, hb, hc, hbel, hsz⟩ := in_entry w (.slice A n c) (.bool false)
      have cb0 : W1.cell? ⟨w.heap.size, 0, none⟩ = some (.slice A n c) := row_cell hb 0
      have cb1 : W1.cell? ⟨w.heap.size, 1, none⟩ = some (.bool false) := row_cell hb 1
      have HC := Lib.hid hc
      have Hsz := Lib.hid hsz
      clear hb hc hsz
      go_enter Try.func49, Try.ntmps49
      go_wp2_with fail
      refine (failed_any _).mono ?_
      rintro e w1 ⟨rfl, hbl⟩
      have hc := (hbl.block _ (by rw [Hsz.out]; omega)).trans HC.out
      have f0 := row_free hc 0
      have f1 := row_free hc 1
      have c0 : w1.cell? ⟨w.heap.size + 1, 0, none⟩ = some (.slice none 0 0) := row_cell hc 0
      have c1 : w1.cell? ⟨w.heap.size + 1, 1, none⟩ = some (.bool false) := row_cell hc 1
      have Hc := Lib.hid hc
      clear hW1 hc
      go_wp2_with fail
      have := HT.out
      subst this
      have hs1 : w.heap.size ≤ W1.heap.size := by rw [Hsz.out]; omega
      exact bodyPost_ret (results_tmp_row rfl _ _ _ _ _ _ _ rfl (row_set2 Hc.out _ _) Try.underlying86 rfl info_in) rfl ⟨_, rfl, rfl, bel_set2 (hbel.trans (hbl.mono hs1)) (Nat.le_trans hs1 hbl.size) (by omega) _ _⟩
end Go.Proofs.Ytfjfidhhmidflaa
