
/- The document's GetText and GetId. -/

import Derived.Test.YtfjfidhhmidflaaEncIn2

namespace Go.Proofs.Ytfjfidhhmidflaa

set_option linter.unusedVariables false

set_option linter.unusedSimpArgs false

open Go.RowKit

/-- bytes never lie in a row of a slice and a bool: they stay while it is written -/
theorem rd_keep_row {w w' : World} {g : Nat} {x y : Value} {t : TypeId} {A : Option Addr} {bs : List UInt8} (hh : w.heap[g]? = some (.cells #[x, y] t (0, 0))) (ha : ∀ z, x ≠ .int .u8 z) (hb : ∀ z, y ≠ .int .u8 z) (hr : Rd w A (b8s bs))
    (hg : w.grownBy w' (some g)) : Rd w' A (b8s bs) := by
  by_cases hne : bs = []
  · subst hne; exact Rd.nil
  · refine hr.grown hg (fun ad hA e => ?_)
    have hp : 0 < bs.length := List.length_pos_iff.2 hne
    obtain ⟨b', o, hA', hc⟩ := hr.byte 0 hp
    rw [hA'] at hA
    cases hA
    have hbg : b' = g := by simpa using e
    subst hbg
    rw [row_cell hh] at hc
    match o, hc with
    | 0, hc => simp at hc; exact ha _ hc
    | 1, hc => simp at hc; exact hb _ hc
    | o + 2, hc => simp at hc
set_option maxRecDepth 100000 in
set_option maxHeartbeats 2000000 in
theorem igettext_any (st : St) (v : Value) (most : Int) (w : World) (h : InV w v st) :
    Calls Try.prog 51 #[v, .int .i64 most] w fun e w' => ∃ u, e = .returned (.tuple #[.string ⟨(getText st most).1.toArray⟩, u]) ∧ InV w' u (getText st most).2 ∧ Below w.heap.size w w' := by
  have hv : ∃ x y, v = .agg #[x, y] := by
    cases st with
    | none => exact ⟨_, _, h⟩
    | some bs => obtain ⟨A, n, c, rfl, _⟩ := h; exact ⟨_, _, rfl⟩
  obtain ⟨x, y, rfl⟩ := hv
  have hgn := fun w1 (hb : Below w.heap.size w w1) => igetnum_any st (.agg #[x, y]) most w1 (h.below hb)
  have hle := getNum_le st most
  have hcases := st_cases (getNum st most).2 (getNum st most).1
  have hT : getText st most = getN (getNum st most).2 (getNum st most).1 := rfl
  generalize getText st most = T at *
  generalize getNum st most = R at *
  obtain ⟨n, st2⟩ := R
  dsimp only at hgn hle hcases hT
  have HG := Lib.hid hgn
  have HT := Lib.hid hT
  obtain ⟨W1, hW1, hb, hc, hbel, hsz⟩ := in_entry w x y
  have cb0 : W1.cell? ⟨w.heap.size, 0, none⟩ = some x := row_cell hb 0
  have cb1 : W1.cell? ⟨w.heap.size, 1, none⟩ = some y := row_cell hb 1
  have HB := Lib.hid hb
  have HC := Lib.hid hc
  have Hsz := Lib.hid hsz
  clear hb hc hsz hgn hT h
  go_enter Try.func51, Try.ntmps51
  go_wp2_with (refine wpList_load_row rfl _ _ rfl _ rfl _ _ _ _ HB.out Try.underlying86 rfl info_in ?_)
  refine (HG.out W1 hbel).mono ?_
  rintro e w2 ⟨u, rfl, hu, hb2⟩
  have hs1 : w.heap.size ≤ W1.heap.size := by rw [Hsz.out]; omega
  have hc2 := (hb2.block _ (by rw [Hsz.out]; omega)).trans HC.out
  have HC2 := Lib.hid hc2
  have hbl2 := hbel.trans (hb2.mono hs1)
  have hs2 := hb2.size
  clear hc2 hW1 cb0 cb1 HG
  rcases hcases with ⟨bs, rfl, hlen⟩ | hno
  · obtain ⟨A2, n2, c2, rfl, hn2, h2, h3, h4⟩ := hu
    have hl : ¬ (n2 : Int) < (n : Int) := by omega
    have Hn2 := Lib.hid hn2
    have Hlen := Lib.hid hlen
    have H4 := Lib.hid h4
    clear hn2 hlen h4 hb2
    go_wp2_with fail
    obtain ⟨W3, hW3⟩ : ∃ W3, w2.alloc (.cells #[.slice A2 n2 c2, .bool false] 86) = W3 := ⟨_, rfl⟩
    have hcy : W3.heap[w2.heap.size]? = some (.cells #[.slice A2 n2 c2, .bool false] 86 (0, 0)) := by rw [← hW3]; exact heap_alloc_new w2 _
    have cy0 : W3.cell? ⟨w2.heap.size, 0, none⟩ = some (.slice A2 n2 c2) := row_cell hcy 0
    have hb3 : Below w2.heap.size w2 W3 := by rw [← hW3]; exact (Below.refl _ _).alloc (Nat.le_refl _) _
    have hc3 := (hb3.block _ (by have := Hsz.out; omega)).trans HC2.out
    have HC3 := Lib.hid hc3
    have hr3 : Rd W3 A2 (b8s bs) := H4.out.below hb3
    have hlen := Hlen.out
    have hn2 := Hn2.out
    have hn1 : (n : Int) ≤ (n2 : Int) := by omega
    have hn3 : n ≤ n2 := by omega
    have hn4 : n ≤ c2 := by omega
    have hn5 : (n : Int) ≤ (c2 : Int) := by omega
    rw [hW3]
    clear hW3 hcy hc3 hn2 hlen
    refine wp_region_sched (fun w' => w'.cell? ⟨w2.heap.size, 0, none⟩ = some (.slice A2 n2 c2) ∧ Rd w' A2 (b8s bs)) [(true, 0), (true, 1), (true, 2), (true, 3), (true, 4), (true, 5), (true, 6), (true, 7), (true, 8), (true, 9), (true, 10), (false, 11)] (by kernel_rfl) (by kernel_rfl) rfl (by kernel_rfl) ⟨cy0, hr3⟩ ?_
    (repeat (first | (refine wpS_pass _ rfl (by rfl) ?_; simp only [Act.put, List.getElem_toArray, List.getElem_cons_zero, List.getElem_cons_succ, List.setIfInBounds_toArray, List.set_cons_zero, List.set_cons_succ]) | (refine wpS_take _ ?_ rfl (by rfl) ?_ ?_; rotate_left; (focus (intro w' hS'; (try dsimp only at hS'); (repeat (have hS1 := hS'.1; replace hS' := hS'.2)); go_simp; (try with_reducible rfl); done)); simp only [Act.put, List.getElem_toArray, List.getElem_cons_zero, List.getElem_cons_succ, List.setIfInBounds_toArray, List.set_cons_zero, List.set_cons_succ])))
    refine wpS_take _ (.string ⟨(bs.take n).toArray⟩) rfl (by rfl) (fun w' hS' => ?_) ?_
    · have htk : Rd w' A2 (b8s (bs.take n)) := by have := hS'.2.take n; rwa [← b8s_take] at this
      have hcv := run_str_of_bytes (P := Try.prog) (src := 26) (dst := 9) (e := 5) n c2 (by have := Hlen.out; rw [List.length_take]; omega) Try.underlying26 Try.underlying5 Try.underlying9 htk
      go_simp
    simp only [Act.put, List.getElem_toArray, List.getElem_cons_zero, List.getElem_cons_succ, List.setIfInBounds_toArray, List.set_cons_zero, List.set_cons_succ]
    (repeat (first | (refine wpS_pass _ rfl (by rfl) ?_; simp only [Act.put, List.getElem_toArray, List.getElem_cons_zero, List.getElem_cons_succ, List.setIfInBounds_toArray, List.set_cons_zero, List.set_cons_succ]) | (refine wpS_take _ ?_ rfl (by rfl) ?_ ?_; rotate_left; (focus (intro w' hS'; (try dsimp only at hS'); (repeat (have hS1 := hS'.1; replace hS' := hS'.2)); go_simp; (try with_reducible rfl); done)); simp only [Act.put, List.getElem_toArray, List.getElem_cons_zero, List.getElem_cons_succ, List.setIfInBounds_toArray, List.set_cons_zero, List.set_cons_succ])))
    obtain ⟨A', hA'⟩ : ∃ A', (if c2 = n then A2 else Option.map (fun x => x.add n) A2) = A' := ⟨_, rfl⟩
    rw [hA']
    have HA := Lib.hid hA'
    clear hA'
    refine wpS_do _ rfl (by rfl) (fun K hK => ?_)
    have hc := HC3.out
    have f0 : W3.frozen? ⟨w.heap.size + 1, 0, none⟩ = false := row_free hc 0
    have f1 : W3.frozen? ⟨w.heap.size + 1, 1, none⟩ = false := row_free hc 1
    have c0 : W3.cell? ⟨w.heap.size + 1, 0, none⟩ = some (.slice none 0 0) := row_cell hc 0
    have c1 : W3.cell? ⟨w.heap.size + 1, 1, none⟩ = some (.bool false) := row_cell hc 1
    clear hc
    go_simp
    have hr4 := fun x y => rd_keep_row HC3.out (fun z => by simp) (fun z => by simp) hr3 (grown_set2 W3 (w.heap.size + 1) x y)
    refine hK.out _ _ ⟨by rw [set2_far _ _ _ _ _ (by have := Hsz.out; dsimp only; omega)]; exact cy0, hr4 _ _⟩ (fun hS => ?_)
    have HR4 := Lib.hid hS.2
    clear hS hK f0 f1 c0 c1 hr4 hr3 cy0
    refine wpS_done ?_
    go_wp2_with fail
    have hT := HT.out
    rw [getN_yes Hlen.out] at hT
    subst hT
    have hbl3 := hbl2.trans (hb3.mono (by omega))
    have hbl := (bel_set2 hbl3 (by have := hb3.size; omega) (g := w.heap.size + 1) (by omega) (.slice A' (n2 - n) (c2 - n)) (.bool false)).drew
    refine bodyPost_ret (results_tmp_row rfl _ _ _ _ _ _ _ rfl (row_set2d HC3.out _ _) Try.underlying86 rfl info_in) rfl ?_
    refine ⟨.agg #[.slice A' (n2 - n) (c2 - n), .bool false], rfl, ?_, hbl⟩
    have hd := Rd.drop (k := n) (size := 1) (cap := c2) HR4.out (by rw [b8s_length]; have := Hn2.out; omega)
    rw [Nat.mul_one, ← b8s_drop, HA.out] at hd
    exact ⟨_, _, _, rfl, by have := Hn2.out; rw [List.length_drop]; omega, by omega, by omega, hd⟩
  · cases st2 with
    | none =>
      cases hu
      go_wp2_with fail
      refine (failed_any _).mono ?_
      rintro e w5 ⟨rfl, hb5⟩
      have hb25 : Below w2.heap.size w2 w5 := ((Below.refl _ _).alloc (Nat.le_refl _) _).trans (hb5.mono (by simp))
      have hc := (hb25.block _ (by have := Hsz.out; omega)).trans HC2.out
      have f0 := row_free hc 0
      have f1 := row_free hc 1
      have c0 : w5.cell? ⟨w.heap.size + 1, 0, none⟩ = some (.slice none 0 0) := row_cell hc 0
      have c1 : w5.cell? ⟨w.heap.size + 1, 1, none⟩ = some (.bool false) := row_cell hc 1
      have Hc := Lib.hid hc
      clear hc
      go_wp2_with fail
      have := HT.out
      rw [getN_no hno] at this
      subst this
      have hs5 := hb5.size
      exact bodyPost_ret (results_tmp_row rfl _ _ _ _ _ _ _ rfl (row_set2 Hc.out _ _) Try.underlying86 rfl info_in) rfl ⟨_, rfl, rfl, bel_set2 (hbl2.trans (hb25.mono (by omega))) (by have := hb25.size; omega) (by omega) _ _⟩
    | some bs =>
      have hl := hno bs rfl
      obtain ⟨A2, n2, c2, rfl, hn2, h2, h3, h4⟩ := hu
      have hl' : (n2 : Int) < (n : Int) := by omega
      have hl2 : n2 < n := by omega
      clear hl hn2 h4
      go_wp2_with fail
      refine (failed_any _).mono ?_
      rintro e w5 ⟨rfl, hb5⟩
      have hb25 : Below w2.heap.size w2 w5 := ((Below.refl _ _).alloc (Nat.le_refl _) _).trans (hb5.mono (by simp))
      have hc := (hb25.block _ (by have := Hsz.out; omega)).trans HC2.out
      have f0 := row_free hc 0
      have f1 := row_free hc 1
      have c0 : w5.cell? ⟨w.heap.size + 1, 0, none⟩ = some (.slice none 0 0) := row_cell hc 0
      have c1 : w5.cell? ⟨w.heap.size + 1, 1, none⟩ = some (.bool false) := row_cell hc 1
      have Hc := Lib.hid hc
      clear hc
      go_wp2_with fail
      have := HT.out
      rw [getN_no hno] at this
      subst this
      have hs5 := hb5.size
      exact bodyPost_ret (results_tmp_row rfl _ _ _ _ _ _ _ rfl (row_set2 Hc.out _ _) Try.underlying86 rfl info_in) rfl ⟨_, rfl, rfl, bel_set2 (hbl2.trans (hb25.mono (by omega))) (by have := hb25.size; omega) (by omega) _ _⟩
end Go.Proofs.Ytfjfidhhmidflaa
