/- The document's reader In, with a bound of the blocks where its bytes lie. (Printed by wip/genInK.py out of XEncIn .. XEncIn4.) -/
import Derived.Test.YtelbofikcpchiaaGreatQB
namespace Go.Proofs.YtelbofikcpchiaaGreat
open Go.RowKit
theorem drop_lt {K : Nat → Prop} {A : Option Addr} {c k : Nat} (h : ∀ a, A = some a → K a.block) {a : Addr} (ha : (if c = k then A else Option.map (fun x => x.add k) A) = some a) : K a.block := by
 split at ha
 ·exact h a ha
 ·cases A with
  | none => cases ha
  | some x =>
    have h1 := h x rfl
    cases ha
    have e : (x.add k).block = x.block := by unfold Addr.add; split <;> rfl
    show K (x.add k).block
    rw [e]
    exact h1
def InV (K : Nat → Prop) (w : World) (v : Value) : St → Prop
 | some bs => ∃ A n c, v = .agg #[.slice A n c, .bool false] ∧ n = bs.length ∧ n ≤ c ∧ c ≤ maxLen ∧ Rd w A (b8s bs) ∧ (bs ≠ [] → ∀ a, A = some a → K a.block)
 | none => v = .agg #[.slice none 0 0, .bool true]
theorem InV.below {K : Nat → Prop} {w w' : World} {v : Value} {st : St} (h : InV K w v st) (hb : Below w.heap.size w w') : InV K w' v st := by
 cases st with
 | none => exact h
 | some bs =>
   obtain ⟨A, n, c, h0, h1, h2, h3, h4, h5⟩ := h
   exact ⟨A, n, c, h0, h1, h2, h3, h4.below hb, h5⟩
theorem info_in : (Tryz.prog.info? 156).map (·.size) = some 2 := by kernel_rfl
theorem failed_any (w : World) :
  Calls Tryz.prog 110 #[] w fun e w' => e = .returned (.agg #[.slice none 0 0, .bool true]) ∧ Below w.heap.size w w' := by
 go_enter Tryz.func110, Tryz.ntmps110
 go_wp2_with fail
 have hc : (w.alloc (.cells #[.slice none 0 0, .bool true] 156)).heap[w.heap.size]? = _ := heap_alloc_new w _
 exact bodyPost_ret (results_cell_row rfl _ _ _ _ _ _ _ rfl hc Tryz.underlying156 rfl info_in) rfl ⟨rfl, (Below.refl _ _).alloc (Nat.le_refl _) _⟩
theorem idone_any {K : Nat → Prop} (st : St) (v : Value) (w : World) (h : InV K w v st) :
  Calls Tryz.prog 91 #[v] w fun e w' => e = .returned (.bool (doneS st)) ∧ Below w.heap.size w w' := by
 cases st with
 | none =>
   cases h
   go_enter Tryz.func91, Tryz.ntmps91
   go_wp2_with fail
   go_ret
   exact ⟨rfl, (Below.refl _ _).alloc (Nat.le_refl _) _⟩
 | some bs =>
   obtain ⟨A, n, c, rfl, hn, h2, h3, h4, h5⟩ := h
   have H5 := h_ h5
   clear h5
   have Hn := h_ hn
   have hz : ((n : Int) == 0) = decide (bs.length = 0) := by subst hn; by_cases hb : bs.length = 0 <;> simp [hb]
   clear hn
   go_enter Tryz.func91, Tryz.ntmps91
   go_wp2_with fail
   go_ret
   refine ⟨?_, (Below.refl _ _).alloc (Nat.le_refl _) _⟩
   congr 2
   simp [doneS]
set_option linter.unusedSectionVars false
section
variable {P : Program}
end
theorem in_entry (w : World) (x y : Value) : ∃ (W1 : World), (w.alloc (.cells #[x, y] 156)).alloc (.cells #[.slice none 0 0, .bool false] 156) = W1 ∧
  W1.heap[w.heap.size]? = some (.cells #[x, y] 156 (0, 0)) ∧ W1.heap[w.heap.size + 1]? = some (.cells #[.slice none 0 0, .bool false] 156 (0, 0)) ∧ Below w.heap.size w W1 ∧ W1.heap.size = w.heap.size + 2 :=
 ⟨_, rfl, heap_alloc2_old w _ _, heap_alloc2_new w _ _, ((Below.refl _ _).alloc (Nat.le_refl _) _).alloc (by simp) _, by simp⟩
theorem four4 (a b c d : UInt8) : ((((a.toNat : Int) % 4294967296 + 256 * ((b.toNat : Int) % 4294967296) % 4294967296) % 4294967296 + 65536 * ((c.toNat : Int) % 4294967296) % 4294967296) % 4294967296 + 16777216 * ((d.toNat : Int) % 4294967296) % 4294967296) % 4294967296 = ((four [a, b, c, d] : Nat) : Int) := by
 have ha := a.toNat_lt
 have hb := b.toNat_lt
 have hc := c.toNat_lt
 have hd := d.toNat_lt
 simp only [four]
 omega
theorem igetfour_any {K : Nat → Prop} (st : St) (v : Value) (w : World) (h : InV K w v st) :
  Calls Tryz.prog 88 #[v] w fun e w' => ∃ u, e = .returned (.tuple #[.int .u32 ((getFour st).1 : Int), u]) ∧ InV K w' u (getFour st).2 ∧ Below w.heap.size w w' := by
 have hcases := st_cases st 4
 have hT : getFour st = (four (getN st 4).1, (getN st 4).2) := rfl
 generalize getFour st = T at *
 rcases hcases with ⟨bs, rfl, hlen⟩ | hno
 ·rw [getN_yes hlen] at hT
  have HT := h_ hT
  clear hT
  obtain ⟨A, n, c, rfl, hn, h2, h3, h4, h5⟩ := h
  have H5 := h_ h5
  clear h5
  obtain ⟨W1, hW1, hb, hc, hbel, hsz⟩ := in_entry w (.slice A n c) (.bool false)
  have cb0 : W1.cell? ⟨w.heap.size, 0, none⟩ = some (.slice A n c) := row_cell hb 0
  have cb1 : W1.cell? ⟨w.heap.size, 1, none⟩ = some (.bool false) := row_cell hb 1
  have hl : ¬ (n : Int) < 4 := by omega
  have hl2 : (4 : Int) ≤ (n : Int) := by omega
  have hl0 : 0 < n := by omega
  have hl1 : 1 < n := by omega
  have hl3 : 2 < n := by omega
  have hl4 : 3 < n := by omega
  have hl5 : 4 ≤ n := by omega
  have hi1 : (1 : Int) < (n : Int) := by omega
  have hi2 : (2 : Int) < (n : Int) := by omega
  have hi3 : (3 : Int) < (n : Int) := by omega
  have Hn := h_ hn
  clear hn
  have HR := h_ (h4.below hbel)
  obtain ⟨x0, x1, x2, x3, rest, rfl⟩ : ∃ x0 x1 x2 x3 rest, bs = x0 :: x1 :: x2 :: x3 :: rest := by
   match bs, hlen with
   | x0 :: x1 :: x2 :: x3 :: rest, _ => exact ⟨_, _, _, _, _, rfl⟩
  have HB := h_ hb
  have HC := h_ hc
  have Hsz := h_ hsz
  have H4 := h_ h4
  clear h4 hb hc hlen hsz
  go_enter Tryz.func88, Tryz.ntmps88
  go_wp2_with fail
  clear hW1 hl
  have hr2 := HR.out
  obtain ⟨b, o, rfl, hc0⟩ := hr2.byte 0 (by simp)
  obtain ⟨b', o', he, hc1⟩ := hr2.byte 1 (by simp)
  cases he
  obtain ⟨b', o', he, hc2⟩ := hr2.byte 2 (by simp)
  cases he
  obtain ⟨b', o', he, hc3⟩ := hr2.byte 3 (by simp)
  cases he
  simp only [List.getElem_cons_zero, List.getElem_cons_succ, Nat.add_zero] at hc0 hc1 hc2 hc3
  have hne : b ≠ w.heap.size + 1 := by
   obtain ⟨b', o', he, hc⟩ := H4.out.byte 0 (by simp)
   cases he
   have := World.block_lt_of_cell? w _ hc
   dsimp only at this
   omega
  clear hr2
  refine wp_region_sched (fun w' => w'.cell? ⟨w.heap.size, 0, none⟩ = some (.slice (some ⟨b, o, none⟩) n c) ∧ w'.cell? ⟨b, o, none⟩ = some (.int .u8 x0.toNat) ∧ w'.cell? ⟨b, o + 1, none⟩ = some (.int .u8 x1.toNat) ∧ w'.cell? ⟨b, o + 2, none⟩ = some (.int .u8 x2.toNat) ∧ w'.cell? ⟨b, o + 3, none⟩ = some (.int .u8 x3.toNat))
   ((List.range 31).map (fun i => (true, i)) ++ [(false, 31)]) (by kernel_rfl) (by kernel_rfl) rfl (by kernel_rfl) ⟨by simpa using cb0, by simpa using hc0, by simpa using hc1, by simpa using hc2, by simpa using hc3⟩ ?_
  simp only [List.range, List.range.loop, List.map, List.cons_append, List.nil_append]
  (repeat ((first | refine wpS_pass _ rfl (by rfl) ?_ | (refine wpS_take _ ?_ rfl (by rfl) ?_ ?_; rotate_left; (focus (intro w' hS'; (try dsimp only at hS'); (repeat (have hS1 := hS'.1; replace hS' := hS'.2)); go_simp; (try with_reducible rfl); done)))); simp only [LY]))
  have hs1 : w.heap.size ≤ W1.heap.size := by rw [Hsz.out]; omega
  obtain ⟨A', hA'⟩ := eX ((if c = 4 then some (⟨b, o, none⟩ : Addr) else some ⟨b, o + 4, none⟩))
  rw [hA']
  have HA' := h_ hA'
  refine wpS_do _ rfl (by rfl) (fun K hK => ?_)
  have hc := HC.out
  have f0 : W1.frozen? ⟨w.heap.size + 1, 0, none⟩ = false := row_free hc 0
  have f1 : W1.frozen? ⟨w.heap.size + 1, 1, none⟩ = false := row_free hc 1
  have c0 : W1.cell? ⟨w.heap.size + 1, 0, none⟩ = some (.slice none 0 0) := row_cell hc 0
  have c1 : W1.cell? ⟨w.heap.size + 1, 1, none⟩ = some (.bool false) := row_cell hc 1
  clear hc hA'
  go_simp
  refine hK.out _ _ ⟨?_, ?_, ?_, ?_, ?_⟩ (fun hS => ?_)
  ·rw [set2_far _ _ _ _ _ (by simp)]; exact cb0
  ·rw [set2_far _ _ _ _ _ (by simpa using Ne.symm hne)]; exact hc0
  ·rw [set2_far _ _ _ _ _ (by simpa using Ne.symm hne)]; exact hc1
  ·rw [set2_far _ _ _ _ _ (by simpa using Ne.symm hne)]; exact hc2
  ·rw [set2_far _ _ _ _ _ (by simpa using Ne.symm hne)]; exact hc3
  have hrow : (((W1.setCell ⟨w.heap.size + 1, 0, none⟩ (.slice A' (n - 4) (c - 4))).setCell ⟨w.heap.size + 1, 1, none⟩ (.bool false)).drew).heap[w.heap.size + 1]? = _ := row_set2 HC.out (.slice A' (n - 4) (c - 4)) (.bool false)
  have hbl := (bel_set2 hbel hs1 (g := w.heap.size + 1) (by omega) (.slice A' (n - 4) (c - 4)) (.bool false)).drew
  clear hS hK f0 f1 c0 c1
  generalize (((W1.setCell ⟨w.heap.size + 1, 0, none⟩ (.slice A' (n - 4) (c - 4))).setCell ⟨w.heap.size + 1, 1, none⟩ (.bool false)).drew) = W2 at *
  refine wpS_done ?_
  have Hrow := h_ hrow
  clear hrow
  go_wp2_with fail
  have := HT.out
  subst this
  refine bodyPost_ret (results_tmp_row rfl _ _ _ _ _ _ _ rfl Hrow.out Tryz.underlying156 rfl info_in) rfl ?_
  refine ⟨.agg #[.slice A' (n - 4) (c - 4), .bool false], ?_, ?_, hbl⟩
  ·exact congrArg (fun z => Ending.returned (.tuple #[.int .u32 z, .agg #[.slice A' (n - 4) (c - 4), .bool false]])) (four4 x0 x1 x2 x3)
  ·have hn := Hn.out
   have hd := Rd.drop (k := 4) (size := 1) (cap := c) (H4.out.below hbl) (by rw [b8s_length, ← Hn.out]; omega)
   refine ⟨_, _, _, rfl, ?_, by omega, by omega, ?_, fun hne a ha => ?_⟩
   ·simp only [List.take_succ_cons, List.drop_succ_cons, List.drop_zero, List.length_cons] at hn ⊢; omega
   ·rw [← HA'.out]; simpa [b8s, Addr.add] using hd
   ·rw [← HA'.out] at ha
    split at ha <;> (cases ha; exact H5.out (fun e => by cases e) ⟨b, o, none⟩ rfl)
 ·rw [getN_no hno] at hT
  have HT := h_ hT
  clear hT
  cases st with
  | none =>
    cases h
    obtain ⟨W1, hW1, hb, hc, hbel, hsz⟩ := in_entry w (.slice none 0 0) (.bool true)
    have cb0 : W1.cell? ⟨w.heap.size, 0, none⟩ = some (.slice none 0 0) := row_cell hb 0
    have cb1 : W1.cell? ⟨w.heap.size, 1, none⟩ = some (.bool true) := row_cell hb 1
    have HC := h_ hc
    have Hsz := h_ hsz
    clear hb hc hsz
    go_enter Tryz.func88, Tryz.ntmps88
    go_wp2_with fail
    refine (failed_any _).mono ?_
    rintro e w1 ⟨rfl, hbl⟩
    have hc := (hbl.block _ (by rw [Hsz.out]; omega)).trans HC.out
    have f0 := row_free hc 0
    have f1 := row_free hc 1
    have c0 : w1.cell? ⟨w.heap.size + 1, 0, none⟩ = some (.slice none 0 0) := row_cell hc 0
    have c1 : w1.cell? ⟨w.heap.size + 1, 1, none⟩ = some (.bool false) := row_cell hc 1
    have Hc := h_ hc
    clear hW1 hc
    go_wp2_with fail
    have := HT.out
    subst this
    have hs1 : w.heap.size ≤ W1.heap.size := by rw [Hsz.out]; omega
    exact bodyPost_ret (results_tmp_row rfl _ _ _ _ _ _ _ rfl (row_set2 Hc.out _ _) Tryz.underlying156 rfl info_in) rfl ⟨_, rfl, rfl, bel_set2 (hbel.trans (hbl.mono hs1)) (Nat.le_trans hs1 hbl.size) (by omega) _ _⟩
  | some bs =>
    have hl := hno bs rfl
    obtain ⟨A, n, c, rfl, hn, h2, h3, h4, h5⟩ := h
    have H5 := h_ h5
    clear h5
    have hl' : (n : Int) < 4 := by omega
    clear h4 hn hl
    obtain ⟨W1, hW1, hb, hc, hbel, hsz⟩ := in_entry w (.slice A n c) (.bool false)
    have cb0 : W1.cell? ⟨w.heap.size, 0, none⟩ = some (.slice A n c) := row_cell hb 0
    have cb1 : W1.cell? ⟨w.heap.size, 1, none⟩ = some (.bool false) := row_cell hb 1
    have HC := h_ hc
    have Hsz := h_ hsz
    clear hb hc hsz
    go_enter Tryz.func88, Tryz.ntmps88
    go_wp2_with fail
    refine (failed_any _).mono ?_
    rintro e w1 ⟨rfl, hbl⟩
    have hc := (hbl.block _ (by rw [Hsz.out]; omega)).trans HC.out
    have f0 := row_free hc 0
    have f1 := row_free hc 1
    have c0 : w1.cell? ⟨w.heap.size + 1, 0, none⟩ = some (.slice none 0 0) := row_cell hc 0
    have c1 : w1.cell? ⟨w.heap.size + 1, 1, none⟩ = some (.bool false) := row_cell hc 1
    have Hc := h_ hc
    clear hW1 hc
    go_wp2_with fail
    have := HT.out
    subst this
    have hs1 : w.heap.size ≤ W1.heap.size := by rw [Hsz.out]; omega
    exact bodyPost_ret (results_tmp_row rfl _ _ _ _ _ _ _ rfl (row_set2 Hc.out _ _) Tryz.underlying156 rfl info_in) rfl ⟨_, rfl, rfl, bel_set2 (hbel.trans (hbl.mono hs1)) (Nat.le_trans hs1 hbl.size) (by omega) _ _⟩
theorem in_drop {w : World} {b o n c k : Nat} {bs : List UInt8} (h : Rd w (some ⟨b, o, none⟩) (b8s bs)) (hn : n = bs.length) (hk : k + 1 ≤ n) (h2 : n ≤ c) (h3 : c ≤ maxLen) {K : Nat → Prop} (h5 : bs ≠ [] → K b) :
  InV K w (.agg #[.slice (if c = k + 1 then some ⟨b, o, none⟩ else some ⟨b, o + (k + 1), none⟩) (n - (k + 1)) (c - (k + 1)), .bool false]) (some (bs.drop (k + 1))) := by
 have hd := Rd.drop (k := k + 1) (size := 1) (cap := c) h (by rw [b8s_length]; omega)
 refine ⟨_, _, _, rfl, by rw [List.length_drop]; omega, by omega, by omega, ?_, fun hne a ha => ?_⟩
 ·simpa [b8s, Addr.add] using hd
 ·have h6 := h5 (fun e => hne (by rw [e, List.drop_nil]))
  split at ha <;> (cases ha; exact h6)
theorem minpow (k : Nat) (h : k < 8) : 128 ^ min k 8 * 128 = 128 ^ min (k + 1) 8 := by
 rw [Nat.min_eq_left (by omega), Nat.min_eq_left (by omega), Nat.pow_succ]
set_option maxRecDepth 100000 in
set_option maxHeartbeats 2000000 in
theorem igetnum_any {K : Nat → Prop} (st : St) (v : Value) (most : Int) (w : World) (h : InV K w v st) :
  Calls Tryz.prog 87 #[v, .int .i64 most] w fun e w' => ∃ u, e = .returned (.tuple #[.int .i64 ((getNum st most).1 : Int), u]) ∧ InV K w' u (getNum st most).2 ∧ Below w.heap.size w w' := by
 have hst := numFrom_start most st
 generalize getNum st most = R at *
 have HR := h_ hst
 clear hst
 cases st with
 | none =>
   cases h
   obtain ⟨W1, hW1, hb, hc, hbel, hsz⟩ := in_entry w (.slice none 0 0) (.bool true)
   have cb0 : W1.cell? ⟨w.heap.size, 0, none⟩ = some (.slice none 0 0) := row_cell hb 0
   have cb1 : W1.cell? ⟨w.heap.size, 1, none⟩ = some (.bool true) := row_cell hb 1
   have HC := h_ hc
   have Hsz := h_ hsz
   clear hb hc hsz
   go_enter Tryz.func87, Tryz.ntmps87
   go_wp2_with fail
   clear hW1
   go_loop [6, 7, 8, 9] (fun a u i l => a = .int .i64 0 ∧ u = .int .i64 1 ∧ i = .int .i64 0) (fun _ _ _ _ => 0)
   case atStart => exact ⟨rfl, rfl, rfl⟩
   case round =>
    obtain ⟨rfl, rfl, rfl⟩ := hrel
    go_wp2_with fail
    refine (failed_any _).mono ?_
    rintro e w1 ⟨rfl, hbl⟩
    have hc := (hbl.block _ (by rw [Hsz.out]; omega)).trans HC.out
    have f0 := row_free hc 0
    have f1 := row_free hc 1
    have c0 : w1.cell? ⟨w.heap.size + 1, 0, none⟩ = some (.slice none 0 0) := row_cell hc 0
    have c1 : w1.cell? ⟨w.heap.size + 1, 1, none⟩ = some (.bool false) := row_cell hc 1
    have Hc := h_ hc
    clear hc
    go_wp2_with fail
    have hs1 : w.heap.size ≤ W1.heap.size := by rw [Hsz.out]; omega
    have : R = (0, none) := by rw [← HR.out]; rfl
    subst this
    exact bodyPost_ret (results_tmp_row rfl _ _ _ _ _ _ _ rfl (row_set2 Hc.out _ _) Tryz.underlying156 rfl info_in) rfl ⟨_, rfl, rfl, bel_set2 (hbel.trans (hbl.mono hs1)) (Nat.le_trans hs1 hbl.size) (by omega) _ _⟩
 | some bs =>
   obtain ⟨A, n, c, rfl, hn, h2, h3, h4, h5⟩ := h
   have H5 := h_ h5
   clear h5
   obtain ⟨W1, hW1, hb, hc, hbel, hsz⟩ := in_entry w (.slice A n c) (.bool false)
   have cb0 : W1.cell? ⟨w.heap.size, 0, none⟩ = some (.slice A n c) := row_cell hb 0
   have cb1 : W1.cell? ⟨w.heap.size, 1, none⟩ = some (.bool false) := row_cell hb 1
   have HC := h_ hc
   have Hsz := h_ hsz
   have Hn := h_ hn
   have H4 := h_ h4
   clear hb hc hsz hn h4
   go_enter Tryz.func87, Tryz.ntmps87
   go_wp2_with fail
   clear hW1
   go_loop [6, 7, 8, 9] (fun a u i l => ∃ (k acc U : Nat), k ≤ bs.length ∧ k ≤ 9 ∧ a = .int .i64 (acc : Int) ∧ u = .int .i64 (U : Int) ∧ i = .int .i64 (k : Int) ∧ Hid (acc < 128 ^ k) ∧ acc < 9223372036854775808 ∧ Hid (U = 128 ^ min k 8) ∧ U ≤ 72057594037927936 ∧ Hid (numFrom most k acc (some (bs.drop k)) = R)) (fun _ _ i _ => 9 - (intOf i).toNat)
   case atStart => exact ⟨0, 0, 1, by omega, by omega, rfl, rfl, rfl, by show 0 < 128 ^ 0; decide, by omega, by show 1 = 128 ^ min 0 8; decide, by omega, HR.out⟩
   case round =>
    obtain ⟨k, acc, U, hk, hk9, rfl, rfl, rfl, hacc, hacc2, hU, hU2, hR⟩ := hrel
    by_cases hlt : k < bs.length
    ·by_cases hlt9 : k < 9
     ·have hn := Hn.out
      have hlt' : k < n := by omega
      clear hn
      obtain ⟨b, o, rfl, hcell⟩ := (H4.out.below hbel).byte k hlt
      have hdrop : bs.drop k = bs[k] :: bs.drop (k + 1) := List.drop_eq_getElem_cons hlt
      have hR' := hR.out
      rw [hdrop] at hR'
      have hmore := numFrom_more most k acc hlt9 bs[k] (bs.drop (k + 1))
      have hbad := numFrom_bad most k acc hlt9 bs[k] (bs.drop (k + 1))
      have hgood := numFrom_good most k acc hlt9 bs[k] (bs.drop (k + 1))
      have hV1 := acc_le k acc bs[k] hlt9 hacc.out
      have hV2 := acc_lt k acc bs[k] hacc.out
      have hUk : 128 ^ k = U := by rw [hU.out, Nat.min_eq_left (by omega)]
      rw [hUk] at hmore hbad hgood hV1 hV2
      have hc8 := bs[k].toNat_lt
      generalize bs[k] = x at *
      have hx : x.toNat % 128 ≤ 127 := by omega
      have e1 : ((x.toNat : Int) % 128) = ((x.toNat % 128 : Nat) : Int) := by omega
      have hm : x.toNat % 128 * U < 9223372036854775808 := by omega
      have e2 : ((x.toNat % 128 : Nat) : Int) * (U : Int) = ((x.toNat % 128 * U : Nat) : Int) := by simp
      have hbig : k = 8 → 64 < x.toNat % 128 → 4611686018427387904 < acc + x.toNat % 128 * U := by
       intro h8 h64
       have : U = 72057594037927936 := by rw [hU.out, h8]; decide
       subst this
       omega
      have hH1 := h_ hmore
      have hH2 := h_ hbad
      have hH3 := h_ hgood
      have hH4 := h_ hbig
      have hH5 := h_ hV2
      have hH6 := h_ hR'
      clear hmore hbad hgood hbig hV2 hR' hdrop hR hacc HR
      generalize x.toNat % 128 = m at *
      generalize m * U = M at *
      by_cases h8 : k = 8
      ·subst h8
       by_cases hm64 : 64 < m
       ·have hm64' : (64 : Int) < (m : Int) := by omega
        have hRR : R = (0, none) := by
         rw [← hH6.out]
         by_cases hx8 : 128 ≤ x.toNat
         ·rw [hH1.out hx8]; exact numFrom_end _ _ _
         ·exact hH2.out (by omega) (.inl (hH4.out rfl hm64))
        have HRR := h_ hRR
        clear hRR
        go_wp2_with fail
        refine (failed_any _).mono ?_
        rintro e w1 ⟨rfl, hbl⟩
        have hc := (hbl.block _ (by rw [Hsz.out]; omega)).trans HC.out
        have f0 := row_free hc 0
        have f1 := row_free hc 1
        have c0 : w1.cell? ⟨w.heap.size + 1, 0, none⟩ = some (.slice none 0 0) := row_cell hc 0
        have c1 : w1.cell? ⟨w.heap.size + 1, 1, none⟩ = some (.bool false) := row_cell hc 1
        have Hc := h_ hc
        clear hc
        go_wp2_with fail
        have hs1 : w.heap.size ≤ W1.heap.size := by rw [Hsz.out]; omega
        have : R = (0, none) := HRR.out
        subst this
        exact bodyPost_ret (results_tmp_row rfl _ _ _ _ _ _ _ rfl (row_set2 Hc.out _ _) Tryz.underlying156 rfl info_in) rfl ⟨_, rfl, rfl, bel_set2 (hbel.trans (hbl.mono hs1)) (Nat.le_trans hs1 hbl.size) (by omega) _ _⟩
       ·have hm64' : ¬ (64 : Int) < (m : Int) := by omega
        by_cases hx8 : 128 ≤ x.toNat
        ·have hx8' : ¬ (x.toNat : Int) < 128 := by omega
         go_wp2_with fail
         go_round
         case rel => exact ⟨9, acc + M, U, by omega, by omega, by go_num, by go_num, by go_num, hH5, hV1, by show _ = _; rw [hU.out]; decide, by omega, by show _ = _; rw [← hH1.out hx8]; exact hH6.out⟩
         case measure => simp [intOf]
        ·have hx8' : (x.toNat : Int) < 128 := by omega
         have e9 : IntKind.i64.wrap (8 + 1) = 9 := rfl
         have e9' : IntKind.i64.wrap 9 = 9 := rfl
         go_wp2_with fail
         all_goals first
          | (
             refine (failed_any _).mono ?_
             rintro e w1 ⟨rfl, hbl⟩
             have hc := (hbl.block _ (by rw [Hsz.out]; omega)).trans HC.out
             have f0 := row_free hc 0
             have f1 := row_free hc 1
             have c0 : w1.cell? ⟨w.heap.size + 1, 0, none⟩ = some (.slice none 0 0) := row_cell hc 0
             have c1 : w1.cell? ⟨w.heap.size + 1, 1, none⟩ = some (.bool false) := row_cell hc 1
             have Hc := h_ hc
             clear hc
             go_wp2_with fail
             have hs1 : w.heap.size ≤ W1.heap.size := by rw [Hsz.out]; omega
             have : R = (0, none) := by rw [← hH6.out]; exact hH2.out (by omega) (by omega)
             subst this
             exact bodyPost_ret (results_tmp_row rfl _ _ _ _ _ _ _ rfl (row_set2 Hc.out _ _) Tryz.underlying156 rfl info_in) rfl ⟨_, rfl, rfl, bel_set2 (hbel.trans (hbl.mono hs1)) (Nat.le_trans hs1 hbl.size) (by omega) _ _⟩)
          | (
             have hs1 : w.heap.size ≤ W1.heap.size := by rw [Hsz.out]; omega
             have hk1 : 9 ≤ n := by omega
             have hki : (9 : Int) ≤ (n : Int) := by omega
             have hk2 : 1 ≤ n := by omega
             have hk3 : (1 : Int) ≤ (n : Int) := by omega
             have ew1 : IntKind.i64.wrap 1 = 1 := rfl
             refine wp_region_sched (fun w' => w'.cell? ⟨w.heap.size, 0, none⟩ = some (.slice (some ⟨b, o, none⟩) n c)) [(true, 0), (true, 1), (true, 2), (true, 3), (true, 4), (true, 5), (true, 6), (true, 7), (false, 8)] (by kernel_rfl) (by kernel_rfl) rfl (by kernel_rfl) cb0 ?_
             (repeat ((first | refine wpS_pass _ rfl (by rfl) ?_ | (refine wpS_take _ ?_ rfl (by rfl) ?_ ?_; rotate_left; (focus (intro w' hS'; (try dsimp only at hS'); (repeat (have hS1 := hS'.1; replace hS' := hS'.2)); go_simp; (try with_reducible rfl); done)))); simp only [LY]))
             (skip
              obtain ⟨A', hA'⟩ := eX ((if c = 9 then some (⟨b, o, none⟩ : Addr) else some ⟨b, o + 9, none⟩))
              rw [hA']
              have HA := h_ hA'
              clear hA'
              refine wpS_do _ rfl (by rfl) (fun K hK => ?_)
              have hc := HC.out
              have f0 : W1.frozen? ⟨w.heap.size + 1, 0, none⟩ = false := row_free hc 0
              have f1 : W1.frozen? ⟨w.heap.size + 1, 1, none⟩ = false := row_free hc 1
              have c0 : W1.cell? ⟨w.heap.size + 1, 0, none⟩ = some (.slice none 0 0) := row_cell hc 0
              have c1 : W1.cell? ⟨w.heap.size + 1, 1, none⟩ = some (.bool false) := row_cell hc 1
              clear hc
              go_simp
              refine hK.out _ _ (by rw [set2_far _ _ _ _ _ (by simp)]; exact cb0) (fun hS => ?_)
              clear hS hK f0 f1 c0 c1
              refine wpS_done ?_
              go_wp2_with fail
              have hR := hH6.out
              rw [hH3.out (by omega) (by omega)] at hR
              subst hR
              have hbl := (bel_set2 hbel hs1 (g := w.heap.size + 1) (by omega) (.slice A' (n - 9) (c - 9)) (.bool false)).drew
              refine bodyPost_ret (results_tmp_row rfl _ _ _ _ _ _ _ rfl (row_set2d HC.out _ _) Tryz.underlying156 rfl info_in) rfl ?_
              refine ⟨.agg #[.slice A' (n - 9) (c - 9), .bool false], by show Ending.returned (.tuple #[.int .i64 ((acc : Int) + (M : Int)), _]) = .returned (.tuple #[.int .i64 ((acc + M : Nat) : Int), _]); rw [Int.natCast_add], ?_, hbl⟩
              have hI := in_drop (k := 8) (H4.out.below hbl) Hn.out (by omega) h2 h3 (fun h => H5.out h _ rfl)
              simp only [Nat.reduceAdd] at hI
              rw [HA.out] at hI
              exact hI))
      ·have h8' : ¬ (k : Int) = 8 := by omega
       by_cases hx8 : 128 ≤ x.toNat
       ·have hx8' : ¬ (x.toNat : Int) < 128 := by omega
        have hU7 : U ≤ 562949953421312 := by
         have := hU.out
         have h7 : 128 ^ min k 8 ≤ 128 ^ 7 := Nat.pow_le_pow_right (by decide) (by omega)
         have h77 : (128 : Nat) ^ 7 = 562949953421312 := by decide
         omega
        have hmin := minpow k (by omega)
        have hk8i : (k : Int) < 8 := by omega
        have HM := h_ hmin
        clear hmin
        go_wp2_with fail
        go_round
        case rel => exact ⟨k + 1, acc + M, U * 128, by omega, by omega, by go_num, by go_num, by go_num, hH5, hV1, by show _ = _; rw [← HM.out, hU.out], by omega, by show _ = _; rw [← hH1.out hx8]; exact hH6.out⟩
        case measure => simp [intOf]; omega
       ·have hx8' : (x.toNat : Int) < 128 := by omega
        go_wp2_with fail
        all_goals first
         | (
            refine (failed_any _).mono ?_
            rintro e w1 ⟨rfl, hbl⟩
            have hc := (hbl.block _ (by rw [Hsz.out]; omega)).trans HC.out
            have f0 := row_free hc 0
            have f1 := row_free hc 1
            have c0 : w1.cell? ⟨w.heap.size + 1, 0, none⟩ = some (.slice none 0 0) := row_cell hc 0
            have c1 : w1.cell? ⟨w.heap.size + 1, 1, none⟩ = some (.bool false) := row_cell hc 1
            have Hc := h_ hc
            clear hc
            go_wp2_with fail
            have hs1 : w.heap.size ≤ W1.heap.size := by rw [Hsz.out]; omega
            have : R = (0, none) := by rw [← hH6.out]; exact hH2.out (by omega) (by omega)
            subst this
            exact bodyPost_ret (results_tmp_row rfl _ _ _ _ _ _ _ rfl (row_set2 Hc.out _ _) Tryz.underlying156 rfl info_in) rfl ⟨_, rfl, rfl, bel_set2 (hbel.trans (hbl.mono hs1)) (Nat.le_trans hs1 hbl.size) (by omega) _ _⟩)
         | (
            have hs1 : w.heap.size ≤ W1.heap.size := by rw [Hsz.out]; omega
            have hk1 : k + 1 ≤ n := by omega
            have hki : (k : Int) + 1 ≤ (n : Int) := by omega
            have hk2 : 1 ≤ n := by omega
            have hk3 : (1 : Int) ≤ (n : Int) := by omega
            have ew1 : IntKind.i64.wrap 1 = 1 := rfl
            have ewk : IntKind.i64.wrap ((k : Int) + 1) = (k : Int) + 1 := by rw [IntKind.wrap_i64]; omega
            have ewn : ((k : Int) + 1).toNat = k + 1 := by omega
            have ewp : 0 ≤ (k : Int) + 1 := by omega
            refine wp_region_sched (fun w' => w'.cell? ⟨w.heap.size, 0, none⟩ = some (.slice (some ⟨b, o, none⟩) n c)) [(true, 0), (true, 1), (true, 2), (true, 3), (true, 4), (true, 5), (true, 6), (true, 7), (false, 8)] (by kernel_rfl) (by kernel_rfl) rfl (by kernel_rfl) cb0 ?_
            (repeat ((first | refine wpS_pass _ rfl (by rfl) ?_ | (refine wpS_take _ ?_ rfl (by rfl) ?_ ?_; rotate_left; (focus (intro w' hS'; (try dsimp only at hS'); (repeat (have hS1 := hS'.1; replace hS' := hS'.2)); go_simp; (try with_reducible rfl); done)))); simp only [LY]))
            first
             | (obtain ⟨A', hA'⟩ := eX ((if c = k + 1 then some (⟨b, o, none⟩ : Addr) else some ⟨b, o + (k + 1), none⟩))
                rw [hA']
                have HA := h_ hA'
                clear hA'
                refine wpS_do _ rfl (by rfl) (fun K hK => ?_)
                have hc := HC.out
                have f0 : W1.frozen? ⟨w.heap.size + 1, 0, none⟩ = false := row_free hc 0
                have f1 : W1.frozen? ⟨w.heap.size + 1, 1, none⟩ = false := row_free hc 1
                have c0 : W1.cell? ⟨w.heap.size + 1, 0, none⟩ = some (.slice none 0 0) := row_cell hc 0
                have c1 : W1.cell? ⟨w.heap.size + 1, 1, none⟩ = some (.bool false) := row_cell hc 1
                clear hc
                go_simp
                refine hK.out _ _ (by rw [set2_far _ _ _ _ _ (by simp)]; exact cb0) (fun hS => ?_)
                clear hS hK f0 f1 c0 c1
                refine wpS_done ?_
                go_wp2_with fail
                have hR := hH6.out
                rw [hH3.out (by omega) (by omega)] at hR
                subst hR
                have hbl := (bel_set2 hbel hs1 (g := w.heap.size + 1) (by omega) (.slice A' (n - (k + 1)) (c - (k + 1))) (.bool false)).drew
                refine bodyPost_ret (results_tmp_row rfl _ _ _ _ _ _ _ rfl (row_set2d HC.out _ _) Tryz.underlying156 rfl info_in) rfl ?_
                refine ⟨.agg #[.slice A' (n - (k + 1)) (c - (k + 1)), .bool false], by show Ending.returned (.tuple #[.int .i64 ((acc : Int) + (M : Int)), _]) = .returned (.tuple #[.int .i64 ((acc + M : Nat) : Int), _]); rw [Int.natCast_add], ?_, hbl⟩
                have hI := in_drop (k := k) (H4.out.below hbl) Hn.out (by omega) h2 h3 (fun h => H5.out h _ rfl)
                rw [HA.out] at hI
                exact hI)
             | (obtain rfl : k = 0 := by assumption
                obtain ⟨A', hA'⟩ := eX ((if c = 1 then some (⟨b, o, none⟩ : Addr) else some ⟨b, o + 1, none⟩))
                rw [hA']
                have HA := h_ hA'
                clear hA'
                refine wpS_do _ rfl (by rfl) (fun K hK => ?_)
                have hc := HC.out
                have f0 : W1.frozen? ⟨w.heap.size + 1, 0, none⟩ = false := row_free hc 0
                have f1 : W1.frozen? ⟨w.heap.size + 1, 1, none⟩ = false := row_free hc 1
                have c0 : W1.cell? ⟨w.heap.size + 1, 0, none⟩ = some (.slice none 0 0) := row_cell hc 0
                have c1 : W1.cell? ⟨w.heap.size + 1, 1, none⟩ = some (.bool false) := row_cell hc 1
                clear hc
                go_simp
                refine hK.out _ _ (by rw [set2_far _ _ _ _ _ (by simp)]; exact cb0) (fun hS => ?_)
                clear hS hK f0 f1 c0 c1
                refine wpS_done ?_
                go_wp2_with fail
                have hR := hH6.out
                rw [hH3.out (by omega) (by omega)] at hR
                subst hR
                have hbl := (bel_set2 hbel hs1 (g := w.heap.size + 1) (by omega) (.slice A' (n - 1) (c - 1)) (.bool false)).drew
                refine bodyPost_ret (results_tmp_row rfl _ _ _ _ _ _ _ rfl (row_set2d HC.out _ _) Tryz.underlying156 rfl info_in) rfl ?_
                refine ⟨.agg #[.slice A' (n - 1) (c - 1), .bool false], by show Ending.returned (.tuple #[.int .i64 ((acc : Int) + (M : Int)), _]) = .returned (.tuple #[.int .i64 ((acc + M : Nat) : Int), _]); rw [Int.natCast_add], ?_, hbl⟩
                have hI := in_drop (k := 0) (H4.out.below hbl) Hn.out (by omega) h2 h3 (fun h => H5.out h _ rfl)
                simp only [Nat.zero_add] at hI
                rw [HA.out] at hI
                exact hI))
     ·have : k = 9 := by omega
      subst this
      have hR' := hR.out
      rw [numFrom_end] at hR'
      have HR' := h_ hR'
      clear hR hR' hU hacc HR
      have hn := Hn.out
      have hlt' : 9 < n := by omega
      clear hn
      go_wp2_with fail
      refine (failed_any _).mono ?_
      rintro e w1 ⟨rfl, hbl⟩
      have hc := (hbl.block _ (by rw [Hsz.out]; omega)).trans HC.out
      have f0 := row_free hc 0
      have f1 := row_free hc 1
      have c0 : w1.cell? ⟨w.heap.size + 1, 0, none⟩ = some (.slice none 0 0) := row_cell hc 0
      have c1 : w1.cell? ⟨w.heap.size + 1, 1, none⟩ = some (.bool false) := row_cell hc 1
      have Hc := h_ hc
      clear hc
      go_wp2_with fail
      have hs1 : w.heap.size ≤ W1.heap.size := by rw [Hsz.out]; omega
      have : R = (0, none) := by rw [← HR'.out]
      subst this
      exact bodyPost_ret (results_tmp_row rfl _ _ _ _ _ _ _ rfl (row_set2 Hc.out _ _) Tryz.underlying156 rfl info_in) rfl ⟨_, rfl, rfl, bel_set2 (hbel.trans (hbl.mono hs1)) (Nat.le_trans hs1 hbl.size) (by omega) _ _⟩
    ·have hn := Hn.out
     have hlt' : ¬ k < n := by omega
     have hR' := hR.out
     have hk0 : k = bs.length := by omega
     have hR2 : (0, none) = R := by
      rw [← hR', List.drop_of_length_le (by omega)]
      by_cases h9 : k < 9
      ·exact (numFrom_none most k acc h9 (some []) (by intro b hb; cases hb; simp)).symm
      ·obtain rfl : k = 9 := by omega
       exact (numFrom_end _ _ _).symm
     have HR' := h_ hR2
     clear hR hR' hU hacc HR hn hk0 hR2
     go_wp2_with fail
     refine (failed_any _).mono ?_
     rintro e w1 ⟨rfl, hbl⟩
     have hc := (hbl.block _ (by rw [Hsz.out]; omega)).trans HC.out
     have f0 := row_free hc 0
     have f1 := row_free hc 1
     have c0 : w1.cell? ⟨w.heap.size + 1, 0, none⟩ = some (.slice none 0 0) := row_cell hc 0
     have c1 : w1.cell? ⟨w.heap.size + 1, 1, none⟩ = some (.bool false) := row_cell hc 1
     have Hc := h_ hc
     clear hc
     go_wp2_with fail
     have hs1 : w.heap.size ≤ W1.heap.size := by rw [Hsz.out]; omega
     have : R = (0, none) := by rw [← HR'.out]
     subst this
     exact bodyPost_ret (results_tmp_row rfl _ _ _ _ _ _ _ rfl (row_set2 Hc.out _ _) Tryz.underlying156 rfl info_in) rfl ⟨_, rfl, rfl, bel_set2 (hbel.trans (hbl.mono hs1)) (Nat.le_trans hs1 hbl.size) (by omega) _ _⟩
theorem rd_keep_row {w w' : World} {g : Nat} {x y : Value} {t : TypeId} {A : Option Addr} {bs : List UInt8} (hh : w.heap[g]? = some (.cells #[x, y] t (0, 0))) (ha : ∀ z, x ≠ .int .u8 z) (hb : ∀ z, y ≠ .int .u8 z) (hr : Rd w A (b8s bs))
  (hg : w.grownBy w' (some g)) : Rd w' A (b8s bs) := by
 by_cases hne : bs = []
 ·subst hne; exact Rd.nil
 ·refine hr.grown hg (fun ad hA e => ?_)
  have hp : 0 < bs.length := List.length_pos_iff.2 hne
  obtain ⟨b', o, hA', hc⟩ := hr.byte 0 hp
  rw [hA'] at hA
  cases hA
  have hbg : b' = g := by simpa using e
  subst hbg
  rw [row_cell hh] at hc
  match o, hc with
  | 0, hc => simp at hc; exact ha _ hc
  | 1, hc => simp at hc; exact hb _ hc
  | o + 2, hc => simp at hc
set_option maxRecDepth 100000 in
set_option maxHeartbeats 2000000 in
theorem igettext_any {K : Nat → Prop} (st : St) (v : Value) (most : Int) (w : World) (h : InV K w v st) :
  Calls Tryz.prog 89 #[v, .int .i64 most] w fun e w' => ∃ u, e = .returned (.tuple #[.string ⟨(getText st most).1.toArray⟩, u]) ∧ InV K w' u (getText st most).2 ∧ Below w.heap.size w w' := by
 have hv : ∃ x y, v = .agg #[x, y] := by
  cases st with
  | none => exact ⟨_, _, h⟩
  | some bs => obtain ⟨A, n, c, rfl, _⟩ := h; exact ⟨_, _, rfl⟩
 obtain ⟨x, y, rfl⟩ := hv
 have hgn := fun w1 (hb : Below w.heap.size w w1) => igetnum_any st (.agg #[x, y]) most w1 (h.below hb)
 have hle := getNum_le st most
 have hcases := st_cases (getNum st most).2 (getNum st most).1
 have hT : getText st most = getN (getNum st most).2 (getNum st most).1 := rfl
 generalize getText st most = T at *
 generalize getNum st most = R at *
 obtain ⟨n, st2⟩ := R
 dsimp only at hgn hle hcases hT
 have HG := h_ hgn
 have HT := h_ hT
 obtain ⟨W1, hW1, hb, hc, hbel, hsz⟩ := in_entry w x y
 have cb0 : W1.cell? ⟨w.heap.size, 0, none⟩ = some x := row_cell hb 0
 have cb1 : W1.cell? ⟨w.heap.size, 1, none⟩ = some y := row_cell hb 1
 have HB := h_ hb
 have HC := h_ hc
 have Hsz := h_ hsz
 clear hb hc hsz hgn hT h
 go_enter Tryz.func89, Tryz.ntmps89
 go_wp2_with (refine wpList_load_row rfl _ _ rfl _ rfl _ _ _ _ HB.out Tryz.underlying156 rfl info_in ?_)
 refine (HG.out W1 hbel).mono ?_
 rintro e w2 ⟨u, rfl, hu, hb2⟩
 have hs1 : w.heap.size ≤ W1.heap.size := by rw [Hsz.out]; omega
 have hc2 := (hb2.block _ (by rw [Hsz.out]; omega)).trans HC.out
 have HC2 := h_ hc2
 have hbl2 := hbel.trans (hb2.mono hs1)
 have hs2 := hb2.size
 clear hc2 hW1 cb0 cb1 HG
 rcases hcases with ⟨bs, rfl, hlen⟩ | hno
 ·obtain ⟨A2, n2, c2, rfl, hn2, h2, h3, h4, h5⟩ := hu
  have H5 := h_ h5
  clear h5
  have hl : ¬ (n2 : Int) < (n : Int) := by omega
  have Hn2 := h_ hn2
  have Hlen := h_ hlen
  have H4 := h_ h4
  clear hn2 hlen h4 hb2
  go_wp2_with fail
  obtain ⟨W3, hW3⟩ := eX (w2.alloc (.cells #[.slice A2 n2 c2, .bool false] 156))
  have hcy : W3.heap[w2.heap.size]? = some (.cells #[.slice A2 n2 c2, .bool false] 156 (0, 0)) := by rw [← hW3]; exact heap_alloc_new w2 _
  have cy0 : W3.cell? ⟨w2.heap.size, 0, none⟩ = some (.slice A2 n2 c2) := row_cell hcy 0
  have hb3 : Below w2.heap.size w2 W3 := by rw [← hW3]; exact (Below.refl _ _).alloc (Nat.le_refl _) _
  have hc3 := (hb3.block _ (by have := Hsz.out; omega)).trans HC2.out
  have HC3 := h_ hc3
  have hr3 : Rd W3 A2 (b8s bs) := H4.out.below hb3
  have hlen := Hlen.out
  have hn2 := Hn2.out
  have hn1 : (n : Int) ≤ (n2 : Int) := by omega
  have hn3 : n ≤ n2 := by omega
  have hn4 : n ≤ c2 := by omega
  have hn5 : (n : Int) ≤ (c2 : Int) := by omega
  rw [hW3]
  clear hW3 hcy hc3 hn2 hlen
  refine wp_region_sched (fun w' => w'.cell? ⟨w2.heap.size, 0, none⟩ = some (.slice A2 n2 c2) ∧ Rd w' A2 (b8s bs)) [(true, 0), (true, 1), (true, 2), (true, 3), (true, 4), (true, 5), (true, 6), (true, 7), (true, 8), (true, 9), (true, 10), (false, 11)] (by kernel_rfl) (by kernel_rfl) rfl (by kernel_rfl) ⟨cy0, hr3⟩ ?_
  (repeat ((first | refine wpS_pass _ rfl (by rfl) ?_ | (refine wpS_take _ ?_ rfl (by rfl) ?_ ?_; rotate_left; (focus (intro w' hS'; (try dsimp only at hS'); (repeat (have hS1 := hS'.1; replace hS' := hS'.2)); go_simp; (try with_reducible rfl); done)))); simp only [LY]))
  refine wpS_take _ (.string ⟨(bs.take n).toArray⟩) rfl (by rfl) (fun w' hS' => ?_) ?_
  ·have htk : Rd w' A2 (b8s (bs.take n)) := by have := hS'.2.take n; rwa [← b8s_take] at this
   have hcv := run_str_of_bytes (P := Tryz.prog) (src := 29) (dst := 9) (e := 5) n c2 (by have := Hlen.out; rw [List.length_take]; omega) Tryz.underlying29 Tryz.underlying5 Tryz.underlying9 htk
   go_simp
  simp only [LY]
  (repeat ((first | refine wpS_pass _ rfl (by rfl) ?_ | (refine wpS_take _ ?_ rfl (by rfl) ?_ ?_; rotate_left; (focus (intro w' hS'; (try dsimp only at hS'); (repeat (have hS1 := hS'.1; replace hS' := hS'.2)); go_simp; (try with_reducible rfl); done)))); simp only [LY]))
  obtain ⟨A', hA'⟩ := eX ((if c2 = n then A2 else Option.map (fun x => x.add n) A2))
  rw [hA']
  have HA := h_ hA'
  clear hA'
  refine wpS_do _ rfl (by rfl) (fun K hK => ?_)
  have hc := HC3.out
  have f0 : W3.frozen? ⟨w.heap.size + 1, 0, none⟩ = false := row_free hc 0
  have f1 : W3.frozen? ⟨w.heap.size + 1, 1, none⟩ = false := row_free hc 1
  have c0 : W3.cell? ⟨w.heap.size + 1, 0, none⟩ = some (.slice none 0 0) := row_cell hc 0
  have c1 : W3.cell? ⟨w.heap.size + 1, 1, none⟩ = some (.bool false) := row_cell hc 1
  clear hc
  go_simp
  have hr4 := fun x y => rd_keep_row HC3.out (fun z => by simp) (fun z => by simp) hr3 (grown_set2 W3 (w.heap.size + 1) x y)
  refine hK.out _ _ ⟨by rw [set2_far _ _ _ _ _ (by have := Hsz.out; dsimp only; omega)]; exact cy0, hr4 _ _⟩ (fun hS => ?_)
  have HR4 := h_ hS.2
  clear hS hK f0 f1 c0 c1 hr4 hr3 cy0
  refine wpS_done ?_
  go_wp2_with fail
  have hT := HT.out
  rw [getN_yes Hlen.out] at hT
  subst hT
  have hbl3 := hbl2.trans (hb3.mono (by omega))
  have hbl := (bel_set2 hbl3 (by have := hb3.size; omega) (g := w.heap.size + 1) (by omega) (.slice A' (n2 - n) (c2 - n)) (.bool false)).drew
  refine bodyPost_ret (results_tmp_row rfl _ _ _ _ _ _ _ rfl (row_set2d HC3.out _ _) Tryz.underlying156 rfl info_in) rfl ?_
  refine ⟨.agg #[.slice A' (n2 - n) (c2 - n), .bool false], rfl, ?_, hbl⟩
  have hd := Rd.drop (k := n) (size := 1) (cap := c2) HR4.out (by rw [b8s_length]; have := Hn2.out; omega)
  rw [Nat.mul_one, ← b8s_drop, HA.out] at hd
  exact ⟨_, _, _, rfl, by have := Hn2.out; rw [List.length_drop]; omega, by omega, by omega, hd, fun hne a ha => drop_lt (H5.out (fun e => hne (by rw [e, List.drop_nil]))) (HA.out.trans ha)⟩
 ·cases st2 with
  | none =>
    cases hu
    go_wp2_with fail
    refine (failed_any _).mono ?_
    rintro e w5 ⟨rfl, hb5⟩
    have hb25 : Below w2.heap.size w2 w5 := ((Below.refl _ _).alloc (Nat.le_refl _) _).trans (hb5.mono (by simp))
    have hc := (hb25.block _ (by have := Hsz.out; omega)).trans HC2.out
    have f0 := row_free hc 0
    have f1 := row_free hc 1
    have c0 : w5.cell? ⟨w.heap.size + 1, 0, none⟩ = some (.slice none 0 0) := row_cell hc 0
    have c1 : w5.cell? ⟨w.heap.size + 1, 1, none⟩ = some (.bool false) := row_cell hc 1
    have Hc := h_ hc
    clear hc
    go_wp2_with fail
    have := HT.out
    rw [getN_no hno] at this
    subst this
    have hs5 := hb5.size
    exact bodyPost_ret (results_tmp_row rfl _ _ _ _ _ _ _ rfl (row_set2 Hc.out _ _) Tryz.underlying156 rfl info_in) rfl ⟨_, rfl, rfl, bel_set2 (hbl2.trans (hb25.mono (by omega))) (by have := hb25.size; omega) (by omega) _ _⟩
  | some bs =>
    have hl := hno bs rfl
    obtain ⟨A2, n2, c2, rfl, hn2, h2, h3, h4⟩ := hu
    have hl' : (n2 : Int) < (n : Int) := by omega
    have hl2 : n2 < n := by omega
    clear hl hn2 h4
    go_wp2_with fail
    refine (failed_any _).mono ?_
    rintro e w5 ⟨rfl, hb5⟩
    have hb25 : Below w2.heap.size w2 w5 := ((Below.refl _ _).alloc (Nat.le_refl _) _).trans (hb5.mono (by simp))
    have hc := (hb25.block _ (by have := Hsz.out; omega)).trans HC2.out
    have f0 := row_free hc 0
    have f1 := row_free hc 1
    have c0 : w5.cell? ⟨w.heap.size + 1, 0, none⟩ = some (.slice none 0 0) := row_cell hc 0
    have c1 : w5.cell? ⟨w.heap.size + 1, 1, none⟩ = some (.bool false) := row_cell hc 1
    have Hc := h_ hc
    clear hc
    go_wp2_with fail
    have := HT.out
    rw [getN_no hno] at this
    subst this
    have hs5 := hb5.size
    exact bodyPost_ret (results_tmp_row rfl _ _ _ _ _ _ _ rfl (row_set2 Hc.out _ _) Tryz.underlying156 rfl info_in) rfl ⟨_, rfl, rfl, bel_set2 (hbl2.trans (hb25.mono (by omega))) (by have := hb25.size; omega) (by omega) _ _⟩
theorem id_entry (w : World) (x y : Value) : ∃ (Wa Wb Wc W1 : World), w.alloc (.cells #[x, y] 156) = Wa ∧ Wa.alloc (.cells (b8s zeros32).toArray 23) = Wb ∧ Wb.alloc (.cells #[.slice none 0 0, .bool false] 156) = Wc ∧ Wc.alloc (.cells (b8s zeros32).toArray 23) = W1 ∧
  Wa.heap.size = w.heap.size + 1 ∧ Wb.heap.size = w.heap.size + 1 + 1 ∧ Wc.heap.size = w.heap.size + 1 + 1 + 1 ∧ W1.heap.size = w.heap.size + 1 + 1 + 1 + 1 ∧
  W1.heap[w.heap.size]? = some (.cells #[x, y] 156 (0, 0)) ∧ W1.heap[w.heap.size + 1]? = some (.cells (b8s zeros32).toArray 23 (0, 0)) ∧ W1.heap[w.heap.size + 1 + 1]? = some (.cells #[.slice none 0 0, .bool false] 156 (0, 0)) ∧
  W1.heap[w.heap.size + 1 + 1 + 1]? = some (.cells (b8s zeros32).toArray 23 (0, 0)) ∧ Below w.heap.size w W1 := by
 refine ⟨_, _, _, _, rfl, rfl, rfl, rfl, by simp, by simp, by simp, by simp, ?_, ?_, ?_, ?_, ?_⟩
 ·rw [heap_alloc_old _ _ (by simp; omega), heap_alloc_old _ _ (by simp; omega), heap_alloc_old _ _ (by simp), heap_alloc_new]
 ·have := heap_alloc_new (w.alloc (.cells #[x, y] 156)) (.cells (b8s zeros32).toArray 23)
  rw [heap_alloc_old _ _ (by simp), heap_alloc_old _ _ (by simp)]
  simpa using this
 ·have := heap_alloc_new ((w.alloc (.cells #[x, y] 156)).alloc (.cells (b8s zeros32).toArray 23)) (.cells #[.slice none 0 0, .bool false] 156)
  rw [heap_alloc_old _ _ (by simp)]
  simpa using this
 ·have := heap_alloc_new (((w.alloc (.cells #[x, y] 156)).alloc (.cells (b8s zeros32).toArray 23)).alloc (.cells #[.slice none 0 0, .bool false] 156)) (.cells (b8s zeros32).toArray 23)
  simpa using this
 ·exact ((((Below.refl _ _).alloc (Nat.le_refl _) _).alloc (by simp) _).alloc (by simp; omega) _).alloc (by simp; omega) _
theorem zl_one : (#[Value.int .u8 0, .int .u8 0, .int .u8 0, .int .u8 0, .int .u8 0, .int .u8 0, .int .u8 0, .int .u8 0, .int .u8 0, .int .u8 0, .int .u8 0, .int .u8 0, .int .u8 0, .int .u8 0, .int .u8 0, .int .u8 0, .int .u8 0, .int .u8 0, .int .u8 0, .int .u8 0, .int .u8 0, .int .u8 0, .int .u8 0, .int .u8 0, .int .u8 0, .int .u8 0, .int .u8 0, .int .u8 0, .int .u8 0, .int .u8 0, .int .u8 0, .int .u8 0]).all (·.oneCell') = true := by
 have := all_oneCell_toArray (b8s_one' zeros32)
 rw [zeros32_cells] at this
 exact this
theorem id_second {w W1 : World} {x y : Value} (ha : W1.heap[w.heap.size]? = some (.cells #[x, y] 156 (0, 0))) (hb : W1.heap[w.heap.size + 1]? = some (.cells (b8s zeros32).toArray 23 (0, 0))) (hc : W1.heap[w.heap.size + 1 + 1]? = some (.cells #[.slice none 0 0, .bool false] 156 (0, 0)))
  (hd : W1.heap[w.heap.size + 1 + 1 + 1]? = some (.cells (b8s zeros32).toArray 23 (0, 0))) (hbel : Below w.heap.size w W1) (hs1 : W1.heap.size = w.heap.size + 1 + 1 + 1 + 1) :
  ∃ W2, W1.setCells (w.heap.size + 1 + 1 + 1) 0 (#[Value.int .u8 0, .int .u8 0, .int .u8 0, .int .u8 0, .int .u8 0, .int .u8 0, .int .u8 0, .int .u8 0, .int .u8 0, .int .u8 0, .int .u8 0, .int .u8 0, .int .u8 0, .int .u8 0, .int .u8 0, .int .u8 0, .int .u8 0, .int .u8 0, .int .u8 0, .int .u8 0, .int .u8 0, .int .u8 0, .int .u8 0, .int .u8 0, .int .u8 0, .int .u8 0, .int .u8 0, .int .u8 0, .int .u8 0, .int .u8 0, .int .u8 0, .int .u8 0]).toList = W2 ∧ W2.heap[w.heap.size]? = some (.cells #[x, y] 156 (0, 0)) ∧ W2.heap[w.heap.size + 1]? = some (.cells (b8s zeros32).toArray 23 (0, 0)) ∧ W2.heap[w.heap.size + 1 + 1]? = some (.cells #[.slice none 0 0, .bool false] 156 (0, 0)) ∧
   W2.heap[w.heap.size + 1 + 1 + 1]? = some (.cells (b8s zeros32).toArray 23 (0, 0)) ∧ Below w.heap.size w W2 ∧ w.heap.size + 1 + 1 + 1 < W2.heap.size := by
 have e : (#[Value.int .u8 0, .int .u8 0, .int .u8 0, .int .u8 0, .int .u8 0, .int .u8 0, .int .u8 0, .int .u8 0, .int .u8 0, .int .u8 0, .int .u8 0, .int .u8 0, .int .u8 0, .int .u8 0, .int .u8 0, .int .u8 0, .int .u8 0, .int .u8 0, .int .u8 0, .int .u8 0, .int .u8 0, .int .u8 0, .int .u8 0, .int .u8 0, .int .u8 0, .int .u8 0, .int .u8 0, .int .u8 0, .int .u8 0, .int .u8 0, .int .u8 0, .int .u8 0]).toList = b8s zeros32 := by rw [zeros32_cells]
 rw [e]
 refine ⟨_, rfl, ?_, ?_, ?_, ?_, ?_, ?_⟩
 ·rw [setCells_other _ _ _ _ _ (by omega)]; exact ha
 ·rw [setCells_other _ _ _ _ _ (by omega)]; exact hb
 ·rw [setCells_other _ _ _ _ _ (by omega)]; exact hc
 ·exact row_setAll hd rfl
 ·exact bel_grown hbel (by omega) (setCells_grown _ _ _ _) (by omega)
 ·have := setCells_size (w.heap.size + 1 + 1 + 1) (b8s zeros32) 0 W1
  omega
theorem info_arr : (Tryz.prog.info? 23).map (·.size) = some 32 := by kernel_rfl
theorem zl_size : (#[Value.int .u8 0, .int .u8 0, .int .u8 0, .int .u8 0, .int .u8 0, .int .u8 0, .int .u8 0, .int .u8 0, .int .u8 0, .int .u8 0, .int .u8 0, .int .u8 0, .int .u8 0, .int .u8 0, .int .u8 0, .int .u8 0, .int .u8 0, .int .u8 0, .int .u8 0, .int .u8 0, .int .u8 0, .int .u8 0, .int .u8 0, .int .u8 0, .int .u8 0, .int .u8 0, .int .u8 0, .int .u8 0, .int .u8 0, .int .u8 0, .int .u8 0, .int .u8 0]).size = 32 := by simp
theorem zl_there {W : World} {g : Nat} (h : W.there g 0 32) : W.there g 0 (#[Value.int .u8 0, .int .u8 0, .int .u8 0, .int .u8 0, .int .u8 0, .int .u8 0, .int .u8 0, .int .u8 0, .int .u8 0, .int .u8 0, .int .u8 0, .int .u8 0, .int .u8 0, .int .u8 0, .int .u8 0, .int .u8 0, .int .u8 0, .int .u8 0, .int .u8 0, .int .u8 0, .int .u8 0, .int .u8 0, .int .u8 0, .int .u8 0, .int .u8 0, .int .u8 0, .int .u8 0, .int .u8 0, .int .u8 0, .int .u8 0, .int .u8 0, .int .u8 0]).size := by rw [zl_size]; exact h
theorem info_zl : (Tryz.prog.info? 23).map (·.size) = some (#[Value.int .u8 0, .int .u8 0, .int .u8 0, .int .u8 0, .int .u8 0, .int .u8 0, .int .u8 0, .int .u8 0, .int .u8 0, .int .u8 0, .int .u8 0, .int .u8 0, .int .u8 0, .int .u8 0, .int .u8 0, .int .u8 0, .int .u8 0, .int .u8 0, .int .u8 0, .int .u8 0, .int .u8 0, .int .u8 0, .int .u8 0, .int .u8 0, .int .u8 0, .int .u8 0, .int .u8 0, .int .u8 0, .int .u8 0, .int .u8 0, .int .u8 0, .int .u8 0]).size := by rw [zl_size]; exact info_arr
def part (bs : List UInt8) (k : Nat) : List UInt8 := bs.take k ++ List.replicate (32 - k) 0
theorem part_len (bs : List UInt8) (k : Nat) (h : k ≤ bs.length) (h2 : k ≤ 32) : (part bs k).length = 32 := by
 simp [part]; omega
theorem part_done (bs : List UInt8) : part bs 32 = bs.take 32 := by simp [part]
theorem part_step (bs : List UInt8) (k : Nat) (h : k < bs.length) (h2 : k < 32) : (b8s (part bs k)).toArray.setIfInBounds k (.int .u8 (bs[k].toNat : Int)) = (b8s (part bs (k + 1))).toArray := by
 have e : part bs (k + 1) = (part bs k).set k bs[k] := by
  unfold part
  have h3 : (bs.take k).length = k := by rw [List.length_take]; omega
  obtain ⟨m, hm⟩ : ∃ m, 32 - k = m + 1 := ⟨31 - k, by omega⟩
  have hm2 : 32 - (k + 1) = m := by omega
  rw [hm, hm2, List.replicate_succ, List.take_succ_eq_append_getElem h, List.set_append, h3, if_neg (by omega), Nat.sub_self, List.set_cons_zero, List.append_assoc]
  rfl
 rw [e, List.setIfInBounds_toArray]
 simp [b8s, List.map_set]
theorem part_cell (bs : List UInt8) (k : Nat) (h : k < bs.length) (h2 : k < 32) : ∃ v, (b8s (part bs k)).toArray[k]? = some v := by
 have : k < (b8s (part bs k)).toArray.size := by
  rw [List.size_toArray, b8s_length, part_len bs k (by omega) (by omega)]; exact h2
 exact ⟨_, Array.getElem?_eq_getElem this⟩
set_option maxRecDepth 100000 in
set_option maxHeartbeats 400000 in
theorem igetid_any {K : Nat → Prop} (st : St) (v : Value) (w : World) (h : InV K w v st) :
  Calls Tryz.prog 90 #[v] w fun e w' => ∃ u, e = .returned (.tuple #[.agg (b8s (getId st).1).toArray, u]) ∧ InV K w' u (getId st).2 ∧ Below w.heap.size w w' := by
 have hcases := st_cases st 32
 have hT : getId st = (padId (getN st 32).1, (getN st 32).2) := rfl
 generalize getId st = T at *
 have HT := h_ hT
 clear hT
 rcases hcases with ⟨bs, rfl, hlen⟩ | hno
 ·obtain ⟨A, n, c, rfl, hn, h2, h3, h4, h5⟩ := h
  have H5 := h_ h5
  clear h5
  have hl : ¬ (n : Int) < 32 := by omega
  have Hn := h_ hn
  have H4 := h_ h4
  obtain ⟨Wa, Wb, Wc, W1, hWa, hWb, hWc, hW1, hsa, hsb, hsc, hs1, ha, hb, hc, hd, hbel⟩ := id_entry w (.slice A n c) (.bool false)
  have hWb' : Wa.alloc (.cells #[Value.int .u8 0, .int .u8 0, .int .u8 0, .int .u8 0, .int .u8 0, .int .u8 0, .int .u8 0, .int .u8 0, .int .u8 0, .int .u8 0, .int .u8 0, .int .u8 0, .int .u8 0, .int .u8 0, .int .u8 0, .int .u8 0, .int .u8 0, .int .u8 0, .int .u8 0, .int .u8 0, .int .u8 0, .int .u8 0, .int .u8 0, .int .u8 0, .int .u8 0, .int .u8 0, .int .u8 0, .int .u8 0, .int .u8 0, .int .u8 0, .int .u8 0, .int .u8 0] 23) = Wb := hWb
  have hW1' : Wc.alloc (.cells #[Value.int .u8 0, .int .u8 0, .int .u8 0, .int .u8 0, .int .u8 0, .int .u8 0, .int .u8 0, .int .u8 0, .int .u8 0, .int .u8 0, .int .u8 0, .int .u8 0, .int .u8 0, .int .u8 0, .int .u8 0, .int .u8 0, .int .u8 0, .int .u8 0, .int .u8 0, .int .u8 0, .int .u8 0, .int .u8 0, .int .u8 0, .int .u8 0, .int .u8 0, .int .u8 0, .int .u8 0, .int .u8 0, .int .u8 0, .int .u8 0, .int .u8 0, .int .u8 0] 23) = W1 := hW1
  have hthere : W1.there (w.heap.size + 1 + 1 + 1) 0 32 := there_of_row hd
  have HT4 := h_ hthere
  obtain ⟨W2, hW2, ha, hb, hc, hd, hbel, hs2⟩ := id_second ha hb hc hd hbel hs1
  have ca0 : W2.cell? ⟨w.heap.size, 0, none⟩ = some (.slice A n c) := row_cell ha 0
  have ca1 : W2.cell? ⟨w.heap.size, 1, none⟩ = some (.bool false) := row_cell ha 1
  have Ha := h_ ha
  have Hb := h_ hb
  have Hc := h_ hc
  have Hd := h_ hd
  have Hs2 := h_ hs2
  clear hn h4 hWb hW1 ha hb hc hd hthere hs2
  go_enter Tryz.func90, Tryz.ntmps90
  go_wp2_with ((with_reducible (refine wpList_store_mid rfl _ _ _ rfl ?_ ?_ ?_ ?_ ?_ ?_ ?_ ?_ ?_)); (exact w.heap.size + 1 + 1 + 1); exact 0; (exact #[Value.int .u8 0, .int .u8 0, .int .u8 0, .int .u8 0, .int .u8 0, .int .u8 0, .int .u8 0, .int .u8 0, .int .u8 0, .int .u8 0, .int .u8 0, .int .u8 0, .int .u8 0, .int .u8 0, .int .u8 0, .int .u8 0, .int .u8 0, .int .u8 0, .int .u8 0, .int .u8 0, .int .u8 0, .int .u8 0, .int .u8 0, .int .u8 0, .int .u8 0, .int .u8 0, .int .u8 0, .int .u8 0, .int .u8 0, .int .u8 0, .int .u8 0, .int .u8 0]); (focus (simp [Act.eval]; done)); (focus (simp [Act.eval]; done)); (exact zl_there HT4.out); exact info_zl; exact zl_one; rw [hW2])
  clear hWa hWc hWb' hW1' hW2 hsa hsb hsc hs1 HT4
  go_loopw [5] (fun i wr => ∃ (k : Nat), k ≤ 32 ∧ i = .int .i64 (k : Int) ∧ wr.heap[w.heap.size]? = some (.cells #[.slice A n c, .bool false] 156 (0, 0)) ∧ Hid (wr.heap[w.heap.size + 1]? = some (.cells (b8s zeros32).toArray 23 (0, 0))) ∧ Hid (wr.heap[w.heap.size + 1 + 1]? = some (.cells #[.slice none 0 0, .bool false] 156 (0, 0))) ∧
   wr.heap[w.heap.size + 1 + 1 + 1]? = some (.cells (b8s (part bs k)).toArray 23 (0, 0)) ∧ Below w.heap.size w wr ∧ w.heap.size + 1 + 1 + 1 < wr.heap.size) (fun i _ => 32 - (intOf i).toNat)
  case atStart => exact ⟨0, by omega, rfl, Ha.out, Hb, Hc, Hd.out, hbel, Hs2.out⟩
  case round =>
   clear ca0 ca1 Ha Hb Hc Hd hbel Hs2
   obtain ⟨k, hk, rfl, ha, Hb, Hc, hd, hbel, hsz⟩ := hrel
   have ca0 : wr.cell? ⟨w.heap.size, 0, none⟩ = some (.slice A n c) := row_cell ha 0
   have Ha := h_ ha
   have Hd := h_ hd
   by_cases hlt : k < 32
   ·obtain ⟨b, o, rfl, hcell⟩ := (H4.out.below hbel).byte k (by omega)
    have hkn : (k : Int) < (n : Int) := by have := Hn.out; omega
    have hkn2 : k < n := by have := Hn.out; omega
    obtain ⟨v0, hv0⟩ := part_cell bs k (by omega) hlt
    have hd0 : wr.cell? ⟨w.heap.size + 1 + 1 + 1, k, none⟩ = some v0 := (row_cell hd k).trans hv0
    have hf0 : wr.frozen? ⟨w.heap.size + 1 + 1 + 1, k, none⟩ = false := row_free hd k
    clear ha hd hv0
    have hgs := grown_set (w := wr) (w.heap.size + 1 + 1 + 1) k (.int .u8 (bs[k].toNat : Int))
    go_wp2_with fail
    go_roundw
    case rel =>
     refine ⟨k + 1, by omega, by go_num, ?_, ?_, ?_, ?_, ?_, ?_⟩
     ·exact (hgs.block _ (by omega) (by simp; omega)).trans Ha.out
     ·exact (hgs.block _ (by omega) (by simp)).trans Hb.out
     ·exact (hgs.block _ (by omega) (by simp)).trans Hc.out
     ·have := row_set Hd.out k (.int .u8 (bs[k].toNat : Int))
      rw [part_step bs k (by omega) hlt] at this
      exact this
     ·exact bel_grown hbel (by omega) hgs (by omega)
     ·exact Nat.lt_of_lt_of_le hsz hgs.size
    case measure => simp [intOf]; omega
   ·obtain rfl : k = 32 := by omega
    rw [part_done] at Hd
    have hn32 : 32 ≤ n := by have := Hn.out; omega
    have hn32i : (32 : Int) ≤ (n : Int) := by omega
    have hbi : (bs.take 32).length = 32 := by rw [List.length_take]; omega
    go_wp2_with fail
    refine wp_region_sched (fun w' => w'.heap[w.heap.size + 1 + 1 + 1]? = some (.cells (b8s (bs.take 32)).toArray 23 (0, 0)) ∧ w'.cell? ⟨w.heap.size, 0, none⟩ = some (.slice A n c)) [(true, 0), (true, 1), (true, 2), (true, 3), (true, 4), (false, 5), (false, 6)] (by kernel_rfl) (by kernel_rfl) rfl (by kernel_rfl) ⟨Hd.out, ca0⟩ ?_
    refine wpS_load _ rfl (by rfl) _ _ rfl _ _ rfl (b8s (bs.take 32)) _ (fun w' hS' => range_of_row hS'.1) Tryz.underlying23 rfl (by rw [b8s_length, hbi]; exact info_arr) ?_
    simp only [LY]
    (repeat ((first | refine wpS_pass _ rfl (by rfl) ?_ | (refine wpS_take _ ?_ rfl (by rfl) ?_ ?_; rotate_left; (focus (intro w' hS'; (try dsimp only at hS'); (repeat (have hS1 := hS'.1; replace hS' := hS'.2)); go_simp; (try with_reducible rfl); done)))); simp only [LY]))
    obtain ⟨A', hA'⟩ := eX ((if c = 32 then A else Option.map (fun x => (⟨x.block, x.off + 32, none⟩ : Addr)) A))
    rw [hA']
    have HA := h_ hA'
    clear hA'
    generalize hI : bs.take 32 = idv at *
    have hth : wr.drew.there (w.heap.size + 1) 0 (b8s idv).toArray.size := by
     have e : (b8s idv).toArray.size = 32 := by simp [b8s, hbi]
     rw [e]
     exact there_of_row (w := wr.drew) Hb.out
    have hinf : (Tryz.prog.info? 23).map (·.size) = some (b8s idv).toArray.size := by
     have e : (b8s idv).toArray.size = 32 := by simp [b8s, hbi]
     rw [e]
     exact info_arr
    have hsc := setCells_grown (w.heap.size + 1) (b8s idv) 0 wr.drew
    have hrb := row_setAll (w := wr.drew) (vs := b8s idv) Hb.out (by rw [b8s_length, b8s_length, hbi]; rfl)
    have hlist : ((b8s idv).toArray).toList = b8s idv := rfl
    refine wpS_do _ rfl (by rfl) (fun K hK => ?_)
    refine wp_store_mid _ _ _ rfl (w.heap.size + 1) 0 (b8s idv).toArray rfl rfl hth hinf (all_oneCell_toArray (b8s_one' _)) ?_
    rw [hlist]
    generalize wr.drew.setCells (w.heap.size + 1) 0 (b8s idv) = w5 at *
    have hszd : wr.drew.heap.size = wr.heap.size := rfl
    have ha5 := (hsc.block w.heap.size (by omega) (by first | (simp; done) | (simp; omega))).trans Ha.out
    have hc5 := (hsc.block (w.heap.size + 1 + 1) (by omega) (by first | (simp; done) | (simp; omega))).trans Hc.out
    have hd5 := (hsc.block (w.heap.size + 1 + 1 + 1) (by omega) (by first | (simp; done) | (simp; omega))).trans Hd.out
    have hb5 := bel_grown (w1 := wr.drew) hbel.drew (by omega) hsc (by omega)
    have hs5 := hsc.size
    have ca5 : w5.cell? ⟨w.heap.size, 0, none⟩ = some (.slice A n c) := row_cell ha5 0
    refine hK.out _ _ ⟨hd5, ca5⟩ (fun hS => ?_)
    clear hK hS
    have Hb5 := h_ hrb
    have Hc5 := h_ hc5
    have Hd5 := h_ hd5
    have hinf2 := hinf
    clear hrb hc5 hd5 ha5 hsc hth hinf hlist Ha Hb Hc Hd ca0
    refine wpS_do _ rfl (by rfl) (fun K hK => ?_)
    simp only [LY]
    have f0 : w5.frozen? ⟨w.heap.size + 1 + 1, 0, none⟩ = false := row_free Hc5.out 0
    have f1 : w5.frozen? ⟨w.heap.size + 1 + 1, 1, none⟩ = false := row_free Hc5.out 1
    have c0 : w5.cell? ⟨w.heap.size + 1 + 1, 0, none⟩ = some (.slice none 0 0) := row_cell Hc5.out 0
    have c1 : w5.cell? ⟨w.heap.size + 1 + 1, 1, none⟩ = some (.bool false) := row_cell Hc5.out 1
    go_simp
    refine hK.out _ _ ⟨?_, ?_⟩ (fun hS => ?_)
    ·have := (grown_set2 w5 (w.heap.size + 1 + 1) (.slice A' (n - 32) (c - 32)) (.bool false)).block (w.heap.size + 1 + 1 + 1) (by omega) (by first | (simp; done) | (simp; omega))
     exact this.trans Hd5.out
    ·exact (set2_far _ _ _ _ _ (by dsimp only; omega)).trans ca5
    clear hK hS f0 f1 c0 c1 ca5
    refine wpS_done ?_
    have hg6 := grown_set2 w5 (w.heap.size + 1 + 1) (.slice A' (n - 32) (c - 32)) (.bool false)
    have hb6 := (hg6.block (w.heap.size + 1) (by omega) (by first | (simp; done) | (simp; omega))).trans Hb5.out
    have hc6 := row_set2 Hc5.out (.slice A' (n - 32) (c - 32)) (.bool false)
    have hbel6 := bel_set2 hb5 (by omega) (g := w.heap.size + 1 + 1) (by omega) (.slice A' (n - 32) (c - 32)) (.bool false)
    have HB6 := h_ hb6
    have HC6 := h_ hc6
    clear hb6 hc6 hg6
    go_wp2_with fail
    have hT := HT.out
    rw [getN_yes hlen] at hT
    have hpad : padId (bs.take 32) = idv := by
     rw [hI]
     unfold padId
     rw [if_neg (by intro h0; rw [h0] at hbi; simp at hbi)]
    dsimp only at hT
    rw [hpad] at hT
    subst hT
    refine bodyPost_ret (results_row_row rfl _ _ _ _ _ _ _ _ _ _ _ _ rfl HC6.out Tryz.underlying156 rfl info_in rfl HB6.out Tryz.underlying23 rfl hinf2) rfl ?_
    refine ⟨.agg #[.slice A' (n - 32) (c - 32), .bool false], rfl, ?_, hbel6⟩
    have hd := Rd.drop (k := 32) (size := 1) (cap := c) (H4.out.below hbel6) (by rw [b8s_length]; have := Hn.out; omega)
    rw [Nat.mul_one, ← b8s_drop] at hd
    refine ⟨_, _, _, rfl, by have := Hn.out; rw [List.length_drop]; omega, by omega, by omega, ?_, fun hne a ha => ?_⟩
    rotate_left
    ·obtain ⟨b, o, hA, _⟩ := H4.out.byte 0 (by omega)
     rw [← HA.out, hA] at ha
     have h9 := H5.out (fun e => hne (by rw [e, List.drop_nil])) _ hA
     simp only [Option.map_some] at ha
     first
      | (split at ha <;> (cases ha; exact h9))
      | (cases ha; exact h9)
    have hA2 : (if c = 32 then A else A.map (·.add 32)) = A' := by
     rw [← HA.out]
     obtain ⟨b, o, hA, _⟩ := H4.out.byte 0 (by omega)
     rw [hA]
     simp [Addr.add]
    rw [hA2] at hd
    exact hd
 ·have hT := HT.out
  rw [getN_no hno] at hT
  have HT2 := h_ hT
  clear hT HT
  cases st with
  | none =>
    cases h
    obtain ⟨Wa, Wb, Wc, W1, hWa, hWb, hWc, hW1, hsa, hsb, hsc, hs1, ha, hb, hc, hd, hbel⟩ := id_entry w (.slice none 0 0) (.bool true)
    have hWb' : Wa.alloc (.cells #[Value.int .u8 0, .int .u8 0, .int .u8 0, .int .u8 0, .int .u8 0, .int .u8 0, .int .u8 0, .int .u8 0, .int .u8 0, .int .u8 0, .int .u8 0, .int .u8 0, .int .u8 0, .int .u8 0, .int .u8 0, .int .u8 0, .int .u8 0, .int .u8 0, .int .u8 0, .int .u8 0, .int .u8 0, .int .u8 0, .int .u8 0, .int .u8 0, .int .u8 0, .int .u8 0, .int .u8 0, .int .u8 0, .int .u8 0, .int .u8 0, .int .u8 0, .int .u8 0] 23) = Wb := hWb
    have hW1' : Wc.alloc (.cells #[Value.int .u8 0, .int .u8 0, .int .u8 0, .int .u8 0, .int .u8 0, .int .u8 0, .int .u8 0, .int .u8 0, .int .u8 0, .int .u8 0, .int .u8 0, .int .u8 0, .int .u8 0, .int .u8 0, .int .u8 0, .int .u8 0, .int .u8 0, .int .u8 0, .int .u8 0, .int .u8 0, .int .u8 0, .int .u8 0, .int .u8 0, .int .u8 0, .int .u8 0, .int .u8 0, .int .u8 0, .int .u8 0, .int .u8 0, .int .u8 0, .int .u8 0, .int .u8 0] 23) = W1 := hW1
    have hthere : W1.there (w.heap.size + 1 + 1 + 1) 0 32 := there_of_row hd
    have HT4 := h_ hthere
    obtain ⟨W2, hW2, ha, hb, hc, hd, hbel, hs2⟩ := id_second ha hb hc hd hbel hs1
    have ca0 : W2.cell? ⟨w.heap.size, 0, none⟩ = some (.slice none 0 0) := row_cell ha 0
    have ca1 : W2.cell? ⟨w.heap.size, 1, none⟩ = some (.bool true) := row_cell ha 1
    have Ha := h_ ha
    have Hb := h_ hb
    have Hc := h_ hc
    have Hd := h_ hd
    have Hs2 := h_ hs2
    clear hWb hW1 ha hb hc hd hthere hs2
    go_enter Tryz.func90, Tryz.ntmps90
    go_wp2_with ((with_reducible (refine wpList_store_mid rfl _ _ _ rfl ?_ ?_ ?_ ?_ ?_ ?_ ?_ ?_ ?_)); (exact w.heap.size + 1 + 1 + 1); exact 0; (exact #[Value.int .u8 0, .int .u8 0, .int .u8 0, .int .u8 0, .int .u8 0, .int .u8 0, .int .u8 0, .int .u8 0, .int .u8 0, .int .u8 0, .int .u8 0, .int .u8 0, .int .u8 0, .int .u8 0, .int .u8 0, .int .u8 0, .int .u8 0, .int .u8 0, .int .u8 0, .int .u8 0, .int .u8 0, .int .u8 0, .int .u8 0, .int .u8 0, .int .u8 0, .int .u8 0, .int .u8 0, .int .u8 0, .int .u8 0, .int .u8 0, .int .u8 0, .int .u8 0]); (focus (simp [Act.eval]; done)); (focus (simp [Act.eval]; done)); (exact zl_there HT4.out); exact info_zl; exact zl_one; rw [hW2])
    clear hWa hWc hWb' hW1' hW2 hsa hsb hsc hs1 HT4 ca0 ca1
    refine wp_region_sched (fun w' => w'.heap[w.heap.size + 1 + 1 + 1]? = some (.cells (b8s zeros32).toArray 23 (0, 0))) [(true, 0), (false, 1), (false, 2), (false, 3)] (by kernel_rfl) (by kernel_rfl) rfl (by kernel_rfl) Hd.out ?_
    refine wpS_load _ rfl (by rfl) _ _ rfl _ _ rfl (b8s zeros32) _ (fun w' hS' => range_of_row hS') Tryz.underlying23 rfl (by rw [b8s_length]; exact info_arr) ?_
    simp only [LY]
    generalize hZ : b8s zeros32 = Z at *
    refine wpS_do _ rfl (by rfl) (fun K hK => ?_)
    go_simp
    refine (failed_any _).mono ?_
    rintro e w3 ⟨rfl, hb3⟩
    have hs2 := Hs2.out
    have hd3 := (hb3.block (w.heap.size + 1 + 1 + 1) (by simpa using hs2)).trans Hd.out
    have hc3 := (hb3.block (w.heap.size + 1 + 1) (by show _ < W2.heap.size; omega)).trans Hc.out
    have hr3 := (hb3.block (w.heap.size + 1) (by show _ < W2.heap.size; omega)).trans Hb.out
    have hbel3 := hbel.trans ((show Below W2.heap.size W2 w3 from ⟨hb3.os, hb3.tape, hb3.output, hb3.size, hb3.block⟩).mono (by omega))
    have hs3 : W2.heap.size ≤ w3.heap.size := hb3.size
    refine hK.out _ _ hd3 (fun hS => ?_)
    clear hK hS
    have hzl : Z.length = 32 := by rw [← hZ, b8s_length]; rfl
    have hzs : Z.toArray.size = 32 := by rw [List.size_toArray]; exact hzl
    have hth : w3.there (w.heap.size + 1) 0 Z.toArray.size := there_of_row hr3
    have hinf : (Tryz.prog.info? 23).map (·.size) = some Z.toArray.size := by rw [hzs]; exact info_arr
    have hone : Z.toArray.all (·.oneCell') = true := by rw [← hZ]; exact all_oneCell_toArray (b8s_one' _)
    have hsc := setCells_grown (w.heap.size + 1) Z 0 w3
    have hrb := row_setAll (vs := Z) hr3 rfl
    refine wpS_do _ rfl (by rfl) (fun K hK => ?_)
    refine wp_store_mid _ _ _ rfl (w.heap.size + 1) 0 Z.toArray rfl rfl hth hinf hone ?_
    rw [show Z.toArray.toList = Z from rfl]
    generalize w3.setCells (w.heap.size + 1) 0 Z = w5 at *
    have hc5 := (hsc.block (w.heap.size + 1 + 1) (by omega) (by first | (simp; done) | (simp; omega))).trans hc3
    have hd5 := (hsc.block (w.heap.size + 1 + 1 + 1) (by omega) (by first | (simp; done) | (simp; omega))).trans hd3
    have hb5 := bel_grown hbel3 (by omega) hsc (by omega)
    have hs5 := hsc.size
    refine hK.out _ _ hd5 (fun hS => ?_)
    clear hK hS
    have Hb5 := h_ hrb
    have Hc5 := h_ hc5
    have Hd5 := h_ hd5
    have hinf2 := hinf
    clear hrb hc5 hd5 hsc hth hinf hone Hb Hc Hd hr3 hc3 hd3
    refine wpS_do _ rfl (by rfl) (fun K hK => ?_)
    simp only [LY]
    have f0 : w5.frozen? ⟨w.heap.size + 1 + 1, 0, none⟩ = false := row_free Hc5.out 0
    have f1 : w5.frozen? ⟨w.heap.size + 1 + 1, 1, none⟩ = false := row_free Hc5.out 1
    have c0 : w5.cell? ⟨w.heap.size + 1 + 1, 0, none⟩ = some (.slice none 0 0) := row_cell Hc5.out 0
    have c1 : w5.cell? ⟨w.heap.size + 1 + 1, 1, none⟩ = some (.bool false) := row_cell Hc5.out 1
    go_simp
    refine hK.out _ _ ?_ (fun hS => ?_)
    ·have := (grown_set2 w5 (w.heap.size + 1 + 1) (.slice none 0 0) (.bool true)).block (w.heap.size + 1 + 1 + 1) (by omega) (by first | (simp; done) | (simp; omega))
     exact this.trans Hd5.out
    clear hK hS f0 f1 c0 c1
    refine wpS_done ?_
    have hg6 := grown_set2 w5 (w.heap.size + 1 + 1) (.slice none 0 0) (.bool true)
    have hb6 := (hg6.block (w.heap.size + 1) (by omega) (by first | (simp; done) | (simp; omega))).trans Hb5.out
    have hc6 := row_set2 Hc5.out (.slice none 0 0) (.bool true)
    have hbel6 := bel_set2 hb5 (by omega) (g := w.heap.size + 1 + 1) (by omega) (.slice none 0 0) (.bool true)
    have HB6 := h_ hb6
    have HC6 := h_ hc6
    clear hb6 hc6 hg6
    go_wp2_with fail
    have hT := HT2.out
    subst hT
    subst hZ
    exact bodyPost_ret (results_row_row rfl _ _ _ _ _ _ _ _ _ _ _ _ rfl HC6.out Tryz.underlying156 rfl info_in rfl HB6.out Tryz.underlying23 rfl hinf2) rfl ⟨_, rfl, rfl, hbel6⟩
  | some bs =>
    have hl := hno bs rfl
    obtain ⟨A, n, c, rfl, hn, h2, h3, h4, h5⟩ := h
    have H5 := h_ h5
    clear h5
    have hl' : (n : Int) < 32 := by omega
    clear hl hn h4
    obtain ⟨Wa, Wb, Wc, W1, hWa, hWb, hWc, hW1, hsa, hsb, hsc, hs1, ha, hb, hc, hd, hbel⟩ := id_entry w (.slice A n c) (.bool false)
    have hWb' : Wa.alloc (.cells #[Value.int .u8 0, .int .u8 0, .int .u8 0, .int .u8 0, .int .u8 0, .int .u8 0, .int .u8 0, .int .u8 0, .int .u8 0, .int .u8 0, .int .u8 0, .int .u8 0, .int .u8 0, .int .u8 0, .int .u8 0, .int .u8 0, .int .u8 0, .int .u8 0, .int .u8 0, .int .u8 0, .int .u8 0, .int .u8 0, .int .u8 0, .int .u8 0, .int .u8 0, .int .u8 0, .int .u8 0, .int .u8 0, .int .u8 0, .int .u8 0, .int .u8 0, .int .u8 0] 23) = Wb := hWb
    have hW1' : Wc.alloc (.cells #[Value.int .u8 0, .int .u8 0, .int .u8 0, .int .u8 0, .int .u8 0, .int .u8 0, .int .u8 0, .int .u8 0, .int .u8 0, .int .u8 0, .int .u8 0, .int .u8 0, .int .u8 0, .int .u8 0, .int .u8 0, .int .u8 0, .int .u8 0, .int .u8 0, .int .u8 0, .int .u8 0, .int .u8 0, .int .u8 0, .int .u8 0, .int .u8 0, .int .u8 0, .int .u8 0, .int .u8 0, .int .u8 0, .int .u8 0, .int .u8 0, .int .u8 0, .int .u8 0] 23) = W1 := hW1
    have hthere : W1.there (w.heap.size + 1 + 1 + 1) 0 32 := there_of_row hd
    have HT4 := h_ hthere
    obtain ⟨W2, hW2, ha, hb, hc, hd, hbel, hs2⟩ := id_second ha hb hc hd hbel hs1
    have ca0 : W2.cell? ⟨w.heap.size, 0, none⟩ = some (.slice A n c) := row_cell ha 0
    have ca1 : W2.cell? ⟨w.heap.size, 1, none⟩ = some (.bool false) := row_cell ha 1
    have Ha := h_ ha
    have Hb := h_ hb
    have Hc := h_ hc
    have Hd := h_ hd
    have Hs2 := h_ hs2
    clear hWb hW1 ha hb hc hd hthere hs2
    go_enter Tryz.func90, Tryz.ntmps90
    go_wp2_with ((with_reducible (refine wpList_store_mid rfl _ _ _ rfl ?_ ?_ ?_ ?_ ?_ ?_ ?_ ?_ ?_)); (exact w.heap.size + 1 + 1 + 1); exact 0; (exact #[Value.int .u8 0, .int .u8 0, .int .u8 0, .int .u8 0, .int .u8 0, .int .u8 0, .int .u8 0, .int .u8 0, .int .u8 0, .int .u8 0, .int .u8 0, .int .u8 0, .int .u8 0, .int .u8 0, .int .u8 0, .int .u8 0, .int .u8 0, .int .u8 0, .int .u8 0, .int .u8 0, .int .u8 0, .int .u8 0, .int .u8 0, .int .u8 0, .int .u8 0, .int .u8 0, .int .u8 0, .int .u8 0, .int .u8 0, .int .u8 0, .int .u8 0, .int .u8 0]); (focus (simp [Act.eval]; done)); (focus (simp [Act.eval]; done)); (exact zl_there HT4.out); exact info_zl; exact zl_one; rw [hW2])
    clear hWa hWc hWb' hW1' hW2 hsa hsb hsc hs1 HT4 ca0 ca1
    refine wp_region_sched (fun w' => w'.heap[w.heap.size + 1 + 1 + 1]? = some (.cells (b8s zeros32).toArray 23 (0, 0))) [(true, 0), (false, 1), (false, 2), (false, 3)] (by kernel_rfl) (by kernel_rfl) rfl (by kernel_rfl) Hd.out ?_
    refine wpS_load _ rfl (by rfl) _ _ rfl _ _ rfl (b8s zeros32) _ (fun w' hS' => range_of_row hS') Tryz.underlying23 rfl (by rw [b8s_length]; exact info_arr) ?_
    simp only [LY]
    generalize hZ : b8s zeros32 = Z at *
    refine wpS_do _ rfl (by rfl) (fun K hK => ?_)
    go_simp
    refine (failed_any _).mono ?_
    rintro e w3 ⟨rfl, hb3⟩
    have hs2 := Hs2.out
    have hd3 := (hb3.block (w.heap.size + 1 + 1 + 1) (by simpa using hs2)).trans Hd.out
    have hc3 := (hb3.block (w.heap.size + 1 + 1) (by show _ < W2.heap.size; omega)).trans Hc.out
    have hr3 := (hb3.block (w.heap.size + 1) (by show _ < W2.heap.size; omega)).trans Hb.out
    have hbel3 := hbel.trans ((show Below W2.heap.size W2 w3 from ⟨hb3.os, hb3.tape, hb3.output, hb3.size, hb3.block⟩).mono (by omega))
    have hs3 : W2.heap.size ≤ w3.heap.size := hb3.size
    refine hK.out _ _ hd3 (fun hS => ?_)
    clear hK hS
    have hzl : Z.length = 32 := by rw [← hZ, b8s_length]; rfl
    have hzs : Z.toArray.size = 32 := by rw [List.size_toArray]; exact hzl
    have hth : w3.there (w.heap.size + 1) 0 Z.toArray.size := there_of_row hr3
    have hinf : (Tryz.prog.info? 23).map (·.size) = some Z.toArray.size := by rw [hzs]; exact info_arr
    have hone : Z.toArray.all (·.oneCell') = true := by rw [← hZ]; exact all_oneCell_toArray (b8s_one' _)
    have hsc := setCells_grown (w.heap.size + 1) Z 0 w3
    have hrb := row_setAll (vs := Z) hr3 rfl
    refine wpS_do _ rfl (by rfl) (fun K hK => ?_)
    refine wp_store_mid _ _ _ rfl (w.heap.size + 1) 0 Z.toArray rfl rfl hth hinf hone ?_
    rw [show Z.toArray.toList = Z from rfl]
    generalize w3.setCells (w.heap.size + 1) 0 Z = w5 at *
    have hc5 := (hsc.block (w.heap.size + 1 + 1) (by omega) (by first | (simp; done) | (simp; omega))).trans hc3
    have hd5 := (hsc.block (w.heap.size + 1 + 1 + 1) (by omega) (by first | (simp; done) | (simp; omega))).trans hd3
    have hb5 := bel_grown hbel3 (by omega) hsc (by omega)
    have hs5 := hsc.size
    refine hK.out _ _ hd5 (fun hS => ?_)
    clear hK hS
    have Hb5 := h_ hrb
    have Hc5 := h_ hc5
    have Hd5 := h_ hd5
    have hinf2 := hinf
    clear hrb hc5 hd5 hsc hth hinf hone Hb Hc Hd hr3 hc3 hd3
    refine wpS_do _ rfl (by rfl) (fun K hK => ?_)
    simp only [LY]
    have f0 : w5.frozen? ⟨w.heap.size + 1 + 1, 0, none⟩ = false := row_free Hc5.out 0
    have f1 : w5.frozen? ⟨w.heap.size + 1 + 1, 1, none⟩ = false := row_free Hc5.out 1
    have c0 : w5.cell? ⟨w.heap.size + 1 + 1, 0, none⟩ = some (.slice none 0 0) := row_cell Hc5.out 0
    have c1 : w5.cell? ⟨w.heap.size + 1 + 1, 1, none⟩ = some (.bool false) := row_cell Hc5.out 1
    go_simp
    refine hK.out _ _ ?_ (fun hS => ?_)
    ·have := (grown_set2 w5 (w.heap.size + 1 + 1) (.slice none 0 0) (.bool true)).block (w.heap.size + 1 + 1 + 1) (by omega) (by first | (simp; done) | (simp; omega))
     exact this.trans Hd5.out
    clear hK hS f0 f1 c0 c1
    refine wpS_done ?_
    have hg6 := grown_set2 w5 (w.heap.size + 1 + 1) (.slice none 0 0) (.bool true)
    have hb6 := (hg6.block (w.heap.size + 1) (by omega) (by first | (simp; done) | (simp; omega))).trans Hb5.out
    have hc6 := row_set2 Hc5.out (.slice none 0 0) (.bool true)
    have hbel6 := bel_set2 hb5 (by omega) (g := w.heap.size + 1 + 1) (by omega) (.slice none 0 0) (.bool true)
    have HB6 := h_ hb6
    have HC6 := h_ hc6
    clear hb6 hc6 hg6
    go_wp2_with fail
    have hT := HT2.out
    subst hT
    subst hZ
    exact bodyPost_ret (results_row_row rfl _ _ _ _ _ _ _ _ _ _ _ _ rfl HC6.out Tryz.underlying156 rfl info_in rfl HB6.out Tryz.underlying23 rfl hinf2) rfl ⟨_, rfl, rfl, hbel6⟩
end Go.Proofs.YtelbofikcpchiaaGreat
