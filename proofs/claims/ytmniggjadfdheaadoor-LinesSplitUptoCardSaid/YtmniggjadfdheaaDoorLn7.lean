
/- Clone, Back. -/

import Derived.Test.YtmniggjadfdheaaDoorLn6

namespace Go.Proofs.YtmniggjadfdheaaDoor

set_option linter.unusedVariables false

set_option linter.unusedSimpArgs false

set_option linter.unusedSectionVars false

open Go.RowKit

def flipE (e : EdM) : EdM := if e.kind = 1 then ⟨2, e.line⟩ else if e.kind = 2 then ⟨1, e.line⟩ else e
def backP (s : List EdM) : List EdM := tidyP (s.map flipE)

theorem eql_nil {P : Program} (w : World) (t e : TypeId) (a : Option Addr) (n c n' c' : Nat) (h : P.underlying t = some (.slice e)) :
    (binOp .eql t (.slice a n c) (.slice none n' c')).run P w = .ok (.bool a.isNone) w := by
  simp only [binOp]
  simp [Op.equal, Op.maxDepth, Lib.run_equalIn_slice_nil w 9999 t e a n c n' c' h]
theorem RowE.setKind {w : World} {g : Nat} {t : List EdM} {sp : List Value} (h : RowE w g t sp) (m : Nat) (hm : m < t.length) (k : Int) : RowE (w.setCell ⟨g, m * 2, none⟩ (.int .i64 k)) g (t.set m ⟨k, t[m].line⟩) sp := by
  have e1 : edc t = edc (t.take m) ++ (t[m].cells ++ edc (t.drop (m + 1))) := by
    have e0 : t = t.take m ++ t[m] :: t.drop (m + 1) := by rw [← List.drop_eq_getElem_cons hm, List.take_append_drop]
    have e2 : edc t = edc (t.take m ++ t[m] :: t.drop (m + 1)) := congrArg edc e0
    rw [e2, edc_app, edc_cons]
  have h0 : w.heap[g]? = some (.cells (edc (t.take m) ++ [Value.int .i64 t[m].kind] ++ ([Value.string t[m].line] ++ (edc (t.drop (m + 1)) ++ sp))).toArray 36 (0, 0)) := by
    unfold RowE at h
    rw [h, e1]
    simp [Ed.cells, List.append_assoc]
  have h1 := row_setCells [.int .i64 k] (edc (t.take m)) [.int .i64 t[m].kind] _ w h0 rfl
  have e3 : (edc (t.take m)).length = m * 2 := by rw [edc_len, List.length_take]; omega
  rw [e3] at h1
  have h2 : (w.setCell ⟨g, m * 2, none⟩ (.int .i64 k)).heap[g]? = _ := h1
  unfold RowE
  rw [h2, List.set_eq_take_append_cons_drop, if_pos hm, edc_app, edc_cons]
  simp [Ed.cells, List.append_assoc]

set_option maxRecDepth 100000 in
set_option maxHeartbeats 2000000 in
theorem clone_any (A : Option Addr) (s : List EdM) (c : Nat) (w : World) (hr : Rd w A (edc s)) (hl : s.length ≤ 1000000) (hn : A = none → s = [] ∧ c = 0) :
    Calls Tryd.prog 35 #[.slice A s.length c] w fun e w' => ∃ A' c', e = .returned (.slice A' s.length c') ∧ w'.ownsRow w.heap.size 36 2 (.slice A' s.length c') s.length (edc s) ∧ Below w.heap.size w w' := by
  cases A with
  | none =>
    obtain ⟨h1, h2⟩ := hn rfl
    subst h1 h2
    have heq := fun w => eql_nil (P := Tryd.prog) w 24 36 none 0 0 0 0 Tryd.underlying24
    go_enter Tryd.func35, Tryd.ntmps35
    go_wp2_with fail
    go_ret
    exact ⟨none, 0, rfl, World.ownsRow_nil _ _ _ _, Below.refl _ _⟩
  | some ad =>
    obtain ⟨W1, hW1⟩ : ∃ W, w.alloc (.cells #[] 36) = W := ⟨_, rfl⟩
    obtain ⟨r1, b1, s1⟩ := new_row hW1
    have own := own_new w w.heap.size 36 2 0 [] (Nat.le_refl _) rfl (by decide)
    have e1 : w.alloc (.cells ([] : List Value).toArray 36) = W1 := hW1
    rw [e1] at own
    have HO := Lib.hid own
    have HR := Lib.hid (hr.below b1)
    have HB := Lib.hid b1
    have HS := Lib.hid b1.size
    have HL := Lib.hid (edc_len s)
    have heq := fun w => eql_nil (P := Tryd.prog) w 24 36 (some ad) s.length c 0 0 Tryd.underlying24
    clear r1 b1 s1 own e1 hr
    go_enter Tryd.func35, Tryd.ntmps35
    go_wp2_with (first
      | (at_builtin; refine wpList_append_rd _ rfl _ _ 24 rfl w.heap.size 36 _ 2 24 Tryd.underlying24 info_ed2 rfl (by decide) (.slice (some ⟨w.heap.size, 0, none⟩) 0 0) 0 [] rfl HO.out _ s.length c (edc s) rfl HL.out HR.out (edc_cell s) (by unfold maxLen; omega) (by omega) HS.out ?_; intro v7 w7 ho7 hg7 hvb7; obtain ⟨A7, c7, e7, _⟩ := own_slice ho7; subst e7; have HO7 := Lib.hid ho7; have HB7 := Lib.hid (bel_own HB.out rfl HO.out hg7); clear ho7 hg7 hvb7))
    go_ret
    have h := HO7.out
    rw [Nat.zero_add, List.nil_append] at h
    exact ⟨A7, c7, rfl, h, HB7.out⟩

theorem set_flip (s : List EdM) (k : Nat) (h : k < s.length) : ((s.take k).map flipE ++ s.drop k).set k (flipE s[k]) = (s.take (k + 1)).map flipE ++ s.drop (k + 1) := by
  have hl : ((s.take k).map flipE).length = k := by rw [List.length_map, List.length_take]; omega
  have e1 : (s.take (k + 1)).map flipE = (s.take k).map flipE ++ [flipE s[k]] := by rw [List.take_succ_eq_append_getElem h, List.map_append]; rfl
  rw [List.drop_eq_getElem_cons h, List.set_append_right _ _ (by omega), hl, Nat.sub_self, List.set_cons_zero, e1, List.append_assoc]
  rfl
theorem get_flip (s : List EdM) (k : Nat) (h : k < s.length) : ∃ h', ((s.take k).map flipE ++ s.drop k)[k]'h' = s[k] := by
  have hl : ((s.take k).map flipE).length = k := by rw [List.length_map, List.length_take]; omega
  refine ⟨by rw [List.length_append, hl, List.length_drop]; omega, ?_⟩
  apply Option.some.inj
  rw [← List.getElem?_eq_getElem, ← List.getElem?_eq_getElem, List.getElem?_append_right (by omega), hl, Nat.sub_self, List.getElem?_drop, Nat.add_zero]
theorem own_row {w : World} {N0 n c g : Nat} {s : List EdM} (h : w.ownsRow N0 36 2 (.slice (some ⟨g, 0, none⟩) n c) n (edc s)) (hn : n = s.length) : ∃ sp, RowE w g s sp ∧ N0 ≤ g ∧ n ≤ c ∧ c ≤ maxLen ∧ (edc s).length + sp.length = c * 2 := by
  rcases h.2 with ⟨h0, _⟩ | ⟨g', cap, cur, h0, hb, hh, hnn, hc, hs, ht⟩
  · cases h0
  · cases h0
    subst hn
    refine ⟨cur.toList.drop (s.length * 2), ?_, hb, hnn, hc, ?_⟩
    · unfold RowE
      rw [hh, ← ht, List.take_append_drop]
    · have hcl : cur.toList.length = c * 2 := by rw [Array.length_toList]; exact hs
      have h3 : s.length * 2 ≤ c * 2 := Nat.mul_le_mul_right _ hnn
      rw [List.length_drop, edc_len, hcl]
      omega
theorem row_own {w : World} {N0 n c g : Nat} {s : List EdM} {sp : List Value} (h : RowE w g s sp) (hn : n = s.length) (hb : N0 ≤ g) (hc : n ≤ c) (hm : c ≤ maxLen) (hl : (edc s).length + sp.length = c * 2) : w.ownsRow N0 36 2 (.slice (some ⟨g, 0, none⟩) n c) n (edc s) := by
  subst hn
  exact ⟨edc_len s, .inr ⟨g, c, _, rfl, hb, h, hc, hm, by rw [List.size_toArray, List.length_append]; exact hl, by rw [← edc_len]; simp⟩⟩

set_option maxRecDepth 100000 in
set_option maxHeartbeats 4000000 in
theorem back_any (A : Option Addr) (s : List EdM) (c : Nat) (w : World) (hr : Rd w A (edc s)) (hl : s.length ≤ 1000000) (hn : A = none → s = [] ∧ c = 0) :
    Calls Tryd.prog 21 #[.slice A s.length c] w fun e w' => ∃ A' c', e = .returned (.slice A' s.length c') ∧ w'.ownsRow w.heap.size 36 2 (.slice A' s.length c') s.length (edc (backP s)) ∧ Below w.heap.size w w' := by
  have HCL := Lib.hid (clone_any A s c w hr hl hn)
  have HLN := Lib.hid (rfl : (s.map flipE).length = (s.map flipE).length)
  have hml : (s.map flipE).length = s.length := List.length_map _
  have HML := Lib.hid hml
  obtain ⟨n, hnn⟩ : ∃ n, s.length = n := ⟨_, rfl⟩
  have HN := Lib.hid hnn
  rw [hnn] at hl HCL ⊢
  clear hr hn hnn hml
  go_enter Tryd.func21, Tryd.ntmps21
  go_wp2_with fail
  refine HCL.out.mono ?_
  rintro e w1 ⟨A1, c1, rfl, ho1, hb1⟩
  have HB1 := Lib.hid hb1
  rcases Nat.eq_zero_or_pos n with h0 | h0
  · have hs : s = [] := List.eq_nil_of_length_eq_zero (by rw [HN.out]; exact h0)
    have HO1 := Lib.hid ho1
    have HS := Lib.hid hs
    subst h0
    clear ho1 hb1 hs HCL
    go_wp2_with fail
    refine wp_loop_rounds 1 ?_
    rw [rounds_succ]
    go_wp2_with fail
    refine (tidy_any A1 [] c1 w1 (by have := own_rd HO1.out; rw [HS.out] at this; exact this) (by simp)).mono ?_
    rintro e w2 ⟨A2, c2, rfl, ho2, hb2⟩
    go_wp2_with fail
    go_ret
    refine ⟨A2, c2, rfl, ?_, ext_trans HB1.out hb2⟩
    rw [HS.out]
    exact own_mono ho2 HB1.out.size
  · obtain ⟨g, cg, hg, _, _, _, _⟩ := own_head ho1 h0
    cases hg
    obtain ⟨sp, hrow, hNg, hc1, hc2, hsp⟩ := own_row ho1 HN.out.symm
    have HR0 : Hid (RowE w1 g ((s.take 0).map flipE ++ s.drop 0) sp) := Lib.hid hrow
    have HNG := Lib.hid hNg
    have HSP := Lib.hid hsp
    clear ho1 hb1 hrow hNg hsp HCL
    go_wp2_with fail
    go_loopg [10] (n * 1) (fun gk_ i wr => ∃ (k : Nat), k ≤ n ∧ gk_ = n - k ∧ i = .int .i64 (k : Int) ∧ Hid (RowE wr g ((s.take k).map flipE ++ s.drop k) sp) ∧ Hid (Below w.heap.size w wr))
    case atStart => exact ⟨0, by omega, by omega, rfl, HR0, HB1⟩
    case round =>
    clear HR0
    obtain ⟨k, hk, rfl, rfl, HR, HBW⟩ := hrel
    by_cases hlt : k < n
    · have i1 : (k : Int) < (n : Int) := by omega
      have hlt' : k < s.length := by rw [HN.out]; exact hlt
      obtain ⟨hg', hge⟩ := get_flip s k hlt'
      have RS := HR.out.range k hg'
      rw [hge] at RS
      obtain ⟨⟨kd, ln_⟩, he⟩ : ∃ e, s[k] = e := ⟨_, rfl⟩
      rw [he] at RS
      have HRS : Hid (wr.rangeAt g (k * 2) [.int .i64 kd, .string ln_]) := Lib.hid RS
      obtain ⟨W5, hW5⟩ : ∃ W, wr.alloc (.cells #[.int .i64 kd, .string ln_] 36) = W := ⟨_, rfl⟩
      obtain ⟨r5, b5, s5⟩ := new_row hW5
      have c0 : W5.cell? ⟨wr.heap.size, 0, none⟩ = some (.int .i64 kd) := row_cell r5 0
      have hrow5 : RowE W5 g ((s.take k).map flipE ++ s.drop k) sp := (b5.block _ (Array.getElem?_eq_some_iff.1 HR.out).1).trans HR.out
      have HR5 := Lib.hid hrow5
      have cg0 : W5.cell? ⟨g, k * 2, none⟩ = some (.int .i64 kd) := by
        have h := hrow5.range k hg'
        rw [hge, he] at h
        exact h 0 _ rfl
      have fg0 : W5.frozen? ⟨g, k * 2, none⟩ = false := row_free hrow5 _
      have HB5 := Lib.hid (ext_trans HBW.out b5)
      have HFL : Hid (∀ k', flipE s[k] = ⟨k', ln_⟩ → RowE (W5.setCell ⟨g, k * 2, none⟩ (.int .i64 k')) g ((s.take (k + 1)).map flipE ++ s.drop (k + 1)) sp ∧ Below w.heap.size w (W5.setCell ⟨g, k * 2, none⟩ (.int .i64 k'))) := Lib.hid (fun k' hf => by
        have h := hrow5.setKind k hg' k'
        have e1 : (⟨k', (((s.take k).map flipE ++ s.drop k)[k]'hg').line⟩ : EdM) = flipE s[k] := by rw [hge, he] at *; exact hf.symm
        rw [e1, set_flip s k hlt'] at h
        exact ⟨h, bel_grown HB5.out HB5.out.size (grown_set g (k * 2) _) HNG.out⟩)
      have HKP : Hid (flipE s[k] = s[k] → RowE W5 g ((s.take (k + 1)).map flipE ++ s.drop (k + 1)) sp) := Lib.hid (fun hf => by
        have h := set_flip s k hlt'
        rw [hf] at h
        have e2 : ((s.take k).map flipE ++ s.drop k).set k s[k] = (s.take k).map flipE ++ s.drop k := by
          apply List.ext_getElem (by simp)
          intro m h1 h2
          rw [List.getElem_set]
          split
          · rename_i e; subst e; exact hge.symm
          · rfl
        rw [← h, e2]; exact hrow5)
      have HE := Lib.hid he
      clear RS b5 s5 hrow5
      by_cases h1 : kd = 1
      · have z1 : (kd == 1) = true := by rw [beq_iff_eq]; exact h1
        obtain ⟨hr6, hb6⟩ := HFL.out 2 (by rw [HE.out]; simp [flipE, h1])
        have HR6 := Lib.hid hr6
        have HB6 := Lib.hid hb6
        clear h1 hr6 hb6 he
        go_wp2_with ((with_reducible (refine wpList_load_cells 36 _ g (k * 2) ([.int .i64 kd, .string ln_]) HRS.out Tryd.underlying36 rfl info_ed ?_ rfl ?_ ?_)); (exact rfl); (exact rfl))
        clear hW5 r5 c0 cg0 fg0 z1
        go_roundg (n - (k + 1))
        case measure => omega
        case rel => exact ⟨k + 1, by omega, rfl, by first | rfl | exact congrArg (Value.int .i64) (by omega) | go_num, HR6, HB6⟩
      · have z1 : (kd == 1) = false := by rw [beq_eq_false_iff_ne]; exact h1
        by_cases h2 : kd = 2
        · have z2 : (kd == 2) = true := by rw [beq_iff_eq]; exact h2
          obtain ⟨hr6, hb6⟩ := HFL.out 1 (by rw [HE.out]; simp [flipE, h2])
          have HR6 := Lib.hid hr6
          have HB6 := Lib.hid hb6
          clear h1 h2 hr6 hb6 he
          go_wp2_with ((with_reducible (refine wpList_load_cells 36 _ g (k * 2) ([.int .i64 kd, .string ln_]) HRS.out Tryd.underlying36 rfl info_ed ?_ rfl ?_ ?_)); (exact rfl); (exact rfl))
          clear hW5 r5 c0 cg0 fg0 z1 z2
          go_roundg (n - (k + 1))
          case measure => omega
          case rel => exact ⟨k + 1, by omega, rfl, by first | rfl | exact congrArg (Value.int .i64) (by omega) | go_num, HR6, HB6⟩
        · have z2 : (kd == 2) = false := by rw [beq_eq_false_iff_ne]; exact h2
          have HR6 := Lib.hid (HKP.out (by rw [HE.out]; simp [flipE, h1, h2]))
          clear h1 h2 he
          go_wp2_with ((with_reducible (refine wpList_load_cells 36 _ g (k * 2) ([.int .i64 kd, .string ln_]) HRS.out Tryd.underlying36 rfl info_ed ?_ rfl ?_ ?_)); (exact rfl); (exact rfl))
          clear hW5 r5 c0 cg0 fg0 z1 z2
          go_roundg (n - (k + 1))
          case measure => omega
          case rel => exact ⟨k + 1, by omega, rfl, by first | rfl | exact congrArg (Value.int .i64) (by omega) | go_num, HR6, HB5⟩
    · obtain rfl : k = n := by omega
      clear hlt hk
      have hrow : RowE wr g (s.map flipE) sp := by
        have h := HR.out
        rw [← HN.out, List.take_length, List.drop_length, List.append_nil] at h
        exact h
      have hro := row_own (N0 := w.heap.size) (n := k) (c := c1) hrow (by rw [HML.out, HN.out]) HNG.out hc1 hc2 (by rw [edc_len, HML.out, ← edc_len]; exact HSP.out)
      have HRD := Lib.hid (own_rd hro)
      clear hrow hro
      go_wp2_with fail
      have htd := tidy_any (some ⟨g, 0, none⟩) (s.map flipE) c1 wr HRD.out (by rw [HML.out, HN.out]; exact hl)
      rw [HML.out, HN.out] at htd
      refine htd.mono ?_
      rintro e w2 ⟨A2, c2, rfl, ho2, hb2⟩
      go_wp2_with fail
      go_ret
      exact ⟨A2, c2, rfl, own_mono ho2 HBW.out.size, ext_trans HBW.out hb2⟩
end Go.Proofs.YtmniggjadfdheaaDoor
