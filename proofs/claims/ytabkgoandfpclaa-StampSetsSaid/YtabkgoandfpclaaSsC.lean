
/- StampSorts, walked: true. Conditions: the lists of the operations have at most 2^47 bytes. (With the texts that it stands on.) -/

import Derived.Test.YtabkgoandfpclaaSs14

import Derived.Test.YtabkgoandfpclaaStAl1

/-! Plain: a sorted list of one each is the only one; what may be turned in an own row of operations. No program. -/

namespace Go.Proofs.Ytabkgoandfpclaa

set_option linter.unusedVariables false

set_option linter.unusedSimpArgs false

set_option linter.unusedSectionVars false

open Go.RowKit

theorem filter_ne {x : List OpM} {a : OpM} (h : ∀ b ∈ x, cmpS a.at_ b.at_ < 0) : x.filter (fun o => decide (o.at_ = a.at_)) = [] := filter_none (fun o ho e => by
  have := h o ho
  rw [e] at this
  exact cmpS_irr _ this)
theorem rising_unique : ∀ (x y : List OpM), (x.Pairwise fun a b => cmpS a.at_ b.at_ < 0) → (y.Pairwise fun a b => cmpS a.at_ b.at_ < 0) → (∀ t : Stm, (x.filter fun o => decide (o.at_ = t)).map OpM.bare = (y.filter fun o => decide (o.at_ = t)).map OpM.bare) → x.map OpM.bare = y.map OpM.bare
  | [], y, _, _, h => by
    cases y with
    | nil => rfl
    | cons b y =>
      have := h b.at_
      rw [List.filter_cons_of_pos (by simp)] at this
      cases this
  | a :: x, [], _, _, h => by
    have := h a.at_
    rw [List.filter_cons_of_pos (by simp)] at this
    cases this
  | a :: x, b :: y, hx, hy, h => by
    obtain ⟨hx1, hx2⟩ := List.pairwise_cons.1 hx
    obtain ⟨hy1, hy2⟩ := List.pairwise_cons.1 hy
    have mem1 : ∀ (l l' : List OpM) (o : OpM), o ∈ l → (l.filter fun p => decide (p.at_ = o.at_)).map OpM.bare = (l'.filter fun p => decide (p.at_ = o.at_)).map OpM.bare → ∃ p ∈ l', p.at_ = o.at_ := by
      intro l l' o ho he
      have h1 : o ∈ l.filter fun p => decide (p.at_ = o.at_) := List.mem_filter.2 ⟨ho, by simp⟩
      have h2 : o.bare ∈ (l.filter fun p => decide (p.at_ = o.at_)).map OpM.bare := List.mem_map.2 ⟨o, h1, rfl⟩
      rw [he] at h2
      obtain ⟨p, hp, _⟩ := List.mem_map.1 h2
      obtain ⟨hp1, hp2⟩ := List.mem_filter.1 hp
      exact ⟨p, hp1, of_decide_eq_true hp2⟩
    have hab : ¬ cmpS a.at_ b.at_ < 0 := by
      obtain ⟨p, hp, hpe⟩ := mem1 (a :: x) (b :: y) a (by simp) (h a.at_)
      intro hlt
      rcases List.mem_cons.1 hp with rfl | hp
      · rw [hpe] at hlt; exact cmpS_irr _ hlt
      · have h3 := cmpS_tr hlt (hy1 p hp)
        rw [hpe] at h3
        exact cmpS_irr _ h3
    have hba : ¬ cmpS b.at_ a.at_ < 0 := by
      obtain ⟨p, hp, hpe⟩ := mem1 (b :: y) (a :: x) b (by simp) (h b.at_).symm
      intro hlt
      rcases List.mem_cons.1 hp with rfl | hp
      · rw [hpe] at hlt; exact cmpS_irr _ hlt
      · have h3 := cmpS_tr hlt (hx1 p hp)
        rw [hpe] at h3
        exact cmpS_irr _ h3
    have he := cmpS_eq hab hba
    have h0 := h a.at_
    rw [List.filter_cons_of_pos (by simp), List.filter_cons_of_pos (by simp [he]), filter_ne hx1, he, filter_ne hy1] at h0
    have hb : a.bare = b.bare := by simpa using h0
    have hr := rising_unique x y hx2 hy2 (fun t => by
      have h1 := h t
      by_cases ht : a.at_ = t
      · subst ht
        rw [filter_ne hx1, he, filter_ne hy1]
      · rw [List.filter_cons_of_neg (by simpa using ht), List.filter_cons_of_neg (by rw [← he]; simpa using ht)] at h1
        exact h1)
    rw [List.map_cons, List.map_cons, hb, hr]
theorem IsSort.unique {os x y : List OpM} (h : IsSort os x) (k : IsSort os y) : x.map OpM.bare = y.map OpM.bare := rising_unique x y h.up k.up (fun t => (h.one t).trans (k.one t).symm)
theorem isSort_o1 (o : OpM) : IsSort [o, o] [o] := ⟨List.pairwise_singleton _ _, fun t => by
  by_cases h : o.at_ = t
  · rw [List.filter_cons_of_pos (by simpa using h), List.filter_cons_of_pos (by simpa using h)]
    rfl
  · rw [List.filter_cons_of_neg (by simpa using h), List.filter_cons_of_neg (by simpa using h), List.filter_cons_of_neg (by simpa using h)]
    rfl⟩
theorem sort_o1 {o : OpM} {outs : List OpM} (h : IsSort [o, o] outs) : outs.length = 1 := by
  have := congrArg List.length (h.unique (isSort_o1 o))
  simpa using this

/-- what may be turned in a row of operations of the call's own -/
structure MutI (N : Nat) (W : World) (g : Nat) (outs : List OpM) : Prop where
  ng : N ≤ g
  ov : ∀ i (h : i < outs.length), W.cell? ⟨g, i * 41 + 40, none⟩ = some outs[i].ov
  nm : ∀ i (h : i < outs.length), (W.cell? ⟨g, i * 41 + 7, none⟩).isSome = true ∧ W.frozen? ⟨g, i * 41 + 7, none⟩ = false
  st : ∀ i (h : i < outs.length), (outs[i].ov = .slice none 0 0 ∧ outs[i].os = []) ∨ ∃ b c, outs[i].ov = .slice (some ⟨b, 0, none⟩) outs[i].os.length c ∧ N ≤ b ∧ b ≠ g ∧ outs[i].os.length ≤ 9223372036854775807 ∧ ∀ k, k < outs[i].os.length → (W.cell? ⟨b, k * 2, none⟩).isSome = true ∧ W.frozen? ⟨b, k * 2, none⟩ = false
theorem nm_cell (o : OpM) : o.cells[7]? = some (.string o.name) := rfl
theorem MutI.of {N : Nat} {W : World} {g : Nat} {outs : List OpM} (hg : N ≤ g) (hr : RowO W g outs) (ho : ∀ o ∈ outs, OvO W N g o) : MutI N W g outs := by
  refine ⟨hg, fun i h => (hr i h 40 _ (ov_cell _ (ho _ (List.getElem_mem h)).dl)).1, fun i h => ?_, fun i h => ?_⟩
  · obtain ⟨h1, h2⟩ := hr i h 7 _ (nm_cell _)
    exact ⟨by rw [h1]; rfl, h2⟩
  · rcases (ho _ (List.getElem_mem h)).ov with h1 | ⟨b, c, h1, h2, h3, h4, h5, h6, h7⟩
    · exact .inl h1
    · refine .inr ⟨b, c, h1, h2, h3, by omega, fun k hk => ?_⟩
      obtain ⟨k1, k2⟩ := h5 (k * 2) _ (stc_get _ k hk).1
      exact ⟨by rw [k1]; rfl, k2⟩
theorem some_set {W : World} {p a : Addr} {v : Value} (h : (W.cell? a).isSome = true) : ((W.setCell p v).cell? a).isSome = true := by
  by_cases e : p = a
  · subst e
    rw [World.cell?_setCell_same' _ _ _ h]
    rfl
  · rw [World.cell?_setCell_other _ _ _ _ e]
    exact h
theorem MutI.set {N : Nat} {W : World} {g : Nat} {outs : List OpM} (h : MutI N W g outs) (p : Addr) (v : Value) (hp : p.block ≠ g ∨ ∃ i, p = ⟨g, i * 41 + 7, none⟩) : MutI N (W.setCell p v) g outs := by
  refine ⟨h.ng, fun i hi => ?_, fun i hi => ?_, fun i hi => ?_⟩
  · rw [World.cell?_setCell_other _ _ _ _ (fun e => by
      rcases hp with h1 | ⟨j, h1⟩
      · exact h1 (by rw [e])
      · rw [h1] at e
        injection e
        omega)]
    exact h.ov i hi
  · obtain ⟨h1, h2⟩ := h.nm i hi
    exact ⟨some_set h1, by rw [World.frozen?_setCell]; exact h2⟩
  · rcases h.st i hi with h1 | ⟨b, c, h1, h2, h3, h5, h4⟩
    · exact .inl h1
    · exact .inr ⟨b, c, h1, h2, h3, h5, fun k hk => ⟨some_set (h4 k hk).1, by rw [World.frozen?_setCell]; exact (h4 k hk).2⟩⟩
end Go.Proofs.Ytabkgoandfpclaa

/-! StampSorts, walked: true. Conditions: the lists of the operations have at most 2^47 bytes. -/

namespace Go.Proofs.Ytabkgoandfpclaa

set_option linter.unusedVariables false

set_option linter.unusedSimpArgs false

set_option linter.unusedSectionVars false

open Go.RowKit

section

variable {P : Program} {ops : Array Oper} {rest : List Oper} {o : Oper} {a : Act} {w : World} {Q : Exit → Act → World → Prop}

theorem wpList_build2_w (hw : Region.wanted o (yielded ops a.tmps) = true) (t e : TypeId) (x y : Operand) (ho : o.op = .buildSlice t 2 #[(0, x), (1, y)]) (cs ds : List Value) (hx : a.eval x = .agg cs.toArray) (hy : a.eval y = .agg ds.toArray)
    (hu : P.underlying t = some (.slice e)) (hi : (P.info? e).map (fun i => (i.size, i.zero.isSome)) = some (cs.length, true)) (hl : ds.length = cs.length) (hpos : 0 < cs.length) (hs : 2 * cs.length ≤ 2 ^ 24)
    (h : wpList P ops Q rest (a.put o.dst (.slice (some ⟨w.heap.size, 0, none⟩) 2 2)) (w.alloc (.cells (cs ++ ds).toArray e))) : wpList P ops Q (o :: rest) a w := by
  cases hie : P.info? e with
  | none => simp [hie] at hi
  | some ie =>
    simp only [hie, Option.map_some, Option.some.injEq, Prod.mk.injEq] at hi
    obtain ⟨z, hz⟩ := Option.isSome_iff_exists.1 hi.2
    refine wpList_wanted hw fun _ hK => wp_buildSlice t e 2 #[(0, x), (1, y)] ho (cs ++ ds).toArray ie z hu hie hz (by rw [hi.1]; omega) (by rw [hi.1]; omega) ?_ (hK _ _ h)
    have e1 : (#[(0, x), (1, y)].map fun (i, x) => (i, a.eval x)).toList = [(0, .agg cs.toArray), (1, .agg ds.toArray)] := by simp [hx, hy]
    rw [e1]
    obtain ⟨p, q, hq, hp, hql⟩ : ∃ p q : List Value, ((Array.range (2 * ie.size)).map (z.cells[· % z.cells.size]!)) = ([] ++ p ++ q).toArray ∧ p.length = cs.length ∧ q.length = cs.length := by
      obtain ⟨l, hl⟩ : ∃ l, ((Array.range (2 * ie.size)).map (z.cells[· % z.cells.size]!)) = l := ⟨_, rfl⟩
      have hsz : l.toList.length = 2 * cs.length := by rw [← hl, ← hi.1]; simp
      refine ⟨l.toList.take cs.length, l.toList.drop cs.length, ?_, by rw [List.length_take, hsz]; omega, by rw [List.length_drop, hsz]; omega⟩
      rw [hl, List.nil_append, List.take_append_drop, Array.toArray_toList]
    rw [hq, fill_one _ [] p q cs _ 0 (by simp [hi.1]) hp, List.nil_append]
    have e2 : cs ++ q = cs ++ q ++ [] := by simp
    rw [e2, fill_one _ cs q [] ds [] 1 (by simp [hi.1, hl]) (by omega), List.append_nil]
    simp [Instr.fill]
end

theorem info_opb' : (Try.prog.info? 33).map (fun i => (i.size, i.zero.isSome)) = some (41, true) := by kernel_rfl
theorem o1_len : o1.cells.length = 41 := o1.cells_len rfl
theorem rd_two (w : World) : Rd (w.alloc (.cells (o1.cells ++ o1.cells).toArray 33)) (some ⟨w.heap.size, 0, none⟩) (oc [o1, o1]) := by
  have e : oc [o1, o1] = o1.cells ++ o1.cells := by simp [oc]
  rw [e]
  exact Rd.new w _ _

set_option maxRecDepth 100000 in
set_option maxHeartbeats 8000000 in
theorem stampSorts_any (A : Option Addr) (c : Nat) (os : List OpM) (w : World) (hr : Rd w A (oc os)) (hin : ∀ o ∈ os, OpIn w o) (hsm : ∀ o ∈ os, o.os.length * 16 ≤ 140737488355328) :
    Calls Try.prog 9 #[.slice A os.length c] w fun e w' => e = .returned (.bool true) ∧ Below w.heap.size w w' := by
  have mixed : Try.prog.follows .mixedOrders = true := by kernel_rfl
  obtain ⟨n, hnn⟩ : ∃ n, os.length = n := ⟨_, rfl⟩
  have HN := Lib.hid hnn
  have HRD := Lib.hid hr
  have HIN := Lib.hid hin
  have HSM := Lib.hid hsm
  rw [hnn]
  clear hr hin hsm hnn
  go_enter Try.func9, Try.ntmps9
  go_wp2_with fail
  refine (alive_any w).mono ?_
  rintro e w1 ⟨rfl, hb1⟩
  have HB1 := Lib.hid hb1
  clear hb1
  go_wp2_with fail
  refine (first_any w1).mono ?_
  rintro e w2 ⟨rfl, hb2⟩
  have HB2 := Lib.hid (HB1.out.trans (hb2.mono HB1.out.size))
  clear hb2
  unfold OpM.val
  go_wp2_with fail
  refine (first_any w2).mono ?_
  rintro e w3 ⟨rfl, hb3⟩
  have HB3 := Lib.hid (HB2.out.trans (hb3.mono HB2.out.size))
  clear hb3
  unfold OpM.val
  obtain ⟨w4, hw4⟩ : ∃ W, w3.alloc (.cells (o1.cells ++ o1.cells).toArray 33) = W := ⟨_, rfl⟩
  have HR4 : Hid (Rd w4 (some ⟨w3.heap.size, 0, none⟩) (oc [o1, o1])) := Lib.hid (by rw [← hw4]; exact rd_two w3)
  have HB4 : Hid (Below w.heap.size w w4) := Lib.hid (by rw [← hw4]; exact HB3.out.alloc HB3.out.size _)
  have HSO := Lib.hid (sort_any (some ⟨w3.heap.size, 0, none⟩) 2 [o1, o1] w4 HR4.out (fun o ho => by simp at ho; rw [ho]; exact opIn_o1 _) (fun o ho => by simp at ho; rw [ho]; decide) (by decide))
  have hl2 : ([o1, o1] : List OpM).length = 2 := rfl
  rw [hl2] at HSO
  clear hl2
  have HW4 := Lib.hid hw4
  clear hw4
  go_wp2_with (refine wpList_build2_w rfl 53 33 _ _ rfl o1.cells o1.cells rfl rfl Try.underlying53 (by rw [o1_len]; exact info_opb') rfl (by rw [o1_len]; decide) (by rw [o1_len]; decide) ?_; rw [HW4.out])
  refine HSO.out.mono ?_
  rintro e w5 ⟨v, outs, rfl, hov, hsv⟩
  obtain ⟨A5, c5, hv5, _, _, _⟩ := hov.v
  have HB5 := Lib.hid (HB4.out.trans (hov.bel.mono HB4.out.size))
  have hl5 := sort_o1 hsv
  rw [hl5] at hv5
  subst hv5
  clear hov hsv hl5 HSO
  by_cases h300 : 300 < n
  · have hz3 : (300 : Int) < (n : Int) := by omega
    go_wp2_with fail
    go_ret
    exact ⟨rfl, HB5.out⟩
  have hz3 : ¬ (300 : Int) < (n : Int) := by omega
  have HDL : Hid (∀ o ∈ os, o.data.length = 32) := Lib.hid (fun o ho => (HIN.out o ho).len)
  have HOV : Hid (∀ o ∈ os, ∃ A n c, o.ov = .slice A n c) := Lib.hid (fun o ho => by obtain ⟨A, c, h, _⟩ := (HIN.out o ho).ov; exact ⟨A, _, c, h⟩)
  have HCL : Hid ((oc os).length = n * 41) := Lib.hid (by rw [oc_len HDL.out, HN.out])
  have HC1 := Lib.hid (oc_one os HOV.out)
  obtain ⟨w6, hw6⟩ : ∃ W, w5.alloc (.cells #[] 33) = W := ⟨_, rfl⟩
  have HO6 : Hid (w6.ownsRow w5.heap.size 33 41 (.slice (some ⟨w5.heap.size, 0, none⟩) 0 0) 0 []) := Lib.hid (by rw [← hw6]; exact World.ownsRow_made w5 #[] 0 (Nat.le_refl _) (by unfold maxLen; omega) rfl)
  have HB6 : Hid (Below w.heap.size w w6) := Lib.hid (by rw [← hw6]; exact HB5.out.alloc HB5.out.size _)
  have HS6 : Hid (w6.heap.size = w5.heap.size + 1) := Lib.hid (by rw [← hw6]; simp)
  have HW6 := Lib.hid hw6
  have HR6 := Lib.hid (HRD.out.below HB6.out)
  clear hw6
  go_wp2_with (at_builtin; rw [HW6.out]; refine wpList_append_rd _ rfl _ _ 53 rfl w5.heap.size 33 (.agg op0.cells.toArray) 41 128 Try.underlying53 info_op3 rfl (by decide) (.slice (some ⟨w5.heap.size, 0, none⟩) 0 0) 0 [] rfl HO6.out A n c (oc os) rfl HCL.out HR6.out HC1.out (by unfold maxLen; omega) (by omega) (by have := HS6.out; omega) ?_; intro v7 w7 ho7 hg7 hvb7; obtain ⟨A7, c7, e7, _⟩ := own_slice ho7; subst e7)
  have HB7 : Hid (Below w.heap.size w w7) := Lib.hid (below_grown_own HB6.out (by
    refine ⟨HO6.out.1, ?_⟩
    rcases HO6.out.2 with h | ⟨g, cap, cur, h1, h2, h3⟩
    · exact .inl h
    · exact .inr ⟨g, cap, cur, h1, by have := HB5.out.size; omega, h3⟩) hg7 HB6.out.size)
  have HWAS : Hid (Rd w7 A7 (oc os)) := Lib.hid (by
    have h8 := own_rd ho7
    rw [List.nil_append] at h8
    exact h8)
  have HS7 := Lib.hid (sort_any A c os w7 (HRD.out.below HB7.out) (fun o ho => (HIN.out o ho).below HB7.out) HSM.out (by rw [HN.out]; omega))
  rw [HN.out] at HS7
  clear hg7 hvb7 ho7
  refine HS7.out.mono ?_
  rintro e w8 ⟨v8, outs8, rfl, hov8, hsv8⟩
  obtain ⟨A8, c8, hv8, hl8, hm8, hcase⟩ := hov8.v
  subst hv8
  have HB78 := Lib.hid hov8.bel
  have HB8 := Lib.hid (HB7.out.trans (hov8.bel.mono HB7.out.size))
  have HSV := Lib.hid hsv8
  have HCASE := Lib.hid hcase
  have HRS := Lib.hid (rsort_any A c os w8 (HRD.out.below HB8.out) (fun o ho => (HIN.out o ho).below HB8.out) (by rw [HN.out]; omega))
  rw [HN.out] at HRS
  obtain ⟨m, hm⟩ : ∃ m, outs8.length = m := ⟨_, rfl⟩
  have HM := Lib.hid hm
  rw [hm] at hl8 ⊢
  clear hov8 hsv8 hcase HS7 hm
  go_wp2_with fail
  refine HRS.out.mono ?_
  rintro e w9 ⟨B9, d9, outs9, rfl, hr9, hmem9, hsv9, hb9⟩
  have HB9 := Lib.hid hb9
  have HSA := Lib.hid (sameAll_any A8 B9 c8 d9 outs8 outs9 w9 (by
    rcases HCASE.out with h | ⟨g, h1, h2, h3, h4, h5⟩
    · rw [h]; exact Rd.nil
    · subst h1
      exact (h4.rd (fun o ho => (h5 o ho).dl)).below hb9) hr9 (by
    rcases HCASE.out with h | ⟨g, h1, h2, h3, h4, h5⟩
    · rw [h]; exact fun o ho => by cases ho
    · exact fun o ho => (h5 o ho).opIn.below hb9) (fun o ho => (HIN.out o (hmem9 o ho)).below (HB8.out.trans (hb9.mono HB8.out.size))) (HSV.out.unique hsv9) (by rw [HM.out]; omega))
  rw [HM.out] at HSA
  clear hr9 hmem9 hsv9 hb9 HRS
  go_wp2_with fail
  refine HSA.out.mono ?_
  rintro e w10 ⟨rfl, hb10⟩
  have HB10 : Hid (Below w7.heap.size w7 w10) := Lib.hid (HB78.out.trans ((HB9.out.trans (hb10.mono HB9.out.size)).mono HB78.out.size))
  have HEND : Hid (∀ W, Below w7.heap.size w7 W → Calls Try.prog 34 #[.slice A n c, .slice A7 n c7] W fun e w' => e = .returned (.bool true) ∧ Below W.heap.size W w') := Lib.hid (fun W hW => by
    have hb : Below w.heap.size w W := HB7.out.trans (hW.mono HB7.out.size)
    have h6 := sameAll_any A A7 c c7 os os W (HRD.out.below hb) (HWAS.out.below hW) (fun o ho => (HIN.out o ho).below hb) (fun o ho => (HIN.out o ho).below hb) rfl (by rw [HN.out]; omega)
    rw [HN.out] at h6
    exact h6)
  have HB810 : Below w8.heap.size w8 w10 := HB9.out.trans (hb10.mono HB9.out.size)
  have HMUT : Hid (outs8 = [] ∨ ∃ g, A8 = some ⟨g, 0, none⟩ ∧ MutI w7.heap.size w10 g outs8) := Lib.hid (by
    rcases HCASE.out with h | ⟨g, h1, h2, h3, h4, h5⟩
    · exact .inl h
    · exact .inr ⟨g, h1, MutI.of h2 (h4.keep (HB810.block g h3)) (fun o ho => (h5 o ho).keep HB810.size (fun b _ hl => HB810.block b hl))⟩)
  clear hb10 HSA HB810
  rcases HMUT.out with h0 | ⟨g, hg1, hg2⟩
  · have hm0 : m = 0 := by rw [← HM.out, h0]; rfl
    subst hm0
    clear h0 HMUT
    go_wp2_with fail
    go_loopg [32] 0 (fun gk_ s wr => s = .int .i64 0 ∧ wr = w10)
    case atStart => exact ⟨rfl, rfl⟩
    case round =>
      obtain ⟨rfl, rfl⟩ := hrel
      go_wp2_with fail
      refine (HEND.out wr HB10.out).mono ?_
      rintro e w11 ⟨rfl, hb11⟩
      have HB11 := Lib.hid (HB7.out.trans ((HB10.out.trans (hb11.mono HB10.out.size)).mono HB7.out.size))
      clear hb11
      go_wp2_with fail
      go_ret
      exact ⟨rfl, HB11.out⟩
  · subst hg1
    have HMU := Lib.hid hg2
    have HNG := Lib.hid hg2.ng
    clear HMUT hg2
    go_wp2_with fail
    go_loopg [32] m (fun gk_ s wr => ∃ i : Nat, s = .int .i64 (i : Int) ∧ i ≤ m ∧ m - i ≤ gk_ ∧ Hid (Below w7.heap.size w7 wr) ∧ Hid (MutI w7.heap.size wr g outs8))
    case atStart => exact ⟨0, rfl, by omega, by omega, HB10, HMU⟩
    case round =>
      clear HMU HB10
      obtain ⟨i, rfl, hi, hgk, HB10, HMU⟩ := hrel
      by_cases hlt : i < m
      · have hltz : (i : Int) < (m : Int) := by omega
        have hio : i < outs8.length := by rw [HM.out]; exact hlt
        have q1 := HMU.out.ov i hio
        obtain ⟨o, ho⟩ : ∃ o, o = outs8[i]'hio := ⟨_, rfl⟩
        have HO := Lib.hid ho
        rw [← ho] at q1
        obtain ⟨ov, hov⟩ : ∃ ov, ov = o.ov := ⟨_, rfl⟩
        have HOVV := Lib.hid hov
        have hst : (ov = .slice none 0 0 ∧ o.os = []) ∨ ∃ b c, ov = .slice (some ⟨b, 0, none⟩) o.os.length c ∧ w7.heap.size ≤ b ∧ b ≠ g ∧ o.os.length ≤ 9223372036854775807 := by
          rcases HMU.out.st i hio with h1 | ⟨b, c, h1, h2, h3, h5, _⟩
          · left; rw [hov, ho]; exact h1
          · right; exact ⟨b, c, by rw [hov, ho]; exact h1, h2, h3, by rw [ho]; exact h5⟩
        rw [← hov] at q1
        have HIO := Lib.hid hio
        have HQ : Hid (∀ W, MutI w7.heap.size W g outs8 → W.cell? ⟨g, i * 41 + 40, none⟩ = some ov) := Lib.hid (fun W hW => by
          have := hW.ov i HIO.out
          rw [← HO.out, ← HOVV.out] at this
          exact this)
        have hend : ∀ W, Below w7.heap.size w7 W → MutI w7.heap.size W g outs8 → Below w7.heap.size w7 (W.setCell ⟨g, i * 41 + 7, none⟩ (.string ⟨#[116, 117, 114, 110, 101, 100]⟩)) ∧ MutI w7.heap.size (W.setCell ⟨g, i * 41 + 7, none⟩ (.string ⟨#[116, 117, 114, 110, 101, 100]⟩)) g outs8 := fun W h1 h2 => ⟨h1.setCell HNG.out _, h2.set _ _ (.inr ⟨i, rfl⟩)⟩
        have HENDI := Lib.hid hend
        clear hov ho hend
        rcases hst with ⟨hs1, hs2⟩ | ⟨b, cb, hs1, hs2, hs3, hs4⟩
        · subst hs1
          go_wp2_with fail
          obtain ⟨w11, hw11⟩ : ∃ x, x = wr := ⟨_, rfl⟩
          subst hw11
          go_loopg [41] 0 (fun g2 s wr => s = .int .i64 0 ∧ wr = w11)
          case atStart => exact ⟨rfl, rfl⟩
          case round =>
            obtain ⟨rfl, rfl⟩ := hrel
            obtain ⟨hn1, hn2⟩ := HMU.out.nm i HIO.out
            obtain ⟨u7, hu7⟩ := Option.isSome_iff_exists.1 hn1
            have HNX := Lib.hid (HENDI.out wr HB10.out HMU.out)
            clear hn1 q1
            go_wp2_with fail
            go_roundg (m - (i + 1))
            case measure => omega
            case rel => exact ⟨i + 1, by go_num, by omega, Nat.le_refl _, Lib.hid HNX.out.1, Lib.hid HNX.out.2⟩
        · obtain ⟨l, hl⟩ : ∃ l, o.os.length = l := ⟨_, rfl⟩
          rw [hl] at hs1 hs4
          subst hs1
          have HL := Lib.hid hl
          have HBN := Lib.hid hs2
          have HBG := Lib.hid hs3
          clear hl hs3
          go_wp2_with fail
          obtain ⟨w11, hw11⟩ : ∃ x, x = wr := ⟨_, rfl⟩
          subst hw11
          go_loopg [41] l (fun g2 s wr => ∃ k : Nat, s = .int .i64 (k : Int) ∧ k ≤ l ∧ l - k ≤ g2 ∧ Hid (Below w7.heap.size w7 wr) ∧ Hid (MutI w7.heap.size wr g outs8))
          case atStart => exact ⟨0, rfl, by omega, by omega, HB10, HMU⟩
          case round =>
            clear HB10 HMU q1
            obtain ⟨k, rfl, hk, hg2, HB10, HMU⟩ := hrel
            have q1 := HQ.out wr HMU.out
            by_cases hlt2 : k < l
            · have hltz2 : (k : Int) < (l : Int) := by omega
              have hst : (∃ u, wr.cell? ⟨b, k * 2, none⟩ = some u) ∧ wr.frozen? ⟨b, k * 2, none⟩ = false := by
                rcases HMU.out.st i HIO.out with ⟨h1, h2⟩ | ⟨b', c', h1, h2, h3, h5, h4⟩
                · rw [← HO.out, ← HOVV.out] at h1
                  cases h1
                · rw [← HO.out, ← HOVV.out] at h1
                  cases h1
                  obtain ⟨k1, k2⟩ := h4 k (by rw [← HO.out, HL.out]; exact hlt2)
                  exact ⟨Option.isSome_iff_exists.1 k1, k2⟩
              obtain ⟨⟨u, hu1⟩, hu2⟩ := hst
              have HNX : Hid (Below w7.heap.size w7 (wr.setCell ⟨b, k * 2, none⟩ (.int .i64 99)) ∧ MutI w7.heap.size (wr.setCell ⟨b, k * 2, none⟩ (.int .i64 99)) g outs8) := Lib.hid ⟨HB10.out.setCell HBN.out _, HMU.out.set _ _ (.inl HBG.out)⟩
              go_wp2_with fail
              go_roundg (l - (k + 1))
              case measure => omega
              case rel => exact ⟨k + 1, by go_num, by omega, Nat.le_refl _, Lib.hid HNX.out.1, Lib.hid HNX.out.2⟩
            · have hltz2 : ¬ (k : Int) < (l : Int) := by omega
              obtain ⟨hn1, hn2⟩ := HMU.out.nm i HIO.out
              obtain ⟨u7, hu7⟩ := Option.isSome_iff_exists.1 hn1
              have HNX := Lib.hid (HENDI.out wr HB10.out HMU.out)
              clear hn1 q1
              go_wp2_with fail
              go_roundg (m - (i + 1))
              case measure => omega
              case rel => exact ⟨i + 1, by go_num, by omega, Nat.le_refl _, Lib.hid HNX.out.1, Lib.hid HNX.out.2⟩
      · have hltz : ¬ (i : Int) < (m : Int) := by omega
        go_wp2_with fail
        refine (HEND.out wr HB10.out).mono ?_
        rintro e w11 ⟨rfl, hb11⟩
        have HB11 := Lib.hid (HB7.out.trans ((HB10.out.trans (hb11.mono HB10.out.size)).mono HB7.out.size))
        clear hb11
        go_wp2_with fail
        go_ret
        exact ⟨rfl, HB11.out⟩
end Go.Proofs.Ytabkgoandfpclaa
