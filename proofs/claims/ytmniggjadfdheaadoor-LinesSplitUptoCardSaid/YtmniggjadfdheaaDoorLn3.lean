
/- Edits in memory; tidy. -/

import Derived.Test.YtmniggjadfdheaaDoorLn2

namespace Go.Proofs.YtmniggjadfdheaaDoor

set_option linter.unusedVariables false

set_option linter.unusedSimpArgs false

set_option linter.unusedSectionVars false

open Go.RowKit

abbrev EdM := Ed ByteArray
def Ed.cells (e : EdM) : List Value := [.int .i64 e.kind, .string e.line]
def edc (s : List EdM) : List Value := s.flatMap Ed.cells
theorem edc_len (s : List EdM) : (edc s).length = s.length * 2 := flat_length s (fun _ _ => rfl)
theorem edc_app (s t : List EdM) : edc (s ++ t) = edc s ++ edc t := by simp [edc]
theorem edc_one (e : EdM) : edc [e] = [.int .i64 e.kind, .string e.line] := rfl
theorem edc_cell (s : List EdM) : ∀ u ∈ edc s, u.oneCell' = true := flat_one s (fun e _ v hv => by
  simp only [Ed.cells, List.mem_cons, List.not_mem_nil, or_false] at hv
  rcases hv with rfl | rfl <;> rfl)
theorem rd_ed {w : World} {b off : Nat} {s : List EdM} (hr : Rd w (some ⟨b, off, none⟩) (edc s)) (i : Nat) (hi : i < s.length) : w.rangeAt b (off + i * 2) s[i].cells := rd_flat hr (fun _ _ => rfl) i hi
theorem info_ed {a b : Value} : (Tryd.prog.info? 36).map (·.size) = some ([a, b] : List Value).length := by kernel_rfl
theorem info_ed2 : (Tryd.prog.info? 36).map (fun i => (i.zero, i.size, i.bytes)) = some (some (.agg #[.int .i64 0, .string ⟨#[]⟩]), 2, 24) := by kernel_rfl
theorem info_ed1 : (Tryd.prog.info? 36).map (fun i => (i.size, i.zero.isSome)) = some (2, true) := by kernel_rfl
theorem info_eds : (Tryd.prog.info? 36).map (·.size) = some 2 := by kernel_rfl

/-- two rows of the call's own, not one another -/
structure Two (w0 W : World) (T : TypeId) (sz : Nat) (A1 : Option Addr) (n1 c1 : Nat) (xs : List Value) (A2 : Option Addr) (n2 c2 : Nat) (ys : List Value) : Prop where
  o1 : W.ownsRow w0.heap.size T sz (.slice A1 n1 c1) n1 xs
  o2 : W.ownsRow w0.heap.size T sz (.slice A2 n2 c2) n2 ys
  ne : ∀ b, (Value.slice A1 n1 c1).ownBlock = some b → (Value.slice A2 n2 c2).ownBlock ≠ some b
  bel : Below w0.heap.size w0 W
section

variable {w0 W W' : World} {T : TypeId} {sz : Nat} {A1 A2 A' : Option Addr} {n1 c1 n2 c2 n' c' : Nat} {xs ys zs : List Value}

theorem Two.below (h : Two w0 W T sz A1 n1 c1 xs A2 n2 c2 ys) (hb : Below W.heap.size W W') : Two w0 W' T sz A1 n1 c1 xs A2 n2 c2 ys :=
  ⟨own_below h.o1 hb, own_below h.o2 hb, h.ne, ext_trans h.bel hb⟩
theorem Two.swap (h : Two w0 W T sz A1 n1 c1 xs A2 n2 c2 ys) : Two w0 W T sz A2 n2 c2 ys A1 n1 c1 xs :=
  ⟨h.o2, h.o1, fun b h1 h2 => h.ne b h2 h1, h.bel⟩
theorem Two.app1 (h : Two w0 W T sz A1 n1 c1 xs A2 n2 c2 ys) (hg : W.grownBy W' (Value.slice A1 n1 c1).ownBlock) (ho : W'.ownsRow w0.heap.size T sz (.slice A' n' c') n' zs)
    (hv : (Value.slice A' n' c').ownBlock = (Value.slice A1 n1 c1).ownBlock ∨ (Value.slice A' n' c').ownBlock = some W.heap.size) : Two w0 W' T sz A' n' c' zs A2 n2 c2 ys := by
  refine ⟨ho, own_keep h.o2 fun b hb hl => hg.block b hl (fun e => h.ne b e.symm hb), fun b hb h2 => ?_, ?_⟩
  · rcases hv with hv | hv
    · exact h.ne b (by rw [← hv]; exact hb) h2
    · rw [hv] at hb
      have := (h.o2.lt b h2).2
      have := Option.some.inj hb
      omega
  · cases he : (Value.slice A1 n1 c1).ownBlock with
    | none => rw [he] at hg; exact h.bel.trans ((grown_none hg).mono h.bel.size)
    | some i => rw [he] at hg; exact bel_grown h.bel h.bel.size hg (h.o1.lt i he).1
theorem Two.nil2 (h : Two w0 W T sz A1 n1 c1 xs A2 n2 c2 ys) : Two w0 W T sz A1 n1 c1 xs none 0 0 [] :=
  ⟨h.o1, World.ownsRow_nil _ _ _ _, fun b _ h2 => (by cases h2), h.bel⟩
end

theorem edc_snoc (s : List EdM) (e : EdM) : edc (s ++ [e]) = edc s ++ e.cells := by rw [edc_app]; rfl

set_option maxRecDepth 100000 in
set_option maxHeartbeats 4000000 in
theorem tidy_any (A : Option Addr) (s : List EdM) (c : Nat) (w : World) (hr : Rd w A (edc s)) (hl : s.length ≤ 1000000) :
    Calls Tryd.prog 30 #[.slice A s.length c] w fun e w' => ∃ A' c', e = .returned (.slice A' s.length c') ∧ w'.ownsRow w.heap.size 36 2 (.slice A' s.length c') s.length (edc (tidyP s)) ∧ Below w.heap.size w w' := by
  have HR := Lib.hid hr
  have HT0 : Hid (Two w w 36 2 none 0 0 (edc []) none 0 0 (edc [])) := Lib.hid ⟨World.ownsRow_nil _ _ _ _, World.ownsRow_nil _ _ _ _, fun b h => (by cases h), Below.refl _ _⟩
  clear hr
  go_enter Tryd.func30, Tryd.ntmps30
  go_wp2_with fail
  go_loopg [3, 4, 9] (s.length * 1) (fun gk_ v u i wr => ∃ (k : Nat) (A1 : Option Addr) (n1 c1 : Nat) (A2 : Option Addr) (n2 c2 : Nat) (out adds : List EdM), k ≤ s.length ∧ gk_ = s.length - k ∧ v = .slice A1 n1 c1 ∧ u = .slice A2 n2 c2 ∧ i = .int .i64 (k : Int) ∧ n1 + n2 = k ∧
    Hid (n1 = out.length ∧ n2 = adds.length) ∧ Hid (tidyG (s.drop k) out adds = tidyP s) ∧ Hid (Two w wr 36 2 A1 n1 c1 (edc out) A2 n2 c2 (edc adds)))
  case atStart => exact ⟨0, none, 0, 0, none, 0, 0, [], [], by omega, by omega, rfl, rfl, rfl, rfl, Lib.hid ⟨rfl, rfl⟩, Lib.hid rfl, HT0⟩
  case round =>
  clear HT0
  obtain ⟨k, A1, n1, c1, A2, n2, c2, out, adds, hk, rfl, rfl, rfl, rfl, hn, HN, HG, HT⟩ := hrel
  have HNK := Lib.hid hn
  have hnle : n1 + n2 ≤ k := by omega
  clear hn
  by_cases hlt : k < s.length
  · have i1 : (k : Int) < (s.length : Int) := by omega
    have hrd := HR.out.below HT.out.bel
    obtain ⟨b, off, hA, _⟩ := hrd.all (by rw [edc_len]; omega)
    rw [hA] at hrd
    have HA := Lib.hid hA
    clear hA
    have RS := rd_ed hrd k hlt
    obtain ⟨⟨kd, ln_⟩, he⟩ : ∃ e, s[k] = e := ⟨_, rfl⟩
    rw [he] at RS
    have HE : Hid (s.drop k = ⟨kd, ln_⟩ :: s.drop (k + 1)) := Lib.hid (by rw [← he, List.drop_eq_getElem_cons hlt])
    have HRS : Hid (wr.rangeAt b (off + k * 2) [.int .i64 kd, .string ln_]) := Lib.hid RS
    obtain ⟨W5, hW5⟩ : ∃ W, wr.alloc (.cells #[.int .i64 kd, .string ln_] 36) = W := ⟨_, rfl⟩
    obtain ⟨r5, b5, s5⟩ := new_row hW5
    have HT5 := Lib.hid (HT.out.below b5)
    have c0 := row_cell r5 0
    obtain ⟨W6, hW6⟩ : ∃ W, W5.alloc (.cells #[.int .i64 kd, .string ln_] 36) = W := ⟨_, rfl⟩
    obtain ⟨r6, b6, s6⟩ := new_row hW6
    have HT6 := Lib.hid (HT5.out.below b6)
    have HR6 : Hid (Rd W6 (some ⟨W5.heap.size, 0, none⟩) [.int .i64 kd, .string ln_]) := Lib.hid (range_rd (range_of_row (cs := [.int .i64 kd, .string ln_]) r6))
    have HBA := Lib.hid HT6.out.bel.size
    have HBA5 := Lib.hid HT5.out.bel.size
    have HC : Hid (([.int .i64 kd, .string ln_] : List Value) = (⟨kd, ln_⟩ : EdM).cells) := Lib.hid rfl
    clear hrd RS he b5 s5 r6 b6 s6
    rw [HA.out]
    by_cases h2 : kd = 2
    · have z2 : (kd == 2) = true := by rw [beq_iff_eq]; exact h2
      have H2 := Lib.hid h2
      clear h2
      go_wp2_with (first
        | ((with_reducible (refine wpList_load_cells 36 _ b (off + k * 2) ([.int .i64 kd, .string ln_]) HRS.out Tryd.underlying36 rfl info_ed ?_ rfl ?_ ?_)); (exact rfl); (exact rfl))
        | (refine wpList_load_row rfl _ _ rfl _ rfl _ _ _ _ r5 Tryd.underlying36 rfl info_eds ?_)
        | (at_builtin; refine wpList_append_rd _ rfl _ _ 24 rfl w.heap.size 36 _ 2 24 Tryd.underlying24 info_ed2 rfl (by decide) (.slice A2 n2 c2) n2 _ rfl HT6.out.o2 _ 1 1 [.int .i64 kd, .string ln_] rfl rfl HR6.out (edc_cell [⟨kd, ln_⟩]) (by unfold maxLen; omega) (by omega) HBA.out ?_; intro v7 w7 ho7 hg7 hvb7; obtain ⟨A7, c7, e7, _⟩ := own_slice ho7; subst e7; have HT7 := Lib.hid ((HT6.out.swap.app1 hg7 ho7 hvb7).swap); clear ho7 hg7 hvb7))
      rw [← HA.out]
      clear hW5 r5 c0 hW6
      go_roundg (s.length - (k + 1))
      case measure => omega
      case rel => exact ⟨k + 1, A1, n1, c1, A7, n2 + 1, c7, out, adds ++ [⟨kd, ln_⟩], by omega, rfl, rfl, rfl, by first | rfl | exact congrArg (Value.int .i64) (by omega) | go_num, by have := HNK.out; omega, Lib.hid (by have := HN.out; simp; omega), Lib.hid (by
          have h := HG.out
          rw [HE.out] at h
          rw [← h]
          simp only [tidyG]
          rw [if_pos H2.out]), Lib.hid (by rw [edc_snoc]; exact HT7.out)⟩
    · have z2 : (kd == 2) = false := by rw [beq_eq_false_iff_ne]; exact h2
      have H2 := Lib.hid h2
      clear h2
      by_cases h1 : kd = 1
      · have z1 : (kd != 1) = false := by rw [bne_eq_false_iff_eq]; exact h1
        have H1 := Lib.hid h1
        clear h1
        go_wp2_with (first
          | ((with_reducible (refine wpList_load_cells 36 _ b (off + k * 2) ([.int .i64 kd, .string ln_]) HRS.out Tryd.underlying36 rfl info_ed ?_ rfl ?_ ?_)); (exact rfl); (exact rfl))
          | (refine wpList_load_row rfl _ _ rfl _ rfl _ _ _ _ r5 Tryd.underlying36 rfl info_eds ?_)
          | (at_builtin; refine wpList_append_rd _ rfl _ _ 24 rfl w.heap.size 36 _ 2 24 Tryd.underlying24 info_ed2 rfl (by decide) (.slice A1 n1 c1) n1 _ rfl HT6.out.o1 _ 1 1 [.int .i64 kd, .string ln_] rfl rfl HR6.out (edc_cell [⟨kd, ln_⟩]) (by unfold maxLen; omega) (by omega) HBA.out ?_; intro v7 w7 ho7 hg7 hvb7; obtain ⟨A7, c7, e7, _⟩ := own_slice ho7; subst e7; have HT7 := Lib.hid (HT6.out.app1 hg7 ho7 hvb7); clear ho7 hg7 hvb7))
        rw [← HA.out]
        clear hW5 r5 c0 hW6
        go_roundg (s.length - (k + 1))
        case measure => omega
        case rel => exact ⟨k + 1, A7, n1 + 1, c7, A2, n2, c2, out ++ [⟨kd, ln_⟩], adds, by omega, rfl, rfl, rfl, by first | rfl | exact congrArg (Value.int .i64) (by omega) | go_num, by have := HNK.out; omega, Lib.hid (by have := HN.out; simp; omega), Lib.hid (by
            have h := HG.out
            rw [HE.out] at h
            rw [← h]
            simp only [tidyG]
            rw [if_neg H2.out, if_neg (by rw [H1.out]; decide)]), Lib.hid (by rw [edc_snoc]; exact HT7.out)⟩
      · have z1 : (kd != 1) = true := by rw [bne_iff_ne]; exact h1
        have H1 := Lib.hid h1
        clear h1
        have HLA : Hid ((edc adds).length = n2 * 2) := Lib.hid (by rw [edc_len, HN.out.2])
        have HRA := Lib.hid (own_rd HT5.out.o2)
        have HNX : Hid (∀ (A7 : Option Addr) (c7 : Nat) (w7 : World), W5.grownBy w7 (Value.slice A1 n1 c1).ownBlock → Hid (Two w w7 36 2 A7 (n1 + n2) c7 (edc out ++ edc adds) none 0 0 []) →
            w7.heap[wr.heap.size]? = some (.cells #[.int .i64 kd, .string ln_] 36 (0, 0)) ∧ ∃ W8, Hid (Two w W8 36 2 A7 (n1 + n2) c7 (edc out ++ edc adds) none 0 0 []) ∧ w7.alloc (.cells #[.int .i64 kd, .string ln_] 36) = W8 ∧ Hid (Rd W8 (some ⟨w7.heap.size, 0, none⟩) [.int .i64 kd, .string ln_]) ∧ Hid (w.heap.size ≤ W8.heap.size)) := Lib.hid (by
          intro A7 c7 w7 hg ht
          have hlt5 := (Array.getElem?_eq_some_iff.1 r5).1
          have hq : w7.heap[wr.heap.size]? = W5.heap[wr.heap.size]? := hg.block _ hlt5 (fun e => by
            have h1 := (HT.out.o1.lt _ e.symm).2
            omega)
          obtain ⟨W8, hW8⟩ : ∃ W, w7.alloc (.cells #[.int .i64 kd, .string ln_] 36) = W := ⟨_, rfl⟩
          obtain ⟨r8, b8, s8⟩ := new_row hW8
          have t8 := ht.out.below b8
          exact ⟨hq.trans r5, W8, Lib.hid t8, hW8, Lib.hid (range_rd (range_of_row (cs := [.int .i64 kd, .string ln_]) r8)), Lib.hid t8.bel.size⟩)
        go_wp2_with (first
          | ((with_reducible (refine wpList_load_cells 36 _ b (off + k * 2) ([.int .i64 kd, .string ln_]) HRS.out Tryd.underlying36 rfl info_ed ?_ rfl ?_ ?_)); (exact rfl); (exact rfl))
          | (refine wpList_load_row rfl _ _ rfl _ rfl _ _ _ _ r5 Tryd.underlying36 rfl info_eds ?_)
          | (at_builtin; refine wpList_append_rd _ rfl _ _ 24 rfl w.heap.size 36 _ 2 24 Tryd.underlying24 info_ed2 rfl (by decide) (.slice A1 n1 c1) n1 _ rfl HT5.out.o1 A2 n2 c2 (edc adds) rfl HLA.out HRA.out (edc_cell adds) (by unfold maxLen; omega) (by omega) HBA5.out ?_; intro v7 w7 ho7 hg7 hvb7; obtain ⟨A7, c7, e7, _⟩ := own_slice ho7; subst e7; have HT7 := Lib.hid ((HT5.out.app1 hg7 ho7 hvb7).nil2); obtain ⟨r7, W8, HT8, hW8, HR8, HBA8⟩ := HNX.out _ _ _ hg7 HT7; clear ho7 hg7 hvb7)
          | (refine wpList_load_row rfl _ _ rfl _ rfl _ _ _ _ r7 Tryd.underlying36 rfl info_eds ?_)
          | (at_builtin; refine wpList_append_rd _ rfl _ _ 24 rfl w.heap.size 36 _ 2 24 Tryd.underlying24 info_ed2 rfl (by decide) (.slice A7 (n1 + n2) c7) (n1 + n2) _ rfl HT8.out.o1 _ 1 1 [.int .i64 kd, .string ln_] rfl rfl HR8.out (edc_cell [⟨kd, ln_⟩]) (by unfold maxLen; omega) (by omega) HBA8.out ?_; intro v9 w9 ho9 hg9 hvb9; obtain ⟨A9, c9, e9, _⟩ := own_slice ho9; subst e9; have HT9 := Lib.hid (HT8.out.app1 hg9 ho9 hvb9); clear ho9 hg9 hvb9))
        rw [← HA.out]
        clear hW5 r5 c0 r7 hW6 hW8
        go_roundg (s.length - (k + 1))
        case measure => omega
        case rel => exact ⟨k + 1, A9, n1 + n2 + 1, c9, none, 0, 0, out ++ adds ++ [⟨kd, ln_⟩], [], by omega, rfl, rfl, rfl, by first | rfl | exact congrArg (Value.int .i64) (by omega) | go_num, by have := HNK.out; omega, Lib.hid (by have := HN.out; simp; omega), Lib.hid (by
            have h := HG.out
            rw [HE.out] at h
            rw [← h]
            simp only [tidyG]
            rw [if_neg H2.out, if_pos H1.out]), Lib.hid (by rw [edc_snoc, edc_app]; exact HT9.out)⟩
  · obtain rfl : k = s.length := by omega
    clear hlt hk
    have HLA : Hid ((edc adds).length = n2 * 2) := Lib.hid (by rw [edc_len, HN.out.2])
    have HRA := Lib.hid (own_rd HT.out.o2)
    have HBA := Lib.hid HT.out.bel.size
    have HF : Hid (edc out ++ edc adds = edc (tidyP s)) := Lib.hid (by
      have h := HG.out
      rw [List.drop_length] at h
      rw [← h, ← edc_app]; rfl)
    have hl2 : n1 + n2 ≤ 1000000 := by omega
    go_wp2_with (first
      | (at_builtin; refine wpList_append_rd _ rfl _ _ 24 rfl w.heap.size 36 _ 2 24 Tryd.underlying24 info_ed2 rfl (by decide) (.slice A1 n1 c1) n1 _ rfl HT.out.o1 A2 n2 c2 (edc adds) rfl HLA.out HRA.out (edc_cell adds) (by unfold maxLen; omega) (by omega) HBA.out ?_; intro v7 w7 ho7 hg7 hvb7; obtain ⟨A7, c7, e7, _⟩ := own_slice ho7; subst e7; have HT7 := Lib.hid ((HT.out.app1 hg7 ho7 hvb7)); clear ho7 hg7 hvb7))
    go_ret
    refine ⟨A7, c7, by rw [HNK.out]; rfl, ?_, HT7.out.bel⟩
    have h := HT7.out.o1
    rw [HF.out, HNK.out] at h
    exact h
end Go.Proofs.YtmniggjadfdheaaDoor
