
/- The document's Split; LinesSplit's walk. -/

import Derived.Test.YtmniggjadfdheaaDoorLn32

import Derived.Test.YtmniggjadfdheaaDoorLn22

import Derived.Test.YtmniggjadfdheaaDoorLn14

namespace Go.Proofs.YtmniggjadfdheaaDoor

set_option linter.unusedVariables false

set_option linter.unusedSimpArgs false

set_option linter.unusedSectionVars false

open Go.RowKit

theorem map_inj {xs ys : List ByteArray} (h : xs.map (·.data.toList) = ys.map (·.data.toList)) : xs = ys := by
  induction xs generalizing ys with
  | nil => cases ys with
    | nil => rfl
    | cons y ys => simp at h
  | cons x xs ih => cases ys with
    | nil => simp at h
    | cons y ys =>
      simp only [List.map_cons, List.cons.injEq] at h
      rw [ba_ext h.1, ih h.2]
/-- the part of a list of bytes -/
def partB (bs : List UInt8) (f i : Nat) : List UInt8 := (bs.take i).drop f
theorem partB_self (bs : List UInt8) (f : Nat) : partB bs f f = [] := by
  unfold partB
  rw [List.drop_eq_nil_of_le (List.length_take_le _ _)]
theorem partB_succ {bs : List UInt8} {f i : Nat} (h : i < bs.length) (hf : f ≤ i) : partB bs f (i + 1) = partB bs f i ++ [bs[i]] := by
  unfold partB
  rw [List.take_succ_eq_append_getElem h, List.drop_append_of_le_length (by rw [List.length_take]; omega)]
theorem partB_drop (bs : List UInt8) (f i : Nat) (hf : f ≤ i) (hi : i ≤ bs.length) : bs.drop f = partB bs f i ++ bs.drop i := by
  unfold partB
  conv => lhs; rw [← List.take_append_drop i bs]
  rw [List.drop_append_of_le_length (by rw [List.length_take]; omega)]
theorem partB_len (bs : List UInt8) (f i : Nat) (hi : i ≤ bs.length) : (partB bs f i).length = i - f := by
  unfold partB
  rw [List.length_drop, List.length_take]
  omega
/-- a part of bytes in memory -/
theorem rd_part {w : World} {b o : Nat} {bs : List UInt8} (hr : Rd w (some ⟨b, o, none⟩) (b8s bs)) (f i : Nat) : Rd w (some ⟨b, o + f, none⟩) (b8s (partB bs f i)) := fun j u hu => by
  refine ⟨b, o + f, rfl, ?_⟩
  have hu2 : (b8s bs)[f + j]? = some u := by
    unfold partB at hu
    rw [b8s_drop, b8s_take, List.getElem?_drop, List.getElem?_take] at hu
    split at hu
    · exact hu
    · cases hu
  obtain ⟨b', o', he, hc⟩ := hr _ u hu2
  cases he
  rw [show o + f + j = o + (f + j) by omega]
  exact hc
theorem line_at {bs : List UInt8} {f i : Nat} (hf : f ≤ i) (hi : i < bs.length) (hn : (10 : UInt8) ∉ partB bs f i) (hb : bs[i] = 10) : linesL (bs.drop f) = partB bs f (i + 1) :: linesL (bs.drop (i + 1)) := by
  rw [partB_drop bs f i hf (by omega), List.drop_eq_getElem_cons hi, hb, linesL_nl _ _ hn, partB_succ hi hf, hb]
theorem splitP_pos (s : ByteArray) : ∀ x ∈ splitP s, 0 < x.size := fun x hx => by
  have h : x.data.toList ∈ (splitP s).map (·.data.toList) := List.mem_map.2 ⟨x, hx, rfl⟩
  rw [splitP_lines] at h
  have key : ∀ (l : List UInt8), ∀ y ∈ linesL l, y ≠ [] := by
    intro l
    induction l with
    | nil => intro y hy; cases hy
    | cons c l ih =>
      intro y hy
      rw [linesL] at hy
      split at hy
      · rcases List.mem_cons.1 hy with h | h
        · rw [h]; simp
        · exact ih y h
      · split at hy
        · rw [List.mem_singleton.1 hy]; simp
        · rename_i z r hz
          rcases List.mem_cons.1 hy with h | h
          · rw [h]; simp
          · exact ih y (by rw [hz]; simp [h])
  have h2 := key _ _ h
  have h3 := size_toList x
  rcases Nat.eq_zero_or_pos x.size with h0 | h0
  · rw [h0] at h3
    exact absurd (List.eq_nil_of_length_eq_zero h3) h2
  · exact h0
theorem splitP_cat (s : ByteArray) : catB (splitP s) = s.data.toList := by
  unfold catB
  rw [splitP_lines, linesL_flat]

set_option maxRecDepth 100000 in
set_option maxHeartbeats 8000000 in
theorem rsplit_any (A : Option Addr) (bs : List UInt8) (c : Nat) (w : World) (hr : Rd w A (b8s bs)) (hc : bs.length ≤ c) (hcm : c ≤ maxLen) (hl : bs.length ≤ 1099511627776) :
    Calls Tryd.prog 24 #[.slice A bs.length c] w fun e w' => ∃ A' c', e = .returned (.slice A' (splitP ⟨bs.toArray⟩).length c') ∧ Rd w' A' (sts (splitP ⟨bs.toArray⟩)) ∧ Below w.heap.size w w' := by
  unfold maxLen at hcm
  have HR := Lib.hid hr
  obtain ⟨n, hn⟩ : ∃ n, bs.length = n := ⟨_, rfl⟩
  have HN := Lib.hid hn
  rw [hn] at hc hl ⊢
  have HSP := Lib.hid (splitP_lines ⟨bs.toArray⟩)
  obtain ⟨q, hq⟩ : ∃ q, splitP ⟨bs.toArray⟩ = q := ⟨_, rfl⟩
  rw [hq] at HSP ⊢
  obtain ⟨W2, hW2⟩ : ∃ W, w.alloc (.cells #[] 9) = W := ⟨_, rfl⟩
  obtain ⟨r2, b2, s2⟩ := new_row hW2
  have O2 : Hid (W2.ownsRow w.heap.size 9 1 (.slice (some ⟨w.heap.size, 0, none⟩) 0 0) 0 (sts [])) := Lib.hid (by
    rw [← hW2]; exact own_new w w.heap.size 9 1 0 [] (Nat.le_refl _) rfl (by decide))
  have HB2 := Lib.hid b2
  clear r2 b2 s2 hr hn hq
  go_enter Tryd.func24, Tryd.ntmps24
  go_wp2_with fail
  clear hW2
  go_loopg [3, 4, 5] (n * 1) (fun gk_ so fv iv wr => ∃ (i f no : Nat) (Ao : Option Addr) (co : Nat) (out : List ByteArray), i ≤ n ∧ gk_ = n - i ∧ f ≤ i ∧ no ≤ i ∧ so = .slice Ao no co ∧ fv = .int .i64 (f : Int) ∧ iv = .int .i64 (i : Int) ∧
    Hid (out.map (·.data.toList) ++ linesL (bs.drop f) = linesL bs) ∧ Hid ((10 : UInt8) ∉ partB bs f i) ∧ Hid (wr.ownsRow w.heap.size 9 1 (.slice Ao no co) no (sts out)) ∧ Hid (Below w.heap.size w wr))
  case atStart => exact ⟨0, 0, 0, _, 0, [], by omega, by omega, by omega, by omega, rfl, rfl, rfl, Lib.hid rfl, Lib.hid (by rw [partB_self]; simp), O2, HB2⟩
  case round =>
  clear O2 HB2
  obtain ⟨i, f, no, Ao, co, out, hi, rfl, hf, hno, rfl, rfl, rfl, HL, HC, HO, HBW⟩ := hrel
  by_cases hlt : i < n
  · have i1 : (i : Int) < (n : Int) := by omega
    have hlt' : i < bs.length := by rw [HN.out]; exact hlt
    have hrd := HR.out.below HBW.out
    obtain ⟨b, o, hA, hcell⟩ := hrd.byte i hlt'
    rw [hA] at hrd
    have HA := Lib.hid hA
    rw [hA]
    clear hA
    have HRD := Lib.hid hrd
    have HPS := Lib.hid (partB_succ hlt' hf)
    by_cases hb : bs[i] = 10
    · have HLN := Lib.hid (line_at hf hlt' HC.out hb)
      rw [hb] at hcell
      replace hcell : wr.cell? ⟨b, o + i, none⟩ = some (.int .u8 10) := hcell
      obtain ⟨X, hX⟩ : ∃ X : ByteArray, X = ⟨(partB bs f (i + 1)).toArray⟩ := ⟨_, rfl⟩
      have hcv : (convert 45 9 (.slice (some ⟨b, o + f, none⟩) (i + 1 - f) (c - f))).run Tryd.prog wr = .ok (.string X) wr := by
        rw [hX]
        exact run_str_of_bytes _ _ (by rw [partB_len _ _ _ (by omega)]) Tryd.underlying45 Tryd.underlying5 Tryd.underlying9 (rd_part hrd f (i + 1))
      have HXL : Hid (X.data.toList = partB bs f (i + 1)) := Lib.hid (by rw [hX])
      obtain ⟨W6, hW6⟩ : ∃ W, wr.alloc (.cells #[.string X] 9) = W := ⟨_, rfl⟩
      obtain ⟨r6, b6, s6⟩ := new_row hW6
      have HO6 := Lib.hid (own_below HO.out b6)
      have HR6 : Hid (Rd W6 (some ⟨wr.heap.size, 0, none⟩) (sts [X])) := Lib.hid (range_rd (range_of_row (cs := sts [X]) r6))
      have HBX := Lib.hid (ext_trans HBW.out b6)
      have HBA := Lib.hid HBX.out.size
      have hcf : ¬ c = f := by omega
      clear r6 b6 s6 hrd HPS hX hb hlt'
      go_wp2_with (first
        | (exact hcv)
        | (at_builtin; refine wpList_append_rd _ rfl _ _ 22 rfl w.heap.size 9 _ 1 16 Tryd.underlying22 info_str rfl (by decide) (.slice Ao no co) no _ rfl HO6.out _ 1 1 (sts [X]) rfl rfl HR6.out (sts_one _) (by unfold maxLen; omega) (by omega) HBA.out ?_; intro v7 w7 ho7 hg7 hvb7; obtain ⟨A7, c7, e7, _⟩ := own_slice ho7; subst e7; have HO7 := Lib.hid ho7; have HB7 := Lib.hid (bel_own HBX.out rfl HO6.out hg7); clear ho7 hg7 hvb7))
      rw [← HA.out]
      clear hW6 hcell hcv hcf
      go_roundg (n - (i + 1))
      case measure => omega
      case rel => exact ⟨i + 1, i + 1, no + 1, A7, c7, out ++ [X], by omega, rfl, by omega, by omega, rfl, by first | rfl | exact congrArg (Value.int .i64) (by omega) | go_num, by first | rfl | exact congrArg (Value.int .i64) (by omega) | go_num, Lib.hid (by have h := HL.out; rw [HLN.out] at h; rw [List.map_append, List.append_assoc]; simp only [List.map_cons, List.map_nil, List.singleton_append]; rw [HXL.out]; exact h), Lib.hid (by rw [partB_self]; simp), Lib.hid (by rw [sts_app]; exact HO7.out), HB7⟩
    · have HC1 : Hid ((10 : UInt8) ∉ partB bs f (i + 1)) := Lib.hid (by
        rw [HPS.out]; intro h; rcases List.mem_append.1 h with h | h
        · exact HC.out h
        · exact hb (List.mem_singleton.1 h).symm)
      obtain ⟨y, hy⟩ : ∃ y, bs[i] = y := ⟨_, rfl⟩
      rw [hy] at hcell hb
      have hz : ((y.toNat : Int) == 10) = false := by
        rw [beq_eq_false_iff_ne]; intro h; exact hb (UInt8.toNat_inj.1 (by show y.toNat = 10; omega))
      clear hrd hb hy HPS hlt'
      go_wp2_with fail
      rw [← HA.out]
      clear hcell hz
      go_roundg (n - (i + 1))
      case measure => omega
      case rel => exact ⟨i + 1, f, no, Ao, co, out, by omega, rfl, by omega, by omega, rfl, rfl, by first | rfl | exact congrArg (Value.int .i64) (by omega) | go_num, HL, HC1, HO, HBW⟩
  obtain rfl : i = n := by omega
  have HPD : Hid (partB bs f i = bs.drop f) := Lib.hid (by
    have h := partB_drop bs f i hf (by rw [HN.out]; omega)
    rw [h, ← HN.out, List.drop_length, List.append_nil])
  clear hlt hi
  by_cases hfn : f < i
  · have i1 : (f : Int) < (i : Int) := by omega
    have hlt' : f < bs.length := by rw [HN.out]; exact hfn
    have hrd := HR.out.below HBW.out
    obtain ⟨b, o, hA, hcell⟩ := hrd.byte f hlt'
    clear hcell
    rw [hA] at hrd
    rw [hA]
    have HLN : Hid (linesL (bs.drop f) = [partB bs f i]) := Lib.hid (by
      rw [HPD.out, linesL_last _ (by rw [← HPD.out]; exact HC.out) (by intro h; have := congrArg List.length h; rw [List.length_drop] at this; simp at this; omega)])
    obtain ⟨X, hX⟩ : ∃ X : ByteArray, X = ⟨(partB bs f i).toArray⟩ := ⟨_, rfl⟩
    have hcv : (convert 45 9 (.slice (some ⟨b, o + f, none⟩) (i - f) (c - f))).run Tryd.prog wr = .ok (.string X) wr := by
      rw [hX]
      exact run_str_of_bytes _ _ (by rw [partB_len _ _ _ (by rw [HN.out]; omega)]) Tryd.underlying45 Tryd.underlying5 Tryd.underlying9 (rd_part hrd f i)
    have HXL : Hid (X.data.toList = partB bs f i) := Lib.hid (by rw [hX])
    obtain ⟨W6, hW6⟩ : ∃ W, wr.alloc (.cells #[.string X] 9) = W := ⟨_, rfl⟩
    obtain ⟨r6, b6, s6⟩ := new_row hW6
    have HO6 := Lib.hid (own_below HO.out b6)
    have HR6 : Hid (Rd W6 (some ⟨wr.heap.size, 0, none⟩) (sts [X])) := Lib.hid (range_rd (range_of_row (cs := sts [X]) r6))
    have HBX := Lib.hid (ext_trans HBW.out b6)
    have HBA := Lib.hid HBX.out.size
    have hcf : ¬ c = f := by omega
    clear r6 b6 s6 hrd hlt' hX hA
    go_wp2_with (first
      | (exact hcv)
      | (at_builtin; refine wpList_append_rd _ rfl _ _ 22 rfl w.heap.size 9 _ 1 16 Tryd.underlying22 info_str rfl (by decide) (.slice Ao no co) no _ rfl HO6.out _ 1 1 (sts [X]) rfl rfl HR6.out (sts_one _) (by unfold maxLen; omega) (by omega) HBA.out ?_; intro v7 w7 ho7 hg7 hvb7; obtain ⟨A7, c7, e7, _⟩ := own_slice ho7; subst e7; have HO7 := Lib.hid ho7; have HB7 := Lib.hid (bel_own HBX.out rfl HO6.out hg7); clear ho7 hg7 hvb7))
    go_ret
    have hq : q = out ++ [X] := map_inj (by
      rw [HSP.out, ← HL.out, HLN.out, List.map_append]
      simp only [List.map_cons, List.map_nil]
      rw [HXL.out])
    have hl7 : no + 1 = q.length := by have h := HO7.out.1; rw [← sts_app, sts_len, ← hq] at h; omega
    refine ⟨A7, c7, by rw [← hl7]; rfl, ?_, HB7.out⟩
    rw [hq, sts_app]
    exact own_rd HO7.out
  · have i1 : ¬ ((f : Int) < (i : Int)) := by omega
    go_wp2_with fail
    go_ret
    have hq : q = out := map_inj (by
      have h := HL.out
      rw [← HPD.out, show f = i by omega, partB_self] at h
      rw [HSP.out, ← h]
      simp [linesL])
    have hl7 : no = q.length := by have h := HO.out.1; rw [sts_len, ← hq] at h; omega
    refine ⟨Ao, ⟨co, by rw [← hl7]; rfl⟩, ?_, HBW.out⟩
    rw [hq]
    exact own_rd HO.out

set_option maxRecDepth 100000 in
set_option maxHeartbeats 8000000 in
theorem linesSplit_any (A : Option Addr) (bs : List UInt8) (c : Nat) (w : World) (ha : Rd w A (b8s bs)) (hac : bs.length ≤ c) (hcm : c ≤ maxLen) (hl : bs.length ≤ 1073741824) :
    Calls Tryd.prog 8 #[.slice A bs.length c] w fun e w' => e = .returned (.bool true) ∧ Below w.heap.size w w' := by
  have HA := Lib.hid ha
  obtain ⟨n, hn⟩ : ∃ n, bs.length = n := ⟨_, rfl⟩
  have HN := Lib.hid hn
  rw [hn]
  obtain ⟨x, hx⟩ : ∃ x, splitP ⟨bs.toArray⟩ = x := ⟨_, rfl⟩
  obtain ⟨p, hp⟩ : ∃ p, x.length = p := ⟨_, rfl⟩
  have hpm : p ≤ 4294967281 := by
    rw [← hp, ← hx]
    have h := congrArg List.length (splitP_lines ⟨bs.toArray⟩)
    rw [List.length_map] at h
    rw [h]
    have key : ∀ l : List UInt8, (linesL l).length ≤ l.length := by
      intro l
      induction l with
      | nil => exact Nat.le_refl _
      | cons c l ih =>
        rw [linesL]
        split
        · simp; exact ih
        · split
          · simp
          · rename_i z r hz
            rw [hz] at ih
            simp at ih ⊢
            omega
    have := key (⟨bs.toArray⟩ : ByteArray).data.toList
    have e : (⟨bs.toArray⟩ : ByteArray).data.toList = bs := by simp
    rw [e] at this ⊢
    omega
  have HPM := Lib.hid hpm
  have HCX : Hid (catB x = bs) := Lib.hid (by rw [← hx, splitP_cat])
  have HPX : Hid (∀ y ∈ x, 0 < y.size) := Lib.hid (by rw [← hx]; exact splitP_pos _)
  have D1 : Hid (∀ w', Below w.heap.size w w' → Calls Tryd.prog 23 #[.slice A n c] w' fun e w'' => ∃ A'' cc, e = .returned (.slice A'' p cc) ∧ p ≤ cc ∧ cc ≤ 4294967281 ∧ Rd w'' A'' (sts x) ∧ Below w'.heap.size w' w'') := Lib.hid (fun w' h => by
    have := split_any A bs c w' (HA.out.below h) (by omega)
    rw [hn, hx, hp] at this
    exact this.mono fun e w'' ⟨cc, h1, h2, h3, h4, h5⟩ => ⟨_, cc, h1, h2, h3, h4, h5⟩)
  have D2 : Hid (∀ w', Below w.heap.size w w' → Calls Tryd.prog 24 #[.slice A n c] w' fun e w'' => ∃ A'' cc, e = .returned (.slice A'' p cc) ∧ Rd w'' A'' (sts x) ∧ Below w'.heap.size w' w'') := Lib.hid (fun w' h => by
    have := rsplit_any A bs c w' (HA.out.below h) hac hcm (by omega)
    rw [hn, hx, hp] at this
    exact this)
  have DT : Hid (∀ (A' B' : Option Addr) (cc cc' : Nat) w', Rd w' A' (sts x) → Rd w' B' (sts x) → Calls Tryd.prog 12 #[.slice A' p cc, .slice B' p cc'] w' fun e w'' => e = .returned (.bool true) ∧ Below w'.heap.size w' w'') := Lib.hid (fun A' B' cc cc' w' h1 h2 => by
    have := texts_any A' B' x x cc cc' w' h1 h2 (by rw [hp]; omega) (by rw [hp]; omega)
    rw [hp, decide_eq_true rfl] at this; exact this)
  have DJ : Hid (∀ (A' : Option Addr) (cc : Nat) w', p ≤ cc → cc ≤ 4294967281 → Rd w' A' (sts x) → Calls Tryd.prog 26 #[.slice A' p cc] w' fun e w'' => ∃ B c', e = .returned (.slice B n c') ∧ Rd w'' B (b8s bs) ∧ Below w'.heap.size w' w'') := Lib.hid (fun A' cc w' h1 h2 h3 => by
    have := join_any A' x cc w' h3 (by rw [hp]; exact h1) (by unfold maxLen; omega) HPX.out (by rw [HCX.out]; omega)
    rw [hp, HCX.out, hn] at this; exact this)
  have DS : Hid (∀ (A' : Option Addr) (cc : Nat) w', Below w.heap.size w w' → Rd w' A' (b8s bs) → Calls Tryd.prog 25 #[.slice A' n cc, .slice A n c] w' fun e w'' => e = .returned (.bool true) ∧ Below w'.heap.size w' w'') := Lib.hid (fun A' cc w' h1 h2 => by
    have := same_b true A' A bs bs cc c w' h2 (HA.out.below h1) (by unfold maxLen; omega) (by unfold maxLen; omega) (by simp)
    rw [hn] at this; exact this)
  clear ha hac hcm hl hn hx hp hpm
  go_enter Tryd.func8, Tryd.ntmps8
  go_wp2_with fail
  refine (alive_any _).mono ?_
  rintro e w1 ⟨rfl, hb1⟩
  have B1 := Lib.hid hb1
  clear hb1
  go_wp2_with fail
  refine (D1.out w1 B1.out).mono ?_
  rintro e w2 ⟨A2, c2, rfl, k1, k2, hr2, hb2⟩
  have K2 : Hid (p ≤ c2 ∧ c2 ≤ 4294967281) := Lib.hid ⟨k1, k2⟩
  have R2 := Lib.hid hr2
  have B2 : Hid (Below w.heap.size w w2) := Lib.hid (ext_trans B1.out hb2)
  clear k1 k2 hr2 hb2
  go_wp2_with fail
  refine (D2.out w2 B2.out).mono ?_
  rintro e w3 ⟨A3, c3, rfl, hr3, hb3⟩
  have R3 := Lib.hid (R2.out.below hb3)
  have S3 := Lib.hid hr3
  have B3 : Hid (Below w.heap.size w w3) := Lib.hid (ext_trans B2.out hb3)
  clear hr3 hb3
  go_wp2_with fail
  refine (DT.out A2 A3 c2 c3 w3 R3.out S3.out).mono ?_
  rintro e w4 ⟨rfl, hb4⟩
  have R4 := Lib.hid (R3.out.below hb4)
  have B4 : Hid (Below w.heap.size w w4) := Lib.hid (ext_trans B3.out hb4)
  clear hb4
  go_wp2_with fail
  refine (DJ.out A2 c2 w4 K2.out.1 K2.out.2 R4.out).mono ?_
  rintro e w5 ⟨A5, c5, rfl, hr5, hb5⟩
  have R5 := Lib.hid hr5
  have B5 : Hid (Below w.heap.size w w5) := Lib.hid (ext_trans B4.out hb5)
  clear hr5 hb5
  go_wp2_with fail
  refine (DS.out A5 c5 w5 B5.out R5.out).mono ?_
  rintro e w6 ⟨rfl, hb6⟩
  have B6 : Hid (Below w.heap.size w w6) := Lib.hid (ext_trans B5.out hb6)
  clear hb6
  go_wp2_with fail
  go_ret
  exact ⟨rfl, B6.out⟩
end Go.Proofs.YtmniggjadfdheaaDoor
