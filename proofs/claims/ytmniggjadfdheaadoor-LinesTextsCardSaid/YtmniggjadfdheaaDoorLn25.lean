
/- LinesTexts' walk. -/

import Derived.Test.YtmniggjadfdheaaDoorLn24

import Derived.Test.YtmniggjadfdheaaDoorLn17

import Derived.Test.YtmniggjadfdheaaDoorExec

namespace Go.Proofs.YtmniggjadfdheaaDoor

set_option linter.unusedVariables false

set_option linter.unusedSimpArgs false

set_option linter.unusedSectionVars false

open Go.RowKit

theorem exec_slice1 {P : Program} {a : Act} {o : Oper} {w : World} (T : TypeId) (hT : P.underlying T = some .string) (x i : Operand) (ho : o.op = .slice T x (some i) none none) (X I V : Value) (hx : a.eval x = X) (hi : a.eval i = I) (h : (Instr.slice T X (some I) none none).run P w = .ok V w) : (execOp a.eval o).run P w = .ok (.value V) w := by
  simp [execOp, ho, hx, hi, run_sliceAt_string w T X (some I) none none hT, h]
theorem wpList_append_bytes_n {ops : Array Oper} {rest : List Oper} {o : Oper} {a : Act} {Q : Exit → Act → World → Prop} {w0 wr : World} (hgd : o.guard = none) (s x : Operand)
    (ho : o.op = .call { callee := .builtin .append, args := #[s, x], argTypes := #[45, 45] }) {N : Nat} {v : Value} {zs : List UInt8} (ys : List UInt8) {A : Option Addr} {n c : Nat} (hn : n = ys.length) (hs : a.eval s = v)
    (hx : a.eval x = .slice A n c) (hr : Rd wr A (b8s ys)) (hown : Own8 N w0 wr v zs) (hlen : zs.length + ys.length ≤ 140737488355328)
    (h : ∀ v' w', Own8 N w0 w' v' (zs ++ ys) → wpList Tryd.prog ops Q rest (a.put o.dst v') w') : wpList Tryd.prog ops Q (o :: rest) a wr := by
  subst hn
  exact wpList_append_bytes hgd s x ho ys hs hx hr hown hlen (fun v' w' h1 _ => h v' w' h1)

/-- Split, of what is known: its lines, how many -/
structure SpOut (w w' : World) (e : Ending) (t : List ByteArray) (n : Nat) (A : Option Addr) (c : Nat) : Prop where
  ret : e = .returned (.slice A n c)
  rd : Rd w' A (sts t)
  bel : Below w.heap.size w w'
theorem split_c (A : Option Addr) (bs : List UInt8) (m c : Nat) (t : List ByteArray) (n : Nat) (w : World) (hr : Rd w A (b8s bs)) (hm : m = bs.length) (hl : m < 4294967281) (ht : splitP ⟨bs.toArray⟩ = t) (hn : t.length = n) :
    Calls Tryd.prog 23 #[.slice A m c] w fun e w' => ∃ A' c', SpOut w w' e t n A' c' := by
  subst hm
  refine (split_any A bs c w hr hl).mono ?_
  rintro e w' ⟨cc, h1, h2, h3, h4, h5⟩
  rw [ht] at h1 h2 h4
  rw [hn] at h1
  exact ⟨_, _, h1, h4, h5⟩

set_option maxRecDepth 100000 in
set_option maxHeartbeats 8000000 in
theorem linesTexts_any (A B : Option Addr) (us bs : List UInt8) (c c' : Nat) (w : World) (ha : Rd w A (b8s us)) (hb : Rd w B (b8s bs)) (hac : us.length ≤ c) (hcm : c ≤ maxLen) (hbc : bs.length ≤ c') (hcm' : c' ≤ maxLen) :
    Calls Tryd.prog 7 #[.slice A us.length c, .slice B bs.length c'] w fun e w' => e = .returned (.bool true) ∧ Below w.heap.size w w' := by
  have HA := Lib.hid ha
  have HB := Lib.hid hb
  obtain ⟨n, hn⟩ : ∃ n, us.length = n := ⟨_, rfl⟩
  obtain ⟨m, hm⟩ : ∃ m, bs.length = m := ⟨_, rfl⟩
  have HN := Lib.hid hn
  have HM := Lib.hid hm
  rw [hn, hm]
  have hmx : n ≤ 9223372036854775807 ∧ m ≤ 9223372036854775807 := by
    unfold maxLen at hcm hcm'; omega
  obtain ⟨hmn, hmm⟩ := hmx
  clear ha hb hac hcm hbc hcm' hn hm
  by_cases h1 : 400 < n
  · have i1 : (400 : Int) < (n : Int) := by omega
    go_enter Tryd.func7, Tryd.ntmps7
    go_wp2_with (refine (alive_any _).mono ?_; rintro e w1 ⟨rfl, hb1⟩)
    go_ret
    exact ⟨rfl, hb1⟩
  have j1 : ¬ ((400 : Int) < (n : Int)) := by omega
  by_cases h2 : 400 < m
  · have i1 : (400 : Int) < (m : Int) := by omega
    go_enter Tryd.func7, Tryd.ntmps7
    go_wp2_with (refine (alive_any _).mono ?_; rintro e w1 ⟨rfl, hb1⟩)
    go_ret
    exact ⟨rfl, hb1⟩
  have j2 : ¬ ((400 : Int) < (m : Int)) := by omega
  have hsn : n ≤ 400 := by omega
  have hsm : m ≤ 400 := by omega
  clear h1 h2 hmn hmm
  obtain ⟨x, hx⟩ : ∃ x, linesN us = x := ⟨_, rfl⟩
  obtain ⟨y, hy⟩ : ∃ y, linesN bs = y := ⟨_, rfl⟩
  obtain ⟨p, hp⟩ : ∃ p, x.length = p := ⟨_, rfl⟩
  obtain ⟨q, hq⟩ : ∃ q, y.length = q := ⟨_, rfl⟩
  have DA : Hid (∀ (A' : Option Addr) (cc : Nat) w', Rd w' A' (b8s (us ++ [10])) → Calls Tryd.prog 23 #[.slice A' (n + 1) cc] w' fun e w'' => ∃ A'' c'', SpOut w' w'' e x p A'' c'') := Lib.hid (fun A' cc w' h =>
    split_c A' (us ++ [10]) (n + 1) cc x p w' h (by simp [HN.out]) (by omega) hx hp)
  have DB : Hid (∀ (A' : Option Addr) (cc : Nat) w', Rd w' A' (b8s (bs ++ [10])) → Calls Tryd.prog 23 #[.slice A' (m + 1) cc] w' fun e w'' => ∃ A'' c'', SpOut w' w'' e y q A'' c'') := Lib.hid (fun A' cc w' h =>
    split_c A' (bs ++ [10]) (m + 1) cc y q w' h (by simp [HM.out]) (by omega) hy hq)
  have HXY : Hid (linesN us = x ∧ linesN bs = y) := Lib.hid ⟨hx, hy⟩
  have HP := Lib.hid hp
  have HQ := Lib.hid hq
  have HNM : Hid (n ≤ 400 ∧ m ≤ 400) := Lib.hid ⟨hsn, hsm⟩
  have HNU : Hid ((us ++ [10] : List UInt8).length = n + 1) := Lib.hid (by simp [HN.out])
  have HMU : Hid ((bs ++ [10] : List UInt8).length = m + 1) := Lib.hid (by simp [HM.out])
  clear hx hy hp hq
  go_enter Tryd.func7, Tryd.ntmps7
  go_wp2_with fail
  refine (alive_any _).mono ?_
  rintro e w1 ⟨rfl, hb1⟩
  have B1 := Lib.hid hb1
  clear hb1
  obtain ⟨W2, hW2⟩ : ∃ W, w1.alloc (.cells #[] 5) = W := ⟨_, rfl⟩
  have HO2 : Hid (Own8 w1.heap.size w1 W2 (.slice (some ⟨w1.heap.size, 0, none⟩) 0 0) []) := Lib.hid (by rw [← hW2]; exact Own8.start w1)
  have HR2 : Hid (Rd W2 A (b8s us)) := Lib.hid ((HA.out.below B1.out).below (by rw [← hW2]; exact (Below.refl _ _).alloc (Nat.le_refl _) _))
  have HLA : Hid (n = us.length ∧ ([] : List UInt8).length + us.length ≤ 140737488355328 ∧ ([] ++ us : List UInt8).length + 1 ≤ 140737488355328) := Lib.hid (by rw [List.nil_append, HN.out]; simp; omega)
  go_wp2_with (first
    | (at_builtin; refine wpList_append_bytes_n rfl _ _ rfl us HLA.out.1 rfl rfl HR2.out HO2.out HLA.out.2.1 ?_; intro v3 w3 ho3; have HO3 := Lib.hid ho3; clear ho3)
    | (at_builtin; refine wpList_append_u8 rfl _ _ rfl 10 rfl rfl rfl HO3.out HLA.out.2.2 ?_; intro v4 w4 ho4; obtain ⟨A4, c4, e4, _, _, rd4, _⟩ := ho4.slice; have HB4 := Lib.hid (ext_trans B1.out ho4.bel); rw [List.nil_append] at e4 rd4; rw [HNU.out] at e4; subst e4; have HR4 := Lib.hid rd4; clear ho4 rd4))
  refine (DA.out A4 c4 w4 HR4.out).mono ?_
  rintro e w5 ⟨A5, c5, h5⟩
  obtain ⟨rfl, rd5, b5⟩ := h5
  have B5 := Lib.hid (ext_trans HB4.out b5)
  have R5 := Lib.hid rd5
  clear hW2 rd5 b5
  obtain ⟨W6, hW6⟩ : ∃ W, w5.alloc (.cells #[] 5) = W := ⟨_, rfl⟩
  have HO6 : Hid (Own8 w5.heap.size w5 W6 (.slice (some ⟨w5.heap.size, 0, none⟩) 0 0) []) := Lib.hid (by rw [← hW6]; exact Own8.start w5)
  have HR6 : Hid (Rd W6 B (b8s bs)) := Lib.hid ((HB.out.below B5.out).below (by rw [← hW6]; exact (Below.refl _ _).alloc (Nat.le_refl _) _))
  have HLB : Hid (m = bs.length ∧ ([] : List UInt8).length + bs.length ≤ 140737488355328 ∧ ([] ++ bs : List UInt8).length + 1 ≤ 140737488355328) := Lib.hid (by rw [List.nil_append, HM.out]; simp; omega)
  go_wp2_with (first
    | (at_builtin; refine wpList_append_bytes_n rfl _ _ rfl bs HLB.out.1 rfl rfl HR6.out HO6.out HLB.out.2.1 ?_; intro v7 w7 ho7; have HO7 := Lib.hid ho7; clear ho7)
    | (at_builtin; refine wpList_append_u8 rfl _ _ rfl 10 rfl rfl rfl HO7.out HLB.out.2.2 ?_; intro v8 w8 ho8; obtain ⟨A8, c8, e8, _, _, rd8, _⟩ := ho8.slice; have HX8 := Lib.hid (R5.out.below ho8.bel); have HB8 := Lib.hid (ext_trans B5.out ho8.bel); rw [List.nil_append] at e8 rd8; rw [HMU.out] at e8; subst e8; have HR8 := Lib.hid rd8; clear ho8 rd8))
  refine (DB.out A8 c8 w8 HR8.out).mono ?_
  rintro e w9 ⟨A9, c9, h9⟩
  obtain ⟨rfl, rd9, b9⟩ := h9
  have B9 := Lib.hid (ext_trans HB8.out b9)
  have X9 := Lib.hid (HX8.out.below b9)
  have R9 := Lib.hid rd9
  clear hW6 rd9 b9
  by_cases hp40 : 40 < p
  · have i1 : (40 : Int) < (p : Int) := by omega
    go_wp2_with fail
    go_ret
    exact ⟨rfl, B9.out⟩
  have i1 : ¬ ((40 : Int) < (p : Int)) := by omega
  by_cases hq40 : 40 < q
  · have i2 : (40 : Int) < (q : Int) := by omega
    go_wp2_with fail
    go_ret
    exact ⟨rfl, B9.out⟩
  have i2 : ¬ ((40 : Int) < (q : Int)) := by omega
  have HPQ : Hid (p ≤ 40 ∧ q ≤ 40) := Lib.hid (by omega)
  obtain ⟨s, hs⟩ : ∃ s, diffS x y = s := ⟨_, rfl⟩
  have HS1 : Hid (diffS (linesN us) (linesN bs) = s) := Lib.hid (by rw [HXY.out.1, HXY.out.2, hs])
  have DD : Hid (Calls Tryd.prog 10 #[.slice A5 p c5, .slice A9 q c9] w9 fun e w' => ∃ A' c', EdOut w9 w' e s A' c') := Lib.hid (by
    have := diff_c A5 A9 x y c5 c9 w9 X9.out R9.out (by rw [HP.out]; omega) (by rw [HQ.out]; omega)
    rw [HP.out, HQ.out, hs] at this
    exact this)
  clear hs hp40 hq40
  obtain ⟨L, hL⟩ : ∃ L, s.length = L := ⟨_, rfl⟩
  have HL := Lib.hid hL
  have HLL : Hid (L ≤ 80) := Lib.hid (by
    have := diff_len x y
    have h2 := HS1.out
    rw [HXY.out.1, HXY.out.2] at h2
    rw [h2, hL, HP.out, HQ.out] at this
    have := HPQ.out
    omega)
  have HF : Hid (∀ e ∈ s, ∃ p, e.line.data.toList = p ++ [10] ∧ (10 : UInt8) ∉ p) := Lib.hid (by rw [← HS1.out]; exact edit_form us bs)
  have HZ : Hid ((textB s).length ≤ 40000) := Lib.hid (by
    have h1 := textB_len (s := s) (m := 401) (by rw [← HS1.out]; exact edit_size us bs (by rw [HN.out]; exact HNM.out.1) (by rw [HM.out]; exact HNM.out.2))
    have h2 := HLL.out
    rw [hL] at h1
    omega)
  have HK : Hid (kindsOk s) := Lib.hid (by rw [← HS1.out]; exact (diffS_ok _ _).2.2.2.1)
  obtain ⟨t, ht⟩ : ∃ t, splitP ⟨(textB s).toArray⟩ = t := ⟨_, rfl⟩
  have HTM : Hid (t.map (·.data.toList) = s.map (fun e => signB e.kind :: e.line.data.toList)) := Lib.hid (by rw [← ht]; exact told_map s HF.out)
  have HTL : Hid (t.length = L) := Lib.hid (by rw [told_len HTM.out, hL])
  obtain ⟨T, hT⟩ : ∃ T : ByteArray, (⟨(textB s).toArray⟩ : ByteArray) = T := ⟨_, rfl⟩
  have DT : Hid (∀ (A' : Option Addr) (cc : Nat) w', Rd w' A' (b8s T.data.toList) → Calls Tryd.prog 23 #[.slice A' T.size cc] w' fun e w'' => ∃ A'' c'', SpOut w' w'' e t L A'' c'') := Lib.hid (fun A' cc w' h =>
    split_c A' T.data.toList T.size cc t L w' h (size_toList T).symm (by have := HZ.out; rw [← hT]; show (textB s).length < _; omega) (by rw [← ht, ← hT]) HTL.out)
  have DX : Hid (∀ (A' : Option Addr) (cc : Nat) w', Rd w' A' (edc s) → Calls Tryd.prog 18 #[.slice A' L cc] w' fun e w'' => e = .returned (.string T) ∧ Below w'.heap.size w' w'') := Lib.hid (fun A' cc w' h => by
    have := text_any' A' s cc w' h (by rw [hL]; have := HLL.out; omega) (by have := HZ.out; omega)
    rw [hL, hT] at this
    exact this)
  clear hL ht
  go_wp2_with fail
  refine DD.out.mono ?_
  rintro e w10 ⟨A10, c10, h10⟩
  obtain ⟨rfl, r10, k10, n10, b10⟩ := h10
  have R10 := Lib.hid r10
  have B10 : Hid (Below w.heap.size w w10) := Lib.hid (ext_trans B9.out b10)
  rw [HL.out]
  clear r10 k10 n10 b10
  go_wp2_with fail
  refine (DX.out A10 c10 w10 R10.out).mono ?_
  rintro e w11 ⟨rfl, b11⟩
  have R11 := Lib.hid (R10.out.below b11)
  have B11 : Hid (Below w.heap.size w w11) := Lib.hid (ext_trans B10.out b11)
  clear b11
  have kb := fun (W : World) (s : ByteArray) => run_bytes_of_string (P := Tryd.prog) W 9 45 5 s Tryd.underlying9 Tryd.underlying45 Tryd.underlying5
  go_wp2_with fail
  have HRB := Lib.hid (rd_bytesRow w11 T (grownCap w11 T.size 0 5) 5 ((bytesRow T (grownCap w11 T.size 0 5)).size, (bytesRow T (grownCap w11 T.size 0 5)).size + 1)).drew
  refine (DT.out _ _ _ HRB.out).mono ?_
  rintro e w12 ⟨A12, c12, h12⟩
  obtain ⟨rfl, r12, b12⟩ := h12
  clear kb
  have b12' : Below w11.heap.size w11 w12 := ext_trans (by first | exact (ext_alloc (Below.refl _ _) _).drew | exact ext_alloc (Below.refl _ _).drew _) b12
  have R12 := Lib.hid (R11.out.below b12')
  have T12 := Lib.hid r12
  have B12 : Hid (Below w.heap.size w w12) := Lib.hid (ext_trans B11.out b12')
  clear b12 b12' r12
  have z0 : ((L : Int) != (L : Int)) = false := by simp
  have HC := Lib.hid (secL_all us bs)
  rw [HS1.out, HL.out] at HC
  have HLE := Lib.hid (secL_le s)
  rw [HL.out, HC.out] at HLE
  go_wp2_with fail
  go_loopg [9, 56] (L * 1) (fun gk_ sc i wr => ∃ (k : Nat) (X : ByteArray), k ≤ L ∧ gk_ = L - k ∧ i = .int .i64 (k : Int) ∧ sc = .string X ∧ Hid (X = ⟨(secL s k).toArray⟩) ∧ Hid (Below w12.heap.size w12 wr))
  case atStart => exact ⟨0, _, by omega, by omega, rfl, rfl, Lib.hid (by rw [secL_zero]), Lib.hid (Below.refl _ _)⟩
  case round =>
  obtain ⟨k, X, hk, rfl, rfl, rfl, HX, HBW⟩ := hrel
  by_cases hlt : k < L
  · have i3 : (k : Int) < (L : Int) := by omega
    have hLb := HLL.out
    have hlt' : k < s.length := by rw [HL.out]; exact hlt
    have hrd := R12.out.below HBW.out
    obtain ⟨b_, off, hA, _⟩ := hrd.all (by rw [edc_len]; omega)
    rw [hA] at hrd
    have HAA := Lib.hid hA
    clear hA
    have RS := rd_ed hrd k hlt'
    have hkd := HK.out _ (List.getElem_mem hlt')
    obtain ⟨⟨kd, ln_⟩, he⟩ : ∃ e, s[k] = e := ⟨_, rfl⟩
    rw [he] at RS hkd
    replace hkd : kd = 0 ∨ kd = 1 ∨ kd = 2 := hkd
    have hse : s[k]? = some (⟨kd, ln_⟩ : EdM) := by rw [List.getElem?_eq_getElem hlt', he]
    have HSE := Lib.hid hse
    have hltt : k < t.length := by rw [HTL.out]; exact hlt
    obtain ⟨bT, oT, hT1, hT2⟩ := (T12.out.below HBW.out) k _ (sts_get t k hltt)
    obtain ⟨tk, htk⟩ : ∃ x, t[k] = x := ⟨_, rfl⟩
    rw [htk] at hT2
    obtain ⟨t1, t2, t3, t4⟩ := told_at HTM.out hse (show t[k]? = some tk by rw [List.getElem?_eq_getElem hltt, htk])
    replace t1 : tk[0]? = some (signB kd) := t1
    replace t3 : tk.extract 1 tk.size = ln_ := t3
    have HTT := Lib.hid hT1
    rw [hT1]
    clear hT1 htk hltt
    have HRS : Hid (wr.rangeAt b_ (off + k * 2) [.int .i64 kd, .string ln_]) := Lib.hid RS
    obtain ⟨W5, hW5⟩ : ∃ W, wr.alloc (.cells #[.int .i64 kd, .string ln_] 36) = W := ⟨_, rfl⟩
    obtain ⟨r5, b5, s5_⟩ := new_row hW5
    have c0 : W5.cell? ⟨wr.heap.size, 0, none⟩ = some (.int .i64 kd) := row_cell r5 0
    have c1_ : W5.cell? ⟨wr.heap.size, 1, none⟩ = some (.string ln_) := row_cell r5 1
    have d0 : W5.cell? ⟨bT, oT + k, none⟩ = some (.string tk) := cell_below hT2 (World.block_lt_of_cell? _ _ hT2) b5
    have HBW5 := Lib.hid (ext_trans HBW.out b5)
    obtain ⟨kn, rfl, hkn, hsg⟩ := kind_sign hkd
    have hi1 : ∀ w', (Instr.index 9 (.string tk) (.int .i64 0)).run Tryd.prog w' = .ok (.int .u8 ((signB (kn : Int)).toNat : Int)) w' := fun w' => index_str 0 .i64 w' Tryd.underlying9 t1
    have hi2 : ∀ w', (Instr.index 9 (.string ⟨#[32, 45, 43]⟩) (.int .i64 (kn : Int))).run Tryd.prog w' = .ok (.int .u8 ((signB (kn : Int)).toNat : Int)) w' := fun w' => index_str kn .i64 w' Tryd.underlying9 hsg
    have hi3 : ∀ w', (Instr.slice 9 (.string tk) (some (.int .i64 1)) none none).run Tryd.prog w' = .ok (.string ln_) w' := fun w' => by
      rw [run_slice_string_from_if _ _ _ _ _ Tryd.underlying9, if_pos (by omega)]
      rw [show (1 : Int).toNat = 1 from rfl, t3]
    have hi4 : ∀ w', (binOp .neq 9 (.string ln_) (.string ln_)).run Tryd.prog w' = .ok (.bool false) w' := fun w' => by rw [bin_strne Tryd.underlying9, decide_eq_true rfl]; rfl
    have HI1 := Lib.hid hi1
    have HI2 := Lib.hid hi2
    have HI3 := Lib.hid hi3
    have HI4 := Lib.hid hi4
    have HT3 : Hid (tk.extract 1 tk.size = ln_ ∧ tk.size = ln_.size + 1 ∧ 0 < tk.size) := Lib.hid ⟨t3, t4, t2⟩
    clear hrd RS he b5 s5_ hlt' r5 t1 t2 t3 t4 hi1 hi2 hi3 hi4 hse hsg hT2 hkd
    rw [HAA.out]
    go_wp2_with (first
      | ((with_reducible (refine wpList_load_cells 36 _ b_ (off + k * 2) ([.int .i64 (kn : Int), .string ln_]) HRS.out Tryd.underlying36 rfl info_ed ?_ rfl ?_ ?_)); (exact rfl); (exact rfl)))
    refine wp_region_sched (fun w' => w'.cell? ⟨bT, oT + k, none⟩ = some (.string tk) ∧ w'.cell? ⟨wr.heap.size, 0, none⟩ = some (.int .i64 (kn : Int)) ∧ w'.cell? ⟨wr.heap.size, 1, none⟩ = some (.string ln_)) [(true, 0), (true, 1), (true, 2), (true, 3), (true, 4), (true, 5), (true, 6), (true, 7), (true, 8), (true, 9), (true, 10), (true, 11), (true, 12), (true, 13), (true, 14), (true, 15), (true, 16), (true, 17), (true, 18)] (by kernel_rfl) (by kernel_rfl) rfl (by kernel_rfl) ⟨d0, c0, c1_⟩ ?_
    (first | (refine wpS_pass _ rfl (by rfl) ?_; simp only [Act.put, List.getElem_toArray, List.getElem_cons_zero, List.getElem_cons_succ, List.setIfInBounds_toArray, List.set_cons_zero, List.set_cons_succ]) | (refine wpS_take _ ?_ rfl (by rfl) ?_ ?_; rotate_left; (focus (intro w' hS'; (try dsimp only at hS'); (repeat (have hS1 := hS'.1; replace hS' := hS'.2)); go_simp; (try with_reducible rfl); done)); simp only [Act.put, List.getElem_toArray, List.getElem_cons_zero, List.getElem_cons_succ, List.setIfInBounds_toArray, List.set_cons_zero, List.set_cons_succ]))
    (first | (refine wpS_pass _ rfl (by rfl) ?_; simp only [Act.put, List.getElem_toArray, List.getElem_cons_zero, List.getElem_cons_succ, List.setIfInBounds_toArray, List.set_cons_zero, List.set_cons_succ]) | (refine wpS_take _ ?_ rfl (by rfl) ?_ ?_; rotate_left; (focus (intro w' hS'; (try dsimp only at hS'); (repeat (have hS1 := hS'.1; replace hS' := hS'.2)); go_simp; (try with_reducible rfl); done)); simp only [Act.put, List.getElem_toArray, List.getElem_cons_zero, List.getElem_cons_succ, List.setIfInBounds_toArray, List.set_cons_zero, List.set_cons_succ]))
    (first | (refine wpS_pass _ rfl (by rfl) ?_; simp only [Act.put, List.getElem_toArray, List.getElem_cons_zero, List.getElem_cons_succ, List.setIfInBounds_toArray, List.set_cons_zero, List.set_cons_succ]) | (refine wpS_take _ ?_ rfl (by rfl) ?_ ?_; rotate_left; (focus (intro w' hS'; (try dsimp only at hS'); (repeat (have hS1 := hS'.1; replace hS' := hS'.2)); go_simp; (try with_reducible rfl); done)); simp only [Act.put, List.getElem_toArray, List.getElem_cons_zero, List.getElem_cons_succ, List.setIfInBounds_toArray, List.set_cons_zero, List.set_cons_succ]))
    (first | (refine wpS_pass _ rfl (by rfl) ?_; simp only [Act.put, List.getElem_toArray, List.getElem_cons_zero, List.getElem_cons_succ, List.setIfInBounds_toArray, List.set_cons_zero, List.set_cons_succ]) | (refine wpS_take _ ?_ rfl (by rfl) ?_ ?_; rotate_left; (focus (intro w' hS'; (try dsimp only at hS'); (repeat (have hS1 := hS'.1; replace hS' := hS'.2)); go_simp; (try with_reducible rfl); done)); simp only [Act.put, List.getElem_toArray, List.getElem_cons_zero, List.getElem_cons_succ, List.setIfInBounds_toArray, List.set_cons_zero, List.set_cons_succ]))
    refine wpS_take _ _ rfl (by rfl) (fun w' hS' => exec_index _ _ _ rfl _ _ _ rfl rfl (HI1.out w')) ?_
    simp only [Act.put, List.getElem_toArray, List.getElem_cons_zero, List.getElem_cons_succ, List.setIfInBounds_toArray, List.set_cons_zero, List.set_cons_succ]
    (first | (refine wpS_pass _ rfl (by rfl) ?_; simp only [Act.put, List.getElem_toArray, List.getElem_cons_zero, List.getElem_cons_succ, List.setIfInBounds_toArray, List.set_cons_zero, List.set_cons_succ]) | (refine wpS_take _ ?_ rfl (by rfl) ?_ ?_; rotate_left; (focus (intro w' hS'; (try dsimp only at hS'); (repeat (have hS1 := hS'.1; replace hS' := hS'.2)); go_simp; (try with_reducible rfl); done)); simp only [Act.put, List.getElem_toArray, List.getElem_cons_zero, List.getElem_cons_succ, List.setIfInBounds_toArray, List.set_cons_zero, List.set_cons_succ]))
    (first | (refine wpS_pass _ rfl (by rfl) ?_; simp only [Act.put, List.getElem_toArray, List.getElem_cons_zero, List.getElem_cons_succ, List.setIfInBounds_toArray, List.set_cons_zero, List.set_cons_succ]) | (refine wpS_take _ ?_ rfl (by rfl) ?_ ?_; rotate_left; (focus (intro w' hS'; (try dsimp only at hS'); (repeat (have hS1 := hS'.1; replace hS' := hS'.2)); go_simp; (try with_reducible rfl); done)); simp only [Act.put, List.getElem_toArray, List.getElem_cons_zero, List.getElem_cons_succ, List.setIfInBounds_toArray, List.set_cons_zero, List.set_cons_succ]))
    refine wpS_take _ _ rfl (by rfl) (fun w' hS' => exec_index _ _ _ rfl _ _ _ rfl rfl (HI2.out w')) ?_
    simp only [Act.put, List.getElem_toArray, List.getElem_cons_zero, List.getElem_cons_succ, List.setIfInBounds_toArray, List.set_cons_zero, List.set_cons_succ]
    (first | (refine wpS_pass _ rfl (by rfl) ?_; simp only [Act.put, List.getElem_toArray, List.getElem_cons_zero, List.getElem_cons_succ, List.setIfInBounds_toArray, List.set_cons_zero, List.set_cons_succ]) | (refine wpS_take _ ?_ rfl (by rfl) ?_ ?_; rotate_left; (focus (intro w' hS'; (try dsimp only at hS'); (repeat (have hS1 := hS'.1; replace hS' := hS'.2)); go_simp; (try with_reducible rfl); done)); simp only [Act.put, List.getElem_toArray, List.getElem_cons_zero, List.getElem_cons_succ, List.setIfInBounds_toArray, List.set_cons_zero, List.set_cons_succ]))
    (first | (refine wpS_pass _ rfl (by rfl) ?_; simp only [Act.put, List.getElem_toArray, List.getElem_cons_zero, List.getElem_cons_succ, List.setIfInBounds_toArray, List.set_cons_zero, List.set_cons_succ]) | (refine wpS_take _ ?_ rfl (by rfl) ?_ ?_; rotate_left; (focus (intro w' hS'; (try dsimp only at hS'); (repeat (have hS1 := hS'.1; replace hS' := hS'.2)); go_simp; (try with_reducible rfl); done)); simp only [Act.put, List.getElem_toArray, List.getElem_cons_zero, List.getElem_cons_succ, List.setIfInBounds_toArray, List.set_cons_zero, List.set_cons_succ]))
    (first | (refine wpS_pass _ rfl (by rfl) ?_; simp only [Act.put, List.getElem_toArray, List.getElem_cons_zero, List.getElem_cons_succ, List.setIfInBounds_toArray, List.set_cons_zero, List.set_cons_succ]) | (refine wpS_take _ ?_ rfl (by rfl) ?_ ?_; rotate_left; (focus (intro w' hS'; (try dsimp only at hS'); (repeat (have hS1 := hS'.1; replace hS' := hS'.2)); go_simp; (try with_reducible rfl); done)); simp only [Act.put, List.getElem_toArray, List.getElem_cons_zero, List.getElem_cons_succ, List.setIfInBounds_toArray, List.set_cons_zero, List.set_cons_succ]))
    (first | (refine wpS_pass _ rfl (by rfl) ?_; simp only [Act.put, List.getElem_toArray, List.getElem_cons_zero, List.getElem_cons_succ, List.setIfInBounds_toArray, List.set_cons_zero, List.set_cons_succ]) | (refine wpS_take _ ?_ rfl (by rfl) ?_ ?_; rotate_left; (focus (intro w' hS'; (try dsimp only at hS'); (repeat (have hS1 := hS'.1; replace hS' := hS'.2)); go_simp; (try with_reducible rfl); done)); simp only [Act.put, List.getElem_toArray, List.getElem_cons_zero, List.getElem_cons_succ, List.setIfInBounds_toArray, List.set_cons_zero, List.set_cons_succ]))
    (first | (refine wpS_pass _ rfl (by rfl) ?_; simp only [Act.put, List.getElem_toArray, List.getElem_cons_zero, List.getElem_cons_succ, List.setIfInBounds_toArray, List.set_cons_zero, List.set_cons_succ]) | (refine wpS_take _ ?_ rfl (by rfl) ?_ ?_; rotate_left; (focus (intro w' hS'; (try dsimp only at hS'); (repeat (have hS1 := hS'.1; replace hS' := hS'.2)); go_simp; (try with_reducible rfl); done)); simp only [Act.put, List.getElem_toArray, List.getElem_cons_zero, List.getElem_cons_succ, List.setIfInBounds_toArray, List.set_cons_zero, List.set_cons_succ]))
    (first | (refine wpS_pass _ rfl (by rfl) ?_; simp only [Act.put, List.getElem_toArray, List.getElem_cons_zero, List.getElem_cons_succ, List.setIfInBounds_toArray, List.set_cons_zero, List.set_cons_succ]) | (refine wpS_take _ ?_ rfl (by rfl) ?_ ?_; rotate_left; (focus (intro w' hS'; (try dsimp only at hS'); (repeat (have hS1 := hS'.1; replace hS' := hS'.2)); go_simp; (try with_reducible rfl); done)); simp only [Act.put, List.getElem_toArray, List.getElem_cons_zero, List.getElem_cons_succ, List.setIfInBounds_toArray, List.set_cons_zero, List.set_cons_succ]))
    refine wpS_take _ _ rfl (by rfl) (fun w' hS' => exec_slice1 _ Tryd.underlying9 (.tmp 74) (.const (.int .i64 1)) rfl _ _ _ rfl rfl (HI3.out w')) ?_
    simp only [Act.put, List.getElem_toArray, List.getElem_cons_zero, List.getElem_cons_succ, List.setIfInBounds_toArray, List.set_cons_zero, List.set_cons_succ]
    (first | (refine wpS_pass _ rfl (by rfl) ?_; simp only [Act.put, List.getElem_toArray, List.getElem_cons_zero, List.getElem_cons_succ, List.setIfInBounds_toArray, List.set_cons_zero, List.set_cons_succ]) | (refine wpS_take _ ?_ rfl (by rfl) ?_ ?_; rotate_left; (focus (intro w' hS'; (try dsimp only at hS'); (repeat (have hS1 := hS'.1; replace hS' := hS'.2)); go_simp; (try with_reducible rfl); done)); simp only [Act.put, List.getElem_toArray, List.getElem_cons_zero, List.getElem_cons_succ, List.setIfInBounds_toArray, List.set_cons_zero, List.set_cons_succ]))
    (first | (refine wpS_pass _ rfl (by rfl) ?_; simp only [Act.put, List.getElem_toArray, List.getElem_cons_zero, List.getElem_cons_succ, List.setIfInBounds_toArray, List.set_cons_zero, List.set_cons_succ]) | (refine wpS_take _ ?_ rfl (by rfl) ?_ ?_; rotate_left; (focus (intro w' hS'; (try dsimp only at hS'); (repeat (have hS1 := hS'.1; replace hS' := hS'.2)); go_simp; (try with_reducible rfl); done)); simp only [Act.put, List.getElem_toArray, List.getElem_cons_zero, List.getElem_cons_succ, List.setIfInBounds_toArray, List.set_cons_zero, List.set_cons_succ]))
    refine wpS_take _ _ rfl (by rfl) (fun w' hS' => exec_bin _ _ _ _ _ rfl _ _ _ rfl rfl rfl (HI4.out w')) ?_
    simp only [Act.put, List.getElem_toArray, List.getElem_cons_zero, List.getElem_cons_succ, List.setIfInBounds_toArray, List.set_cons_zero, List.set_cons_succ]
    (first | (refine wpS_pass _ rfl (by rfl) ?_; simp only [Act.put, List.getElem_toArray, List.getElem_cons_zero, List.getElem_cons_succ, List.setIfInBounds_toArray, List.set_cons_zero, List.set_cons_succ]) | (refine wpS_take _ ?_ rfl (by rfl) ?_ ?_; rotate_left; (focus (intro w' hS'; (try dsimp only at hS'); (repeat (have hS1 := hS'.1; replace hS' := hS'.2)); go_simp; (try with_reducible rfl); done)); simp only [Act.put, List.getElem_toArray, List.getElem_cons_zero, List.getElem_cons_succ, List.setIfInBounds_toArray, List.set_cons_zero, List.set_cons_succ]))
    refine wpS_done ?_
    by_cases hk1 : kn = 1
    · have z5 : ((kn : Int) != 1) = false := by rw [hk1]; rfl
      have HC1 : Hid (secL s (k + 1) = secL s k) := Lib.hid (secL_drop HSE.out (by show (kn : Int) = 1; omega))
      clear hk1
      go_wp2_with fail
      rw [← HAA.out, ← HTT.out]
      clear hW5 c0 c1_ d0
      go_roundg (L - (k + 1))
      case measure => omega
      case rel => exact ⟨k + 1, X, by omega, rfl, by first | rfl | exact congrArg (Value.int .i64) (by omega) | go_num, rfl, Lib.hid (by rw [HC1.out]; exact HX.out), Lib.hid HBW5.out.drew⟩
    · have z5 : ((kn : Int) != 1) = true := by rw [bne_iff_ne]; omega
      have HC1 : Hid (secL s (k + 1) = secL s k ++ ln_.data.toList) := Lib.hid (secL_keep HSE.out (by show ¬ (kn : Int) = 1; omega))
      have z6 : (1 : Int) ≤ (tk.size : Int) := by have := HT3.out; omega
      have hszX : X.size = (secL s k).length := by rw [HX.out]; rfl
      have hszT : X.size + ln_.size ≤ 401 := by
        have h1 := HLE.out (k + 1)
        rw [HC1.out] at h1
        have h2 := HN.out
        have h3 := HM.out
        have h4 := HNM.out
        have h5 := size_toList ln_
        simp only [List.length_append, List.length_cons, List.length_nil] at h1
        omega
      have z7 : ¬ (9223372036854775807 < X.size + ln_.size) := by omega
      have HI3' := HI3.out
      clear hk1 hszX
      go_wp2_with fail
      rw [← HAA.out, ← HTT.out]
      clear hW5 c0 c1_ d0
      go_roundg (L - (k + 1))
      case measure => omega
      case rel => exact ⟨k + 1, X ++ ln_, by omega, rfl, by first | rfl | exact congrArg (Value.int .i64) (by omega) | go_num, rfl, Lib.hid (by rw [HC1.out, HX.out, sec_str]), Lib.hid HBW5.out.drew⟩
  · obtain rfl : k = L := by omega
    clear hlt hk
    have B13 : Hid (Below w.heap.size w wr) := Lib.hid (ext_trans B12.out HBW.out)
    have hcv : (convert 45 9 (.slice B m c')).run Tryd.prog wr = .ok (.string ⟨bs.toArray⟩) wr := run_str_of_bytes _ _ HM.out.symm Tryd.underlying45 Tryd.underlying5 Tryd.underlying9 (HB.out.below B13.out)
    obtain ⟨S, hS⟩ : ∃ S : ByteArray, (⟨bs.toArray⟩ : ByteArray) = S := ⟨_, rfl⟩
    have hsz : S.size = m := by rw [← hS, ← HM.out]; rfl
    have hXS : X = S ++ ⟨#[10]⟩ := by
      rw [HX.out, HC.out, ← hS]
      refine ba_ext ?_
      simp
    rw [hS] at hcv
    have z7 : ¬ (9223372036854775807 < S.size + 1) := by have := HNM.out; omega
    have hEQ : (X.toList == (S ++ ⟨#[10]⟩).toList) = true := by rw [hXS]; exact beq_self_eq_true _
    clear hS hXS hsz
    go_wp2_with fail
    go_ret
    exact ⟨rfl, B13.out⟩
end Go.Proofs.YtmniggjadfdheaaDoor
