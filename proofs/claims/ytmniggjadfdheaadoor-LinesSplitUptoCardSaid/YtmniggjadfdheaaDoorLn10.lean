
/- Text. (Printed by wip/genLn10.py.) -/

import Derived.Test.YtmniggjadfdheaaDoorLn9

namespace Go.Proofs.YtmniggjadfdheaaDoor

set_option linter.unusedVariables false

set_option linter.unusedSimpArgs false

set_option linter.unusedSectionVars false

open Go.RowKit

theorem isb_below {B b : Nat} {bs : List Value} {w w' : World} (h : Lib.IsBuilder 61 5 B b bs w) (hb : Below w.heap.size w w') : Lib.IsBuilder 61 5 B b bs w' := by
  have key : ∀ p, Lib.BuilderAt 61 5 B b p bs w → Lib.BuilderAt 61 5 B b p bs w' := by
    rintro p ⟨hB, v, hbk, hown, hne⟩
    exact ⟨hB, v, (hb.block b (Array.getElem?_eq_some_iff.1 hbk).1).trans hbk, own_below hown hb, hne⟩
  rcases h with h | h
  · exact Or.inl (key _ h)
  · exact Or.inr (key _ h)

set_option maxHeartbeats 1000000 in
set_option maxRecDepth 100000 in
theorem string_fresh (b : Nat) (w : World) (h : w.heap[b]? = some (.cells #[.pointer none, .slice none 0 0] 61 (0, 0))) :
    Calls Tryd.prog 34 #[.pointer (some ⟨b, 0, none⟩)] w fun e w' => e = .returned (.string ⟨#[]⟩) ∧ Below w.heap.size w w' := by
  have c1 : w.drew.cell? ⟨b, 1, none⟩ = some (.slice none 0 0) := by
    have : w.drew.heap[b]? = some (.cells #[.pointer none, .slice none 0 0] 61 (0, 0)) := h
    rw [Lib.cell_of_heap this]; rfl
  have hSD : (Builtin.unsafeSliceData_ #[45] 71 #[.slice none 0 0]).run Tryd.prog w.drew = .ok (.pointer none) w.drew := rfl
  have hUS : (Builtin.unsafeString_ #[71, 3] 9 #[.pointer none, .int .i64 0]).run Tryd.prog w.drew = .ok (.string ⟨#[]⟩) w.drew := rfl
  go_enter Tryd.func34, Tryd.ntmps34
  go_wp2
  go_region
  all_goals (go_wp2; go_ret; exact ⟨rfl, (Below.refl _ w).drew⟩)

theorem bin_sadd {P : Program} {t : TypeId} (a b : ByteArray) (w : World) (h : a.size + b.size ≤ 9223372036854775807) : (binOp .add t (.string a) (.string b)).run P w = .ok (.string (a ++ b)) w := by
  simp [binOp, run_string_add_sum w a b h]
/-- the sign of an edit, in a text -/
def signB (k : Int) : UInt8 := if k = 0 then 32 else if k = 1 then 45 else if k = 2 then 43 else 63
/-- an edit's line in a text -/
def lineB (e : EdM) : List UInt8 := (signB e.kind :: e.line.data.toList) ++ if endNL e.line then [] else [10]
/-- a script as a text -/
def textB (s : List EdM) : List UInt8 := s.flatMap lineB
theorem textB_take {s : List EdM} {k : Nat} {e : EdM} (h : s[k]? = some e) : textB (s.take (k + 1)) = textB (s.take k) ++ lineB e := by
  obtain ⟨h1, h2⟩ := List.getElem?_eq_some_iff.1 h
  rw [List.take_succ_eq_append_getElem h1, h2]
  simp [textB]
theorem textB_le (s : List EdM) (k : Nat) : (textB (s.take k)).length ≤ (textB s).length := by
  conv => rhs; rw [← List.take_append_drop k s]
  simp only [textB, List.flatMap_append, List.length_append]
  omega
theorem lineB_size (e : EdM) : e.line.size + 1 ≤ (lineB e).length ∧ (lineB e).length = e.line.size + (if endNL e.line then 1 else 2) := by
  have h := size_toList e.line
  unfold lineB
  constructor
  · simp only [List.length_append, List.length_cons]; omega
  · simp only [List.length_append, List.length_cons]; split <;> simp <;> omega
theorem lineB_ne (e : EdM) : lineB e ≠ [] := by simp [lineB]
theorem sign_line (c : UInt8) (x : ByteArray) : ((⟨#[c]⟩ : ByteArray) ++ x).data.toList = c :: x.data.toList := by simp
theorem sign_size (c : UInt8) (x : ByteArray) : ((⟨#[c]⟩ : ByteArray) ++ x).size = x.size + 1 := by rw [ByteArray.size_append]; show 1 + x.size = _; omega

set_option maxRecDepth 100000 in
set_option maxHeartbeats 8000000 in
theorem text_any' (A : Option Addr) (s : List EdM) (c : Nat) (w : World) (hr : Rd w A (edc s)) (hl : s.length ≤ 1000000) (hlen : (textB s).length ≤ 140737488355328) :
    Calls Tryd.prog 18 #[.slice A s.length c] w fun e w' => e = .returned (.string ⟨(textB s).toArray⟩) ∧ Below w.heap.size w w' := by
  have HR := Lib.hid hr
  have HTL := Lib.hid hlen
  obtain ⟨n, hn⟩ : ∃ n, s.length = n := ⟨_, rfl⟩
  have HN := Lib.hid hn
  rw [hn] at hl ⊢
  obtain ⟨W0, hW0⟩ : ∃ W, w.alloc (.cells #[.pointer none, .slice none 0 0] 61) = W := ⟨_, rfl⟩
  have HIB : Hid (Lib.IsBuilder 61 5 w.heap.size w.heap.size (b8s (textB (s.take 0))) W0) := Lib.hid (by rw [← hW0]; exact Lib.fresh_isBuilder _ _ _)
  obtain ⟨r0_, b0_, s0_⟩ := new_row hW0
  have HFR : Hid (0 = 0 → W0.heap[w.heap.size]? = some (.cells #[.pointer none, .slice none 0 0] 61 (0, 0))) := Lib.hid (fun _ => r0_)
  have HB0 := Lib.hid b0_
  have HS0 : Hid (w.heap.size ≤ W0.heap.size) := Lib.hid (by omega)
  clear hr hn hlen r0_ b0_ s0_
  go_enter Tryd.func18, Tryd.ntmps18
  go_wp2_with fail
  clear hW0
  go_loopg [9] (n * 1) (fun gk_ i wr => ∃ (k : Nat), k ≤ n ∧ gk_ = n - k ∧ i = .int .i64 (k : Int) ∧ Hid (Lib.IsBuilder 61 5 w.heap.size w.heap.size (b8s (textB (s.take k))) wr) ∧ Hid (k = 0 → wr.heap[w.heap.size]? = some (.cells #[.pointer none, .slice none 0 0] 61 (0, 0))) ∧ Hid (Below w.heap.size w wr))
  case atStart => exact ⟨0, by omega, by omega, rfl, HIB, Lib.hid (fun _ => HFR.out trivial), HB0⟩
  case round =>
  obtain ⟨k, hk, rfl, rfl, HBU, HFK, HBW⟩ := hrel
  by_cases hlt : k < n
  · have i1 : (k : Int) < (n : Int) := by omega
    have hlt' : k < s.length := by rw [HN.out]; exact hlt
    have hrd := HR.out.below HBW.out
    obtain ⟨b, off, hA, _⟩ := hrd.all (by rw [edc_len]; omega)
    rw [hA] at hrd
    have HA := Lib.hid hA
    clear hA
    have RS := rd_ed hrd k hlt'
    obtain ⟨⟨kd, ln_⟩, he⟩ : ∃ e, s[k] = e := ⟨_, rfl⟩
    rw [he] at RS
    have HE : Hid (s[k]? = some (⟨kd, ln_⟩ : EdM)) := Lib.hid (by rw [List.getElem?_eq_getElem hlt', he])
    have HRS : Hid (wr.rangeAt b (off + k * 2) [.int .i64 kd, .string ln_]) := Lib.hid RS
    obtain ⟨W5, hW5⟩ : ∃ W, wr.alloc (.cells #[.int .i64 kd, .string ln_] 36) = W := ⟨_, rfl⟩
    obtain ⟨r5, b5, s5⟩ := new_row hW5
    have c0 : W5.cell? ⟨wr.heap.size, 0, none⟩ = some (.int .i64 kd) := row_cell r5 0
    have c1_ : W5.cell? ⟨wr.heap.size, 1, none⟩ = some (.string ln_) := row_cell r5 1
    have HB5 := Lib.hid b5
    have HW5 : Hid (w.heap.size ≤ W5.heap.size ∧ w.heap.size < wr.heap.size) := Lib.hid (by
      have h1 := HBW.out.size
      have h2 : w.heap.size < wr.heap.size := by
        rcases HBU.out with h | h <;> exact h.lt
      omega)
    have HR5 := Lib.hid r5
    clear hrd RS he b5 s5 hlt'
    rw [HA.out]
    have HBW5 := Lib.hid (ext_trans HBW.out HB5.out)
    have HBU5 := Lib.hid (isb_below HBU.out HB5.out)
    have HTK := Lib.hid (textB_take HE.out)
    have HTE := Lib.hid (textB_le s (k + 1))
    have HLZ := Lib.hid (lineB_size (⟨kd, ln_⟩ : EdM))
    have HLEN : Hid ((textB (s.take k)).length + (ln_.size + (if endNL ln_ then 1 else 2)) ≤ 140737488355328) := Lib.hid (by
      have h1 := HTE.out
      have h2 := HTL.out
      have h3 := HLZ.out.2
      rw [HTK.out, List.length_append] at h1
      dsimp only at h3
      omega)
    have HLSZ : Hid (ln_.size + 1 ≤ 140737488355328) := Lib.hid (by
      have h := HLEN.out
      split at h <;> omega)
    clear r5
    by_cases h0 : kd = 0
    · subst h0

      obtain ⟨S_, hS_⟩ : ∃ x, (⟨#[32, 45, 43]⟩ : ByteArray).extract 0 1 ++ ln_ = x := ⟨_, rfl⟩
      have HSZ : Hid (S_.size = ln_.size + 1) := Lib.hid (by rw [← hS_]; exact sign_size 32 _)
      have HSL : Hid (S_.data.toList = 32 :: ln_.data.toList) := Lib.hid (by rw [← hS_]; exact sign_line 32 _)
      have HSS := Lib.hid hS_
      have hsn : ¬ (9223372036854775807 < 1 + ln_.size) := by have := HLSZ.out; omega
      clear hS_
      have HLB : Hid (lineB (⟨0, ln_⟩ : EdM) = S_.data.toList ++ if endNL ln_ then [] else [10]) := Lib.hid (by
        have h := HSL.out
        rw [h]
        simp [lineB, signB])
      have HCW : Hid (∀ w1 w2, Below W5.heap.size W5 w1 → Below w.heap.size w1 w2 → w.heap.size ≤ w1.heap.size) := Lib.hid (fun w1 w2 h1 _ => Nat.le_trans HW5.out.1 h1.size)
      by_cases hnl : endNL ln_ = true
      · have hnl : endNL ln_ = true := by simpa using hnl
        have HNL_ := Lib.hid hnl
        have HTN : Hid (textB (s.take (k + 1)) = textB (s.take k) ++ S_.data.toList) := Lib.hid (by rw [HTK.out, HLB.out, hnl]; simp)
        have HLN2 : Hid ((textB (s.take k)).length + S_.size ≤ 140737488355328) := Lib.hid (by
          have h := HLEN.out
          have h2 := HSZ.out
          rw [hnl] at h
          simp at h
          omega)
        have HWR : Hid (Lib.IsBuilder 61 5 w.heap.size w.heap.size (b8s (textB (s.take k))) W5 ∧ 0 < S_.size ∧ (textB (s.take k)).length + S_.size ≤ 140737488355328 ∧ w.heap.size ≤ W5.heap.size ∧ ln_.size ≤ 9223372036854775807) := Lib.hid ⟨HBU5.out, by rw [HSZ.out]; omega, by have := HLN2.out; omega, HW5.out.1, by have := HLSZ.out; omega⟩
        go_wp2_with (first
          | ((with_reducible (refine wpList_load_cells 36 _ b (off + k * 2) ([.int .i64 0, .string ln_]) HRS.out Tryd.underlying36 rfl info_ed ?_ rfl ?_ ?_)); (exact rfl); (exact rfl)))
        rw [HSS.out]
        refine (writeString_any w.heap.size w.heap.size _ S_ W5 HWR.out.1 HWR.out.2.1 HWR.out.2.2.1 HWR.out.2.2.2.1).mono ?_
        rintro e w1 ⟨rfl, h1, hb1, hok⟩
        have HB1_ := Lib.hid h1
        have HBX := Lib.hid (HBW5.out.trans hb1)
        have HOKX := Lib.hid hok
        have d1 : w1.cell? ⟨wr.heap.size, 1, none⟩ = some (.string ln_) := by
          have := HOKX.out _ _ _ _ (by decide) (by have := HW5.out.2; omega) HR5.out
          rw [Lib.cell_of_heap this]; rfl
        clear h1 hb1 hok hW5 c0 c1_
        go_wp2_with fail
        refine (suffix_any ln_ _ HWR.out.2.2.2.2).mono ?_
        rintro e w2 ⟨rfl, rfl⟩
        rw [HNL_.out]
        go_wp2_with fail
        rw [← HA.out]
        clear d1
        go_roundg (n - (k + 1))
        case measure => omega
        case rel => exact ⟨k + 1, by omega, rfl, by first | rfl | exact congrArg (Value.int .i64) (by omega) | go_num, Lib.hid (by rw [HTN.out]; exact .inr HB1_.out), Lib.hid (fun h => by omega), HBX⟩
      · have hnl : endNL ln_ = false := by simpa using hnl
        have HNL_ := Lib.hid hnl
        have HTN : Hid (textB (s.take (k + 1)) = textB (s.take k) ++ S_.data.toList ++ [10]) := Lib.hid (by rw [HTK.out, HLB.out, hnl]; simp)
        have HLN2 : Hid ((textB (s.take k)).length + S_.size + 1 ≤ 140737488355328) := Lib.hid (by
          have h := HLEN.out
          have h2 := HSZ.out
          rw [hnl] at h
          simp at h
          omega)
        have HWR : Hid (Lib.IsBuilder 61 5 w.heap.size w.heap.size (b8s (textB (s.take k))) W5 ∧ 0 < S_.size ∧ (textB (s.take k)).length + S_.size ≤ 140737488355328 ∧ w.heap.size ≤ W5.heap.size ∧ ln_.size ≤ 9223372036854775807) := Lib.hid ⟨HBU5.out, by rw [HSZ.out]; omega, by have := HLN2.out; omega, HW5.out.1, by have := HLSZ.out; omega⟩
        go_wp2_with (first
          | ((with_reducible (refine wpList_load_cells 36 _ b (off + k * 2) ([.int .i64 0, .string ln_]) HRS.out Tryd.underlying36 rfl info_ed ?_ rfl ?_ ?_)); (exact rfl); (exact rfl)))
        rw [HSS.out]
        refine (writeString_any w.heap.size w.heap.size _ S_ W5 HWR.out.1 HWR.out.2.1 HWR.out.2.2.1 HWR.out.2.2.2.1).mono ?_
        rintro e w1 ⟨rfl, h1, hb1, hok⟩
        have HB1_ := Lib.hid h1
        have HBX := Lib.hid (HBW5.out.trans hb1)
        have HOKX := Lib.hid hok
        have d1 : w1.cell? ⟨wr.heap.size, 1, none⟩ = some (.string ln_) := by
          have := HOKX.out _ _ _ _ (by decide) (by have := HW5.out.2; omega) HR5.out
          rw [Lib.cell_of_heap this]; rfl
        clear h1 hb1 hok hW5 c0 c1_
        go_wp2_with fail
        refine (suffix_any ln_ _ HWR.out.2.2.2.2).mono ?_
        rintro e w2 ⟨rfl, rfl⟩
        rw [HNL_.out]
        go_wp2_with fail
        refine (writeByte_any w.heap.size w.heap.size _ 10 w1 (.inr HB1_.out) (by have := HLN2.out; have := size_toList S_; rw [b8s_length, List.length_append]; omega) HBX.out.size).mono ?_
        rintro e w2 ⟨rfl, h2, hb2⟩
        have HB2_ := Lib.hid h2
        have HBY := Lib.hid (HBX.out.trans hb2)
        clear h2 hb2 d1
        go_wp2_with fail
        rw [← HA.out]
        go_roundg (n - (k + 1))
        case measure => omega
        case rel => exact ⟨k + 1, by omega, rfl, by first | rfl | exact congrArg (Value.int .i64) (by omega) | go_num, Lib.hid (by rw [HTN.out, b8s_append]; exact .inr HB2_.out), Lib.hid (fun h => by omega), HBY⟩
    · by_cases h1 : kd = 1
      · subst h1
        clear h0
        obtain ⟨S_, hS_⟩ : ∃ x, (⟨#[32, 45, 43]⟩ : ByteArray).extract 1 2 ++ ln_ = x := ⟨_, rfl⟩
        have HSZ : Hid (S_.size = ln_.size + 1) := Lib.hid (by rw [← hS_]; exact sign_size 45 _)
        have HSL : Hid (S_.data.toList = 45 :: ln_.data.toList) := Lib.hid (by rw [← hS_]; exact sign_line 45 _)
        have HSS := Lib.hid hS_
        have hsn : ¬ (9223372036854775807 < 1 + ln_.size) := by have := HLSZ.out; omega
        clear hS_
        have HLB : Hid (lineB (⟨1, ln_⟩ : EdM) = S_.data.toList ++ if endNL ln_ then [] else [10]) := Lib.hid (by
          have h := HSL.out
          rw [h]
          simp [lineB, signB])
        have HCW : Hid (∀ w1 w2, Below W5.heap.size W5 w1 → Below w.heap.size w1 w2 → w.heap.size ≤ w1.heap.size) := Lib.hid (fun w1 w2 h1 _ => Nat.le_trans HW5.out.1 h1.size)
        by_cases hnl : endNL ln_ = true
        · have hnl : endNL ln_ = true := by simpa using hnl
          have HNL_ := Lib.hid hnl
          have HTN : Hid (textB (s.take (k + 1)) = textB (s.take k) ++ S_.data.toList) := Lib.hid (by rw [HTK.out, HLB.out, hnl]; simp)
          have HLN2 : Hid ((textB (s.take k)).length + S_.size ≤ 140737488355328) := Lib.hid (by
            have h := HLEN.out
            have h2 := HSZ.out
            rw [hnl] at h
            simp at h
            omega)
          have HWR : Hid (Lib.IsBuilder 61 5 w.heap.size w.heap.size (b8s (textB (s.take k))) W5 ∧ 0 < S_.size ∧ (textB (s.take k)).length + S_.size ≤ 140737488355328 ∧ w.heap.size ≤ W5.heap.size ∧ ln_.size ≤ 9223372036854775807) := Lib.hid ⟨HBU5.out, by rw [HSZ.out]; omega, by have := HLN2.out; omega, HW5.out.1, by have := HLSZ.out; omega⟩
          go_wp2_with (first
            | ((with_reducible (refine wpList_load_cells 36 _ b (off + k * 2) ([.int .i64 1, .string ln_]) HRS.out Tryd.underlying36 rfl info_ed ?_ rfl ?_ ?_)); (exact rfl); (exact rfl)))
          rw [HSS.out]
          refine (writeString_any w.heap.size w.heap.size _ S_ W5 HWR.out.1 HWR.out.2.1 HWR.out.2.2.1 HWR.out.2.2.2.1).mono ?_
          rintro e w1 ⟨rfl, h1, hb1, hok⟩
          have HB1_ := Lib.hid h1
          have HBX := Lib.hid (HBW5.out.trans hb1)
          have HOKX := Lib.hid hok
          have d1 : w1.cell? ⟨wr.heap.size, 1, none⟩ = some (.string ln_) := by
            have := HOKX.out _ _ _ _ (by decide) (by have := HW5.out.2; omega) HR5.out
            rw [Lib.cell_of_heap this]; rfl
          clear h1 hb1 hok hW5 c0 c1_
          go_wp2_with fail
          refine (suffix_any ln_ _ HWR.out.2.2.2.2).mono ?_
          rintro e w2 ⟨rfl, rfl⟩
          rw [HNL_.out]
          go_wp2_with fail
          rw [← HA.out]
          clear d1
          go_roundg (n - (k + 1))
          case measure => omega
          case rel => exact ⟨k + 1, by omega, rfl, by first | rfl | exact congrArg (Value.int .i64) (by omega) | go_num, Lib.hid (by rw [HTN.out]; exact .inr HB1_.out), Lib.hid (fun h => by omega), HBX⟩
        · have hnl : endNL ln_ = false := by simpa using hnl
          have HNL_ := Lib.hid hnl
          have HTN : Hid (textB (s.take (k + 1)) = textB (s.take k) ++ S_.data.toList ++ [10]) := Lib.hid (by rw [HTK.out, HLB.out, hnl]; simp)
          have HLN2 : Hid ((textB (s.take k)).length + S_.size + 1 ≤ 140737488355328) := Lib.hid (by
            have h := HLEN.out
            have h2 := HSZ.out
            rw [hnl] at h
            simp at h
            omega)
          have HWR : Hid (Lib.IsBuilder 61 5 w.heap.size w.heap.size (b8s (textB (s.take k))) W5 ∧ 0 < S_.size ∧ (textB (s.take k)).length + S_.size ≤ 140737488355328 ∧ w.heap.size ≤ W5.heap.size ∧ ln_.size ≤ 9223372036854775807) := Lib.hid ⟨HBU5.out, by rw [HSZ.out]; omega, by have := HLN2.out; omega, HW5.out.1, by have := HLSZ.out; omega⟩
          go_wp2_with (first
            | ((with_reducible (refine wpList_load_cells 36 _ b (off + k * 2) ([.int .i64 1, .string ln_]) HRS.out Tryd.underlying36 rfl info_ed ?_ rfl ?_ ?_)); (exact rfl); (exact rfl)))
          rw [HSS.out]
          refine (writeString_any w.heap.size w.heap.size _ S_ W5 HWR.out.1 HWR.out.2.1 HWR.out.2.2.1 HWR.out.2.2.2.1).mono ?_
          rintro e w1 ⟨rfl, h1, hb1, hok⟩
          have HB1_ := Lib.hid h1
          have HBX := Lib.hid (HBW5.out.trans hb1)
          have HOKX := Lib.hid hok
          have d1 : w1.cell? ⟨wr.heap.size, 1, none⟩ = some (.string ln_) := by
            have := HOKX.out _ _ _ _ (by decide) (by have := HW5.out.2; omega) HR5.out
            rw [Lib.cell_of_heap this]; rfl
          clear h1 hb1 hok hW5 c0 c1_
          go_wp2_with fail
          refine (suffix_any ln_ _ HWR.out.2.2.2.2).mono ?_
          rintro e w2 ⟨rfl, rfl⟩
          rw [HNL_.out]
          go_wp2_with fail
          refine (writeByte_any w.heap.size w.heap.size _ 10 w1 (.inr HB1_.out) (by have := HLN2.out; have := size_toList S_; rw [b8s_length, List.length_append]; omega) HBX.out.size).mono ?_
          rintro e w2 ⟨rfl, h2, hb2⟩
          have HB2_ := Lib.hid h2
          have HBY := Lib.hid (HBX.out.trans hb2)
          clear h2 hb2 d1
          go_wp2_with fail
          rw [← HA.out]
          go_roundg (n - (k + 1))
          case measure => omega
          case rel => exact ⟨k + 1, by omega, rfl, by first | rfl | exact congrArg (Value.int .i64) (by omega) | go_num, Lib.hid (by rw [HTN.out, b8s_append]; exact .inr HB2_.out), Lib.hid (fun h => by omega), HBY⟩
      · by_cases h2 : kd = 2
        · subst h2
          clear h0 h1
          obtain ⟨S_, hS_⟩ : ∃ x, (⟨#[32, 45, 43]⟩ : ByteArray).extract 2 3 ++ ln_ = x := ⟨_, rfl⟩
          have HSZ : Hid (S_.size = ln_.size + 1) := Lib.hid (by rw [← hS_]; exact sign_size 43 _)
          have HSL : Hid (S_.data.toList = 43 :: ln_.data.toList) := Lib.hid (by rw [← hS_]; exact sign_line 43 _)
          have HSS := Lib.hid hS_
          have hsn : ¬ (9223372036854775807 < 1 + ln_.size) := by have := HLSZ.out; omega
          clear hS_
          have HLB : Hid (lineB (⟨2, ln_⟩ : EdM) = S_.data.toList ++ if endNL ln_ then [] else [10]) := Lib.hid (by
            have h := HSL.out
            rw [h]
            simp [lineB, signB])
          have HCW : Hid (∀ w1 w2, Below W5.heap.size W5 w1 → Below w.heap.size w1 w2 → w.heap.size ≤ w1.heap.size) := Lib.hid (fun w1 w2 h1 _ => Nat.le_trans HW5.out.1 h1.size)
          by_cases hnl : endNL ln_ = true
          · have hnl : endNL ln_ = true := by simpa using hnl
            have HNL_ := Lib.hid hnl
            have HTN : Hid (textB (s.take (k + 1)) = textB (s.take k) ++ S_.data.toList) := Lib.hid (by rw [HTK.out, HLB.out, hnl]; simp)
            have HLN2 : Hid ((textB (s.take k)).length + S_.size ≤ 140737488355328) := Lib.hid (by
              have h := HLEN.out
              have h2 := HSZ.out
              rw [hnl] at h
              simp at h
              omega)
            have HWR : Hid (Lib.IsBuilder 61 5 w.heap.size w.heap.size (b8s (textB (s.take k))) W5 ∧ 0 < S_.size ∧ (textB (s.take k)).length + S_.size ≤ 140737488355328 ∧ w.heap.size ≤ W5.heap.size ∧ ln_.size ≤ 9223372036854775807) := Lib.hid ⟨HBU5.out, by rw [HSZ.out]; omega, by have := HLN2.out; omega, HW5.out.1, by have := HLSZ.out; omega⟩
            go_wp2_with (first
              | ((with_reducible (refine wpList_load_cells 36 _ b (off + k * 2) ([.int .i64 2, .string ln_]) HRS.out Tryd.underlying36 rfl info_ed ?_ rfl ?_ ?_)); (exact rfl); (exact rfl)))
            rw [HSS.out]
            refine (writeString_any w.heap.size w.heap.size _ S_ W5 HWR.out.1 HWR.out.2.1 HWR.out.2.2.1 HWR.out.2.2.2.1).mono ?_
            rintro e w1 ⟨rfl, h1, hb1, hok⟩
            have HB1_ := Lib.hid h1
            have HBX := Lib.hid (HBW5.out.trans hb1)
            have HOKX := Lib.hid hok
            have d1 : w1.cell? ⟨wr.heap.size, 1, none⟩ = some (.string ln_) := by
              have := HOKX.out _ _ _ _ (by decide) (by have := HW5.out.2; omega) HR5.out
              rw [Lib.cell_of_heap this]; rfl
            clear h1 hb1 hok hW5 c0 c1_
            go_wp2_with fail
            refine (suffix_any ln_ _ HWR.out.2.2.2.2).mono ?_
            rintro e w2 ⟨rfl, rfl⟩
            rw [HNL_.out]
            go_wp2_with fail
            rw [← HA.out]
            clear d1
            go_roundg (n - (k + 1))
            case measure => omega
            case rel => exact ⟨k + 1, by omega, rfl, by first | rfl | exact congrArg (Value.int .i64) (by omega) | go_num, Lib.hid (by rw [HTN.out]; exact .inr HB1_.out), Lib.hid (fun h => by omega), HBX⟩
          · have hnl : endNL ln_ = false := by simpa using hnl
            have HNL_ := Lib.hid hnl
            have HTN : Hid (textB (s.take (k + 1)) = textB (s.take k) ++ S_.data.toList ++ [10]) := Lib.hid (by rw [HTK.out, HLB.out, hnl]; simp)
            have HLN2 : Hid ((textB (s.take k)).length + S_.size + 1 ≤ 140737488355328) := Lib.hid (by
              have h := HLEN.out
              have h2 := HSZ.out
              rw [hnl] at h
              simp at h
              omega)
            have HWR : Hid (Lib.IsBuilder 61 5 w.heap.size w.heap.size (b8s (textB (s.take k))) W5 ∧ 0 < S_.size ∧ (textB (s.take k)).length + S_.size ≤ 140737488355328 ∧ w.heap.size ≤ W5.heap.size ∧ ln_.size ≤ 9223372036854775807) := Lib.hid ⟨HBU5.out, by rw [HSZ.out]; omega, by have := HLN2.out; omega, HW5.out.1, by have := HLSZ.out; omega⟩
            go_wp2_with (first
              | ((with_reducible (refine wpList_load_cells 36 _ b (off + k * 2) ([.int .i64 2, .string ln_]) HRS.out Tryd.underlying36 rfl info_ed ?_ rfl ?_ ?_)); (exact rfl); (exact rfl)))
            rw [HSS.out]
            refine (writeString_any w.heap.size w.heap.size _ S_ W5 HWR.out.1 HWR.out.2.1 HWR.out.2.2.1 HWR.out.2.2.2.1).mono ?_
            rintro e w1 ⟨rfl, h1, hb1, hok⟩
            have HB1_ := Lib.hid h1
            have HBX := Lib.hid (HBW5.out.trans hb1)
            have HOKX := Lib.hid hok
            have d1 : w1.cell? ⟨wr.heap.size, 1, none⟩ = some (.string ln_) := by
              have := HOKX.out _ _ _ _ (by decide) (by have := HW5.out.2; omega) HR5.out
              rw [Lib.cell_of_heap this]; rfl
            clear h1 hb1 hok hW5 c0 c1_
            go_wp2_with fail
            refine (suffix_any ln_ _ HWR.out.2.2.2.2).mono ?_
            rintro e w2 ⟨rfl, rfl⟩
            rw [HNL_.out]
            go_wp2_with fail
            refine (writeByte_any w.heap.size w.heap.size _ 10 w1 (.inr HB1_.out) (by have := HLN2.out; have := size_toList S_; rw [b8s_length, List.length_append]; omega) HBX.out.size).mono ?_
            rintro e w2 ⟨rfl, h2, hb2⟩
            have HB2_ := Lib.hid h2
            have HBY := Lib.hid (HBX.out.trans hb2)
            clear h2 hb2 d1
            go_wp2_with fail
            rw [← HA.out]
            go_roundg (n - (k + 1))
            case measure => omega
            case rel => exact ⟨k + 1, by omega, rfl, by first | rfl | exact congrArg (Value.int .i64) (by omega) | go_num, Lib.hid (by rw [HTN.out, b8s_append]; exact .inr HB2_.out), Lib.hid (fun h => by omega), HBY⟩
        · have HK0 : Hid (¬ kd = 0 ∧ ¬ kd = 1 ∧ ¬ kd = 2) := Lib.hid ⟨h0, h1, h2⟩
          by_cases h3 : kd < 0
          · have h4 : ¬ (0 ≤ kd) := by omega
            clear h0 h1 h2
            obtain ⟨S_, hS_⟩ : ∃ x, (⟨#[63]⟩ : ByteArray) ++ ln_ = x := ⟨_, rfl⟩
            have HSZ : Hid (S_.size = ln_.size + 1) := Lib.hid (by rw [← hS_]; exact sign_size 63 _)
            have HSL : Hid (S_.data.toList = 63 :: ln_.data.toList) := Lib.hid (by rw [← hS_]; exact sign_line 63 _)
            have HSS := Lib.hid hS_
            have hsn : ¬ (9223372036854775807 < 1 + ln_.size) := by have := HLSZ.out; omega
            clear hS_
            have HLB : Hid (lineB (⟨kd, ln_⟩ : EdM) = S_.data.toList ++ if endNL ln_ then [] else [10]) := Lib.hid (by
              have h := HSL.out
              rw [h]
              simp [lineB, signB, HK0.out.1, HK0.out.2.1, HK0.out.2.2])
            have HCW : Hid (∀ w1 w2, Below W5.heap.size W5 w1 → Below w.heap.size w1 w2 → w.heap.size ≤ w1.heap.size) := Lib.hid (fun w1 w2 h1 _ => Nat.le_trans HW5.out.1 h1.size)
            by_cases hnl : endNL ln_ = true
            · have hnl : endNL ln_ = true := by simpa using hnl
              have HNL_ := Lib.hid hnl
              have HTN : Hid (textB (s.take (k + 1)) = textB (s.take k) ++ S_.data.toList) := Lib.hid (by rw [HTK.out, HLB.out, hnl]; simp)
              have HLN2 : Hid ((textB (s.take k)).length + S_.size ≤ 140737488355328) := Lib.hid (by
                have h := HLEN.out
                have h2 := HSZ.out
                rw [hnl] at h
                simp at h
                omega)
              have HWR : Hid (Lib.IsBuilder 61 5 w.heap.size w.heap.size (b8s (textB (s.take k))) W5 ∧ 0 < S_.size ∧ (textB (s.take k)).length + S_.size ≤ 140737488355328 ∧ w.heap.size ≤ W5.heap.size ∧ ln_.size ≤ 9223372036854775807) := Lib.hid ⟨HBU5.out, by rw [HSZ.out]; omega, by have := HLN2.out; omega, HW5.out.1, by have := HLSZ.out; omega⟩
              go_wp2_with (first
                | ((with_reducible (refine wpList_load_cells 36 _ b (off + k * 2) ([.int .i64 kd, .string ln_]) HRS.out Tryd.underlying36 rfl info_ed ?_ rfl ?_ ?_)); (exact rfl); (exact rfl)))
              rw [HSS.out]
              refine (writeString_any w.heap.size w.heap.size _ S_ W5 HWR.out.1 HWR.out.2.1 HWR.out.2.2.1 HWR.out.2.2.2.1).mono ?_
              rintro e w1 ⟨rfl, h1, hb1, hok⟩
              have HB1_ := Lib.hid h1
              have HBX := Lib.hid (HBW5.out.trans hb1)
              have HOKX := Lib.hid hok
              have d1 : w1.cell? ⟨wr.heap.size, 1, none⟩ = some (.string ln_) := by
                have := HOKX.out _ _ _ _ (by decide) (by have := HW5.out.2; omega) HR5.out
                rw [Lib.cell_of_heap this]; rfl
              clear h1 hb1 hok hW5 c0 c1_
              go_wp2_with fail
              refine (suffix_any ln_ _ HWR.out.2.2.2.2).mono ?_
              rintro e w2 ⟨rfl, rfl⟩
              rw [HNL_.out]
              go_wp2_with fail
              rw [← HA.out]
              clear d1
              go_roundg (n - (k + 1))
              case measure => omega
              case rel => exact ⟨k + 1, by omega, rfl, by first | rfl | exact congrArg (Value.int .i64) (by omega) | go_num, Lib.hid (by rw [HTN.out]; exact .inr HB1_.out), Lib.hid (fun h => by omega), HBX⟩
            · have hnl : endNL ln_ = false := by simpa using hnl
              have HNL_ := Lib.hid hnl
              have HTN : Hid (textB (s.take (k + 1)) = textB (s.take k) ++ S_.data.toList ++ [10]) := Lib.hid (by rw [HTK.out, HLB.out, hnl]; simp)
              have HLN2 : Hid ((textB (s.take k)).length + S_.size + 1 ≤ 140737488355328) := Lib.hid (by
                have h := HLEN.out
                have h2 := HSZ.out
                rw [hnl] at h
                simp at h
                omega)
              have HWR : Hid (Lib.IsBuilder 61 5 w.heap.size w.heap.size (b8s (textB (s.take k))) W5 ∧ 0 < S_.size ∧ (textB (s.take k)).length + S_.size ≤ 140737488355328 ∧ w.heap.size ≤ W5.heap.size ∧ ln_.size ≤ 9223372036854775807) := Lib.hid ⟨HBU5.out, by rw [HSZ.out]; omega, by have := HLN2.out; omega, HW5.out.1, by have := HLSZ.out; omega⟩
              go_wp2_with (first
                | ((with_reducible (refine wpList_load_cells 36 _ b (off + k * 2) ([.int .i64 kd, .string ln_]) HRS.out Tryd.underlying36 rfl info_ed ?_ rfl ?_ ?_)); (exact rfl); (exact rfl)))
              rw [HSS.out]
              refine (writeString_any w.heap.size w.heap.size _ S_ W5 HWR.out.1 HWR.out.2.1 HWR.out.2.2.1 HWR.out.2.2.2.1).mono ?_
              rintro e w1 ⟨rfl, h1, hb1, hok⟩
              have HB1_ := Lib.hid h1
              have HBX := Lib.hid (HBW5.out.trans hb1)
              have HOKX := Lib.hid hok
              have d1 : w1.cell? ⟨wr.heap.size, 1, none⟩ = some (.string ln_) := by
                have := HOKX.out _ _ _ _ (by decide) (by have := HW5.out.2; omega) HR5.out
                rw [Lib.cell_of_heap this]; rfl
              clear h1 hb1 hok hW5 c0 c1_
              go_wp2_with fail
              refine (suffix_any ln_ _ HWR.out.2.2.2.2).mono ?_
              rintro e w2 ⟨rfl, rfl⟩
              rw [HNL_.out]
              go_wp2_with fail
              refine (writeByte_any w.heap.size w.heap.size _ 10 w1 (.inr HB1_.out) (by have := HLN2.out; have := size_toList S_; rw [b8s_length, List.length_append]; omega) HBX.out.size).mono ?_
              rintro e w2 ⟨rfl, h2, hb2⟩
              have HB2_ := Lib.hid h2
              have HBY := Lib.hid (HBX.out.trans hb2)
              clear h2 hb2 d1
              go_wp2_with fail
              rw [← HA.out]
              go_roundg (n - (k + 1))
              case measure => omega
              case rel => exact ⟨k + 1, by omega, rfl, by first | rfl | exact congrArg (Value.int .i64) (by omega) | go_num, Lib.hid (by rw [HTN.out, b8s_append]; exact .inr HB2_.out), Lib.hid (fun h => by omega), HBY⟩
          · have h4 : 0 ≤ kd := by omega
            have h5 : ¬ (kd ≤ 2) := by omega
            clear h0 h1 h2
            obtain ⟨S_, hS_⟩ : ∃ x, (⟨#[63]⟩ : ByteArray) ++ ln_ = x := ⟨_, rfl⟩
            have HSZ : Hid (S_.size = ln_.size + 1) := Lib.hid (by rw [← hS_]; exact sign_size 63 _)
            have HSL : Hid (S_.data.toList = 63 :: ln_.data.toList) := Lib.hid (by rw [← hS_]; exact sign_line 63 _)
            have HSS := Lib.hid hS_
            have hsn : ¬ (9223372036854775807 < 1 + ln_.size) := by have := HLSZ.out; omega
            clear hS_
            have HLB : Hid (lineB (⟨kd, ln_⟩ : EdM) = S_.data.toList ++ if endNL ln_ then [] else [10]) := Lib.hid (by
              have h := HSL.out
              rw [h]
              simp [lineB, signB, HK0.out.1, HK0.out.2.1, HK0.out.2.2])
            have HCW : Hid (∀ w1 w2, Below W5.heap.size W5 w1 → Below w.heap.size w1 w2 → w.heap.size ≤ w1.heap.size) := Lib.hid (fun w1 w2 h1 _ => Nat.le_trans HW5.out.1 h1.size)
            by_cases hnl : endNL ln_ = true
            · have hnl : endNL ln_ = true := by simpa using hnl
              have HNL_ := Lib.hid hnl
              have HTN : Hid (textB (s.take (k + 1)) = textB (s.take k) ++ S_.data.toList) := Lib.hid (by rw [HTK.out, HLB.out, hnl]; simp)
              have HLN2 : Hid ((textB (s.take k)).length + S_.size ≤ 140737488355328) := Lib.hid (by
                have h := HLEN.out
                have h2 := HSZ.out
                rw [hnl] at h
                simp at h
                omega)
              have HWR : Hid (Lib.IsBuilder 61 5 w.heap.size w.heap.size (b8s (textB (s.take k))) W5 ∧ 0 < S_.size ∧ (textB (s.take k)).length + S_.size ≤ 140737488355328 ∧ w.heap.size ≤ W5.heap.size ∧ ln_.size ≤ 9223372036854775807) := Lib.hid ⟨HBU5.out, by rw [HSZ.out]; omega, by have := HLN2.out; omega, HW5.out.1, by have := HLSZ.out; omega⟩
              go_wp2_with (first
                | ((with_reducible (refine wpList_load_cells 36 _ b (off + k * 2) ([.int .i64 kd, .string ln_]) HRS.out Tryd.underlying36 rfl info_ed ?_ rfl ?_ ?_)); (exact rfl); (exact rfl)))
              rw [HSS.out]
              refine (writeString_any w.heap.size w.heap.size _ S_ W5 HWR.out.1 HWR.out.2.1 HWR.out.2.2.1 HWR.out.2.2.2.1).mono ?_
              rintro e w1 ⟨rfl, h1, hb1, hok⟩
              have HB1_ := Lib.hid h1
              have HBX := Lib.hid (HBW5.out.trans hb1)
              have HOKX := Lib.hid hok
              have d1 : w1.cell? ⟨wr.heap.size, 1, none⟩ = some (.string ln_) := by
                have := HOKX.out _ _ _ _ (by decide) (by have := HW5.out.2; omega) HR5.out
                rw [Lib.cell_of_heap this]; rfl
              clear h1 hb1 hok hW5 c0 c1_
              go_wp2_with fail
              refine (suffix_any ln_ _ HWR.out.2.2.2.2).mono ?_
              rintro e w2 ⟨rfl, rfl⟩
              rw [HNL_.out]
              go_wp2_with fail
              rw [← HA.out]
              clear d1
              go_roundg (n - (k + 1))
              case measure => omega
              case rel => exact ⟨k + 1, by omega, rfl, by first | rfl | exact congrArg (Value.int .i64) (by omega) | go_num, Lib.hid (by rw [HTN.out]; exact .inr HB1_.out), Lib.hid (fun h => by omega), HBX⟩
            · have hnl : endNL ln_ = false := by simpa using hnl
              have HNL_ := Lib.hid hnl
              have HTN : Hid (textB (s.take (k + 1)) = textB (s.take k) ++ S_.data.toList ++ [10]) := Lib.hid (by rw [HTK.out, HLB.out, hnl]; simp)
              have HLN2 : Hid ((textB (s.take k)).length + S_.size + 1 ≤ 140737488355328) := Lib.hid (by
                have h := HLEN.out
                have h2 := HSZ.out
                rw [hnl] at h
                simp at h
                omega)
              have HWR : Hid (Lib.IsBuilder 61 5 w.heap.size w.heap.size (b8s (textB (s.take k))) W5 ∧ 0 < S_.size ∧ (textB (s.take k)).length + S_.size ≤ 140737488355328 ∧ w.heap.size ≤ W5.heap.size ∧ ln_.size ≤ 9223372036854775807) := Lib.hid ⟨HBU5.out, by rw [HSZ.out]; omega, by have := HLN2.out; omega, HW5.out.1, by have := HLSZ.out; omega⟩
              go_wp2_with (first
                | ((with_reducible (refine wpList_load_cells 36 _ b (off + k * 2) ([.int .i64 kd, .string ln_]) HRS.out Tryd.underlying36 rfl info_ed ?_ rfl ?_ ?_)); (exact rfl); (exact rfl)))
              rw [HSS.out]
              refine (writeString_any w.heap.size w.heap.size _ S_ W5 HWR.out.1 HWR.out.2.1 HWR.out.2.2.1 HWR.out.2.2.2.1).mono ?_
              rintro e w1 ⟨rfl, h1, hb1, hok⟩
              have HB1_ := Lib.hid h1
              have HBX := Lib.hid (HBW5.out.trans hb1)
              have HOKX := Lib.hid hok
              have d1 : w1.cell? ⟨wr.heap.size, 1, none⟩ = some (.string ln_) := by
                have := HOKX.out _ _ _ _ (by decide) (by have := HW5.out.2; omega) HR5.out
                rw [Lib.cell_of_heap this]; rfl
              clear h1 hb1 hok hW5 c0 c1_
              go_wp2_with fail
              refine (suffix_any ln_ _ HWR.out.2.2.2.2).mono ?_
              rintro e w2 ⟨rfl, rfl⟩
              rw [HNL_.out]
              go_wp2_with fail
              refine (writeByte_any w.heap.size w.heap.size _ 10 w1 (.inr HB1_.out) (by have := HLN2.out; have := size_toList S_; rw [b8s_length, List.length_append]; omega) HBX.out.size).mono ?_
              rintro e w2 ⟨rfl, h2, hb2⟩
              have HB2_ := Lib.hid h2
              have HBY := Lib.hid (HBX.out.trans hb2)
              clear h2 hb2 d1
              go_wp2_with fail
              rw [← HA.out]
              go_roundg (n - (k + 1))
              case measure => omega
              case rel => exact ⟨k + 1, by omega, rfl, by first | rfl | exact congrArg (Value.int .i64) (by omega) | go_num, Lib.hid (by rw [HTN.out, b8s_append]; exact .inr HB2_.out), Lib.hid (fun h => by omega), HBY⟩
  · obtain rfl : k = n := by omega
    clear hlt hk
    have HTF : Hid (textB (s.take k) = textB s) := Lib.hid (by rw [← HN.out, List.take_length])
    rcases Nat.eq_zero_or_pos k with h0 | h0
    · have HF_ := Lib.hid (HFK.out h0)
      have HTZ : Hid (textB s = []) := Lib.hid (by
        have h := HN.out
        have : s = [] := List.eq_nil_of_length_eq_zero (by omega)
        rw [this]; rfl)
      clear h0
      go_wp2_with fail
      refine (string_fresh w.heap.size wr HF_.out).mono ?_
      rintro e w1 ⟨rfl, hb1⟩
      have HB1_ := Lib.hid hb1
      clear hb1
      go_wp2_with fail
      go_ret
      exact ⟨by rw [HTZ.out]; rfl, ext_trans HBW.out HB1_.out⟩
    · have HNE : Hid (textB s ≠ []) := Lib.hid (by
        have h := HN.out
        cases s with
        | nil => simp at h; omega
        | cons e r => simp [textB, lineB])
      have HBV : Hid (Lib.IsBuilder 61 5 w.heap.size w.heap.size (b8s (textB s)) wr) := Lib.hid (by rw [← HTF.out]; exact HBU.out)
      clear h0
      go_wp2_with fail
      refine (string_any w.heap.size w.heap.size _ wr HBV.out HNE.out).mono ?_
      rintro e w1 ⟨rfl, hb1⟩
      have HB1_ := Lib.hid hb1
      clear hb1
      go_wp2_with fail
      go_ret
      exact ⟨rfl, HBW.out.trans HB1_.out⟩
end Go.Proofs.YtmniggjadfdheaaDoor
