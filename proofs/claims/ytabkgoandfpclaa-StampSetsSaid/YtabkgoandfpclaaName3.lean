
/- strings.ContainsAny of a name; the program's Name and the document's. -/

import Derived.Test.YtabkgoandfpclaaName2

namespace Go.Proofs.Ytabkgoandfpclaa

set_option linter.unusedVariables false

set_option linter.unusedSimpArgs false

open Go.RowKit

/-- does a text hold one of the bytes that no name has? -/
def hasN (l : List UInt8) : Bool := l.any fun c => csN.contains c
theorem hasN_none {l : List UInt8} (h : Lib.NoAny l csN l.length) : hasN l = false := by
  unfold hasN
  rw [List.any_eq_false]
  intro x hx
  obtain ⟨i, hi, rfl⟩ := List.mem_iff_getElem.1 hx
  have := h i l[i] hi (List.getElem?_eq_getElem hi)
  rw [this]
  decide
theorem hasN_hit {l : List UInt8} {i : Nat} {x : UInt8} (h : l[i]? = some x) (hx : csN.contains x = true) : hasN l = true := by
  unfold hasN
  rw [List.any_eq_true]
  exact ⟨x, List.mem_of_getElem? h, hx⟩
theorem csN_low {x : UInt8} (h : csN.contains x = true) : x.toNat < 128 := by
  simp [csN] at h
  rcases h with rfl | rfl | rfl <;> decide

theorem should_any (n : Int) (w : World) : Calls Try.prog 75 #[.int .i64 n] w fun e w' => w = w' ∧ e = .returned (.bool (decide (8 < n))) := by
  go_enter Try.func75, Try.ntmps75
  go_wp2
  go_ret
  exact ⟨rfl, rfl⟩

set_option maxRecDepth 100000 in
set_option maxHeartbeats 2000000 in
theorem indexAny_short (s : ByteArray) (h8 : s.size ≤ 8) (w : World) :
    Calls Try.prog 69 #[.string s, .string ⟨#[0, 47, 10]⟩] w fun e w' => (∃ n : Int, e = .returned (.int .i64 n) ∧ decide (0 ≤ n) = hasN s.data.toList) ∧ Below w.heap.size w w' := by
  have h8z : decide ((8 : Int) < (s.size : Int)) = false := decide_eq_false (by omega)
  have hsl : s.data.toList.length = s.size := (Lib.size_eq s).symm
  have hst : (w.iter s 0).heap[w.heap.size]? = some (.stringIter s 0) := World.iter_heap w s 0
  have hbel : Below w.heap.size w (w.iter s 0) := (Below.refl _ _).alloc (Nat.le_refl _) _
  have HSL := Lib.hid hsl
  clear hsl
  go_enter Try.func69, Try.ntmps69
  go_wp2_with fail
  refine (should_any _ _).mono ?_
  rintro e w' ⟨rfl, rfl⟩
  rw [h8z]
  go_wp2_with fail
  go_loopg [9, 10] s.size (fun gk_ a b wr => ∃ k : Nat, k ≤ s.size ∧ gk_ = s.size - k ∧ wr.heap[w.heap.size]? = some (.stringIter s k) ∧ Below w.heap.size w wr ∧ Hid (Lib.NoAny s.data.toList csN k))
  case atStart => exact ⟨0, by omega, by omega, hst, hbel, Lib.hid (Lib.NoAny.zero _ _)⟩
  case round =>
    clear hst hbel h8z
    obtain ⟨k, hk, rfl, hit, hbel, HN⟩ := hrel
    by_cases hlt : k < s.size
    · obtain ⟨w1, hnx, hit1, hg1⟩ := next_at (P := Try.prog) wr w.heap.size s k hit hlt
      have hb1 := bel_grown hbel hbel.size hg1 (Nat.le_refl _)
      have hmax := decode_max s k
      have hxl : s.data.toList[k]? = some (s[k]'hlt) := Lib.data_getElem? s k hlt
      have hdec : ((s[k]'hlt).toNat < 128 ∧ (Utf8.decode s k) = ((s[k]'hlt).toNat, 1)) ∨ (128 ≤ (Utf8.decode s k).1 ∧ 1 ≤ (Utf8.decode s k).2 ∧ 128 ≤ (s[k]'hlt).toNat) := by
        rcases Nat.lt_or_ge (s[k]'hlt).toNat 128 with h | h
        · exact .inl ⟨h, decode_ascii s k hlt h⟩
        · exact .inr ⟨(decode_high s k hlt h).1, (decode_high s k hlt h).2, h⟩
      have hsp := decode_span s k hlt
      obtain ⟨rr, hrr⟩ : ∃ rr, (Utf8.decode s k).1 = rr := ⟨_, rfl⟩
      obtain ⟨wd, hwd⟩ : ∃ wd, (Utf8.decode s k).2 = wd := ⟨_, rfl⟩
      have hpair : Utf8.decode s k = (rr, wd) := by rw [← hrr, ← hwd]
      rw [hpair] at hnx hit1 hmax hdec hsp
      simp only at hnx hit1 hmax hdec hsp
      -- what the round shows of the bytes that it has gone over
      have hgo : csN.contains (UInt8.ofNat rr) = false ∨ 128 ≤ rr → Lib.NoAny s.data.toList csN (k + wd) ∧ k + wd ≤ s.size ∧ 1 ≤ wd := by
        intro hno
        rcases hdec with ⟨h1, h2⟩ | ⟨h1, h2, h3⟩
        · injection h2 with h2 h2'
          subst h2'
          refine ⟨HN.out.succ hxl ?_, by omega, Nat.le_refl 1⟩
          rcases hno with h | h
          · rw [h2, UInt8.ofNat_toNat] at h; exact h
          · omega
        · have h4 := hsp h3
          refine ⟨fun j b hj hb => ?_, ?_, h2⟩
          · rcases Nat.lt_or_ge j k with h | h
            · exact HN.out j b h hb
            · obtain ⟨hjs, h5⟩ := h4 j h hj
              rw [Bool.eq_false_iff]
              intro hc
              have := csN_low hc
              have hb2 : s.data.toList[j]? = some (s[j]'hjs) := Lib.data_getElem? s j hjs
              rw [hb2] at hb
              cases hb
              have : s.get! j = s[j]'hjs := get_at s j hjs
              rw [this] at h5
              omega
          · rcases Nat.eq_zero_or_pos wd with h | h
            · omega
            · have := (h4 (k + wd - 1) (by omega) (by omega)).1
              omega
      have hhit : csN.contains (UInt8.ofNat rr) = true → rr < 128 → hasN s.data.toList = true := by
        intro hc hr
        rcases hdec with ⟨h1, h2⟩ | ⟨h1, h2, h3⟩
        · injection h2 with h2 h2'
          rw [h2, UInt8.ofNat_toNat] at hc
          exact hasN_hit hxl hc
        · omega
      have HGO := Lib.hid hgo
      have HHIT := Lib.hid hhit
      clear hgo hhit hdec hsp hpair hwd hrr hxl hit hg1
      go_wp2_with fail
      refine (indexRune_any rr hmax w1).mono ?_
      rintro e w2 ⟨⟨n, rfl, hn⟩, hb2⟩
      have hit2 := (hb2.block _ (Array.getElem?_eq_some_iff.1 hit1).1).trans hit1
      have hb12 := hb1.trans (hb2.mono hb1.size)
      have HN12 := Lib.hid hn
      clear hn hit1 hnx hbel hb1 hb2
      by_cases hpos : 0 ≤ n
      · go_wp2_with fail
        go_ret
        refine ⟨⟨_, rfl, ?_⟩, hb12⟩
        have h1 := HN12.out
        rw [decide_eq_true hpos] at h1
        have h2 := (Bool.and_eq_true _ _).mp h1.symm
        rw [HHIT.out h2.2 (of_decide_eq_true h2.1)]
        exact decide_eq_true (by omega)
      · have h1 := HN12.out
        rw [decide_eq_false hpos] at h1
        obtain ⟨h3, h4, h5⟩ := HGO.out (by
          rcases (Bool.and_eq_false_iff.1 h1.symm) with h | h
          · exact .inr (by have := of_decide_eq_false h; omega)
          · exact .inl h)
        have H3 := Lib.hid h3
        clear h1 h3
        go_wp2_with fail
        go_roundg (s.size - (k + wd))
        case measure => omega
        case rel => exact ⟨k + wd, h4, rfl, hit2, hb12, H3⟩
    · obtain rfl : k = s.size := by omega
      have hnx := fun ty => next_stop (P := Try.prog) wr w.heap.size s s.size ty hit (by omega)
      go_wp2_with fail
      go_ret
      exact ⟨⟨_, rfl, by rw [hasN_none (by rw [HSL.out]; exact HN.out)]; rfl⟩, hbel⟩

set_option maxRecDepth 100000 in
set_option maxHeartbeats 2000000 in
theorem indexAny_long (s : ByteArray) (h8 : 8 < s.size) (hm : s.size ≤ 9223372036854775807) (w : World) :
    Calls Try.prog 69 #[.string s, .string ⟨#[0, 47, 10]⟩] w fun e w' => (∃ n : Int, e = .returned (.int .i64 n) ∧ decide (0 ≤ n) = hasN s.data.toList) ∧ Below w.heap.size w w' := by
  have h8z : decide ((8 : Int) < (s.size : Int)) = true := decide_eq_true (by omega)
  have hsl : s.data.toList.length = s.size := (Lib.size_eq s).symm
  have HSL := Lib.hid hsl
  have HZ : Hid (Try.zeroCells102 = Lib.setCells []) := Lib.hid (by kernel_rfl)
  have HAT := Lib.hid (Lib.setCells_at csN)
  obtain ⟨C, hC⟩ : ∃ C, Lib.setCells csN = C := ⟨_, rfl⟩
  have hCs : C.size = 256 := by rw [← hC]; exact Lib.setCells_size csN
  have h1 : C.all (·.oneCell') = true := by rw [← hC]; exact Lib.setCells_one csN
  have HI2 : Hid ((Try.prog.info? 102).map (·.size) = some C.size) := Lib.hid (by rw [hCs]; kernel_rfl)
  have HO := Lib.hid h1
  have HCS := Lib.hid hCs
  rw [hC] at HAT
  have HC := Lib.hid hC
  clear hsl hC hCs h1
  go_enter Try.func69, Try.ntmps69
  go_wp2_with fail
  refine (should_any _ _).mono ?_
  rintro e w' ⟨rfl, rfl⟩
  rw [h8z]
  go_wp2_with fail
  refine (set_any _).mono ?_
  rintro e w1 ⟨rfl, hb1⟩
  rw [HC.out]
  obtain ⟨Wa, hWa⟩ : ∃ Wa, w1.alloc (.cells Try.zeroCells102 102) = Wa := ⟨_, rfl⟩
  have hrow : Wa.heap[w1.heap.size]? = some (.cells (Lib.setCells []) 102 (0, 0)) := by rw [← hWa, HZ.out]; exact heap_alloc_new w1 _
  have hb : Below w1.heap.size w1 Wa := by rw [← hWa]; exact (Below.refl _ _).alloc (Nat.le_refl _) _
  obtain ⟨W2, hW2⟩ : ∃ W2, Wa.setCells w1.heap.size 0 C.toList = W2 := ⟨_, rfl⟩
  have hb2 : Below w1.heap.size w1 W2 := by rw [← hW2]; exact bel_grown hb hb.size (setCells_grown _ _ _ _) (Nat.le_refl _)
  have hrow2 : W2.heap[w1.heap.size]? = some (.cells C 102 (0, 0)) := by
    rw [← hW2]
    have := row_setAll (cs := (Lib.setCells []).toList) (vs := C.toList) (by simpa using hrow) (by simp [HCS.out, Lib.setCells_size])
    simpa using this
  have HTH : Hid (Wa.there w1.heap.size 0 C.size) := Lib.hid (by have := there_of_row hrow; rw [Lib.setCells_size] at this; rw [HCS.out]; exact this)
  have HW2 := Lib.hid hW2
  have HB2 := Lib.hid (ext_trans hb1 hb2)
  have HCA : Hid (∀ x : UInt8, W2.cell? ⟨w1.heap.size, x.toNat, none⟩ = some (.bool (csN.contains x))) := Lib.hid (fun x => by rw [row_cell hrow2]; exact HAT.out x)
  clear hW2 hrow hrow2 hb hb2 hb1
  have HWA := Lib.hid hWa
  clear hWa
  go_wp2_with (first
    | ((with_reducible (refine wpList_store_mid rfl _ _ _ rfl ?_ ?_ ?_ ?_ ?_ ?_ ?_ ?_ ?_)); (exact w1.heap.size); (exact 0); (exact C); (exact rfl); (exact rfl); (first | (rw [HWA.out]; exact HTH.out) | exact HTH.out); (exact HI2.out); (exact HO.out); rw [HWA.out, HW2.out])
    | fail)
  go_loopg [8] s.size (fun g s8 wx => ∃ i : Nat, i ≤ s.size ∧ g = s.size - i ∧ s8 = .int .i64 i ∧ wx = W2 ∧ Hid (Lib.NoAny s.data.toList csN i))
  case atStart => exact ⟨0, by omega, by omega, rfl, rfl, Lib.hid (Lib.NoAny.zero _ _)⟩
  case round =>
    obtain ⟨i, hi, rfl, rfl, rfl, HN⟩ := hrel
    by_cases hlt : i < s.size
    · obtain ⟨x, hx⟩ : ∃ x : UInt8, s[i]'hlt = x := ⟨_, rfl⟩
      have hxl : s.data.toList[i]? = some x := by rw [← hx]; exact Lib.data_getElem? s i hlt
      have Hx := Lib.hid hxl
      have hiz : (i : Int) < (s.size : Int) := by omega
      clear hxl
      go_wp2_with fail
      refine (has_any _ x _ _ (HCA.out x)).mono ?_
      rintro e w' ⟨rfl, rfl⟩
      cases hin : csN.contains x
      · go_wp2_with fail
        go_roundg (s.size - (i + 1))
        case measure => omega
        case rel => exact ⟨i + 1, by omega, rfl, by first | rfl | simp | go_num, rfl, Lib.hid (HN.out.succ Hx.out hin)⟩
      · go_wp2_with fail
        go_ret
        exact ⟨⟨_, rfl, by rw [hasN_hit Hx.out hin]; exact decide_eq_true (by omega)⟩, HB2.out⟩
    · obtain rfl : i = s.size := by omega
      go_wp2_with fail
      go_ret
      exact ⟨⟨_, rfl, by rw [hasN_none (by rw [HSL.out]; exact HN.out)]; rfl⟩, HB2.out⟩

theorem containsAny_any (s : ByteArray) (hm : s.size ≤ 9223372036854775807) (w : World) :
    Calls Try.prog 39 #[.string s, .string ⟨#[0, 47, 10]⟩] w fun e w' => e = .returned (.bool (hasN s.data.toList)) ∧ Below w.heap.size w w' := by
  have h : Calls Try.prog 69 #[.string s, .string ⟨#[0, 47, 10]⟩] w fun e w' => (∃ n : Int, e = .returned (.int .i64 n) ∧ decide (0 ≤ n) = hasN s.data.toList) ∧ Below w.heap.size w w' := by
    rcases Nat.lt_or_ge 8 s.size with h | h
    · exact indexAny_long s h hm w
    · exact indexAny_short s h w
  have H := Lib.hid h
  clear h
  go_enter Try.func39, Try.ntmps39
  go_wp2_with fail
  refine H.out.mono ?_
  rintro e w1 ⟨⟨n, rfl, hn⟩, hb⟩
  have HN := Lib.hid hn
  clear hn
  go_wp2_with fail
  go_ret
  exact ⟨ret_bool HN.out, hb⟩
end Go.Proofs.Ytabkgoandfpclaa
