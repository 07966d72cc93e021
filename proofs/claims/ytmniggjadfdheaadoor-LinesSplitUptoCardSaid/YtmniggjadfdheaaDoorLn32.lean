
/- strings.Join with no separator; lines.Join. -/

import Derived.Test.YtmniggjadfdheaaDoorLn31

namespace Go.Proofs.YtmniggjadfdheaaDoor

set_option linter.unusedVariables false

set_option linter.unusedSimpArgs false

set_option linter.unusedSectionVars false

open Go.RowKit

/-- strings, joined -/
def catB (xs : List ByteArray) : List UInt8 := (xs.map (·.data.toList)).flatten
theorem catB_app (xs ys : List ByteArray) : catB (xs ++ ys) = catB xs ++ catB ys := by simp [catB]
theorem catB_take {xs : List ByteArray} {k : Nat} {x : ByteArray} (h : xs[k]? = some x) : catB (xs.take (k + 1)) = catB (xs.take k) ++ x.data.toList := by
  obtain ⟨h1, h2⟩ := List.getElem?_eq_some_iff.1 h
  rw [List.take_succ_eq_append_getElem h1, h2, catB_app]
  simp [catB]
theorem catB_le (xs : List ByteArray) (k : Nat) : (catB (xs.take k)).length ≤ (catB xs).length := by
  conv => rhs; rw [← List.take_append_drop k xs, catB_app]
  rw [List.length_append]
  omega
theorem catB_ne {xs : List ByteArray} (h : xs ≠ []) (hp : ∀ x ∈ xs, 0 < x.size) : catB xs ≠ [] := by
  cases xs with
  | nil => exact absurd rfl h
  | cons x xs =>
    have := hp x (by simp)
    have h2 := size_toList x
    intro e
    have e2 : (catB ([x] ++ xs)).length = 0 := congrArg List.length e
    have e3 : catB [x] = x.data.toList := by simp [catB]
    rw [catB_app, List.length_append, e3, h2] at e2
    omega

set_option maxHeartbeats 4000000 in
set_option maxRecDepth 100000 in
theorem sjoin_any (A : Option Addr) (xs : List ByteArray) (c : Nat) (w : World) (hr : Rd w A (sts xs)) (hc : xs.length ≤ c) (hcm : c ≤ maxLen) (hp : ∀ x ∈ xs, 0 < x.size) (hl : (catB xs).length ≤ 140737488355328) :
    Calls Tryd.prog 37 #[.slice A xs.length c, .string ⟨#[]⟩] w fun e w' => e = .returned (.string ⟨(catB xs).toArray⟩) ∧ Below w.heap.size w w' := by
  unfold maxLen at hcm
  rcases xs with _ | ⟨x0, _ | ⟨x1, xr⟩⟩
  · change Calls _ _ #[.slice A 0 c, _] w _
    go_enter Tryd.func37, Tryd.ntmps37
    go_wp2_with fail
    go_ret
    exact ⟨rfl, Below.refl _ _⟩
  · obtain ⟨b, o, rfl, hcell⟩ := hr 0 _ rfl
    change Calls _ _ #[.slice (some ⟨b, o, none⟩) 1 c, _] w _
    change w.cell? ⟨b, o, none⟩ = some (.string x0) at hcell
    go_enter Tryd.func37, Tryd.ntmps37
    go_wp2_with fail
    go_ret
    refine ⟨?_, Below.refl _ _⟩
    have e : x0 = ⟨(catB [x0]).toArray⟩ := ba_ext (by simp [catB])
    rw [← e]
    rfl
  obtain ⟨xs, hxs⟩ : ∃ xs, xs = x0 :: x1 :: xr := ⟨_, rfl⟩
  have h2 : 2 ≤ xs.length := by rw [hxs]; simp
  have HX0 : Hid (xs[0]? = some x0) := Lib.hid (by rw [hxs]; rfl)
  rw [← hxs] at hr hc hp hl ⊢
  clear hxs
  obtain ⟨n, hn⟩ : ∃ n, xs.length = n := ⟨_, rfl⟩
  have HN := Lib.hid hn
  obtain ⟨b, o, hA, _⟩ := hr.all (by rw [sts_len]; omega)
  subst hA
  have HR := Lib.hid hr
  have HP := Lib.hid hp
  obtain ⟨T, hT⟩ : ∃ T, (catB xs).length = T := ⟨_, rfl⟩
  have HT := Lib.hid hT
  rw [hT] at hl
  rw [hn] at h2 hc ⊢
  have z0 : ((n : Int) == 0) = false := by rw [beq_eq_false_iff_ne]; omega
  have z1 : ((n : Int) == 1) = false := by rw [beq_eq_false_iff_ne]; omega
  have hc1 : ¬ c = 1 := by omega
  have c00 : w.cell? ⟨b, o, none⟩ = some (.string x0) := by
    have := rd_range hr 0 (.string x0) (by
      have h := HX0.out
      rw [sts, List.getElem?_map, h]; rfl)
    exact this
  have C00 := Lib.hid c00
  clear hr hn hT hp c00
  obtain ⟨w2, hw2⟩ : ∃ x, x = w := ⟨_, rfl⟩
  subst hw2
  go_enter Tryd.func37, Tryd.ntmps37
  go_wp2_with fail
  go_loopg [5, 41] (n * 1) (fun gk_ nv i wr => ∃ (k m : Nat), k ≤ n ∧ gk_ = n - k ∧ i = .int .i64 (k : Int) ∧ nv = .int .i64 (m : Int) ∧ m ≤ T ∧ Hid (m = (catB (xs.take k)).length) ∧ wr = w2)
  case atStart => exact ⟨0, 0, by omega, by omega, rfl, rfl, by omega, Lib.hid rfl, rfl⟩
  case round =>
  obtain ⟨k, m, hk, rfl, rfl, rfl, hmT, HM, rfl⟩ := hrel
  by_cases hlt : k < n
  · have i1 : (k : Int) < (n : Int) := by omega
    have hlt' : k < xs.length := by rw [HN.out]; exact hlt
    obtain ⟨bA, oA, hA1, hA2⟩ := HR.out k _ (sts_get xs k hlt')
    cases hA1
    obtain ⟨x, hx⟩ : ∃ x, xs[k] = x := ⟨_, rfl⟩
    rw [hx] at hA2
    have hstep : (catB (xs.take (k + 1))).length = m + x.size := by
      rw [catB_take (x := x) (by rw [List.getElem?_eq_getElem hlt', hx]), List.length_append, size_toList, HM.out]
    have hle := catB_le xs (k + 1)
    rw [hstep, HT.out] at hle
    have HST := Lib.hid hstep
    clear hstep hlt' hx
    go_wp2_with fail
    clear hA2
    go_roundg (n - (k + 1))
    case measure => omega
    case rel => exact ⟨k + 1, m + x.size, by omega, rfl, by first | rfl | exact congrArg (Value.int .i64) (by omega) | go_num, by first | rfl | exact congrArg (Value.int .i64) (by omega) | go_num, hle, Lib.hid HST.out.symm, rfl⟩
  obtain rfl : k = n := by omega
  have hmT' : m = T := by rw [HM.out, ← HN.out, List.take_length, HT.out]
  subst hmT'
  clear hlt hk HM hmT
  obtain ⟨w3, hw3⟩ : ∃ x, x = wr := ⟨_, rfl⟩
  subst hw3
  go_wp2_with fail
  refine (Grow_fresh w3.heap.size w3.heap.size m _ (Nat.le_refl _) (heap_alloc_new w3 _) (by simp) (by omega)).mono ?_
  rintro e w4 ⟨rfl, h4, hb4⟩
  have B4 : Hid (Below w3.heap.size w3 w4) := Lib.hid (((Below.refl w3.heap.size w3).alloc (Nat.le_refl _) _).trans hb4)
  have HB4 : Hid (Lib.IsBuilder 61 5 w3.heap.size w3.heap.size (b8s []) w4) := Lib.hid (.inr h4)
  have hb0 : b < w3.heap.size := World.block_lt_of_cell? _ _ C00.out
  have c04 : w4.cell? ⟨b, o, none⟩ = some (.string x0) := cell_below C00.out hb0 B4.out
  have HB0 := Lib.hid hb0
  clear h4 hb4 hb0
  go_wp2_with fail
  have HC0 : Hid ((catB (xs.take 1)) = [] ++ x0.data.toList ∧ x0.size ≤ m) := Lib.hid (by
    have h := catB_take HX0.out
    refine ⟨h, ?_⟩
    have h1 := catB_le xs 1
    rw [h, HT.out, List.length_append, size_toList] at h1
    omega)
  refine (writeString0_any w3.heap.size w3.heap.size [] x0 w4 HB4.out (by have := HC0.out.2; simp; omega) B4.out.size).mono ?_
  rintro e w5 ⟨rfl, h5, hb5⟩
  have B5 : Hid (Below w3.heap.size w3 w5) := Lib.hid (B4.out.trans hb5)
  have HB5 : Hid (Lib.IsBuilder 61 5 w3.heap.size w3.heap.size (b8s (catB (xs.take (0 + 1)))) w5) := Lib.hid (by rw [show 0 + 1 = 1 from rfl, HC0.out.1]; exact .inr h5)
  clear h5 hb5 c04
  go_wp2_with fail
  go_loopg [65] ((k - 1) * 1) (fun gk_ i wr => ∃ (j : Nat), j ≤ k - 1 ∧ gk_ = k - 1 - j ∧ i = .int .i64 (j : Int) ∧ Hid (Lib.IsBuilder 61 5 w3.heap.size w3.heap.size (b8s (catB (xs.take (j + 1)))) wr) ∧ Hid (Below w3.heap.size w3 wr))
  case atStart => exact ⟨0, by omega, by omega, rfl, HB5, B5⟩
  case round =>
  obtain ⟨j, hj, rfl, rfl, HBU, HBW⟩ := hrel
  by_cases hlt : j < k - 1
  · have i1 : (j : Int) < (k : Int) - 1 := by omega
    have i2 : (j : Int) + 1 < (k : Int) := by omega
    have hlt' : j + 1 < xs.length := by rw [HN.out]; omega
    obtain ⟨bA, oA, hA1, hA2⟩ := (HR.out.below HBW.out) (j + 1) _ (sts_get xs (j + 1) hlt')
    cases hA1
    obtain ⟨x, hx⟩ : ∃ x, xs[j + 1] = x := ⟨_, rfl⟩
    rw [hx] at hA2
    have hA3 : wr.cell? ⟨b, o + 1 + j, none⟩ = some (.string x) := by rw [show o + 1 + j = o + (j + 1) by omega]; exact hA2
    have HST := Lib.hid (catB_take (xs := xs) (k := j + 1) (x := x) (by rw [List.getElem?_eq_getElem hlt', hx]))
    have hle := catB_le xs (j + 1 + 1)
    rw [HST.out, HT.out, List.length_append, size_toList] at hle
    have HLE := Lib.hid hle
    have HA3 := Lib.hid hA3
    have HBL : Hid (b < wr.heap.size) := Lib.hid (World.block_lt_of_cell? _ _ hA3)
    clear hA2 hlt' hx hle
    go_wp2_with fail
    refine (writeString0_any w3.heap.size w3.heap.size _ ⟨#[]⟩ wr HBU.out (by have := HLE.out; show _ + 0 ≤ _; omega) HBW.out.size).mono ?_
    rintro e w6 ⟨rfl, h6, hb6⟩
    have B6 : Hid (Below w3.heap.size w3 w6) := Lib.hid (HBW.out.trans hb6)
    have HB6 : Hid (Lib.IsBuilder 61 5 w3.heap.size w3.heap.size (b8s (catB (xs.take (j + 1)))) w6) := Lib.hid (by
      rw [show (catB (xs.take (j + 1))) ++ (⟨#[]⟩ : ByteArray).data.toList = catB (xs.take (j + 1)) from List.append_nil _] at h6
      exact .inr h6)
    clear h6 hb6 hA3
    go_wp2_with fail
    refine (writeString0_any w3.heap.size w3.heap.size _ x w6 HB6.out (by have := HLE.out; omega) B6.out.size).mono ?_
    rintro e w7 ⟨rfl, h7, hb7⟩
    have B7 : Hid (Below w3.heap.size w3 w7) := Lib.hid (B6.out.trans hb7)
    have HB7 : Hid (Lib.IsBuilder 61 5 w3.heap.size w3.heap.size (b8s (catB (xs.take (j + 1 + 1)))) w7) := Lib.hid (by rw [HST.out]; exact .inr h7)
    clear h7 hb7
    go_wp2_with fail
    go_roundg (k - 1 - (j + 1))
    case measure => omega
    case rel => exact ⟨j + 1, by omega, rfl, by first | rfl | exact congrArg (Value.int .i64) (by omega) | go_num, HB7, B7⟩
  obtain rfl : j = k - 1 := by omega
  have i1 : ¬ (((k - 1 : Nat) : Int) < (k : Int) - 1) := by omega
  have HBU2 : Hid (Lib.IsBuilder 61 5 w3.heap.size w3.heap.size (b8s (catB xs)) wr) := Lib.hid (by
    have h := HBU.out
    rw [show k - 1 + 1 = k by omega, ← HN.out, List.take_length] at h
    exact h)
  have HNE : Hid (catB xs ≠ []) := Lib.hid (catB_ne (fun e => by have := HN.out; rw [e] at this; simp at this; omega) HP.out)
  clear hlt hj
  go_wp2_with fail
  refine (string_any w3.heap.size w3.heap.size _ wr HBU2.out HNE.out).mono ?_
  rintro e w8 ⟨rfl, hb8⟩
  have B8 := Lib.hid (HBW.out.trans hb8)
  clear hb8
  go_wp2_with fail
  go_ret
  exact ⟨rfl, B8.out⟩

set_option maxHeartbeats 1000000 in
set_option maxRecDepth 100000 in
theorem join_any (A : Option Addr) (xs : List ByteArray) (c : Nat) (w : World) (hr : Rd w A (sts xs)) (hc : xs.length ≤ c) (hcm : c ≤ maxLen) (hp : ∀ x ∈ xs, 0 < x.size) (hl : (catB xs).length ≤ 140737488355328) :
    Calls Tryd.prog 26 #[.slice A xs.length c] w fun e w' => ∃ B c', e = .returned (.slice B (catB xs).length c') ∧ Rd w' B (b8s (catB xs)) ∧ Below w.heap.size w w' := by
  have kb := fun (W : World) (s : ByteArray) => run_bytes_of_string (P := Tryd.prog) W 9 45 5 s Tryd.underlying9 Tryd.underlying45 Tryd.underlying5
  have HJ := Lib.hid (sjoin_any A xs c w hr hc hcm hp hl)
  obtain ⟨T, hT⟩ : ∃ T : ByteArray, (⟨(catB xs).toArray⟩ : ByteArray) = T := ⟨_, rfl⟩
  have hTl : (catB xs) = T.data.toList := by rw [← hT]
  rw [hT] at HJ
  rw [hTl, size_toList]
  clear hr hc hcm hp hl hT hTl
  go_enter Tryd.func26, Tryd.ntmps26
  go_wp2_with fail
  refine HJ.out.mono ?_
  rintro e w1 ⟨rfl, hb1⟩
  have B1 := Lib.hid hb1
  clear hb1
  have HRB := Lib.hid (rd_bytesRow w1 T (grownCap w1 T.size 0 5) 5 ((bytesRow T (grownCap w1 T.size 0 5)).size, (bytesRow T (grownCap w1 T.size 0 5)).size + 1)).drew
  go_wp2_with fail
  go_ret
  exact ⟨_, _, rfl, HRB.out, (ext_alloc B1.out _).drew⟩
end Go.Proofs.YtmniggjadfdheaaDoor
