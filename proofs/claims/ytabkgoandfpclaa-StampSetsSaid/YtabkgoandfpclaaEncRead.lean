
/- What enc.Read and the Reader's calls do, and the document's In: both as one plain state: none: it has failed; some bs: bs is left. -/

import Derived.Test.YtabkgoandfpclaaEncOrder

import Derived.Test.YtabkgoandfpclaaRowK

namespace Go.Proofs.Ytabkgoandfpclaa

set_option linter.unusedVariables false

set_option linter.unusedSimpArgs false

open Go.RowKit

/-! ### the plain side -/

abbrev St := Option (List UInt8)
/-- a number: fuel, how many groups are behind, their sum -/
def numS (most : Int) : Nat → Nat → Nat → List UInt8 → Option (Nat × List UInt8)
  | 0, _, _, _ => none
  | _ + 1, _, _, [] => none
  | f + 1, i, acc, c :: r =>
    if 128 ≤ c.toNat then numS most f (i + 1) (acc + c.toNat % 128 * 128 ^ i) r
    else if 4611686018427387904 < acc + c.toNat % 128 * 128 ^ i ∨ most < ((acc + c.toNat % 128 * 128 ^ i : Nat) : Int) ∨ (c.toNat = 0 ∧ 0 < i) then none
    else some (acc + c.toNat % 128 * 128 ^ i, r)
def getNum (st : St) (most : Int) : Nat × St :=
  match st with
  | none => (0, none)
  | some bs => match numS most 9 0 0 bs with
    | none => (0, none)
    | some (n, r) => (n, some r)
def getN (st : St) (n : Nat) : List UInt8 × St :=
  match st with
  | none => ([], none)
  | some bs => if n ≤ bs.length then (bs.take n, some (bs.drop n)) else ([], none)
def getText (st : St) (most : Int) : List UInt8 × St := getN (getNum st most).2 (getNum st most).1
def padId (l : List UInt8) : List UInt8 := if l = [] then List.replicate 32 0 else l
def getId (st : St) : List UInt8 × St := (padId (getN st 32).1, (getN st 32).2)
def four (l : List UInt8) : Nat := match l with
  | [a, b, c, d] => a.toNat + 256 * b.toNat + 65536 * c.toNat + 16777216 * d.toNat
  | _ => 0
def getFour (st : St) : Nat × St := (four (getN st 4).1, (getN st 4).2)

/-! ### the Reader in memory -/

def RdrM (w : World) (g : Nat) : St → Prop
  | some bs => ∃ A n c, w.heap[g]? = some (.cells #[.slice A n c, .bool false] 74 (0, 0)) ∧ n = bs.length ∧ n ≤ c ∧ c ≤ maxLen ∧ Rd w A (b8s bs)
  | none => w.heap[g]? = some (.cells #[.slice none 0 0, .bool true] 74 (0, 0))

theorem RdrM.lt {w : World} {g : Nat} {st : St} (h : RdrM w g st) : g < w.heap.size := by
  cases st with
  | none => exact (Array.getElem?_eq_some_iff.1 h).1
  | some bs =>
    obtain ⟨A, n, c, hh, _⟩ := h
    exact (Array.getElem?_eq_some_iff.1 hh).1

/-- bytes never lie in a reader's own block -/
theorem rd_ne_rdr {w : World} {g : Nat} {a b : Value} {A : Option Addr} {bs : List UInt8} (hh : w.heap[g]? = some (.cells #[a, b] 74 (0, 0))) (ha : ∀ z, a ≠ .int .u8 z) (hb : ∀ z, b ≠ .int .u8 z) (hr : Rd w A (b8s bs)) (hne : bs ≠ []) :
    ∀ ad, A = some ad → ad.block ≠ g := by
  intro ad hA hg
  have hp : 0 < bs.length := List.length_pos_iff.2 hne
  obtain ⟨b', o, hA', hc⟩ := hr.byte 0 hp
  rw [hA'] at hA
  cases hA
  dsimp only at hg
  subst hg
  rw [row_cell hh] at hc
  match o, hc with
  | 0, hc => simp at hc; exact ha _ hc
  | 1, hc => simp at hc; exact hb _ hc
  | o + 2, hc => simp at hc

/-- bytes read on while a reader's block is written -/
theorem rd_set_rdr {w w' : World} {g : Nat} {a b : Value} {A : Option Addr} {bs : List UInt8} (hh : w.heap[g]? = some (.cells #[a, b] 74 (0, 0))) (ha : ∀ z, a ≠ .int .u8 z) (hb : ∀ z, b ≠ .int .u8 z) (hr : Rd w A (b8s bs))
    (hg : w.grownBy w' (some g)) : Rd w' A (b8s bs) := by
  by_cases hne : bs = []
  · subst hne; exact Rd.nil
  · exact hr.grown hg (fun ad hA e => rd_ne_rdr hh ha hb hr hne ad hA (by simpa using e))

theorem RdrM.below {w w' : World} {g : Nat} {st : St} (h : RdrM w g st) (hb : Below w.heap.size w w') : RdrM w' g st := by
  have hlt := h.lt
  cases st with
  | none => exact (hb.block g hlt).trans h
  | some bs =>
    obtain ⟨A, n, c, hh, h1, h2, h3, h4⟩ := h
    exact ⟨A, n, c, (hb.block g hlt).trans hh, h1, h2, h3, h4.below hb⟩

/-- the same, and the bytes that are left lie below block K -/
def RdrB (w : World) (g K : Nat) (bs : List UInt8) : Prop :=
  ∃ A n c, w.heap[g]? = some (.cells #[.slice A n c, .bool false] 74 (0, 0)) ∧ n = bs.length ∧ n ≤ c ∧ c ≤ maxLen ∧ Rd w A (b8s bs) ∧ (bs ≠ [] → ∀ ad, A = some ad → ad.block < K)
theorem RdrB.m {w : World} {g K : Nat} {bs : List UInt8} (h : RdrB w g K bs) : RdrM w g (some bs) := by
  obtain ⟨A, n, c, h1, h2, h3, h4, h5, _⟩ := h
  exact ⟨A, n, c, h1, h2, h3, h4, h5⟩
theorem RdrM.b {w : World} {g : Nat} {bs : List UInt8} (h : RdrM w g (some bs)) : RdrB w g w.heap.size bs := by
  obtain ⟨A, n, c, h1, h2, h3, h4, h5⟩ := h
  refine ⟨A, n, c, h1, h2, h3, h4, h5, fun hne ad hA => ?_⟩
  obtain ⟨b, o, e, hc⟩ := h5.byte 0 (List.length_pos_iff.2 hne)
  rw [e] at hA
  cases hA
  exact World.block_lt_of_cell? w _ hc

theorem ret_unit (v : Value) (h : v = .tuple #[]) : Ending.returned v = .returned (.tuple #[]) := by rw [h]

set_option maxHeartbeats 400000 in
theorem read_any (A : Option Addr) (bs : List UInt8) (n c : Nat) (w : World) (hn : n = bs.length) (hr : Rd w A (b8s bs)) (hm : bs.length ≤ 140737488355328) :
    Calls Try.prog 26 #[.slice A n c] w fun e w' => ∃ g, e = .returned (.pointer (some ⟨g, 0, none⟩)) ∧ w.heap.size ≤ g ∧ Below w.heap.size w w' ∧ RdrM w' g (some bs) := by
  subst hn
  go_enter Try.func26, Try.ntmps26
  go_wp2_with fail
  refine (clone_any A bs c w hr hm).mono ?_
  rintro e w1 ⟨v1, rfl, hown⟩
  obtain ⟨A1, n1, c1, rfl, hn1, hc1, hc2, hr1, _⟩ := hown.sliceN
  have Hn1 := Lib.hid hn1
  clear hn1
  go_wp2
  go_ret
  refine ⟨_, rfl, hown.sz, hown.bel.alloc hown.sz _, A1, n1, c1, heap_alloc_new _ _, Hn1.out, hc1, hc2, hr1.alloc _⟩

set_option maxHeartbeats 400000 in
theorem fail_any (g : Nat) (st : St) (w : World) (h : RdrM w g st) :
    Calls Try.prog 56 #[.pointer (some ⟨g, 0, none⟩)] w fun e w' => e = .returned (.tuple #[]) ∧ RdrM w' g none ∧ w.grownBy w' (some g) := by
  have key : ∀ x y, w.heap[g]? = some (.cells #[x, y] 74 (0, 0)) → Calls Try.prog 56 #[.pointer (some ⟨g, 0, none⟩)] w fun e w' => e = .returned (.tuple #[]) ∧ RdrM w' g none ∧ w.grownBy w' (some g) := by
    intro x y hh
    have c0 : w.cell? ⟨g, 0, none⟩ = some x := row_cell hh 0
    have c1 : w.cell? ⟨g, 1, none⟩ = some y := row_cell hh 1
    have f0 := row_free hh 0
    have f1 := row_free hh 1
    have H := Lib.hid hh
    clear hh
    go_enter Try.func56, Try.ntmps56
    go_wp2
    go_end0
    refine ⟨rfl, ?_, grown_trans1 (grown_set g 0 _) (grown_set g 1 _)⟩
    exact row_set (row_set H.out 0 (.slice none 0 0)) 1 (.bool true)
  cases st with
  | none => exact key _ _ h
  | some bs =>
    obtain ⟨A, n, c, hh, _⟩ := h
    exact key _ _ hh

set_option maxHeartbeats 400000 in
theorem good_any (g : Nat) (st : St) (w : World) (h : RdrM w g st) :
    Calls Try.prog 29 #[.pointer (some ⟨g, 0, none⟩)] w fun e w' => w = w' ∧ e = .returned (.bool st.isSome) := by
  cases st with
  | none =>
    have c1 : w.cell? ⟨g, 1, none⟩ = some (.bool true) := row_cell h 1
    clear h
    go_enter Try.func29, Try.ntmps29
    go_wp2
    go_ret
    exact ⟨rfl, rfl⟩
  | some bs =>
    obtain ⟨A, n, c, hh, _⟩ := h
    have c1 : w.cell? ⟨g, 1, none⟩ = some (.bool false) := row_cell hh 1
    clear hh
    go_enter Try.func29, Try.ntmps29
    go_wp2
    go_ret
    exact ⟨rfl, rfl⟩

def leftS : St → Nat | some bs => bs.length | none => 0
set_option maxHeartbeats 400000 in
theorem left_any (g : Nat) (st : St) (w : World) (h : RdrM w g st) :
    Calls Try.prog 31 #[.pointer (some ⟨g, 0, none⟩)] w fun e w' => w = w' ∧ e = .returned (.int .i64 (leftS st : Int)) := by
  cases st with
  | none =>
    have c1 : w.cell? ⟨g, 0, none⟩ = some (.slice none 0 0) := row_cell h 0
    clear h
    go_enter Try.func31, Try.ntmps31
    go_wp2
    go_ret
    exact ⟨rfl, rfl⟩
  | some bs =>
    obtain ⟨A, n, c, hh, hn, _⟩ := h
    subst hn
    have c1 : w.cell? ⟨g, 0, none⟩ = some (.slice A bs.length c) := row_cell hh 0
    clear hh
    go_enter Try.func31, Try.ntmps31
    go_wp2
    go_ret
    exact ⟨rfl, rfl⟩

def doneS : St → Bool | some bs => decide (bs.length = 0) | none => false
set_option maxHeartbeats 400000 in
theorem done_any (g : Nat) (st : St) (w : World) (h : RdrM w g st) :
    Calls Try.prog 28 #[.pointer (some ⟨g, 0, none⟩)] w fun e w' => w = w' ∧ e = .returned (.bool (doneS st)) := by
  cases st with
  | none =>
    have c1 : w.cell? ⟨g, 1, none⟩ = some (.bool true) := row_cell h 1
    clear h
    go_enter Try.func28, Try.ntmps28
    go_wp2
    go_ret
    exact ⟨rfl, rfl⟩
  | some bs =>
    obtain ⟨A, n, c, hh, hn, _⟩ := h
    subst hn
    have c0 : w.cell? ⟨g, 0, none⟩ = some (.slice A bs.length c) := row_cell hh 0
    have c1 : w.cell? ⟨g, 1, none⟩ = some (.bool false) := row_cell hh 1
    clear hh
    go_enter Try.func28, Try.ntmps28
    go_wp2
    go_ret
    refine ⟨rfl, ret_bool ?_⟩
    simp only [doneS]
    rw [Bool.eq_iff_iff, beq_iff_eq, decide_eq_true_eq]
    omega

/-! ### take -/

set_option maxHeartbeats 1000000 in
theorem take_no (g n : Nat) (st : St) (w : World) (h : RdrM w g st) (hm : n ≤ 9223372036854775807) (hno : ∀ bs, st = some bs → bs.length < n) :
    Calls Try.prog 71 #[.pointer (some ⟨g, 0, none⟩), .int .i64 (n : Int)] w fun e w' => e = .returned (.slice none 0 0) ∧ RdrM w' g none ∧ w.grownBy w' (some g) := by
  have hf := fail_any g st w h
  cases st with
  | none =>
    have c1 : w.cell? ⟨g, 1, none⟩ = some (.bool true) := row_cell h 1
    have H := Lib.hid hf
    clear h hf hno
    go_enter Try.func71, Try.ntmps71
    go_wp2_with fail
    refine H.out.mono ?_
    rintro e w1 ⟨rfl, h1, h2⟩
    go_wp2_with fail
    go_ret
    exact ⟨rfl, h1, h2⟩
  | some bs =>
    have hlt := hno bs rfl
    obtain ⟨A, k, c, hh, hn, _⟩ := h
    subst hn
    have c0 : w.cell? ⟨g, 0, none⟩ = some (.slice A bs.length c) := row_cell hh 0
    have c1 : w.cell? ⟨g, 1, none⟩ = some (.bool false) := row_cell hh 1
    have H := Lib.hid hf
    clear hh hf hno
    go_enter Try.func71, Try.ntmps71
    go_wp2_with fail
    refine H.out.mono ?_
    rintro e w1 ⟨rfl, h1, h2⟩
    go_wp2_with fail
    go_ret
    exact ⟨rfl, h1, h2⟩

set_option maxHeartbeats 1000000 in
theorem take_yesB (g n K : Nat) (bs : List UInt8) (w : World) (h : RdrB w g K bs) (hle : n ≤ bs.length) :
    Calls Try.prog 71 #[.pointer (some ⟨g, 0, none⟩), .int .i64 (n : Int)] w fun e w' => (∃ A c, e = .returned (.slice A n c) ∧ Rd w' A (b8s (bs.take n)) ∧ (0 < n → A.isNone = false)) ∧ RdrB w' g K (bs.drop n) ∧ w.grownBy w' (some g) := by
  obtain ⟨A, k, c, hh, hn, hkc, hcm, hr, hK⟩ := h
  have HK := Lib.hid hK
  clear hK
  subst hn
  have c0 : w.cell? ⟨g, 0, none⟩ = some (.slice A bs.length c) := row_cell hh 0
  have c1 : w.cell? ⟨g, 1, none⟩ = some (.bool false) := row_cell hh 1
  have f0 := row_free hh 0
  have H := Lib.hid hh
  have hcm' := hcm
  unfold maxLen at hcm
  clear hh
  go_enter Try.func71, Try.ntmps71
  have ha : ∀ z, Value.slice A bs.length c ≠ .int .u8 z := fun z e => by cases e
  have hb : ∀ z, Value.bool false ≠ .int .u8 z := fun z e => by cases e
  have hgr : ∀ u, w.grownBy (w.setCell ⟨g, 0, none⟩ u) (some g) := fun u => grown_set g 0 u
  have htk : Rd w A (b8s (bs.take n)) := by rw [b8s_take]; exact hr.take n
  have hne : 0 < n → A.isNone = false := fun hn => by
    obtain ⟨b, o, e, _⟩ := hr.byte 0 (by omega)
    rw [e]; rfl
  have Ha := Lib.hid ha
  have Hb := Lib.hid hb
  have Hg := Lib.hid hgr
  have Hn := Lib.hid hne
  have Ht := Lib.hid htk
  have Hr := Lib.hid hr
  clear ha hb hgr hne htk hr
  by_cases hcn : c = n
  · go_wp2
    go_ret
    refine ⟨⟨A, n, rfl, rd_set_rdr H.out Ha.out Hb.out Ht.out (Hg.out _), Hn.out⟩, ?_, Hg.out _⟩
    refine ⟨A, bs.length - n, 0, ?_, by simp, by omega, by unfold maxLen; omega, ?_, ?_⟩
    · exact row_set H.out 0 _
    · rw [List.drop_of_length_le (by omega)]; exact Rd.nil
    · rw [List.drop_of_length_le (by omega)]; exact fun h => absurd rfl h
  · go_wp2
    go_ret
    refine ⟨⟨A, n, rfl, rd_set_rdr H.out Ha.out Hb.out Ht.out (Hg.out _), Hn.out⟩, ?_, Hg.out _⟩
    refine ⟨A.map (·.add n), bs.length - n, c - n, ?_, by simp, by omega, by unfold maxLen; omega, ?_, ?_⟩
    · exact row_set H.out 0 _
    rotate_left
    · intro hne ad hA
      have hb : bs ≠ [] := by rintro rfl; simp at hne
      cases A with
      | none => cases hA
      | some ad0 =>
        simp only [Option.map_some, Option.some.injEq] at hA
        subst hA
        have := HK.out hb ad0 rfl
        unfold Addr.add
        split <;> exact this
    · have hd := Rd.drop (k := n) (size := 1) (cap := c) Hr.out (by rw [b8s_length]; omega)
      rw [if_neg hcn, Nat.mul_one, ← b8s_drop] at hd
      exact rd_set_rdr H.out Ha.out Hb.out hd (Hg.out _)

theorem take_yes (g n : Nat) (bs : List UInt8) (w : World) (h : RdrM w g (some bs)) (hle : n ≤ bs.length) :
    Calls Try.prog 71 #[.pointer (some ⟨g, 0, none⟩), .int .i64 (n : Int)] w fun e w' => (∃ A c, e = .returned (.slice A n c) ∧ Rd w' A (b8s (bs.take n)) ∧ (0 < n → A.isNone = false)) ∧ RdrM w' g (some (bs.drop n)) ∧ w.grownBy w' (some g) :=
  (take_yesB g n _ bs w h.b hle).mono fun _ _ ⟨h1, h2, h3⟩ => ⟨h1, h2.m, h3⟩
end Go.Proofs.Ytabkgoandfpclaa
