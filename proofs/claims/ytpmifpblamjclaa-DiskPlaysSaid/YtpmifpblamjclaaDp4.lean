
/- The document's disk: lists of files and turns made anew; with, Between, New, Read. -/

import Derived.Test.YtpmifpblamjclaaDp3

namespace Go.Proofs.Ytpmifpblamjclaa

set_option linter.unusedVariables false

set_option linter.unusedSimpArgs false

set_option linter.unusedSectionVars false

open Go.RowKit

/-- a list that was made -/
structure LOut {α : Type} (T : TypeId) (sz : Nat) (f : α → List Value) (w0 w : World) (A : Option Addr) (n c : Nat) (xs : List α) : Prop where
  len : n = xs.length
  own : w.ownsRow w0.heap.size T sz (.slice A n c) n (xs.flatMap f)
  bel : Below w0.heap.size w0 w
section

variable {α : Type} {T : TypeId} {sz : Nat} {f : α → List Value} {w0 w1 w w' : World} {A A' : Option Addr} {n c c' : Nat} {xs : List α} {x : α}

theorem LOut.grow (h : LOut T sz f w0 w A n c xs) (ho : w'.ownsRow w0.heap.size T sz (.slice A' (n + 1) c') (n + 1) (xs.flatMap f ++ f x)) (hg : w.grownBy w' (Value.slice A n c).ownBlock) : LOut T sz f w0 w' A' (n + 1) c' (xs ++ [x]) := by
  refine ⟨by rw [List.length_append, ← h.len]; rfl, ?_, ?_⟩
  · rw [List.flatMap_append, show [x].flatMap f = f x from by simp]
    exact ho
  · exact below_grown_own h.bel h.own hg h.bel.size
theorem LOut.below (h : LOut T sz f w0 w A n c xs) (hb : Below w.heap.size w w') : LOut T sz f w0 w' A n c xs := ⟨h.len, own_below h.own hb, ext_trans h.bel hb⟩
theorem LOut.rd (h : LOut T sz f w0 w A n c xs) : Rd w A (xs.flatMap f) := own_rd h.own
theorem LOut.mono (h : LOut T sz f w1 w A n c xs) (hb : Below w0.heap.size w0 w1) : LOut T sz f w0 w A n c xs := ⟨h.len, own_mono h.own hb.size, hb.trans (h.bel.mono hb.size)⟩
theorem LOut.start (T : TypeId) (sz : Nat) (f : α → List Value) (hb : Below w0.heap.size w0 w) : LOut T sz f w0 (w.alloc (.cells #[] T)) (some ⟨w.heap.size, 0, none⟩) 0 0 [] := ⟨rfl, own_start _ _ hb.size, ext_trans hb ((Below.refl _ _).alloc (Nat.le_refl _) _)⟩
theorem LOut.addr (h : LOut T sz f w0 w A n c xs) : ∀ a, A = some a → w0.heap.size ≤ a.block := fun a e => by
  obtain ⟨A2, c2, e2, _, _, h2, _⟩ := own_slice h.own
  cases e2
  exact (h2 a e).1
end

theorem NmOut.addr {w0 w : World} {A : Option Addr} {n c : Nat} {ns : NM} (h : NmOut w0 w A n c ns) : ∀ a, A = some a → w0.heap.size ≤ a.block := fun a e => by
  obtain ⟨A2, c2, e2, _, _, h2, _⟩ := own_slice h.own
  cases e2
  exact (h2 a e).1
theorem info_fl2 {a b : Value} : (Try.prog.info? 92).map (·.size) = some ([a, b] : List Value).length := by kernel_rfl
theorem info_flz : (Try.prog.info? 92).map (fun i => (i.zero, i.size, i.bytes)) = some (some (.agg #[.slice none 0 0, .int .i64 0]), 2, 32) := by kernel_rfl
theorem info_fls : (Try.prog.info? 92).map (·.size) = some 2 := by kernel_rfl
theorem info_tn3 {a b c : Value} : (Try.prog.info? 90).map (·.size) = some ([a, b, c] : List Value).length := by kernel_rfl
theorem info_tnz : (Try.prog.info? 90).map (fun i => (i.zero, i.size, i.bytes)) = some (some (.agg #[.string ⟨#[]⟩, .string ⟨#[]⟩, .int .i64 0]), 3, 40) := by kernel_rfl
theorem info_tns : (Try.prog.info? 90).map (·.size) = some 3 := by kernel_rfl
theorem fl_one (p : PV × Nat) : ∀ u ∈ fileC p, u.oneCell' = true := by
  intro u hu
  simp only [fileC, PV.v, List.mem_cons, List.not_mem_nil, or_false] at hu
  rcases hu with rfl | rfl <;> rfl
theorem tn_one (t : TM) : ∀ u ∈ turnR t, u.oneCell' = true := by
  intro u hu
  simp only [turnR, strV, List.mem_cons, List.not_mem_nil, or_false] at hu
  rcases hu with rfl | rfl | rfl <;> rfl

theorem between_any (x lo hi : Int) (w : World) (hl : lo ≤ hi) : Calls Try.prog 45 #[.int .i64 x, .int .i64 lo, .int .i64 hi] w fun e w' => e = .returned (.int .i64 (min (max x lo) hi)) ∧ w' = w := by
  by_cases h1 : x < lo
  · go_enter Try.func45, Try.ntmps45
    go_wp2_with fail
    go_ret
    exact ⟨by rw [show min (max x lo) hi = lo by omega]; rfl, rfl⟩
  · by_cases h2 : hi < x
    · go_enter Try.func45, Try.ntmps45
      go_wp2_with fail
      go_ret
      exact ⟨by rw [show min (max x lo) hi = hi by omega]; rfl, rfl⟩
    · go_enter Try.func45, Try.ntmps45
      go_wp2_with fail
      go_ret
      exact ⟨by rw [show min (max x lo) hi = x by omega]; rfl, rfl⟩

set_option maxRecDepth 100000 in
set_option maxHeartbeats 8000000 in
theorem rwith_any (A : Option Addr) (fs : List (PV × Nat)) (n c : Nat) (hn : fs.length = n) (hnl : n ≤ 1000) (j : Nat) (p : PV × Nat) (w : World) (hr : Rd w A (filesC fs)) :
    Calls Try.prog 43 #[.slice A n c, .int .i64 (j : Int), .agg (fileC p).toArray] w fun e w' => ∃ A' c', e = .returned (.slice A' n c') ∧ LOut 92 2 fileC w w' A' n c' (fs.set j p) := by
  have HN := Lib.hid hn
  obtain ⟨u, z, hp⟩ : ∃ u z, fileC p = [u, .int .i64 z] := ⟨_, _, rfl⟩
  have HP := Lib.hid hp
  have HP1 : Hid (∀ v ∈ [u, Value.int .i64 z], v.oneCell' = true) := Lib.hid (by rw [← hp]; exact fl_one p)
  obtain ⟨W1, hW1⟩ : ∃ W, w.alloc (.cells #[u, .int .i64 z] 92) = W := ⟨_, rfl⟩
  obtain ⟨r1, b1, s1⟩ := new_row hW1
  obtain ⟨W2, hW2⟩ : ∃ W, W1.alloc (.cells #[] 92) = W := ⟨_, rfl⟩
  have HR := Lib.hid (hr.below b1)
  have HB1 := Lib.hid b1
  have HO : Hid (LOut 92 2 fileC W1 W2 (some ⟨W1.heap.size, 0, none⟩) 0 0 []) := Lib.hid (by rw [← hW2]; exact LOut.start _ _ _ (Below.refl _ _))
  obtain ⟨g, hg⟩ : ∃ g, w.heap.size = g := ⟨_, rfl⟩
  rw [hg] at r1
  have HT : Hid (∀ W, Below W1.heap.size W1 W → W.heap[g]? = some (.cells #[u, .int .i64 z] 92 (0, 0))) := Lib.hid (fun W hb => (hb.block _ (by omega)).trans r1)
  rw [hp]
  clear hn hr r1 b1 s1 hp
  go_enter Try.func43, Try.ntmps43
  go_wp2_with fail
  try rw [hg]
  clear hg hW1 hW2
  go_loopg [7, 8] (n * 1) (fun gk_ ov iv wr => ∃ (k : Nat) (A1 : Option Addr) (c1 : Nat), k ≤ n ∧ gk_ = n - k ∧ ov = .slice A1 k c1 ∧ iv = .int .i64 (k : Int) ∧ Hid (LOut 92 2 fileC W1 wr A1 k c1 ((fs.set j p).take k)))
  case atStart => exact ⟨0, _, 0, by omega, by omega, rfl, rfl, HO⟩
  case round =>
  clear HO
  obtain ⟨k, A1, c1, hk, rfl, rfl, rfl, HO⟩ := hrel
  have hT := HT.out _ HO.out.bel
  by_cases hlt : k < n
  · have i1 : (k : Int) < (n : Int) := by omega
    have hkl : k < fs.length := by rw [HN.out]; exact hlt
    by_cases hkj : k = j
    · have z1 : ((k : Int) == (j : Int)) = true := by rw [beq_iff_eq]; omega
      have HS : Hid ((fs.set j p).take (k + 1) = (fs.set j p).take k ++ [p]) := Lib.hid (by
        rw [List.take_add_one]
        congr 1
        subst hkj
        simp [hkl])
      obtain ⟨W6, hW6⟩ : ∃ W, wr.alloc (.cells #[u, .int .i64 z] 92) = W := ⟨_, rfl⟩
      obtain ⟨r6, b6, s6⟩ := new_row hW6
      have HO6 := Lib.hid (HO.out.below b6)
      have HR6 : Hid (Rd W6 (some ⟨wr.heap.size, 0, none⟩) [u, .int .i64 z]) := Lib.hid (range_rd (range_of_row (cs := [u, .int .i64 z]) r6))
      clear r6 b6 s6 HO hkl hkj
      go_wp2_with (first
        | (refine wpList_load_row rfl _ _ rfl _ rfl _ _ _ _ hT Try.underlying92 rfl info_fls ?_)
        | (at_builtin; refine wpList_append_rd _ rfl _ _ 46 rfl W1.heap.size 92 _ 2 32 Try.underlying46 info_flz rfl (by decide) (.slice A1 k c1) k _ rfl HO6.out.own _ 1 _ ([u, .int .i64 z]) rfl (rfl) HR6.out (HP1.out) (by unfold maxLen; omega) (by omega) HO6.out.bel.size ?_; intro v7 w7 ho7 hg7 hvb7; obtain ⟨A7, c7, e7, _⟩ := own_slice ho7; subst e7; have HO7 := Lib.hid (HO6.out.grow (x := p) (by rw [HP.out]; exact ho7) hg7); clear ho7 hg7 hvb7))
      clear hW6
      go_roundg (n - (k + 1))
      case measure => omega
      case rel => exact ⟨k + 1, A7, c7, by omega, rfl, rfl, by first | rfl | exact congrArg (Value.int .i64) (by omega) | go_num, Lib.hid (by rw [HS.out]; exact HO7.out)⟩
    · have z1 : ((k : Int) == (j : Int)) = false := by rw [beq_eq_false_iff_ne]; omega
      obtain ⟨x, hx⟩ : ∃ x, fs[k] = x := ⟨_, rfl⟩
      have HS : Hid ((fs.set j p).take (k + 1) = (fs.set j p).take k ++ [x]) := Lib.hid (by
        rw [List.take_add_one]
        congr 1
        rw [List.getElem?_set_ne (Ne.symm hkj), List.getElem?_eq_getElem hkl, hx]
        rfl)
      obtain ⟨b, o, hA, _⟩ := HR.out.all (by rw [filesC_len]; omega)
      have hrow := rd_flat (f := fileC) (m := 2) (by have := HR.out.below HO.out.bel; rw [hA] at this; exact this) (fun _ _ => rfl) k hkl
      rw [hx] at hrow
      obtain ⟨v, y, hv⟩ : ∃ v y, fileC x = [v, .int .i64 y] := ⟨_, _, rfl⟩
      have HV := Lib.hid hv
      have HV1 : Hid (∀ t ∈ [v, Value.int .i64 y], t.oneCell' = true) := Lib.hid (by rw [← hv]; exact fl_one x)
      rw [hv] at hrow
      have HRW := Lib.hid hrow
      have HA := Lib.hid hA
      rw [hA]
      obtain ⟨W6, hW6⟩ : ∃ W, wr.alloc (.cells #[v, .int .i64 y] 92) = W := ⟨_, rfl⟩
      obtain ⟨r6, b6, s6⟩ := new_row hW6
      have HO6 := Lib.hid (HO.out.below b6)
      have HR6 : Hid (Rd W6 (some ⟨wr.heap.size, 0, none⟩) [v, .int .i64 y]) := Lib.hid (range_rd (range_of_row (cs := [v, .int .i64 y]) r6))
      clear r6 b6 s6 HO hkl hkj hx hv hrow hA hT
      go_wp2_with (first
        | ((with_reducible (refine wpList_load_cells 92 _ b (o + k * 2) ([v, .int .i64 y]) HRW.out Try.underlying92 rfl info_fl2 ?_ rfl ?_ ?_)); (exact rfl); (exact rfl))
        | (at_builtin; refine wpList_append_rd _ rfl _ _ 46 rfl W1.heap.size 92 _ 2 32 Try.underlying46 info_flz rfl (by decide) (.slice A1 k c1) k _ rfl HO6.out.own _ 1 _ ([v, .int .i64 y]) rfl (rfl) HR6.out (HV1.out) (by unfold maxLen; omega) (by omega) HO6.out.bel.size ?_; intro v7 w7 ho7 hg7 hvb7; obtain ⟨A7, c7, e7, _⟩ := own_slice ho7; subst e7; have HO7 := Lib.hid (HO6.out.grow (x := x) (by rw [HV.out]; exact ho7) hg7); clear ho7 hg7 hvb7))
      rw [← HA.out]
      clear hW6
      go_roundg (n - (k + 1))
      case measure => omega
      case rel => exact ⟨k + 1, A7, c7, by omega, rfl, rfl, by first | rfl | exact congrArg (Value.int .i64) (by omega) | go_num, Lib.hid (by rw [HS.out]; exact HO7.out)⟩
  · obtain rfl : k = n := by omega
    have HF : Hid ((fs.set j p).take k = fs.set j p) := Lib.hid (List.take_of_length_le (by rw [List.length_set, HN.out]; exact Nat.le_refl _))
    go_wp2_with fail
    go_ret
    refine ⟨A1, c1, rfl, ?_⟩
    have h := HO.out
    rw [HF.out] at h
    exact h.mono HB1.out
end Go.Proofs.Ytpmifpblamjclaa
