
/- What slices.Clone, enc.Num and the document's Num make. -/

import Derived.Test.YtabkgoandfpclaaProg

import Derived.Test.YtabkgoandfpclaaEncMath

import Derived.Test.YtabkgoandfpclaaRef01

namespace Go.Proofs.Ytabkgoandfpclaa

open Go.RowKit

theorem rd_none_nil {w : World} {bs : List UInt8} (h : Rd w none (b8s bs)) : bs = [] := by
  cases bs with
  | nil => rfl
  | cons c bs =>
    obtain ⟨b, o, hA, _⟩ := h.byte 0 (by simp)
    cases hA

set_option maxHeartbeats 400000 in
theorem clone_any (A : Option Addr) (bs : List UInt8) (c : Nat) (w : World) (hr : Rd w A (b8s bs)) (hm : bs.length ≤ 140737488355328) :
    Calls Try.prog 43 #[.slice A bs.length c] w fun e w' => ∃ v, e = .returned v ∧ Own8 w.heap.size w w' v bs := by
  have hnil := fun (w : World) (n c : Nat) => Lib.run_eql_slice_nil (P := Try.prog) w 36 5 A n c 0 0 Try.underlying36
  cases A with
  | none =>
    have := rd_none_nil hr
    subst this
    go_enter Try.func43, Try.ntmps43
    go_wp2
    go_ret
    exact ⟨_, rfl, Own8.nil _ _ _ (Below.refl _ _) (Nat.le_refl _)⟩
  | some ad =>
    obtain ⟨N, hN⟩ : ∃ N, N = w.heap.size := ⟨_, rfl⟩
    have hst := Own8.startN w w N (hN ▸ Below.refl _ _) (hN ▸ Nat.le_refl _)
    have hr' := hr.alloc (.cells #[] 5)
    rw [← hN]
    clear hN
    go_enter Try.func43, Try.ntmps43
    go_wp2_with (at_builtin; refine wpList_append_bytes rfl _ _ rfl bs rfl rfl hr' hst (by simp; omega) ?_; intro v1 w2 hown hg)
    go_ret
    exact ⟨_, rfl, by simpa using hown⟩

theorem u8_high' (n : Nat) : ((n : Int) % 128 + 128) = ((UInt8.ofNat (n % 128 + 128)).toNat : Int) := by
  rw [UInt8.toNat_ofNat']
  omega
theorem u8_low' (n : Nat) (h : n < 128) : (n : Int) = ((UInt8.ofNat n).toNat : Int) := by
  rw [UInt8.toNat_ofNat']
  omega

theorem numF_step {f n : Nat} (h : n < 128 ^ (f + 1)) (h2 : 128 ≤ n) : ∃ f', f = f' + 1 ∧ n / 128 < 128 ^ (f' + 1) := by
  cases f with
  | zero => omega
  | succ f' => exact ⟨f', rfl, by rw [Nat.pow_succ] at h; exact Nat.div_lt_of_lt_mul (by rw [Nat.mul_comm]; exact h)⟩

theorem num_fuel (n : Int) : clampN n < 128 ^ (9 + 1) := by
  have := clampN_le n
  have h : (4611686018427387904 : Nat) < 128 ^ (9 + 1) := by decide
  exact Nat.lt_of_le_of_lt this h

theorem numB_length (n : Int) : (numB (clampN n)).length ≤ 10 := by
  have : ∀ f n, (numF f n).length ≤ f := by
    intro f
    induction f with
    | zero => intro n; simp [numF]
    | succ f ih => intro n; unfold numF; split <;> simp; exact ih _
  exact this 10 _

/-- the relation of both loops: what is made, and what is still to be made -/
def NumRel (front : List UInt8) (N n f : Nat) (zs : List UInt8) : Prop := n < 128 ^ (f + 1) ∧ zs ++ numF (f + 1) n = front ++ numB N ∧ zs.length + (f + 1) ≤ front.length + 10

theorem NumRel.start (front : List UInt8) (n : Int) : NumRel front (clampN n) (clampN n) 9 front := ⟨num_fuel n, rfl, Nat.le_refl _⟩
theorem NumRel.step {front zs : List UInt8} {N n f : Nat} (h : NumRel front N n f zs) (hn : 128 ≤ n) :
    ∃ f', NumRel front N (n / 128) f' (zs ++ [UInt8.ofNat (n % 128 + 128)]) := by
  obtain ⟨h1, h2, h3⟩ := h
  obtain ⟨f', rfl, h4⟩ := numF_step h1 hn
  refine ⟨f', h4, ?_, by simp; omega⟩
  rw [← h2, numF_ge _ _ hn, List.append_assoc]
  rfl
theorem NumRel.done {front zs : List UInt8} {N n f : Nat} (h : NumRel front N n f zs) (hn : n < 128) : zs ++ [UInt8.ofNat n] = front ++ numB N := by
  rw [← h.2.1, numF_lt _ _ hn]
theorem NumRel.len {front zs : List UInt8} {N n f : Nat} (h : NumRel front N n f zs) : zs.length + 1 ≤ front.length + 10 := by
  have := h.2.2
  omega

set_option maxHeartbeats 1000000 in
theorem num_any (A : Option Addr) (bs : List UInt8) (c : Nat) (n : Int) (w : World) (hr : Rd w A (b8s bs)) (hm : bs.length + 10 ≤ 140737488355328) :
    Calls Try.prog 45 #[.slice A bs.length c, .int .i64 n] w fun e w' => ∃ v, e = .returned v ∧ Own8 w.heap.size w w' v (bs ++ numB (clampN n)) := by
  obtain ⟨N, hN⟩ : ∃ N, N = w.heap.size := ⟨_, rfl⟩
  have HN := Lib.hid hN
  rw [← hN]
  clear hN
  have hcl := clampN_eq n
  have hcle := clampN_le n
  have hst := NumRel.start bs n
  generalize clampN n = M at *
  have Hcl := Lib.hid hcl
  clear hcl
  go_enter Try.func45, Try.ntmps45
  go_wp2_with fail
  refine (clone_any A bs c w hr (by omega)).mono ?_
  rintro e w1 ⟨v1, rfl, hown⟩
  rw [← HN.out] at hown
  go_wp2_with fail
  all_goals
    go_loopw [5, 6] (fun v u wr => ∃ (m f : Nat) (zs : List UInt8), u = .int .u64 (m : Int) ∧ NumRel bs M m f zs ∧ m ≤ 4611686018427387904 ∧ Own8 N w wr v zs) (fun _ u _ => (intOf u).toNat)
    case atStart => exact ⟨M, 9, bs, by have := Hcl.out; congr 1; omega, hst, hcle, hown⟩
    case round =>
      clear hown hst
      obtain ⟨m, f, zs, rfl, hrel, hm', hown⟩ := hrel
      have hlen := hrel.len
      by_cases hlt : 127 < m
      · obtain ⟨f', hrel'⟩ := hrel.step (by omega)
        go_wp2_with (at_builtin; refine wpList_append_u8 rfl _ _ rfl (UInt8.ofNat (m % 128 + 128)) rfl rfl (congrArg (Value.int .u8) (u8_high m)) hown (by omega) ?_; intro v1 w1 hown1)
        go_roundw
        case rel => exact ⟨m / 128, f', _, rfl, hrel', by omega, hown1⟩
        case measure => simp [intOf]; omega
      · have hd := Lib.hid (hrel.done (by omega))
        clear hrel
        go_wp2_with (at_builtin; refine wpList_append_u8 rfl _ _ rfl (UInt8.ofNat m) rfl rfl (congrArg (Value.int .u8) (u8_low' m (by omega))) hown (by omega) ?_; intro v1 w1 hown1)
        go_ret
        rw [hd.out] at hown1
        exact ⟨_, rfl, hown1⟩


set_option maxRecDepth 100000 in
set_option maxHeartbeats 1000000 in
theorem rnum_any (n : Int) (w : World) :
    Calls Try.prog 48 #[.int .i64 n] w fun e w' => ∃ v, e = .returned v ∧ Own8 w.heap.size w w' v (numB (clampN n)) := by
  obtain ⟨N, hN⟩ : ∃ N, N = w.heap.size := ⟨_, rfl⟩
  have hst0 := Own8.startN w w N (hN ▸ Below.refl _ _) (hN ▸ Nat.le_refl _)
  rw [← hN]
  clear hN
  have hcl := clampN_eq n
  have hcle := clampN_le n
  have hst := NumRel.start [] n
  generalize clampN n = M at *
  have Hcl := Lib.hid hcl
  clear hcl
  have hcases : n < 0 ∨ 4611686018427387904 < n ∨ (¬ n < 0 ∧ ¬ 4611686018427387904 < n) := by omega
  rcases hcases with hn | hn | ⟨hn, hn2⟩
  all_goals
    go_enter Try.func48, Try.ntmps48
    go_wp2_with fail
    go_loopw [0, 3] (fun u v wr => ∃ (m f : Nat) (zs : List UInt8), u = .int .i64 (m : Int) ∧ NumRel [] M m f zs ∧ m ≤ 4611686018427387904 ∧ Own8 N w wr v zs) (fun u _ _ => (intOf u).toNat)
    case atStart => exact ⟨M, 9, [], by have := Hcl.out; congr 1; omega, hst, hcle, hst0⟩
    case round =>
      clear hst0 hst
      obtain ⟨m, f, zs, rfl, hrel, hm', hown⟩ := hrel
      have hlen := hrel.len
      simp only [List.length_nil] at hlen
      by_cases hlt : 128 ≤ m
      · obtain ⟨f', hrel'⟩ := hrel.step (by omega)
        go_wp2_with (at_builtin; refine wpList_append_u8 rfl _ _ rfl (UInt8.ofNat (m % 128 + 128)) rfl rfl (congrArg (Value.int .u8) (u8_high' m)) hown (by omega) ?_; intro v1 w1 hown1)
        go_roundw
        case rel => exact ⟨m / 128, f', _, rfl, hrel', by omega, hown1⟩
        case measure => simp [intOf]; omega
      · have hd := Lib.hid (hrel.done (by omega))
        clear hrel
        go_wp2_with (at_builtin; refine wpList_append_u8 rfl _ _ rfl (UInt8.ofNat m) rfl rfl (congrArg (Value.int .u8) (u8_low' m (by omega))) hown (by omega) ?_; intro v1 w1 hown1)
        go_ret
        rw [hd.out] at hown1
        exact ⟨_, rfl, by simpa using hown1⟩
end Go.Proofs.Ytabkgoandfpclaa
