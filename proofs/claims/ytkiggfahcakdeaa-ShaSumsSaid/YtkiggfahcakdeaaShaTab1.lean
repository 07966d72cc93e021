
/- Rows of integers that grow; prime, Primes, words. -/

import Derived.Test.YtkiggfahcakdeaaShaRefM

import Derived.Test.YtkiggfahcakdeaaAppend

namespace Go.Proofs.Ytkiggfahcakdeaa

set_option linter.unusedVariables false

set_option linter.unusedSimpArgs false

open Go.RowKit

def cellsI (k : IntKind) (zs : List Nat) : List Value := zs.map fun (n : Nat) => Value.int k (n : Int)
theorem cellsI_one (k : IntKind) (l : List Nat) : ∀ u ∈ cellsI k l, u.oneCell' = true := by
  intro u hu
  obtain ⟨_, _, rfl⟩ := List.mem_map.1 hu
  rfl
theorem cellsI_append (k : IntKind) (a b : List Nat) : cellsI k (a ++ b) = cellsI k a ++ cellsI k b := by simp [cellsI]
theorem cellsI_len (k : IntKind) (a : List Nat) : (cellsI k a).length = a.length := by simp [cellsI]
structure OwnI (e : TypeId) (k : IntKind) (N : Nat) (w0 w : World) (v : Value) (zs : List Nat) : Prop where
  own : w.ownsRow N e 1 v zs.length (cellsI k zs)
  bel : Below N w0 w
  sz : N ≤ w.heap.size
theorem wpList_append_i {t e : TypeId} {k : IntKind} {bytes : Nat} (ht : Try.prog.underlying t = some (.slice e)) (hi : (Try.prog.info? e).map (fun i => (i.zero, i.size, i.bytes)) = some (some (.int k 0), 1, bytes)) (hby : bytes ≤ 8)
    {ops : Array Oper} {rest : List Oper} {o : Oper} {a : Act} {Q : Exit → Act → World → Prop} {w0 wr : World} (hgd : o.guard = none) (s x : Operand)
    (ho : o.op = .call { callee := .builtin .append, args := #[s, x], argTypes := #[t, t] }) (hty : o.type = t) {N : Nat} {v u : Value} {zs : List Nat} (y : Nat) (hs : a.eval s = v)
    (hx : a.eval x = .slice (some ⟨wr.heap.size, 0, none⟩) 1 1) (hu : u = .int k (y : Int)) (hown : OwnI e k N w0 wr v zs) (hlen : zs.length + 1 ≤ 1099511627776)
    (h : ∀ v' w', OwnI e k N w0 w' v' (zs ++ [y]) → wpList Try.prog ops Q rest (a.put o.dst v') w') : wpList Try.prog ops Q (o :: rest) a (wr.alloc (.cells #[u] e)) := by
  subst hu
  refine wpList_append_rd _ hgd s x t ho N e (.int k 0) 1 bytes ht hi rfl (by decide) v zs.length (cellsI k zs) hs (hown.own.alloc _) _ 1 1 (cellsI k [y]) hx rfl (Rd.new _ _ _) (cellsI_one _ _)
    (by unfold maxLen; omega) (by have := Nat.mul_le_mul_left (zs.length + 1) hby; omega) (Nat.le_trans hown.sz (by simp)) ?_
  intro v' w' h1 h2 _
  refine h v' w' ⟨by rw [List.length_append, cellsI_append]; exact h1, ?_, ?_⟩
  · exact below_grown_own (hown.bel.alloc hown.sz _) (hown.own.alloc _) h2 (Nat.le_trans hown.sz (by simp))
  · have := h2.size
    have := hown.sz
    simp at *
    omega
theorem OwnI.startN (e : TypeId) (k : IntKind) (w0 w : World) (N : Nat) (hb : Below N w0 w) (hN : N ≤ w.heap.size) : OwnI e k N w0 (w.alloc (.cells #[] e)) (.slice (some ⟨w.heap.size, 0, none⟩) 0 0) [] :=
  ⟨own_new w _ _ 1 0 [] hN rfl (by decide), hb.alloc hN _, Nat.le_trans hN (by simp)⟩
theorem OwnI.slice {e : TypeId} {k : IntKind} {N : Nat} {w0 w : World} {v : Value} {zs : List Nat} (h : OwnI e k N w0 w v zs) :
    ∃ A n c, v = .slice A n c ∧ n = zs.length ∧ n ≤ c ∧ c ≤ maxLen ∧ Rd w A (cellsI k zs) := by
  obtain ⟨A, c, rfl, h1, h2, h3, _⟩ := own_slice h.own
  exact ⟨A, _, c, rfl, rfl, h1, h2, own_rd h.own⟩
theorem info_u64 : (Try.prog.info? 75).map (fun i => (i.zero, i.size, i.bytes)) = some (some (.int .u64 0), 1, 8) := by kernel_rfl
theorem info_int : (Try.prog.info? 3).map (fun i => (i.zero, i.size, i.bytes)) = some (some (.int .i64 0), 1, 8) := by kernel_rfl

/-! ### primes -/

def noDiv (n k : Nat) : Bool := (List.range k).all fun i => decide (i < 2) || decide (n % i ≠ 0)
def primeB (n : Nat) : Bool := decide (1 < n) && noDiv n n
theorem noDiv_succ (n k : Nat) : noDiv n (k + 1) = (noDiv n k && (decide (k < 2) || decide (n % k ≠ 0))) := by
  unfold noDiv
  rw [List.range_succ, List.all_append]; simp
theorem noDiv_no (n k m : Nat) (hk : k < m) (h2 : 2 ≤ k) (h : n % k = 0) : noDiv n m = false := by
  unfold noDiv
  rw [List.all_eq_false]
  exact ⟨k, List.mem_range.2 hk, by simp [h]; omega⟩
def plist (i : Nat) : List Nat := (List.range i).filter primeB
theorem plist_succ (i : Nat) : plist (i + 1) = plist i ++ if primeB i then [i] else [] := by
  unfold plist
  rw [List.range_succ, List.filter_append]
  by_cases h : primeB i = true <;> simp [h, List.filter_cons]
theorem plist_312 : (plist 312).length = 64 := by decide +kernel
theorem plist_311 : (plist 311).length = 63 := by decide +kernel
theorem plist_mono (i j : Nat) (h : i ≤ j) : (plist i).length ≤ (plist j).length := by
  induction j with
  | zero => rw [show i = 0 by omega]; exact Nat.le_refl _
  | succ j ih =>
    by_cases e : i = j + 1
    · rw [e]; exact Nat.le_refl _
    · have := ih (by omega)
      rw [plist_succ, List.length_append]; omega

set_option maxRecDepth 100000 in
theorem prime_any (n : Nat) (hn : n ≤ 1000) (w : World) : Calls Try.prog 47 #[.int .i64 (n : Int)] w fun e w' => w = w' ∧ e = .returned (.bool (primeB n)) := by
  go_enter Try.func47, Try.ntmps47
  go_wp2_with fail
  go_loopg [3] n (fun gk_ i wr => ∃ k : Nat, 2 ≤ k ∧ (k ≤ n ∨ k = 2) ∧ gk_ = n + 2 - k ∧ i = .int .i64 (k : Int) ∧ wr = w ∧ Hid (noDiv n k = true))
  case atStart => exact ⟨2, by omega, by omega, by omega, rfl, rfl, Lib.hid (by rw [noDiv_succ, noDiv_succ]; rfl)⟩
  case round =>
    obtain ⟨k, hk2, hkn, rfl, rfl, rfl, HD⟩ := hrel
    by_cases hlt : k < n
    · have hkI : (k : Int) < (n : Int) := by omega
      have hk0 : (0 : Int) < (k : Int) := by omega
      by_cases hz : n % k = 0
      · have hzI : (((n : Int) % (k : Int)) == 0) = true := by rw [beq_iff_eq]; omega
        have hp : primeB n = false := by unfold primeB; rw [noDiv_no n k n hlt hk2 hz]; simp
        have HP := Lib.hid hp
        clear hz hp hkn
        go_wp2_with fail
        go_ret
        exact ⟨rfl, by rw [HP.out]; rfl⟩
      · have hzI : (((n : Int) % (k : Int)) == 0) = false := by rw [beq_eq_false_iff_ne]; omega
        have HD2 : Hid (noDiv n (k + 1) = true) := Lib.hid (by rw [noDiv_succ, HD.out]; simp [hz])
        clear hz
        go_wp2_with fail
        go_roundg (n + 2 - (k + 1))
        case measure => omega
        case rel => exact ⟨k + 1, by omega, by omega, rfl, by go_num, rfl, HD2⟩
    · have hkI : ¬ (k : Int) < (n : Int) := by omega
      have hp : primeB n = decide ((1 : Int) < (n : Int)) := by
        unfold primeB
        by_cases h1 : 1 < n
        · have : n = k := by omega
          subst this
          rw [HD.out]; simp; omega
        · rw [decide_eq_false h1, Bool.false_and, eq_comm, decide_eq_false_iff_not]; omega
      have HP := Lib.hid hp
      clear hp
      go_wp2_with fail
      go_ret
      exact ⟨rfl, by rw [HP.out]; rfl⟩

set_option maxRecDepth 100000 in
theorem primes_any (w : World) : Calls Try.prog 32 #[.int .i64 64] w fun e w' => ∃ v, e = .returned v ∧ OwnI 3 .i64 w.heap.size w w' v (plist 312) := by
  have hst := OwnI.startN 3 .i64 w w w.heap.size (Below.refl _ _) (Nat.le_refl _)
  go_enter Try.func32, Try.ntmps32
  go_wp2_with fail
  go_loopg [3, 4] 400 (fun gk_ v i wr => ∃ k : Nat, 2 ≤ k ∧ k ≤ 312 ∧ gk_ = 402 - k ∧ i = .int .i64 (k : Int) ∧ OwnI 3 .i64 w.heap.size w wr v (plist k))
  case atStart => exact ⟨2, by omega, by omega, by omega, rfl, hst⟩
  case round =>
    clear hst
    obtain ⟨k, hk2, hk, rfl, rfl, hown⟩ := hrel
    obtain ⟨A3, n3, c3, rfl, hn3, hnc3, hc3, _⟩ := hown.slice
    have hl2 : (plist k).length + 1 ≤ 1099511627776 := by have := plist_mono k 312 hk; rw [plist_312] at this; omega
    by_cases hlt : k < 312
    · have hl : n3 < 64 := by have := plist_mono k 311 (by omega); rw [plist_311] at this; omega
      have hlI : (n3 : Int) < 64 := by omega
      have Hn3 := Lib.hid hn3
      clear hn3
      go_wp2_with fail
      refine (prime_any k (by omega) _).mono ?_
      rintro e w' ⟨rfl, rfl⟩
      by_cases hp : primeB k = true
      · have HPL : Hid (plist (k + 1) = plist k ++ [k]) := Lib.hid (by rw [plist_succ, hp]; rfl)
        rw [hp]
        clear hp
        go_wp2_with (at_builtin; refine wpList_append_i Try.underlying64 info_int (by decide) rfl _ _ rfl rfl k rfl rfl rfl hown hl2 ?_; intro v1 w1 hown1)
        go_roundg (402 - (k + 1))
        case measure => omega
        case rel => exact ⟨k + 1, by omega, by omega, rfl, by go_num, by rw [HPL.out]; exact hown1⟩
      · have hp' : primeB k = false := by simpa using hp
        have HPL : Hid (plist (k + 1) = plist k) := Lib.hid (by rw [plist_succ, hp']; simp)
        rw [hp']
        clear hp hp'
        go_wp2_with fail
        go_roundg (402 - (k + 1))
        case measure => omega
        case rel => exact ⟨k + 1, by omega, by omega, rfl, by go_num, by rw [HPL.out]; exact hown⟩
    · obtain rfl : k = 312 := by omega
      rw [plist_312] at hn3
      have hlI : ¬ (n3 : Int) < 64 := by omega
      have Hn3 := Lib.hid hn3
      clear hn3
      go_wp2_with fail
      go_ret
      exact ⟨_, rfl, hown⟩

/-! ### numbers in words of 16 bits -/

def digs : Nat → Nat → List Nat
  | 0, _ => []
  | n + 1, x => x % 65536 :: digs n (x / 65536)
def valU : List Nat → Nat
  | [] => 0
  | d :: r => d + 65536 * valU r
theorem digs_len (n x : Nat) : (digs n x).length = n := by induction n generalizing x with | zero => rfl | succ n ih => simp [digs, ih]
theorem digs_lt (n x : Nat) : ∀ d ∈ digs n x, d < 65536 := by
  induction n generalizing x with
  | zero => intro d h; cases h
  | succ n ih =>
    intro d h
    simp only [digs, List.mem_cons] at h
    rcases h with rfl | h
    · omega
    · exact ih _ d h
theorem digs_val (n x : Nat) : valU (digs n x) = x % 65536 ^ n := by
  induction n generalizing x with
  | zero => simp [digs, valU, Nat.mod_one]
  | succ n ih => simp only [digs, valU, ih]; rw [show 65536 ^ (n + 1) = 65536 * 65536 ^ n by rw [Nat.pow_succ, Nat.mul_comm], Nat.mod_mul]
theorem digs_snoc (n x : Nat) : digs (n + 1) x = digs n x ++ [x / 65536 ^ n % 65536] := by
  induction n generalizing x with
  | zero => simp [digs]
  | succ n ih =>
    rw [digs, ih, digs, List.cons_append, Nat.div_div_eq_div_mul, Nat.pow_succ, Nat.mul_comm (65536 ^ n)]
theorem valU_append (a b : List Nat) : valU (a ++ b) = valU a + 65536 ^ a.length * valU b := by
  induction a with
  | nil => simp [valU]
  | cons d a ih => simp only [List.cons_append, valU, ih, List.length_cons, Nat.pow_succ, Nat.mul_add, Nat.mul_comm (65536 ^ a.length) 65536, Nat.mul_assoc]; omega

set_option maxRecDepth 100000 in
theorem words_any (x : Nat) (hx : x < 18446744073709551616) (w : World) : Calls Try.prog 57 #[.int .u64 (x : Int)] w fun e w' => ∃ v, e = .returned v ∧ OwnI 75 .u64 w.heap.size w w' v (digs 4 x) := by
  have hst := OwnI.startN 75 .u64 w w w.heap.size (Below.refl _ _) (Nat.le_refl _)
  have hx0 : x / 65536 ^ 0 = x := by simp
  have HX0 := Lib.hid hx0
  clear hx0
  go_enter Try.func57, Try.ntmps57
  go_wp2_with fail
  go_loopg [0, 3, 4] 4 (fun gk_ s0 v i wr => ∃ (k X : Nat), k ≤ 4 ∧ gk_ = 4 - k ∧ i = .int .i64 (k : Int) ∧ s0 = .int .u64 (X : Int) ∧ Hid (X = x / 65536 ^ k) ∧ X < 18446744073709551616 ∧ OwnI 75 .u64 w.heap.size w wr v (digs k x))
  case atStart => exact ⟨0, x, by omega, by omega, rfl, rfl, Lib.hid HX0.out.symm, hx, hst⟩
  case round =>
    clear hst HX0
    obtain ⟨k, X, hk, rfl, rfl, rfl, HX, hX, hown⟩ := hrel
    have hl2 : (digs k x).length + 1 ≤ 1099511627776 := by rw [digs_len]; omega
    by_cases hlt : k < 4
    · have HD : Hid (Value.int .u64 ((X : Int) % 65536) = .int .u64 ((X % 65536 : Nat) : Int)) := Lib.hid (congrArg (Value.int .u64) (by omega))
      have HQ : Hid (Value.int .u64 ((X : Int) / 65536) = .int .u64 ((X / 65536 : Nat) : Int)) := Lib.hid (congrArg (Value.int .u64) (by omega))
      have HDS : Hid (digs (k + 1) x = digs k x ++ [X % 65536]) := Lib.hid (by rw [digs_snoc, HX.out])
      go_wp2_with (at_builtin; refine wpList_append_i Try.underlying109 info_u64 (by decide) rfl _ _ rfl rfl (X % 65536) rfl rfl HD.out hown hl2 ?_; intro v1 w1 hown1)
      go_roundg (4 - (k + 1))
      case measure => omega
      case rel => exact ⟨k + 1, X / 65536, by omega, rfl, by go_num, HQ.out, Lib.hid (by rw [HX.out, Nat.div_div_eq_div_mul, Nat.pow_succ]), by omega, by rw [HDS.out]; exact hown1⟩
    · obtain rfl : k = 4 := by omega
      go_wp2_with fail
      go_ret
      exact ⟨_, rfl, hown⟩
end Go.Proofs.Ytkiggfahcakdeaa
