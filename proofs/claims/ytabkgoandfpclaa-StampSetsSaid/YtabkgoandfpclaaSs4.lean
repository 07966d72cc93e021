
/- slices.symMergeCmpFunc at operations: what it leaves of the row (symA). Conditions: a < m < b within the row. (Printed by wip/genSs4.py.) -/

import Derived.Test.YtabkgoandfpclaaSs3

namespace Go.Proofs.Ytabkgoandfpclaa

set_option linter.unusedVariables false

set_option linter.unusedSimpArgs false

open Go.Shelf Go.RowKit Go.Lib Go.Sort Go.Proofs

variable {α : Type} [Inhabited α]

theorem bsN_end (p : Nat → Bool) (f i j : Nat) (h : ¬ i < j) : bsN p f i j = i := by
  cases f with
  | zero => rfl
  | succ f => rw [bsN, if_neg h]

theorem bsN_go (p : Nat → Bool) (f i j : Nat) (h : i < j) : bsN p (f + 1) i j = if p ((i + j) / 2) then bsN p f ((i + j) / 2 + 1) j else bsN p f i ((i + j) / 2) := by rw [bsN, if_pos h]

/-- symMergeCmpFunc leaves symA behind, for ranges of at most f -/
def SymOK (K : Nat) (enc : α → List Value) (cf : α → α → Int) (g : Nat) (cb : Array Value) (blk off cap : Nat) (d0 : Array α) (w0 : World) (f : Nat) : Prop :=
    ∀ (d : Array α) (a m b : Nat) (w : World), d.size = d0.size → SWK enc K w0 blk off d w → a < m → m < b → b ≤ d0.size → b - a ≤ f →
    Calls Try.prog 79 #[.slice (some ⟨blk, off, none⟩) d0.size cap, .int .i64 a, .int .i64 m, .int .i64 b, .func (.func g) #[] cb] w fun e w' => e = .returned (.tuple #[]) ∧ SWK enc K w0 blk off (symA (ltOf cf) f d a m b) w'
set_option maxHeartbeats 4000000 in
set_option maxRecDepth 1000000 in
theorem sym_one (K : Nat) (zE : ∀ w, (Go.sizeOf 33).run Try.prog w = .ok K w) (enc : α → List Value) (cf : α → α → Int) (g : Nat) (cb : Array Value) (blk off cap : Nat) (d0 : Array α) (w0 : World)
    (R : RowK enc K w0 blk off d0) (eg : ∀ args w, (callFunc g args).run Try.prog w = .ok (.enter g args) w) (hcmp : CmpLays Try.prog g cb enc K cf blk off d0.size w0) (hsz : d0.size < 4611686018427387904)
    (f : Nat) (ih : SymOK K enc cf g cb blk off cap d0 w0 f) (d : Array α) (a m b : Nat) (w : World) (hs : d.size = d0.size) (S : SWK enc K w0 blk off d w) (ham : a < m) (hmb : m < b) (hb : b ≤ d0.size) (hf : b - a ≤ f + 1)
    (h1 : m - a = 1) :
    Calls Try.prog 79 #[.slice (some ⟨blk, off, none⟩) d0.size cap, .int .i64 a, .int .i64 m, .int .i64 b, .func (.func g) #[] cb] w fun e w' => e = .returned (.tuple #[]) ∧ SWK enc K w0 blk off (symA (ltOf cf) (f + 1) d a m b) w' := by
  have mixed : Try.prog.follows .mixedOrders = true := by kernel_rfl
  have aE := opAgg
  have HC : Aside (CmpLays Try.prog g cb enc K cf blk off d0.size w0) := hcmp
  clear hcmp
  have IH := Lib.hid ih
  have HS := Lib.hid hs
  clear ih hs
  have S1 : Aside (SWK enc K w0 blk off d w) := S
  clear S
  have r1 : IntKind.i64.wrap ((m : Int) - (a : Int)) = (m : Int) - (a : Int) := by rw [IntKind.wrap_i64] <;> omega
  have r2 : IntKind.i64.wrap ((b : Int) - (m : Int)) = (b : Int) - (m : Int) := by rw [IntKind.wrap_i64] <;> omega
  go_enter Try.func79, Try.ntmps79
  have h1z : (m : Int) - (a : Int) = 1 := by omega
  have HA : Hid (symA (ltOf cf) (f + 1) d a m b = upA d a (bsN (fun h => ltOf cf d[h]! d[a]!) (b - m) m b - 1 - a)) := Lib.hid (by rw [symA, if_pos h1])
  go_wp2
  go_loopg [10, 11] (b - (m)) (fun kx sI sJ wr => ∃ (i j q : Nat), sI = .int .i64 i ∧ sJ = .int .i64 j ∧ m ≤ i ∧ i ≤ j ∧ j ≤ b ∧ j - i ≤ kx ∧ j - i ≤ q ∧ Aside (SWK enc K w0 blk off d wr) ∧ Hid (bsN (fun h => ltOf cf d[h]! d[a]!) q i j = bsN (fun h => ltOf cf d[h]! d[a]!) (b - m) (m) (b)))
  case atStart => exact ⟨m, b, b - m, congrArg (Value.int .i64) (by omega), congrArg (Value.int .i64) (by omega), by omega, by omega, by omega, by omega, by omega, S1, Lib.hid rfl⟩
  case round =>
    clear S1
    obtain ⟨i, j, q, rfl, rfl, hli, hij, hjh, hkx, hq, S1, HB⟩ := hrel
    by_cases hlt : i < j
    · have hltz : (i : Int) < (j : Int) := by omega
      obtain ⟨q, rfl⟩ : ∃ q', q = q' + 1 := ⟨q - 1, by omega⟩
      rw [bsN_go _ _ _ _ hlt] at HB
      obtain ⟨h, hh⟩ : ∃ h, (i + j) / 2 = h := ⟨_, rfl⟩
      rw [hh] at HB
      have hih : i ≤ h := by omega
      have hhj : h < j := by omega
      go_wp2_with fail
      rw [show ((i : Int) + (j : Int)) / 2 = (h : Int) from by omega]
      cases hL : ltOf cf d[h]! d[a]! with
      | true =>
        have ea1 : ((h : Int)).toNat = h := by omega
        have pa1 : (0 : Int) ≤ (h : Int) := by omega
        have ba1 : (h : Int) < (d0.size : Int) := by omega
        have ec1 : ((a : Int)).toNat = a := by omega
        have pc1 : (0 : Int) ≤ (a : Int) := by omega
        have bc1 : (a : Int) < (d0.size : Int) := by omega
        obtain ⟨x1, hx1⟩ : ∃ z9, z9 = d[h]! := ⟨_, rfl⟩
        obtain ⟨y1, hy1⟩ : ∃ z9, z9 = d[a]! := ⟨_, rfl⟩
        have l1a := S1.out.ld R HS.out Try.prog (h) (by have := HS.out; omega)
        have l1b := S1.out.ld R HS.out Try.prog (a) (by have := HS.out; omega)
        rw [← hx1] at l1a
        rw [← hy1] at l1b
        have hc1 := S1.out.cmp HC.out HS.out x1 y1
        have hv1 : cf x1 y1 < 0 := by rw [hx1, hy1]; exact of_decide_eq_true hL
        have hd1 : decide (cf x1 y1 < 0) = true := decide_eq_true hv1
        clear hx1 hy1
        go_wp2_with fail
        go_quiet_grown (first | (go_at_fn g; refine Calls.grown_of (hc1 _ _)))
        have S2 : Aside (SWK enc K w0 blk off d (grow (wr.drewN nq) osq)) := S1.out.grown nq osq
        clear l1a l1b hc1 S1
        generalize grow (wr.drewN nq) osq = w2 at S2 ⊢
        clear nq osq
        go_wp2_with fail
        go_roundg (j - (h + 1))
        case measure => omega
        case rel => exact ⟨h + 1, j, q, by go_num, rfl, by omega, by omega, by omega, Nat.le_refl _, by omega, S2, Lib.hid (by have hB := HB.out; simp only [ hL, Bool.not_true, Bool.not_false, ↓reduceIte, Bool.false_eq_true] at hB; exact hB)⟩
      | false =>
        have ea1 : ((h : Int)).toNat = h := by omega
        have pa1 : (0 : Int) ≤ (h : Int) := by omega
        have ba1 : (h : Int) < (d0.size : Int) := by omega
        have ec1 : ((a : Int)).toNat = a := by omega
        have pc1 : (0 : Int) ≤ (a : Int) := by omega
        have bc1 : (a : Int) < (d0.size : Int) := by omega
        obtain ⟨x1, hx1⟩ : ∃ z9, z9 = d[h]! := ⟨_, rfl⟩
        obtain ⟨y1, hy1⟩ : ∃ z9, z9 = d[a]! := ⟨_, rfl⟩
        have l1a := S1.out.ld R HS.out Try.prog (h) (by have := HS.out; omega)
        have l1b := S1.out.ld R HS.out Try.prog (a) (by have := HS.out; omega)
        rw [← hx1] at l1a
        rw [← hy1] at l1b
        have hc1 := S1.out.cmp HC.out HS.out x1 y1
        have hv1 : ¬ cf x1 y1 < 0 := by rw [hx1, hy1]; exact of_decide_eq_false hL
        have hd1 : decide (cf x1 y1 < 0) = false := decide_eq_false hv1
        clear hx1 hy1
        go_wp2_with fail
        go_quiet_grown (first | (go_at_fn g; refine Calls.grown_of (hc1 _ _)))
        have S2 : Aside (SWK enc K w0 blk off d (grow (wr.drewN nq) osq)) := S1.out.grown nq osq
        clear l1a l1b hc1 S1
        generalize grow (wr.drewN nq) osq = w2 at S2 ⊢
        clear nq osq
        go_wp2_with fail
        go_roundg (h - i)
        case measure => omega
        case rel => exact ⟨i, h, q, rfl, rfl, by omega, by omega, by omega, Nat.le_refl _, by omega, S2, Lib.hid (by have hB := HB.out; simp only [ hL, Bool.not_true, Bool.not_false, ↓reduceIte, Bool.false_eq_true] at hB; exact hB)⟩
    · have hji : j = i := by omega
      subst hji
      rw [bsN_end _ _ _ _ hlt] at HB
      have HA2 : Hid (symA (ltOf cf) (f + 1) d a m b = upA d a (j - 1 - a)) := Lib.hid (by rw [HA.out, ← HB.out])
      obtain ⟨w1, hw1⟩ : ∃ x, x = wr := ⟨_, rfl⟩
      subst hw1
      have wj : IntKind.i64.wrap ((j : Int) - 1) = (j : Int) - 1 := by rw [IntKind.wrap_i64] <;> omega
      go_wp2_with fail
      go_loopg [13] (b - a) (fun kx sk wr => ∃ (k : Nat) (dk : Array α), sk = .int .i64 k ∧ a ≤ k ∧ k ≤ j - 1 ∧ j - 1 - k ≤ kx ∧ Hid (dk.size = d0.size) ∧ Aside (SWK enc K w0 blk off dk wr) ∧ Hid (upA dk k (j - 1 - k) = upA d a (j - 1 - a)))
      case atStart => exact ⟨a, d, rfl, by omega, by omega, by omega, HS, S1, Lib.hid rfl⟩
      case round =>
        clear S1
        obtain ⟨k, dk, rfl, hk1, hk2, hkx2, HSK, S1, HU⟩ := hrel
        by_cases hlt2 : k < j - 1
        · have hz : (k : Int) < (j : Int) - 1 := by omega
          have ea2 : ((k : Int)).toNat = k := by omega
          have pa2 : (0 : Int) ≤ (k : Int) := by omega
          have ba2 : (k : Int) < (d0.size : Int) := by omega
          have ec2 : ((k : Int) + 1).toNat = k + 1 := by omega
          have pc2 : (0 : Int) ≤ (k : Int) + 1 := by omega
          have bc2 : (k : Int) + 1 < (d0.size : Int) := by omega
          have rc2 : IntKind.i64.wrap ((k : Int) + 1) = (k : Int) + 1 := by rw [IntKind.wrap_i64] <;> omega
          have S2 : Aside (SWK enc K w0 blk off (swp dk (k) (k + 1)) ((wr.drew.setCells blk (off + (k) * K) (enc dk[k + 1]!)).setCells blk (off + (k + 1) * K) (enc dk[k]!))) := S1.out.swapped R (k) (k + 1) (by have := HSK.out; omega) (by have := HSK.out; omega)
          have l2a := S1.out.ld1 R HSK.out Try.prog (k) (by have := HSK.out; omega)
          have l2b := S1.out.ld1 R HSK.out Try.prog (k + 1) (by have := HSK.out; omega)
          have s2a := S1.out.st1 R HSK.out Try.prog (k) (by have := HSK.out; omega) dk[k + 1]!
          have s2b := S1.out.st2 R HSK.out Try.prog (k) (k + 1) (by have := HSK.out; omega) (by have := HSK.out; omega) dk[k + 1]! dk[k]!
          have n2a : (enc dk[k]!).length = K := R.hk _
          have n2b : (enc dk[k + 1]!).length = K := R.hk _
          generalize enc dk[k]! = cI2 at S2 l2a s2b n2a
          generalize enc dk[k + 1]! = cJ2 at S2 l2b s2a s2b n2b
          clear S1
          go_wp2_with fail
          go_big_region_o
          clear l2a l2b s2a s2b
          generalize (wr.drew.setCells blk (off + (k) * K) cJ2).setCells blk (off + (k + 1) * K) cI2 = w2 at S2 ⊢
          go_wp2
          go_roundg (j - 1 - (k + 1))
          case measure => omega
          case rel => exact ⟨k + 1, swp dk k (k + 1), by first | go_num | exact congrArg (Value.int .i64) (by omega), by omega, by omega, Nat.le_refl _, Lib.hid (by rw [size_swp]; exact HSK.out), S2, Lib.hid (by (have e : j - 1 - k = (j - 1 - (k + 1)) + 1 := by omega); (have h9 := HU.out); rw [e, upA] at h9; exact h9)⟩
        · have hz : ¬ ((k : Int) < (j : Int) - 1) := by omega
          have e : j - 1 - k = 0 := by omega
          go_wp2
          refine bodyPost_ret (results_none rfl _ _ _) rfl ?_
          refine ⟨rfl, ?_⟩
          have h5 := HU.out
          rw [e, upA] at h5
          rw [HA2.out, ← h5]
          exact S1.out

set_option maxHeartbeats 4000000 in
set_option maxRecDepth 1000000 in
theorem sym_two (K : Nat) (zE : ∀ w, (Go.sizeOf 33).run Try.prog w = .ok K w) (enc : α → List Value) (cf : α → α → Int) (g : Nat) (cb : Array Value) (blk off cap : Nat) (d0 : Array α) (w0 : World)
    (R : RowK enc K w0 blk off d0) (eg : ∀ args w, (callFunc g args).run Try.prog w = .ok (.enter g args) w) (hcmp : CmpLays Try.prog g cb enc K cf blk off d0.size w0) (hsz : d0.size < 4611686018427387904)
    (f : Nat) (ih : SymOK K enc cf g cb blk off cap d0 w0 f) (d : Array α) (a m b : Nat) (w : World) (hs : d.size = d0.size) (S : SWK enc K w0 blk off d w) (ham : a < m) (hmb : m < b) (hb : b ≤ d0.size) (hf : b - a ≤ f + 1)
    (h1 : ¬ m - a = 1) (h2 : b - m = 1) :
    Calls Try.prog 79 #[.slice (some ⟨blk, off, none⟩) d0.size cap, .int .i64 a, .int .i64 m, .int .i64 b, .func (.func g) #[] cb] w fun e w' => e = .returned (.tuple #[]) ∧ SWK enc K w0 blk off (symA (ltOf cf) (f + 1) d a m b) w' := by
  have mixed : Try.prog.follows .mixedOrders = true := by kernel_rfl
  have aE := opAgg
  have HC : Aside (CmpLays Try.prog g cb enc K cf blk off d0.size w0) := hcmp
  clear hcmp
  have IH := Lib.hid ih
  have HS := Lib.hid hs
  clear ih hs
  have S1 : Aside (SWK enc K w0 blk off d w) := S
  clear S
  have r1 : IntKind.i64.wrap ((m : Int) - (a : Int)) = (m : Int) - (a : Int) := by rw [IntKind.wrap_i64] <;> omega
  have r2 : IntKind.i64.wrap ((b : Int) - (m : Int)) = (b : Int) - (m : Int) := by rw [IntKind.wrap_i64] <;> omega
  go_enter Try.func79, Try.ntmps79
  have h1z : ¬ ((m : Int) - (a : Int) = 1) := by omega
  have h1y : ((m : Int) - (a : Int) == 1) = false := by simpa using h1z
  have h2z : (b : Int) - (m : Int) = 1 := by omega
  have HA : Hid (symA (ltOf cf) (f + 1) d a m b = dnA d m (m - bsN (fun h => !ltOf cf d[m]! d[h]!) (m - a) a m)) := Lib.hid (by rw [symA, if_neg h1, if_pos h2])
  go_wp2
  go_loopg [14, 15] (m - (a)) (fun kx sI sJ wr => ∃ (i j q : Nat), sI = .int .i64 i ∧ sJ = .int .i64 j ∧ a ≤ i ∧ i ≤ j ∧ j ≤ m ∧ j - i ≤ kx ∧ j - i ≤ q ∧ Aside (SWK enc K w0 blk off d wr) ∧ Hid (bsN (fun h => !ltOf cf d[m]! d[h]!) q i j = bsN (fun h => !ltOf cf d[m]! d[h]!) (m - a) (a) (m)))
  case atStart => exact ⟨a, m, m - a, congrArg (Value.int .i64) (by omega), congrArg (Value.int .i64) (by omega), by omega, by omega, by omega, by omega, by omega, S1, Lib.hid rfl⟩
  case round =>
    clear S1
    obtain ⟨i, j, q, rfl, rfl, hli, hij, hjh, hkx, hq, S1, HB⟩ := hrel
    by_cases hlt : i < j
    · have hltz : (i : Int) < (j : Int) := by omega
      obtain ⟨q, rfl⟩ : ∃ q', q = q' + 1 := ⟨q - 1, by omega⟩
      rw [bsN_go _ _ _ _ hlt] at HB
      obtain ⟨h, hh⟩ : ∃ h, (i + j) / 2 = h := ⟨_, rfl⟩
      rw [hh] at HB
      have hih : i ≤ h := by omega
      have hhj : h < j := by omega
      go_wp2_with fail
      rw [show ((i : Int) + (j : Int)) / 2 = (h : Int) from by omega]
      cases hL : ltOf cf d[m]! d[h]! with
      | true =>
        have ea1 : ((m : Int)).toNat = m := by omega
        have pa1 : (0 : Int) ≤ (m : Int) := by omega
        have ba1 : (m : Int) < (d0.size : Int) := by omega
        have ec1 : ((h : Int)).toNat = h := by omega
        have pc1 : (0 : Int) ≤ (h : Int) := by omega
        have bc1 : (h : Int) < (d0.size : Int) := by omega
        obtain ⟨x1, hx1⟩ : ∃ z9, z9 = d[m]! := ⟨_, rfl⟩
        obtain ⟨y1, hy1⟩ : ∃ z9, z9 = d[h]! := ⟨_, rfl⟩
        have l1a := S1.out.ld R HS.out Try.prog (m) (by have := HS.out; omega)
        have l1b := S1.out.ld R HS.out Try.prog (h) (by have := HS.out; omega)
        rw [← hx1] at l1a
        rw [← hy1] at l1b
        have hc1 := S1.out.cmp HC.out HS.out x1 y1
        have hv1 : cf x1 y1 < 0 := by rw [hx1, hy1]; exact of_decide_eq_true hL
        have hd1 : decide (cf x1 y1 < 0) = true := decide_eq_true hv1
        clear hx1 hy1
        go_wp2_with fail
        go_quiet_grown (first | (go_at_fn g; refine Calls.grown_of (hc1 _ _)))
        have S2 : Aside (SWK enc K w0 blk off d (grow (wr.drewN nq) osq)) := S1.out.grown nq osq
        clear l1a l1b hc1 S1
        generalize grow (wr.drewN nq) osq = w2 at S2 ⊢
        clear nq osq
        go_wp2_with fail
        go_roundg (h - i)
        case measure => omega
        case rel => exact ⟨i, h, q, rfl, rfl, by omega, by omega, by omega, Nat.le_refl _, by omega, S2, Lib.hid (by have hB := HB.out; simp only [ hL, Bool.not_true, Bool.not_false, ↓reduceIte, Bool.false_eq_true] at hB; exact hB)⟩
      | false =>
        have ea1 : ((m : Int)).toNat = m := by omega
        have pa1 : (0 : Int) ≤ (m : Int) := by omega
        have ba1 : (m : Int) < (d0.size : Int) := by omega
        have ec1 : ((h : Int)).toNat = h := by omega
        have pc1 : (0 : Int) ≤ (h : Int) := by omega
        have bc1 : (h : Int) < (d0.size : Int) := by omega
        obtain ⟨x1, hx1⟩ : ∃ z9, z9 = d[m]! := ⟨_, rfl⟩
        obtain ⟨y1, hy1⟩ : ∃ z9, z9 = d[h]! := ⟨_, rfl⟩
        have l1a := S1.out.ld R HS.out Try.prog (m) (by have := HS.out; omega)
        have l1b := S1.out.ld R HS.out Try.prog (h) (by have := HS.out; omega)
        rw [← hx1] at l1a
        rw [← hy1] at l1b
        have hc1 := S1.out.cmp HC.out HS.out x1 y1
        have hv1 : ¬ cf x1 y1 < 0 := by rw [hx1, hy1]; exact of_decide_eq_false hL
        have hd1 : decide (cf x1 y1 < 0) = false := decide_eq_false hv1
        clear hx1 hy1
        go_wp2_with fail
        go_quiet_grown (first | (go_at_fn g; refine Calls.grown_of (hc1 _ _)))
        have S2 : Aside (SWK enc K w0 blk off d (grow (wr.drewN nq) osq)) := S1.out.grown nq osq
        clear l1a l1b hc1 S1
        generalize grow (wr.drewN nq) osq = w2 at S2 ⊢
        clear nq osq
        go_wp2_with fail
        go_roundg (j - (h + 1))
        case measure => omega
        case rel => exact ⟨h + 1, j, q, by go_num, rfl, by omega, by omega, by omega, Nat.le_refl _, by omega, S2, Lib.hid (by have hB := HB.out; simp only [ hL, Bool.not_true, Bool.not_false, ↓reduceIte, Bool.false_eq_true] at hB; exact hB)⟩
    · have hji : j = i := by omega
      subst hji
      rw [bsN_end _ _ _ _ hlt] at HB
      have HA2 : Hid (symA (ltOf cf) (f + 1) d a m b = dnA d m (m - j)) := Lib.hid (by rw [HA.out, ← HB.out])
      obtain ⟨w1, hw1⟩ : ∃ x, x = wr := ⟨_, rfl⟩
      subst hw1
      have wj : IntKind.i64.wrap ((j : Int) - 1) = (j : Int) - 1 := by rw [IntKind.wrap_i64] <;> omega
      go_wp2_with fail
      go_loopg [17] (b - a) (fun kx sk wr => ∃ (k : Nat) (dk : Array α), sk = .int .i64 k ∧ j ≤ k ∧ k ≤ m ∧ k - j ≤ kx ∧ Hid (dk.size = d0.size) ∧ Aside (SWK enc K w0 blk off dk wr) ∧ Hid (dnA dk k (k - j) = dnA d m (m - j)))
      case atStart => exact ⟨m, d, rfl, by omega, by omega, by omega, HS, S1, Lib.hid rfl⟩
      case round =>
        clear S1
        obtain ⟨k, dk, rfl, hk1, hk2, hkx2, HSK, S1, HU⟩ := hrel
        by_cases hlt2 : j < k
        · have hz : (j : Int) < (k : Int) := by omega
          have ea2 : ((k : Int)).toNat = k := by omega
          have pa2 : (0 : Int) ≤ (k : Int) := by omega
          have ba2 : (k : Int) < (d0.size : Int) := by omega
          have ec2 : ((k : Int) - 1).toNat = k - 1 := by omega
          have pc2 : (0 : Int) ≤ (k : Int) - 1 := by omega
          have bc2 : (k : Int) - 1 < (d0.size : Int) := by omega
          have rc2 : IntKind.i64.wrap ((k : Int) - 1) = (k : Int) - 1 := by rw [IntKind.wrap_i64] <;> omega
          have S2 : Aside (SWK enc K w0 blk off (swp dk (k) (k - 1)) ((wr.drew.setCells blk (off + (k) * K) (enc dk[k - 1]!)).setCells blk (off + (k - 1) * K) (enc dk[k]!))) := S1.out.swapped R (k) (k - 1) (by have := HSK.out; omega) (by have := HSK.out; omega)
          have l2a := S1.out.ld1 R HSK.out Try.prog (k) (by have := HSK.out; omega)
          have l2b := S1.out.ld1 R HSK.out Try.prog (k - 1) (by have := HSK.out; omega)
          have s2a := S1.out.st1 R HSK.out Try.prog (k) (by have := HSK.out; omega) dk[k - 1]!
          have s2b := S1.out.st2 R HSK.out Try.prog (k) (k - 1) (by have := HSK.out; omega) (by have := HSK.out; omega) dk[k - 1]! dk[k]!
          have n2a : (enc dk[k]!).length = K := R.hk _
          have n2b : (enc dk[k - 1]!).length = K := R.hk _
          generalize enc dk[k]! = cI2 at S2 l2a s2b n2a
          generalize enc dk[k - 1]! = cJ2 at S2 l2b s2a s2b n2b
          clear S1
          go_wp2_with fail
          go_big_region_o
          clear l2a l2b s2a s2b
          generalize (wr.drew.setCells blk (off + (k) * K) cJ2).setCells blk (off + (k - 1) * K) cI2 = w2 at S2 ⊢
          go_wp2
          go_roundg (k - 1 - j)
          case measure => omega
          case rel => exact ⟨k - 1, swp dk k (k - 1), by first | go_num | exact congrArg (Value.int .i64) (by omega), by omega, by omega, Nat.le_refl _, Lib.hid (by rw [size_swp]; exact HSK.out), S2, Lib.hid (by (have e : k - j = (k - 1 - j) + 1 := by omega); (have h9 := HU.out); rw [e, dnA] at h9; exact h9)⟩
        · have hz : ¬ ((j : Int) < (k : Int)) := by omega
          have e : k - j = 0 := by omega
          go_wp2
          refine bodyPost_ret (results_none rfl _ _ _) rfl ?_
          refine ⟨rfl, ?_⟩
          have h5 := HU.out
          rw [e, dnA] at h5
          rw [HA2.out, ← h5]
          exact S1.out

set_option maxHeartbeats 4000000 in
set_option maxRecDepth 1000000 in
theorem sym_lo (K : Nat) (zE : ∀ w, (Go.sizeOf 33).run Try.prog w = .ok K w) (enc : α → List Value) (cf : α → α → Int) (g : Nat) (cb : Array Value) (blk off cap : Nat) (d0 : Array α) (w0 : World)
    (R : RowK enc K w0 blk off d0) (eg : ∀ args w, (callFunc g args).run Try.prog w = .ok (.enter g args) w) (hcmp : CmpLays Try.prog g cb enc K cf blk off d0.size w0) (hsz : d0.size < 4611686018427387904)
    (f : Nat) (ih : SymOK K enc cf g cb blk off cap d0 w0 f) (d : Array α) (a m b : Nat) (w : World) (hs : d.size = d0.size) (S : SWK enc K w0 blk off d w) (ham : a < m) (hmb : m < b) (hb : b ≤ d0.size) (hf : b - a ≤ f + 1)
    (h1 : ¬ m - a = 1) (h2 : ¬ b - m = 1) (hmm : (a + b) / 2 < m) :
    Calls Try.prog 79 #[.slice (some ⟨blk, off, none⟩) d0.size cap, .int .i64 a, .int .i64 m, .int .i64 b, .func (.func g) #[] cb] w fun e w' => e = .returned (.tuple #[]) ∧ SWK enc K w0 blk off (symA (ltOf cf) (f + 1) d a m b) w' := by
  have mixed : Try.prog.follows .mixedOrders = true := by kernel_rfl
  have aE := opAgg
  have HC : Aside (CmpLays Try.prog g cb enc K cf blk off d0.size w0) := hcmp
  clear hcmp
  have IH := Lib.hid ih
  have HS := Lib.hid hs
  clear ih hs
  have S1 : Aside (SWK enc K w0 blk off d w) := S
  clear S
  have r1 : IntKind.i64.wrap ((m : Int) - (a : Int)) = (m : Int) - (a : Int) := by rw [IntKind.wrap_i64] <;> omega
  have r2 : IntKind.i64.wrap ((b : Int) - (m : Int)) = (b : Int) - (m : Int) := by rw [IntKind.wrap_i64] <;> omega
  go_enter Try.func79, Try.ntmps79
  have h1z : ¬ ((m : Int) - (a : Int) = 1) := by omega
  have h1y : ((m : Int) - (a : Int) == 1) = false := by simpa using h1z
  have h2z : ¬ ((b : Int) - (m : Int) = 1) := by omega
  have h2y : ((b : Int) - (m : Int) == 1) = false := by simpa using h2z
  obtain ⟨md, hmd⟩ : ∃ x, (a + b) / 2 = x := ⟨_, rfl⟩
  rw [hmd] at hmm
  have HMD := Lib.hid hmd
  have q1 : 2 * md ≤ a + b := by omega
  have q2 : a + b < 2 * md + 2 := by omega
  have q3 : ((a : Int) + (b : Int)) / 2 = (md : Int) := by omega
  have v1 : IntKind.i64.wrap ((md : Int) + (m : Int)) = (md : Int) + (m : Int) := by rw [IntKind.wrap_i64] <;> omega
  have v2 : IntKind.i64.wrap ((md : Int) + (m : Int) - 1) = (md : Int) + (m : Int) - 1 := by rw [IntKind.wrap_i64] <;> omega
  have v3 : IntKind.i64.wrap ((md : Int) + (m : Int) - (b : Int)) = (md : Int) + (m : Int) - (b : Int) := by rw [IntKind.wrap_i64] <;> omega
  have ZE : Aside (∀ w, (Go.sizeOf 33).run Try.prog w = .ok K w) := zE
  clear hmd
  have hmz : (md : Int) < (m : Int) := by omega
  obtain ⟨lo, hlo⟩ : ∃ x, md + m - b = x := ⟨_, rfl⟩
  obtain ⟨hi, hhi⟩ : ∃ x, md = x := ⟨_, rfl⟩
  have HSS : Hid (symS (ltOf cf) d a m b = bsN (fun h => !ltOf cf d[md + m - 1 - h]! d[h]!) (b - a) lo hi) := Lib.hid (by unfold symS symLo symHi; rw [HMD.out, if_pos hmm, if_pos hmm, hlo, hhi])
  have q4 : md + m ≤ lo + b := by omega
  have q5 : a ≤ lo ∧ lo ≤ hi ∧ hi ≤ md ∧ hi ≤ m := by omega
  have q6 : lo + b ≤ md + m ∧ md ≤ hi := by omega
  skip
  clear hlo hhi
  go_wp2
  go_loopg [20, 21] (hi - (lo)) (fun kx sI sJ wr => ∃ (i j q : Nat), sI = .int .i64 i ∧ sJ = .int .i64 j ∧ lo ≤ i ∧ i ≤ j ∧ j ≤ hi ∧ j - i ≤ kx ∧ j - i ≤ q ∧ Aside (SWK enc K w0 blk off d wr) ∧ Hid (bsN (fun h => !ltOf cf d[md + m - 1 - h]! d[h]!) q i j = bsN (fun h => !ltOf cf d[md + m - 1 - h]! d[h]!) (b - a) (lo) (hi)))
  case atStart => exact ⟨lo, hi, b - a, congrArg (Value.int .i64) (by omega), congrArg (Value.int .i64) (by omega), by omega, by omega, by omega, by omega, by omega, S1, Lib.hid rfl⟩
  case round =>
    clear S1
    obtain ⟨i, j, q, rfl, rfl, hli, hij, hjh, hkx, hq, S1, HB⟩ := hrel
    by_cases hlt : i < j
    · have hltz : (i : Int) < (j : Int) := by omega
      obtain ⟨q, rfl⟩ : ∃ q', q = q' + 1 := ⟨q - 1, by omega⟩
      rw [bsN_go _ _ _ _ hlt] at HB
      obtain ⟨h, hh⟩ : ∃ h, (i + j) / 2 = h := ⟨_, rfl⟩
      rw [hh] at HB
      have hih : i ≤ h := by omega
      have hhj : h < j := by omega
      go_wp2_with fail
      rw [show ((i : Int) + (j : Int)) / 2 = (h : Int) from by omega]
      obtain ⟨x, hx⟩ : ∃ x, md + m - 1 - h = x := ⟨_, rfl⟩
      have HX := Lib.hid hx
      have e0 : (md : Int) + (m : Int) - 1 - (h : Int) = (x : Int) := by omega
      have e1 : IntKind.i64.wrap (x : Int) = (x : Int) := by rw [IntKind.wrap_i64] <;> omega
      have hxb : x < d0.size := by omega
      clear hx
      cases hL : ltOf cf d[x]! d[h]! with
      | true =>
        have ea3 : ((x : Int)).toNat = x := by omega
        have pa3 : (0 : Int) ≤ (x : Int) := by omega
        have ba3 : (x : Int) < (d0.size : Int) := by omega
        have ec3 : ((h : Int)).toNat = h := by omega
        have pc3 : (0 : Int) ≤ (h : Int) := by omega
        have bc3 : (h : Int) < (d0.size : Int) := by omega
        obtain ⟨x3, hx3⟩ : ∃ z9, z9 = d[x]! := ⟨_, rfl⟩
        obtain ⟨y3, hy3⟩ : ∃ z9, z9 = d[h]! := ⟨_, rfl⟩
        have l3a := S1.out.ld R HS.out Try.prog (x) (by have := HS.out; omega)
        have l3b := S1.out.ld R HS.out Try.prog (h) (by have := HS.out; omega)
        rw [← hx3] at l3a
        rw [← hy3] at l3b
        have hc3 := S1.out.cmp HC.out HS.out x3 y3
        have hv3 : cf x3 y3 < 0 := by rw [hx3, hy3]; exact of_decide_eq_true hL
        have hd3 : decide (cf x3 y3 < 0) = true := decide_eq_true hv3
        clear hx3 hy3
        go_wp2_with fail
        go_quiet_grown (first | (go_at_fn g; refine Calls.grown_of (hc3 _ _)))
        have S2 : Aside (SWK enc K w0 blk off d (grow (wr.drewN nq) osq)) := S1.out.grown nq osq
        clear l3a l3b hc3 S1
        generalize grow (wr.drewN nq) osq = w2 at S2 ⊢
        clear nq osq
        go_wp2_with fail
        go_roundg (h - i)
        case measure => omega
        case rel => exact ⟨i, h, q, rfl, rfl, by omega, by omega, by omega, Nat.le_refl _, by omega, S2, Lib.hid (by have hB := HB.out; simp only [HX.out, hL, Bool.not_true, Bool.not_false, ↓reduceIte, Bool.false_eq_true] at hB; exact hB)⟩
      | false =>
        have ea3 : ((x : Int)).toNat = x := by omega
        have pa3 : (0 : Int) ≤ (x : Int) := by omega
        have ba3 : (x : Int) < (d0.size : Int) := by omega
        have ec3 : ((h : Int)).toNat = h := by omega
        have pc3 : (0 : Int) ≤ (h : Int) := by omega
        have bc3 : (h : Int) < (d0.size : Int) := by omega
        obtain ⟨x3, hx3⟩ : ∃ z9, z9 = d[x]! := ⟨_, rfl⟩
        obtain ⟨y3, hy3⟩ : ∃ z9, z9 = d[h]! := ⟨_, rfl⟩
        have l3a := S1.out.ld R HS.out Try.prog (x) (by have := HS.out; omega)
        have l3b := S1.out.ld R HS.out Try.prog (h) (by have := HS.out; omega)
        rw [← hx3] at l3a
        rw [← hy3] at l3b
        have hc3 := S1.out.cmp HC.out HS.out x3 y3
        have hv3 : ¬ cf x3 y3 < 0 := by rw [hx3, hy3]; exact of_decide_eq_false hL
        have hd3 : decide (cf x3 y3 < 0) = false := decide_eq_false hv3
        clear hx3 hy3
        go_wp2_with fail
        go_quiet_grown (first | (go_at_fn g; refine Calls.grown_of (hc3 _ _)))
        have S2 : Aside (SWK enc K w0 blk off d (grow (wr.drewN nq) osq)) := S1.out.grown nq osq
        clear l3a l3b hc3 S1
        generalize grow (wr.drewN nq) osq = w2 at S2 ⊢
        clear nq osq
        go_wp2_with fail
        go_roundg (j - (h + 1))
        case measure => omega
        case rel => exact ⟨h + 1, j, q, by go_num, rfl, by omega, by omega, by omega, Nat.le_refl _, by omega, S2, Lib.hid (by have hB := HB.out; simp only [HX.out, hL, Bool.not_true, Bool.not_false, ↓reduceIte, Bool.false_eq_true] at hB; exact hB)⟩
    · have hji : j = i := by omega
      subst hji
      rw [bsN_end _ _ _ _ hlt] at HB
      obtain ⟨w1, hw1⟩ : ∃ x, x = wr := ⟨_, rfl⟩
      subst hw1
      obtain ⟨e, he⟩ : ∃ e, md + m - j = e := ⟨_, rfl⟩
      have he1 : (md : Int) + (m : Int) - (j : Int) = (e : Int) := by omega
      have we : IntKind.i64.wrap (e : Int) = (e : Int) := by rw [IntKind.wrap_i64] <;> omega
      have HA3 : Hid (symA (ltOf cf) (f + 1) d a m b = (if md < e ∧ e < b then symA (ltOf cf) f (if a < j ∧ j < md then symA (ltOf cf) f (if j < m ∧ m < e then rotA d j m e else d) a j md else (if j < m ∧ m < e then rotA d j m e else d)) md e b else (if a < j ∧ j < md then symA (ltOf cf) f (if j < m ∧ m < e then rotA d j m e else d) a j md else (if j < m ∧ m < e then rotA d j m e else d)))) := Lib.hid (by
        have h7 : symS (ltOf cf) d a m b = j := HSS.out.trans HB.out.symm
        rw [symA, if_neg h1, if_neg h2]
        dsimp only
        rw [h7, HMD.out, he])
      have HE1 := Lib.hid he1
      have hcs : (md ≤ j) ∨ (a < j ∧ lo < j ∧ j < md) ∨ (a < j ∧ j ≤ lo ∧ j < md) ∨ (j ≤ a ∧ j ≤ lo ∧ j < md) := by omega
      rcases hcs with hc | hc | hc | hc
      · have k1 : (j : Int) < (m : Int) := by omega
        have k2 : ¬ ((m : Int) < (e : Int)) := by omega
        have k3 : (a : Int) < (j : Int) := by omega
        have k4 : ¬ ((j : Int) < (md : Int)) := by omega
        have k5 : (md : Int) < (e : Int) := by omega
        have k6 : (e : Int) < (b : Int) := by omega
        have HR := HA3.out
        rw [if_neg (show ¬ (j < m ∧ m < e) from by omega), if_neg (show ¬ (a < j ∧ j < md) from by omega), if_pos (show md < e ∧ e < b from by omega)] at HR
        have HA4 := Lib.hid HR
        clear HR HA3
        have HR1 := IH.out d md e b w1 HS.out S1.out (by omega) (by omega) (by omega) (by omega)
        have HR4 := Lib.hid HR1
        clear HR1
        go_wp2_with fail
        refine HR4.out.mono ?_
        rintro e2 w4 ⟨rfl, S4'⟩
        have S4 : Aside (SWK enc K w0 blk off (symA (ltOf cf) f d md e b) w4) := S4'
        clear S4' HR4
        go_wp2_with fail
        go_end0
        exact ⟨rfl, by rw [HA4.out]; exact S4.out⟩
      · have k1 : (j : Int) < (m : Int) := by omega
        have k2 : (m : Int) < (e : Int) := by omega
        have k3 : (a : Int) < (j : Int) := by omega
        have k4 : (j : Int) < (md : Int) := by omega
        have k5 : (md : Int) < (e : Int) := by omega
        have k6 : (e : Int) < (b : Int) := by omega
        have HR := HA3.out
        rw [if_pos (show j < m ∧ m < e from by omega), if_pos (show a < j ∧ j < md from by omega), if_pos (show md < e ∧ e < b from by omega)] at HR
        have HA4 := Lib.hid HR
        clear HR HA3
        have HR1 := rotate_any K ZE.out enc g cb blk off cap j m e d0 d w0 w1 R HS.out.symm S1.out (by omega) (by omega) (by rw [HS.out]; omega) (by rw [HS.out]; exact hsz)
        rw [HS.out] at HR1
        have HR2 := Lib.hid HR1
        clear HR1
        go_wp2_with fail
        refine HR2.out.mono ?_
        rintro e2 w2 ⟨rfl, S2'⟩
        have S2 : Aside (SWK enc K w0 blk off (rotA d j m e) w2) := S2'
        clear S2' HR2
        have HR1 := IH.out (rotA d j m e) a j md w2 (by rw [rotA_size, HS.out] : (rotA d j m e).size = d0.size) S2.out (by omega) (by omega) (by omega) (by omega)
        have HR3 := Lib.hid HR1
        clear HR1
        go_wp2_with fail
        refine HR3.out.mono ?_
        rintro e2 w3 ⟨rfl, S3'⟩
        have S3 : Aside (SWK enc K w0 blk off (symA (ltOf cf) f (rotA d j m e) a j md) w3) := S3'
        clear S3' HR3
        have HR1 := IH.out (symA (ltOf cf) f (rotA d j m e) a j md) md e b w3 (by rw [symA_size, rotA_size, HS.out] : (symA (ltOf cf) f (rotA d j m e) a j md).size = d0.size) S3.out (by omega) (by omega) (by omega) (by omega)
        have HR4 := Lib.hid HR1
        clear HR1
        go_wp2_with fail
        refine HR4.out.mono ?_
        rintro e2 w4 ⟨rfl, S4'⟩
        have S4 : Aside (SWK enc K w0 blk off (symA (ltOf cf) f (symA (ltOf cf) f (rotA d j m e) a j md) md e b) w4) := S4'
        clear S4' HR4
        go_wp2_with fail
        go_end0
        exact ⟨rfl, by rw [HA4.out]; exact S4.out⟩
      · have k1 : (j : Int) < (m : Int) := by omega
        have k2 : (m : Int) < (e : Int) := by omega
        have k3 : (a : Int) < (j : Int) := by omega
        have k4 : (j : Int) < (md : Int) := by omega
        have k5 : (md : Int) < (e : Int) := by omega
        have k6 : ¬ ((e : Int) < (b : Int)) := by omega
        have HR := HA3.out
        rw [if_pos (show j < m ∧ m < e from by omega), if_pos (show a < j ∧ j < md from by omega), if_neg (show ¬ (md < e ∧ e < b) from by omega)] at HR
        have HA4 := Lib.hid HR
        clear HR HA3
        have HR1 := rotate_any K ZE.out enc g cb blk off cap j m e d0 d w0 w1 R HS.out.symm S1.out (by omega) (by omega) (by rw [HS.out]; omega) (by rw [HS.out]; exact hsz)
        rw [HS.out] at HR1
        have HR2 := Lib.hid HR1
        clear HR1
        go_wp2_with fail
        refine HR2.out.mono ?_
        rintro e2 w2 ⟨rfl, S2'⟩
        have S2 : Aside (SWK enc K w0 blk off (rotA d j m e) w2) := S2'
        clear S2' HR2
        have HR1 := IH.out (rotA d j m e) a j md w2 (by rw [rotA_size, HS.out] : (rotA d j m e).size = d0.size) S2.out (by omega) (by omega) (by omega) (by omega)
        have HR3 := Lib.hid HR1
        clear HR1
        go_wp2_with fail
        refine HR3.out.mono ?_
        rintro e2 w3 ⟨rfl, S3'⟩
        have S3 : Aside (SWK enc K w0 blk off (symA (ltOf cf) f (rotA d j m e) a j md) w3) := S3'
        clear S3' HR3
        go_wp2_with fail
        go_end0
        exact ⟨rfl, by rw [HA4.out]; exact S3.out⟩
      · have k1 : (j : Int) < (m : Int) := by omega
        have k2 : (m : Int) < (e : Int) := by omega
        have k3 : ¬ ((a : Int) < (j : Int)) := by omega
        have k5 : (md : Int) < (e : Int) := by omega
        have k6 : ¬ ((e : Int) < (b : Int)) := by omega
        have HR := HA3.out
        rw [if_pos (show j < m ∧ m < e from by omega), if_neg (show ¬ (a < j ∧ j < md) from by omega), if_neg (show ¬ (md < e ∧ e < b) from by omega)] at HR
        have HA4 := Lib.hid HR
        clear HR HA3
        have HR1 := rotate_any K ZE.out enc g cb blk off cap j m e d0 d w0 w1 R HS.out.symm S1.out (by omega) (by omega) (by rw [HS.out]; omega) (by rw [HS.out]; exact hsz)
        rw [HS.out] at HR1
        have HR2 := Lib.hid HR1
        clear HR1
        go_wp2_with fail
        refine HR2.out.mono ?_
        rintro e2 w2 ⟨rfl, S2'⟩
        have S2 : Aside (SWK enc K w0 blk off (rotA d j m e) w2) := S2'
        clear S2' HR2
        go_wp2_with fail
        go_end0
        exact ⟨rfl, by rw [HA4.out]; exact S2.out⟩

set_option maxHeartbeats 4000000 in
set_option maxRecDepth 1000000 in
theorem sym_hi (K : Nat) (zE : ∀ w, (Go.sizeOf 33).run Try.prog w = .ok K w) (enc : α → List Value) (cf : α → α → Int) (g : Nat) (cb : Array Value) (blk off cap : Nat) (d0 : Array α) (w0 : World)
    (R : RowK enc K w0 blk off d0) (eg : ∀ args w, (callFunc g args).run Try.prog w = .ok (.enter g args) w) (hcmp : CmpLays Try.prog g cb enc K cf blk off d0.size w0) (hsz : d0.size < 4611686018427387904)
    (f : Nat) (ih : SymOK K enc cf g cb blk off cap d0 w0 f) (d : Array α) (a m b : Nat) (w : World) (hs : d.size = d0.size) (S : SWK enc K w0 blk off d w) (ham : a < m) (hmb : m < b) (hb : b ≤ d0.size) (hf : b - a ≤ f + 1)
    (h1 : ¬ m - a = 1) (h2 : ¬ b - m = 1) (hmm : ¬ ((a + b) / 2 < m)) :
    Calls Try.prog 79 #[.slice (some ⟨blk, off, none⟩) d0.size cap, .int .i64 a, .int .i64 m, .int .i64 b, .func (.func g) #[] cb] w fun e w' => e = .returned (.tuple #[]) ∧ SWK enc K w0 blk off (symA (ltOf cf) (f + 1) d a m b) w' := by
  have mixed : Try.prog.follows .mixedOrders = true := by kernel_rfl
  have aE := opAgg
  have HC : Aside (CmpLays Try.prog g cb enc K cf blk off d0.size w0) := hcmp
  clear hcmp
  have IH := Lib.hid ih
  have HS := Lib.hid hs
  clear ih hs
  have S1 : Aside (SWK enc K w0 blk off d w) := S
  clear S
  have r1 : IntKind.i64.wrap ((m : Int) - (a : Int)) = (m : Int) - (a : Int) := by rw [IntKind.wrap_i64] <;> omega
  have r2 : IntKind.i64.wrap ((b : Int) - (m : Int)) = (b : Int) - (m : Int) := by rw [IntKind.wrap_i64] <;> omega
  go_enter Try.func79, Try.ntmps79
  have h1z : ¬ ((m : Int) - (a : Int) = 1) := by omega
  have h1y : ((m : Int) - (a : Int) == 1) = false := by simpa using h1z
  have h2z : ¬ ((b : Int) - (m : Int) = 1) := by omega
  have h2y : ((b : Int) - (m : Int) == 1) = false := by simpa using h2z
  obtain ⟨md, hmd⟩ : ∃ x, (a + b) / 2 = x := ⟨_, rfl⟩
  rw [hmd] at hmm
  have HMD := Lib.hid hmd
  have q1 : 2 * md ≤ a + b := by omega
  have q2 : a + b < 2 * md + 2 := by omega
  have q3 : ((a : Int) + (b : Int)) / 2 = (md : Int) := by omega
  have v1 : IntKind.i64.wrap ((md : Int) + (m : Int)) = (md : Int) + (m : Int) := by rw [IntKind.wrap_i64] <;> omega
  have v2 : IntKind.i64.wrap ((md : Int) + (m : Int) - 1) = (md : Int) + (m : Int) - 1 := by rw [IntKind.wrap_i64] <;> omega
  have v3 : IntKind.i64.wrap ((md : Int) + (m : Int) - (b : Int)) = (md : Int) + (m : Int) - (b : Int) := by rw [IntKind.wrap_i64] <;> omega
  have ZE : Aside (∀ w, (Go.sizeOf 33).run Try.prog w = .ok K w) := zE
  clear hmd
  have hmz : ¬ ((md : Int) < (m : Int)) := by omega
  obtain ⟨lo, hlo⟩ : ∃ x, a = x := ⟨_, rfl⟩
  obtain ⟨hi, hhi⟩ : ∃ x, m = x := ⟨_, rfl⟩
  have HSS : Hid (symS (ltOf cf) d a m b = bsN (fun h => !ltOf cf d[md + m - 1 - h]! d[h]!) (b - a) lo hi) := Lib.hid (by unfold symS symLo symHi; rw [HMD.out, if_neg hmm, if_neg hmm, hlo, hhi])
  have q4 : md + m ≤ lo + b := by omega
  have q5 : a ≤ lo ∧ lo ≤ hi ∧ hi ≤ md ∧ hi ≤ m := by omega
  have q6 : lo ≤ a ∧ m ≤ hi := by omega
  skip
  clear hlo hhi
  go_wp2
  go_loopg [20, 21] (hi - (lo)) (fun kx sI sJ wr => ∃ (i j q : Nat), sI = .int .i64 i ∧ sJ = .int .i64 j ∧ lo ≤ i ∧ i ≤ j ∧ j ≤ hi ∧ j - i ≤ kx ∧ j - i ≤ q ∧ Aside (SWK enc K w0 blk off d wr) ∧ Hid (bsN (fun h => !ltOf cf d[md + m - 1 - h]! d[h]!) q i j = bsN (fun h => !ltOf cf d[md + m - 1 - h]! d[h]!) (b - a) (lo) (hi)))
  case atStart => exact ⟨lo, hi, b - a, congrArg (Value.int .i64) (by omega), congrArg (Value.int .i64) (by omega), by omega, by omega, by omega, by omega, by omega, S1, Lib.hid rfl⟩
  case round =>
    clear S1
    obtain ⟨i, j, q, rfl, rfl, hli, hij, hjh, hkx, hq, S1, HB⟩ := hrel
    by_cases hlt : i < j
    · have hltz : (i : Int) < (j : Int) := by omega
      obtain ⟨q, rfl⟩ : ∃ q', q = q' + 1 := ⟨q - 1, by omega⟩
      rw [bsN_go _ _ _ _ hlt] at HB
      obtain ⟨h, hh⟩ : ∃ h, (i + j) / 2 = h := ⟨_, rfl⟩
      rw [hh] at HB
      have hih : i ≤ h := by omega
      have hhj : h < j := by omega
      go_wp2_with fail
      rw [show ((i : Int) + (j : Int)) / 2 = (h : Int) from by omega]
      obtain ⟨x, hx⟩ : ∃ x, md + m - 1 - h = x := ⟨_, rfl⟩
      have HX := Lib.hid hx
      have e0 : (md : Int) + (m : Int) - 1 - (h : Int) = (x : Int) := by omega
      have e1 : IntKind.i64.wrap (x : Int) = (x : Int) := by rw [IntKind.wrap_i64] <;> omega
      have hxb : x < d0.size := by omega
      clear hx
      cases hL : ltOf cf d[x]! d[h]! with
      | true =>
        have ea3 : ((x : Int)).toNat = x := by omega
        have pa3 : (0 : Int) ≤ (x : Int) := by omega
        have ba3 : (x : Int) < (d0.size : Int) := by omega
        have ec3 : ((h : Int)).toNat = h := by omega
        have pc3 : (0 : Int) ≤ (h : Int) := by omega
        have bc3 : (h : Int) < (d0.size : Int) := by omega
        obtain ⟨x3, hx3⟩ : ∃ z9, z9 = d[x]! := ⟨_, rfl⟩
        obtain ⟨y3, hy3⟩ : ∃ z9, z9 = d[h]! := ⟨_, rfl⟩
        have l3a := S1.out.ld R HS.out Try.prog (x) (by have := HS.out; omega)
        have l3b := S1.out.ld R HS.out Try.prog (h) (by have := HS.out; omega)
        rw [← hx3] at l3a
        rw [← hy3] at l3b
        have hc3 := S1.out.cmp HC.out HS.out x3 y3
        have hv3 : cf x3 y3 < 0 := by rw [hx3, hy3]; exact of_decide_eq_true hL
        have hd3 : decide (cf x3 y3 < 0) = true := decide_eq_true hv3
        clear hx3 hy3
        go_wp2_with fail
        go_quiet_grown (first | (go_at_fn g; refine Calls.grown_of (hc3 _ _)))
        have S2 : Aside (SWK enc K w0 blk off d (grow (wr.drewN nq) osq)) := S1.out.grown nq osq
        clear l3a l3b hc3 S1
        generalize grow (wr.drewN nq) osq = w2 at S2 ⊢
        clear nq osq
        go_wp2_with fail
        go_roundg (h - i)
        case measure => omega
        case rel => exact ⟨i, h, q, rfl, rfl, by omega, by omega, by omega, Nat.le_refl _, by omega, S2, Lib.hid (by have hB := HB.out; simp only [HX.out, hL, Bool.not_true, Bool.not_false, ↓reduceIte, Bool.false_eq_true] at hB; exact hB)⟩
      | false =>
        have ea3 : ((x : Int)).toNat = x := by omega
        have pa3 : (0 : Int) ≤ (x : Int) := by omega
        have ba3 : (x : Int) < (d0.size : Int) := by omega
        have ec3 : ((h : Int)).toNat = h := by omega
        have pc3 : (0 : Int) ≤ (h : Int) := by omega
        have bc3 : (h : Int) < (d0.size : Int) := by omega
        obtain ⟨x3, hx3⟩ : ∃ z9, z9 = d[x]! := ⟨_, rfl⟩
        obtain ⟨y3, hy3⟩ : ∃ z9, z9 = d[h]! := ⟨_, rfl⟩
        have l3a := S1.out.ld R HS.out Try.prog (x) (by have := HS.out; omega)
        have l3b := S1.out.ld R HS.out Try.prog (h) (by have := HS.out; omega)
        rw [← hx3] at l3a
        rw [← hy3] at l3b
        have hc3 := S1.out.cmp HC.out HS.out x3 y3
        have hv3 : ¬ cf x3 y3 < 0 := by rw [hx3, hy3]; exact of_decide_eq_false hL
        have hd3 : decide (cf x3 y3 < 0) = false := decide_eq_false hv3
        clear hx3 hy3
        go_wp2_with fail
        go_quiet_grown (first | (go_at_fn g; refine Calls.grown_of (hc3 _ _)))
        have S2 : Aside (SWK enc K w0 blk off d (grow (wr.drewN nq) osq)) := S1.out.grown nq osq
        clear l3a l3b hc3 S1
        generalize grow (wr.drewN nq) osq = w2 at S2 ⊢
        clear nq osq
        go_wp2_with fail
        go_roundg (j - (h + 1))
        case measure => omega
        case rel => exact ⟨h + 1, j, q, by go_num, rfl, by omega, by omega, by omega, Nat.le_refl _, by omega, S2, Lib.hid (by have hB := HB.out; simp only [HX.out, hL, Bool.not_true, Bool.not_false, ↓reduceIte, Bool.false_eq_true] at hB; exact hB)⟩
    · have hji : j = i := by omega
      subst hji
      rw [bsN_end _ _ _ _ hlt] at HB
      obtain ⟨w1, hw1⟩ : ∃ x, x = wr := ⟨_, rfl⟩
      subst hw1
      obtain ⟨e, he⟩ : ∃ e, md + m - j = e := ⟨_, rfl⟩
      have he1 : (md : Int) + (m : Int) - (j : Int) = (e : Int) := by omega
      have we : IntKind.i64.wrap (e : Int) = (e : Int) := by rw [IntKind.wrap_i64] <;> omega
      have HA3 : Hid (symA (ltOf cf) (f + 1) d a m b = (if md < e ∧ e < b then symA (ltOf cf) f (if a < j ∧ j < md then symA (ltOf cf) f (if j < m ∧ m < e then rotA d j m e else d) a j md else (if j < m ∧ m < e then rotA d j m e else d)) md e b else (if a < j ∧ j < md then symA (ltOf cf) f (if j < m ∧ m < e then rotA d j m e else d) a j md else (if j < m ∧ m < e then rotA d j m e else d)))) := Lib.hid (by
        have h7 : symS (ltOf cf) d a m b = j := HSS.out.trans HB.out.symm
        rw [symA, if_neg h1, if_neg h2]
        dsimp only
        rw [h7, HMD.out, he])
      have HE1 := Lib.hid he1
      have hcs : (m ≤ j ∧ m < md) ∨ (m ≤ j ∧ md ≤ m) ∨ (j < m ∧ a < j) ∨ (j < m ∧ j ≤ a ∧ e < b) ∨ (j < m ∧ j ≤ a ∧ b ≤ e) := by omega
      rcases hcs with hc | hc | hc | hc | hc
      · have k1 : ¬ ((j : Int) < (m : Int)) := by omega
        have k3 : (a : Int) < (j : Int) := by omega
        have k4 : (j : Int) < (md : Int) := by omega
        have k5 : ¬ ((md : Int) < (e : Int)) := by omega
        have HR := HA3.out
        rw [if_neg (show ¬ (j < m ∧ m < e) from by omega), if_pos (show a < j ∧ j < md from by omega), if_neg (show ¬ (md < e ∧ e < b) from by omega)] at HR
        have HA4 := Lib.hid HR
        clear HR HA3
        have HR1 := IH.out d a j md w1 HS.out S1.out (by omega) (by omega) (by omega) (by omega)
        have HR3 := Lib.hid HR1
        clear HR1
        go_wp2_with fail
        refine HR3.out.mono ?_
        rintro e2 w3 ⟨rfl, S3'⟩
        have S3 : Aside (SWK enc K w0 blk off (symA (ltOf cf) f d a j md) w3) := S3'
        clear S3' HR3
        go_wp2_with fail
        go_end0
        exact ⟨rfl, by rw [HA4.out]; exact S3.out⟩
      · have k1 : ¬ ((j : Int) < (m : Int)) := by omega
        have k3 : (a : Int) < (j : Int) := by omega
        have k4 : ¬ ((j : Int) < (md : Int)) := by omega
        have k5 : ¬ ((md : Int) < (e : Int)) := by omega
        have HR := HA3.out
        rw [if_neg (show ¬ (j < m ∧ m < e) from by omega), if_neg (show ¬ (a < j ∧ j < md) from by omega), if_neg (show ¬ (md < e ∧ e < b) from by omega)] at HR
        have HA4 := Lib.hid HR
        clear HR HA3
        go_wp2_with fail
        go_end0
        exact ⟨rfl, by rw [HA4.out]; exact S1.out⟩
      · have k1 : (j : Int) < (m : Int) := by omega
        have k2 : (m : Int) < (e : Int) := by omega
        have k3 : (a : Int) < (j : Int) := by omega
        have k4 : (j : Int) < (md : Int) := by omega
        have k5 : (md : Int) < (e : Int) := by omega
        have k6 : (e : Int) < (b : Int) := by omega
        have HR := HA3.out
        rw [if_pos (show j < m ∧ m < e from by omega), if_pos (show a < j ∧ j < md from by omega), if_pos (show md < e ∧ e < b from by omega)] at HR
        have HA4 := Lib.hid HR
        clear HR HA3
        have HR1 := rotate_any K ZE.out enc g cb blk off cap j m e d0 d w0 w1 R HS.out.symm S1.out (by omega) (by omega) (by rw [HS.out]; omega) (by rw [HS.out]; exact hsz)
        rw [HS.out] at HR1
        have HR2 := Lib.hid HR1
        clear HR1
        go_wp2_with fail
        refine HR2.out.mono ?_
        rintro e2 w2 ⟨rfl, S2'⟩
        have S2 : Aside (SWK enc K w0 blk off (rotA d j m e) w2) := S2'
        clear S2' HR2
        have HR1 := IH.out (rotA d j m e) a j md w2 (by rw [rotA_size, HS.out] : (rotA d j m e).size = d0.size) S2.out (by omega) (by omega) (by omega) (by omega)
        have HR3 := Lib.hid HR1
        clear HR1
        go_wp2_with fail
        refine HR3.out.mono ?_
        rintro e2 w3 ⟨rfl, S3'⟩
        have S3 : Aside (SWK enc K w0 blk off (symA (ltOf cf) f (rotA d j m e) a j md) w3) := S3'
        clear S3' HR3
        have HR1 := IH.out (symA (ltOf cf) f (rotA d j m e) a j md) md e b w3 (by rw [symA_size, rotA_size, HS.out] : (symA (ltOf cf) f (rotA d j m e) a j md).size = d0.size) S3.out (by omega) (by omega) (by omega) (by omega)
        have HR4 := Lib.hid HR1
        clear HR1
        go_wp2_with fail
        refine HR4.out.mono ?_
        rintro e2 w4 ⟨rfl, S4'⟩
        have S4 : Aside (SWK enc K w0 blk off (symA (ltOf cf) f (symA (ltOf cf) f (rotA d j m e) a j md) md e b) w4) := S4'
        clear S4' HR4
        go_wp2_with fail
        go_end0
        exact ⟨rfl, by rw [HA4.out]; exact S4.out⟩
      · have k1 : (j : Int) < (m : Int) := by omega
        have k2 : (m : Int) < (e : Int) := by omega
        have k3 : ¬ ((a : Int) < (j : Int)) := by omega
        have k5 : (md : Int) < (e : Int) := by omega
        have k6 : (e : Int) < (b : Int) := by omega
        have HR := HA3.out
        rw [if_pos (show j < m ∧ m < e from by omega), if_neg (show ¬ (a < j ∧ j < md) from by omega), if_pos (show md < e ∧ e < b from by omega)] at HR
        have HA4 := Lib.hid HR
        clear HR HA3
        have HR1 := rotate_any K ZE.out enc g cb blk off cap j m e d0 d w0 w1 R HS.out.symm S1.out (by omega) (by omega) (by rw [HS.out]; omega) (by rw [HS.out]; exact hsz)
        rw [HS.out] at HR1
        have HR2 := Lib.hid HR1
        clear HR1
        go_wp2_with fail
        refine HR2.out.mono ?_
        rintro e2 w2 ⟨rfl, S2'⟩
        have S2 : Aside (SWK enc K w0 blk off (rotA d j m e) w2) := S2'
        clear S2' HR2
        have HR1 := IH.out (rotA d j m e) md e b w2 (by rw [rotA_size, HS.out] : (rotA d j m e).size = d0.size) S2.out (by omega) (by omega) (by omega) (by omega)
        have HR4 := Lib.hid HR1
        clear HR1
        go_wp2_with fail
        refine HR4.out.mono ?_
        rintro e2 w4 ⟨rfl, S4'⟩
        have S4 : Aside (SWK enc K w0 blk off (symA (ltOf cf) f (rotA d j m e) md e b) w4) := S4'
        clear S4' HR4
        go_wp2_with fail
        go_end0
        exact ⟨rfl, by rw [HA4.out]; exact S4.out⟩
      · have k1 : (j : Int) < (m : Int) := by omega
        have k2 : (m : Int) < (e : Int) := by omega
        have k3 : ¬ ((a : Int) < (j : Int)) := by omega
        have k5 : (md : Int) < (e : Int) := by omega
        have k6 : ¬ ((e : Int) < (b : Int)) := by omega
        have HR := HA3.out
        rw [if_pos (show j < m ∧ m < e from by omega), if_neg (show ¬ (a < j ∧ j < md) from by omega), if_neg (show ¬ (md < e ∧ e < b) from by omega)] at HR
        have HA4 := Lib.hid HR
        clear HR HA3
        have HR1 := rotate_any K ZE.out enc g cb blk off cap j m e d0 d w0 w1 R HS.out.symm S1.out (by omega) (by omega) (by rw [HS.out]; omega) (by rw [HS.out]; exact hsz)
        rw [HS.out] at HR1
        have HR2 := Lib.hid HR1
        clear HR1
        go_wp2_with fail
        refine HR2.out.mono ?_
        rintro e2 w2 ⟨rfl, S2'⟩
        have S2 : Aside (SWK enc K w0 blk off (rotA d j m e) w2) := S2'
        clear S2' HR2
        go_wp2_with fail
        go_end0
        exact ⟨rfl, by rw [HA4.out]; exact S2.out⟩

theorem symMerge_any (K : Nat) (zE : ∀ w, (Go.sizeOf 33).run Try.prog w = .ok K w) (enc : α → List Value) (cf : α → α → Int) (g : Nat) (cb : Array Value) (blk off cap : Nat) (d0 : Array α) (w0 : World)
    (R : RowK enc K w0 blk off d0) (eg : ∀ args w, (callFunc g args).run Try.prog w = .ok (.enter g args) w) (hcmp : CmpLays Try.prog g cb enc K cf blk off d0.size w0) (hsz : d0.size < 4611686018427387904) :
    ∀ (f : Nat), SymOK K enc cf g cb blk off cap d0 w0 f
  | 0 => fun d a m b w _ _ h1 h2 _ h3 => by omega
  | f + 1 => fun d a m b w hs S ham hmb hb hf => by
    have ih := symMerge_any K zE enc cf g cb blk off cap d0 w0 R eg hcmp hsz f
    by_cases h1 : m - a = 1
    · exact sym_one K zE enc cf g cb blk off cap d0 w0 R eg hcmp hsz f ih d a m b w hs S ham hmb hb hf h1
    by_cases h2 : b - m = 1
    · exact sym_two K zE enc cf g cb blk off cap d0 w0 R eg hcmp hsz f ih d a m b w hs S ham hmb hb hf h1 h2
    by_cases hmm : (a + b) / 2 < m
    · exact sym_lo K zE enc cf g cb blk off cap d0 w0 R eg hcmp hsz f ih d a m b w hs S ham hmb hb hf h1 h2 hmm
    · exact sym_hi K zE enc cf g cb blk off cap d0 w0 R eg hcmp hsz f ih d a m b w hs S ham hmb hb hf h1 h2 hmm
end Go.Proofs.Ytabkgoandfpclaa
