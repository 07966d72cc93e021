
/- slices.swapRangeCmpFunc and rotateCmpFunc at operations of K cells: what they leave of the row. Conditions: the ranges lie in the row, apart. -/

import Derived.Test.YtabkgoandfpclaaSsA

import Derived.Test.YtabkgoandfpclaaChecked

import Derived.Shelf.SlSortCmp.KitK

import Derived.Sort.WalkB2

import Derived.Sort.WalkB12

import Derived.Deep.LoopGhost

import Derived.ChangeKeysEq

namespace Go.Proofs.Ytabkgoandfpclaa

set_option linter.unusedVariables false

set_option linter.unusedSimpArgs false

open Go.Shelf Go.RowKit Go.Lib Go.Sort Go.Proofs

variable {α : Type} [Inhabited α]

theorem opAgg (w : World) : (isAgg 33).run Try.prog w = .ok true w := by simp [isAgg, run_underlying Try.underlying33]
theorem opSize (w : World) : (Go.sizeOf 33).run Try.prog w = .ok 41 w := by
  have h : (Try.prog.info? 33).map (·.size) = some 41 := by kernel_rfl
  cases hi : Try.prog.info? 33 with
  | none => rw [hi] at h; cases h
  | some i =>
    rw [run_sizeOf w hi]
    have : Try.prog.cellsOf 33 = 41 := by
      rw [hi] at h
      simp only [Program.cellsOf, hi]
      simpa using h
    rw [this]

set_option maxHeartbeats 4000000 in
set_option maxRecDepth 1000000 in
theorem swapRange_any (K : Nat) (zE : ∀ w, (Go.sizeOf 33).run Try.prog w = .ok K w) (enc : α → List Value) (g : Nat) (cb : Array Value) (blk off cap a b n : Nat) (d0 d : Array α) (w0 w : World)
    (R : RowK enc K w0 blk off d0) (hs : d0.size = d.size) (S : SWK enc K w0 blk off d w) (hab : a + n ≤ b) (hb : b + n ≤ d.size) (hsz : d.size < 4611686018427387904) :
    Calls Try.prog 86 #[.slice (some ⟨blk, off, none⟩) d.size cap, .int .i64 a, .int .i64 b, .int .i64 n, .func (.func g) #[] cb] w fun e w' => e = .returned (.tuple #[]) ∧ SWK enc K w0 blk off (swR d a b n) w' := by
  have mixed : Try.prog.follows .mixedOrders = true := by kernel_rfl
  have aE := opAgg
  have S0 : Aside (SWK enc K w0 blk off d w) := S
  clear S
  go_enter Try.func86, Try.ntmps86
  go_wp2
  go_loopg [10] n (fun kx s10 wr => ∃ (i : Nat), s10 = .int .i64 i ∧ i ≤ n ∧ n - i ≤ kx ∧ Aside (SWK enc K w0 blk off (swR d a b i) wr))
  case atStart => exact ⟨0, rfl, by omega, by omega, S0⟩
  case round =>
    clear S0
    obtain ⟨i, rfl, hin, hkx, S1⟩ := hrel
    obtain ⟨dk, hdk⟩ : ∃ x, swR d a b i = x := ⟨_, rfl⟩
    have hds : dk.size = d.size := by rw [← hdk, swR_size]
    rw [hdk] at S1
    have HDK := Lib.hid hdk
    clear hdk
    by_cases hlt : (i : Int) < (n : Int)
    · have hin' : i < n := by omega
      go_wp2_with fail
      have ea44 : ((a : Int) + (i : Int)).toNat = a + i := by omega
      have pa44 : (0 : Int) ≤ (a : Int) + (i : Int) := by omega
      have ba44 : (a : Int) + (i : Int) < (d.size : Int) := by omega
      have ra44 : IntKind.i64.wrap ((a : Int) + (i : Int)) = (a : Int) + (i : Int) := by rw [IntKind.wrap_i64]; omega
      have ec44 : ((b : Int) + (i : Int)).toNat = b + i := by omega
      have pc44 : (0 : Int) ≤ (b : Int) + (i : Int) := by omega
      have bc44 : (b : Int) + (i : Int) < (d.size : Int) := by omega
      have rc44 : IntKind.i64.wrap ((b : Int) + (i : Int)) = (b : Int) + (i : Int) := by rw [IntKind.wrap_i64]; omega
      have S2 : Aside (SWK enc K w0 blk off (swp dk (a + i) (b + i)) ((wr.drew.setCells blk (off + (a + i) * K) (enc dk[b + i]!)).setCells blk (off + (b + i) * K) (enc dk[a + i]!))) := S1.out.swapped R (a + i) (b + i) (by omega) (by omega)
      have l44a := S1.out.ld1 R (by omega) Try.prog (a + i) (by omega)
      have l44b := S1.out.ld1 R (by omega) Try.prog (b + i) (by omega)
      have s44a := S1.out.st1 R (by omega) Try.prog (a + i) (by omega) dk[b + i]!
      have s44b := S1.out.st2 R (by omega) Try.prog (a + i) (b + i) (by omega) (by omega) dk[b + i]! dk[a + i]!
      have n44a : (enc dk[a + i]!).length = K := R.hk _
      have n44b : (enc dk[b + i]!).length = K := R.hk _
      generalize enc dk[a + i]! = cI44 at S2 l44a s44b n44a
      generalize enc dk[b + i]! = cJ44 at S2 l44b s44a s44b n44b
      clear S1
      go_wp2_with fail
      go_big_region_o
      clear l44a l44b s44a s44b
      generalize (wr.drew.setCells blk (off + (a + i) * K) cJ44).setCells blk (off + (b + i) * K) cI44 = w2 at S2 ⊢
      go_wp2
      go_roundg (n - (i + 1))
      case measure => omega
      case rel => exact ⟨i + 1, by simp, by omega, Nat.le_refl _, by rw [swR, HDK.out]; exact S2⟩
    · have hie : i = n := by omega
      go_wp2
      go_end0
      refine ⟨rfl, ?_⟩
      rw [hie] at HDK
      rw [HDK.out]
      exact S1.out

set_option maxHeartbeats 4000000 in
set_option maxRecDepth 1000000 in
theorem rotate_any (K : Nat) (zE : ∀ w, (Go.sizeOf 33).run Try.prog w = .ok K w) (enc : α → List Value) (g : Nat) (cb : Array Value) (blk off cap a m b : Nat) (d0 d : Array α) (w0 w : World)
    (R : RowK enc K w0 blk off d0) (hs : d0.size = d.size) (S : SWK enc K w0 blk off d w) (ham : a < m) (hmb : m < b) (hb : b ≤ d.size) (hsz : d.size < 4611686018427387904) :
    Calls Try.prog 84 #[.slice (some ⟨blk, off, none⟩) d.size cap, .int .i64 a, .int .i64 m, .int .i64 b, .func (.func g) #[] cb] w fun e w' => e = .returned (.tuple #[]) ∧ SWK enc K w0 blk off (rotA d a m b) w' := by
  have mixed : Try.prog.follows .mixedOrders = true := by kernel_rfl
  have S0 : Aside (SWK enc K w0 blk off d w) := S
  have ZE : Aside (∀ w, (Go.sizeOf 33).run Try.prog w = .ok K w) := zE
  clear S zE
  go_enter Try.func84, Try.ntmps84
  have r1 : IntKind.i64.wrap ((m : Int) - (a : Int)) = ((m - a : Nat) : Int) := by rw [IntKind.wrap_i64] <;> omega
  have r2 : IntKind.i64.wrap ((b : Int) - (m : Int)) = ((b - m : Nat) : Int) := by rw [IntKind.wrap_i64] <;> omega
  go_wp2
  clear r1 r2
  go_loopg [10, 11] (b - a) (fun kx s10 s11 wr => ∃ (i j f : Nat) (dk : Array α), s10 = .int .i64 i ∧ s11 = .int .i64 j ∧ 0 < i ∧ 0 < j ∧ i ≤ m - a ∧ j ≤ b - m ∧ i + j ≤ kx ∧ i + j ≤ f ∧ dk.size = d.size ∧ Aside (SWK enc K w0 blk off dk wr) ∧ Hid (rotL m f dk i j = rotA d a m b))
  case atStart => exact ⟨m - a, b - m, b - a, d, rfl, rfl, by omega, by omega, by omega, by omega, by omega, by omega, rfl, S0, Lib.hid rfl⟩
  case round =>
    clear S0
    obtain ⟨i, j, f, dk, rfl, rfl, hi0, hj0, him, hjb, hkx, hf, hds, S1, HE⟩ := hrel
    obtain ⟨f, rfl⟩ : ∃ f', f = f' + 1 := ⟨f - 1, by omega⟩
    rw [rotL] at HE
    have e1 : IntKind.i64.wrap ((m : Int) - (i : Int)) = ((m - i : Nat) : Int) := by rw [IntKind.wrap_i64] <;> omega
    by_cases hij : i = j
    · subst hij
      rw [if_pos rfl] at HE
      have hE := HE.out
      clear HE
      have HC := Lib.hid (swapRange_any K ZE.out enc g cb blk off cap (m - i) m i d0 dk w0 wr R (by omega) S1.out (by omega) (by omega) (by omega))
      rw [hds] at HC
      go_wp2_with fail
      refine HC.out.mono ?_
      rintro e w2 ⟨rfl, S2⟩
      rw [hE] at S2
      have S3 : Aside (SWK enc K w0 blk off (rotA d a m b) w2) := S2
      clear S2
      go_wp2_with fail
      go_end0
      exact ⟨rfl, S3.out⟩
    · rw [if_neg hij] at HE
      have hz : ¬ ((i : Int) = (j : Int)) := by omega
      by_cases hlt : j < i
      · rw [if_pos hlt] at HE
        have hltz : (j : Int) < (i : Int) := by omega
        have HC := Lib.hid (swapRange_any K ZE.out enc g cb blk off cap (m - i) m j d0 dk w0 wr R (by omega) S1.out (by omega) (by omega) (by omega))
        rw [hds] at HC
        have e2 : IntKind.i64.wrap ((i : Int) - (j : Int)) = ((i - j : Nat) : Int) := by rw [IntKind.wrap_i64] <;> omega
        go_wp2_with fail
        refine HC.out.mono ?_
        rintro e w2 ⟨rfl, S2⟩
        have S3 : Aside (SWK enc K w0 blk off (swR dk (m - i) m j) w2) := S2
        clear S2
        go_wp2_with fail
        go_roundg (i - j + j)
        case measure => omega
        case rel => exact ⟨i - j, j, f, swR dk (m - i) m j, rfl, rfl, by omega, hj0, by omega, hjb, Nat.le_refl _, by omega, by rw [swR_size, hds], S3, HE⟩
      · rw [if_neg hlt] at HE
        have hltz : ¬ ((j : Int) < (i : Int)) := by omega
        have HC := Lib.hid (swapRange_any K ZE.out enc g cb blk off cap (m - i) (m + j - i) i d0 dk w0 wr R (by omega) S1.out (by omega) (by omega) (by omega))
        rw [hds] at HC
        have e2 : IntKind.i64.wrap ((j : Int) - (i : Int)) = ((j - i : Nat) : Int) := by rw [IntKind.wrap_i64] <;> omega
        have e3 : IntKind.i64.wrap ((m : Int) + (j : Int)) = ((m + j : Nat) : Int) := by rw [IntKind.wrap_i64] <;> omega
        have e4 : IntKind.i64.wrap ((m : Int) + (j : Int) - (i : Int)) = ((m + j - i : Nat) : Int) := by rw [IntKind.wrap_i64] <;> omega
        go_wp2_with fail
        refine HC.out.mono ?_
        rintro e w2 ⟨rfl, S2⟩
        have S3 : Aside (SWK enc K w0 blk off (swR dk (m - i) (m + j - i) i) w2) := S2
        clear S2
        go_wp2_with fail
        go_roundg (i + (j - i))
        case measure => omega
        case rel => exact ⟨i, j - i, f, swR dk (m - i) (m + j - i) i, rfl, rfl, hi0, by omega, him, by omega, Nat.le_refl _, by omega, by rw [swR_size, hds], S3, HE⟩
end Go.Proofs.Ytabkgoandfpclaa
