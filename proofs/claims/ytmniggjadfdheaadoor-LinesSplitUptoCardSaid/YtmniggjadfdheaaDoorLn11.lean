
/- strings.IndexByte, Index, Count at one byte; genSplit, SplitAfter at a separator of one byte (lines of the library's own proofs, turned to this program); Split. -/

import Derived.Test.YtmniggjadfdheaaDoorLn8

import Derived.Lib.Split

import Derived.Lib.SplitLaws

import Derived.Lib.IndexBytes

import Derived.Lib.Bytealg

import Derived.Deep.OwnRows

import Derived.Laws.Strings3

namespace Go.Proofs.YtmniggjadfdheaaDoor

set_option linter.unusedVariables false

set_option linter.unusedSimpArgs false

set_option linter.unusedSectionVars false

open Go.RowKit

set_option maxRecDepth 100000 in
theorem idxByte_any (s : ByteArray) (c : Int) (w : World) :
    Calls Tryd.prog 53 #[.string s, .int .u8 c] w fun e w' => e = .returned (.int .i64 (Lib.indexByte s.data.toList c.toNat.toUInt8)) ∧ w' = w := by
  go_enter Tryd.func53, Tryd.ntmps53
  go_wp2
  rw [run_callFunc_extern Tryd.func57 (by kernel_rfl) (by kernel_rfl) (by kernel_rfl) (e := Extern.BytealgIndexByte.indexByte) (by kernel_rfl), Lib.run_indexByteString]
  simp only [Result.andThen]
  rw [Oper.upon_value]
  go_wp2
  go_ret
  exact ⟨rfl, rfl⟩

set_option maxRecDepth 100000 in
theorem count_any (s : ByteArray) (w : World) :
    Calls Tryd.prog 44 #[.string s, .string ⟨#[10]⟩] w fun e w' => e = .returned (.int .i64 (Lib.countB s ⟨#[10]⟩)) ∧ w' = w := by
  have hc : Lib.countB s ⟨#[10]⟩ = Lib.countByte s.data.toList 10 := Lib.count_one 10 _
  go_enter Tryd.func44, Tryd.ntmps44
  go_wp2
  rw [run_callFunc_extern Tryd.func49 (by kernel_rfl) (by kernel_rfl) (by kernel_rfl) (e := Extern.BytealgCount.count) (by kernel_rfl), Lib.run_countString]
  simp only [Result.andThen]
  rw [Oper.upon_value]
  go_wp2
  go_ret
  rw [hc]
  exact ⟨rfl, rfl⟩

set_option maxRecDepth 100000 in
theorem slIndex_any (s : ByteArray) (w : World) :
    Calls Tryd.prog 50 #[.string s, .string ⟨#[10]⟩] w fun e w' => e = .returned (.int .i64 (Lib.indexByte s.data.toList 10)) ∧ w' = w := by
  go_enter Tryd.func50, Tryd.ntmps50
  go_wp2_with (refine (idxByte_any _ _ _).mono ?_; rintro e w' ⟨rfl, rfl⟩)
  all_goals first
    | (have h : ([10] == s.toList) = true := by assumption
       go_ret
       refine ⟨?_, rfl⟩
       have e : s.data.toList = [10] := by rw [← Lib.toList_data]; exact (beq_iff_eq.1 h).symm
       rw [e]
       simp [Lib.indexByte])
    | (go_ret; exact ⟨rfl, rfl⟩)

set_option maxRecDepth 100000 in
theorem index_any (s : ByteArray) (w : World) :
    Calls Tryd.prog 45 #[.string s, .string ⟨#[10]⟩] w fun e w' => e = .returned (.int .i64 (Lib.indexB s ⟨#[10]⟩)) ∧ w' = w := by
  have hc : Lib.indexB s ⟨#[10]⟩ = Lib.indexByte s.data.toList 10 := Lib.index_one _ 10
  go_enter Tryd.func45, Tryd.ntmps45
  go_wp2_with (refine (slIndex_any _ _).mono ?_; rintro e w' ⟨rfl, rfl⟩)
  go_ret
  rw [hc]
  exact ⟨rfl, rfl⟩

/-- a newline, as a string -/
def nlS : ByteArray := ⟨#[10]⟩

set_option maxHeartbeats 4000000 in
set_option maxRecDepth 100000 in
theorem gen_any (s : ByteArray) (N : Nat) (w : World) (hs : s.size < 4294967281) (hN : N = Lib.countB s nlS + 1) :
    Calls Tryd.prog 40 #[.string s, .string ⟨#[10]⟩, .int .i64 1, .int .i64 (-1)] w fun e w' =>
      e = .returned (.slice (some ⟨w.heap.size, 0, none⟩) (Lib.splitB nlS 1 (N - 1) s).length N) ∧ w' = w.alloc (.cells (Lib.cellsOf (Lib.splitB nlS 1 (N - 1) s) N) 9) := by
  obtain ⟨cn, hcn⟩ : ∃ cn : Nat, Lib.countB s nlS = cn := ⟨_, rfl⟩
  have hC := count_any s w
  rw [show Lib.countB s ⟨#[10]⟩ = cn from hcn] at hC
  have hcl : cn ≤ s.size := by rw [← hcn]; exact Lib.countB_le nlS (by decide) s.size s (Nat.le_refl _)
  rw [hcn] at hN
  clear hcn
  have eN' : min ((cn : Int) + 1) ((s.size : Int) + 1) = (N : Int) := by omega
  have hNs : (N : Int) ≤ (s.size : Int) + 1 := by omega
  have hN1 : (1 : Int) ≤ (N : Int) := by omega
  have hmk := run_make_row' (P := Tryd.prog) 22 9 (.string ByteArray.empty) 16 Tryd.underlying22 (by kernel_rfl) rfl .i64 .i64 N (by omega) (by omega)
  clear hN
  go_enter Tryd.func40, Tryd.ntmps40
  go_wp2_with (refine hC.mono ?_; rintro e w' ⟨rfl, hw⟩; rw [hw])
  clear hmk hC
  go_loopg [0, 10] (N - 1) (fun g s0 s10 wr => ∃ (done : List ByteArray) (rest : ByteArray), s0 = .string rest ∧ s10 = .int .i64 done.length ∧ done.length ≤ N - 1 ∧ g = N - 1 - done.length ∧ rest.size ≤ s.size ∧
    wr = w.alloc (.cells (Lib.cellsOf done N) 9) ∧ Hid (done ++ Lib.splitB nlS 1 (N - 1 - done.length) rest = Lib.splitB nlS 1 (N - 1) s))
  case atStart => exact ⟨[], s, rfl, rfl, Nat.zero_le _, rfl, Nat.le_refl _, by rw [Lib.cellsOf_nil], Lib.hid rfl⟩
  case round =>
    obtain ⟨done, rest, rfl, rfl, hd, rfl, hrs, rfl, HS⟩ := hrel
    have hnext : (Lib.cellsOf done N)[done.length]? = some (.string ByteArray.empty) := Lib.cellsOf_next (by omega)
    have fin : Hid (Lib.splitB nlS 1 (N - 1 - done.length) rest = [rest] → (Lib.splitB nlS 1 (N - 1) s).length = done.length + 1 ∧ (Lib.cellsOf done N).setIfInBounds done.length (.string rest) = Lib.cellsOf (Lib.splitB nlS 1 (N - 1) s) N) := Lib.hid (fun h => by
      have e := HS.out
      rw [h] at e
      rw [← e]
      exact ⟨by simp, Lib.cellsOf_set (by omega) rest⟩)
    have hI := fun w => index_any rest w
    by_cases hlt : done.length < N - 1
    · have hltz : ((done.length : Nat) : Int) < (N : Int) - 1 := by omega
      rcases Lib.indexB_cases rest nlS with hix | ⟨i, hix, hroom⟩
      · rw [show Lib.indexB rest ⟨#[10]⟩ = -1 from hix] at hI
        go_wp2_with (refine (hI _).mono ?_; rintro e w' ⟨rfl, hw⟩; rw [hw])
        go_ret
        obtain ⟨f1, f2⟩ := fin.out (Lib.splitB_miss nlS 1 _ rest hix)
        rw [f1, ← f2]
        exact ⟨by first | rfl | (congr 2 <;> omega), rfl⟩
      · rw [show Lib.indexB rest ⟨#[10]⟩ = i from hix] at hI
        have hroom' : i + 1 ≤ rest.size := hroom
        have HIX := Lib.hid hix
        clear hix hroom
        have c0 : ¬ ((i : Int) < 0) := by omega
        have c1 : (0 : Int) ≤ ↑i + 1 := by omega
        have c2 : (↑i + 1 : Int) ≤ ↑rest.size := by omega
        go_wp2_with (refine (hI _).mono ?_; rintro e w' ⟨rfl, hw⟩; rw [hw])
        go_roundg (N - 1 - (done.length + 1))
        case measure => omega
        case rel =>
          refine ⟨done ++ [rest.extract 0 (i + 1)], rest.extract (i + 1) rest.size, rfl, by simp, by simp; omega, by simp, by rw [ByteArray.size_extract]; omega, by rw [← Lib.cellsOf_set (by omega)], Lib.hid ?_⟩
          rw [← HS.out, show N - 1 - done.length = (N - 1 - (done.length + 1)) + 1 by omega, Lib.splitB_hit nlS 1 _ rest i HIX.out]
          simp
          rfl
    · have hltz : ¬ (((done.length : Nat) : Int) < (N : Int) - 1) := by omega
      go_wp2
      go_ret
      obtain ⟨f1, f2⟩ := fin.out (by rw [show N - 1 - done.length = 0 by omega]; rfl)
      rw [f1, ← f2]
      exact ⟨by first | rfl | (congr 2 <;> omega), rfl⟩

set_option maxRecDepth 100000 in
theorem after_any (s : ByteArray) (w : World) (hs : s.size < 4294967281) :
    Calls Tryd.prog 36 #[.string s, .string ⟨#[10]⟩] w fun e w' =>
      ∃ l, l = Lib.splitB nlS 1 (Lib.countB s nlS) s ∧ e = .returned (.slice (some ⟨w.heap.size, 0, none⟩) l.length l.length) ∧ w' = w.alloc (.cells (l.map Value.string).toArray 9) := by
  have c := gen_any s (Lib.countB s nlS + 1) w hs rfl
  rw [Nat.add_sub_cancel, Lib.splitB_all nlS (by decide) 1 _ s rfl] at c
  have hl := Lib.splitB_all nlS (by decide) 1 _ s rfl
  go_enter Tryd.func36, Tryd.ntmps36
  go_wp2_with (refine c.mono ?_; rintro e w' ⟨rfl, hw⟩; rw [hw])
  go_ret
  exact ⟨_, rfl, by rw [hl]; rfl, by rw [← hl, Lib.cellsOf_full]⟩
end Go.Proofs.YtmniggjadfdheaaDoor
