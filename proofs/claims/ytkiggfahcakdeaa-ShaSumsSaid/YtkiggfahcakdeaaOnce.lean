
/- sync.Once in one goroutine: the lock, the two deferred calls (lines of the worked proofs Lazy*, turned to this program). -/

import Derived.Test.YtkiggfahcakdeaaShaSum

import Derived.Tactics2

import Derived.Defers

import Derived.Laws.Pointers

import Derived.Laws.LoneSync

import Derived.RegionTactic

import Derived.RegionCalls

import Derived.ChangeAlike

import Derived.Laws.NewBlocks

namespace Go.Proofs.Ytkiggfahcakdeaa

set_option linter.unusedVariables false

set_option linter.unusedSimpArgs false

open Go.RowKit

theorem disable (w : World) : (callFunc 67 #[]).run Try.prog w = .ok (.value (.tuple #[])) w := run_call_mark0 Try.func67 (by kernel_rfl) (by kernel_rfl) (by kernel_rfl) .disable (by kernel_rfl) w
theorem enable (w : World) : (callFunc 69 #[]).run Try.prog w = .ok (.value (.tuple #[])) w := run_call_mark0 Try.func69 (by kernel_rfl) (by kernel_rfl) (by kernel_rfl) .enable (by kernel_rfl) w
theorem acquire (a : Addr) (w : World) : (callFunc 70 #[.pointer (some a)]).run Try.prog w = .ok (.value (.tuple #[])) w := run_call_marked Try.func70 (by kernel_rfl) (by kernel_rfl) (by kernel_rfl) .acquire (by kernel_rfl) a w
theorem releaseMerge (a : Addr) (w : World) : (callFunc 72 #[.pointer (some a)]).run Try.prog w = .ok (.value (.tuple #[])) w := run_call_marked Try.func72 (by kernel_rfl) (by kernel_rfl) (by kernel_rfl) .releaseMerge (by kernel_rfl) a w

theorem store_deferred (a : Addr) (x : Value) (u : FrameMode) (w : World) (hc : w.cell? a = some x) (hz : w.frozen? a = false) :
    CallsD Try.prog 62 #[.pointer (some a), .bool true] u w fun e u' w' => u' = u ∧ (e = .returned (.tuple #[]) ∧ w' = w.drew.setCell a (.int .u32 1)) := by
  have hc' : w.drew.cell? a = some x := by go_simp
  have hz' : w.drew.frozen? a = false := by go_simp
  have hst := run_call_store (P := Try.prog) Try.func65 (by kernel_rfl) (by kernel_rfl) (by kernel_rfl) (by kernel_rfl) (k := .u32) (y := 1) hc' hz'
  go_enter_d Try.func62, Try.ntmps62
  go_wp2
  go_region_calls
  all_goals (go_end0; exact ⟨rfl, rfl⟩)

set_option maxRecDepth 100000 in
theorem unlock_deferred (a : Addr) (u : FrameMode) (w : World) (hc : w.cell? a = some (.int .i32 1)) (hz : w.frozen? a = false) :
    CallsD Try.prog 61 #[.pointer (some a)] u w fun e u' w' => u' = u ∧ (e = .returned (.tuple #[]) ∧ w' = w.setCell a (.int .i32 0)) := by
  have hd := disable
  have he := enable
  have hr := releaseMerge
  have hadd := run_call_add (P := Try.prog) Try.func73 (by kernel_rfl) (by kernel_rfl) (by kernel_rfl) .i32 (by kernel_rfl) (y := -1) (s := 0) hc hz (by simp [go_sem]; rfl)
  have hcv := run_convert_to_unsafe (P := Try.prog) (src := 119) (dst := 107) Try.underlying119 Try.underlying107 (by kernel_rfl) hc
  go_enter_d Try.func61, Try.ntmps61
  go_wp2
  go_end0
  go_wp2
  go_end0
  exact ⟨rfl, rfl⟩

set_option maxRecDepth 100000 in
theorem lock_free (a : Addr) (w : World) (hc : w.cell? a = some (.int .i32 0)) (hz : w.frozen? a = false) :
    Calls Try.prog 60 #[.pointer (some a)] w fun e w' => e = .returned (.tuple #[]) ∧ w' = w.setCell a (.int .i32 1) := by
  have hd := disable
  have he := enable
  have ha := acquire
  have hcas := run_call_cas_hit (P := Try.prog) Try.func68 (by kernel_rfl) (by kernel_rfl) (by kernel_rfl) .i32 (by kernel_rfl) (y := 1) hc hz
  have hc' : (w.setCell a (.int .i32 1)).cell? a = some (.int .i32 1) := World.cell?_setCell_same w a _ hc
  have hcv := run_convert_to_unsafe (P := Try.prog) (src := 119) (dst := 107) Try.underlying119 Try.underlying107 (by kernel_rfl) hc'
  go_enter Try.func60, Try.ntmps60
  go_wp2
  first | go_end0 | (simp only [Exit.inBlock, Exit.then]; refine bodyPost_ret (results_none rfl _ _ _) rfl ?_) | refine bodyPost_ret (results_none rfl _ _ _) rfl ?_
  go_wp2
  go_end0
  exact ⟨rfl, rfl⟩

/-- what a Named's block holds -/
def namedCells (v : Value) (d m : Int) (id : List UInt8) (n : Int) : List Value := [v, .int .u32 d, .int .i32 m, .int .u32 0] ++ b8s id ++ [.int .i64 n]
def NamedAt (w : World) (g : Nat) (v : Value) (d m : Int) (id : List UInt8) (n : Int) : Prop := id.length = 32 ∧ w.heap[g]? = some (.cells (namedCells v d m id n).toArray 92 (0, 0))
theorem NamedAt.c0 {w : World} {g : Nat} {v : Value} {d m : Int} {id : List UInt8} {n : Int} (h : NamedAt w g v d m id n) : w.cell? ⟨g, 0, none⟩ = some v := by rw [row_cell h.2]; rfl
theorem NamedAt.c1 {w : World} {g : Nat} {v : Value} {d m : Int} {id : List UInt8} {n : Int} (h : NamedAt w g v d m id n) : w.cell? ⟨g, 1, none⟩ = some (.int .u32 d) := by rw [row_cell h.2]; rfl
theorem NamedAt.c2 {w : World} {g : Nat} {v : Value} {d m : Int} {id : List UInt8} {n : Int} (h : NamedAt w g v d m id n) : w.cell? ⟨g, 2, none⟩ = some (.int .i32 m) := by rw [row_cell h.2]; rfl
theorem NamedAt.c36 {w : World} {g : Nat} {v : Value} {d m : Int} {id : List UInt8} {n : Int} (h : NamedAt w g v d m id n) : w.cell? ⟨g, 36, none⟩ = some (.int .i64 n) := by
  rw [row_cell h.2, List.getElem?_toArray]
  unfold namedCells
  rw [List.getElem?_append_right (by simp [b8s, h.1])]
  simp [b8s, h.1]
theorem NamedAt.free {w : World} {g : Nat} {v : Value} {d m : Int} {id : List UInt8} {n : Int} (h : NamedAt w g v d m id n) (i : Nat) : w.frozen? ⟨g, i, none⟩ = false := row_free h.2 i
theorem NamedAt.range {w : World} {g : Nat} {v : Value} {d m : Int} {id : List UInt8} {n : Int} (h : NamedAt w g v d m id n) : w.rangeAt g 4 (b8s id) := fun j u hu => by
  rw [row_cell h.2, List.getElem?_toArray]
  have hj := (List.getElem?_eq_some_iff.1 hu).1
  unfold namedCells
  rw [List.getElem?_append_left (by simp; omega), List.getElem?_append_right (by simp)]
  simpa using hu
theorem NamedAt.there {w : World} {g : Nat} {v : Value} {d m : Int} {id : List UInt8} {n : Int} (h : NamedAt w g v d m id n) : w.there g 4 32 := fun j hj =>
  ⟨by rw [row_cell h.2, List.getElem?_toArray]; simp [namedCells, b8s, h.1]; omega, h.free _⟩
theorem NamedAt.set1 {w : World} {g : Nat} {v : Value} {d m : Int} {id : List UInt8} {n : Int} (h : NamedAt w g v d m id n) (x : Int) : NamedAt (w.setCell ⟨g, 1, none⟩ (.int .u32 x)) g v x m id n := ⟨h.1, row_set h.2 1 _⟩
theorem NamedAt.set2 {w : World} {g : Nat} {v : Value} {d m : Int} {id : List UInt8} {n : Int} (h : NamedAt w g v d m id n) (x : Int) : NamedAt (w.setCell ⟨g, 2, none⟩ (.int .i32 x)) g v d x id n := ⟨h.1, row_set h.2 2 _⟩
theorem NamedAt.set36 {w : World} {g : Nat} {v : Value} {d m : Int} {id : List UInt8} {n : Int} (h : NamedAt w g v d m id n) (x : Int) : NamedAt (w.setCell ⟨g, 36, none⟩ (.int .i64 x)) g v d m id x := by
  refine ⟨h.1, ?_⟩
  have := row_set h.2 36 (.int .i64 x)
  rw [this]
  congr 2
  rw [List.setIfInBounds_toArray]
  unfold namedCells
  rw [List.set_append_right _ _ (by simp [b8s, h.1])]
  simp [b8s, h.1]
theorem NamedAt.setId {w : World} {g : Nat} {v : Value} {d m : Int} {id : List UInt8} {n : Int} (h : NamedAt w g v d m id n) (new : List UInt8) (hl : new.length = 32) : NamedAt (w.setCells g 4 (b8s new)) g v d m new n := by
  refine ⟨hl, ?_⟩
  have := row_setCells (t := 92) (b8s new) [v, .int .u32 d, .int .i32 m, .int .u32 0] (b8s id) [.int .i64 n] w h.2 (by rw [b8s_length, b8s_length, h.1, hl])
  exact this
theorem NamedAt.keep {w w' : World} {g : Nat} {v : Value} {d m : Int} {id : List UInt8} {n : Int} (h : NamedAt w g v d m id n) (hb : Below w.heap.size w w') : NamedAt w' g v d m id n :=
  ⟨h.1, (hb.block g (Array.getElem?_eq_some_iff.1 h.2).1).trans h.2⟩
theorem NamedAt.lt {w : World} {g : Nat} {v : Value} {d m : Int} {id : List UInt8} {n : Int} (h : NamedAt w g v d m id n) : g < w.heap.size := (Array.getElem?_eq_some_iff.1 h.2).1
end Go.Proofs.Ytkiggfahcakdeaa
