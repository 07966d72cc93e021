
/- The names' set of bytes. -/

import Derived.Test.YtabkgoandfpclaaName

namespace Go.Proofs.Ytabkgoandfpclaa

set_option linter.unusedVariables false

set_option linter.unusedSimpArgs false

open Go.RowKit

set_option maxRecDepth 100000 in
set_option maxHeartbeats 2000000 in
theorem set_any (w : World) : Calls Try.prog 76 #[.string ⟨#[0, 47, 10]⟩] w fun e w' => e = .returned (.tuple #[.agg (Lib.setCells csN), .bool true]) ∧ Below w.heap.size w w' := by
  have hz : Try.zeroCells102 = Lib.setCells [] := by kernel_rfl
  have HZ := Lib.hid hz
  clear hz
  have hi116 : (Try.prog.info? 102).map (·.size) = some 256 := by kernel_rfl
  have HI := Lib.hid hi116
  clear hi116
  go_enter Try.func76, Try.ntmps76
  go_wp2_with fail
  rw [HZ.out]
  go_loopg [4] 3 (fun g s4 wr => ∃ i : Nat, i ≤ 3 ∧ g = 3 - i ∧ s4 = .int .i64 i ∧ wr = w.alloc (.cells (Lib.setCells (csN.take i)) 102))
  case atStart => exact ⟨0, by omega, by omega, rfl, rfl⟩
  case round =>
    obtain ⟨i, hi, rfl, rfl, rfl⟩ := hrel
    rcases (by omega : i = 0 ∨ i = 1 ∨ i = 2 ∨ i = 3) with rfl | rfl | rfl | rfl
    · have hcell := Lib.setCells_at (csN.take 0) 0
      have H2 := Lib.hid (Lib.setCells_snoc (csN.take 0) 0)
      go_wp2_with fail
      go_roundg 2
      case measure => omega
      case rel => exact ⟨1, by omega, by omega, rfl, by first | rfl | simp [H2.out] | (rw [H2.out]; rfl)⟩
    · have hcell := Lib.setCells_at (csN.take 1) 47
      have H2 := Lib.hid (Lib.setCells_snoc (csN.take 1) 47)
      go_wp2_with fail
      go_roundg 1
      case measure => omega
      case rel => exact ⟨2, by omega, by omega, rfl, by first | rfl | simp [H2.out] | (rw [H2.out]; rfl)⟩
    · have hcell := Lib.setCells_at (csN.take 2) 10
      have H2 := Lib.hid (Lib.setCells_snoc (csN.take 2) 10)
      go_wp2_with fail
      go_roundg 0
      case measure => omega
      case rel => exact ⟨3, by omega, by omega, rfl, by first | rfl | simp [H2.out] | (rw [H2.out]; rfl)⟩
    · have hT : csN.take 3 = csN := rfl
      rw [hT]
      clear hT
      obtain ⟨C, hC⟩ : ∃ C, Lib.setCells csN = C := ⟨_, rfl⟩
      have hCs : C.size = 256 := by rw [← hC]; exact Lib.setCells_size csN
      have h1 : C.all (·.oneCell') = true := by rw [← hC]; exact Lib.setCells_one csN
      rw [hC]
      obtain ⟨W1, hW1⟩ : ∃ W1, w.alloc (.cells C 102) = W1 := ⟨_, rfl⟩
      have hrow : W1.heap[w.heap.size]? = some (.cells C 102 (0, 0)) := by rw [← hW1]; exact heap_alloc_new w _
      have hb : Below w.heap.size w W1 := by rw [← hW1]; exact (Below.refl _ _).alloc (Nat.le_refl _) _
      obtain ⟨W2, hW2⟩ : ∃ W2, W1.setCells w.heap.size 0 C.toList = W2 := ⟨_, rfl⟩
      have hb2 : Below w.heap.size w W2 := by rw [← hW2]; exact bel_grown hb hb.size (setCells_grown _ _ _ _) (Nat.le_refl _)
      have hrow2 : W2.heap[w.heap.size]? = some (.cells C 102 (0, 0)) := by
        rw [← hW2]
        exact row_setAll (cs := C.toList) (vs := C.toList) (by simpa using hrow) rfl
      have HTH : Hid (W1.there w.heap.size 0 C.size) := Lib.hid (there_of_row hrow)
      have HROW := Lib.hid hrow
      have HROW2 := Lib.hid hrow2
      have HW2 := Lib.hid hW2
      have HB2 := Lib.hid hb2
      have HI2 : Hid ((Try.prog.info? 102).map (·.size) = some C.size) := Lib.hid (by rw [hCs]; exact HI.out)
      have HO := Lib.hid h1
      have HC := Lib.hid hC
      rw [hW1]
      clear hW1 hW2 hrow hrow2 hb hb2 hC hCs h1
      go_wp2_with (first
        | ((with_reducible (refine wpList_load_row rfl _ _ rfl _ rfl _ _ _ _ HROW.out Try.underlying102 rfl ?_ ?_)); (focus (exact HI2.out)))
        | ((with_reducible (refine wpList_store_mid rfl _ _ _ rfl ?_ ?_ ?_ ?_ ?_ ?_ ?_ ?_ ?_)); (exact w.heap.size); (exact 0); (exact C); (exact rfl); (exact rfl); (exact HTH.out); (exact HI2.out); (exact HO.out); rw [HW2.out]))
      refine bodyPost_ret (results_row_tmp rfl _ _ _ _ _ _ _ rfl HROW2.out Try.underlying102 rfl HI2.out) rfl ?_
      refine ⟨?_, HB2.out⟩
      rw [HC.out]
      rfl

set_option maxRecDepth 100000 in
theorem has_any (b : Nat) (x : UInt8) (v : Bool) (w : World) (hc : w.cell? ⟨b, x.toNat, none⟩ = some (.bool v)) :
    Calls Try.prog 77 #[.pointer (some ⟨b, 0, none⟩), .int .u8 x.toNat] w fun e w' => e = .returned (.bool v) ∧ w' = w := by
  have hx256 : (x.toNat : Int) < 256 := by have := UInt8.toNat_lt x; omega
  go_enter Try.func77, Try.ntmps77
  go_wp2
  go_ret
  exact ⟨rfl, rfl⟩
end Go.Proofs.Ytabkgoandfpclaa
