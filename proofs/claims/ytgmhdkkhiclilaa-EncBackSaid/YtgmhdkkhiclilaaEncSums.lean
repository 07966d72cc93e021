/- EncSums: all bytes have the sum that the document says. -/
import Derived.Test.YtgmhdkkhiclilaaRows
import Derived.Test.YtgmhdkkhiclilaaEncSum
import Derived.ProofKit
import Derived.OpenShut
namespace Go.Proofs.Ytgmhdkkhiclilaa
open Go.RowKit

theorem crc_check : crc [49, 50, 51, 52, 53, 54, 55, 56, 57] = 3421780262#32 := by decide +kernel

set_option maxHeartbeats 400000 in
theorem summing_any (w : World) : Calls Try.prog 10 #[] w fun e w' => e = .returned (.bool true) ∧ Below w.heap.size w w' := by
  have kc := fun (w : World) (C : Array Value) (n c : Nat) => Lib.run_convert_bytes_const (P := Try.prog) w 22 5 C n c Try.underlying22 Try.underlying5
  go_enter Try.func10, Try.ntmps10
  go_wp2_with fail
  refine (sum_any _ [49, 50, 51, 52, 53, 54, 55, 56, 57] _ _ (Rd.newm w (b8s [49, 50, 51, 52, 53, 54, 55, 56, 57]) 5 _) (by decide)).mono ?_
  rintro e w' ⟨rfl, rfl⟩
  rw [crc_check]
  go_wp2_with fail
  go_ret
  exact ⟨rfl, (Below.refl _ _).alloc (Nat.le_refl _) _⟩

set_option maxHeartbeats 400000 in
theorem encSums_any (A : Option Addr) (bs : List UInt8) (c : Nat) (w : World) (hr : Rd w A (b8s bs)) (hm : bs.length ≤ maxLen) :
    Calls Try.prog 3 #[.slice A bs.length c] w fun e w' => e = .returned (.bool true) ∧ Below w.heap.size w w' := by
  go_enter Try.func3, Try.ntmps3
  go_wp2_with fail
  refine (summing_any w).mono ?_
  rintro e w1 ⟨rfl, hb⟩
  go_wp2_with fail
  refine (sum_any A bs c w1 (hr.below hb) hm).mono ?_
  rintro e w' ⟨rfl, rfl⟩
  go_wp2_with fail
  refine (rsum_any A bs c w1 (hr.below hb) hm).mono ?_
  rintro e w' ⟨rfl, rfl⟩
  go_wp2_with fail
  go_ret
  exact ⟨by simp, hb⟩
end Go.Proofs.Ytgmhdkkhiclilaa
