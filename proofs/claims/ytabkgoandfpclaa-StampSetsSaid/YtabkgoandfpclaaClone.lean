
/- What slices.Clone makes. -/

import Derived.Test.YtabkgoandfpclaaProg

import Derived.Test.YtabkgoandfpclaaRef01

namespace Go.Proofs.Ytabkgoandfpclaa

open Go.RowKit

theorem rd_none_nil {w : World} {bs : List UInt8} (h : Rd w none (b8s bs)) : bs = [] := by
  cases bs with
  | nil => rfl
  | cons c bs =>
    obtain ⟨b, o, hA, _⟩ := h.byte 0 (by simp)
    cases hA

set_option maxHeartbeats 400000 in
theorem clone_any (A : Option Addr) (bs : List UInt8) (c : Nat) (w : World) (hr : Rd w A (b8s bs)) (hm : bs.length ≤ 140737488355328) :
    Calls Try.prog 43 #[.slice A bs.length c] w fun e w' => ∃ v, e = .returned v ∧ Own8 w.heap.size w w' v bs := by
  have hnil := fun (w : World) (n c : Nat) => Lib.run_eql_slice_nil (P := Try.prog) w 36 5 A n c 0 0 Try.underlying36
  cases A with
  | none =>
    have := rd_none_nil hr
    subst this
    go_enter Try.func43, Try.ntmps43
    go_wp2
    go_ret
    exact ⟨_, rfl, Own8.nil _ _ _ (Below.refl _ _) (Nat.le_refl _)⟩
  | some ad =>
    obtain ⟨N, hN⟩ : ∃ N, N = w.heap.size := ⟨_, rfl⟩
    have hst := Own8.startN w w N (hN ▸ Below.refl _ _) (hN ▸ Nat.le_refl _)
    have hr' := hr.alloc (.cells #[] 5)
    rw [← hN]
    clear hN
    go_enter Try.func43, Try.ntmps43
    go_wp2_with (at_builtin; refine wpList_append_bytes rfl _ _ rfl bs rfl rfl hr' hst (by simp; omega) ?_; intro v1 w2 hown hg)
    go_ret

    exact ⟨_, rfl, by simpa using hown⟩
end Go.Proofs.Ytabkgoandfpclaa
