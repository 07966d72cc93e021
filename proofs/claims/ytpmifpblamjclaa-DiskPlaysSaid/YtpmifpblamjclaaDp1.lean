
/- The document's disk: Find, named, Between. -/

import Derived.Test.YtpmifpblamjclaaDk15

import Derived.Test.YtpmifpblamjclaaPartsOpen

namespace Go.Proofs.Ytpmifpblamjclaa

set_option linter.unusedVariables false

set_option linter.unusedSimpArgs false

set_option linter.unusedSectionVars false

open Go.RowKit

/-- a name's cells -/
def nmC (p : List UInt8 × Nat) : List Value := [strV p.1, .int .i64 (p.2 : Int)]
def namesR (ns : NM) : List Value := ns.flatMap nmC
theorem namesR_len (ns : NM) : (namesR ns).length = ns.length * 2 := flat_length ns (fun _ _ => rfl)
theorem namesR_app (a b : NM) : namesR (a ++ b) = namesR a ++ namesR b := by simp [namesR]
/-- the number that a name leads to, -1 of none -/
def findI (ns : NM) (s : List UInt8) : Int := match findN ns s with
  | some f => (f : Int)
  | none => -1
theorem findN_drop {ns : NM} {s : List UInt8} {k : Nat} (h : ∀ i (hi : i < ns.length), i < k → ns[i].1 ≠ s) : findN ns s = findN (ns.drop k) s := by
  unfold findN
  induction k generalizing ns with
  | zero => rfl
  | succ k ih =>
    cases ns with
    | nil => rfl
    | cons p r =>
      have h0 := h 0 (by simp) (by omega)
      rw [List.find?_cons, show (p.1 == s) = false from by rw [beq_eq_false_iff_ne]; exact h0, List.drop_succ_cons]
      exact ih (fun i hi hk => h (i + 1) (by simp; omega) (by omega))

theorem rnamed_any (S : ByteArray) (w : World) : Calls Try.prog 51 #[.string S] w fun e w' => e = .returned (.bool (namedB S.data.toList)) ∧ w' = w := by
  have hs := size_toList S
  unfold namedB
  rw [hs]
  by_cases h1 : 0 < S.size
  · have j1 : (0 : Int) < (S.size : Int) := by omega
    have h1' : 1 ≤ S.size := h1
    by_cases h2 : S.size ≤ 100
    · have j2 : (S.size : Int) ≤ 100 := by omega
      go_enter Try.func51, Try.ntmps51
      go_wp2_with fail
      go_ret
      exact ⟨by simp [h1', h2], rfl⟩
    · have j2 : ¬ ((S.size : Int) ≤ 100) := by omega
      go_enter Try.func51, Try.ntmps51
      go_wp2_with fail
      go_ret
      exact ⟨by simp [h1', h2], rfl⟩
  · have j1 : ¬ ((0 : Int) < (S.size : Int)) := by omega
    have h1' : ¬ (1 ≤ S.size) := h1
    go_enter Try.func51, Try.ntmps51
    go_wp2_with fail
    go_ret
    exact ⟨by simp [h1'], rfl⟩

set_option maxRecDepth 100000 in
set_option maxHeartbeats 4000000 in
theorem rfind_any (A : Option Addr) (ns : NM) (n c : Nat) (hn : ns.length = n) (hnl : n ≤ 1000000) (S : ByteArray) (w : World) (hr : Rd w A (namesR ns)) :
    Calls Try.prog 41 #[.slice A n c, .string S] w fun e w' => e = .returned (.int .i64 (findI ns S.data.toList)) ∧ w' = w := by
  have HR := Lib.hid hr
  have HN := Lib.hid hn
  obtain ⟨q, hq⟩ : ∃ q, findI ns S.data.toList = q := ⟨_, rfl⟩
  have HQ := Lib.hid hq
  rw [hq]
  clear hr hn hq
  go_enter Try.func41, Try.ntmps41
  go_wp2_with fail
  go_loopg [5] (n * 1) (fun gk_ iv wr => ∃ (k : Nat), k ≤ n ∧ gk_ = n - k ∧ iv = .int .i64 (k : Int) ∧ Hid (∀ i (hi : i < ns.length), i < k → ns[i].1 ≠ S.data.toList) ∧ wr = w)
  case atStart => exact ⟨0, by omega, by omega, rfl, Lib.hid (fun i hi h => absurd h (by omega)), rfl⟩
  case round =>
  obtain ⟨k, hk, rfl, rfl, HK, rfl⟩ := hrel
  by_cases hlt : k < n
  · have i1 : (k : Int) < (n : Int) := by omega
    have hkl : k < ns.length := by rw [HN.out]; exact hlt
    obtain ⟨b, o, hA, _⟩ := HR.out.all (by rw [namesR_len]; omega)
    have hrow := rd_flat (f := nmC) (m := 2) (by have := HR.out; rw [hA] at this; exact this) (fun _ _ => rfl) k hkl
    obtain ⟨s, f, hp⟩ : ∃ s f, ns[k] = (s, f) := ⟨_, _, rfl⟩
    rw [hp] at hrow
    have c0 : wr.cell? ⟨b, o + k * 2, none⟩ = some (.string ⟨s.toArray⟩) := hrow 0 _ rfl
    have c1 : wr.cell? ⟨b, o + k * 2 + 1, none⟩ = some (.int .i64 (f : Int)) := hrow 1 _ rfl
    obtain ⟨T, hT⟩ : ∃ T : ByteArray, (⟨s.toArray⟩ : ByteArray) = T := ⟨_, rfl⟩
    rw [hT] at c0
    have hTs : T.data.toList = s := by rw [← hT]
    have HA := Lib.hid hA
    rw [hA]
    clear hA hrow
    by_cases he : T = S
    · have heq : (T.toList == S.toList) = true := by rw [names_eq, decide_eq_true he]
      have HF : Hid (q = (f : Int)) := Lib.hid (by
        rw [← HQ.out]
        unfold findI
        rw [findN_drop HK.out, List.drop_eq_getElem_cons hkl, hp]
        unfold findN
        rw [List.find?_cons, show (s == S.data.toList) = true from by rw [beq_iff_eq, ← hTs, he]]
        rfl)
      clear hp hT hTs he
      go_wp2_with fail
      go_ret
      exact ⟨by rw [HF.out]; rfl, rfl⟩
    · have heq : (T.toList == S.toList) = false := by rw [names_eq, decide_eq_false he]
      have HK2 : Hid (∀ i (hi : i < ns.length), i < k + 1 → ns[i].1 ≠ S.data.toList) := Lib.hid (fun i hi h => by
        by_cases hik : i = k
        · subst hik
          rw [hp]
          dsimp only
          intro e
          refine he ?_
          rw [← hT, e]
        · exact HK.out i hi (by omega))
      clear hp hT hTs he
      go_wp2_with fail
      rw [← HA.out]
      go_roundg (n - (k + 1))
      case measure => omega
      case rel => exact ⟨k + 1, by omega, rfl, by first | rfl | exact congrArg (Value.int .i64) (by omega) | go_num, HK2, rfl⟩
  · obtain rfl : k = n := by omega
    have HF : Hid (q = -1) := Lib.hid (by
      rw [← HQ.out]
      unfold findI
      rw [findN_drop HK.out, List.drop_eq_nil_of_le (by rw [HN.out]; omega)]
      rfl)
    go_wp2_with fail
    go_ret
    exact ⟨by rw [HF.out]; rfl, rfl⟩
end Go.Proofs.Ytpmifpblamjclaa
