
/- slices.insertionSortCmpFunc, stableCmpFunc, SortStableFunc at operations: what they leave of the row (stA). Conditions: fewer than 2^40 elements. (Printed by wip/genSs6.py.) -/

import Derived.Test.YtabkgoandfpclaaSs4

import Derived.Test.YtabkgoandfpclaaSsA

namespace Go.Proofs.Ytabkgoandfpclaa

set_option linter.unusedVariables false

set_option linter.unusedSimpArgs false

open Go.Shelf Go.RowKit Go.Lib Go.Sort Go.Proofs

variable {α : Type} [Inhabited α]

set_option maxHeartbeats 4000000 in
set_option maxRecDepth 1000000 in
theorem insertion_any (K : Nat) (zE : ∀ w, (Go.sizeOf 33).run Try.prog w = .ok K w) (enc : α → List Value) (cf : α → α → Int) (g : Nat) (cb : Array Value) (blk off cap : Nat) (d0 : Array α) (w0 : World)
    (R : RowK enc K w0 blk off d0) (eg : ∀ args w, (callFunc g args).run Try.prog w = .ok (.enter g args) w) (hcmp : CmpLays Try.prog g cb enc K cf blk off d0.size w0) (hsz : d0.size < 1099511627776)
    (d : Array α) (a b : Nat) (w : World) (hs : d.size = d0.size) (S : SWK enc K w0 blk off d w) (hab : a ≤ b) (hb : b ≤ d0.size) :
    Calls Try.prog 78 #[.slice (some ⟨blk, off, none⟩) d0.size cap, .int .i64 a, .int .i64 b, .func (.func g) #[] cb] w fun e w' => e = .returned (.tuple #[]) ∧ SWK enc K w0 blk off (Go.Sort.insertionSort (ltOf cf) d a b) w' := by
  have mixed : Try.prog.follows .mixedOrders = true := by kernel_rfl
  have aE := opAgg
  have HC : Aside (CmpLays Try.prog g cb enc K cf blk off d0.size w0) := hcmp
  have HS := Lib.hid hs
  have S1 : Aside (SWK enc K w0 blk off d w) := S
  clear hcmp hs S
  go_enter Try.func78, Try.ntmps78
  go_wp2
  go_loopg [8] (b - a) (fun g1 vi wr => ∃ (i : Nat) (dk : Array α), vi = .int .i64 i ∧ a < i ∧ i ≤ b + 1 ∧ b + 1 - i ≤ g1 + 1 ∧ Hid (dk.size = d0.size) ∧ Aside (SWK enc K w0 blk off dk wr) ∧ Hid (insOuter (ltOf cf) a b i dk = insOuter (ltOf cf) a b (a + 1) d))
  case atStart => exact ⟨a + 1, d, by go_num, by omega, by omega, by omega, HS, S1, Lib.hid rfl⟩
  case round =>
    clear S1
    obtain ⟨i, dk, rfl, hai, hib, hg1, HSK0, S1, HO⟩ := hrel
    by_cases hlt : i < b
    · have hltz : (i : Int) < (b : Int) := by omega
      go_wp2_with fail
      obtain ⟨w1, hw1⟩ : ∃ x, x = wr := ⟨_, rfl⟩
      subst hw1
      go_loopg [9] i (fun g2 vj wr => ∃ (j : Nat) (dj : Array α), vj = .int .i64 j ∧ a ≤ j ∧ j ≤ i ∧ j ≤ g2 ∧ Hid (dj.size = d0.size) ∧ Aside (SWK enc K w0 blk off dj wr) ∧ Hid (insInner (ltOf cf) a j dj = insInner (ltOf cf) a i dk))
      case atStart => exact ⟨i, dk, rfl, by omega, Nat.le_refl _, Nat.le_refl _, HSK0, S1, Lib.hid rfl⟩
      case round =>
        clear S1 HSK0
        obtain ⟨j, dj, rfl, haj, hji, hg2, HSK, S1, HI⟩ := hrel
        have OUT : Aside ((j ≤ a ∨ ltOf cf dj[j]! dj[j - 1]! = false) → Hid (insOuter (ltOf cf) a b (i + 1) dj = insOuter (ltOf cf) a b (a + 1) d)) := fun hs => by
          show _ = _
          rw [← HO.out, insOuter_go _ _ _ _ _ hlt, ← HI.out, insInner_stop _ _ _ _ hs]
        by_cases hja : a < j
        · obtain ⟨jp, rfl⟩ : ∃ jp, j = jp + 1 := ⟨j - 1, by omega⟩
          have hwp : IntKind.i64.wrap (jp : Int) = (jp : Int) := by rw [IntKind.wrap_i64]; omega
          have hjaz : (a : Int) < (jp : Int) + 1 := by omega
          rw [Nat.add_sub_cancel] at OUT
          cases hL : ltOf cf dj[jp + 1]! dj[jp]! with
          | true =>
            have HL := Lib.hid hL
            have ea1 : ((jp : Int) + 1).toNat = jp + 1 := by omega
            have pa1 : (0 : Int) ≤ (jp : Int) + 1 := by omega
            have ba1 : (jp : Int) + 1 < (d0.size : Int) := by omega
            have ra1 : IntKind.i64.wrap ((jp : Int) + 1) = (jp : Int) + 1 := by rw [IntKind.wrap_i64] <;> omega
            have ec1 : ((jp : Int)).toNat = jp := by omega
            have pc1 : (0 : Int) ≤ (jp : Int) := by omega
            have bc1 : (jp : Int) < (d0.size : Int) := by omega
            obtain ⟨x1, hx1⟩ : ∃ z9, z9 = dj[jp + 1]! := ⟨_, rfl⟩
            obtain ⟨y1, hy1⟩ : ∃ z9, z9 = dj[jp]! := ⟨_, rfl⟩
            have l1a := S1.out.ld R HSK.out Try.prog (jp + 1) (by have := HSK.out; omega)
            have l1b := S1.out.ld R HSK.out Try.prog (jp) (by have := HSK.out; omega)
            rw [← hx1] at l1a
            rw [← hy1] at l1b
            have hc1 := S1.out.cmp HC.out HSK.out x1 y1
            have hv1 : cf x1 y1 < 0 := by rw [hx1, hy1]; exact of_decide_eq_true hL
            have hd1 : decide (cf x1 y1 < 0) = true := decide_eq_true hv1
            clear hx1 hy1
            go_wp2_with fail
            go_quiet_grown (first | (go_at_fn g; refine Calls.grown_of (hc1 _ _)))
            have S2 : Aside (SWK enc K w0 blk off dj (grow (wr.drewN nq) osq)) := S1.out.grown nq osq
            clear l1a l1b hc1 S1
            generalize grow (wr.drewN nq) osq = w2 at S2 ⊢
            clear nq osq
            go_wp2_with fail
            have ea2 : ((jp : Int) + 1).toNat = jp + 1 := by omega
            have pa2 : (0 : Int) ≤ (jp : Int) + 1 := by omega
            have ba2 : (jp : Int) + 1 < (d0.size : Int) := by omega
            have ra2 : IntKind.i64.wrap ((jp : Int) + 1) = (jp : Int) + 1 := by rw [IntKind.wrap_i64] <;> omega
            have ec2 : ((jp : Int)).toNat = jp := by omega
            have pc2 : (0 : Int) ≤ (jp : Int) := by omega
            have bc2 : (jp : Int) < (d0.size : Int) := by omega
            have S3 : Aside (SWK enc K w0 blk off (swp dj (jp + 1) (jp)) ((w2.drew.setCells blk (off + (jp + 1) * K) (enc dj[jp]!)).setCells blk (off + (jp) * K) (enc dj[jp + 1]!))) := S2.out.swapped R (jp + 1) (jp) (by have := HSK.out; omega) (by have := HSK.out; omega)
            have l2a := S2.out.ld1 R HSK.out Try.prog (jp + 1) (by have := HSK.out; omega)
            have l2b := S2.out.ld1 R HSK.out Try.prog (jp) (by have := HSK.out; omega)
            have s2a := S2.out.st1 R HSK.out Try.prog (jp + 1) (by have := HSK.out; omega) dj[jp]!
            have s2b := S2.out.st2 R HSK.out Try.prog (jp + 1) (jp) (by have := HSK.out; omega) (by have := HSK.out; omega) dj[jp]! dj[jp + 1]!
            have n2a : (enc dj[jp + 1]!).length = K := R.hk _
            have n2b : (enc dj[jp]!).length = K := R.hk _
            generalize enc dj[jp + 1]! = cI2 at S3 l2a s2b n2a
            generalize enc dj[jp]! = cJ2 at S3 l2b s2a s2b n2b
            clear S2
            go_wp2_with fail
            go_big_region_o
            clear l2a l2b s2a s2b
            generalize (w2.drew.setCells blk (off + (jp + 1) * K) cJ2).setCells blk (off + (jp) * K) cI2 = w3 at S3 ⊢
            go_wp2
            go_roundg jp
            case measure => omega
            case rel =>
              refine ⟨jp, swp dj (jp + 1) jp, by first | rfl | go_num | (congr 1; omega), by omega, by omega, Nat.le_refl _, Lib.hid (by rw [size_swp]; exact HSK.out), S3, Lib.hid ?_⟩
              have := insInner_go (ltOf cf) a (jp + 1) dj hja (by simp only [Nat.add_sub_cancel]; exact HL.out)
              simp only [Nat.add_sub_cancel] at this
              rw [← HI.out, this]
          | false =>
            have ea1 : ((jp : Int) + 1).toNat = jp + 1 := by omega
            have pa1 : (0 : Int) ≤ (jp : Int) + 1 := by omega
            have ba1 : (jp : Int) + 1 < (d0.size : Int) := by omega
            have ra1 : IntKind.i64.wrap ((jp : Int) + 1) = (jp : Int) + 1 := by rw [IntKind.wrap_i64] <;> omega
            have ec1 : ((jp : Int)).toNat = jp := by omega
            have pc1 : (0 : Int) ≤ (jp : Int) := by omega
            have bc1 : (jp : Int) < (d0.size : Int) := by omega
            obtain ⟨x1, hx1⟩ : ∃ z9, z9 = dj[jp + 1]! := ⟨_, rfl⟩
            obtain ⟨y1, hy1⟩ : ∃ z9, z9 = dj[jp]! := ⟨_, rfl⟩
            have l1a := S1.out.ld R HSK.out Try.prog (jp + 1) (by have := HSK.out; omega)
            have l1b := S1.out.ld R HSK.out Try.prog (jp) (by have := HSK.out; omega)
            rw [← hx1] at l1a
            rw [← hy1] at l1b
            have hc1 := S1.out.cmp HC.out HSK.out x1 y1
            have hv1 : ¬ cf x1 y1 < 0 := by rw [hx1, hy1]; exact of_decide_eq_false hL
            have hd1 : decide (cf x1 y1 < 0) = false := decide_eq_false hv1
            clear hx1 hy1
            go_wp2_with fail
            go_quiet_grown (first | (go_at_fn g; refine Calls.grown_of (hc1 _ _)))
            have S2 : Aside (SWK enc K w0 blk off dj (grow (wr.drewN nq) osq)) := S1.out.grown nq osq
            clear l1a l1b hc1 S1
            generalize grow (wr.drewN nq) osq = w2 at S2 ⊢
            clear nq osq
            go_wp2_with fail
            go_roundg (b - (i + 1))
            case measure => omega
            case rel => exact ⟨i + 1, dj, by go_num, by omega, by omega, by omega, HSK, S2, OUT (Or.inr hL)⟩
        · have hjaz : decide ((j : Int) > (a : Int)) = false := decide_eq_false (by omega)
          have hjaz' : ¬ (a : Int) < (j : Int) := by omega
          have S2 : Aside (SWK enc K w0 blk off dj wr.drew) := S1.out.drew
          clear S1
          go_wp2_with fail
          go_big_region_o
          all_goals go_wp2
          go_roundg (b - (i + 1))
          case measure => omega
          case rel => exact ⟨i + 1, dj, by go_num, by omega, by omega, by omega, HSK, S2, OUT (Or.inl (by omega))⟩
    · have hltz : ¬ (i : Int) < (b : Int) := by omega
      go_wp2
      go_end0
      refine ⟨rfl, ?_⟩
      have h9 := HO.out
      rw [insOuter_stop _ _ _ _ _ hlt] at h9
      unfold Go.Sort.insertionSort
      rw [← h9]
      exact S1.out

theorem stB_go (lt : α → α → Bool) (N f a : Nat) (d : Array α) (h : a + 20 ≤ N) : stB lt N (f + 1) d a = stB lt N f (Go.Sort.insertionSort lt d a (a + 20)) (a + 20) := by rw [stB, if_pos h]
theorem stB_end (lt : α → α → Bool) (N f a : Nat) (d : Array α) (h : ¬ a + 20 ≤ N) : stB lt N (f + 1) d a = Go.Sort.insertionSort lt d a N := by rw [stB, if_neg h]
theorem mgB_go (lt : α → α → Bool) (N bs f a : Nat) (d : Array α) (h : a + 2 * bs ≤ N) : mgB lt N bs (f + 1) d a = mgB lt N bs f (symA lt N d a (a + bs) (a + 2 * bs)) (a + 2 * bs) := by rw [mgB, if_pos h]
theorem mgB_last (lt : α → α → Bool) (N bs f a : Nat) (d : Array α) (h : ¬ a + 2 * bs ≤ N) (h2 : a + bs < N) : mgB lt N bs (f + 1) d a = symA lt N d a (a + bs) N := by rw [mgB, if_neg h, if_pos h2]
theorem mgB_end (lt : α → α → Bool) (N bs f a : Nat) (d : Array α) (h : ¬ a + 2 * bs ≤ N) (h2 : ¬ a + bs < N) : mgB lt N bs (f + 1) d a = d := by rw [mgB, if_neg h, if_neg h2]
theorem stM_go (lt : α → α → Bool) (N f bs : Nat) (d : Array α) (h : bs < N) : stM lt N (f + 1) d bs = stM lt N f (mgB lt N bs (N + 1) d 0) (2 * bs) := by rw [stM, if_pos h]
theorem stM_end (lt : α → α → Bool) (N f bs : Nat) (d : Array α) (h : ¬ bs < N) : stM lt N f d bs = d := by
  cases f with
  | zero => rfl
  | succ f => rw [stM, if_neg h]
theorem ins_size (o : α → α → Bool) (d : Array α) (a b n : Nat) (hb : b ≤ d.size) (hab : a ≤ b) (h : d.size = n) : (Go.Sort.insertionSort o d a b).size = n := by
  unfold Go.Sort.insertionSort
  have hin : ∀ (j : Nat) (d : Array α), (insInner o a j d).size = d.size := by
    intro j
    induction j with
    | zero => intro d; rfl
    | succ j ih =>
      intro d
      rw [insInner]
      split
      · rw [ih, size_swp]
      · rfl
  have hout : ∀ (n i : Nat) (d : Array α), b - i = n → (insOuter o a b i d).size = d.size := by
    intro n
    induction n with
    | zero => intro i d hi; rw [insOuter, if_neg (by omega)]
    | succ n ih => intro i d hi; rw [insOuter, if_pos (by omega), ih _ _ (by omega), hin]
  rw [hout _ _ _ rfl, h]

set_option maxHeartbeats 4000000 in
set_option maxRecDepth 1000000 in
theorem stable_any (K : Nat) (zE : ∀ w, (Go.sizeOf 33).run Try.prog w = .ok K w) (enc : α → List Value) (cf : α → α → Int) (g : Nat) (cb : Array Value) (blk off cap : Nat) (d0 : Array α) (w0 : World)
    (R : RowK enc K w0 blk off d0) (eg : ∀ args w, (callFunc g args).run Try.prog w = .ok (.enter g args) w) (hcmp : CmpLays Try.prog g cb enc K cf blk off d0.size w0) (hsz : d0.size < 1099511627776)
    (d : Array α) (w : World) (hs : d.size = d0.size) (S : SWK enc K w0 blk off d w) :
    Calls Try.prog 73 #[.slice (some ⟨blk, off, none⟩) d0.size cap, .int .i64 d0.size, .func (.func g) #[] cb] w fun e w' => e = .returned (.tuple #[]) ∧ SWK enc K w0 blk off (stA (ltOf cf) d) w' := by
  have mixed : Try.prog.follows .mixedOrders = true := by kernel_rfl
  have ZE := Lib.hid zE
  have EG := Lib.hid eg
  have HC : Aside (CmpLays Try.prog g cb enc K cf blk off d0.size w0) := hcmp
  have HS := Lib.hid hs
  have HR := Lib.hid R
  have S1 : Aside (SWK enc K w0 blk off d w) := S
  obtain ⟨N, hN⟩ : ∃ N, d0.size = N := ⟨_, rfl⟩
  rw [hN] at hsz
  have HN := Lib.hid hN
  have hgo : Hid (stA (ltOf cf) d = stM (ltOf cf) N (N + 1) (stB (ltOf cf) N (N + 1) d 0) 20) := Lib.hid (by unfold stA; rw [HS.out, hN])
  have HINS : Hid (∀ (dk : Array α) (a b : Nat) (w : World), dk.size = N → SWK enc K w0 blk off dk w → a ≤ b → b ≤ N → Calls Try.prog 78 #[.slice (some ⟨blk, off, none⟩) N cap, .int .i64 a, .int .i64 b, .func (.func g) #[] cb] w fun e w' => e = .returned (.tuple #[]) ∧ SWK enc K w0 blk off (Go.Sort.insertionSort (ltOf cf) dk a b) w') :=
    Lib.hid (fun dk a b w h1 h2 h3 h4 => by
      have h5 := insertion_any K zE enc cf g cb blk off cap d0 w0 R eg hcmp (by omega) dk a b w (by omega) h2 h3 (by omega)
      rw [hN] at h5
      exact h5)
  have HSYM : Hid (∀ (dk : Array α) (a m b : Nat) (w : World), dk.size = N → SWK enc K w0 blk off dk w → a < m → m < b → b ≤ N → Calls Try.prog 79 #[.slice (some ⟨blk, off, none⟩) N cap, .int .i64 a, .int .i64 m, .int .i64 b, .func (.func g) #[] cb] w fun e w' => e = .returned (.tuple #[]) ∧ SWK enc K w0 blk off (symA (ltOf cf) N dk a m b) w') :=
    Lib.hid (fun dk a m b w h1 h2 h3 h4 h5 => by
      have h6 := symMerge_any K zE enc cf g cb blk off cap d0 w0 R eg hcmp (by omega) N dk a m b w (by omega) h2 h3 h4 (by omega) (by omega)
      rw [hN] at h6
      exact h6)
  have HS1 : Hid (d.size = N) := Lib.hid (HS.out.trans hN)
  rw [hN]
  clear hcmp hs S hN HS HC HR ZE EG R zE eg
  go_enter Try.func73, Try.ntmps73
  go_wp2
  go_loopg [7, 8] N (fun g1 va vb wr => ∃ (a f : Nat) (dk : Array α), va = .int .i64 a ∧ vb = .int .i64 ((a : Int) + 20) ∧ a ≤ N ∧ N - a ≤ g1 ∧ N - a < f ∧ Hid (dk.size = N) ∧ Aside (SWK enc K w0 blk off dk wr) ∧ Hid (stB (ltOf cf) N f dk a = stB (ltOf cf) N (N + 1) d 0))
  case atStart => exact ⟨0, N + 1, d, rfl, rfl, by omega, by omega, by omega, HS1, S1, Lib.hid rfl⟩
  case round =>
    clear S1
    obtain ⟨a, f, dk, rfl, rfl, haN, hg1, hf, HSK, S1, HB⟩ := hrel
    obtain ⟨f, rfl⟩ : ∃ k, f = k + 1 := ⟨f - 1, by omega⟩
    by_cases hlt : a + 20 ≤ N
    · have hltz : (a : Int) + 20 ≤ (N : Int) := by omega
      rw [stB_go _ _ _ _ _ hlt] at HB
      have HI := HINS.out dk a (a + 20) wr HSK.out S1.out (by omega) (by omega)
      have HI2 := Lib.hid HI
      have HSK2 : Hid ((Go.Sort.insertionSort (ltOf cf) dk a (a + 20)).size = N) := Lib.hid (ins_size _ _ _ _ _ (by rw [HSK.out]; omega) (by omega) HSK.out)
      clear HI
      have e1 : IntKind.i64.wrap ((a : Int) + 20 + 20) = (a : Int) + 20 + 20 := by rw [IntKind.wrap_i64] <;> omega
      go_wp2_with fail
      refine HI2.out.mono ?_
      rintro e w2 ⟨rfl, S2'⟩
      have S2 : Aside (SWK enc K w0 blk off (Go.Sort.insertionSort (ltOf cf) dk a (a + 20)) w2) := S2'
      clear S2' HI2 S1
      go_wp2_with fail
      go_roundg (N - (a + 20))
      case measure => omega
      case rel => exact ⟨a + 20, f, _, by first | rfl | go_num, by first | rfl | go_num, by omega, Nat.le_refl _, by omega, HSK2, S2, HB⟩
    · have hltz : ¬ ((a : Int) + 20 ≤ (N : Int)) := by omega
      rw [stB_end _ _ _ _ _ hlt] at HB
      have HI := HINS.out dk a N wr HSK.out S1.out (by omega) (by omega)
      have HI2 := Lib.hid HI
      have HSK2 : Hid ((Go.Sort.insertionSort (ltOf cf) dk a N).size = N) := Lib.hid (ins_size _ _ _ _ _ (by rw [HSK.out]; omega) (by omega) HSK.out)
      clear HI
      go_wp2_with fail
      refine HI2.out.mono ?_
      rintro e w2 ⟨rfl, S2'⟩
      have S2 : Aside (SWK enc K w0 blk off (Go.Sort.insertionSort (ltOf cf) dk a N) w2) := S2'
      clear S2' HI2 S1
      have HG : Hid (stA (ltOf cf) d = stM (ltOf cf) N (N + 1) (Go.Sort.insertionSort (ltOf cf) dk a N) 20) := Lib.hid (by rw [hgo.out, HB.out])
      generalize Go.Sort.insertionSort (ltOf cf) dk a N = d1 at S2 HSK2 HG
      clear HB HSK hgo
      go_wp2_with fail
      go_loopg [6, 7, 8, 9] (2 * N + 40) (fun g1 vs va vb vm wr => ∃ (bs f : Nat) (dk : Array α), vs = .int .i64 bs ∧ 20 ≤ bs ∧ bs ≤ 2 * N + 20 ∧ 2 * N + 40 - bs ≤ g1 ∧ N < f + bs ∧ Hid (dk.size = N) ∧ Aside (SWK enc K w0 blk off dk wr) ∧ Hid (stA (ltOf cf) d = stM (ltOf cf) N f dk bs))
      case atStart => exact ⟨20, N + 1, d1, rfl, by omega, by omega, by omega, by omega, HSK2, S2, HG⟩
      case round =>
        clear S2 HSK2 HG
        obtain ⟨bs, f, dk, rfl, hb1, hb2, hg2, hf2, HSK, S1, HG⟩ := hrel
        have m1 : IntKind.i64.wrap (2 * (bs : Int)) = 2 * (bs : Int) := by rw [IntKind.wrap_i64] <;> omega
        have m2 : IntKind.i64.wrap ((bs : Int) * 2) = (bs : Int) * 2 := by rw [IntKind.wrap_i64] <;> omega
        by_cases hbn : bs < N
        · have hbz : (bs : Int) < (N : Int) := by omega
          obtain ⟨f, rfl⟩ : ∃ k, f = k + 1 := ⟨f - 1, by omega⟩
          rw [stM_go _ _ _ _ _ hbn] at HG
          go_wp2_with fail
          obtain ⟨w3, hw3⟩ : ∃ x, x = wr := ⟨_, rfl⟩
          subst hw3
          go_loopg [7, 8] N (fun g3 va vb wr => ∃ (a fu : Nat) (dj : Array α), va = .int .i64 a ∧ vb = .int .i64 ((a : Int) + 2 * (bs : Int)) ∧ a ≤ N ∧ N - a ≤ g3 ∧ N - a < fu ∧ Hid (dj.size = N) ∧ Aside (SWK enc K w0 blk off dj wr) ∧ Hid (mgB (ltOf cf) N bs fu dj a = mgB (ltOf cf) N bs (N + 1) dk 0))
          case atStart => exact ⟨0, N + 1, dk, rfl, congrArg (Value.int .i64) (by omega), by omega, by omega, by omega, HSK, S1, Lib.hid rfl⟩
          case round =>
            clear S1
            obtain ⟨a, fu, dj, rfl, rfl, haN2, hg3, hf3, HSJ, S1, HM⟩ := hrel
            obtain ⟨fu, rfl⟩ : ∃ k, fu = k + 1 := ⟨fu - 1, by omega⟩
            have m3 : IntKind.i64.wrap ((a : Int) + (bs : Int)) = (a : Int) + (bs : Int) := by rw [IntKind.wrap_i64] <;> omega
            by_cases hc : a + 2 * bs ≤ N
            · have hcz : (a : Int) + 2 * (bs : Int) ≤ (N : Int) := by omega
              have m4 : IntKind.i64.wrap ((a : Int) + 2 * (bs : Int) + 2 * (bs : Int)) = (a : Int) + 2 * (bs : Int) + 2 * (bs : Int) := by rw [IntKind.wrap_i64] <;> omega
              rw [mgB_go _ _ _ _ _ _ hc] at HM
              have HI := HSYM.out dj a (a + bs) (a + 2 * bs) wr HSJ.out S1.out (by omega) (by omega) (by omega)
              simp only [Int.natCast_add, Int.natCast_mul, Int.cast_ofNat_Int] at HI
              have HI2 := Lib.hid HI
              have HSK2 : Hid ((symA (ltOf cf) N dj a (a + bs) (a + 2 * bs)).size = N) := Lib.hid (by rw [symA_size]; exact HSJ.out)
              clear HI
              go_wp2_with fail
              refine HI2.out.mono ?_
              rintro e w2 ⟨rfl, S2'⟩
              have S2 : Aside (SWK enc K w0 blk off (symA (ltOf cf) N dj a (a + bs) (a + 2 * bs)) w2) := S2'
              clear S2' HI2 S1
              go_wp2_with fail
              go_roundg (N - (a + 2 * bs))
              case measure => omega
              case rel => exact ⟨a + 2 * bs, fu, _, congrArg (Value.int .i64) (by omega), congrArg (Value.int .i64) (by omega), by omega, Nat.le_refl _, by omega, HSK2, S2, HM⟩
            · have hcz : ¬ ((a : Int) + 2 * (bs : Int) ≤ (N : Int)) := by omega
              by_cases hl : a + bs < N
              · have hlz : (a : Int) + (bs : Int) < (N : Int) := by omega
                rw [mgB_last _ _ _ _ _ _ hc hl] at HM
                have HI := HSYM.out dj a (a + bs) N wr HSJ.out S1.out (by omega) (by omega) (by omega)
                simp only [Int.natCast_add] at HI
                have HI2 := Lib.hid HI
                have HSK2 : Hid ((symA (ltOf cf) N dj a (a + bs) N).size = N) := Lib.hid (by rw [symA_size]; exact HSJ.out)
                clear HI
                go_wp2_with fail
                refine HI2.out.mono ?_
                rintro e w2 ⟨rfl, S2'⟩
                have S2 : Aside (SWK enc K w0 blk off (symA (ltOf cf) N dj a (a + bs) N) w2) := S2'
                clear S2' HI2 S1
                go_wp2_with fail
                go_roundg (2 * N + 40 - 2 * bs)
                case measure => omega
                case rel => exact ⟨2 * bs, f, _, congrArg (Value.int .i64) (by omega), by omega, by omega, by omega, by omega, HSK2, S2, Lib.hid (by rw [HG.out, ← HM.out])⟩
              · have hlz : ¬ ((a : Int) + (bs : Int) < (N : Int)) := by omega
                rw [mgB_end _ _ _ _ _ _ hc hl] at HM
                go_wp2_with fail
                go_roundg (2 * N + 40 - 2 * bs)
                case measure => omega
                case rel => exact ⟨2 * bs, f, dj, congrArg (Value.int .i64) (by omega), by omega, by omega, by omega, by omega, HSJ, S1, Lib.hid (by rw [HG.out, ← HM.out])⟩
        · have hbz : ¬ ((bs : Int) < (N : Int)) := by omega
          go_wp2_with fail
          go_end0
          refine ⟨rfl, ?_⟩
          rw [HG.out, stM_end _ _ _ _ _ hbn]
          exact S1.out

set_option maxHeartbeats 4000000 in
set_option maxRecDepth 1000000 in
theorem sortStable_any (K : Nat) (zE : ∀ w, (Go.sizeOf 33).run Try.prog w = .ok K w) (enc : α → List Value) (cf : α → α → Int) (g : Nat) (cb : Array Value) (blk off cap : Nat) (d0 : Array α) (w0 : World)
    (R : RowK enc K w0 blk off d0) (eg : ∀ args w, (callFunc g args).run Try.prog w = .ok (.enter g args) w) (hcmp : CmpLays Try.prog g cb enc K cf blk off d0.size w0) (hsz : d0.size < 1099511627776)
    (d : Array α) (w : World) (hs : d.size = d0.size) (S : SWK enc K w0 blk off d w) :
    Calls Try.prog 63 #[.slice (some ⟨blk, off, none⟩) d0.size cap, .func (.func g) #[] cb] w fun e w' => e = .returned (.tuple #[]) ∧ SWK enc K w0 blk off (stA (ltOf cf) d) w' := by
  have mixed : Try.prog.follows .mixedOrders = true := by kernel_rfl
  have HI := Lib.hid (stable_any K zE enc cf g cb blk off cap d0 w0 R eg hcmp hsz d w hs S)
  clear S hs hcmp R zE eg
  go_enter Try.func63, Try.ntmps63
  go_wp2_with fail
  refine HI.out.mono ?_
  rintro e w2 ⟨rfl, S2'⟩
  have S2 : Aside (SWK enc K w0 blk off (stA (ltOf cf) d) w2) := S2'
  clear S2' HI
  go_wp2_with fail
  go_end0
  exact ⟨rfl, S2.out⟩
end Go.Proofs.Ytabkgoandfpclaa
