
/- What the document's mul makes of numbers in words of 16 bits. -/

import Derived.Test.YtkiggfahcakdeaaShaTab1

import Derived.OwnWalk

import Derived.Laws.OwnMore

import Derived.Deep.CutBlock

import Derived.Deep.DeepCutAuto

namespace Go.Proofs.Ytkiggfahcakdeaa

set_option linter.unusedVariables false

set_option linter.unusedSimpArgs false

open Go.RowKit

theorem valU_set (l : List Nat) (j d : Nat) (h : j < l.length) : valU (l.set j d) + l[j] * 65536 ^ j = valU l + d * 65536 ^ j := by
  induction l generalizing j with
  | nil => simp at h
  | cons x l ih =>
    cases j with
    | zero => simp [valU]; omega
    | succ j =>
      have h' : j < l.length := by simpa using h
      have := ih j h'
      simp only [List.set_cons_succ, valU, List.getElem_cons_succ, Nat.pow_succ]
      have e1 : l[j] * (65536 ^ j * 65536) = 65536 * (l[j] * 65536 ^ j) := by rw [← Nat.mul_assoc, Nat.mul_comm]
      have e2 : d * (65536 ^ j * 65536) = 65536 * (d * 65536 ^ j) := by rw [← Nat.mul_assoc, Nat.mul_comm]
      rw [e1, e2]
      omega
theorem valU_snoc (a : List Nat) (i : Nat) (h : i < a.length) : valU (a.take (i + 1)) = valU (a.take i) + 65536 ^ i * a[i] := by
  rw [List.take_succ_eq_append_getElem h, valU_append, List.length_take, Nat.min_eq_left (by omega)]
  simp [valU]
/-- digits, and zeros from z on -/
def Digs (l : List Nat) (n z : Nat) : Prop := l.length = n ∧ (∀ j, (h : j < l.length) → l[j] < 65536) ∧ ∀ j, (h : j < l.length) → z ≤ j → l[j] = 0
theorem Digs.set {l : List Nat} {n z : Nat} (h : Digs l n z) (j d : Nat) (hj : j < z) (hd : d < 65536) : Digs (l.set j d) n z := by
  refine ⟨by rw [List.length_set]; exact h.1, fun i hi => ?_, fun i hi hz => ?_⟩
  · rw [List.getElem_set]
    split
    · exact hd
    · exact h.2.1 i (by rw [List.length_set] at hi; exact hi)
  · rw [List.getElem_set, if_neg (by omega)]
    exact h.2.2 i (by rw [List.length_set] at hi; exact hi) hz
theorem Digs.mono {l : List Nat} {n z z' : Nat} (h : Digs l n z) (hz : z ≤ z') : Digs l n z' := ⟨h.1, h.2.1, fun j hj hj' => h.2.2 j hj (by omega)⟩
/-- a step of the inner loop -/
theorem mul_step (l : List Nat) (i k ai bk c T : Nat) (b : List Nat) (hk : k < b.length) (hbk : b[k] = bk) (hj : i + k < l.length)
    (hI : valU l + c * 65536 ^ (i + k) = T + ai * (65536 ^ i * valU (b.take k))) :
    valU (l.set (i + k) ((l[i + k] + ai * bk + c) % 65536)) + ((l[i + k] + ai * bk + c) / 65536) * 65536 ^ (i + (k + 1)) = T + ai * (65536 ^ i * valU (b.take (k + 1))) := by
  have h1 := valU_set l (i + k) ((l[i + k] + ai * bk + c) % 65536) hj
  rw [valU_snoc b k hk, hbk]
  have e1 : 65536 ^ (i + (k + 1)) = 65536 * 65536 ^ (i + k) := by rw [← Nat.add_assoc, Nat.pow_succ, Nat.mul_comm]
  have e2 : ai * (65536 ^ i * (valU (b.take k) + 65536 ^ k * bk)) = ai * (65536 ^ i * valU (b.take k)) + ai * bk * 65536 ^ (i + k) := by
    rw [Nat.mul_add, Nat.mul_add, Nat.pow_add]
    congr 1
    rw [← Nat.mul_assoc (65536 ^ i), Nat.mul_comm (65536 ^ i * 65536 ^ k) bk, ← Nat.mul_assoc]
  rw [e1, e2]
  clear e1 e2
  generalize 65536 ^ (i + k) = P at *
  obtain ⟨x, hx⟩ : ∃ x, l[i + k] + ai * bk + c = x := ⟨_, rfl⟩
  rw [hx] at h1 ⊢
  have h3 : x / 65536 * (65536 * P) + x % 65536 * P = x * P := by
    rw [← Nat.mul_assoc, ← Nat.add_mul, Nat.div_add_mod']
  have h4 : x * P = l[i + k] * P + ai * bk * P + c * P := by
    rw [← hx, Nat.add_mul, Nat.add_mul]
  omega
theorem mul_end (a b : List Nat) (i : Nat) (h : i < a.length) : valU (a.take i) * valU b + a[i] * (65536 ^ i * valU (b.take b.length)) = valU (a.take (i + 1)) * valU b := by
  rw [valU_snoc a i h, List.take_length, Nat.add_mul]
  congr 1
  rw [← Nat.mul_assoc, Nat.mul_comm a[i]]
theorem mul_bound (x y z c : Nat) (hx : x < 65536) (hy : y < 65536) (hz : z < 65536) (hc : c < 65536) : (x + y * z + c) / 65536 < 65536 ∧ x + y * z + c < 18446744073709551616 ∧ y * z < 18446744073709551616 := by
  have : y * z ≤ 65535 * 65535 := Nat.mul_le_mul (by omega) (by omega)
  omega

theorem ownI_set {w : World} {base : Nat} {e : TypeId} {g n c m : Nat} {k : IntKind} {l : List Nat} (h : w.ownsRow base e 1 (.slice (some ⟨g, 0, none⟩) n c) m (cellsI k l)) (j : Nat) (hj : j < m) (d : Nat) :
    (w.setCell ⟨g, j, none⟩ (.int k (d : Int))).ownsRow base e 1 (.slice (some ⟨g, 0, none⟩) n c) m (cellsI k (l.set j d)) := by
  have hl := h.1
  have hset : cellsI k (l.set j d) = (cellsI k l).set j (.int k (d : Int)) := by simp [cellsI, List.map_set]
  rw [hset]
  refine ⟨by rw [List.length_set]; exact hl, ?_⟩
  rcases h.2 with ⟨h0, _⟩ | ⟨g', cap, cur, hv, hb, hh, hn, hc, hs, ht⟩
  · cases h0
  · cases hv
    refine .inr ⟨g, c, cur.setIfInBounds j _, rfl, hb, row_set hh j _, hn, hc, by simpa using hs, ?_⟩
    rw [Array.toList_setIfInBounds, List.take_set, ht]
theorem ownI_free {w : World} {base : Nat} {e : TypeId} {g n c m : Nat} {xs : List Value} (h : w.ownsRow base e 1 (.slice (some ⟨g, 0, none⟩) n c) m xs) (k : Nat) : w.frozen? ⟨g, k, none⟩ = false := by
  rcases h.2 with ⟨h0, _⟩ | ⟨g', cap, cur, hv, hb, hh, hn, hc, hs, ht⟩
  · cases h0
  · cases hv
    exact row_free hh k
theorem Rd.nat {w : World} {A : Option Addr} {l : List Nat} {k : IntKind} (h : Rd w A (cellsI k l)) (j : Nat) (hj : j < l.length) : ∃ b o, A = some ⟨b, o, none⟩ ∧ w.cell? ⟨b, o + j, none⟩ = some (.int k (l[j] : Int)) :=
  h j _ (by simp [cellsI, hj])

set_option maxRecDepth 100000 in
set_option maxHeartbeats 2000000 in
theorem mul_any (A B : Option Addr) (a b : List Nat) (na nb ca cb : Nat) (w : World) (hA : Rd w A (cellsI .u64 a)) (hB : Rd w B (cellsI .u64 b)) (hna : na = a.length) (hnb : nb = b.length) (hla : a.length ≤ 100) (hlb : b.length ≤ 100)
    (da : ∀ d ∈ a, d < 65536) (db : ∀ d ∈ b, d < 65536) :
    Calls Try.prog 58 #[.slice A na ca, .slice B nb cb] w fun e w' => ∃ v l, e = .returned v ∧ OwnI 75 .u64 w.heap.size w w' v l ∧ Digs l (a.length + b.length) (a.length + b.length) ∧ valU l = valU a * valU b := by
  obtain ⟨i0, hi, hz0, hz1, hz2⟩ := info_parts info_u64
  have HA := Lib.hid hA
  have HB := Lib.hid hB
  have Hna := Lib.hid hna
  have Hnb := Lib.hid hnb
  have DA := Lib.hid da
  have DB := Lib.hid db
  have hb2 : i0.bytes * (na + nb) ≤ 281474976710656 := by rw [hz2]; omega
  have hb3 : na + nb ≤ maxLen := by unfold maxLen; omega
  have hLL : ((na : Int) + (nb : Int)) = ((na + nb : Nat) : Int) := by omega
  have HLL := Lib.hid hLL
  have hna1 : na ≤ 100 := by omega
  have hnb1 : nb ≤ 100 := by omega
  clear hA hB hna hnb da db hLL
  go_enter Try.func58, Try.ntmps58
  go_wp2_with (refine wpList_make_full _ rfl _ _ 109 rfl w.heap.size 75 i0 (.int .u64 0) 1 Try.underlying109 hi hz0 hz1 .i64 .i64 ((na : Int) + (nb : Int)) ((na : Int) + (nb : Int)) (na + nb) rfl rfl HLL.out HLL.out hb2 hb3 (Nat.le_refl _) ?_; intro w1 ho1 hg1)
  have hst : w1.ownsRow w.heap.size 75 1 (.slice (some ⟨w.heap.size, 0, none⟩) (na + nb) (na + nb)) (na + nb) (cellsI .u64 (List.replicate (na + nb) 0)) := by
    have := ho1
    rw [show (Value.int .u64 0).cells = #[Value.int .u64 0] from rfl, Nat.mul_one, toList_madeCells_one] at this
    have e : cellsI .u64 (List.replicate (na + nb) 0) = List.replicate (na + nb) (Value.int .u64 0) := by simp [cellsI]
    rw [e]; exact this
  have hb1 : Below w.heap.size w w1 := ⟨hg1.os, hg1.tape, hg1.output, hg1.size, fun k hk => hg1.block k hk (by simp)⟩
  have hsz1 : w.heap.size < w1.heap.size := by
    obtain ⟨g, c, he, _, _, hge, hgl⟩ : ∃ g c, (Value.slice (some ⟨w.heap.size, 0, none⟩) (na + nb) (na + nb)) = .slice (some ⟨g, 0, none⟩) (na + nb) c ∧ True ∧ True ∧ w.heap.size ≤ g ∧ g < w1.heap.size := by
      rcases hst.2 with ⟨h0, _⟩ | ⟨g', cap, cur, hv, hb, hh, hn, hc, hs, ht⟩
      · cases h0
      · exact ⟨g', cap, hv, trivial, trivial, hb, (Array.getElem?_eq_some_iff.1 hh).1⟩
    cases he; exact hgl
  have HST := Lib.hid hst
  have HD0 : Hid (Digs (List.replicate (na + nb) 0) (na + nb) (0 + nb)) := Lib.hid ⟨by simp, fun j hj => by simp, fun j hj _ => by simp⟩
  have HV0 : Hid (valU (List.replicate (na + nb) 0) = valU (a.take 0) * valU b) := Lib.hid (by
    have : ∀ n, valU (List.replicate n 0) = 0 := fun n => by
      induction n with
      | zero => rfl
      | succ n ih => simp [List.replicate_succ, valU, ih]
    rw [this]; simp [valU])
  clear hst ho1 hg1 hi hz0 hz1 hz2 hb2 hb3 HLL
  go_wp2_with fail
  go_loopg [6] na (fun gk_ s6 wr => ∃ (i : Nat) (l : List Nat), i ≤ na ∧ gk_ = na - i ∧ s6 = .int .i64 (i : Int) ∧ Hid (wr.ownsRow w.heap.size 75 1 (.slice (some ⟨w.heap.size, 0, none⟩) (na + nb) (na + nb)) (na + nb) (cellsI .u64 l)) ∧ Hid (Digs l (na + nb) (i + nb)) ∧ Hid (valU l = valU (a.take i) * valU b) ∧ Below w.heap.size w wr)
  case atStart => exact ⟨0, _, by omega, by omega, rfl, HST, HD0, HV0, hb1⟩
  case round =>
    clear HST HD0 HV0 hb1 hsz1
    obtain ⟨i, l, hi, rfl, rfl, HO, HD, HV, hbel⟩ := hrel
    by_cases hlt : i < na
    · have hia : i < a.length := by have := Hna.out; omega
      obtain ⟨ba, oa, rfl, hca⟩ := HA.out.nat i hia
      obtain ⟨ai, hai⟩ : ∃ x, a[i] = x := ⟨_, rfl⟩
      have hai2 : ai < 65536 := by rw [← hai]; exact DA.out _ (List.getElem_mem hia)
      rw [hai] at hca
      have HAI := Lib.hid hai
      have HCA := Lib.hid hca
      have HV1 : Hid (valU l + 0 * 65536 ^ (i + 0) = valU (a.take i) * valU b + ai * (65536 ^ i * valU (b.take 0))) := Lib.hid (by rw [HV.out]; simp [valU])
      clear hai hca
      go_wp2_with fail
      go_loopg [7, 8] nb (fun gk_ s7 s8 wr => ∃ (k c : Nat) (l : List Nat), k ≤ nb ∧ gk_ = nb - k ∧ s8 = .int .i64 (k : Int) ∧ s7 = .int .u64 (c : Int) ∧ c < 65536 ∧ Hid (wr.ownsRow w.heap.size 75 1 (.slice (some ⟨w.heap.size, 0, none⟩) (na + nb) (na + nb)) (na + nb) (cellsI .u64 l)) ∧ Hid (Digs l (na + nb) (i + nb)) ∧ Hid (valU l + c * 65536 ^ (i + k) = valU (a.take i) * valU b + ai * (65536 ^ i * valU (b.take k))) ∧ Below w.heap.size w wr)
      case atStart => exact ⟨0, 0, l, by omega, by omega, rfl, rfl, by omega, HO, HD, HV1, hbel⟩
      case round =>
        clear HO HD HV HV1 hbel
        obtain ⟨k, c, l, hk, rfl, rfl, rfl, hc, HO, HD, HV, hbel⟩ := hrel
        by_cases hlt2 : k < nb
        · have hkb : k < b.length := by have := Hnb.out; omega
          obtain ⟨bb, ob, rfl, hcb⟩ := (HB.out.below hbel).nat k hkb
          obtain ⟨bk, hbk⟩ : ∃ x, b[k] = x := ⟨_, rfl⟩
          have hbk2 : bk < 65536 := by rw [← hbk]; exact DB.out _ (List.getElem_mem hkb)
          rw [hbk] at hcb
          have hlj : i + k < l.length := by have := HD.out.1; omega
          obtain ⟨_, _, he, hcl⟩ := (own_rd HO.out).nat (i + k) hlj
          cases he
          rw [Nat.zero_add] at hcl
          have hx2 := HD.out.2.1 (i + k) hlj
          have hms := mul_step l i k ai bk c _ b hkb hbk hlj HV.out
          obtain ⟨x, hx⟩ : ∃ x, l[i + k] = x := ⟨_, rfl⟩
          rw [hx] at hcl hx2 hms
          obtain ⟨q1, q2, q3⟩ := mul_bound x ai bk c hx2 hai2 hbk2 hc
          have hca : wr.cell? ⟨ba, oa + i, none⟩ = some (.int .u64 (ai : Int)) := (World.cell?_of_block (w := w) (w' := wr) (a := ⟨ba, oa + i, none⟩) (hbel.block ba (World.block_lt_of_cell? w _ HCA.out))).trans HCA.out
          have HMS := Lib.hid hms
          have hfz := ownI_free HO.out (i + k)
          have HBK := Lib.hid hbk
          have HXX := Lib.hid hx
          have hiI : (i : Int) < (na : Int) := by omega
          have hkI : (k : Int) < (nb : Int) := by omega
          have e1 : IntKind.i64.wrap ((i : Int) + (k : Int)) = (i : Int) + (k : Int) := wrap64_in _ (by omega) (by omega)
          have e2 : (0 : Int) ≤ (i : Int) + (k : Int) := by omega
          have e3 : (i : Int) + (k : Int) < (na : Int) + (nb : Int) := by omega
          have e4 : ((i : Int) + (k : Int)).toNat = i + k := by omega
          clear hms hbk hx
          go_wp2_with fail
          refine wp_region_sched (fun w' => w'.cell? ⟨w.heap.size, i + k, none⟩ = some (.int .u64 (x : Int)) ∧ w'.cell? ⟨ba, oa + i, none⟩ = some (.int .u64 (ai : Int)) ∧ w'.cell? ⟨bb, ob + k, none⟩ = some (.int .u64 (bk : Int))) ((List.range 19).map (fun i => (true, i))) (by kernel_rfl) (by kernel_rfl) rfl (by kernel_rfl) ⟨hcl, hca, hcb⟩ ?_
          simp only [List.range, List.range.loop, List.map]
          (repeat (first | (refine wpS_pass _ rfl (by rfl) ?_; simp only [Act.put, List.getElem_toArray, List.getElem_cons_zero, List.getElem_cons_succ, List.setIfInBounds_toArray, List.set_cons_zero, List.set_cons_succ]) | (refine wpS_take _ ?_ rfl (by rfl) ?_ ?_; rotate_left; (focus (intro w' hS'; (try dsimp only at hS'); (repeat (have hS1 := hS'.1; replace hS' := hS'.2)); go_simp; (try with_reducible rfl); done)); simp only [Act.put, List.getElem_toArray, List.getElem_cons_zero, List.getElem_cons_succ, List.setIfInBounds_toArray, List.set_cons_zero, List.set_cons_succ])))
          have hX : IntKind.u64.wrap (IntKind.u64.wrap ((x : Int) + IntKind.u64.wrap ((ai : Int) * (bk : Int))) + (c : Int)) = ((x + ai * bk + c : Nat) : Int) := by
            have w1 : ∀ n : Nat, n < 18446744073709551616 → IntKind.u64.wrap (n : Int) = (n : Int) := fun n h => by simp [IntKind.wrap, IntKind.signed, IntKind.bits]; omega
            rw [← Int.natCast_mul, w1 _ q3, ← Int.natCast_add, w1 _ (by omega), ← Int.natCast_add, w1 _ q2]
          rw [hX]
          obtain ⟨X, hXX⟩ : ∃ X, x + ai * bk + c = X := ⟨_, rfl⟩
          have hms := HMS.out
          rw [hXX] at hms q1 ⊢
          have hset := ownI_set HO.out (i + k) (by have := HD.out.1; omega) (X % 65536)
          have HSET := Lib.hid hset
          have HDS := Lib.hid (HD.out.set (i + k) (X % 65536) (by omega) (by omega))
          have hg := grown_set (w := wr) w.heap.size (i + k) (.int .u64 ((X % 65536 : Nat) : Int))
          have HBS := Lib.hid (bel_grown hbel hbel.size hg (Nat.le_refl _))
          have HMS2 := Lib.hid hms
          have HM1 : Hid ((X : Int) % 65536 = ((X % 65536 : Nat) : Int)) := Lib.hid (by omega)
          have HM2 : Hid (Value.int .u64 ((X : Int) / 65536) = .int .u64 ((X / 65536 : Nat) : Int)) := Lib.hid (congrArg (Value.int .u64) (by omega))
          clear hX hXX hms q2 q3 hset hg HMS hca hcb hx2 HO HD HV
          refine wpS_done ?_
          go_wp2_with fail
          rw [HM1.out]
          go_roundg (nb - (k + 1))
          case measure => omega
          case rel => exact ⟨k + 1, X / 65536, _, by omega, rfl, by go_num, HM2.out, q1, HSET, HDS, HMS2, HBS.out.drew⟩
        · obtain rfl : k = nb := by omega
          have hend := HV.out
          rw [show k = b.length from Hnb.out, ← HAI.out, mul_end a b i hia, ← show k = b.length from Hnb.out] at hend
          have HE := Lib.hid hend
          clear hend HV
          go_wp2_with fail
          go_loopg [7, 10] (min c 1) (fun gk_ s7 s10 wr => ∃ (p d : Nat) (l : List Nat), gk_ = min d 1 ∧ s10 = .int .i64 (p : Int) ∧ s7 = .int .u64 (d : Int) ∧ d < 65536 ∧ p ≤ 300 ∧ (d = 0 ∨ p = i + k) ∧ Hid (wr.ownsRow w.heap.size 75 1 (.slice (some ⟨w.heap.size, 0, none⟩) (na + k) (na + k)) (na + k) (cellsI .u64 l)) ∧ Hid (Digs l (na + k) (i + 1 + k)) ∧ Hid (d = 0 ∨ Digs l (na + k) (i + k)) ∧ Hid (valU l + d * 65536 ^ (i + k) = valU (a.take (i + 1)) * valU b) ∧ Below w.heap.size w wr)
          case atStart => exact ⟨i + k, c, l, rfl, congrArg (Value.int .i64) (by omega), rfl, hc, by omega, .inr rfl, HO, Lib.hid (HD.out.mono (by omega)), Lib.hid (.inr HD.out), HE, hbel⟩
          case round =>
            clear HO HD HE hbel hc
            obtain ⟨p, d, l, rfl, rfl, rfl, hd, hp, hdp, HO, HD, HZ, HV, hbel⟩ := hrel
            by_cases hd0 : d = 0
            · subst hd0
              have hv : valU l = valU (a.take (i + 1)) * valU b := by have := HV.out; rw [Nat.zero_mul, Nat.add_zero] at this; exact this
              have HV2 := Lib.hid hv
              clear HV hv HZ
              go_wp2_with fail
              go_roundg (na - (i + 1))
              case measure => omega
              case rel => exact ⟨i + 1, l, by omega, rfl, by go_num, HO, HD, HV2, hbel⟩
            · obtain rfl : p = i + k := by omega
              have hdz : Digs l (na + k) (i + k) := by rcases HZ.out with h | h; exact absurd h hd0; exact h
              have hlj : i + k < l.length := by have := hdz.1; omega
              obtain ⟨_, _, he, hcl⟩ := (own_rd HO.out).nat (i + k) hlj
              cases he
              rw [Nat.zero_add, hdz.2.2 (i + k) hlj (Nat.le_refl _)] at hcl
              have hfz := ownI_free HO.out (i + k)
              have hdI : (0 : Int) < (d : Int) := by omega
              have e3 : ((i + k : Nat) : Int) < ((na + k : Nat) : Int) := by omega
              have hset := ownI_set HO.out (i + k) (by omega) d
              have HSET := Lib.hid hset
              have hg := grown_set (w := wr) w.heap.size (i + k) (.int .u64 ((d : Nat) : Int))
              have HBS := Lib.hid (bel_grown hbel hbel.size hg (Nat.le_refl _))
              have HDS := Lib.hid ((hdz.mono (show i + k ≤ i + 1 + k by omega)).set (i + k) d (by omega) hd)
              have hvs := valU_set l (i + k) d hlj
              rw [hdz.2.2 (i + k) hlj (Nat.le_refl _), Nat.zero_mul, Nat.add_zero] at hvs
              have HVS : Hid (valU (l.set (i + k) d) + 0 * 65536 ^ (i + k) = valU (a.take (i + 1)) * valU b) := Lib.hid (by rw [Nat.zero_mul, Nat.add_zero, hvs]; exact HV.out)
              have HM1 : Hid ((d : Int) % 65536 = (d : Int)) := Lib.hid (by omega)
              have HM2 : Hid (Value.int .u64 ((d : Int) / 65536) = .int .u64 ((0 : Nat) : Int)) := Lib.hid (congrArg (Value.int .u64) (by omega))
              clear hset hg hvs hdz HZ HV HO HD hdp
              go_wp2_with fail
              rw [HM1.out]
              go_roundg 0
              case measure => omega
              case rel => exact ⟨i + k + 1, 0, _, rfl, by go_num, HM2.out, by omega, by omega, .inl rfl, HSET, HDS, Lib.hid (.inl rfl), HVS, HBS.out⟩
    · obtain rfl : i = na := by omega
      have hsz : w.heap.size ≤ wr.heap.size := hbel.size
      have hlen := HD.out.1
      have hia2 : i = a.length := Hna.out
      have hv : valU l = valU a * valU b := by rw [HV.out, hia2, List.take_length]
      have HV2 := Lib.hid hv
      have HLEN := Lib.hid hlen
      clear hv hia2 hlen
      go_wp2_with fail
      go_ret
      refine ⟨_, l, rfl, ⟨by rw [HLEN.out]; exact HO.out, hbel, hsz⟩, ?_, HV2.out⟩
      rw [← Hna.out, ← Hnb.out]
      exact HD.out
end Go.Proofs.Ytkiggfahcakdeaa
