
/- Names: what strings.ContainsAny says of every text; the program's and the document's. -/

import Derived.Test.YtabkgoandfpclaaNameM

import Derived.Test.YtabkgoandfpclaaStamp1

import Derived.Test.YtabkgoandfpclaaExec

import Derived.Lib.Bytealg

import Derived.Lib.AsciiSet

import Derived.Lib.IndexBytes

import Derived.Lib.Strings

import Derived.Laws.Strings3

import Derived.Laws.ResultCell

import Derived.Deep.WholeRow

import Derived.WalkMore

namespace Go.Proofs.Ytabkgoandfpclaa

set_option linter.unusedVariables false

set_option linter.unusedSimpArgs false

open Go.RowKit

section

variable {P : Program}

theorem next_at (w : World) (g : Nat) (s : ByteArray) (pos : Nat) (hg : w.heap[g]? = some (.stringIter s pos)) (h : pos < s.size) :
    ∃ w', (∀ ty, (Instr.next (.pointer (some ⟨g, 0, none⟩)) true ty).run P w = .ok (.tuple #[.bool true, .int .i64 pos, .int .i32 ((Utf8.decode s pos).1 : Int)]) w') ∧ w'.heap[g]? = some (.stringIter s (pos + (Utf8.decode s pos).2)) ∧ w.grownBy w' (some g) := by
  have hl := (Array.getElem?_eq_some_iff.1 hg).1
  refine ⟨{ w with heap := w.heap.setIfInBounds g (.stringIter s (pos + (Utf8.decode s pos).2)) }, ?_, ?_, ⟨rfl, rfl, rfl, by simp, fun k _ hk => ?_⟩⟩
  · intro ty
    simp only [Instr.next, getObj, setObj, Sem.run_bind, Sem.run, hg, Result.andThen, h, if_true]
    simp [goInt, hg]
  · simp [hl]
  · have : g ≠ k := fun e => hk (by rw [e])
    simp [this]
theorem next_stop (w : World) (g : Nat) (s : ByteArray) (pos : Nat) (ty : TypeId) (hg : w.heap[g]? = some (.stringIter s pos)) (h : ¬ pos < s.size) :
    (Instr.next (.pointer (some ⟨g, 0, none⟩)) true ty).run P w = .ok (.tuple #[.bool false]) w := by
  simp [Instr.next, getObj, Sem.run, hg, h]
end

set_option maxRecDepth 100000 in
theorem sIndexByte_any (s : ByteArray) (c : UInt8) (w : World) :
    Calls Try.prog 80 #[.string s, .int .u8 (c.toNat : Int)] w fun e w' => w = w' ∧ e = .returned (.int .i64 (Lib.indexByte s.data.toList c)) := by
  have hc : ((c.toNat : Int)).toNat.toUInt8 = c := by simp
  have hsl : Calls Try.prog 85 #[.string s, .int .u8 (c.toNat : Int)] w fun e w' => w = w' ∧ e = .returned (.int .i64 (Lib.indexByte s.data.toList c)) := by
    go_enter Try.func85, Try.ntmps85
    go_wp2
    rw [run_callFunc_extern Try.func87 (by kernel_rfl) (by kernel_rfl) (by kernel_rfl) (e := Extern.BytealgIndexByte.indexByte) (by kernel_rfl), Lib.run_indexByteString, hc]
    simp only [Result.andThen]
    rw [Oper.upon_value]
    go_wp2
    go_ret
    exact ⟨rfl, rfl⟩
  go_enter Try.func80, Try.ntmps80
  go_wp2_with fail
  refine hsl.mono ?_
  rintro e w' ⟨rfl, rfl⟩
  go_wp2
  go_ret
  exact ⟨rfl, rfl⟩

def csN : List UInt8 := [0, 47, 10]
def csB : ByteArray := ⟨#[0, 47, 10]⟩

theorem validRune_any (r : Int) (h0 : 128 ≤ r) (h1 : r ≤ 1114111) (w : World) :
    Calls Try.prog 81 #[.int .i32 r] w fun e w' => w = w' ∧ (e = .returned (.bool false) ∨ e = .returned (.bool true)) := by
  go_enter Try.func81, Try.ntmps81
  go_wp2
  all_goals
    go_ret
    first | exact ⟨rfl, .inl rfl⟩ | exact ⟨rfl, .inr rfl⟩

theorem ib_high (c : UInt8) (h : 128 ≤ c.toNat) : ∀ l : List UInt8, (∀ x ∈ l, x.toNat < 128) → Lib.indexByte l c = -1
  | [], _ => rfl
  | b :: l, hl => by
    have hb := hl b (by simp)
    have ih := ib_high c h l (fun x hx => hl x (by simp [hx]))
    have : (b == c) = false := by
      rw [beq_eq_false_iff_ne]
      intro e
      subst e
      omega
    unfold Lib.indexByte
    rw [ih, this]
    rfl

set_option maxRecDepth 100000 in
set_option maxHeartbeats 2000000 in
theorem indexRune_any (r : Nat) (hr : r ≤ 1114111) (w : World) :
    Calls Try.prog 74 #[.string ⟨#[0, 47, 10]⟩, .int .i32 (r : Int)] w fun e w' => (∃ n : Int, e = .returned (.int .i64 n) ∧ decide (0 ≤ n) = (decide (r < 128) && csN.contains (UInt8.ofNat r))) ∧ Below w.heap.size w w' := by
  by_cases h128 : r < 128
  · obtain ⟨c, hc⟩ : ∃ c, UInt8.ofNat r = c := ⟨_, rfl⟩
    obtain rfl : r = c.toNat := by rw [← hc, UInt8.toNat_ofNat']; omega
    clear hc
    have hcon := Lib.contains_iff_indexByte csN c
    have h128' : (c.toNat : Int) < 128 := by omega
    have h0 : (0 : Int) ≤ (c.toNat : Int) := by omega
    have hwr : IntKind.u8.wrap (c.toNat : Int) = (c.toNat : Int) := by
      have := UInt8.toNat_lt c
      show ((c.toNat : Int)) % 256 = _
      omega
    go_enter Try.func74, Try.ntmps74
    go_wp2_with fail
    refine (sIndexByte_any _ c _).mono ?_
    rintro e w' ⟨rfl, rfl⟩
    go_wp2_with fail
    go_ret
    refine ⟨⟨_, rfl, ?_⟩, Below.refl _ _⟩
    rw [decide_eq_true h128, UInt8.ofNat_toNat, Bool.true_and, hcon]
    rfl
  · have h128' : ¬ (r : Int) < 128 := by omega
    have h0 : (0 : Int) ≤ (r : Int) := by omega
    have hfin : decide ((0 : Int) ≤ -1) = (decide (r < 128) && csN.contains (UInt8.ofNat r)) := by
      rw [decide_eq_false h128]; rfl
    by_cases h65 : r = 65533
    · have HFIN := Lib.hid hfin
      clear hfin h128 h128' h0 hr
      subst h65
      have h128 : ¬ ((65533 : Nat) : Int) < 128 := by decide
      have hst : (w.iter ⟨#[0, 47, 10]⟩ 0).heap[w.heap.size]? = some (.stringIter ⟨#[0, 47, 10]⟩ 0) := World.iter_heap w _ 0
      have hbel : Below w.heap.size w (w.iter ⟨#[0, 47, 10]⟩ 0) := (Below.refl _ _).alloc (Nat.le_refl _) _
      go_enter Try.func74, Try.ntmps74
      go_wp2_with fail
      go_loopg [5, 6] 3 (fun gk_ a b wr => ∃ k : Nat, k ≤ 3 ∧ gk_ = 3 - k ∧ wr.heap[w.heap.size]? = some (.stringIter ⟨#[0, 47, 10]⟩ k) ∧ Below w.heap.size w wr)
      case atStart => exact ⟨0, by omega, by omega, hst, hbel⟩
      case round =>
        clear hst hbel
        obtain ⟨k, hk, rfl, hit, hbel⟩ := hrel
        rcases (by omega : k = 0 ∨ k = 1 ∨ k = 2 ∨ k = 3) with rfl | rfl | rfl | rfl
        · obtain ⟨w1, hnx, hit1, hg1⟩ := next_at (P := Try.prog) wr w.heap.size ⟨#[0, 47, 10]⟩ 0 hit (by decide)
          have hd : Utf8.decode ⟨#[0, 47, 10]⟩ 0 = (0, 1) := by decide
          rw [hd] at hnx hit1
          dsimp only at hnx hit1
          have hb1 := bel_grown hbel hbel.size hg1 (Nat.le_refl _)
          clear hit hg1 hd
          go_wp2_with fail
          go_roundg 2
          case measure => omega
          case rel => exact ⟨1, by omega, by omega, hit1, hb1⟩
        · obtain ⟨w1, hnx, hit1, hg1⟩ := next_at (P := Try.prog) wr w.heap.size ⟨#[0, 47, 10]⟩ 1 hit (by decide)
          have hd : Utf8.decode ⟨#[0, 47, 10]⟩ 1 = (47, 1) := by decide
          rw [hd] at hnx hit1
          dsimp only at hnx hit1
          have hb1 := bel_grown hbel hbel.size hg1 (Nat.le_refl _)
          clear hit hg1 hd
          go_wp2_with fail
          go_roundg 1
          case measure => omega
          case rel => exact ⟨2, by omega, by omega, hit1, hb1⟩
        · obtain ⟨w1, hnx, hit1, hg1⟩ := next_at (P := Try.prog) wr w.heap.size ⟨#[0, 47, 10]⟩ 2 hit (by decide)
          have hd : Utf8.decode ⟨#[0, 47, 10]⟩ 2 = (10, 1) := by decide
          rw [hd] at hnx hit1
          dsimp only at hnx hit1
          have hb1 := bel_grown hbel hbel.size hg1 (Nat.le_refl _)
          clear hit hg1 hd
          go_wp2_with fail
          go_roundg 0
          case measure => omega
          case rel => exact ⟨3, by omega, by omega, hit1, hb1⟩
        · have hnx := fun ty => next_stop (P := Try.prog) wr w.heap.size ⟨#[0, 47, 10]⟩ 3 ty hit (by decide)
          go_wp2_with fail
          go_ret
          exact ⟨⟨_, rfl, HFIN.out⟩, hbel⟩
    · have h65' : ((r : Int) == 65533) = false := by rw [beq_eq_false_iff_ne]; omega
      obtain ⟨rs, hrs⟩ : ∃ rs, Utf8.encode (r : Int) = rs := ⟨_, rfl⟩
      obtain ⟨hr1, hr2, hr3⟩ := encode_high r (by omega) rs hrs
      go_enter Try.func74, Try.ntmps74
      go_wp2_with fail
      refine (validRune_any r (by omega) (by omega) w).mono ?_
      rintro e w' ⟨rfl, rfl | rfl⟩
      · go_wp2_with fail
        go_ret
        exact ⟨⟨_, rfl, hfin⟩, Below.refl _ _⟩
      · obtain ⟨m, hm⟩ : ∃ m, rs.size = m + 1 := ⟨rs.size - 1, by omega⟩
        obtain ⟨c, hc⟩ : ∃ c, rs.get! m = c := ⟨_, rfl⟩
        rw [hm] at hr1 hr2 hr3
        rw [Nat.add_sub_cancel, hc] at hr3
        have HRS := Lib.hid hrs
        have HM := Lib.hid hm
        have HC := Lib.hid hc
        clear hrs hm hc
        go_wp2_with fail
        go_step3
        go_wp2_with fail
        rw [HRS.out]
        have hm' : (rs.size : Int) = (m : Int) + 1 := by have := HM.out; omega
        have hm3 : m ≤ 3 := by omega
        have hm1 : 1 ≤ m := by omega
        have hgm : ∀ h : m < rs.size, rs[m]'h = c := fun h => by
          rw [← HC.out]
          simp [ByteArray.get!, getElem!_pos, h]
          rfl
        have HGM := Lib.hid hgm
        have HIB := Lib.hid (ib_high c hr3)
        have HFIN := Lib.hid hfin
        clear hgm hfin hr1 hr2 h65 h65' h128 h0 hr h128'
        rcases (by omega : m = 1 ∨ m = 2 ∨ m = 3) with rfl | rfl | rfl
        · have hl1 : 1 < rs.size := by have := HM.out; omega
          have hl1' : (1 : Int) < (rs.size : Int) := by omega
          have hg1 := HGM.out hl1
          have hwm : wrap64 ((rs.size : Int) - 1) = 1 := by rw [show (rs.size : Int) - 1 = 1 by omega]; first | rfl | (unfold wrap64; omega) | simp [wrap64] | go_num
          simp only [hwm]
          clear hm' hm3 hm1 hwm
          go_loopg [9, 10] 1 (fun gk_ i f wr => gk_ = 1 ∧ i = .int .i64 1 ∧ f = .int .i64 0 ∧ wr = w)
          case atStart => exact ⟨rfl, rfl, rfl, rfl⟩
          case round =>
            obtain ⟨rfl, rfl, rfl, rfl⟩ := hrel
            have hne : ((47 : Int) != (c.toNat : Int)) = true := by rw [bne_iff_ne]; omega
            have hx0 := fun w => index_str (P := Try.prog) (t := 9) (s := ⟨#[0, 47, 10]⟩) (c := 47) 1 .i64 w Try.underlying9 rfl
            have hx1 := fun w => index_str (P := Try.prog) (t := 9) (s := rs) 1 .i64 w Try.underlying9 (getElem?_pos rs 1 hl1)
            rw [hg1] at hx1
            go_wp2_with fail
            go_step3
            go_wp2_with fail
            refine wp_region_sched (fun w' => True) [(true, 0), (true, 1), (true, 2), (true, 3), (true, 4), (true, 5), (true, 6)] (by kernel_rfl) (by kernel_rfl) rfl (by kernel_rfl) trivial ?_
            (first | (refine wpS_pass _ rfl (by rfl) ?_; simp only [Act.put, List.getElem_toArray, List.getElem_cons_zero, List.getElem_cons_succ, List.setIfInBounds_toArray, List.set_cons_zero, List.set_cons_succ]) | (refine wpS_take _ ?_ rfl (by rfl) ?_ ?_; rotate_left; (focus (intro w' hS'; (try dsimp only at hS'); (repeat (have hS1 := hS'.1; replace hS' := hS'.2)); go_simp; (try with_reducible rfl); done)); simp only [Act.put, List.getElem_toArray, List.getElem_cons_zero, List.getElem_cons_succ, List.setIfInBounds_toArray, List.set_cons_zero, List.set_cons_succ]))
            (first | (refine wpS_pass _ rfl (by rfl) ?_; simp only [Act.put, List.getElem_toArray, List.getElem_cons_zero, List.getElem_cons_succ, List.setIfInBounds_toArray, List.set_cons_zero, List.set_cons_succ]) | (refine wpS_take _ ?_ rfl (by rfl) ?_ ?_; rotate_left; (focus (intro w' hS'; (try dsimp only at hS'); (repeat (have hS1 := hS'.1; replace hS' := hS'.2)); go_simp; (try with_reducible rfl); done)); simp only [Act.put, List.getElem_toArray, List.getElem_cons_zero, List.getElem_cons_succ, List.setIfInBounds_toArray, List.set_cons_zero, List.set_cons_succ]))
            refine wpS_take _ _ rfl (by rfl) (fun w' hS' => exec_index _ _ _ rfl _ _ _ rfl rfl (hx0 w')) ?_
            simp only [Act.put, List.getElem_toArray, List.getElem_cons_zero, List.getElem_cons_succ, List.setIfInBounds_toArray, List.set_cons_zero, List.set_cons_succ]
            (first | (refine wpS_pass _ rfl (by rfl) ?_; simp only [Act.put, List.getElem_toArray, List.getElem_cons_zero, List.getElem_cons_succ, List.setIfInBounds_toArray, List.set_cons_zero, List.set_cons_succ]) | (refine wpS_take _ ?_ rfl (by rfl) ?_ ?_; rotate_left; (focus (intro w' hS'; (try dsimp only at hS'); (repeat (have hS1 := hS'.1; replace hS' := hS'.2)); go_simp; (try with_reducible rfl); done)); simp only [Act.put, List.getElem_toArray, List.getElem_cons_zero, List.getElem_cons_succ, List.setIfInBounds_toArray, List.set_cons_zero, List.set_cons_succ]))
            (first | (refine wpS_pass _ rfl (by rfl) ?_; simp only [Act.put, List.getElem_toArray, List.getElem_cons_zero, List.getElem_cons_succ, List.setIfInBounds_toArray, List.set_cons_zero, List.set_cons_succ]) | (refine wpS_take _ ?_ rfl (by rfl) ?_ ?_; rotate_left; (focus (intro w' hS'; (try dsimp only at hS'); (repeat (have hS1 := hS'.1; replace hS' := hS'.2)); go_simp; (try with_reducible rfl); done)); simp only [Act.put, List.getElem_toArray, List.getElem_cons_zero, List.getElem_cons_succ, List.setIfInBounds_toArray, List.set_cons_zero, List.set_cons_succ]))
            refine wpS_take _ _ rfl (by rfl) (fun w' hS' => exec_index _ _ _ rfl _ _ _ rfl rfl (hx1 w')) ?_
            simp only [Act.put, List.getElem_toArray, List.getElem_cons_zero, List.getElem_cons_succ, List.setIfInBounds_toArray, List.set_cons_zero, List.set_cons_succ]
            (repeat (first | (refine wpS_pass _ rfl (by rfl) ?_; simp only [Act.put, List.getElem_toArray, List.getElem_cons_zero, List.getElem_cons_succ, List.setIfInBounds_toArray, List.set_cons_zero, List.set_cons_succ]) | (refine wpS_take _ ?_ rfl (by rfl) ?_ ?_; rotate_left; (focus (intro w' hS'; (try dsimp only at hS'); (repeat (have hS1 := hS'.1; replace hS' := hS'.2)); go_simp; (try with_reducible rfl); done)); simp only [Act.put, List.getElem_toArray, List.getElem_cons_zero, List.getElem_cons_succ, List.setIfInBounds_toArray, List.set_cons_zero, List.set_cons_succ])))
            refine wpS_done ?_
            go_wp2_with fail
            refine wp_region_sched (fun w' => True) [(true, 0), (true, 1), (true, 2), (true, 3), (true, 4), (true, 5), (true, 6), (false, 7), (true, 8)] (by kernel_rfl) (by kernel_rfl) rfl (by kernel_rfl) trivial ?_
            have ha := fun w => bin_add (P := Try.prog) (t := 3) 1 1 2 w (by omega) (by omega) (by omega)
            (first | (refine wpS_pass _ rfl (by rfl) ?_; simp only [Act.put, List.getElem_toArray, List.getElem_cons_zero, List.getElem_cons_succ, List.setIfInBounds_toArray, List.set_cons_zero, List.set_cons_succ]) | (refine wpS_take _ ?_ rfl (by rfl) ?_ ?_; rotate_left; (focus (intro w' hS'; (try dsimp only at hS'); (repeat (have hS1 := hS'.1; replace hS' := hS'.2)); go_simp; (try with_reducible rfl); done)); simp only [Act.put, List.getElem_toArray, List.getElem_cons_zero, List.getElem_cons_succ, List.setIfInBounds_toArray, List.set_cons_zero, List.set_cons_succ]))
            (first | (refine wpS_pass _ rfl (by rfl) ?_; simp only [Act.put, List.getElem_toArray, List.getElem_cons_zero, List.getElem_cons_succ, List.setIfInBounds_toArray, List.set_cons_zero, List.set_cons_succ]) | (refine wpS_take _ ?_ rfl (by rfl) ?_ ?_; rotate_left; (focus (intro w' hS'; (try dsimp only at hS'); (repeat (have hS1 := hS'.1; replace hS' := hS'.2)); go_simp; (try with_reducible rfl); done)); simp only [Act.put, List.getElem_toArray, List.getElem_cons_zero, List.getElem_cons_succ, List.setIfInBounds_toArray, List.set_cons_zero, List.set_cons_succ]))
            refine wpS_take _ _ rfl (by rfl) (fun w' hS' => exec_bin _ _ _ _ _ rfl _ _ _ rfl rfl rfl (ha w')) ?_
            simp only [Act.put, List.getElem_toArray, List.getElem_cons_zero, List.getElem_cons_succ, List.setIfInBounds_toArray, List.set_cons_zero, List.set_cons_succ]
            clear ha
            (first | (refine wpS_pass _ rfl (by rfl) ?_; simp only [Act.put, List.getElem_toArray, List.getElem_cons_zero, List.getElem_cons_succ, List.setIfInBounds_toArray, List.set_cons_zero, List.set_cons_succ]) | (refine wpS_take _ ?_ rfl (by rfl) ?_ ?_; rotate_left; (focus (intro w' hS'; (try dsimp only at hS'); (repeat (have hS1 := hS'.1; replace hS' := hS'.2)); go_simp; (try with_reducible rfl); done)); simp only [Act.put, List.getElem_toArray, List.getElem_cons_zero, List.getElem_cons_succ, List.setIfInBounds_toArray, List.set_cons_zero, List.set_cons_succ]))
            (first | (refine wpS_pass _ rfl (by rfl) ?_; simp only [Act.put, List.getElem_toArray, List.getElem_cons_zero, List.getElem_cons_succ, List.setIfInBounds_toArray, List.set_cons_zero, List.set_cons_succ]) | (refine wpS_take _ ?_ rfl (by rfl) ?_ ?_; rotate_left; (focus (intro w' hS'; (try dsimp only at hS'); (repeat (have hS1 := hS'.1; replace hS' := hS'.2)); go_simp; (try with_reducible rfl); done)); simp only [Act.put, List.getElem_toArray, List.getElem_cons_zero, List.getElem_cons_succ, List.setIfInBounds_toArray, List.set_cons_zero, List.set_cons_succ]))
            (first | (refine wpS_pass _ rfl (by rfl) ?_; simp only [Act.put, List.getElem_toArray, List.getElem_cons_zero, List.getElem_cons_succ, List.setIfInBounds_toArray, List.set_cons_zero, List.set_cons_succ]) | (refine wpS_take _ ?_ rfl (by rfl) ?_ ?_; rotate_left; (focus (intro w' hS'; (try dsimp only at hS'); (repeat (have hS1 := hS'.1; replace hS' := hS'.2)); go_simp; (try with_reducible rfl); done)); simp only [Act.put, List.getElem_toArray, List.getElem_cons_zero, List.getElem_cons_succ, List.setIfInBounds_toArray, List.set_cons_zero, List.set_cons_succ]))
            refine wpS_take _ _ rfl (by rfl) (fun w' hS' => exec_index _ _ _ rfl _ _ _ rfl rfl (hx1 w')) ?_
            simp only [Act.put, List.getElem_toArray, List.getElem_cons_zero, List.getElem_cons_succ, List.setIfInBounds_toArray, List.set_cons_zero, List.set_cons_succ]
            refine wpS_do _ rfl (by rfl) (fun K hK => ?_)
            go_simp
            refine (sIndexByte_any _ c _).mono ?_
            rintro e w' ⟨rfl, rfl⟩
            rw [HIB.out _ (by decide)]
            refine hK.out _ _ trivial (fun hS => ?_)
            clear hK hS
            (repeat (first | (refine wpS_pass _ rfl (by rfl) ?_; simp only [Act.put, List.getElem_toArray, List.getElem_cons_zero, List.getElem_cons_succ, List.setIfInBounds_toArray, List.set_cons_zero, List.set_cons_succ]) | (refine wpS_take _ ?_ rfl (by rfl) ?_ ?_; rotate_left; (focus (intro w' hS'; (try dsimp only at hS'); (repeat (have hS1 := hS'.1; replace hS' := hS'.2)); go_simp; (try with_reducible rfl); done)); simp only [Act.put, List.getElem_toArray, List.getElem_cons_zero, List.getElem_cons_succ, List.setIfInBounds_toArray, List.set_cons_zero, List.set_cons_succ])))
            refine wpS_done ?_
            clear hx0 hx1
            go_wp2_with fail
            repeat (first | rw [Exit.noGoto_ret] | (simp only [Exit.inBlock, Exit.then]))
            go_ret
            exact ⟨⟨_, rfl, HFIN.out⟩, (Below.refl _ _).drew.drew⟩
        · have hl1 : 2 < rs.size := by have := HM.out; omega
          have hl1' : (2 : Int) < (rs.size : Int) := by omega
          have hg1 := HGM.out hl1
          have hwm : wrap64 ((rs.size : Int) - 1) = 2 := by rw [show (rs.size : Int) - 1 = 2 by omega]; first | rfl | (unfold wrap64; omega) | simp [wrap64] | go_num
          simp only [hwm]
          clear hm' hm3 hm1 hwm
          go_loopg [9, 10] 1 (fun gk_ i f wr => gk_ = 1 ∧ i = .int .i64 2 ∧ f = .int .i64 0 ∧ wr = w)
          case atStart => exact ⟨rfl, rfl, rfl, rfl⟩
          case round =>
            obtain ⟨rfl, rfl, rfl, rfl⟩ := hrel
            have hne : ((10 : Int) != (c.toNat : Int)) = true := by rw [bne_iff_ne]; omega
            have hx0 := fun w => index_str (P := Try.prog) (t := 9) (s := ⟨#[0, 47, 10]⟩) (c := 10) 2 .i64 w Try.underlying9 rfl
            have hx1 := fun w => index_str (P := Try.prog) (t := 9) (s := rs) 2 .i64 w Try.underlying9 (getElem?_pos rs 2 hl1)
            rw [hg1] at hx1
            go_wp2_with fail
            go_step3
            go_wp2_with fail
            refine wp_region_sched (fun w' => True) [(true, 0), (true, 1), (true, 2), (true, 3), (true, 4), (true, 5), (true, 6)] (by kernel_rfl) (by kernel_rfl) rfl (by kernel_rfl) trivial ?_
            (first | (refine wpS_pass _ rfl (by rfl) ?_; simp only [Act.put, List.getElem_toArray, List.getElem_cons_zero, List.getElem_cons_succ, List.setIfInBounds_toArray, List.set_cons_zero, List.set_cons_succ]) | (refine wpS_take _ ?_ rfl (by rfl) ?_ ?_; rotate_left; (focus (intro w' hS'; (try dsimp only at hS'); (repeat (have hS1 := hS'.1; replace hS' := hS'.2)); go_simp; (try with_reducible rfl); done)); simp only [Act.put, List.getElem_toArray, List.getElem_cons_zero, List.getElem_cons_succ, List.setIfInBounds_toArray, List.set_cons_zero, List.set_cons_succ]))
            (first | (refine wpS_pass _ rfl (by rfl) ?_; simp only [Act.put, List.getElem_toArray, List.getElem_cons_zero, List.getElem_cons_succ, List.setIfInBounds_toArray, List.set_cons_zero, List.set_cons_succ]) | (refine wpS_take _ ?_ rfl (by rfl) ?_ ?_; rotate_left; (focus (intro w' hS'; (try dsimp only at hS'); (repeat (have hS1 := hS'.1; replace hS' := hS'.2)); go_simp; (try with_reducible rfl); done)); simp only [Act.put, List.getElem_toArray, List.getElem_cons_zero, List.getElem_cons_succ, List.setIfInBounds_toArray, List.set_cons_zero, List.set_cons_succ]))
            refine wpS_take _ _ rfl (by rfl) (fun w' hS' => exec_index _ _ _ rfl _ _ _ rfl rfl (hx0 w')) ?_
            simp only [Act.put, List.getElem_toArray, List.getElem_cons_zero, List.getElem_cons_succ, List.setIfInBounds_toArray, List.set_cons_zero, List.set_cons_succ]
            (first | (refine wpS_pass _ rfl (by rfl) ?_; simp only [Act.put, List.getElem_toArray, List.getElem_cons_zero, List.getElem_cons_succ, List.setIfInBounds_toArray, List.set_cons_zero, List.set_cons_succ]) | (refine wpS_take _ ?_ rfl (by rfl) ?_ ?_; rotate_left; (focus (intro w' hS'; (try dsimp only at hS'); (repeat (have hS1 := hS'.1; replace hS' := hS'.2)); go_simp; (try with_reducible rfl); done)); simp only [Act.put, List.getElem_toArray, List.getElem_cons_zero, List.getElem_cons_succ, List.setIfInBounds_toArray, List.set_cons_zero, List.set_cons_succ]))
            (first | (refine wpS_pass _ rfl (by rfl) ?_; simp only [Act.put, List.getElem_toArray, List.getElem_cons_zero, List.getElem_cons_succ, List.setIfInBounds_toArray, List.set_cons_zero, List.set_cons_succ]) | (refine wpS_take _ ?_ rfl (by rfl) ?_ ?_; rotate_left; (focus (intro w' hS'; (try dsimp only at hS'); (repeat (have hS1 := hS'.1; replace hS' := hS'.2)); go_simp; (try with_reducible rfl); done)); simp only [Act.put, List.getElem_toArray, List.getElem_cons_zero, List.getElem_cons_succ, List.setIfInBounds_toArray, List.set_cons_zero, List.set_cons_succ]))
            refine wpS_take _ _ rfl (by rfl) (fun w' hS' => exec_index _ _ _ rfl _ _ _ rfl rfl (hx1 w')) ?_
            simp only [Act.put, List.getElem_toArray, List.getElem_cons_zero, List.getElem_cons_succ, List.setIfInBounds_toArray, List.set_cons_zero, List.set_cons_succ]
            (repeat (first | (refine wpS_pass _ rfl (by rfl) ?_; simp only [Act.put, List.getElem_toArray, List.getElem_cons_zero, List.getElem_cons_succ, List.setIfInBounds_toArray, List.set_cons_zero, List.set_cons_succ]) | (refine wpS_take _ ?_ rfl (by rfl) ?_ ?_; rotate_left; (focus (intro w' hS'; (try dsimp only at hS'); (repeat (have hS1 := hS'.1; replace hS' := hS'.2)); go_simp; (try with_reducible rfl); done)); simp only [Act.put, List.getElem_toArray, List.getElem_cons_zero, List.getElem_cons_succ, List.setIfInBounds_toArray, List.set_cons_zero, List.set_cons_succ])))
            refine wpS_done ?_
            go_wp2_with fail
            refine wp_region_sched (fun w' => True) [(true, 0), (true, 1), (true, 2), (true, 3), (true, 4), (true, 5), (true, 6), (false, 7), (true, 8)] (by kernel_rfl) (by kernel_rfl) rfl (by kernel_rfl) trivial ?_
            have ha := fun w => bin_add (P := Try.prog) (t := 3) 2 1 3 w (by omega) (by omega) (by omega)
            (first | (refine wpS_pass _ rfl (by rfl) ?_; simp only [Act.put, List.getElem_toArray, List.getElem_cons_zero, List.getElem_cons_succ, List.setIfInBounds_toArray, List.set_cons_zero, List.set_cons_succ]) | (refine wpS_take _ ?_ rfl (by rfl) ?_ ?_; rotate_left; (focus (intro w' hS'; (try dsimp only at hS'); (repeat (have hS1 := hS'.1; replace hS' := hS'.2)); go_simp; (try with_reducible rfl); done)); simp only [Act.put, List.getElem_toArray, List.getElem_cons_zero, List.getElem_cons_succ, List.setIfInBounds_toArray, List.set_cons_zero, List.set_cons_succ]))
            (first | (refine wpS_pass _ rfl (by rfl) ?_; simp only [Act.put, List.getElem_toArray, List.getElem_cons_zero, List.getElem_cons_succ, List.setIfInBounds_toArray, List.set_cons_zero, List.set_cons_succ]) | (refine wpS_take _ ?_ rfl (by rfl) ?_ ?_; rotate_left; (focus (intro w' hS'; (try dsimp only at hS'); (repeat (have hS1 := hS'.1; replace hS' := hS'.2)); go_simp; (try with_reducible rfl); done)); simp only [Act.put, List.getElem_toArray, List.getElem_cons_zero, List.getElem_cons_succ, List.setIfInBounds_toArray, List.set_cons_zero, List.set_cons_succ]))
            refine wpS_take _ _ rfl (by rfl) (fun w' hS' => exec_bin _ _ _ _ _ rfl _ _ _ rfl rfl rfl (ha w')) ?_
            simp only [Act.put, List.getElem_toArray, List.getElem_cons_zero, List.getElem_cons_succ, List.setIfInBounds_toArray, List.set_cons_zero, List.set_cons_succ]
            clear ha
            (first | (refine wpS_pass _ rfl (by rfl) ?_; simp only [Act.put, List.getElem_toArray, List.getElem_cons_zero, List.getElem_cons_succ, List.setIfInBounds_toArray, List.set_cons_zero, List.set_cons_succ]) | (refine wpS_take _ ?_ rfl (by rfl) ?_ ?_; rotate_left; (focus (intro w' hS'; (try dsimp only at hS'); (repeat (have hS1 := hS'.1; replace hS' := hS'.2)); go_simp; (try with_reducible rfl); done)); simp only [Act.put, List.getElem_toArray, List.getElem_cons_zero, List.getElem_cons_succ, List.setIfInBounds_toArray, List.set_cons_zero, List.set_cons_succ]))
            (first | (refine wpS_pass _ rfl (by rfl) ?_; simp only [Act.put, List.getElem_toArray, List.getElem_cons_zero, List.getElem_cons_succ, List.setIfInBounds_toArray, List.set_cons_zero, List.set_cons_succ]) | (refine wpS_take _ ?_ rfl (by rfl) ?_ ?_; rotate_left; (focus (intro w' hS'; (try dsimp only at hS'); (repeat (have hS1 := hS'.1; replace hS' := hS'.2)); go_simp; (try with_reducible rfl); done)); simp only [Act.put, List.getElem_toArray, List.getElem_cons_zero, List.getElem_cons_succ, List.setIfInBounds_toArray, List.set_cons_zero, List.set_cons_succ]))
            (first | (refine wpS_pass _ rfl (by rfl) ?_; simp only [Act.put, List.getElem_toArray, List.getElem_cons_zero, List.getElem_cons_succ, List.setIfInBounds_toArray, List.set_cons_zero, List.set_cons_succ]) | (refine wpS_take _ ?_ rfl (by rfl) ?_ ?_; rotate_left; (focus (intro w' hS'; (try dsimp only at hS'); (repeat (have hS1 := hS'.1; replace hS' := hS'.2)); go_simp; (try with_reducible rfl); done)); simp only [Act.put, List.getElem_toArray, List.getElem_cons_zero, List.getElem_cons_succ, List.setIfInBounds_toArray, List.set_cons_zero, List.set_cons_succ]))
            refine wpS_take _ _ rfl (by rfl) (fun w' hS' => exec_index _ _ _ rfl _ _ _ rfl rfl (hx1 w')) ?_
            simp only [Act.put, List.getElem_toArray, List.getElem_cons_zero, List.getElem_cons_succ, List.setIfInBounds_toArray, List.set_cons_zero, List.set_cons_succ]
            refine wpS_do _ rfl (by rfl) (fun K hK => ?_)
            go_simp
            refine (sIndexByte_any _ c _).mono ?_
            rintro e w' ⟨rfl, rfl⟩
            rw [HIB.out _ (by decide)]
            refine hK.out _ _ trivial (fun hS => ?_)
            clear hK hS
            (repeat (first | (refine wpS_pass _ rfl (by rfl) ?_; simp only [Act.put, List.getElem_toArray, List.getElem_cons_zero, List.getElem_cons_succ, List.setIfInBounds_toArray, List.set_cons_zero, List.set_cons_succ]) | (refine wpS_take _ ?_ rfl (by rfl) ?_ ?_; rotate_left; (focus (intro w' hS'; (try dsimp only at hS'); (repeat (have hS1 := hS'.1; replace hS' := hS'.2)); go_simp; (try with_reducible rfl); done)); simp only [Act.put, List.getElem_toArray, List.getElem_cons_zero, List.getElem_cons_succ, List.setIfInBounds_toArray, List.set_cons_zero, List.set_cons_succ])))
            refine wpS_done ?_
            clear hx0 hx1
            go_wp2_with fail
            repeat (first | rw [Exit.noGoto_ret] | (simp only [Exit.inBlock, Exit.then]))
            go_ret
            exact ⟨⟨_, rfl, HFIN.out⟩, (Below.refl _ _).drew.drew⟩
        · have hl1' : ¬ ((rs.size : Int) - 1) < 3 := by omega
          have hwm : wrap64 ((rs.size : Int) - 1) = 3 := by rw [show (rs.size : Int) - 1 = 3 by omega]; first | rfl | (unfold wrap64; omega) | simp [wrap64] | go_num
          simp only [hwm]
          clear hm' hm3 hm1 hwm
          go_loopg [9, 10] 1 (fun gk_ i f wr => gk_ = 1 ∧ i = .int .i64 3 ∧ f = .int .i64 0 ∧ wr = w)
          case atStart => exact ⟨rfl, rfl, rfl, rfl⟩
          case round =>
            obtain ⟨rfl, rfl, rfl, rfl⟩ := hrel
            go_wp2_with fail
            repeat (first | rw [Exit.noGoto_ret] | (simp only [Exit.inBlock, Exit.then]))
            go_ret
            exact ⟨⟨_, rfl, HFIN.out⟩, Below.refl _ _⟩
end Go.Proofs.Ytabkgoandfpclaa
