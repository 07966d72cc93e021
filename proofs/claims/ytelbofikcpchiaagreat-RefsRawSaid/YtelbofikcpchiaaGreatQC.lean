/- The program's Name and the document's. (With the texts that it stands on.) -/
import Derived.Test.YtelbofikcpchiaaGreatQA
import Derived.Deep.CutBlock
import Derived.Deep.DeepCutAuto
import Derived.Laws.RangeAny
import Derived.Lib.IndexAny
import Derived.Lib.Bytealg
import Derived.Lib.AsciiSet
import Derived.Lib.IndexBytes
import Derived.Lib.Strings
import Derived.Laws.Strings3
import Derived.Laws.ResultCell
import Derived.Deep.WholeRow
import Derived.WalkMore
namespace Go.Proofs.YtelbofikcpchiaaGreat
open Go.RowKit
structure Stm where
 t : Int
 r : Int
deriving DecidableEq
def Stm.val (s : Stm) : Value := .agg #[.int .i64 s.t, .int .i64 s.r]
def Stm.wf (s : Stm) : Prop := (-9223372036854775808 ≤ s.t ∧ s.t ≤ 9223372036854775807) ∧ (-9223372036854775808 ≤ s.r ∧ s.r ≤ 9223372036854775807)
theorem decode_span (s : ByteArray) (pos : Nat) (h : pos < s.size) (ha : 128 ≤ (s[pos]'h).toNat) :
  ∀ j, pos ≤ j → j < pos + (Utf8.decode s pos).2 → j < s.size ∧ 128 ≤ (s.get! j).toNat := by
 have hn : ¬ (s[pos]'h).toNat < 128 := by omega
 have h0 : s.get! pos = s[pos]'h := get_at s pos h
 simp only [Utf8.decode, get_at s pos h, hn, if_false]
 intro j h1 h2
 repeat' split at h2
 all_goals simp_all
 all_goals
  rcases (by omega : j = pos ∨ j = pos + 1 ∨ j = pos + 2 ∨ j = pos + 3) with e | e | e | e
  all_goals subst e
  all_goals first | exact ⟨h, by rw [h0]; exact ha⟩ | (exfalso; omega) | (constructor <;> omega)
theorem decode_max (s : ByteArray) (pos : Nat) : (Utf8.decode s pos).1 ≤ 1114111 := by
 have hb : ∀ k, (s.get! (pos + k)).toNat < 256 := fun k => (s.get! (pos + k)).toNat_lt
 have h0 := hb 0; have h1 := hb 1; have h2 := hb 2; have h3 := hb 3
 simp only [Utf8.decode]
 repeat' split
 all_goals simp_all [Utf8.runeError, Utf8.valid]
 all_goals omega
theorem encode_high (r : Nat) (h1 : 128 ≤ r) (s : ByteArray) (hs : Utf8.encode (r : Int) = s) : 2 ≤ s.size ∧ s.size ≤ 4 ∧ 128 ≤ (s.get! (s.size - 1)).toNat := by
 have hc : ∃ c, 128 ≤ c ∧ (if Utf8.valid (r : Int) then (r : Int).toNat else Utf8.runeError) = c := by
  refine ⟨_, ?_, rfl⟩
  split
  ·omega
  ·decide
 obtain ⟨c, hc1, hc2⟩ := hc
 unfold Utf8.encode at hs
 simp only [hc2] at hs
 have hb : ∀ x, 128 ≤ (UInt8.ofNat (128 + x % 64)).toNat := fun x => by
  rw [UInt8.toNat_ofNat']
  omega
 rw [if_neg (by omega)] at hs
 split at hs
 ·subst hs
  exact ⟨Nat.le_refl 2, (by decide : 2 ≤ 4), hb _⟩
 split at hs
 ·subst hs
  exact ⟨(by decide : 2 ≤ 3), (by decide : 3 ≤ 4), hb _⟩
 ·subst hs
  exact ⟨(by decide : 2 ≤ 4), Nat.le_refl 4, hb _⟩
set_option linter.unusedSectionVars false
section
variable {P : Program}
theorem next_at (w : World) (g : Nat) (s : ByteArray) (pos : Nat) (hg : w.heap[g]? = some (.stringIter s pos)) (h : pos < s.size) :
  ∃ w', (∀ ty, (Instr.next (.pointer (some ⟨g, 0, none⟩)) true ty).run P w = .ok (.tuple #[.bool true, .int .i64 pos, .int .i32 ((Utf8.decode s pos).1 : Int)]) w') ∧ w'.heap[g]? = some (.stringIter s (pos + (Utf8.decode s pos).2)) ∧ w.grownBy w' (some g) := by
 have hl := (Array.getElem?_eq_some_iff.1 hg).1
 refine ⟨{ w with heap := w.heap.setIfInBounds g (.stringIter s (pos + (Utf8.decode s pos).2)) }, ?_, ?_, ⟨rfl, rfl, rfl, by simp, fun k _ hk => ?_⟩⟩
 ·intro ty
  simp only [Instr.next, getObj, setObj, Sem.run_bind, Sem.run, hg, Result.andThen, h, if_true]
  simp [goInt, hg]
 ·simp [hl]
 ·have : g ≠ k := fun e => hk (by rw [e])
  simp [this]
theorem next_stop (w : World) (g : Nat) (s : ByteArray) (pos : Nat) (ty : TypeId) (hg : w.heap[g]? = some (.stringIter s pos)) (h : ¬ pos < s.size) :
  (Instr.next (.pointer (some ⟨g, 0, none⟩)) true ty).run P w = .ok (.tuple #[.bool false]) w := by
 simp [Instr.next, getObj, Sem.run, hg, h]
end
set_option maxRecDepth 100000 in
theorem sIndexByte_any (s : ByteArray) (c : UInt8) (w : World) :
  Calls Tryz.prog 139 #[.string s, .int .u8 (c.toNat : Int)] w fun e w' => w = w' ∧ e = .returned (.int .i64 (Lib.indexByte s.data.toList c)) := by
 have hc : ((c.toNat : Int)).toNat.toUInt8 = c := by simp
 have hsl : Calls Tryz.prog 129 #[.string s, .int .u8 (c.toNat : Int)] w fun e w' => w = w' ∧ e = .returned (.int .i64 (Lib.indexByte s.data.toList c)) := by
  go_enter Tryz.func129, Tryz.ntmps129
  go_wp2
  rw [run_callFunc_extern Tryz.func141 (by kernel_rfl) (by kernel_rfl) (by kernel_rfl) (e := Extern.BytealgIndexByte.indexByte) (by kernel_rfl), Lib.run_indexByteString, hc]
  simp only [Result.andThen]
  rw [Oper.upon_value]
  go_wp2
  go_ret
  exact ⟨rfl, rfl⟩
 go_enter Tryz.func139, Tryz.ntmps139
 go_wp2_with fail
 refine hsl.mono ?_
 rintro e w' ⟨rfl, rfl⟩
 go_wp2
 go_ret
 exact ⟨rfl, rfl⟩
def csN : List UInt8 := [0, 47, 10]
theorem validRune_any (r : Int) (h0 : 128 ≤ r) (h1 : r ≤ 1114111) (w : World) :
  Calls Tryz.prog 140 #[.int .i32 r] w fun e w' => w = w' ∧ (e = .returned (.bool false) ∨ e = .returned (.bool true)) := by
 go_enter Tryz.func140, Tryz.ntmps140
 go_wp2
 all_goals
  go_ret
  first | exact ⟨rfl, .inl rfl⟩ | exact ⟨rfl, .inr rfl⟩
theorem ib_high (c : UInt8) (h : 128 ≤ c.toNat) : ∀ l : List UInt8, (∀ x ∈ l, x.toNat < 128) → Lib.indexByte l c = -1
 | [], _ => rfl
 | b :: l, hl => by
   have hb := hl b (by simp)
   have ih := ib_high c h l (fun x hx => hl x (by simp [hx]))
   have : (b == c) = false := by
    rw [beq_eq_false_iff_ne]
    intro e
    subst e
    omega
   unfold Lib.indexByte
   rw [ih, this]
   rfl
set_option maxRecDepth 100000 in
set_option maxHeartbeats 2000000 in
theorem indexRune_any (r : Nat) (hr : r ≤ 1114111) (w : World) :
  Calls Tryz.prog 125 #[.string ⟨#[0, 47, 10]⟩, .int .i32 (r : Int)] w fun e w' => (∃ n : Int, e = .returned (.int .i64 n) ∧ decide (0 ≤ n) = (decide (r < 128) && csN.contains (UInt8.ofNat r))) ∧ Below w.heap.size w w' := by
 by_cases h128 : r < 128
 ·obtain ⟨c, hc⟩ := eX (UInt8.ofNat r)
  obtain rfl : r = c.toNat := by rw [← hc, UInt8.toNat_ofNat']; omega
  clear hc
  have hcon := Lib.contains_iff_indexByte csN c
  have h128' : (c.toNat : Int) < 128 := by omega
  have h0 : (0 : Int) ≤ (c.toNat : Int) := by omega
  have hwr : IntKind.u8.wrap (c.toNat : Int) = (c.toNat : Int) := by
   have := UInt8.toNat_lt c
   show ((c.toNat : Int)) % 256 = _
   omega
  go_enter Tryz.func125, Tryz.ntmps125
  go_wp2_with fail
  refine (sIndexByte_any _ c _).mono ?_
  rintro e w' ⟨rfl, rfl⟩
  go_wp2_with fail
  go_ret
  refine ⟨⟨_, rfl, ?_⟩, Below.refl _ _⟩
  rw [decide_eq_true h128, UInt8.ofNat_toNat, Bool.true_and, hcon]
  rfl
 ·have h128' : ¬ (r : Int) < 128 := by omega
  have h0 : (0 : Int) ≤ (r : Int) := by omega
  have hfin : decide ((0 : Int) ≤ -1) = (decide (r < 128) && csN.contains (UInt8.ofNat r)) := by
   rw [decide_eq_false h128]; rfl
  by_cases h65 : r = 65533
  ·have HFIN := h_ hfin
   clear hfin h128 h128' h0 hr
   subst h65
   have h128 : ¬ ((65533 : Nat) : Int) < 128 := by decide
   have hst : (w.iter ⟨#[0, 47, 10]⟩ 0).heap[w.heap.size]? = some (.stringIter ⟨#[0, 47, 10]⟩ 0) := World.iter_heap w _ 0
   have hbel : Below w.heap.size w (w.iter ⟨#[0, 47, 10]⟩ 0) := (Below.refl _ _).alloc (Nat.le_refl _) _
   go_enter Tryz.func125, Tryz.ntmps125
   go_wp2_with fail
   go_loopg [5, 6] 3 (fun gk_ a b wr => ∃ k : Nat, k ≤ 3 ∧ gk_ = 3 - k ∧ wr.heap[w.heap.size]? = some (.stringIter ⟨#[0, 47, 10]⟩ k) ∧ Below w.heap.size w wr)
   case atStart => exact ⟨0, by omega, by omega, hst, hbel⟩
   case round =>
    clear hst hbel
    obtain ⟨k, hk, rfl, hit, hbel⟩ := hrel
    rcases (by omega : k = 0 ∨ k = 1 ∨ k = 2 ∨ k = 3) with rfl | rfl | rfl | rfl
    ·obtain ⟨w1, hnx, hit1, hg1⟩ := next_at (P := Tryz.prog) wr w.heap.size ⟨#[0, 47, 10]⟩ 0 hit (by decide)
     have hd : Utf8.decode ⟨#[0, 47, 10]⟩ 0 = (0, 1) := by decide
     rw [hd] at hnx hit1
     dsimp only at hnx hit1
     have hb1 := bel_grown hbel hbel.size hg1 (Nat.le_refl _)
     clear hit hg1 hd
     go_wp2_with fail
     go_roundg 2
     case measure => omega
     case rel => exact ⟨1, by omega, by omega, hit1, hb1⟩
    ·obtain ⟨w1, hnx, hit1, hg1⟩ := next_at (P := Tryz.prog) wr w.heap.size ⟨#[0, 47, 10]⟩ 1 hit (by decide)
     have hd : Utf8.decode ⟨#[0, 47, 10]⟩ 1 = (47, 1) := by decide
     rw [hd] at hnx hit1
     dsimp only at hnx hit1
     have hb1 := bel_grown hbel hbel.size hg1 (Nat.le_refl _)
     clear hit hg1 hd
     go_wp2_with fail
     go_roundg 1
     case measure => omega
     case rel => exact ⟨2, by omega, by omega, hit1, hb1⟩
    ·obtain ⟨w1, hnx, hit1, hg1⟩ := next_at (P := Tryz.prog) wr w.heap.size ⟨#[0, 47, 10]⟩ 2 hit (by decide)
     have hd : Utf8.decode ⟨#[0, 47, 10]⟩ 2 = (10, 1) := by decide
     rw [hd] at hnx hit1
     dsimp only at hnx hit1
     have hb1 := bel_grown hbel hbel.size hg1 (Nat.le_refl _)
     clear hit hg1 hd
     go_wp2_with fail
     go_roundg 0
     case measure => omega
     case rel => exact ⟨3, by omega, by omega, hit1, hb1⟩
    ·have hnx := fun ty => next_stop (P := Tryz.prog) wr w.heap.size ⟨#[0, 47, 10]⟩ 3 ty hit (by decide)
     go_wp2_with fail
     go_ret
     exact ⟨⟨_, rfl, HFIN.out⟩, hbel⟩
  ·have h65' : ((r : Int) == 65533) = false := by rw [beq_eq_false_iff_ne]; omega
   obtain ⟨rs, hrs⟩ := eX (Utf8.encode (r : Int))
   obtain ⟨hr1, hr2, hr3⟩ := encode_high r (by omega) rs hrs
   go_enter Tryz.func125, Tryz.ntmps125
   go_wp2_with fail
   refine (validRune_any r (by omega) (by omega) w).mono ?_
   rintro e w' ⟨rfl, rfl | rfl⟩
   ·go_wp2_with fail
    go_ret
    exact ⟨⟨_, rfl, hfin⟩, Below.refl _ _⟩
   ·obtain ⟨m, hm⟩ : ∃ m, rs.size = m + 1 := ⟨rs.size - 1, by omega⟩
    obtain ⟨c, hc⟩ := eX (rs.get! m)
    rw [hm] at hr1 hr2 hr3
    rw [Nat.add_sub_cancel, hc] at hr3
    have HRS := h_ hrs
    have HM := h_ hm
    have HC := h_ hc
    clear hrs hm hc
    go_wp2_with fail
    go_step3
    go_wp2_with fail
    rw [HRS.out]
    have hm' : (rs.size : Int) = (m : Int) + 1 := by have := HM.out; omega
    have hm3 : m ≤ 3 := by omega
    have hm1 : 1 ≤ m := by omega
    have hgm : ∀ h : m < rs.size, rs[m]'h = c := fun h => by
     rw [← HC.out]
     simp [ByteArray.get!, getElem!_pos, h]
     rfl
    have HGM := h_ hgm
    have HIB := h_ (ib_high c hr3)
    have HFIN := h_ hfin
    clear hgm hfin hr1 hr2 h65 h65' h128 h0 hr h128'
    rcases (by omega : m = 1 ∨ m = 2 ∨ m = 3) with rfl | rfl | rfl
    ·have hl1 : 1 < rs.size := by have := HM.out; omega
     have hl1' : (1 : Int) < (rs.size : Int) := by omega
     have hg1 := HGM.out hl1
     have hwm : wrap64 ((rs.size : Int) - 1) = 1 := by rw [show (rs.size : Int) - 1 = 1 by omega]; first | rfl | (unfold wrap64; omega) | simp [wrap64] | go_num
     simp only [hwm]
     clear hm' hm3 hm1 hwm
     go_loopg [9, 10] 1 (fun gk_ i f wr => gk_ = 1 ∧ i = .int .i64 1 ∧ f = .int .i64 0 ∧ wr = w)
     case atStart => exact ⟨rfl, rfl, rfl, rfl⟩
     case round =>
      obtain ⟨rfl, rfl, rfl, rfl⟩ := hrel
      have hne : ((47 : Int) != (c.toNat : Int)) = true := by rw [bne_iff_ne]; omega
      have hx0 := fun w => index_str (P := Tryz.prog) (t := 9) (s := ⟨#[0, 47, 10]⟩) (c := 47) 1 .i64 w Tryz.underlying9 rfl
      have hx1 := fun w => index_str (P := Tryz.prog) (t := 9) (s := rs) 1 .i64 w Tryz.underlying9 (getElem?_pos rs 1 hl1)
      rw [hg1] at hx1
      go_wp2_with fail
      go_step3
      go_wp2_with fail
      refine wp_region_sched (fun w' => True) [(true, 0), (true, 1), (true, 2), (true, 3), (true, 4), (true, 5), (true, 6)] (by kernel_rfl) (by kernel_rfl) rfl (by kernel_rfl) trivial ?_
      iterate 2 ((first | refine wpS_pass _ rfl (by rfl) ?_ | (refine wpS_take _ ?_ rfl (by rfl) ?_ ?_; rotate_left; (focus (intro w' hS'; (try dsimp only at hS'); (repeat (have hS1 := hS'.1; replace hS' := hS'.2)); go_simp; (try with_reducible rfl); done)))); simp only [LY])
      refine wpS_take _ _ rfl (by rfl) (fun w' hS' => exec_index _ _ _ rfl _ _ _ rfl rfl (hx0 w')) ?_
      simp only [LY]
      iterate 2 ((first | refine wpS_pass _ rfl (by rfl) ?_ | (refine wpS_take _ ?_ rfl (by rfl) ?_ ?_; rotate_left; (focus (intro w' hS'; (try dsimp only at hS'); (repeat (have hS1 := hS'.1; replace hS' := hS'.2)); go_simp; (try with_reducible rfl); done)))); simp only [LY])
      refine wpS_take _ _ rfl (by rfl) (fun w' hS' => exec_index _ _ _ rfl _ _ _ rfl rfl (hx1 w')) ?_
      simp only [LY]
      (repeat ((first | refine wpS_pass _ rfl (by rfl) ?_ | (refine wpS_take _ ?_ rfl (by rfl) ?_ ?_; rotate_left; (focus (intro w' hS'; (try dsimp only at hS'); (repeat (have hS1 := hS'.1; replace hS' := hS'.2)); go_simp; (try with_reducible rfl); done)))); simp only [LY]))
      refine wpS_done ?_
      go_wp2_with fail
      refine wp_region_sched (fun w' => True) [(true, 0), (true, 1), (true, 2), (true, 3), (true, 4), (true, 5), (true, 6), (false, 7), (true, 8)] (by kernel_rfl) (by kernel_rfl) rfl (by kernel_rfl) trivial ?_
      have ha := fun w => bin_add (P := Tryz.prog) (t := 3) 1 1 2 w (by omega) (by omega) (by omega)
      iterate 2 ((first | refine wpS_pass _ rfl (by rfl) ?_ | (refine wpS_take _ ?_ rfl (by rfl) ?_ ?_; rotate_left; (focus (intro w' hS'; (try dsimp only at hS'); (repeat (have hS1 := hS'.1; replace hS' := hS'.2)); go_simp; (try with_reducible rfl); done)))); simp only [LY])
      refine wpS_take _ _ rfl (by rfl) (fun w' hS' => exec_bin _ _ _ _ _ rfl _ _ _ rfl rfl rfl (ha w')) ?_
      simp only [LY]
      clear ha
      iterate 3 ((first | refine wpS_pass _ rfl (by rfl) ?_ | (refine wpS_take _ ?_ rfl (by rfl) ?_ ?_; rotate_left; (focus (intro w' hS'; (try dsimp only at hS'); (repeat (have hS1 := hS'.1; replace hS' := hS'.2)); go_simp; (try with_reducible rfl); done)))); simp only [LY])
      refine wpS_take _ _ rfl (by rfl) (fun w' hS' => exec_index _ _ _ rfl _ _ _ rfl rfl (hx1 w')) ?_
      simp only [LY]
      refine wpS_do _ rfl (by rfl) (fun K hK => ?_)
      go_simp
      refine (sIndexByte_any _ c _).mono ?_
      rintro e w' ⟨rfl, rfl⟩
      rw [HIB.out _ (by decide)]
      refine hK.out _ _ trivial (fun hS => ?_)
      clear hK hS
      (repeat ((first | refine wpS_pass _ rfl (by rfl) ?_ | (refine wpS_take _ ?_ rfl (by rfl) ?_ ?_; rotate_left; (focus (intro w' hS'; (try dsimp only at hS'); (repeat (have hS1 := hS'.1; replace hS' := hS'.2)); go_simp; (try with_reducible rfl); done)))); simp only [LY]))
      refine wpS_done ?_
      clear hx0 hx1
      go_wp2_with fail
      repeat (first | rw [Exit.noGoto_ret] | (simp only [Exit.inBlock, Exit.then]))
      go_ret
      exact ⟨⟨_, rfl, HFIN.out⟩, (Below.refl _ _).drew.drew⟩
    ·have hl1 : 2 < rs.size := by have := HM.out; omega
     have hl1' : (2 : Int) < (rs.size : Int) := by omega
     have hg1 := HGM.out hl1
     have hwm : wrap64 ((rs.size : Int) - 1) = 2 := by rw [show (rs.size : Int) - 1 = 2 by omega]; first | rfl | (unfold wrap64; omega) | simp [wrap64] | go_num
     simp only [hwm]
     clear hm' hm3 hm1 hwm
     go_loopg [9, 10] 1 (fun gk_ i f wr => gk_ = 1 ∧ i = .int .i64 2 ∧ f = .int .i64 0 ∧ wr = w)
     case atStart => exact ⟨rfl, rfl, rfl, rfl⟩
     case round =>
      obtain ⟨rfl, rfl, rfl, rfl⟩ := hrel
      have hne : ((10 : Int) != (c.toNat : Int)) = true := by rw [bne_iff_ne]; omega
      have hx0 := fun w => index_str (P := Tryz.prog) (t := 9) (s := ⟨#[0, 47, 10]⟩) (c := 10) 2 .i64 w Tryz.underlying9 rfl
      have hx1 := fun w => index_str (P := Tryz.prog) (t := 9) (s := rs) 2 .i64 w Tryz.underlying9 (getElem?_pos rs 2 hl1)
      rw [hg1] at hx1
      go_wp2_with fail
      go_step3
      go_wp2_with fail
      refine wp_region_sched (fun w' => True) [(true, 0), (true, 1), (true, 2), (true, 3), (true, 4), (true, 5), (true, 6)] (by kernel_rfl) (by kernel_rfl) rfl (by kernel_rfl) trivial ?_
      iterate 2 ((first | refine wpS_pass _ rfl (by rfl) ?_ | (refine wpS_take _ ?_ rfl (by rfl) ?_ ?_; rotate_left; (focus (intro w' hS'; (try dsimp only at hS'); (repeat (have hS1 := hS'.1; replace hS' := hS'.2)); go_simp; (try with_reducible rfl); done)))); simp only [LY])
      refine wpS_take _ _ rfl (by rfl) (fun w' hS' => exec_index _ _ _ rfl _ _ _ rfl rfl (hx0 w')) ?_
      simp only [LY]
      iterate 2 ((first | refine wpS_pass _ rfl (by rfl) ?_ | (refine wpS_take _ ?_ rfl (by rfl) ?_ ?_; rotate_left; (focus (intro w' hS'; (try dsimp only at hS'); (repeat (have hS1 := hS'.1; replace hS' := hS'.2)); go_simp; (try with_reducible rfl); done)))); simp only [LY])
      refine wpS_take _ _ rfl (by rfl) (fun w' hS' => exec_index _ _ _ rfl _ _ _ rfl rfl (hx1 w')) ?_
      simp only [LY]
      (repeat ((first | refine wpS_pass _ rfl (by rfl) ?_ | (refine wpS_take _ ?_ rfl (by rfl) ?_ ?_; rotate_left; (focus (intro w' hS'; (try dsimp only at hS'); (repeat (have hS1 := hS'.1; replace hS' := hS'.2)); go_simp; (try with_reducible rfl); done)))); simp only [LY]))
      refine wpS_done ?_
      go_wp2_with fail
      refine wp_region_sched (fun w' => True) [(true, 0), (true, 1), (true, 2), (true, 3), (true, 4), (true, 5), (true, 6), (false, 7), (true, 8)] (by kernel_rfl) (by kernel_rfl) rfl (by kernel_rfl) trivial ?_
      have ha := fun w => bin_add (P := Tryz.prog) (t := 3) 2 1 3 w (by omega) (by omega) (by omega)
      iterate 2 ((first | refine wpS_pass _ rfl (by rfl) ?_ | (refine wpS_take _ ?_ rfl (by rfl) ?_ ?_; rotate_left; (focus (intro w' hS'; (try dsimp only at hS'); (repeat (have hS1 := hS'.1; replace hS' := hS'.2)); go_simp; (try with_reducible rfl); done)))); simp only [LY])
      refine wpS_take _ _ rfl (by rfl) (fun w' hS' => exec_bin _ _ _ _ _ rfl _ _ _ rfl rfl rfl (ha w')) ?_
      simp only [LY]
      clear ha
      iterate 3 ((first | refine wpS_pass _ rfl (by rfl) ?_ | (refine wpS_take _ ?_ rfl (by rfl) ?_ ?_; rotate_left; (focus (intro w' hS'; (try dsimp only at hS'); (repeat (have hS1 := hS'.1; replace hS' := hS'.2)); go_simp; (try with_reducible rfl); done)))); simp only [LY])
      refine wpS_take _ _ rfl (by rfl) (fun w' hS' => exec_index _ _ _ rfl _ _ _ rfl rfl (hx1 w')) ?_
      simp only [LY]
      refine wpS_do _ rfl (by rfl) (fun K hK => ?_)
      go_simp
      refine (sIndexByte_any _ c _).mono ?_
      rintro e w' ⟨rfl, rfl⟩
      rw [HIB.out _ (by decide)]
      refine hK.out _ _ trivial (fun hS => ?_)
      clear hK hS
      (repeat ((first | refine wpS_pass _ rfl (by rfl) ?_ | (refine wpS_take _ ?_ rfl (by rfl) ?_ ?_; rotate_left; (focus (intro w' hS'; (try dsimp only at hS'); (repeat (have hS1 := hS'.1; replace hS' := hS'.2)); go_simp; (try with_reducible rfl); done)))); simp only [LY]))
      refine wpS_done ?_
      clear hx0 hx1
      go_wp2_with fail
      repeat (first | rw [Exit.noGoto_ret] | (simp only [Exit.inBlock, Exit.then]))
      go_ret
      exact ⟨⟨_, rfl, HFIN.out⟩, (Below.refl _ _).drew.drew⟩
    ·have hl1' : ¬ ((rs.size : Int) - 1) < 3 := by omega
     have hwm : wrap64 ((rs.size : Int) - 1) = 3 := by rw [show (rs.size : Int) - 1 = 3 by omega]; first | rfl | (unfold wrap64; omega) | simp [wrap64] | go_num
     simp only [hwm]
     clear hm' hm3 hm1 hwm
     go_loopg [9, 10] 1 (fun gk_ i f wr => gk_ = 1 ∧ i = .int .i64 3 ∧ f = .int .i64 0 ∧ wr = w)
     case atStart => exact ⟨rfl, rfl, rfl, rfl⟩
     case round =>
      obtain ⟨rfl, rfl, rfl, rfl⟩ := hrel
      go_wp2_with fail
      repeat (first | rw [Exit.noGoto_ret] | (simp only [Exit.inBlock, Exit.then]))
      go_ret
      exact ⟨⟨_, rfl, HFIN.out⟩, Below.refl _ _⟩
set_option maxRecDepth 100000 in
set_option maxHeartbeats 2000000 in
theorem set_any (w : World) : Calls Tryz.prog 127 #[.string ⟨#[0, 47, 10]⟩] w fun e w' => e = .returned (.tuple #[.agg (Lib.setCells csN), .bool true]) ∧ Below w.heap.size w w' := by
 have hz : Tryz.zeroCells195 = Lib.setCells [] := by kernel_rfl
 have HZ := h_ hz
 clear hz
 have hi116 : (Tryz.prog.info? 195).map (·.size) = some 256 := by kernel_rfl
 have HI := h_ hi116
 clear hi116
 go_enter Tryz.func127, Tryz.ntmps127
 go_wp2_with fail
 rw [HZ.out]
 go_loopg [4] 3 (fun g s4 wr => ∃ i : Nat, i ≤ 3 ∧ g = 3 - i ∧ s4 = .int .i64 i ∧ wr = w.alloc (.cells (Lib.setCells (csN.take i)) 195))
 case atStart => exact ⟨0, by omega, by omega, rfl, rfl⟩
 case round =>
  obtain ⟨i, hi, rfl, rfl, rfl⟩ := hrel
  rcases (by omega : i = 0 ∨ i = 1 ∨ i = 2 ∨ i = 3) with rfl | rfl | rfl | rfl
  ·have hcell := Lib.setCells_at (csN.take 0) 0
   have H2 := h_ (Lib.setCells_snoc (csN.take 0) 0)
   go_wp2_with fail
   go_roundg 2
   case measure => omega
   case rel => exact ⟨1, by omega, by omega, rfl, by first | rfl | simp [H2.out] | (rw [H2.out]; rfl)⟩
  ·have hcell := Lib.setCells_at (csN.take 1) 47
   have H2 := h_ (Lib.setCells_snoc (csN.take 1) 47)
   go_wp2_with fail
   go_roundg 1
   case measure => omega
   case rel => exact ⟨2, by omega, by omega, rfl, by first | rfl | simp [H2.out] | (rw [H2.out]; rfl)⟩
  ·have hcell := Lib.setCells_at (csN.take 2) 10
   have H2 := h_ (Lib.setCells_snoc (csN.take 2) 10)
   go_wp2_with fail
   go_roundg 0
   case measure => omega
   case rel => exact ⟨3, by omega, by omega, rfl, by first | rfl | simp [H2.out] | (rw [H2.out]; rfl)⟩
  ·have hT : csN.take 3 = csN := rfl
   rw [hT]
   clear hT
   obtain ⟨C, hC⟩ := eX (Lib.setCells csN)
   have hCs : C.size = 256 := by rw [← hC]; exact Lib.setCells_size csN
   have h1 : C.all (·.oneCell') = true := by rw [← hC]; exact Lib.setCells_one csN
   rw [hC]
   obtain ⟨W1, hW1⟩ := eX (w.alloc (.cells C 195))
   have hrow : W1.heap[w.heap.size]? = some (.cells C 195 (0, 0)) := by rw [← hW1]; exact heap_alloc_new w _
   have hb : Below w.heap.size w W1 := by rw [← hW1]; exact (Below.refl _ _).alloc (Nat.le_refl _) _
   obtain ⟨W2, hW2⟩ := eX (W1.setCells w.heap.size 0 C.toList)
   have hb2 : Below w.heap.size w W2 := by rw [← hW2]; exact bel_grown hb hb.size (setCells_grown _ _ _ _) (Nat.le_refl _)
   have hrow2 : W2.heap[w.heap.size]? = some (.cells C 195 (0, 0)) := by
    rw [← hW2]
    exact row_setAll (cs := C.toList) (vs := C.toList) (by simpa using hrow) rfl
   have HTH : Hid (W1.there w.heap.size 0 C.size) := h_ (there_of_row hrow)
   have HROW := h_ hrow
   have HROW2 := h_ hrow2
   have HW2 := h_ hW2
   have HB2 := h_ hb2
   have HI2 : Hid ((Tryz.prog.info? 195).map (·.size) = some C.size) := h_ (by rw [hCs]; exact HI.out)
   have HO := h_ h1
   have HC := h_ hC
   rw [hW1]
   clear hW1 hW2 hrow hrow2 hb hb2 hC hCs h1
   go_wp2_with (first
    | ((with_reducible (refine wpList_load_row rfl _ _ rfl _ rfl _ _ _ _ HROW.out Tryz.underlying195 rfl ?_ ?_)); (focus (exact HI2.out)))
    | ((with_reducible (refine wpList_store_mid rfl _ _ _ rfl ?_ ?_ ?_ ?_ ?_ ?_ ?_ ?_ ?_)); exact w.heap.size; exact 0; exact C; exact rfl; exact rfl; exact HTH.out; exact HI2.out; exact HO.out; rw [HW2.out]))
   refine bodyPost_ret (results_row_tmp rfl _ _ _ _ _ _ _ rfl HROW2.out Tryz.underlying195 rfl HI2.out) rfl ?_
   refine ⟨?_, HB2.out⟩
   rw [HC.out]
   rfl
set_option maxRecDepth 100000 in
theorem has_any (b : Nat) (x : UInt8) (v : Bool) (w : World) (hc : w.cell? ⟨b, x.toNat, none⟩ = some (.bool v)) :
  Calls Tryz.prog 128 #[.pointer (some ⟨b, 0, none⟩), .int .u8 x.toNat] w fun e w' => e = .returned (.bool v) ∧ w' = w := by
 have hx256 : (x.toNat : Int) < 256 := by have := UInt8.toNat_lt x; omega
 go_enter Tryz.func128, Tryz.ntmps128
 go_wp2
 go_ret
 exact ⟨rfl, rfl⟩
def hasN (l : List UInt8) : Bool := l.any fun c => csN.contains c
theorem hasN_none {l : List UInt8} (h : Lib.NoAny l csN l.length) : hasN l = false := by
 unfold hasN
 rw [List.any_eq_false]
 intro x hx
 obtain ⟨i, hi, rfl⟩ := List.mem_iff_getElem.1 hx
 have := h i l[i] hi (List.getElem?_eq_getElem hi)
 rw [this]
 decide
theorem hasN_hit {l : List UInt8} {i : Nat} {x : UInt8} (h : l[i]? = some x) (hx : csN.contains x = true) : hasN l = true := by
 unfold hasN
 rw [List.any_eq_true]
 exact ⟨x, List.mem_of_getElem? h, hx⟩
theorem csN_low {x : UInt8} (h : csN.contains x = true) : x.toNat < 128 := by
 simp [csN] at h
 rcases h with rfl | rfl | rfl <;> decide
theorem should_any (n : Int) (w : World) : Calls Tryz.prog 126 #[.int .i64 n] w fun e w' => w = w' ∧ e = .returned (.bool (decide (8 < n))) := by
 go_enter Tryz.func126, Tryz.ntmps126
 go_wp2
 go_ret
 exact ⟨rfl, rfl⟩
set_option maxRecDepth 100000 in
set_option maxHeartbeats 2000000 in
theorem indexAny_short (s : ByteArray) (h8 : s.size ≤ 8) (w : World) :
  Calls Tryz.prog 108 #[.string s, .string ⟨#[0, 47, 10]⟩] w fun e w' => (∃ n : Int, e = .returned (.int .i64 n) ∧ decide (0 ≤ n) = hasN s.data.toList) ∧ Below w.heap.size w w' := by
 have h8z : decide ((8 : Int) < (s.size : Int)) = false := decide_eq_false (by omega)
 have hsl : s.data.toList.length = s.size := (Lib.size_eq s).symm
 have hst : (w.iter s 0).heap[w.heap.size]? = some (.stringIter s 0) := World.iter_heap w s 0
 have hbel : Below w.heap.size w (w.iter s 0) := (Below.refl _ _).alloc (Nat.le_refl _) _
 have HSL := h_ hsl
 clear hsl
 go_enter Tryz.func108, Tryz.ntmps108
 go_wp2_with fail
 refine (should_any _ _).mono ?_
 rintro e w' ⟨rfl, rfl⟩
 rw [h8z]
 go_wp2_with fail
 go_loopg [9, 10] s.size (fun gk_ a b wr => ∃ k : Nat, k ≤ s.size ∧ gk_ = s.size - k ∧ wr.heap[w.heap.size]? = some (.stringIter s k) ∧ Below w.heap.size w wr ∧ Hid (Lib.NoAny s.data.toList csN k))
 case atStart => exact ⟨0, by omega, by omega, hst, hbel, h_ (Lib.NoAny.zero _ _)⟩
 case round =>
  clear hst hbel h8z
  obtain ⟨k, hk, rfl, hit, hbel, HN⟩ := hrel
  by_cases hlt : k < s.size
  ·obtain ⟨w1, hnx, hit1, hg1⟩ := next_at (P := Tryz.prog) wr w.heap.size s k hit hlt
   have hb1 := bel_grown hbel hbel.size hg1 (Nat.le_refl _)
   have hmax := decode_max s k
   have hxl : s.data.toList[k]? = some (s[k]'hlt) := Lib.data_getElem? s k hlt
   have hdec : ((s[k]'hlt).toNat < 128 ∧ (Utf8.decode s k) = ((s[k]'hlt).toNat, 1)) ∨ (128 ≤ (Utf8.decode s k).1 ∧ 1 ≤ (Utf8.decode s k).2 ∧ 128 ≤ (s[k]'hlt).toNat) := by
    rcases Nat.lt_or_ge (s[k]'hlt).toNat 128 with h | h
    ·exact .inl ⟨h, decode_ascii s k hlt h⟩
    ·exact .inr ⟨(decode_high s k hlt h).1, (decode_high s k hlt h).2, h⟩
   have hsp := decode_span s k hlt
   obtain ⟨rr, hrr⟩ := eX ((Utf8.decode s k).1)
   obtain ⟨wd, hwd⟩ := eX ((Utf8.decode s k).2)
   have hpair : Utf8.decode s k = (rr, wd) := by rw [← hrr, ← hwd]
   rw [hpair] at hnx hit1 hmax hdec hsp
   simp only at hnx hit1 hmax hdec hsp
   have hgo : csN.contains (UInt8.ofNat rr) = false ∨ 128 ≤ rr → Lib.NoAny s.data.toList csN (k + wd) ∧ k + wd ≤ s.size ∧ 1 ≤ wd := by
    intro hno
    rcases hdec with ⟨h1, h2⟩ | ⟨h1, h2, h3⟩
    ·injection h2 with h2 h2'
     subst h2'
     refine ⟨HN.out.succ hxl ?_, by omega, Nat.le_refl 1⟩
     rcases hno with h | h
     ·rw [h2, UInt8.ofNat_toNat] at h; exact h
     ·omega
    ·have h4 := hsp h3
     refine ⟨fun j b hj hb => ?_, ?_, h2⟩
     ·rcases Nat.lt_or_ge j k with h | h
      ·exact HN.out j b h hb
      ·obtain ⟨hjs, h5⟩ := h4 j h hj
       rw [Bool.eq_false_iff]
       intro hc
       have := csN_low hc
       have hb2 : s.data.toList[j]? = some (s[j]'hjs) := Lib.data_getElem? s j hjs
       rw [hb2] at hb
       cases hb
       have : s.get! j = s[j]'hjs := get_at s j hjs
       rw [this] at h5
       omega
     ·rcases Nat.eq_zero_or_pos wd with h | h
      ·omega
      ·have := (h4 (k + wd - 1) (by omega) (by omega)).1
       omega
   have hhit : csN.contains (UInt8.ofNat rr) = true → rr < 128 → hasN s.data.toList = true := by
    intro hc hr
    rcases hdec with ⟨h1, h2⟩ | ⟨h1, h2, h3⟩
    ·injection h2 with h2 h2'
     rw [h2, UInt8.ofNat_toNat] at hc
     exact hasN_hit hxl hc
    ·omega
   have HGO := h_ hgo
   have HHIT := h_ hhit
   clear hgo hhit hdec hsp hpair hwd hrr hxl hit hg1
   go_wp2_with fail
   refine (indexRune_any rr hmax w1).mono ?_
   rintro e w2 ⟨⟨n, rfl, hn⟩, hb2⟩
   have hit2 := (hb2.block _ (Array.getElem?_eq_some_iff.1 hit1).1).trans hit1
   have hb12 := hb1.trans (hb2.mono hb1.size)
   have HN12 := h_ hn
   clear hn hit1 hnx hbel hb1 hb2
   by_cases hpos : 0 ≤ n
   ·go_wp2_with fail
    go_ret
    refine ⟨⟨_, rfl, ?_⟩, hb12⟩
    have h1 := HN12.out
    rw [decide_eq_true hpos] at h1
    have h2 := (Bool.and_eq_true _ _).mp h1.symm
    rw [HHIT.out h2.2 (of_decide_eq_true h2.1)]
    exact decide_eq_true (by omega)
   ·have h1 := HN12.out
    rw [decide_eq_false hpos] at h1
    obtain ⟨h3, h4, h5⟩ := HGO.out (by
     rcases (Bool.and_eq_false_iff.1 h1.symm) with h | h
     ·exact .inr (by have := of_decide_eq_false h; omega)
     ·exact .inl h)
    have H3 := h_ h3
    clear h1 h3
    go_wp2_with fail
    go_roundg (s.size - (k + wd))
    case measure => omega
    case rel => exact ⟨k + wd, h4, rfl, hit2, hb12, H3⟩
  ·obtain rfl : k = s.size := by omega
   have hnx := fun ty => next_stop (P := Tryz.prog) wr w.heap.size s s.size ty hit (by omega)
   go_wp2_with fail
   go_ret
   exact ⟨⟨_, rfl, by rw [hasN_none (by rw [HSL.out]; exact HN.out)]; rfl⟩, hbel⟩
set_option maxRecDepth 100000 in
set_option maxHeartbeats 2000000 in
theorem indexAny_long (s : ByteArray) (h8 : 8 < s.size) (hm : s.size ≤ 9223372036854775807) (w : World) :
  Calls Tryz.prog 108 #[.string s, .string ⟨#[0, 47, 10]⟩] w fun e w' => (∃ n : Int, e = .returned (.int .i64 n) ∧ decide (0 ≤ n) = hasN s.data.toList) ∧ Below w.heap.size w w' := by
 have h8z : decide ((8 : Int) < (s.size : Int)) = true := decide_eq_true (by omega)
 have hsl : s.data.toList.length = s.size := (Lib.size_eq s).symm
 have HSL := h_ hsl
 have HZ : Hid (Tryz.zeroCells195 = Lib.setCells []) := h_ (by kernel_rfl)
 have HAT := h_ (Lib.setCells_at csN)
 obtain ⟨C, hC⟩ := eX (Lib.setCells csN)
 have hCs : C.size = 256 := by rw [← hC]; exact Lib.setCells_size csN
 have h1 : C.all (·.oneCell') = true := by rw [← hC]; exact Lib.setCells_one csN
 have HI2 : Hid ((Tryz.prog.info? 195).map (·.size) = some C.size) := h_ (by rw [hCs]; kernel_rfl)
 have HO := h_ h1
 have HCS := h_ hCs
 rw [hC] at HAT
 have HC := h_ hC
 clear hsl hC hCs h1
 go_enter Tryz.func108, Tryz.ntmps108
 go_wp2_with fail
 refine (should_any _ _).mono ?_
 rintro e w' ⟨rfl, rfl⟩
 rw [h8z]
 go_wp2_with fail
 refine (set_any _).mono ?_
 rintro e w1 ⟨rfl, hb1⟩
 rw [HC.out]
 obtain ⟨Wa, hWa⟩ := eX (w1.alloc (.cells Tryz.zeroCells195 195))
 have hrow : Wa.heap[w1.heap.size]? = some (.cells (Lib.setCells []) 195 (0, 0)) := by rw [← hWa, HZ.out]; exact heap_alloc_new w1 _
 have hb : Below w1.heap.size w1 Wa := by rw [← hWa]; exact (Below.refl _ _).alloc (Nat.le_refl _) _
 obtain ⟨W2, hW2⟩ := eX (Wa.setCells w1.heap.size 0 C.toList)
 have hb2 : Below w1.heap.size w1 W2 := by rw [← hW2]; exact bel_grown hb hb.size (setCells_grown _ _ _ _) (Nat.le_refl _)
 have hrow2 : W2.heap[w1.heap.size]? = some (.cells C 195 (0, 0)) := by
  rw [← hW2]
  have := row_setAll (cs := (Lib.setCells []).toList) (vs := C.toList) (by simpa using hrow) (by simp [HCS.out, Lib.setCells_size])
  simpa using this
 have HTH : Hid (Wa.there w1.heap.size 0 C.size) := h_ (by have := there_of_row hrow; rw [Lib.setCells_size] at this; rw [HCS.out]; exact this)
 have HW2 := h_ hW2
 have HB2 := h_ (ext_trans hb1 hb2)
 have HCA : Hid (∀ x : UInt8, W2.cell? ⟨w1.heap.size, x.toNat, none⟩ = some (.bool (csN.contains x))) := h_ (fun x => by rw [row_cell hrow2]; exact HAT.out x)
 clear hW2 hrow hrow2 hb hb2 hb1
 have HWA := h_ hWa
 clear hWa
 go_wp2_with (first
  | ((with_reducible (refine wpList_store_mid rfl _ _ _ rfl ?_ ?_ ?_ ?_ ?_ ?_ ?_ ?_ ?_)); exact w1.heap.size; exact 0; exact C; exact rfl; exact rfl; (first | (rw [HWA.out]; exact HTH.out) | exact HTH.out); exact HI2.out; exact HO.out; rw [HWA.out, HW2.out])
  | fail)
 go_loopg [8] s.size (fun g s8 wx => ∃ i : Nat, i ≤ s.size ∧ g = s.size - i ∧ s8 = .int .i64 i ∧ wx = W2 ∧ Hid (Lib.NoAny s.data.toList csN i))
 case atStart => exact ⟨0, by omega, by omega, rfl, rfl, h_ (Lib.NoAny.zero _ _)⟩
 case round =>
  obtain ⟨i, hi, rfl, rfl, rfl, HN⟩ := hrel
  by_cases hlt : i < s.size
  ·obtain ⟨x, hx⟩ : ∃ x : UInt8, s[i]'hlt = x := ⟨_, rfl⟩
   have hxl : s.data.toList[i]? = some x := by rw [← hx]; exact Lib.data_getElem? s i hlt
   have Hx := h_ hxl
   have hiz : (i : Int) < (s.size : Int) := by omega
   clear hxl
   go_wp2_with fail
   refine (has_any _ x _ _ (HCA.out x)).mono ?_
   rintro e w' ⟨rfl, rfl⟩
   cases hin : csN.contains x
   ·go_wp2_with fail
    go_roundg (s.size - (i + 1))
    case measure => omega
    case rel => exact ⟨i + 1, by omega, rfl, by first | rfl | simp | go_num, rfl, h_ (HN.out.succ Hx.out hin)⟩
   ·go_wp2_with fail
    go_ret
    exact ⟨⟨_, rfl, by rw [hasN_hit Hx.out hin]; exact decide_eq_true (by omega)⟩, HB2.out⟩
  ·obtain rfl : i = s.size := by omega
   go_wp2_with fail
   go_ret
   exact ⟨⟨_, rfl, by rw [hasN_none (by rw [HSL.out]; exact HN.out)]; rfl⟩, HB2.out⟩
theorem containsAny_any (s : ByteArray) (hm : s.size ≤ 9223372036854775807) (w : World) :
  Calls Tryz.prog 82 #[.string s, .string ⟨#[0, 47, 10]⟩] w fun e w' => e = .returned (.bool (hasN s.data.toList)) ∧ Below w.heap.size w w' := by
 have h : Calls Tryz.prog 108 #[.string s, .string ⟨#[0, 47, 10]⟩] w fun e w' => (∃ n : Int, e = .returned (.int .i64 n) ∧ decide (0 ≤ n) = hasN s.data.toList) ∧ Below w.heap.size w w' := by
  rcases Nat.lt_or_ge 8 s.size with h | h
  ·exact indexAny_long s h hm w
  ·exact indexAny_short s h w
 have H := h_ h
 clear h
 go_enter Tryz.func82, Tryz.ntmps82
 go_wp2_with fail
 refine H.out.mono ?_
 rintro e w1 ⟨⟨n, rfl, hn⟩, hb⟩
 have HN := h_ hn
 clear hn
 go_wp2_with fail
 go_ret
 exact ⟨ret_bool HN.out, hb⟩
def nameS (s : ByteArray) : Bool := decide (1 ≤ s.size) && decide (s.size ≤ 60) && !(s.toList == [46]) && !(s.toList == [46, 46]) && !hasN s.data.toList
set_option maxRecDepth 100000 in
theorem name_any (s : ByteArray) (hm : s.size ≤ 9223372036854775807) (w : World) :
  Calls Tryz.prog 39 #[.string s] w fun e w' => e = .returned (.bool (nameS s)) ∧ Below w.heap.size w w' := by
 have HC := h_ (containsAny_any s hm w)
 obtain ⟨hb, hhb⟩ := eX (hasN s.data.toList)
 rw [hhb] at HC
 unfold nameS
 rw [hhb]
 clear hhb
 go_enter Tryz.func39, Tryz.ntmps39
 go_wp2_with fail
 all_goals try (refine HC.out.mono ?_; rintro e w1 ⟨rfl, hb1⟩; go_wp2_with fail)
 all_goals
  go_ret
  first
  | (refine ⟨ret_bool ?_, hb1⟩
     have e1 : 1 ≤ s.size := by omega
     have e2 : s.size ≤ 60 := by omega
     simp_all)
  | (refine ⟨ret_bool ?_, Below.refl _ _⟩
     first
     | (have e1 : 1 ≤ s.size := by omega
        have e2 : s.size ≤ 60 := by omega
        simp_all; done)
     | (have e1 : ¬ 1 ≤ s.size := by omega
        simp [e1]; done)
     | (have e2 : ¬ s.size ≤ 60 := by omega
        simp [e2]; done))
theorem toList_nil_iff (s : ByteArray) : s.toList = [] ↔ s.size = 0 := by
 rw [Lib.toList_data, Lib.size_eq]
 exact List.length_eq_zero_iff.symm
set_option maxRecDepth 100000 in
set_option maxHeartbeats 1000000 in
theorem rname_any (s : ByteArray) (hm : s.size ≤ 9223372036854775807) (w : World) :
  Calls Tryz.prog 112 #[.string s] w fun e w' => w' = w ∧ e = .returned (.bool (nameS s)) := by
 have hsl : s.data.toList.length = s.size := (Lib.size_eq s).symm
 have HSL := h_ hsl
 clear hsl
 go_enter Tryz.func112, Tryz.ntmps112
 go_wp2_with fail
 go_loopg [3] s.size (fun g s8 wx => ∃ i : Nat, i ≤ s.size ∧ g = s.size - i ∧ s8 = .int .i64 i ∧ wx = w ∧ Hid (Lib.NoAny s.data.toList csN i))
 case atStart => exact ⟨0, by omega, by omega, rfl, rfl, h_ (Lib.NoAny.zero _ _)⟩
 case round =>
  obtain ⟨i, hi, rfl, rfl, rfl, HN⟩ := hrel
  by_cases hlt : i < s.size
  ·obtain ⟨x, hx⟩ : ∃ x : UInt8, s[i]'hlt = x := ⟨_, rfl⟩
   have hxl : s.data.toList[i]? = some x := by rw [← hx]; exact Lib.data_getElem? s i hlt
   have hhit : csN.contains x = true → nameS s = false := fun h => by
    unfold nameS
    rw [hasN_hit hxl h]
    simp
   have hno : csN.contains x = false → Lib.NoAny s.data.toList csN (i + 1) := fun h => HN.out.succ hxl h
   have hcx : csN.contains x = (decide (x.toNat = 0) || decide (x.toNat = 47) || decide (x.toNat = 10)) := by
    rw [Bool.eq_iff_iff]
    simp only [csN, List.contains_cons, List.contains_nil, Bool.or_false, Bool.or_eq_true, beq_iff_eq, decide_eq_true_eq]
    constructor
    ·rintro (rfl | rfl | rfl)
     ·exact .inl (.inl rfl)
     ·exact .inl (.inr rfl)
     ·exact .inr rfl
    ·rintro ((h | h) | h)
     ·exact .inl (UInt8.toNat_inj.1 h)
     ·exact .inr (.inl (UInt8.toNat_inj.1 h))
     ·exact .inr (.inr (UInt8.toNat_inj.1 h))
   rw [hcx] at hhit hno
   have HH := h_ hhit
   have HNO := h_ hno
   have hiz : (i : Int) < (s.size : Int) := by omega
   clear hxl hhit hno hcx
   go_wp2_with fail
   all_goals (rename_i h; try simp only [beq_iff_eq, beq_eq_false_iff_ne, ne_eq] at h)
   all_goals first
    | (go_ret
       refine ⟨rfl, ret_bool ?_⟩
       rw [HH.out (by simp only [Bool.or_eq_true, decide_eq_true_eq]; omega)]
       done)
    | (go_roundg (s.size - (i + 1))
       case measure => omega
       case rel => exact ⟨i + 1, by omega, rfl, by first | rfl | simp | go_num, rfl, h_ (HNO.out (by simp only [Bool.or_eq_false_iff, decide_eq_false_iff_not]; omega))⟩)
  ·obtain rfl : i = s.size := by omega
   have hnn : hasN s.data.toList = false := hasN_none (by rw [HSL.out]; exact HN.out)
   have hnm : nameS s = (decide (1 ≤ s.size) && decide (s.size ≤ 60) && !(s.toList == [46]) && !(s.toList == [46, 46])) := by
    unfold nameS
    rw [hnn]
    simp
   have H := h_ hnm
   have HNI := h_ (toList_nil_iff s)
   clear hnn hnm
   go_wp2_with fail
   all_goals
    go_ret
    refine ⟨rfl, ret_bool ?_⟩
    rw [H.out]
    have hni := HNI.out
    first
    | (have e0 : s.size = 0 := hni.1 (by assumption)
       simp [e0]; done)
    | (have e2 : ¬ s.size ≤ 60 := by omega
       simp [e2]; done)
    | (have e1 : 1 ≤ s.size := by
        rcases Nat.eq_zero_or_pos s.size with h | h
        ·have := hni.2 h
         simp_all
        ·exact h
       have e2 : s.size ≤ 60 := by omega
       have hne : s.toList.isEmpty = false := by
        rw [List.isEmpty_eq_false_iff]
        intro h
        have := hni.1 h
        omega
       rw [decide_eq_true e1, decide_eq_true e2]
       first
       | (rename_i h; simp [h]; done)
       | (simp [hne]; done)
       | simp)
end Go.Proofs.YtelbofikcpchiaaGreat
