/- EncReads: the walk. -/
import Derived.Test.YtgmhdkkhiclilaaEncIn4
import Derived.Test.YtgmhdkkhiclilaaEncFails
import Derived.Deep.CutBlock
import Derived.Deep.DeepCutAuto
namespace Go.Proofs.Ytgmhdkkhiclilaa
set_option linter.unusedVariables false
set_option linter.unusedSimpArgs false
open Go.RowKit

/-- a reader stays while another row of a slice and a bool is written -/
theorem RdrM.far_row {w w' : World} {g B : Nat} {st : St} {x y : Value} {t : TypeId} (h : RdrM w g st) (hB : w.heap[B]? = some (.cells #[x, y] t (0, 0))) (hx : ∀ z, x ≠ .int .u8 z) (hy : ∀ z, y ≠ .int .u8 z) (hne : g ≠ B) (hg : w.grownBy w' (some B)) : RdrM w' g st := by
  have hlt := h.lt
  cases st with
  | none => exact (hg.block g hlt (by simpa using hne)).trans h
  | some bs =>
    obtain ⟨A, n, c, hh, h1, h2, h3, h4⟩ := h
    exact ⟨A, n, c, (hg.block g hlt (by simpa using hne)).trans hh, h1, h2, h3, rd_keep_row hB hx hy h4 hg⟩
/-- what the row of an In holds -/
def InRow (w : World) (B : Nat) (st : St) : Prop := ∃ x y, w.heap[B]? = some (.cells #[x, y] 46 (0, 0)) ∧ InV w (.agg #[x, y]) st
theorem InV.parts {w : World} {x y : Value} {st : St} (h : InV w (.agg #[x, y]) st) : (∃ A n c, x = .slice A n c) ∧ ∃ b, y = .bool b := by
  cases st with
  | none =>
    have : (.agg #[x, y] : Value) = .agg #[.slice none 0 0, .bool true] := h
    cases this
    exact ⟨⟨_, _, _, rfl⟩, _, rfl⟩
  | some bs =>
    obtain ⟨A, n, c, e, _⟩ := h
    cases e
    exact ⟨⟨_, _, _, rfl⟩, _, rfl⟩

theorem InV.form {w : World} {u : Value} {st : St} (h : InV w u st) : ∃ A n c b, u = .agg #[.slice A n c, .bool b] := by
  cases st with
  | none => exact ⟨_, _, _, _, h⟩
  | some bs =>
    obtain ⟨A, n, c, e, _⟩ := h
    exact ⟨_, _, _, _, e⟩
theorem slice_nb (A : Option Addr) (n c : Nat) : ∀ z, Value.slice A n c ≠ .int .u8 z := fun z e => by cases e
theorem bool_nb (b : Bool) : ∀ z, Value.bool b ≠ .int .u8 z := fun z e => by cases e
/-- bytes stay while a row of others is written -/
theorem InV.far_row {w w' : World} {B : Nat} {u a b : Value} {st : St} {t : TypeId} (h : InV w u st) (hB : w.heap[B]? = some (.cells #[a, b] t (0, 0))) (hx : ∀ z, a ≠ .int .u8 z) (hy : ∀ z, b ≠ .int .u8 z) (hg : w.grownBy w' (some B)) : InV w' u st := by
  cases st with
  | none => exact h
  | some bs =>
    obtain ⟨A, n, c, h1, h2, h3, h4, h5⟩ := h
    exact ⟨A, n, c, h1, h2, h3, h4, rd_keep_row hB hx hy h5 hg⟩
/-- what is there ahead of the last test of a round -/
def ReadsRow (w : World) (N g B : Nat) (A : Option Addr) (n c : Nat) (bad : Bool) (st : St) (wr : World) : Prop :=
  RdrM wr g st ∧ wr.heap[B]? = some (.cells #[.slice A n c, .bool bad] 46 (0, 0)) ∧ InV wr (.agg #[.slice A n c, .bool bad]) st ∧ Below N w wr ∧ N ≤ wr.heap.size
/-- behind a new value for the row B (its copy in a block of its own stays) -/
theorem reads_store {w wr : World} {N g B : Nat} {st st' : St} {A : Option Addr} {n c : Nat} {bad : Bool} {a b : Value} (o : Obj) (hM : RdrM wr g st) (hB : wr.heap[B]? = some (.cells #[a, b] 46 (0, 0))) (ha : ∀ z, a ≠ .int .u8 z) (hb : ∀ z, b ≠ .int .u8 z)
    (hI : InV wr (.agg #[.slice A n c, .bool bad]) st') (hbel : Below N w wr) (hN : N ≤ wr.heap.size) (hNB : N ≤ B) (hne : g ≠ B) :
    ∃ W, ((wr.setCell ⟨B, 0, none⟩ (.slice A n c)).setCell ⟨B, 1, none⟩ (.bool bad)).alloc o = W ∧ RdrM W g st ∧ W.heap[B]? = some (.cells #[.slice A n c, .bool bad] 46 (0, 0)) ∧ InV W (.agg #[.slice A n c, .bool bad]) st' ∧ Below N w W ∧ N ≤ W.heap.size := by
  have hlt := (Array.getElem?_eq_some_iff.1 hB).1
  have hg : wr.grownBy ((wr.setCell ⟨B, 0, none⟩ (.slice A n c)).setCell ⟨B, 1, none⟩ (.bool bad)) (some B) := grown_trans1 (grown_set B 0 _) (grown_set B 1 _)
  have hs := hg.size
  have hb1 : Below ((wr.setCell ⟨B, 0, none⟩ (.slice A n c)).setCell ⟨B, 1, none⟩ (.bool bad)).heap.size ((wr.setCell ⟨B, 0, none⟩ (.slice A n c)).setCell ⟨B, 1, none⟩ (.bool bad)) (((wr.setCell ⟨B, 0, none⟩ (.slice A n c)).setCell ⟨B, 1, none⟩ (.bool bad)).alloc o) := (Below.refl _ _).alloc (Nat.le_refl _) _
  refine ⟨_, rfl, (hM.far_row hB ha hb hne hg).below hb1, (hb1.block _ (by omega)).trans (row_set2 hB _ _), (hI.far_row hB ha hb hg).below hb1, (bel_grown hbel hN hg hNB).trans (hb1.mono (by omega)), ?_⟩
  have := hb1.size
  omega
theorem ReadsRow.below {w wr w' : World} {N g B : Nat} {A : Option Addr} {n c : Nat} {bad : Bool} {st : St} (h : ReadsRow w N g B A n c bad st wr) (hb : Below wr.heap.size wr w') : ReadsRow w N g B A n c bad st w' :=
  ⟨h.1.below hb, (hb.block _ (Array.getElem?_eq_some_iff.1 h.2.1).1).trans h.2.1, h.2.2.1.below hb, h.2.2.2.1.trans (hb.mono h.2.2.2.2), Nat.le_trans h.2.2.2.2 hb.size⟩
theorem ReadsRow.cells {w wr : World} {N g B : Nat} {A : Option Addr} {n c : Nat} {bad : Bool} {st : St} (h : ReadsRow w N g B A n c bad st wr) : wr.cell? ⟨B, 0, none⟩ = some (.slice A n c) ∧ wr.cell? ⟨B, 1, none⟩ = some (.bool bad) :=
  ⟨row_cell h.2.1 0, row_cell h.2.1 1⟩
theorem ReadsRow.drew {w wr : World} {N g B : Nat} {A : Option Addr} {n c : Nat} {bad : Bool} {st : St} (h : ReadsRow w N g B A n c bad st wr) : ReadsRow w N g B A n c bad st wr.drew :=
  h.below (by have := below_drewN (Below.refl wr.heap.size wr) 1; exact this)
theorem ReadsRow.both {w wr : World} {N g B : Nat} {A : Option Addr} {n c : Nat} {bad : Bool} {st : St} (h : ReadsRow w N g B A n c bad st wr) : st.isSome = !bad ∧ leftS st = n := by
  have hu := h.2.2.1
  cases st with
  | none => cases hu; exact ⟨rfl, rfl⟩
  | some bs => obtain ⟨A2, n2, c2, e, h2, _⟩ := hu; cases e; exact ⟨rfl, h2.symm⟩
/-- the reader goes on -/
theorem ReadsRow.next {w wr w' : World} {N g B : Nat} {A : Option Addr} {n c : Nat} {bad : Bool} {st' : St} (hB : wr.heap[B]? = some (.cells #[.slice A n c, .bool bad] 46 (0, 0))) (hI : InV wr (.agg #[.slice A n c, .bool bad]) st')
    (hbel : Below N w wr) (hN : N ≤ wr.heap.size) (hM : RdrM w' g st') (hg : wr.grownBy w' (some g)) (hNg : N ≤ g) (hne : g ≠ B) (hrow : ∃ a b, wr.heap[g]? = some (.cells #[a, b] 70 (0, 0)) ∧ (∀ z, a ≠ .int .u8 z) ∧ (∀ z, b ≠ .int .u8 z)) : ReadsRow w N g B A n c bad st' w' := by
  obtain ⟨a, b, h1, h2, h3⟩ := hrow
  exact ⟨hM, (hg.block B (Array.getElem?_eq_some_iff.1 hB).1 (by simpa using Ne.symm hne)).trans hB, hI.far_row h1 h2 h3 hg, bel_grown hbel hN hg hNg, Nat.le_trans hN hg.size⟩
theorem RdrM.row {w : World} {g : Nat} {st : St} (h : RdrM w g st) : ∃ a b, w.heap[g]? = some (.cells #[a, b] 70 (0, 0)) ∧ (∀ z, a ≠ .int .u8 z) ∧ (∀ z, b ≠ .int .u8 z) := by
  cases st with
  | none => exact ⟨_, _, h, slice_nb _ _ _, bool_nb _⟩
  | some bs =>
    obtain ⟨A, n, c, e, _⟩ := h
    exact ⟨_, _, e, slice_nb _ _ _, bool_nb _⟩
theorem id_place {w w4 : World} {N g B : Nat} {st st' : St} {a b : Value} {u : Value} (idv : List UInt8) (hid : idv.length = 32) (hM : RdrM w4 g st) (hB : w4.heap[B]? = some (.cells #[a, b] 46 (0, 0)))
    (hI : InV w4 u st') (hbel : Below N w w4) (hN : N ≤ w4.heap.size) :
    ∃ Wa Wb W5 H Q, w4.heap.size = H ∧ Wa.heap.size = Q ∧ w4.alloc (.cells (b8s zeros32).toArray 31) = Wa ∧ Wa.alloc (.cells #[.slice none 0 0, .bool false] 46) = Wb ∧ Wb.setCells H 0 (b8s idv) = W5 ∧ Q = H + 1 ∧ N ≤ H ∧
      Wb.there H 0 32 ∧ W5.heap[H]? = some (.cells (b8s idv).toArray 31 (0, 0)) ∧ W5.heap[Q]? = some (.cells #[.slice none 0 0, .bool false] 46 (0, 0)) ∧ W5.heap[B]? = some (.cells #[a, b] 46 (0, 0)) ∧
      RdrM W5 g st ∧ InV W5 u st' ∧ Below N w W5 ∧ Q < W5.heap.size ∧ B < H ∧ g < H := by
  have hBl := (Array.getElem?_eq_some_iff.1 hB).1
  have hgl := hM.lt
  obtain ⟨Wa, hWa⟩ : ∃ Wa, w4.alloc (.cells (b8s zeros32).toArray 31) = Wa := ⟨_, rfl⟩
  obtain ⟨Wb, hWb⟩ : ∃ Wb, Wa.alloc (.cells #[.slice none 0 0, .bool false] 46) = Wb := ⟨_, rfl⟩
  have ba : Below w4.heap.size w4 Wa := by rw [← hWa]; exact (Below.refl _ _).alloc (Nat.le_refl _) _
  have bb : Below Wa.heap.size Wa Wb := by rw [← hWb]; exact (Below.refl _ _).alloc (Nat.le_refl _) _
  have sa : Wa.heap.size = w4.heap.size + 1 := by rw [← hWa]; simp
  have sb : Wb.heap.size = w4.heap.size + 1 + 1 := by rw [← hWb]; simp [sa]
  have hab : Below w4.heap.size w4 Wb := ba.trans (bb.mono (by omega))
  have hra : Wa.heap[w4.heap.size]? = some (.cells (b8s zeros32).toArray 31 (0, 0)) := by rw [← hWa]; exact heap_alloc_new w4 _
  have hrb : Wb.heap[w4.heap.size]? = some (.cells (b8s zeros32).toArray 31 (0, 0)) := (bb.block _ (by omega)).trans hra
  have hqb : Wb.heap[w4.heap.size + 1]? = some (.cells #[.slice none 0 0, .bool false] 46 (0, 0)) := by rw [← hWb, ← sa]; exact heap_alloc_new Wa _
  have hg := setCells_grown w4.heap.size (b8s idv) 0 Wb
  have hbl5 : Below w4.heap.size w4 (Wb.setCells w4.heap.size 0 (b8s idv)) := bel_grown hab (by omega) hg (Nat.le_refl _)
  refine ⟨Wa, Wb, Wb.setCells w4.heap.size 0 (b8s idv), w4.heap.size, Wa.heap.size, rfl, rfl, hWa, hWb, rfl, sa, hN, there_of_row hrb, row_setAll hrb (by rw [b8s_length, b8s_length, hid]; rfl), ?_, (hbl5.block _ hBl).trans hB, hM.below hbl5, hI.below hbl5, hbel.trans (hbl5.mono hN), ?_, hBl, hgl⟩
  · rw [sa]; exact (hg.block _ (by omega) (by simp)).trans hqb
  · have := hg.size; omega
/-- behind the In that was read, and its copy -/
theorem id_second2 {w W5 : World} {N g B H Q : Nat} {st st' : St} {a b : Value} {A : Option Addr} {n c : Nat} {bad : Bool} {r : Obj} (hr : W5.heap[H]? = some r) (hq : W5.heap[Q]? = some (.cells #[.slice none 0 0, .bool false] 46 (0, 0))) (hB : W5.heap[B]? = some (.cells #[a, b] 46 (0, 0))) (ha : ∀ z, a ≠ .int .u8 z) (hb : ∀ z, b ≠ .int .u8 z)
    (hM : RdrM W5 g st) (hI : InV W5 (.agg #[.slice A n c, .bool bad]) st') (hbel : Below N w W5) (hN : N ≤ H) (hQ : Q = H + 1) (hBH : B < H) (hgH : g < H) (hne : g ≠ B) (hNB : N ≤ B) :
    ∃ W7, ((((W5.setCell ⟨Q, 0, none⟩ (.slice A n c)).setCell ⟨Q, 1, none⟩ (.bool bad)).setCell ⟨B, 0, none⟩ (.slice A n c)).setCell ⟨B, 1, none⟩ (.bool bad)) = W7 ∧ W7.heap[H]? = some r ∧ RdrM W7 g st ∧ W7.heap[B]? = some (.cells #[.slice A n c, .bool bad] 46 (0, 0)) ∧
      InV W7 (.agg #[.slice A n c, .bool bad]) st' ∧ Below N w W7 ∧ N ≤ W7.heap.size := by
  have hHl := (Array.getElem?_eq_some_iff.1 hr).1
  have h6 : W5.grownBy ((W5.setCell ⟨Q, 0, none⟩ (.slice A n c)).setCell ⟨Q, 1, none⟩ (.bool bad)) (some Q) := grown_trans1 (grown_set Q 0 _) (grown_set Q 1 _)
  have hr6 := (h6.block H hHl (by simp; omega)).trans hr
  have hB6 := (h6.block B (by omega) (by simp; omega)).trans hB
  have hM6 := hM.far_row hq (slice_nb _ _ _) (bool_nb _) (by omega) h6
  have hI6 := hI.far_row hq (slice_nb _ _ _) (bool_nb _) h6
  have hb6 := bel_grown hbel (by omega) h6 (by omega)
  have hs6 := h6.size
  generalize (W5.setCell ⟨Q, 0, none⟩ (.slice A n c)).setCell ⟨Q, 1, none⟩ (.bool bad) = W6 at *
  have h7 : W6.grownBy ((W6.setCell ⟨B, 0, none⟩ (.slice A n c)).setCell ⟨B, 1, none⟩ (.bool bad)) (some B) := grown_trans1 (grown_set B 0 _) (grown_set B 1 _)
  have hs7 := h7.size
  exact ⟨_, rfl, (h7.block H (by omega) (by simp; omega)).trans hr6, hM6.far_row hB6 ha hb hne h7, row_set2 hB6 _ _, hI6.far_row hB6 ha hb h7, bel_grown hb6 (by omega) h7 hNB, by omega⟩

set_option maxRecDepth 100000 in
set_option maxHeartbeats 2000000 in
theorem encReads_any (A B : Option Addr) (bs : List UInt8) (zs : List Int) (c c' : Nat) (most : Int) (w : World) (hr : Rd w A (b8s bs)) (hz : Rd w B (zs.map (Value.int .i64))) (hm : bs.length ≤ 140737488355328) (hcm : bs.length ≤ c ∧ c ≤ maxLen) (hm' : zs.length ≤ maxLen) :
    Calls Try.prog 7 #[.slice A bs.length c, .slice B zs.length c', .int .i64 most] w fun e w' => e = .returned (.bool true) ∧ Below w.heap.size w w' := by
  obtain ⟨N, hN⟩ : ∃ N, N = w.heap.size := ⟨_, rfl⟩
  have HN := Lib.hid hN
  rw [← hN]
  clear hN
  go_enter Try.func7, Try.ntmps7
  go_wp2_with fail
  refine (read_any A bs _ c w rfl hr hm).mono ?_
  rintro e w1 ⟨g, rfl, hg, hb, hM⟩
  go_wp2_with fail
  refine (reading_any w1).mono ?_
  rintro e w2 ⟨rfl, hb2⟩
  have hM2 := hM.below hb2
  have hbel := hb.trans (hb2.mono hb.size)
  have hNg : N ≤ g := by rw [HN.out]; exact hg
  obtain ⟨B0, hB0⟩ : ∃ B, w2.heap.size = B := ⟨_, rfl⟩
  have HB0 := Lib.hid hB0
  obtain ⟨W3, hW3⟩ : ∃ W3, w2.alloc (.cells #[.slice A bs.length c, .bool false] 46) = W3 := ⟨_, rfl⟩
  have hrel0 : ReadsRow w N g B0 A bs.length c false (some bs) W3 := by
    subst hW3 hB0
    have hb3 : Below w2.heap.size w2 (w2.alloc (.cells #[.slice A bs.length c, .bool false] 46)) := (Below.refl _ _).alloc (Nat.le_refl _) _
    have hr2 := ((hr.below hb).below (hb2)).below hb3
    refine ⟨hM2.below hb3, heap_alloc_new w2 _, ⟨A, _, c, rfl, rfl, hcm.1, hcm.2, hr2⟩, ?_, ?_⟩
    · rw [HN.out]; exact hbel.trans (hb3.mono (by have := hb.size; have := hb2.size; omega))
    · rw [HN.out]; have := hb3.size; have := hb.size; have := hb2.size; omega
  have hNB : N ≤ B0 := by rw [HN.out, ← HB0.out]; have := hb.size; have := hb2.size; omega
  have hgB : g < B0 := by rw [← HB0.out]; exact hM2.lt
  have HW3 := Lib.hid hW3
  clear hM hM2 hbel hb hb2 hg hW3
  go_wp2_with fail
  rw [HW3.out]
  clear hB0 HW3 HB0
  go_loopg [31] zs.length (fun gk i wr => ∃ (k : Nat) (st : St) (A0 : Option Addr) (n0 c0 : Nat) (bad : Bool), k ≤ zs.length ∧ gk = zs.length - k ∧ i = .int .i64 k ∧ ReadsRow w N g B0 A0 n0 c0 bad st wr)
  case atStart => exact ⟨0, some bs, _, _, _, _, by omega, by omega, rfl, hrel0⟩
  case round =>
    clear hrel0
    obtain ⟨k, st, A0, n0, c0, bad, hk, rfl, rfl, hrow⟩ := hrel
    obtain ⟨hM, hB, hI, hbel, hN⟩ := id hrow
    by_cases hlt : k < zs.length
    · obtain ⟨b, o, rfl, hc⟩ := (hz.below (w' := wr) (by rw [← HN.out]; exact hbel)).at_ k (by rw [List.length_map]; exact hlt)
      rw [List.getElem_map] at hc
      by_cases h100 : 100 ≤ k
      · have h101 : (100 : Int) ≤ (k : Int) := by omega
        go_wp2_with fail
        go_ret
        exact ⟨rfl, hbel⟩
      have h101 : ¬ (100 : Int) ≤ (k : Int) := by omega
      generalize zs[k] = z at *
      go_upto_block 2 with fail
      go_cut [] (fun wx => ∃ (st : St) (A0 : Option Addr) (n0 c0 : Nat) (bad : Bool), ReadsRow w N g B0 A0 n0 c0 bad st wx)
      case first =>
        clear hz hr h101 hc
        have HB := Lib.hid hB
        have cb0 : wr.cell? ⟨B0, 0, none⟩ = some (.slice A0 n0 c0) := row_cell hB 0
        have cb1 : wr.cell? ⟨B0, 1, none⟩ = some (.bool bad) := row_cell hB 1
        clear hB
        by_cases h0 : z = 0
        · subst h0
          clear hrow
          go_wp2_with (refine wpList_load_row rfl _ _ rfl _ rfl _ _ _ _ HB.out Try.underlying46 rfl info_in ?_)
          refine (igetnum_any st _ most wr hI).mono ?_
          rintro e w4 ⟨u, rfl, hu, hb4⟩
          obtain ⟨A', n', c', y', rfl⟩ := hu.form
          have hlt4 : B0 < w4.heap.size := Nat.lt_of_lt_of_le (Array.getElem?_eq_some_iff.1 HB.out).1 hb4.size
          have hB4 := (hb4.block _ (Array.getElem?_eq_some_iff.1 HB.out).1).trans HB.out
          obtain ⟨W5, hW5, hM5, hB5, hI5, hbel5, hN5⟩ := reads_store (.cells #[.slice A' n' c', .bool y'] 46) (hM.below hb4) hB4 (slice_nb _ _ _) (bool_nb _) hu (hbel.trans (hb4.mono hN)) (Nat.le_trans hN hb4.size) hNB (by omega)
          have HW5 := Lib.hid hW5
          have e0 : w4.cell? ⟨B0, 0, none⟩ = some (.slice A0 n0 c0) := row_cell hB4 0
          have e1 : w4.cell? ⟨B0, 1, none⟩ = some (.bool bad) := row_cell hB4 1
          have f0 : w4.frozen? ⟨B0, 0, none⟩ = false := row_free hB4 0
          have f1 : w4.frozen? ⟨B0, 1, none⟩ = false := row_free hB4 1
          have hne4 : B0 ≠ w4.heap.size := by omega
          clear hW5 hB4 cb0 cb1 HB hM hu hb4 hI hbel hN
          go_wp2_with fail
          rw [HW5.out]
          refine (rdnum_any g st most W5 hM5).mono ?_
          rintro e w6 ⟨rfl, hM6, hg6⟩
          have hrow := ReadsRow.next hB5 hI5 hbel5 hN5 hM6 hg6 hNg (by omega) hM5.row
          generalize (getNum st most).2 = st' at *
          clear hM5 hB5 hI5 hbel5 hN5 hM6 hg6 HW5 e0 e1 f0 f1 hne4 hlt4
          go_wp2_with fail
          go_meet
          case rel => exact ⟨_, _, _, _, _, hrow⟩
        by_cases h1 : z = 1
        · subst h1
          clear hrow
          go_wp2_with (refine wpList_load_row rfl _ _ rfl _ rfl _ _ _ _ HB.out Try.underlying46 rfl info_in ?_)
          refine (igettext_any st _ 40 wr hI).mono ?_
          rintro e w4 ⟨u, rfl, hu, hb4⟩
          obtain ⟨A', n', c', y', rfl⟩ := hu.form
          have hlt4 : B0 < w4.heap.size := Nat.lt_of_lt_of_le (Array.getElem?_eq_some_iff.1 HB.out).1 hb4.size
          have hB4 := (hb4.block _ (Array.getElem?_eq_some_iff.1 HB.out).1).trans HB.out
          obtain ⟨W5, hW5, hM5, hB5, hI5, hbel5, hN5⟩ := reads_store (.cells #[.slice A' n' c', .bool y'] 46) (hM.below hb4) hB4 (slice_nb _ _ _) (bool_nb _) hu (hbel.trans (hb4.mono hN)) (Nat.le_trans hN hb4.size) hNB (by omega)
          have HW5 := Lib.hid hW5
          have e0 : w4.cell? ⟨B0, 0, none⟩ = some (.slice A0 n0 c0) := row_cell hB4 0
          have e1 : w4.cell? ⟨B0, 1, none⟩ = some (.bool bad) := row_cell hB4 1
          have f0 : w4.frozen? ⟨B0, 0, none⟩ = false := row_free hB4 0
          have f1 : w4.frozen? ⟨B0, 1, none⟩ = false := row_free hB4 1
          have hne4 : B0 ≠ w4.heap.size := by omega
          clear hW5 hB4 cb0 cb1 HB hM hu hb4 hI hbel hN
          go_wp2_with fail
          rw [HW5.out]
          refine (rdtext_any g st 40 W5 hM5).mono ?_
          rintro e w6 ⟨rfl, hM6, hg6⟩
          have hrow := ReadsRow.next hB5 hI5 hbel5 hN5 hM6 hg6 hNg (by omega) hM5.row
          generalize (getText st 40).2 = st' at *
          clear hM5 hB5 hI5 hbel5 hN5 hM6 hg6 HW5 e0 e1 f0 f1 hne4 hlt4
          go_wp2_with fail
          go_meet
          case rel => exact ⟨_, _, _, _, _, hrow⟩
        by_cases h2 : z = 2
        · subst h2
          clear hrow
          have hlen := getId_len st
          have hrd := fun w1 h1 => rdid_any g st w1 h1
          go_wp2_with (refine wpList_load_row rfl _ _ rfl _ rfl _ _ _ _ HB.out Try.underlying46 rfl info_in ?_)
          refine (igetid_any st _ wr hI).mono ?_
          rintro e w4 ⟨u, rfl, hu, hb4⟩
          generalize getId st = T at *
          obtain ⟨idv, st2⟩ := T
          dsimp only at hlen hrd hu ⊢
          obtain ⟨A', n', c', y', rfl⟩ := hu.form
          have hB4 := (hb4.block _ (Array.getElem?_eq_some_iff.1 HB.out).1).trans HB.out
          obtain ⟨Wa, Wb, W5, H, Q, hH, hQ, hWa, hWb, hW5, hQH, hNH, hth, hr5, hq5, hB5, hM5, hI5, hbel5, hs5, hBH, hgH⟩ := id_place idv hlen (hM.below hb4) hB4 hu (hbel.trans (hb4.mono hN)) (Nat.le_trans hN hb4.size)
          obtain ⟨W7, hW7, hr7, hM7, hB7, hI7, hbel7, hN7⟩ := id_second2 hr5 hq5 hB5 (slice_nb _ _ _) (bool_nb _) hM5 hI5 hbel5 hNH hQH hBH hgH (by omega) hNB
          have hWa' : w4.alloc (.cells #[Value.int .u8 0, Value.int .u8 0, Value.int .u8 0, Value.int .u8 0, Value.int .u8 0, Value.int .u8 0, Value.int .u8 0, Value.int .u8 0, Value.int .u8 0, Value.int .u8 0, Value.int .u8 0, Value.int .u8 0, Value.int .u8 0, Value.int .u8 0, Value.int .u8 0, Value.int .u8 0, Value.int .u8 0, Value.int .u8 0, Value.int .u8 0, Value.int .u8 0, Value.int .u8 0, Value.int .u8 0, Value.int .u8 0, Value.int .u8 0, Value.int .u8 0, Value.int .u8 0, Value.int .u8 0, Value.int .u8 0, Value.int .u8 0, Value.int .u8 0, Value.int .u8 0, Value.int .u8 0] 31) = Wa := hWa
          have HTH := Lib.hid hth
          have q0 : W5.cell? ⟨Q, 0, none⟩ = some (.slice none 0 0) := row_cell hq5 0
          have q1 : W5.cell? ⟨Q, 1, none⟩ = some (.bool false) := row_cell hq5 1
          have qf0 : W5.frozen? ⟨Q, 0, none⟩ = false := row_free hq5 0
          have qf1 : W5.frozen? ⟨Q, 1, none⟩ = false := row_free hq5 1
          have e0 : W5.cell? ⟨B0, 0, none⟩ = some (.slice A0 n0 c0) := row_cell hB5 0
          have e1 : W5.cell? ⟨B0, 1, none⟩ = some (.bool bad) := row_cell hB5 1
          have f0 : W5.frozen? ⟨B0, 0, none⟩ = false := row_free hB5 0
          have f1 : W5.frozen? ⟨B0, 1, none⟩ = false := row_free hB5 1
          have hBQ : B0 ≠ Q := by omega
          have hQB : Q ≠ B0 := by omega
          have HW7 := Lib.hid hW7
          have Hrd := Lib.hid hrd
          have Hr7 := Lib.hid hr7
          have Hlen := Lib.hid hlen
          have hinf : (Try.prog.info? 31).map (·.size) = some (b8s idv).toArray.size := by
            have e : (b8s idv).toArray.size = 32 := by simp [b8s, hlen]
            rw [e]; exact info_arr
          have hth' : Wb.there H 0 (b8s idv).toArray.size := by
            have e : (b8s idv).toArray.size = 32 := by simp [b8s, hlen]
            rw [e]; exact hth
          have Hinf := Lib.hid hinf
          have Hth := Lib.hid hth'
          have hW5' : Wb.setCells H 0 (b8s idv).toArray.toList = W5 := hW5
          have HW5 := Lib.hid hW5'
          clear hWa hW7 hlen hrd hr7 hinf hth' hW5 hW5' hth HTH hr5 hq5 hB5 hM5 hI5 hbel5 hs5 hQH hB4 hu hb4 hI hM hbel hN cb0 cb1 HB
          go_wp2_with ((with_reducible (refine wpList_store_mid rfl _ _ _ rfl ?_ ?_ ?_ ?_ ?_ ?_ ?_ ?_ ?_)); (exact H); (exact 0); (exact (b8s idv).toArray); (focus (simp [Act.eval]; done)); (focus (simp [Act.eval]; done)); (exact Hth.out); (exact Hinf.out); (exact all_oneCell_toArray (b8s_one' _)); rw [HW5.out])
          rw [HW7.out]
          have hguard : Program.eqGuardType Try.prog Try.prog.depth 32 = false := by kernel_rfl
          have hne : ∀ w : World, (binOp .neq 32 (.agg (b8s idv).toArray) (.agg (b8s idv).toArray)).run Try.prog w = .ok (.bool false) w := by
            intro w
            rw [run_neq_ids (P := Try.prog) (t := 32) (e := 5) (n := 32) Try.underlying32 Try.underlying5 (by kernel_rfl) (by kernel_rfl) (by kernel_rfl) idv idv Hlen.out Hlen.out w]
            simp
          clear hWb hH hQ e0 e1 f0 f1 q0 q1 qf0 qf1 hBQ hQB Hinf Hth HW5 HW7
          refine wp_region_sched (fun w' => w'.heap[H]? = some (.cells (b8s idv).toArray 31 (0, 0))) [(true, 0), (true, 2), (false, 1), (true, 3)] (by kernel_rfl) (by kernel_rfl) rfl (by kernel_rfl) Hr7.out ?_
          (first | (refine wpS_pass _ rfl (by rfl) ?_; simp only [Act.put, List.getElem_toArray, List.getElem_cons_zero, List.getElem_cons_succ, List.setIfInBounds_toArray, List.set_cons_zero, List.set_cons_succ]) | (refine wpS_take _ ?_ rfl (by rfl) ?_ ?_; rotate_left; (focus (intro w' hS'; (try dsimp only at hS'); (repeat (have hS1 := hS'.1; replace hS' := hS'.2)); go_simp; (try with_reducible rfl); done)); simp only [Act.put, List.getElem_toArray, List.getElem_cons_zero, List.getElem_cons_succ, List.setIfInBounds_toArray, List.set_cons_zero, List.set_cons_succ]))
          refine wpS_load _ rfl (by rfl) _ _ rfl _ _ rfl (b8s idv) _ (fun w' hS' => range_of_row hS') Try.underlying31 rfl (by rw [b8s_length, Hlen.out]; exact info_arr) ?_
          simp only [Act.put, List.getElem_toArray, List.getElem_cons_zero, List.getElem_cons_succ, List.setIfInBounds_toArray, List.set_cons_zero, List.set_cons_succ]
          refine wpS_do _ rfl (by rfl) (fun K hK => ?_)
          go_simp
          have hM8 : RdrM W7.drew g st := hM7.below (by have := below_drewN (Below.refl W7.heap.size W7) 1; exact this)
          refine (Hrd.out W7.drew hM8).mono ?_
          rintro e w6 ⟨rfl, hM6, hg6⟩
          have hr6 := (hg6.block H (Array.getElem?_eq_some_iff.1 Hr7.out).1 (by simp; omega)).trans Hr7.out
          have hrow := ReadsRow.next (wr := W7.drew) hB7 (hI7.below (by have := below_drewN (Below.refl W7.heap.size W7) 1; exact this)) hbel7.drew hN7 hM6 hg6 hNg (by omega) hM8.row
          refine hK.out _ _ hr6 (fun hS => ?_)
          clear hK hS hr6 hM8 hM6 hg6 hB7 hI7 hbel7 hN7 hM7 Hr7
          (repeat (first | (refine wpS_pass _ rfl (by rfl) ?_; simp only [Act.put, List.getElem_toArray, List.getElem_cons_zero, List.getElem_cons_succ, List.setIfInBounds_toArray, List.set_cons_zero, List.set_cons_succ]) | (refine wpS_take _ ?_ rfl (by rfl) ?_ ?_; rotate_left; (focus (intro w' hS'; (try dsimp only at hS'); (repeat (have hS1 := hS'.1; replace hS' := hS'.2)); go_simp; (try with_reducible rfl); done)); simp only [Act.put, List.getElem_toArray, List.getElem_cons_zero, List.getElem_cons_succ, List.setIfInBounds_toArray, List.set_cons_zero, List.set_cons_succ])))
          refine wpS_done ?_
          go_wp2_with fail
          go_meet
          case rel => exact ⟨_, _, _, _, _, hrow⟩
        by_cases h3 : z = 3
        · subst h3
          clear hrow
          go_wp2_with (refine wpList_load_row rfl _ _ rfl _ rfl _ _ _ _ HB.out Try.underlying46 rfl info_in ?_)
          refine (igetfour_any st _ wr hI).mono ?_
          rintro e w4 ⟨u, rfl, hu, hb4⟩
          obtain ⟨A', n', c', y', rfl⟩ := hu.form
          have hlt4 : B0 < w4.heap.size := Nat.lt_of_lt_of_le (Array.getElem?_eq_some_iff.1 HB.out).1 hb4.size
          have hB4 := (hb4.block _ (Array.getElem?_eq_some_iff.1 HB.out).1).trans HB.out
          obtain ⟨W5, hW5, hM5, hB5, hI5, hbel5, hN5⟩ := reads_store (.cells #[.slice A' n' c', .bool y'] 46) (hM.below hb4) hB4 (slice_nb _ _ _) (bool_nb _) hu (hbel.trans (hb4.mono hN)) (Nat.le_trans hN hb4.size) hNB (by omega)
          have HW5 := Lib.hid hW5
          have e0 : w4.cell? ⟨B0, 0, none⟩ = some (.slice A0 n0 c0) := row_cell hB4 0
          have e1 : w4.cell? ⟨B0, 1, none⟩ = some (.bool bad) := row_cell hB4 1
          have f0 : w4.frozen? ⟨B0, 0, none⟩ = false := row_free hB4 0
          have f1 : w4.frozen? ⟨B0, 1, none⟩ = false := row_free hB4 1
          have hne4 : B0 ≠ w4.heap.size := by omega
          clear hW5 hB4 cb0 cb1 HB hM hu hb4 hI hbel hN
          go_wp2_with fail
          rw [HW5.out]
          refine (rdfour_any g st W5 hM5).mono ?_
          rintro e w6 ⟨rfl, hM6, hg6⟩
          have hrow := ReadsRow.next hB5 hI5 hbel5 hN5 hM6 hg6 hNg (by omega) hM5.row
          generalize (getFour st).2 = st' at *
          clear hM5 hB5 hI5 hbel5 hN5 hM6 hg6 HW5 e0 e1 f0 f1 hne4 hlt4
          go_wp2_with fail
          go_meet
          case rel => exact ⟨_, _, _, _, _, hrow⟩
        by_cases h4 : z = 4
        · subst h4
          clear hrow
          go_wp2_with fail
          refine (fail_any g st wr hM).mono ?_
          rintro e w6 ⟨rfl, hM6, hg6⟩
          have hB6 := (hg6.block _ (Array.getElem?_eq_some_iff.1 HB.out).1 (by simp; omega)).trans HB.out
          have e0 : w6.cell? ⟨B0, 0, none⟩ = some (.slice A0 n0 c0) := row_cell hB6 0
          have e1 : w6.cell? ⟨B0, 1, none⟩ = some (.bool bad) := row_cell hB6 1
          have f0 : w6.frozen? ⟨B0, 0, none⟩ = false := row_free hB6 0
          have f1 : w6.frozen? ⟨B0, 1, none⟩ = false := row_free hB6 1
          have hg7 : w6.grownBy ((w6.setCell ⟨B0, 0, none⟩ (.slice none 0 0)).setCell ⟨B0, 1, none⟩ (.bool true)) (some B0) := grown_trans1 (grown_set B0 0 _) (grown_set B0 1 _)
          have hb6 := bel_grown hbel hN hg6 hNg
          have hN6 := Nat.le_trans hN hg6.size
          have hrow : ReadsRow w N g B0 none 0 0 true none ((w6.setCell ⟨B0, 0, none⟩ (.slice none 0 0)).setCell ⟨B0, 1, none⟩ (.bool true)) :=
            ⟨hM6.far_row hB6 (slice_nb _ _ _) (bool_nb _) (by omega) hg7, row_set2 hB6 _ _, rfl, bel_grown hb6 hN6 hg7 hNB, Nat.le_trans hN6 hg7.size⟩
          have Hrow := Lib.hid hrow
          clear hrow hg7 hb6 hN6 hB6 hM6 hg6 cb0 cb1 HB hM hI hbel hN
          go_wp2_with fail
          go_meet
          case rel => exact ⟨_, _, _, _, _, Hrow.out⟩
        · have z0 : (z == 0) = false := by simpa using h0
          have z1 : (z == 1) = false := by simpa using h1
          have z2 : (z == 2) = false := by simpa using h2
          have z3 : (z == 3) = false := by simpa using h3
          have z4 : (z == 4) = false := by simpa using h4
          go_wp2_with fail
          go_meet
          case rel => exact ⟨_, _, _, _, _, hrow⟩
      case rest =>
        clear hM hB hI hbel hN hrow hc
        obtain ⟨st', A', n', c', y', hrow⟩ := hcut
        go_wp2_with fail
        have hrow := hrow.drew
        obtain ⟨hbo, hle⟩ := hrow.both
        have hgood := good_any g _ _ hrow.1
        have hleft := left_any g _ _ hrow.1
        have hdone := done_any g _ _ hrow.1
        have hidone := idone_any _ _ _ hrow.2.2.1
        rw [hbo] at hgood
        rw [hle] at hleft
        have HG := Lib.hid hgood
        have HL := Lib.hid hleft
        have HD := Lib.hid hdone
        have HI := Lib.hid hidone
        clear hbo hle hgood hleft hdone hidone
        obtain ⟨cb0, cb1⟩ := hrow.cells
        cases y'
        all_goals
          refine wp_region_sched (fun w' => (w'.cell? ⟨B0, 0, none⟩ = some (.slice A' n' c') ∧ w'.cell? ⟨B0, 1, none⟩ = some (.bool _)) ∧ ReadsRow w N g B0 A' n' c' _ st' w')
            [(true, 0), (true, 2), (true, 3), (false, 1), (true, 4), (true, 5), (true, 6), (true, 8), (true, 9), (true, 10), (false, 7), (true, 11), (true, 12), (true, 13), (true, 14), (true, 16), (false, 15), (false, 17), (true, 18), (true, 19)] (by kernel_rfl) (by kernel_rfl) rfl (by kernel_rfl) ⟨⟨cb0, cb1⟩, hrow⟩ ?_
          (repeat (first | (refine wpS_pass _ rfl (by rfl) ?_; simp only [Act.put, List.getElem_toArray, List.getElem_cons_zero, List.getElem_cons_succ, List.setIfInBounds_toArray, List.set_cons_zero, List.set_cons_succ]) | (refine wpS_take _ ?_ rfl (by rfl) ?_ ?_; rotate_left; (focus (intro w' hS'; (try dsimp only at hS'); (repeat (have hS1 := hS'.1; replace hS' := hS'.2)); go_simp; (try with_reducible rfl); done)); simp only [Act.put, List.getElem_toArray, List.getElem_cons_zero, List.getElem_cons_succ, List.setIfInBounds_toArray, List.set_cons_zero, List.set_cons_succ])))
          refine wpS_do _ rfl (by rfl) (fun K hK => ?_)
          go_simp
          refine HG.out.mono ?_
          rintro e w7 ⟨rfl, rfl⟩
          refine hK.out _ _ ⟨⟨cb0, cb1⟩, hrow⟩ (fun hS => ?_)
          clear hK hS
          (repeat (first | (refine wpS_pass _ rfl (by rfl) ?_; simp only [Act.put, List.getElem_toArray, List.getElem_cons_zero, List.getElem_cons_succ, List.setIfInBounds_toArray, List.set_cons_zero, List.set_cons_succ]) | (refine wpS_take _ ?_ rfl (by rfl) ?_ ?_; rotate_left; (focus (intro w' hS'; (try dsimp only at hS'); (repeat (have hS1 := hS'.1; replace hS' := hS'.2)); go_simp; (try with_reducible rfl); done)); simp only [Act.put, List.getElem_toArray, List.getElem_cons_zero, List.getElem_cons_succ, List.setIfInBounds_toArray, List.set_cons_zero, List.set_cons_succ])))
          refine wpS_do _ rfl (by rfl) (fun K hK => ?_)
          go_simp
          refine HL.out.mono ?_
          rintro e w7 ⟨rfl, rfl⟩
          refine hK.out _ _ ⟨⟨cb0, cb1⟩, hrow⟩ (fun hS => ?_)
          clear hK hS
          (repeat (first | (refine wpS_pass _ rfl (by rfl) ?_; simp only [Act.put, List.getElem_toArray, List.getElem_cons_zero, List.getElem_cons_succ, List.setIfInBounds_toArray, List.set_cons_zero, List.set_cons_succ]) | (refine wpS_take _ ?_ rfl (by rfl) ?_ ?_; rotate_left; (focus (intro w' hS'; (try dsimp only at hS'); (repeat (have hS1 := hS'.1; replace hS' := hS'.2)); go_simp; (try with_reducible rfl); done)); simp only [Act.put, List.getElem_toArray, List.getElem_cons_zero, List.getElem_cons_succ, List.setIfInBounds_toArray, List.set_cons_zero, List.set_cons_succ])))
          refine wpS_do _ rfl (by rfl) (fun K hK => ?_)
          go_simp
          refine HD.out.mono ?_
          rintro e w7 ⟨rfl, rfl⟩
          refine hK.out _ _ ⟨⟨cb0, cb1⟩, hrow⟩ (fun hS => ?_)
          clear hK hS
          (repeat (first | (refine wpS_pass _ rfl (by rfl) ?_; simp only [Act.put, List.getElem_toArray, List.getElem_cons_zero, List.getElem_cons_succ, List.setIfInBounds_toArray, List.set_cons_zero, List.set_cons_succ]) | (refine wpS_take _ ?_ rfl (by rfl) ?_ ?_; rotate_left; (focus (intro w' hS'; (try dsimp only at hS'); (repeat (have hS1 := hS'.1; replace hS' := hS'.2)); go_simp; (try with_reducible rfl); done)); simp only [Act.put, List.getElem_toArray, List.getElem_cons_zero, List.getElem_cons_succ, List.setIfInBounds_toArray, List.set_cons_zero, List.set_cons_succ])))
          refine wpS_do _ rfl (by rfl) (fun K hK => ?_)
          go_simp
          refine HI.out.mono ?_
          rintro e w7 ⟨rfl, hb7⟩
          have hrow7 := hrow.below hb7
          refine hK.out _ _ ⟨hrow7.cells, hrow7⟩ (fun hS => ?_)
          clear hK hS hb7 HG HL HD HI cb0 cb1
          (repeat (first | (refine wpS_pass _ rfl (by rfl) ?_; simp only [Act.put, List.getElem_toArray, List.getElem_cons_zero, List.getElem_cons_succ, List.setIfInBounds_toArray, List.set_cons_zero, List.set_cons_succ]) | (refine wpS_take _ ?_ rfl (by rfl) ?_ ?_; rotate_left; (focus (intro w' hS'; (try dsimp only at hS'); (repeat (have hS1 := hS'.1; replace hS' := hS'.2)); go_simp; (try with_reducible rfl); done)); simp only [Act.put, List.getElem_toArray, List.getElem_cons_zero, List.getElem_cons_succ, List.setIfInBounds_toArray, List.set_cons_zero, List.set_cons_succ])))
          refine wpS_done ?_
          go_wp2_with fail
          go_roundg (zs.length - (k + 1))
          case measure => omega
          case rel => exact ⟨k + 1, _, _, _, _, _, by omega, rfl, by go_num, hrow7⟩
    · go_wp2_with fail
      go_ret
      exact ⟨rfl, hbel⟩
end Go.Proofs.Ytgmhdkkhiclilaa
