
/- What the document's Tables makes. -/

import Derived.Test.YtkiggfahcakdeaaShaTab4

import Derived.Test.YtkiggfahcakdeaaShaRefA

namespace Go.Proofs.Ytkiggfahcakdeaa

set_option linter.unusedVariables false

set_option linter.unusedSimpArgs false

open Go.RowKit

def tabR (k : Nat) : List W32 := ((plist 312).take k).map fun p => rootW p 3
def tabF (k : Nat) : List W32 := ((plist 312).take (min k 8)).map fun p => rootW p 2
theorem tabR_succ (k : Nat) (h : k < (plist 312).length) : tabR (k + 1) = tabR k ++ [rootW ((plist 312)[k]) 3] := by
  unfold tabR
  rw [List.take_succ_eq_append_getElem h, List.map_append]; rfl
theorem tabF_succ (k : Nat) (h : k < (plist 312).length) (h8 : k < 8) : tabF (k + 1) = tabF k ++ [rootW ((plist 312)[k]) 2] := by
  unfold tabF
  rw [show min (k + 1) 8 = k + 1 by omega, show min k 8 = k by omega, List.take_succ_eq_append_getElem h, List.map_append]; rfl
theorem tabF_stay (k : Nat) (h8 : ¬ k < 8) : tabF (k + 1) = tabF k := by
  unfold tabF
  rw [show min (k + 1) 8 = 8 by omega, show min k 8 = 8 by omega]
theorem plist_le : ∀ p ∈ plist 312, p ≤ 1000 := by decide +kernel

/-- what holds of the two rows while the table grows -/
structure TabInv (T N : Nat) (w0 w : World) (vF vR : Value) (kF kR : List W32) : Prop where
  row : w.heap[T]? = some (.cells #[vF, vR] 39 (0, 0))
  f : w.ownsRow N 66 1 vF kF.length (w32s kF)
  r : w.ownsRow N 66 1 vR kR.length (w32s kR)
  apart : (vF.ownBlock = none ∨ vF.ownBlock ≠ vR.ownBlock) ∧ (vR.ownBlock = none ∨ vR.ownBlock ≠ vF.ownBlock)
  grown : w0.grownBy w (some T)
theorem own_setT {w : World} {N T j : Nat} {v u : Value} {n : Nat} {xs : List Value} (h : w.ownsRow N 66 1 v n xs) (hT : T < N) : (w.setCell ⟨T, j, none⟩ u).ownsRow N 66 1 v n xs :=
  own_keep h fun b hb _ => Below.heap_setCell _ _ _ _ (fun e => by have := (h.lt b hb).1; have e' : b = T := e; omega)
/-- the row of the rounds has grown -/
theorem TabInv.stepR {T N : Nat} {w0 w w4 w5 : World} {vF vR v5 : Value} {kF kR : List W32} (h : TabInv T N w0 w vF vR kF kR) (hT : T < N) (hN : N ≤ w.heap.size) (hN0 : w0.heap.size ≤ N) (hb : Below w.heap.size w w4) (ob : Obj) (y : W32)
    (ho : w5.ownsRow N 66 1 v5 (kR.length + 1) (w32s kR ++ w32s [y])) (hg : (w4.alloc ob).grownBy w5 vR.ownBlock) (hv : v5.ownBlock = vR.ownBlock ∨ v5.ownBlock = some (w4.alloc ob).heap.size) :
    TabInv T N w0 (w5.setCell ⟨T, 1, none⟩ v5) vF v5 kF (kR ++ [y]) := by
  have hTw : T < w.heap.size := by omega
  have hTR : some T ≠ vR.ownBlock := fun e => by have := (h.r.lt T e.symm).1; omega
  have hr4 : w4.heap[T]? = _ := (hb.block T hTw).trans h.row
  have hr5 : w5.heap[T]? = some (.cells #[vF, vR] 39 (0, 0)) := (hg.block T (by have := hb.size; simp; omega) hTR).trans ((Below.heap_alloc w4 _ _ (by have := hb.size; omega)).trans hr4)
  have hf4 := (own_below h.f hb).alloc ob
  have hlt := fun k (e : vF.ownBlock = some k) => (hf4.lt k e).2
  refine ⟨?_, own_setT (hf4.kept hg h.apart.1) hT, own_setT (by rw [List.length_append, w32s_append]; exact ho) hT, ?_, ?_⟩
  · have := row_set hr5 1 v5
    simpa using this
  · have key : ∀ k, vF.ownBlock = some k → v5.ownBlock ≠ some k := fun k e e5 => by
      rcases hv with hv | hv
      · rw [hv] at e5
        rcases h.apart.1 with h1 | h1
        · rw [h1] at e; cases e
        · exact h1 (by rw [e, e5])
      · rw [hv] at e5
        have := hlt k e
        have := Option.some.inj e5
        have hl2 := (own_below h.f hb).lt k e
        simp at this
        omega
    refine ⟨?_, ?_⟩
    · cases hF : vF.ownBlock with
      | none => exact .inl rfl
      | some k => exact .inr (fun e => key k hF e.symm)
    · cases h5 : v5.ownBlock with
      | none => exact .inl rfl
      | some k => exact .inr (fun e => key k e.symm h5)
  · have hg0 := h.grown
    refine ⟨hg.os.trans (hb.os.trans hg0.os), hg.tape.trans (hb.tape.trans hg0.tape), hg.output.trans (hb.output.trans hg0.output), by have := hg.size; have := hb.size; have := hg0.size; simp [World.setCell] at *; omega, fun j hj hne => ?_⟩
    have hjw : j < w.heap.size := by omega
    have hjR : some j ≠ vR.ownBlock := fun e => by have := (h.r.lt j e.symm).1; omega
    have hjT : T ≠ j := fun e => hne (by rw [e])
    exact (Below.heap_setCell _ _ _ _ (Ne.symm hjT)).trans ((hg.block j (by have := hb.size; simp; omega) hjR).trans ((Below.heap_alloc w4 _ _ (by have := hb.size; omega)).trans ((hb.block j hjw).trans (hg0.block j hj hne))))

/-- the row of the first words has grown -/
theorem TabInv.stepF {T N : Nat} {w0 w w4 w5 : World} {vF vR v5 : Value} {kF kR : List W32} (h : TabInv T N w0 w vF vR kF kR) (hT : T < N) (hN : N ≤ w.heap.size) (hN0 : w0.heap.size ≤ N) (hb : Below w.heap.size w w4) (ob : Obj) (y : W32)
    (ho : w5.ownsRow N 66 1 v5 (kF.length + 1) (w32s kF ++ w32s [y])) (hg : (w4.alloc ob).grownBy w5 vF.ownBlock) (hv : v5.ownBlock = vF.ownBlock ∨ v5.ownBlock = some (w4.alloc ob).heap.size) :
    TabInv T N w0 (w5.setCell ⟨T, 0, none⟩ v5) v5 vR (kF ++ [y]) kR := by
  have hTw : T < w.heap.size := by omega
  have hTR : some T ≠ vF.ownBlock := fun e => by have := (h.f.lt T e.symm).1; omega
  have hr4 : w4.heap[T]? = _ := (hb.block T hTw).trans h.row
  have hr5 : w5.heap[T]? = some (.cells #[vF, vR] 39 (0, 0)) := (hg.block T (by have := hb.size; simp; omega) hTR).trans ((Below.heap_alloc w4 _ _ (by have := hb.size; omega)).trans hr4)
  have hf4 := (own_below h.r hb).alloc ob
  have hlt := fun k (e : vR.ownBlock = some k) => (hf4.lt k e).2
  refine ⟨?_, own_setT (by rw [List.length_append, w32s_append]; exact ho) hT, own_setT (hf4.kept hg h.apart.2) hT, ?_, ?_⟩
  · have := row_set hr5 0 v5
    simpa using this
  · have key : ∀ k, vR.ownBlock = some k → v5.ownBlock ≠ some k := fun k e e5 => by
      rcases hv with hv | hv
      · rw [hv] at e5
        rcases h.apart.2 with h1 | h1
        · rw [h1] at e; cases e
        · exact h1 (by rw [e, e5])
      · rw [hv] at e5
        have := hlt k e
        have := Option.some.inj e5
        have hl2 := (own_below h.r hb).lt k e
        simp at this
        omega
    refine ⟨?_, ?_⟩
    · cases h5 : v5.ownBlock with
      | none => exact .inl rfl
      | some k => exact .inr (fun e => key k e.symm h5)
    · cases hF : vR.ownBlock with
      | none => exact .inl rfl
      | some k => exact .inr (fun e => key k hF e.symm)
  · have hg0 := h.grown
    refine ⟨hg.os.trans (hb.os.trans hg0.os), hg.tape.trans (hb.tape.trans hg0.tape), hg.output.trans (hb.output.trans hg0.output), by have := hg.size; have := hb.size; have := hg0.size; simp [World.setCell] at *; omega, fun j hj hne => ?_⟩
    have hjw : j < w.heap.size := by omega
    have hjR : some j ≠ vF.ownBlock := fun e => by have := (h.f.lt j e.symm).1; omega
    have hjT : T ≠ j := fun e => hne (by rw [e])
    exact (Below.heap_setCell _ _ _ _ (Ne.symm hjT)).trans ((hg.block j (by have := hb.size; simp; omega) hjR).trans ((Below.heap_alloc w4 _ _ (by have := hb.size; omega)).trans ((hb.block j hjw).trans (hg0.block j hj hne))))

set_option maxRecDepth 100000 in
set_option maxHeartbeats 2000000 in
theorem tables_any (w : World) : Calls Try.prog 18 #[] w fun e w' => ∃ A1 A2 c1 c2, e = .returned (.agg #[.slice A1 8 c1, .slice A2 64 c2]) ∧ Below w.heap.size w w' ∧ Rd w' A1 (w32s H0.list) ∧ Rd w' A2 (w32s K0) := by
  go_enter Try.func18, Try.ntmps18
  go_wp2_with fail
  obtain ⟨W2, hW2⟩ : ∃ W2, (w.alloc (.cells #[.slice none 0 0, .slice none 0 0] 39)).alloc (.cells #[.slice none 0 0, .slice none 0 0] 39) = W2 := ⟨_, rfl⟩
  have hb2 : Below w.heap.size w W2 := by rw [← hW2]; exact ((Below.refl _ _).alloc (Nat.le_refl _) _).alloc (by simp) _
  have hs2 : W2.heap.size = w.heap.size + 2 := by rw [← hW2]; simp
  have hr0 : W2.heap[w.heap.size]? = some (.cells #[.slice none 0 0, .slice none 0 0] 39 (0, 0)) := by rw [← hW2]; exact (Below.heap_alloc _ _ _ (by simp)).trans (heap_alloc_new w _)
  have hr1 : W2.heap[w.heap.size + 1]? = some (.cells #[.slice none 0 0, .slice none 0 0] 39 (0, 0)) := by
    rw [← hW2]
    have := heap_alloc_new (w.alloc (.cells #[.slice none 0 0, .slice none 0 0] 39)) (.cells #[.slice none 0 0, .slice none 0 0] 39 (0, 0))
    rwa [show (w.alloc (.cells #[.slice none 0 0, .slice none 0 0] 39)).heap.size = w.heap.size + 1 by simp] at this
  rw [hW2]
  refine (primes_any W2).mono ?_
  rintro e w3 ⟨v, rfl, hown⟩
  obtain ⟨A2, n2, c2, rfl, hn2, hnc2, hc2, hr2⟩ := hown.slice
  rw [plist_312] at hn2
  obtain rfl := hn2
  have hb3 := hown.bel
  have hsz3 := hown.sz
  have HR0 := Lib.hid ((hb3.block _ (by omega)).trans hr0)
  have hR1 := (hb3.block (w.heap.size + 1) (by omega)).trans hr1
  have HB3 := Lib.hid (ext_trans hb2 hb3)
  have HR2 := Lib.hid hr2
  have hT : w.heap.size + 1 < w3.heap.size := by omega
  unfold maxLen at hc2
  have hAT : ∀ ad, A2 = some ad → ad.block ≠ w.heap.size + 1 := fun ad e => by
    subst e
    obtain ⟨A, c, he, _, _, hA, _⟩ := own_slice hown.own
    cases he
    have := (hA ad rfl).1
    omega
  have HAT := Lib.hid hAT
  have hF0 : Hid (w3.ownsRow w3.heap.size 66 1 (.slice none 0 0) (tabF 0).length (w32s (tabF 0))) := Lib.hid (World.ownsRow_nil _ _ _ _)
  have hR0 : Hid (w3.ownsRow w3.heap.size 66 1 (.slice none 0 0) (tabR 0).length (w32s (tabR 0))) := Lib.hid (World.ownsRow_nil _ _ _ _)
  have HR1 := Lib.hid hR1
  have hg0 : w3.grownBy w3 (some (w.heap.size + 1)) := World.grownBy.refl _ _
  clear hW2 hb2 hs2 hr0 hr1 hown hr2 hb3 hsz3 hR1 hAT
  go_wp2_with fail
  go_loopg [3] 64 (fun gk_ i wr => ∃ (k : Nat) (vF vR : Value), k ≤ 64 ∧ gk_ = 64 - k ∧ i = .int .i64 (k : Int) ∧ Hid (TabInv (w.heap.size + 1) w3.heap.size w3 wr vF vR (tabF k) (tabR k)))
  case atStart => exact ⟨0, _, _, by omega, by omega, rfl, Lib.hid ⟨HR1.out, hF0.out, hR0.out, ⟨.inl rfl, .inl rfl⟩, hg0⟩⟩
  case round =>
    clear HR1 hF0 hR0 hg0
    obtain ⟨k, vF, vR, hk, rfl, rfl, HI⟩ := hrel
    have HT := Lib.hid HI.out.row
    have HR := Lib.hid HI.out.r
    have hg := HI.out.grown
    by_cases hlt : k < 64
    · have hkI : (k : Int) < 64 := by omega
      have hpl : k < (plist 312).length := by rw [plist_312]; exact hlt
      obtain ⟨b, o, rfl, hc⟩ := (HR2.out.grown hg (fun ad e h => HAT.out ad e (Option.some.inj h))).nat k hpl
      obtain ⟨p, hp⟩ : ∃ p, (plist 312)[k] = p := ⟨_, rfl⟩
      have hp1 : p ≤ 1000 := by rw [← hp]; exact plist_le _ (List.getElem_mem hpl)
      rw [hp] at hc
      have t0 : wr.cell? ⟨w.heap.size + 1, 0, none⟩ = some vF := by rw [row_cell HT.out]; rfl
      have t1 : wr.cell? ⟨w.heap.size + 1, 1, none⟩ = some vR := by rw [row_cell HT.out]; rfl
      have HP := Lib.hid hp
      clear hp
      go_wp2_with fail
      have hgs := hg.size
      have hbd : Below wr.heap.size wr wr.drew := (Below.refl _ _).drew
      have hl6 : (tabR k).length + 1 ≤ 1099511627776 := by unfold tabR; rw [List.length_map, List.length_take]; omega
      go_region_law (first
        | (refine step_append_rd rfl _ _ 37 rfl w3.heap.size 66 (.int .u32 0) 1 4 Try.underlying37 info_u32 rfl (by decide) _ _ _ rfl (hR4.alloc _) _ 1 _ (w32s [rootW p 3]) rfl rfl (Rd.new w4 (w32s [rootW p 3]) _) (w32s_one _) (by unfold maxLen; omega) (by omega) (by have := hs4; simp; omega) ?_; intro v5 w5 ho5 hg5 hv5; obtain ⟨A5, c5, hA5, hc5, hm5, _, _⟩ := own_slice ho5; subst hA5; have hT5 : w5.heap[w.heap.size + 1]? = some (.cells #[vF, vR] 39 (0, 0)) := (hg5.block (w.heap.size + 1) (by simp; omega) (fun e => by have := (HR.out.lt _ e.symm).1; omega)).trans ((Below.heap_alloc w4 _ _ (by omega)).trans ((hb4'.block _ (by omega)).trans HT.out)); have q1 : w5.cell? ⟨w.heap.size + 1, 1, none⟩ = some vR := (by rw [row_cell hT5]; rfl); have q2 : w5.frozen? ⟨w.heap.size + 1, 1, none⟩ = false := row_free hT5 1)
        | (refine step_plain rfl ?_; go_simp; refine (root_any p 3 (.inr rfl) hp1 _).mono ?_; rintro e w4 ⟨rfl, hb4⟩; have hb4' := hbd.trans hb4; have hR4 := own_below HR.out hb4'; have hs4 := hb4'.size; have r4 := (hb4'.block (w.heap.size + 1) (by omega)).trans HT.out; have r5 : w4.cell? ⟨w.heap.size + 1, 1, none⟩ = some vR := (by rw [row_cell r4]; rfl); have r6 : w.heap.size + 1 < w4.heap.size := (by omega); have r7 : (⟨w.heap.size + 1, 1, none⟩ : Addr) ≠ ⟨w4.heap.size, 0, none⟩ := (by intro h; injection h; omega); clear r4; dsimp only))
      all_goals
        have HI2 := Lib.hid (TabInv.stepR HI.out hT hgs (Nat.le_refl _) hb4' _ (rootW p 3) ho5 hg5 hv5)
        rw [show tabR k ++ [rootW p 3] = tabR (k + 1) by rw [tabR_succ k hpl, HP.out]] at HI2
        have hk2 := HI2.out.grown
        generalize Value.slice A5 ((tabR k).length + 1) c5 = v5 at *
        generalize w5.setCell ⟨w.heap.size + 1, 1, none⟩ v5 = W6 at *
        clear ho5 hg5 hv5 q1 q2 hT5 r5 r6 r7 hR4 hb4 hb4' hs4 t0 t1 HI HT HR hg
        by_cases h8 : k < 8
        · have h8I : (k : Int) < 8 := by omega
          have hg := HI2.out.grown
          have HT := Lib.hid HI2.out.row
          have HF := Lib.hid HI2.out.f
          have hgs := hg.size
          have hcc : W6.cell? ⟨b, o + k, none⟩ = some (.int .i64 (p : Int)) := by
            have h1 := (HR2.out.grown hg (fun ad e h => HAT.out ad e (Option.some.inj h))).nat k hpl
            obtain ⟨b', o', he, h2⟩ := h1
            cases he
            rw [HP.out] at h2
            exact h2
          have t0 : W6.cell? ⟨w.heap.size + 1, 0, none⟩ = some vF := by rw [row_cell HT.out]; rfl
          have hbd : Below W6.heap.size W6 W6.drew := (Below.refl _ _).drew
          have hl7 : (tabF k).length + 1 ≤ 1099511627776 := by unfold tabF; rw [List.length_map, List.length_take]; omega
          go_wp2_with fail
          go_region_law (first
            | (refine step_append_rd rfl _ _ 37 rfl w3.heap.size 66 (.int .u32 0) 1 4 Try.underlying37 info_u32 rfl (by decide) _ _ _ rfl (hF4.alloc _) _ 1 _ (w32s [rootW p 2]) rfl rfl (Rd.new w7 (w32s [rootW p 2]) _) (w32s_one _) (by unfold maxLen; omega) (by omega) (by have := hs7; simp; omega) ?_; intro v8 w8 ho8 hg8 hv8; obtain ⟨A8, c8, hA8, hc8, hm8, _, _⟩ := own_slice ho8; subst hA8; have hT8 : w8.heap[w.heap.size + 1]? = some (.cells #[vF, v5] 39 (0, 0)) := (hg8.block (w.heap.size + 1) (by simp; omega) (fun e => by have := (HF.out.lt _ e.symm).1; omega)).trans ((Below.heap_alloc w7 _ _ (by omega)).trans ((hb7'.block _ (by omega)).trans HT.out)); have q1 : w8.cell? ⟨w.heap.size + 1, 0, none⟩ = some vF := (by rw [row_cell hT8]; rfl); have q2 : w8.frozen? ⟨w.heap.size + 1, 0, none⟩ = false := row_free hT8 0)
            | (refine step_plain rfl ?_; go_simp; refine (root_any p 2 (.inl rfl) hp1 _).mono ?_; rintro e w7 ⟨rfl, hb7⟩; have hb7' := hbd.trans hb7; have hF4 := own_below HF.out hb7'; have hs7 := hb7'.size; have r4 := (hb7'.block (w.heap.size + 1) (by omega)).trans HT.out; have r5 : w7.cell? ⟨w.heap.size + 1, 0, none⟩ = some vF := (by rw [row_cell r4]; rfl); have r6 : w.heap.size + 1 < w7.heap.size := (by omega); have r7 : (⟨w.heap.size + 1, 0, none⟩ : Addr) ≠ ⟨w7.heap.size, 0, none⟩ := (by intro h; injection h; omega); clear r4; dsimp only))
          all_goals
            have HI3 := Lib.hid (TabInv.stepF HI2.out hT hgs (Nat.le_refl _) hb7' _ (rootW p 2) ho8 hg8 hv8)
            rw [show tabF k ++ [rootW p 2] = tabF (k + 1) by rw [tabF_succ k hpl h8, HP.out]] at HI3
            generalize Value.slice A8 ((tabF k).length + 1) c8 = v9 at *
            generalize w8.setCell ⟨w.heap.size + 1, 0, none⟩ v9 = W9 at *
            clear ho8 hg8 hv8 q1 q2 hT8 r5 r6 r7 hF4 hb7 hb7' hs7 t0 HI2 HT HF hg
            go_wp2_with fail
            go_roundg (64 - (k + 1))
            case measure => omega
            case rel => exact ⟨k + 1, v9, v5, by omega, rfl, by go_num, HI3⟩
        · have h8I : ¬ (k : Int) < 8 := by omega
          rw [← tabF_stay k h8] at HI2
          go_wp2_with fail
          go_roundg (64 - (k + 1))
          case measure => omega
          case rel => exact ⟨k + 1, vF, v5, by omega, rfl, by go_num, HI2⟩
    · obtain rfl : k = 64 := by omega
      have hF := HI.out.f
      have hR := HI.out.r
      have eF : tabF 64 = H0.list := tab_first
      have eR : tabR 64 = K0 := by unfold tabR; rw [List.take_of_length_le (by rw [plist_312]; omega)]; exact tab_rounds
      rw [eF] at hF
      rw [eR] at hR
      obtain ⟨A1, d1, hv1, _, _, _, _⟩ := own_slice hF
      obtain ⟨A3, d3, hv3, _, _, _, _⟩ := own_slice hR
      subst hv1
      subst hv3
      have t0 : wr.cell? ⟨w.heap.size + 1, 0, none⟩ = some (.slice A1 8 d1) := by rw [row_cell HI.out.row]; rfl
      have t1 : wr.cell? ⟨w.heap.size + 1, 1, none⟩ = some (.slice A3 64 d3) := by rw [row_cell HI.out.row]; rfl
      have hr0 := (HI.out.grown.block w.heap.size (by omega) (by simp)).trans HR0.out
      have z0 : wr.cell? ⟨w.heap.size, 0, none⟩ = some (.slice none 0 0) := by rw [row_cell hr0]; rfl
      have z1 : wr.cell? ⟨w.heap.size, 1, none⟩ = some (.slice none 0 0) := by rw [row_cell hr0]; rfl
      have y0 := row_free hr0 0
      have y1 := row_free hr0 1
      go_wp2_with fail
      have hbw : Below w.heap.size w wr := HB3.out.grown HI.out.grown HB3.out.size (fun j hj => by cases hj; omega)
      refine bodyPost_ret (results_row1 rfl _ _ _ _ _ _ _ rfl (row_set2 hr0 _ _) Try.underlying39 rfl info_tab) rfl ?_
      exact ⟨A1, A3, d1, d3, rfl, bel_set2 hbw hbw.size (Nat.le_refl _) _ _, own_rd (own_setT (own_setT hF (by omega)) (by omega)), own_rd (own_setT (own_setT hR (by omega)) (by omega))⟩
end Go.Proofs.Ytkiggfahcakdeaa
