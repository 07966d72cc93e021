
/- The document's sum, plain; rows of words that grow. No condition. -/

import Derived.Test.YtkiggfahcakdeaaShaSum

namespace Go.Proofs.Ytkiggfahcakdeaa

set_option linter.unusedVariables false

set_option linter.unusedSimpArgs false

open Go.RowKit

theorem wd_bit (a : UInt8) (i : Nat) (h : 8 ≤ i) : (wd a).getLsbD i = false := by
  unfold wd
  rw [BitVec.getLsbD_ofNat]
  have h2 : a.toNat < 2 ^ i := Nat.lt_of_lt_of_le a.toNat_lt (Nat.pow_le_pow_right (by omega) h)
  rw [Nat.testBit_lt_two_pow h2]; simp
theorem word4_add (a b c d : UInt8) : wd a <<< 24 + wd b <<< 16 + wd c <<< 8 + wd d = word4 a b c d := by
  unfold word4
  have e : ∀ x y : W32, x &&& y = 0#32 → x + y = x ||| y := fun x y h => BitVec.add_eq_or_of_and_eq_zero x y h
  have h1 : wd a <<< 24 &&& wd b <<< 16 = 0#32 := by
    refine BitVec.eq_of_getLsbD_eq fun i hi => ?_
    simp only [BitVec.getLsbD_and, BitVec.getLsbD_shiftLeft, BitVec.getLsbD_zero]
    by_cases h : i < 24
    · simp [h]
    · rw [wd_bit b (i - 16) (by omega)]; simp
  have h2 : (wd a <<< 24 ||| wd b <<< 16) &&& wd c <<< 8 = 0#32 := by
    refine BitVec.eq_of_getLsbD_eq fun i hi => ?_
    simp only [BitVec.getLsbD_and, BitVec.getLsbD_or, BitVec.getLsbD_shiftLeft, BitVec.getLsbD_zero]
    by_cases h : i < 16
    · have : i < 24 := by omega
      simp [h, this]
    · rw [wd_bit c (i - 8) (by omega)]; simp
  have h3 : (wd a <<< 24 ||| wd b <<< 16 ||| wd c <<< 8) &&& wd d = 0#32 := by
    refine BitVec.eq_of_getLsbD_eq fun i hi => ?_
    simp only [BitVec.getLsbD_and, BitVec.getLsbD_or, BitVec.getLsbD_shiftLeft, BitVec.getLsbD_zero]
    by_cases h : i < 8
    · have : i < 24 := by omega
      have : i < 16 := by omega
      simp [*]
    · rw [wd_bit d i (by omega)]; simp
  rw [e _ _ h1, e _ _ h2, e _ _ h3]
/-- the document's word, as the walk has it -/
theorem word4_addW (a b c d : UInt8) : addW (addW (addW (shlW (wd a) 24) (shlW (wd b) 16)) (shlW (wd c) 8)) (wd d) = word4 a b c d := word4_add a b c d

/-! ### rows of words of the call's own -/

theorem info_u32 : (Try.prog.info? 66).map (fun i => (i.zero, i.size, i.bytes)) = some (some (.int .u32 0), 1, 4) := by kernel_rfl
theorem w32s_append (a b : List W32) : w32s (a ++ b) = w32s a ++ w32s b := by simp [w32s]
structure OwnW (N : Nat) (w0 w : World) (v : Value) (zs : List W32) : Prop where
  own : w.ownsRow N 66 1 v zs.length (w32s zs)
  bel : Below N w0 w
  sz : N ≤ w.heap.size
theorem wpList_append_w {ops : Array Oper} {rest : List Oper} {o : Oper} {a : Act} {Q : Exit → Act → World → Prop} {w0 wr : World} (hgd : o.guard = none) (s x : Operand)
    (ho : o.op = .call { callee := .builtin .append, args := #[s, x], argTypes := #[37, 37] }) {N : Nat} {v u : Value} {zs : List W32} (y : W32) (hs : a.eval s = v)
    (hx : a.eval x = .slice (some ⟨wr.heap.size, 0, none⟩) 1 1) (hu : u = .int .u32 (y.toNat : Int)) (hown : OwnW N w0 wr v zs) (hlen : zs.length + 1 ≤ 1099511627776)
    (h : ∀ v' w', OwnW N w0 w' v' (zs ++ [y]) → wpList Try.prog ops Q rest (a.put o.dst v') w') : wpList Try.prog ops Q (o :: rest) a (wr.alloc (.cells #[u] 66)) := by
  subst hu
  refine wpList_append_rd _ hgd s x 37 ho N 66 (.int .u32 0) 1 4 Try.underlying37 info_u32 rfl (by decide) v zs.length (w32s zs) hs (hown.own.alloc _) _ 1 1 (w32s [y]) hx rfl (Rd.new _ _ _) (w32s_one _)
    (by unfold maxLen; omega) (by omega) (Nat.le_trans hown.sz (by simp)) ?_
  intro v' w' h1 h2 _
  refine h v' w' ⟨by rw [List.length_append, w32s_append]; exact h1, ?_, ?_⟩
  · exact below_grown_own (hown.bel.alloc hown.sz _) (hown.own.alloc _) h2 (Nat.le_trans hown.sz (by simp))
  · have := h2.size
    have := hown.sz
    simp at *
    omega
theorem OwnW.startN (w0 w : World) (N : Nat) (hb : Below N w0 w) (hN : N ≤ w.heap.size) : OwnW N w0 (w.alloc (.cells #[] 66)) (.slice (some ⟨w.heap.size, 0, none⟩) 0 0) [] :=
  ⟨own_new w _ _ 1 0 [] hN rfl (by decide), hb.alloc hN _, Nat.le_trans hN (by simp)⟩
theorem OwnW.lit (w0 w : World) (N : Nat) (zs : List W32) (hz : zs.length ≤ 1000) (hb : Below N w0 w) (hN : N ≤ w.heap.size) : OwnW N w0 (w.alloc (.cells (w32s zs).toArray 66)) (.slice (some ⟨w.heap.size, 0, none⟩) zs.length zs.length) zs :=
  ⟨own_new w _ _ 1 zs.length (w32s zs) hN (by simp [w32s]) (by unfold maxLen; omega), hb.alloc hN _, Nat.le_trans hN (by simp)⟩
theorem OwnW.slice {N : Nat} {w0 w : World} {v : Value} {zs : List W32} (h : OwnW N w0 w v zs) :
    ∃ A n c, v = .slice A n c ∧ n = zs.length ∧ n ≤ c ∧ c ≤ maxLen ∧ Rd w A (w32s zs) := by
  obtain ⟨A, c, rfl, h1, h2, h3, _⟩ := own_slice h.own
  exact ⟨A, _, c, rfl, rfl, h1, h2, own_rd h.own⟩
theorem OwnW.later {N : Nat} {w0 w1 w2 : World} {v : Value} {zs : List W32} (h : OwnW N w0 w1 v zs) (hb : Below w1.heap.size w1 w2) : OwnW N w0 w2 v zs :=
  ⟨own_below h.own hb, h.bel.trans (hb.mono h.sz), Nat.le_trans h.sz hb.size⟩
theorem OwnW.drew {N : Nat} {w0 w1 : World} {v : Value} {zs : List W32} (h : OwnW N w0 w1 v zs) : OwnW N w0 w1.drew v zs := h.later ((Below.refl _ _).drew)
theorem Rd.word {w : World} {A : Option Addr} {ws : List W32} (h : Rd w A (w32s ws)) (k : Nat) (hk : k < ws.length) :
    ∃ b o, A = some ⟨b, o, none⟩ ∧ w.cell? ⟨b, o + k, none⟩ = some (.int .u32 (ws[k].toNat : Int)) := h k _ (w32s_get ws k hk)
theorem Rd.wordat {w : World} {b o : Nat} {ws : List W32} (h : Rd w (some ⟨b, o, none⟩) (w32s ws)) (k : Nat) (hk : k < ws.length) : w.cell? ⟨b, o + k, none⟩ = some (.int .u32 (ws[k].toNat : Int)) := by
  obtain ⟨b', o', he, hc⟩ := h.word k hk
  cases he
  exact hc

/-! ### the document's bytes -/

theorem outB_at (V : St8) (k : Nat) (hk : k < 32) : (outB V).length = 32 ∧ (outB V)[k]'(by show k < 32; exact hk) = UInt8.ofNat ((V.list[k / 4]'(by show k / 4 < 8; omega)).toNat / 2 ^ (24 - 8 * (k % 4))) := by
  refine ⟨rfl, ?_⟩
  have e : ∀ (x : W32) (j : Nat), UInt8.ofNat (x >>> j).toNat = UInt8.ofNat (x.toNat / 2 ^ j) := fun x j => by rw [BitVec.toNat_ushiftRight, Nat.shiftRight_eq_div_pow]
  have e0 : ∀ (x : W32), UInt8.ofNat x.toNat = UInt8.ofNat (x.toNat / 2 ^ 0) := fun x => by simp
  match k, hk with
  | 0, _ => exact e V.a 24
  | 1, _ => exact e V.a 16
  | 2, _ => exact e V.a 8
  | 3, _ => exact e0 V.a
  | 4, _ => exact e V.b 24
  | 5, _ => exact e V.b 16
  | 6, _ => exact e V.b 8
  | 7, _ => exact e0 V.b
  | 8, _ => exact e V.c 24
  | 9, _ => exact e V.c 16
  | 10, _ => exact e V.c 8
  | 11, _ => exact e0 V.c
  | 12, _ => exact e V.d 24
  | 13, _ => exact e V.d 16
  | 14, _ => exact e V.d 8
  | 15, _ => exact e0 V.d
  | 16, _ => exact e V.e 24
  | 17, _ => exact e V.e 16
  | 18, _ => exact e V.e 8
  | 19, _ => exact e0 V.e
  | 20, _ => exact e V.f 24
  | 21, _ => exact e V.f 16
  | 22, _ => exact e V.f 8
  | 23, _ => exact e0 V.f
  | 24, _ => exact e V.g 24
  | 25, _ => exact e V.g 16
  | 26, _ => exact e V.g 8
  | 27, _ => exact e0 V.g
  | 28, _ => exact e V.h 24
  | 29, _ => exact e V.h 16
  | 30, _ => exact e V.h 8
  | 31, _ => exact e0 V.h
  | k + 32, h => omega
theorem words_at (P : List UInt8) (m k : Nat) (hk : k < 16) (h : 64 * m + 64 ≤ P.length) : (words (P.drop (64 * m))).take (k + 1) = (words (P.drop (64 * m))).take k ++
    [addW (addW (addW (shlW (wd (P[64 * m + 4 * k]'(by omega))) 24) (shlW (wd (P[64 * m + 4 * k + 1]'(by omega))) 16)) (shlW (wd (P[64 * m + 4 * k + 2]'(by omega))) 8)) (wd (P[64 * m + 4 * k + 3]'(by omega)))] := by
  rw [words_take_succ _ _ hk, word4_addW]
  have hg : ∀ j (hj : 64 * m + j < P.length), (P.drop (64 * m)).getD j 0 = P[64 * m + j] := fun j hj => by
    rw [List.getD_eq_getElem?_getD, List.getElem?_drop, List.getElem?_eq_getElem hj]; rfl
  rw [hg (4 * k) (by omega), hg (4 * k + 1) (by omega), hg (4 * k + 2) (by omega), hg (4 * k + 3) (by omega)]
  congr 2
theorem bits64 (n : Nat) (h : n ≤ 140737488355328) : IntKind.u64.wrap ((n : Int) * 8) = ((8 * n : Nat) : Int) := by
  simp [IntKind.wrap, IntKind.signed, IntKind.bits]; omega
end Go.Proofs.Ytkiggfahcakdeaa
