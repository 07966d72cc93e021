
/- What take does to the state: the walk. -/

import Derived.Test.YtkiggfahcakdeaaShaRot

import Derived.Deep.CutBlock

import Derived.Deep.DeepCutAuto

import Derived.StillTailTactics

namespace Go.Proofs.Ytkiggfahcakdeaa

set_option linter.unusedVariables false

set_option linter.unusedSimpArgs false

open Go.RowKit

/-! ### rows of words -/

def w32s (l : List W32) : List Value := l.map fun x => .int .u32 (x.toNat : Int)
theorem w32s_length (l : List W32) : (w32s l).length = l.length := by simp [w32s]
theorem w32s_get (l : List W32) (k : Nat) (h : k < l.length) : (w32s l)[k]? = some (.int .u32 (l[k].toNat : Int)) := by simp [w32s, h]
theorem w32s_one (l : List W32) : ∀ u ∈ w32s l, u.oneCell' = true := by
  intro u hu
  obtain ⟨_, _, rfl⟩ := List.mem_map.1 hu
  rfl
/-- the words that are there, zeros behind -/
def padW (l : List W32) : List W32 := l ++ List.replicate (64 - l.length) 0#32
theorem padW_len (l : List W32) (h : l.length ≤ 64) : (padW l).length = 64 := by simp [padW]; omega
theorem padW_get (l : List W32) (j : Nat) (h : j < l.length) : (padW l)[j]? = some l[j] := by
  unfold padW
  rw [List.getElem?_append_left h, List.getElem?_eq_getElem h]
theorem padW_set (l : List W32) (x : W32) (h : l.length < 64) : (padW l).set l.length x = padW (l ++ [x]) := by
  unfold padW
  obtain ⟨m, hm⟩ : ∃ m, 64 - l.length = m + 1 := ⟨63 - l.length, by omega⟩
  have hm2 : 64 - (l ++ [x]).length = m := by simp; omega
  rw [hm, hm2, List.replicate_succ, List.set_append, if_neg (by omega), Nat.sub_self, List.set_cons_zero, List.append_assoc]
  rfl
theorem padW_full (l : List W32) (h : l.length = 64) : padW l = l := by simp [padW, h]
theorem padW_cell {w : World} {g : Nat} {l : List W32} {t : TypeId} (h : w.heap[g]? = some (.cells (w32s (padW l)).toArray t (0, 0))) (j : Nat) (hj : j < l.length) : w.cell? ⟨g, j, none⟩ = some (.int .u32 (l[j].toNat : Int)) := by
  rw [row_cell h, List.getElem?_toArray]
  have h2 := padW_get l j hj
  simp [w32s, h2]
theorem row_word {w : World} {g : Nat} {l : List W32} {t : TypeId} (h : w.heap[g]? = some (.cells (w32s l).toArray t (0, 0))) (j : Nat) (hj : j < l.length) : w.cell? ⟨g, j, none⟩ = some (.int .u32 (l[j].toNat : Int)) := by
  rw [row_cell h, List.getElem?_toArray]; exact w32s_get l j hj
theorem row_word_set {w : World} {g : Nat} {l : List W32} {t : TypeId} (h : w.heap[g]? = some (.cells (w32s l).toArray t (0, 0))) (j : Nat) (x : W32) : (w.setCell ⟨g, j, none⟩ (.int .u32 (x.toNat : Int))).heap[g]? = some (.cells (w32s (l.set j x)).toArray t (0, 0)) := by
  have := row_set h j (.int .u32 (x.toNat : Int))
  have e : (w32s l).toArray.setIfInBounds j (.int .u32 (x.toNat : Int)) = (w32s (l.set j x)).toArray := by simp [w32s, List.map_set]
  rwa [e] at this

theorem Rd.cellat {w : World} {b o : Nat} {bs : List UInt8} (h : Rd w (some ⟨b, o, none⟩) (b8s bs)) (k : Nat) (hk : k < bs.length) : w.cell? ⟨b, o + k, none⟩ = some (.int .u8 (bs[k].toNat : Int)) := by
  obtain ⟨b', o', he, hc⟩ := h.byte k hk
  cases he
  exact hc
theorem cell_ne (w : World) (g i j : Nat) (v : Value) (h : i ≠ j) : (w.setCell ⟨g, i, none⟩ v).cell? ⟨g, j, none⟩ = w.cell? ⟨g, j, none⟩ := by
  have : (⟨g, i, none⟩ : Addr) ≠ ⟨g, j, none⟩ := by intro e; injection e; omega
  exact World.cell?_setCell_other (h := this) ..
theorem wd_val (c : UInt8) : ((wd c).toNat : Int) = (c.toNat : Int) := by
  have := c.toNat_lt
  simp only [wd, BitVec.toNat_ofNat]
  omega
theorem bv_add_w (x y : W32) : IntKind.u32.wrap ((x.toNat : Int) + (y.toNat : Int)) = ((x + y).toNat : Int) := by
  rw [← bv_add]
  simp [IntKind.wrap, IntKind.signed, IntKind.bits]
theorem words_take_succ (l : List UInt8) (k : Nat) (h : k < 16) : (words l).take (k + 1) = (words l).take k ++ [word4 (l.getD (4 * k) 0) (l.getD (4 * k + 1) 0) (l.getD (4 * k + 2) 0) (l.getD (4 * k + 3) 0)] := by
  rw [List.take_succ_eq_append_getElem (by rw [words_len]; exact h), words_get l k h]

theorem w8_place {w : World} (t : TypeId) (s : St8) :
    ∃ H Wa W5, w.heap.size = H ∧ w.alloc (.cells #[Value.int .u32 0, Value.int .u32 0, Value.int .u32 0, Value.int .u32 0, Value.int .u32 0, Value.int .u32 0, Value.int .u32 0, Value.int .u32 0] t) = Wa ∧ Wa.setCells H 0 (w32s s.list).toArray.toList = W5 ∧ Hid (Wa.there H 0 (w32s s.list).toArray.size) ∧ Hid (W5.heap[H]? = some (.cells (w32s s.list).toArray t (0, 0))) ∧ Hid (Below w.heap.size w W5) ∧ Hid (W5.heap.size = H + 1) := by
  have hr : (w.alloc (.cells #[Value.int .u32 0, Value.int .u32 0, Value.int .u32 0, Value.int .u32 0, Value.int .u32 0, Value.int .u32 0, Value.int .u32 0, Value.int .u32 0] t)).heap[w.heap.size]? = some (.cells (w32s (List.replicate 8 0#32)).toArray t (0, 0)) := heap_alloc_new w _
  have hb : Below w.heap.size w (w.alloc (.cells #[Value.int .u32 0, Value.int .u32 0, Value.int .u32 0, Value.int .u32 0, Value.int .u32 0, Value.int .u32 0, Value.int .u32 0, Value.int .u32 0] t)) := (Below.refl _ _).alloc (Nat.le_refl _) _
  refine ⟨w.heap.size, _, _, rfl, rfl, rfl, Lib.hid (show World.there _ w.heap.size 0 8 from there_of_row hr), Lib.hid (row_setAll hr rfl), Lib.hid (bel_grown hb hb.size (setCells_grown _ _ _ _) (Nat.le_refl _)), Lib.hid ?_⟩
  rw [setCells_size_eq]; simp
theorem info_state : (Try.prog.info? 69).map (·.size) = some 8 := by kernel_rfl
theorem info_w : (Try.prog.info? 66).map (·.size) = some 1 := by kernel_rfl
theorem wp_copy_run {P : Program} {w : World} {o : Oper} {a : Act} {K : Act → World → Prop} {Q : Exit → Act → World → Prop} (s x : Operand) (t tn : TypeId)
    (ho : o.op = .call { callee := .builtin .copy, args := #[s, x], argTypes := #[t, tn] }) (vs vx : Value) (hs : a.eval s = vs) (hx : a.eval x = vx)
    (v' : Value) (w' : World) (hr : (Builtin.copy_ #[t, tn] o.type #[vs, vx]).run P w = .ok v' w') (h : K (a.put o.dst v') w') : o.wp P a w K Q := by
  unfold Oper.wp execOp
  simp only [ho, resolve, invoke, builtin, Sem.run_bind, Sem.run_pure, Result.andThen_ok, List.map_toArray, List.map_cons, List.map_nil, hs, hx, hr]
  exact h
theorem st8_cells {w : World} {g : Nat} {s : St8} {t : TypeId} (h : w.heap[g]? = some (.cells (w32s s.list).toArray t (0, 0))) :
    w.cell? ⟨g, 0, none⟩ = some (.int .u32 (s.a.toNat : Int)) ∧ w.cell? ⟨g, 1, none⟩ = some (.int .u32 (s.b.toNat : Int)) ∧ w.cell? ⟨g, 2, none⟩ = some (.int .u32 (s.c.toNat : Int)) ∧ w.cell? ⟨g, 3, none⟩ = some (.int .u32 (s.d.toNat : Int)) ∧
    w.cell? ⟨g, 4, none⟩ = some (.int .u32 (s.e.toNat : Int)) ∧ w.cell? ⟨g, 5, none⟩ = some (.int .u32 (s.f.toNat : Int)) ∧ w.cell? ⟨g, 6, none⟩ = some (.int .u32 (s.g.toNat : Int)) ∧ w.cell? ⟨g, 7, none⟩ = some (.int .u32 (s.h.toNat : Int)) :=
  ⟨row_word h 0 (by simp [St8.list]), row_word h 1 (by simp [St8.list]), row_word h 2 (by simp [St8.list]), row_word h 3 (by simp [St8.list]), row_word h 4 (by simp [St8.list]), row_word h 5 (by simp [St8.list]), row_word h 6 (by simp [St8.list]), row_word h 7 (by simp [St8.list])⟩
theorem turn6_any (x : W32) (w : World) : Calls Try.prog 50 #[.int .u32 (x.toNat : Int), .int .i64 6, .int .i64 11, .int .i64 25] w fun e w' => w = w' ∧ e = .returned (.int .u32 ((bg1 x).toNat : Int)) :=
  turn_any x 6 11 25 (by decide) (by decide) (by decide) w
theorem turn2_any (x : W32) (w : World) : Calls Try.prog 50 #[.int .u32 (x.toNat : Int), .int .i64 2, .int .i64 13, .int .i64 22] w fun e w' => w = w' ∧ e = .returned (.int .u32 ((bg0 x).toNat : Int)) :=
  turn_any x 2 13 22 (by decide) (by decide) (by decide) w

theorem rnds_at (K w : List W32) (k : Nat) (st : St8) (hK : k < K.length) (hw : k < w.length) : rnds K w (k + 1) st = rnd (rnds K w k st) K[k] w[k] := by
  have g : ∀ (l : List W32) (h : k < l.length), l.getD k 0 = l[k] := fun l h => by rw [List.getD_eq_getElem?_getD, List.getElem?_eq_getElem h]; rfl
  show rnd _ (K.getD k 0) (w.getD k 0) = _
  rw [g K hK, g w hw]

/-- the state while it is summed -/
def mixL (a b : List W32) (i : Nat) : List W32 := (List.zipWith (· + ·) a b).take i ++ a.drop i
theorem mixL_len (a b : List W32) (i : Nat) (h : a.length = b.length) (hi : i ≤ a.length) : (mixL a b i).length = a.length := by
  simp [mixL, h]; omega
theorem mixL_get (a b : List W32) (i : Nat) (h : a.length = b.length) (hi : i < a.length) : (mixL a b i)[i]'(by rw [mixL_len a b i h (by omega)]; exact hi) = a[i] := by
  have hl : ((List.zipWith (· + ·) a b).take i).length = i := by simp [h]; omega
  simp only [mixL]
  rw [List.getElem_append_right (by omega)]
  simp [hl]
theorem mixL_set (a b : List W32) (i : Nat) (h : a.length = b.length) (hi : i < a.length) : (mixL a b i).set i (a[i] + b[i]'(by omega)) = mixL a b (i + 1) := by
  have hl : ((List.zipWith (· + ·) a b).take i).length = i := by simp [h]; omega
  have hz : i < (List.zipWith (· + ·) a b).length := by simp; omega
  simp only [mixL]
  rw [List.set_append, hl, if_neg (by omega), Nat.sub_self, List.drop_eq_getElem_cons hi, List.set_cons_zero, List.take_succ_eq_append_getElem hz, List.append_assoc]
  simp

/-! the words' operations behind names that the walk does not open -/

def xorW (x y : W32) : W32 := x ^^^ y
def andW (x y : W32) : W32 := x &&& y
def orW (x y : W32) : W32 := x ||| y
def notW (x : W32) : W32 := ~~~x
def addW (x y : W32) : W32 := x + y
def shlW (x : W32) (k : Nat) : W32 := x <<< k
def shrW (x : W32) (k : Nat) : W32 := x >>> k
theorem w_xor (x y : W32) : bits .xor .u32 (x.toNat : Int) (y.toNat : Int) = ((xorW x y).toNat : Int) := bv_xor x y
theorem w_and (x y : W32) : bits .and .u32 (x.toNat : Int) (y.toNat : Int) = ((andW x y).toNat : Int) := bv_and x y
theorem w_or (x y : W32) : bits .or .u32 (x.toNat : Int) (y.toNat : Int) = ((orW x y).toNat : Int) := bv_or x y
theorem w_not (x : W32) : bits .xor .u32 4294967295 (x.toNat : Int) = ((notW x).toNat : Int) := bv_not x
theorem w_not' (x : W32) : bits .xor .u32 (if IntKind.u32.signed = true then -1 else IntKind.u32.max) (x.toNat : Int) = ((notW x).toNat : Int) := w_not x
theorem w_add (x y : W32) : ((x.toNat : Int) + (y.toNat : Int)) % 4294967296 = ((addW x y).toNat : Int) := bv_add x y
theorem w_addw (x y : W32) : IntKind.u32.wrap ((x.toNat : Int) + (y.toNat : Int)) = ((addW x y).toNat : Int) := bv_add_w x y
theorem w_shr3 (x : W32) : (x.toNat : Int) / 8 = ((shrW x 3).toNat : Int) := bv_shr3 x
theorem w_shr10 (x : W32) : (x.toNat : Int) / 1024 = ((shrW x 10).toNat : Int) := bv_shr10 x
theorem w_conv8 (c : UInt8) : IntKind.u32.wrap (c.toNat : Int) = ((wd c).toNat : Int) := by
  have := c.toNat_lt
  rw [wd_val]
  simp [IntKind.wrap, IntKind.signed, IntKind.bits]; omega
theorem bv_shlw (x : W32) (k m : Nat) (h : 2 ^ k = m) : IntKind.u32.wrap ((x.toNat : Int) * (m : Int)) = ((x <<< k).toNat : Int) := by
  rw [← bv_shl x k m h]
  simp [IntKind.wrap, IntKind.signed, IntKind.bits]
theorem w_shl24 (x : W32) : IntKind.u32.wrap ((x.toNat : Int) * 16777216) = ((shlW x 24).toNat : Int) := bv_shlw x 24 16777216 rfl
theorem w_shl16 (x : W32) : IntKind.u32.wrap ((x.toNat : Int) * 65536) = ((shlW x 16).toNat : Int) := bv_shlw x 16 65536 rfl
theorem w_shl8 (x : W32) : IntKind.u32.wrap ((x.toNat : Int) * 256) = ((shlW x 8).toNat : Int) := bv_shlw x 8 256 rfl

theorem wNext_eq (l : List W32) (j : Nat) (h : l.length = j + 16) : wNext l = addW (addW (addW (xorW (xorW (rotr (l[j + 14]'(by omega)) 17) (rotr (l[j + 14]'(by omega)) 19)) (shrW (l[j + 14]'(by omega)) 10)) (l[j + 9]'(by omega))) (xorW (xorW (rotr (l[j + 1]'(by omega)) 7) (rotr (l[j + 1]'(by omega)) 18)) (shrW (l[j + 1]'(by omega)) 3))) (l[j]'(by omega)) := by
  have g : ∀ i (hi : i < l.length), l.getD i 0 = l[i] := fun i hi => by rw [List.getD_eq_getElem?_getD, List.getElem?_eq_getElem hi]; rfl
  have e1 : l.getD (l.length - 2) 0 = l[j + 14]'(by omega) := by rw [show l.length - 2 = j + 14 by omega]; exact g _ _
  have e2 : l.getD (l.length - 7) 0 = l[j + 9]'(by omega) := by rw [show l.length - 7 = j + 9 by omega]; exact g _ _
  have e3 : l.getD (l.length - 15) 0 = l[j + 1]'(by omega) := by rw [show l.length - 15 = j + 1 by omega]; exact g _ _
  have e4 : l.getD (l.length - 16) 0 = l[j]'(by omega) := by rw [show l.length - 16 = j by omega]; exact g _ _
  unfold wNext
  rw [e1, e2, e3, e4]
  rfl

theorem sched_step {w : World} {g j : Nat} {l : List W32} {t : TypeId} (h : w.heap[g]? = some (.cells (w32s (padW l)).toArray t (0, 0))) (hl : l.length = j + 16) : ∃ x0 x1 x9 x14 : W32,
    w.cell? ⟨g, j, none⟩ = some (.int .u32 (x0.toNat : Int)) ∧ w.cell? ⟨g, j + 1, none⟩ = some (.int .u32 (x1.toNat : Int)) ∧ w.cell? ⟨g, j + 9, none⟩ = some (.int .u32 (x9.toNat : Int)) ∧ w.cell? ⟨g, j + 14, none⟩ = some (.int .u32 (x14.toNat : Int)) ∧
    Hid (wNext l = addW (addW (addW (xorW (xorW (rotr x14 17) (rotr x14 19)) (shrW x14 10)) x9) (xorW (xorW (rotr x1 7) (rotr x1 18)) (shrW x1 3))) x0) :=
  ⟨_, _, _, _, padW_cell h j (by omega), padW_cell h (j + 1) (by omega), padW_cell h (j + 9) (by omega), padW_cell h (j + 14) (by omega), Lib.hid (wNext_eq l j hl)⟩

attribute [local go_sem] w_xor w_and w_or w_not w_not' w_add w_addw w_shr3 w_shr10 w_conv8 w_shl24 w_shl16 w_shl8

set_option maxRecDepth 100000 in
set_option maxHeartbeats 4000000 in
theorem take_any (gs gk : Nat) (A : Option Addr) (bs : List UInt8) (n c : Nat) (st : St8) (KT : List W32) (w : World) (hs : w.heap[gs]? = some (.cells (w32s st.list).toArray 69 (0, 0))) (hk : w.heap[gk]? = some (.cells (w32s KT).toArray 98 (0, 0))) (hKT : KT.length = 64)
    (hr : Rd w A (b8s bs)) (hn : n = bs.length) (h64 : 64 ≤ bs.length) (hm : bs.length ≤ maxLen) (hne : gs ≠ gk) :
    Calls Try.prog 36 #[.pointer (some ⟨gs, 0, none⟩), .slice A n c, .pointer (some ⟨gk, 0, none⟩)] w fun e w' => e = .returned (.tuple #[]) ∧ w'.heap[gs]? = some (.cells (w32s (comp KT st bs).list).toArray 69 (0, 0)) ∧ w.grownBy w' (some gs) := by
  unfold maxLen at hm
  have hnew : (w.alloc (.cells (w32s (padW [])).toArray 98)).heap[w.heap.size]? = some (.cells (w32s (padW [])).toArray 98 (0, 0)) := heap_alloc_new w _
  have hb : Below w.heap.size w (w.alloc (.cells (w32s (padW [])).toArray 98)) := (Below.refl _ _).alloc (Nat.le_refl _) _
  have hsl := (Array.getElem?_eq_some_iff.1 hs).1
  have hkl := (Array.getElem?_eq_some_iff.1 hk).1
  have HS := Lib.hid hs
  have HK := Lib.hid hk
  have HR := Lib.hid hr
  have Hn := Lib.hid hn
  have HNEW := Lib.hid hnew
  have HB := Lib.hid hb
  have h64n : 64 ≤ n := by omega
  clear hs hk hr hn hnew hb
  go_enter Try.func36, Try.ntmps36
  go_wp2_with fail
  go_loopg [20] 16 (fun gk_ s20 wr => ∃ (k : Nat), k ≤ 16 ∧ gk_ = 16 - k ∧ s20 = .int .i64 k ∧ Hid (wr.heap[w.heap.size]? = some (.cells (w32s (padW ((words bs).take k))).toArray 98 (0, 0))) ∧ Below w.heap.size w wr)
  case atStart => exact ⟨0, by omega, by omega, rfl, HNEW, HB.out⟩
  case round =>
    clear HNEW HB
    obtain ⟨k, hk, rfl, rfl, HW, hbel⟩ := hrel
    by_cases hlt : k < 16
    · obtain ⟨b, o, rfl, hc0⟩ := (HR.out.below hbel).byte (4 * k) (by omega)
      obtain ⟨b', o', he, hc1⟩ := (HR.out.below hbel).byte (4 * k + 1) (by omega)
      cases he
      obtain ⟨b', o', he, hc2⟩ := (HR.out.below hbel).byte (4 * k + 2) (by omega)
      cases he
      obtain ⟨b', o', he, hc3⟩ := (HR.out.below hbel).byte (4 * k + 3) (by omega)
      cases he
      have hfz : wr.frozen? ⟨w.heap.size, k, none⟩ = false := row_free HW.out _
      have hcl : ∃ v, wr.cell? ⟨w.heap.size, k, none⟩ = some v := by
        rw [row_cell HW.out]
        refine ⟨_, Array.getElem?_eq_getElem ?_⟩
        rw [List.size_toArray, w32s_length, padW_len _ (by rw [List.length_take, words_len]; omega)]; omega
      obtain ⟨v0, hv0⟩ := hcl
      have hk64 : (k : Int) < 64 := by omega
      have e0 : IntKind.i64.wrap (4 * (k : Int)) = 4 * (k : Int) := wrap64_in _ (by omega) (by omega)
      have e1 : IntKind.i64.wrap (4 * (k : Int) + 1) = 4 * (k : Int) + 1 := wrap64_in _ (by omega) (by omega)
      have e2 : IntKind.i64.wrap (4 * (k : Int) + 2) = 4 * (k : Int) + 2 := wrap64_in _ (by omega) (by omega)
      have e3 : IntKind.i64.wrap (4 * (k : Int) + 3) = 4 * (k : Int) + 3 := wrap64_in _ (by omega) (by omega)
      have i0 : (4 * (k : Int)) < (n : Int) := by omega
      have i1 : (4 * (k : Int)) + 1 < (n : Int) := by omega
      have i2 : (4 * (k : Int)) + 2 < (n : Int) := by omega
      have i3 : (4 * (k : Int)) + 3 < (n : Int) := by omega
      have p0 : (0 : Int) ≤ 4 * (k : Int) := by omega
      have p1 : (0 : Int) ≤ 4 * (k : Int) + 1 := by omega
      have p2 : (0 : Int) ≤ 4 * (k : Int) + 2 := by omega
      have p3 : (0 : Int) ≤ 4 * (k : Int) + 3 := by omega
      have t0 : (4 * (k : Int)).toNat = 4 * k := by omega
      have t1 : (4 * (k : Int) + 1).toNat = 4 * k + 1 := by omega
      have t2 : (4 * (k : Int) + 2).toNat = 4 * k + 2 := by omega
      have t3 : (4 * (k : Int) + 3).toNat = 4 * k + 3 := by omega
      go_wp2_with fail
      refine wp_region_sched (fun w' => w'.cell? ⟨b, o + 4 * k, none⟩ = some (.int .u8 (bs[4 * k].toNat : Int)) ∧ w'.cell? ⟨b, o + (4 * k + 1), none⟩ = some (.int .u8 (bs[4 * k + 1].toNat : Int)) ∧ w'.cell? ⟨b, o + (4 * k + 2), none⟩ = some (.int .u8 (bs[4 * k + 2].toNat : Int)) ∧ w'.cell? ⟨b, o + (4 * k + 3), none⟩ = some (.int .u8 (bs[4 * k + 3].toNat : Int)))
        ((List.range 35).map (fun i => (true, i)) ++ [(false, 35)]) (by kernel_rfl) (by kernel_rfl) rfl (by kernel_rfl) ⟨by simpa using hc0, by simpa using hc1, by simpa using hc2, by simpa using hc3⟩ ?_
      simp only [List.range, List.range.loop, List.map, List.cons_append, List.nil_append]
      (repeat (first | (refine wpS_pass _ rfl (by rfl) ?_; simp only [Act.put, List.getElem_toArray, List.getElem_cons_zero, List.getElem_cons_succ, List.setIfInBounds_toArray, List.set_cons_zero, List.set_cons_succ]) | (refine wpS_take _ ?_ rfl (by rfl) ?_ ?_; rotate_left; (focus (intro w' hS'; (try dsimp only at hS'); (repeat (have hS1 := hS'.1; replace hS' := hS'.2)); go_simp; (try with_reducible rfl); done)); simp only [Act.put, List.getElem_toArray, List.getElem_cons_zero, List.getElem_cons_succ, List.setIfInBounds_toArray, List.set_cons_zero, List.set_cons_succ])))
      clear e0 e1 e2 e3 i0 i1 i2 i3 p0 p1 p2 p3 t0 t1 t2 t3
      refine wpS_do _ rfl (by rfl) (fun K hK => ?_)
      go_simp
      have hg0 : ∀ j (hj : j < bs.length), bs.getD j 0 = bs[j] := fun j hj => by rw [List.getD_eq_getElem?_getD, List.getElem?_eq_getElem hj]; rfl
      have hwt := words_take_succ bs k hlt
      rw [hg0 _ (by omega), hg0 _ (by omega), hg0 _ (by omega), hg0 _ (by omega)] at hwt
      have hlen : ((words bs).take k).length = k := by rw [List.length_take, words_len]; omega
      have hset := row_word_set HW.out k (orW (orW (orW (shlW (wd bs[4 * k]) 24) (shlW (wd bs[4 * k + 1]) 16)) (shlW (wd bs[4 * k + 2]) 8)) (wd bs[4 * k + 3]))
      have hps := padW_set ((words bs).take k) (orW (orW (orW (shlW (wd bs[4 * k]) 24) (shlW (wd bs[4 * k + 1]) 16)) (shlW (wd bs[4 * k + 2]) 8)) (wd bs[4 * k + 3])) (by rw [hlen]; omega)
      rw [hlen] at hps
      rw [hps] at hset
      have hset2 : (wr.setCell ⟨w.heap.size, k, none⟩ (.int .u32 ((orW (orW (orW (shlW (wd bs[4 * k]) 24) (shlW (wd bs[4 * k + 1]) 16)) (shlW (wd bs[4 * k + 2]) 8)) (wd bs[4 * k + 3])).toNat : Int))).heap[w.heap.size]? = some (.cells (w32s (padW ((words bs).take (k + 1)))).toArray 98 (0, 0)) := by
        rw [hwt]; exact hset
      have hg := grown_set (w := wr) w.heap.size k (.int .u32 ((orW (orW (orW (shlW (wd bs[4 * k]) 24) (shlW (wd bs[4 * k + 1]) 16)) (shlW (wd bs[4 * k + 2]) 8)) (wd bs[4 * k + 3])).toNat : Int))
      have hbel2 := (bel_grown hbel hbel.size hg (Nat.le_refl _)).drew
      have HSET := Lib.hid hset2
      have hb0 := (HR.out.below hbel2)
      refine hK.out _ _ ⟨hb0.cellat _ (by omega), hb0.cellat _ (by omega), hb0.cellat _ (by omega), hb0.cellat _ (by omega)⟩ (fun hS => ?_)
      clear hK hS hset hset2 hps hwt hg0 hg hb0
      refine wpS_done ?_
      go_wp2_with fail
      go_roundg (16 - (k + 1))
      case measure => omega
      case rel => exact ⟨k + 1, by omega, rfl, by go_num, HSET, hbel2⟩
    obtain rfl : k = 16 := by omega
    have hwl := words_len bs
    rw [show 16 = (words bs).length from hwl.symm, List.take_length] at HW
    go_wp2_with fail
    have HW0 : Hid (wr.heap[w.heap.size]? = some (.cells (w32s (padW (wExt 0 (words bs)))).toArray 98 (0, 0))) := HW
    go_loopg [8] 48 (fun gk_ s8 wr => ∃ (j : Nat), j ≤ 48 ∧ gk_ = 48 - j ∧ s8 = .int .i64 ((j : Int) + 16) ∧ Hid (wr.heap[w.heap.size]? = some (.cells (w32s (padW (wExt j (words bs)))).toArray 98 (0, 0))) ∧ Below w.heap.size w wr)
    case atStart => exact ⟨0, by omega, by omega, rfl, HW0, hbel⟩
    case round =>
      clear HW HW0 hbel
      obtain ⟨j, hj, rfl, rfl, HW, hbel⟩ := hrel
      have hll : (wExt j (words bs)).length = j + 16 := by rw [wExt_len, words_len]; omega
      by_cases hlt : j < 48
      · obtain ⟨x0, x1, x9, x14, c0, c1, c9, c14, HLN⟩ := sched_step HW.out hll
        have HLL := Lib.hid hll
        have hfz : wr.frozen? ⟨w.heap.size, j + 16, none⟩ = false := row_free HW.out _
        have hcl : ∃ v, wr.cell? ⟨w.heap.size, j + 16, none⟩ = some v := by
          rw [row_cell HW.out]
          refine ⟨_, Array.getElem?_eq_getElem ?_⟩
          rw [List.size_toArray, w32s_length, padW_len _ (by omega)]; omega
        obtain ⟨v0, hv0⟩ := hcl
        have q64 : (j : Int) + 16 < 64 := by omega
        have e1 : IntKind.i64.wrap ((j : Int) + 16 - 15) = (j : Int) + 1 := by rw [wrap64_in _ (by omega) (by omega)]; omega
        have e14 : IntKind.i64.wrap ((j : Int) + 16 - 2) = (j : Int) + 14 := by rw [wrap64_in _ (by omega) (by omega)]; omega
        have e9 : IntKind.i64.wrap ((j : Int) + 16 - 7) = (j : Int) + 9 := by rw [wrap64_in _ (by omega) (by omega)]; omega
        have e0 : IntKind.i64.wrap ((j : Int) + 16 - 16) = (j : Int) := by rw [wrap64_in _ (by omega) (by omega)]; omega
        have e0' : IntKind.i64.wrap (j : Int) = (j : Int) := wrap64_in _ (by omega) (by omega)
        have p1 : (0 : Int) ≤ (j : Int) + 1 := by omega
        have p14 : (0 : Int) ≤ (j : Int) + 14 := by omega
        have p9 : (0 : Int) ≤ (j : Int) + 9 := by omega
        have p16 : (0 : Int) ≤ (j : Int) + 16 := by omega
        have i1 : (j : Int) + 1 < 64 := by omega
        have i14 : (j : Int) + 14 < 64 := by omega
        have i9 : (j : Int) + 9 < 64 := by omega
        have i0 : (j : Int) < 64 := by omega
        have t1 : ((j : Int) + 1).toNat = j + 1 := by omega
        have t14 : ((j : Int) + 14).toNat = j + 14 := by omega
        have t9 : ((j : Int) + 9).toNat = j + 9 := by omega
        have t16 : ((j : Int) + 16).toNat = j + 16 := by omega
        clear hll
        go_wp2_with fail
        refine wp_region_sched (fun w' => w'.cell? ⟨w.heap.size, j + 1, none⟩ = some (.int .u32 (x1.toNat : Int)) ∧ w'.cell? ⟨w.heap.size, j + 14, none⟩ = some (.int .u32 (x14.toNat : Int))) ((List.range 10).map (fun i => (true, i))) (by kernel_rfl) (by kernel_rfl) rfl (by kernel_rfl) ⟨by simpa using c1, by simpa using c14⟩ ?_
        simp only [List.range, List.range.loop, List.map, List.cons_append, List.nil_append]
        (repeat (first | (refine wpS_pass _ rfl (by rfl) ?_; simp only [Act.put, List.getElem_toArray, List.getElem_cons_zero, List.getElem_cons_succ, List.setIfInBounds_toArray, List.set_cons_zero, List.set_cons_succ]) | (refine wpS_take _ ?_ rfl (by rfl) ?_ ?_; rotate_left; (focus (intro w' hS'; (try dsimp only at hS'); (repeat (have hS1 := hS'.1; replace hS' := hS'.2)); go_simp; (try with_reducible rfl); done)); simp only [Act.put, List.getElem_toArray, List.getElem_cons_zero, List.getElem_cons_succ, List.setIfInBounds_toArray, List.set_cons_zero, List.set_cons_succ])))
        refine wpS_done ?_
        go_wp2_with fail
        refine (rotl_any x1 7 (by decide) (by decide) _).mono ?_
        rintro e w' ⟨rfl, rfl⟩
        go_wp2_with fail
        refine (rotl_any x1 18 (by decide) (by decide) _).mono ?_
        rintro e w' ⟨rfl, rfl⟩
        go_wp2_with fail
        refine (rotl_any x14 17 (by decide) (by decide) _).mono ?_
        rintro e w' ⟨rfl, rfl⟩
        go_wp2_with fail
        refine (rotl_any x14 19 (by decide) (by decide) _).mono ?_
        rintro e w' ⟨rfl, rfl⟩
        go_wp2_with fail
        refine wp_region_sched (fun w' => w'.cell? ⟨w.heap.size, j + 9, none⟩ = some (.int .u32 (x9.toNat : Int)) ∧ w'.cell? ⟨w.heap.size, j, none⟩ = some (.int .u32 (x0.toNat : Int))) ((List.range 15).map (fun i => (true, i)) ++ [(false, 15)]) (by kernel_rfl) (by kernel_rfl) rfl (by kernel_rfl) ⟨by simpa using c9, by simpa using c0⟩ ?_
        simp only [List.range, List.range.loop, List.map, List.cons_append, List.nil_append]
        (repeat (first | (refine wpS_pass _ rfl (by rfl) ?_; simp only [Act.put, List.getElem_toArray, List.getElem_cons_zero, List.getElem_cons_succ, List.setIfInBounds_toArray, List.set_cons_zero, List.set_cons_succ]) | (refine wpS_take _ ?_ rfl (by rfl) ?_ ?_; rotate_left; (focus (intro w' hS'; (try dsimp only at hS'); (repeat (have hS1 := hS'.1; replace hS' := hS'.2)); go_simp; (try with_reducible rfl); done)); simp only [Act.put, List.getElem_toArray, List.getElem_cons_zero, List.getElem_cons_succ, List.setIfInBounds_toArray, List.set_cons_zero, List.set_cons_succ])))
        clear e0 e0' e1 e14 e9 p1 p14 p9 p16 i1 i14 i9 i0 t1 t14 t9
        refine wpS_do _ rfl (by rfl) (fun K hK => ?_)
        go_simp
        obtain ⟨X, hX⟩ : ∃ X, addW (addW (addW (xorW (xorW (rotr x14 17) (rotr x14 19)) (shrW x14 10)) x9) (xorW (xorW (rotr x1 7) (rotr x1 18)) (shrW x1 3))) x0 = X := ⟨_, rfl⟩
        have hln := HLN.out
        rw [hX] at hln ⊢
        have hset := row_word_set HW.out (j + 16) X
        have hps := padW_set (wExt j (words bs)) X (by rw [HLL.out]; omega)
        rw [HLL.out] at hps
        have hps2 : (padW (wExt j (words bs))).set (j + 16) X = padW (wExt (j + 1) (words bs)) := by
          rw [hps]
          show _ = padW (wExt j (words bs) ++ [wNext (wExt j (words bs))])
          rw [hln]
        rw [hps2] at hset
        have hset2 : (wr.setCell ⟨w.heap.size, j + 16, none⟩ (.int .u32 (X.toNat : Int))).heap[w.heap.size]? = some (.cells (w32s (padW (wExt (j + 1) (words bs)))).toArray 98 (0, 0)) := hset
        have hg := grown_set (w := wr) w.heap.size (j + 16) (.int .u32 (X.toNat : Int))
        have hbel2 := bel_grown hbel hbel.size hg (Nat.le_refl _)
        have HSET := Lib.hid hset2
        have d9 : (wr.setCell ⟨w.heap.size, j + 16, none⟩ (.int .u32 (X.toNat : Int))).cell? ⟨w.heap.size, j + 9, none⟩ = some (.int .u32 (x9.toNat : Int)) := by
          have hcc := cell_ne wr w.heap.size (j + 16) (j + 9) (.int .u32 (X.toNat : Int)) (by omega)
          exact hcc.trans c9
        have d0 : (wr.setCell ⟨w.heap.size, j + 16, none⟩ (.int .u32 (X.toNat : Int))).cell? ⟨w.heap.size, j, none⟩ = some (.int .u32 (x0.toNat : Int)) := by
          have hcc := cell_ne wr w.heap.size (j + 16) j (.int .u32 (X.toNat : Int)) (by omega)
          exact hcc.trans c0
        refine hK.out _ _ ⟨d9, d0⟩ (fun hS => ?_)
        clear hK hS hset hset2 hps hps2 hln hg d9 d0 c0 c1 c9 c14 t16
        refine wpS_done ?_
        go_wp2_with fail
        go_roundg (48 - (j + 1))
        case measure => omega
        case rel => exact ⟨j + 1, by omega, rfl, by first | rfl | (go_num) | (congr 1; omega), HSET, by first | exact hbel2 | exact hbel2.drew | exact hbel2.drew.drew⟩
      obtain rfl : j = 48 := by omega
      have HWF : Hid (wr.heap[w.heap.size]? = some (.cells (w32s (sched bs)).toArray 98 (0, 0))) := Lib.hid (by
        have := HW.out
        rwa [padW_full _ (by rw [wExt_len, words_len])] at this)
      clear HW hll
      obtain ⟨SW, hSW⟩ : ∃ SW, sched bs = SW := ⟨_, rfl⟩
      have hSL : SW.length = 64 := by rw [← hSW]; exact sched_len bs
      rw [hSW] at HWF
      have HSW := Lib.hid hSW
      clear hSW
      have hsr := (hbel.block _ hsl).trans HS.out
      have HSR := Lib.hid hsr
      have HI8 : Hid ((Try.prog.info? 69).map (·.size) = some (w32s st.list).toArray.size) := Lib.hid info_state
      obtain ⟨gv, Wa, W5, hH, hWa, hW5, HTH, HV, HB5, HS5⟩ := w8_place (w := wr) 69 st
      have HW5 := Lib.hid hW5
      clear hsr hW5
      go_wp2_with (first
        | ((with_reducible (refine wpList_load_row rfl _ _ rfl _ rfl _ _ _ _ HSR.out Try.underlying69 rfl ?_ ?_)); (focus (exact HI8.out)))
        | ((with_reducible (refine wpList_store_mid rfl _ _ _ rfl ?_ ?_ ?_ ?_ ?_ ?_ ?_ ?_ ?_)); (exact gv); (exact 0); (exact (w32s st.list).toArray); (exact rfl); (exact rfl); (exact HTH.out); (exact HI8.out); (exact all_oneCell_toArray (w32s_one _)); rw [HW5.out]))
      have hwv : w.heap.size < gv := by rw [← hH]; exact (Array.getElem?_eq_some_iff.1 HWF.out).1
      have hbv := hbel.trans (HB5.out.mono hbel.size)
      have HWF5 : Hid (W5.heap[w.heap.size]? = some (.cells (w32s SW).toArray 98 (0, 0))) := Lib.hid ((HB5.out.block _ (Array.getElem?_eq_some_iff.1 HWF.out).1).trans HWF.out)
      clear hWa HWF HSR HTH HI8 HW5 hbel
      go_loopg [105] 64 (fun gk_ s105 wr => ∃ (k : Nat), k ≤ 64 ∧ gk_ = 64 - k ∧ s105 = .int .i64 k ∧ Hid (wr.heap[gv]? = some (.cells (w32s (rnds KT SW k st).list).toArray 69 (0, 0))) ∧ Hid (wr.heap[w.heap.size]? = some (.cells (w32s SW).toArray 98 (0, 0))) ∧ Below w.heap.size w wr)
      case atStart => exact ⟨0, by omega, by omega, rfl, HV, HWF5, hbv⟩
      case round =>
        clear HV HWF5 hbv HB5 HS5 hH
        obtain ⟨k, hk, rfl, rfl, HV, HWF, hbel⟩ := hrel
        by_cases hlt : k < 64
        · have hkr := (hbel.block _ hkl).trans HK.out
          have ck := row_word hkr k (by omega)
          have cw := row_word HWF.out k (by omega)
          have hrn := rnds_at KT SW k st (by omega) (by omega)
          have HRN := Lib.hid hrn
          clear hkr hrn
          obtain ⟨s, hs⟩ : ∃ s, rnds KT SW k st = s := ⟨_, rfl⟩
          obtain ⟨kk, hkk⟩ : ∃ x, KT[k]'(by omega) = x := ⟨_, rfl⟩
          obtain ⟨ww, hww⟩ : ∃ x, SW[k]'(by omega) = x := ⟨_, rfl⟩
          rw [hkk] at ck HRN
          rw [hww] at cw HRN
          rw [hs] at HV HRN
          clear hs hkk hww
          obtain ⟨v0, v1, v2, v3, v4, v5, v6, v7⟩ := st8_cells HV.out
          have k64 : (k : Int) < 64 := by omega
          go_wp2_with fail
          refine wp_region_sched (fun w' => w'.cell? ⟨gv, 0, none⟩ = some (.int .u32 (s.a.toNat : Int)) ∧ w'.cell? ⟨gv, 4, none⟩ = some (.int .u32 (s.e.toNat : Int))) ((List.range 6).map (fun i => (true, i))) (by kernel_rfl) (by kernel_rfl) rfl (by kernel_rfl) ⟨by simpa using v0, by simpa using v4⟩ ?_
          simp only [List.range, List.range.loop, List.map]
          (repeat (first | (refine wpS_pass _ rfl (by rfl) ?_; simp only [Act.put, List.getElem_toArray, List.getElem_cons_zero, List.getElem_cons_succ, List.setIfInBounds_toArray, List.set_cons_zero, List.set_cons_succ]) | (refine wpS_take _ ?_ rfl (by rfl) ?_ ?_; rotate_left; (focus (intro w' hS'; (try dsimp only at hS'); (repeat (have hS1 := hS'.1; replace hS' := hS'.2)); go_simp; (try with_reducible rfl); done)); simp only [Act.put, List.getElem_toArray, List.getElem_cons_zero, List.getElem_cons_succ, List.setIfInBounds_toArray, List.set_cons_zero, List.set_cons_succ])))
          refine wpS_done ?_
          go_wp2_with fail
          refine wp_region_sched (fun w' => w'.cell? ⟨gv, 7, none⟩ = some (.int .u32 (s.h.toNat : Int)) ∧ w'.cell? ⟨gv, 5, none⟩ = some (.int .u32 (s.f.toNat : Int)) ∧ w'.cell? ⟨gv, 6, none⟩ = some (.int .u32 (s.g.toNat : Int)) ∧ w'.cell? ⟨gk, k, none⟩ = some (.int .u32 (kk.toNat : Int)) ∧ w'.cell? ⟨w.heap.size, k, none⟩ = some (.int .u32 (ww.toNat : Int)))
            [(true, 0), (true, 1), (true, 2), (true, 5), (true, 6), (true, 7), (true, 8), (true, 9), (true, 10), (true, 11), (true, 12), (true, 13), (true, 14), (true, 16), (true, 17), (true, 18), (true, 19), (true, 20), (true, 22), (true, 23), (true, 24), (false, 3), (true, 4), (true, 15), (true, 21), (true, 25), (true, 26)] (by kernel_rfl) (by kernel_rfl) rfl (by kernel_rfl) ⟨by simpa using v7, by simpa using v5, by simpa using v6, by simpa using ck, by simpa using cw⟩ ?_
          (repeat (first | (refine wpS_pass _ rfl (by rfl) ?_; simp only [Act.put, List.getElem_toArray, List.getElem_cons_zero, List.getElem_cons_succ, List.setIfInBounds_toArray, List.set_cons_zero, List.set_cons_succ]) | (refine wpS_take _ ?_ rfl (by rfl) ?_ ?_; rotate_left; (focus (intro w' hS'; (try dsimp only at hS'); (repeat (have hS1 := hS'.1; replace hS' := hS'.2)); go_simp; (try with_reducible rfl); done)); simp only [Act.put, List.getElem_toArray, List.getElem_cons_zero, List.getElem_cons_succ, List.setIfInBounds_toArray, List.set_cons_zero, List.set_cons_succ])))
          refine wpS_do _ rfl (by rfl) (fun K hK => ?_)
          go_simp
          refine (turn6_any s.e _).mono ?_
          rintro e w' ⟨rfl, rfl⟩
          refine hK.out _ _ ⟨by simpa using v7, by simpa using v5, by simpa using v6, by simpa using ck, by simpa using cw⟩ (fun hS => ?_)
          clear hK hS
          (repeat (first | (refine wpS_pass _ rfl (by rfl) ?_; simp only [Act.put, List.getElem_toArray, List.getElem_cons_zero, List.getElem_cons_succ, List.setIfInBounds_toArray, List.set_cons_zero, List.set_cons_succ]) | (refine wpS_take _ ?_ rfl (by rfl) ?_ ?_; rotate_left; (focus (intro w' hS'; (try dsimp only at hS'); (repeat (have hS1 := hS'.1; replace hS' := hS'.2)); go_simp; (try with_reducible rfl); done)); simp only [Act.put, List.getElem_toArray, List.getElem_cons_zero, List.getElem_cons_succ, List.setIfInBounds_toArray, List.set_cons_zero, List.set_cons_succ])))
          refine wpS_done ?_
          go_wp2_with fail
          refine wp_region_sched (fun w' => w'.cell? ⟨gv, 1, none⟩ = some (.int .u32 (s.b.toNat : Int)) ∧ w'.cell? ⟨gv, 2, none⟩ = some (.int .u32 (s.c.toNat : Int)))
            [(true, 0), (true, 2), (true, 3), (true, 4), (true, 5), (true, 6), (true, 7), (true, 8), (true, 9), (true, 10), (true, 11), (true, 12), (true, 13), (true, 14), (true, 15), (true, 16), (false, 1), (true, 17), (true, 18)] (by kernel_rfl) (by kernel_rfl) rfl (by kernel_rfl) ⟨by simpa using v1, by simpa using v2⟩ ?_
          (repeat (first | (refine wpS_pass _ rfl (by rfl) ?_; simp only [Act.put, List.getElem_toArray, List.getElem_cons_zero, List.getElem_cons_succ, List.setIfInBounds_toArray, List.set_cons_zero, List.set_cons_succ]) | (refine wpS_take _ ?_ rfl (by rfl) ?_ ?_; rotate_left; (focus (intro w' hS'; (try dsimp only at hS'); (repeat (have hS1 := hS'.1; replace hS' := hS'.2)); go_simp; (try with_reducible rfl); done)); simp only [Act.put, List.getElem_toArray, List.getElem_cons_zero, List.getElem_cons_succ, List.setIfInBounds_toArray, List.set_cons_zero, List.set_cons_succ])))
          refine wpS_do _ rfl (by rfl) (fun K hK => ?_)
          go_simp
          refine (turn2_any s.a _).mono ?_
          rintro e w' ⟨rfl, rfl⟩
          refine hK.out _ _ ⟨by simpa using v1, by simpa using v2⟩ (fun hS => ?_)
          clear hK hS
          (repeat (first | (refine wpS_pass _ rfl (by rfl) ?_; simp only [Act.put, List.getElem_toArray, List.getElem_cons_zero, List.getElem_cons_succ, List.setIfInBounds_toArray, List.set_cons_zero, List.set_cons_succ]) | (refine wpS_take _ ?_ rfl (by rfl) ?_ ?_; rotate_left; (focus (intro w' hS'; (try dsimp only at hS'); (repeat (have hS1 := hS'.1; replace hS' := hS'.2)); go_simp; (try with_reducible rfl); done)); simp only [Act.put, List.getElem_toArray, List.getElem_cons_zero, List.getElem_cons_succ, List.setIfInBounds_toArray, List.set_cons_zero, List.set_cons_succ])))
          refine wpS_done ?_
          go_wp2_with fail
          have hT1 : addW (addW (addW (addW s.h (bg1 s.e)) (xorW (andW s.e s.f) (andW (notW s.e) s.g))) kk) ww = tm1 s kk ww := rfl
          have hT2 : addW (bg0 s.a) (xorW (xorW (andW s.a s.b) (andW s.a s.c)) (andW s.b s.c)) = tm2 s := rfl
          rw [hT1, hT2]
          clear hT1 hT2
          obtain ⟨T1, hT1⟩ : ∃ x, tm1 s kk ww = x := ⟨_, rfl⟩
          obtain ⟨T2, hT2⟩ : ∃ x, tm2 s = x := ⟨_, rfl⟩
          have hfin : rnd s kk ww = ⟨T1 + T2, s.a, s.b, s.c, s.d + T1, s.e, s.f, s.g⟩ := by rw [← hT1, ← hT2]; rfl
          rw [hfin] at HRN
          rw [hT1, hT2]
          clear hT1 hT2 hfin
          have hcopy : (Builtin.copy_ #[37, 37] 3 #[.slice (some ⟨gv, 1, none⟩) 7 7, .slice (some ⟨gv, 0, none⟩) 7 8]).run Try.prog wr.drew.drew.drew.drew = .ok (goInt 7) (wr.drew.drew.drew.drew.setRow gv (w32s [s.a, s.a, s.b, s.c, s.d, s.e, s.f, s.g]).toArray) := by
            have h := run_copy_row (P := Try.prog) wr.drew.drew.drew.drew 37 37 3 66 gv 1 7 7 ⟨gv, 0, none⟩ 7 8 (w32s s.list).toArray 69 (w32s [s.a, s.b, s.c, s.d, s.e, s.f, s.g]) Try.underlying37 info_w HV.out rfl (fun j v hv => by
              match j, hv with
              | 0, hv => simp [w32s] at hv; subst hv; exact v0
              | 1, hv => simp [w32s] at hv; subst hv; exact v1
              | 2, hv => simp [w32s] at hv; subst hv; exact v2
              | 3, hv => simp [w32s] at hv; subst hv; exact v3
              | 4, hv => simp [w32s] at hv; subst hv; exact v4
              | 5, hv => simp [w32s] at hv; subst hv; exact v5
              | 6, hv => simp [w32s] at hv; subst hv; exact v6
              | j + 7, hv => simp [w32s] at hv) (by simp [w32s, St8.list]) (w32s_one _)
            exact h
          have HCP := Lib.hid hcopy
          clear hcopy v1 v2 v3 v5 v6 v7 ck cw
          refine wp_region_sched (fun w' => True) [(true, 0), (true, 1), (false, 2)] (by kernel_rfl) (by kernel_rfl) rfl (by kernel_rfl) trivial ?_
          (repeat (first | (refine wpS_pass _ rfl (by rfl) ?_; simp only [Act.put, List.getElem_toArray, List.getElem_cons_zero, List.getElem_cons_succ, List.setIfInBounds_toArray, List.set_cons_zero, List.set_cons_succ]) | (refine wpS_take _ ?_ rfl (by rfl) ?_ ?_; rotate_left; (focus (intro w' hS'; (try dsimp only at hS'); (repeat (have hS1 := hS'.1; replace hS' := hS'.2)); go_simp; (try with_reducible rfl); done)); simp only [Act.put, List.getElem_toArray, List.getElem_cons_zero, List.getElem_cons_succ, List.setIfInBounds_toArray, List.set_cons_zero, List.set_cons_succ])))
          refine wpS_do _ rfl (by rfl) (fun K hK => ?_)
          refine wp_copy_run _ _ _ _ rfl _ _ rfl rfl _ _ HCP.out ?_
          have hrow := setRow_heap wr.drew.drew.drew.drew gv (w32s s.list).toArray (w32s [s.a, s.a, s.b, s.c, s.d, s.e, s.f, s.g]).toArray 69 (0, 0) HV.out
          have hoth : wr.drew.drew.drew.drew.grownBy (wr.drew.drew.drew.drew.setRow gv (w32s [s.a, s.a, s.b, s.c, s.d, s.e, s.f, s.g]).toArray) (some gv) := ⟨rfl, rfl, rfl, by simp [World.setRow], fun k _ hk => setRow_other _ gv k _ (fun e => hk (by rw [e]))⟩
          have hb6 := bel_grown (w1 := wr.drew.drew.drew.drew) hbel.drew.drew.drew.drew hbel.drew.drew.drew.drew.size hoth (Nat.le_of_lt hwv)
          have hw6 := (hoth.block w.heap.size (by have := (Array.getElem?_eq_some_iff.1 HWF.out).1; exact this) (by simp; omega)).trans HWF.out
          generalize (wr.drew.drew.drew.drew.setRow gv (w32s [s.a, s.a, s.b, s.c, s.d, s.e, s.f, s.g]).toArray) = w6 at *
          refine hK.out _ _ trivial (fun hS => ?_)
          clear hK hS hoth HCP HV HWF hbel v0 v4
          refine wpS_done ?_
          have x4 : w6.cell? ⟨gv, 4, none⟩ = some (.int .u32 (s.d.toNat : Int)) := row_word (l := [s.a, s.a, s.b, s.c, s.d, s.e, s.f, s.g]) hrow 4 (by simp)
          have x0 : w6.cell? ⟨gv, 0, none⟩ = some (.int .u32 (s.a.toNat : Int)) := row_word (l := [s.a, s.a, s.b, s.c, s.d, s.e, s.f, s.g]) hrow 0 (by simp)
          have f4 : w6.frozen? ⟨gv, 4, none⟩ = false := row_free hrow 4
          have f0 : w6.frozen? ⟨gv, 0, none⟩ = false := row_free hrow 0
          have HROW := Lib.hid hrow
          have HW6 := Lib.hid hw6
          clear hrow hw6
          go_wp2_with fail
          have hr1 := row_word_set (l := [s.a, s.a, s.b, s.c, s.d, s.e, s.f, s.g]) HROW.out 4 (addW s.d T1)
          have hr2 := row_word_set hr1 0 (addW T1 T2)
          have hr3 : ((w6.setCell ⟨gv, 4, none⟩ (.int .u32 ((addW s.d T1).toNat : Int))).setCell ⟨gv, 0, none⟩ (.int .u32 ((addW T1 T2).toNat : Int))).heap[gv]? = some (.cells (w32s (rnds KT SW (k + 1) st).list).toArray 69 (0, 0)) := by
            rw [HRN.out]; exact hr2
          have hg := grown_trans1 (grown_set (w := w6) gv 4 (.int .u32 ((addW s.d T1).toNat : Int))) (grown_set gv 0 (.int .u32 ((addW T1 T2).toNat : Int)))
          go_roundg (64 - (k + 1))
          case measure => omega
          case rel => exact ⟨k + 1, by omega, rfl, by go_num, Lib.hid hr3, Lib.hid ((hg.block _ (Array.getElem?_eq_some_iff.1 HW6.out).1 (by simp; omega)).trans HW6.out), bel_grown hb6 hb6.size hg (Nat.le_of_lt hwv)⟩
        obtain rfl : k = 64 := by omega
        obtain ⟨V, hV⟩ : ∃ V, rnds KT SW 64 st = V := ⟨_, rfl⟩
        have hcomp : comp KT st bs = st.plus V := by
          unfold comp
          rw [HSW.out, hV]
        have HCOMP := Lib.hid hcomp
        rw [hV] at HV
        have hgs := (hbel.block _ hsl).trans HS.out
        have hml : st.list = mixL st.list V.list 0 := by simp [mixL]
        rw [hml] at hgs
        have HGS := Lib.hid hgs
        have hgr : w.grownBy wr (some gs) := grown_of_below hbel
        clear hV hcomp hgs hml HWF
        go_wp2_with fail
        go_loopg [169] 8 (fun gk_ s169 wr => ∃ (k : Nat), k ≤ 8 ∧ gk_ = 8 - k ∧ s169 = .int .i64 k ∧ Hid (wr.heap[gs]? = some (.cells (w32s (mixL st.list V.list k)).toArray 69 (0, 0))) ∧ Hid (wr.heap[gv]? = some (.cells (w32s V.list).toArray 69 (0, 0))) ∧ w.grownBy wr (some gs))
        case atStart => exact ⟨0, by omega, by omega, rfl, HGS, HV, hgr⟩
        case round =>
          clear HGS HV hgr hbel
          obtain ⟨k, hk, rfl, rfl, HGS, HV, hgr⟩ := hrel
          have hl8 : st.list.length = V.list.length := rfl
          have hl88 : st.list.length = 8 := rfl
          by_cases hlt : k < 8
          · have cs0 := row_word HGS.out k (by rw [mixL_len _ _ _ hl8 (by omega)]; omega)
            rw [mixL_get _ _ _ hl8 (by omega)] at cs0
            have cv := row_word HV.out k (by rw [← hl8]; omega)
            have fs : wr.frozen? ⟨gs, k, none⟩ = false := row_free HGS.out k
            have hset := mixL_set st.list V.list k hl8 (by omega)
            have HSET := Lib.hid hset
            clear hset
            obtain ⟨x, hx⟩ : ∃ x, st.list[k]'(by omega) = x := ⟨_, rfl⟩
            obtain ⟨y, hy⟩ : ∃ y, V.list[k]'(by omega) = y := ⟨_, rfl⟩
            rw [hx] at cs0 HSET
            rw [hy] at cv HSET
            clear hx hy hl8 hl88
            have k8 : (k : Int) < 8 := by omega
            go_wp2_with fail
            go_still_tail 11, (by kernel_rfl)
            change wpList _ _ _ _ _ wr.drew
            go_wp2_with fail
            have hr1 := row_word_set HGS.out k (addW x y)
            have hr2 : (wr.setCell ⟨gs, k, none⟩ (.int .u32 ((addW x y).toNat : Int))).heap[gs]? = some (.cells (w32s (mixL st.list V.list (k + 1))).toArray 69 (0, 0)) := by
              rw [← HSET.out]; exact hr1
            have hg := grown_set (w := wr) gs k (.int .u32 ((addW x y).toNat : Int))
            have hgsv : gs ≠ gv := by omega
            have hv2 := (hg.block gv (Array.getElem?_eq_some_iff.1 HV.out).1 (by simpa using Ne.symm hgsv)).trans HV.out
            have hgr2 := grown_trans1 hgr hg
            go_roundg (8 - (k + 1))
            case measure => omega
            case rel => exact ⟨k + 1, by omega, rfl, by go_num, Lib.hid hr2, Lib.hid hv2, ⟨hgr2.os, hgr2.tape, hgr2.output, hgr2.size, hgr2.block⟩⟩
          obtain rfl : k = 8 := by omega
          have hfin : mixL st.list V.list 8 = (st.plus V).list := by rfl
          rw [hfin, ← HCOMP.out] at HGS
          go_wp2_with fail
          go_end0
          exact ⟨rfl, HGS.out, hgr⟩
end Go.Proofs.Ytkiggfahcakdeaa
