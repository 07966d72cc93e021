/- Small words over memory, of no one package: rows made, written, loaded, built; lists of rows. No condition; no program. (Put together by wip/genGen.py.) (With the texts that it stands on.) -/
import Derived.Test.YtelbofikcpchiaaGreatProg
import Derived.Test.YtelbofikcpchiaaGreatBase
import Derived.ChangeKeysEq
import Derived.Laws.ResultCell
import Derived.Laws.IdiomCopy
import Derived.Laws.CopyRow
import Derived.Lib.SlBuf
import Derived.Laws.Tables
import Derived.Laws.Cover1
import Derived.Great.BuildSlice
import Derived.Laws.Rows
import Derived.Deep.MidRow
namespace Go.Proofs.YtelbofikcpchiaaGreat
open Go.RowKit
theorem ret_bool {a b : Bool} (h : a = b) : Ending.returned (.bool a) = .returned (.bool b) := by rw [h]
theorem u8_cast_inj {a b : UInt8} : ((a.toNat : Int) = (b.toNat : Int)) ↔ a = b := by
 constructor
 ·intro h; exact UInt8.toNat_inj.1 (by omega)
 ·rintro rfl; rfl
theorem take_eq_succ {α : Type} {a b : List α} {k : Nat} (ha : k < a.length) (hb : k < b.length) (h : a.take k = b.take k) : a.take (k + 1) = b.take (k + 1) ↔ a[k] = b[k] := by
 rw [List.take_succ_eq_append_getElem ha, List.take_succ_eq_append_getElem hb, h, List.append_cancel_left_eq]
 constructor
 ·intro h'; injection h'
 ·intro h'; rw [h']
set_option maxHeartbeats 400000 in
theorem same_any (A B : Option Addr) (xs ys : List UInt8) (c c' : Nat) (w : World) (ha : Rd w A (b8s xs)) (hb : Rd w B (b8s ys)) (hma : xs.length ≤ maxLen) (hmb : ys.length ≤ maxLen) :
  Calls Tryz.prog 61 #[.slice A xs.length c, .slice B ys.length c'] w fun e w' => e = .returned (.bool (decide (xs = ys))) ∧ ∃ n, w' = w.drewN n := by
 unfold maxLen at hma hmb
 by_cases hl : xs.length = ys.length
 ·go_enter Tryz.func61, Tryz.ntmps61
  rw [← hl]
  go_wp2
  go_loopw [5] (fun i wr => ∃ k n : Nat, k ≤ xs.length ∧ i = .int .i64 k ∧ wr = w.drewN n ∧ xs.take k = ys.take k) (fun i _ => xs.length - (intOf i).toNat)
  case atStart => exact ⟨0, 0, by omega, rfl, rfl, by simp⟩
  case round =>
   obtain ⟨k, n, hk, rfl, rfl, heq⟩ := hrel
   by_cases hlt : k < xs.length
   ·obtain ⟨b, o, rfl, hc⟩ := ha.byte k hlt
    obtain ⟨b', o', rfl, hc'⟩ := hb.byte k (by omega)
    have hiff := take_eq_succ hlt (hl ▸ hlt) heq
    by_cases hx : xs[k] = ys[k]'(hl ▸ hlt)
    ·have hH := h_ (hiff.2 hx)
     rw [← hx] at hc'
     have hz : ((xs[k].toNat : Int) != (xs[k].toNat : Int)) = false := by simp
     clear heq hiff hx
     go_wp2
     go_quiet (fail)
     go_wp2
     go_roundw
     case rel => exact ⟨k + 1, _, by omega, by go_num, rfl, hH⟩
     case measure => simp [intOf]; omega
    ·have hH := h_ hx
     have hz : ((xs[k].toNat : Int) != ((ys[k]'(hl ▸ hlt)).toNat : Int)) = true := by
      rw [bne_iff_ne]; exact fun h => hx (u8_cast_inj.1 h)
     clear heq hiff hx
     go_wp2
     go_quiet (fail)
     go_wp2
     go_ret
     refine ⟨ret_bool ?_, _, World.drewN_drewN _ _ _⟩
     rw [eq_comm, decide_eq_false_iff_not]
     rintro rfl
     exact hH.out rfl
   ·go_wp2
    go_ret
    refine ⟨ret_bool ?_, _, rfl⟩
    rw [eq_comm, decide_eq_true_eq]
    have : k = xs.length := by omega
    subst this
    rw [List.take_length, hl, List.take_length] at heq
    exact heq
 ·have hz : ((xs.length : Int) != (ys.length : Int)) = true := by rw [bne_iff_ne]; omega
  go_enter Tryz.func61, Tryz.ntmps61
  go_wp2
  go_ret
  refine ⟨ret_bool ?_, 0, rfl⟩
  rw [eq_comm, decide_eq_false_iff_not]
  rintro rfl
  exact hl rfl
theorem same_b (b : Bool) (A B : Option Addr) (xs ys : List UInt8) (c c' : Nat) (w : World) (ha : Rd w A (b8s xs)) (hb : Rd w B (b8s ys)) (hma : xs.length ≤ maxLen) (hmb : ys.length ≤ maxLen) (he : decide (xs = ys) = b) :
  Calls Tryz.prog 61 #[.slice A xs.length c, .slice B ys.length c'] w fun e w' => e = .returned (.bool b) ∧ Below w.heap.size w w' :=
 (same_any A B xs ys c c' w ha hb hma hmb).mono fun e w' ⟨h1, n, h2⟩ => ⟨by rw [h1, he], by rw [h2]; exact below_drewN (Below.refl _ _) n⟩
theorem info_u8 : (Tryz.prog.info? 5).map (fun i => (i.zero, i.size, i.bytes)) = some (some (.int .u8 0), 1, 1) := by kernel_rfl
structure Own8 (N : Nat) (w0 w : World) (v : Value) (zs : List UInt8) : Prop where
 own : w.ownsRow N 5 1 v zs.length (b8s zs)
 bel : Below N w0 w
 sz : N ≤ w.heap.size
theorem wpList_append_u8 {ops : Array Oper} {rest : List Oper} {o : Oper} {a : Act} {Q : Exit → Act → World → Prop} {w0 wr : World} (hgd : o.guard = none) (s x : Operand)
  (ho : o.op = .call { callee := .builtin .append, args := #[s, x], argTypes := #[29, 29] }) {N : Nat} {v u : Value} {zs : List UInt8} (y : UInt8) (hs : a.eval s = v)
  (hx : a.eval x = .slice (some ⟨wr.heap.size, 0, none⟩) 1 1) (hu : u = .int .u8 (y.toNat : Int)) (hown : Own8 N w0 wr v zs) (hlen : zs.length + 1 ≤ 140737488355328)
  (h : ∀ v' w', Own8 N w0 w' v' (zs ++ [y]) → wpList Tryz.prog ops Q rest (a.put o.dst v') w') : wpList Tryz.prog ops Q (o :: rest) a (wr.alloc (.cells #[u] 5)) := by
 subst hu
 refine wpList_append_rd _ hgd s x 29 ho N 5 (.int .u8 0) 1 1 Tryz.underlying29 info_u8 rfl (by decide) v zs.length (b8s zs) hs (hown.own.alloc _) _ 1 1 (b8s [y]) hx rfl (Rd.new _ _ _) (b8s_one' _)
  (by unfold maxLen; omega) (by omega) (Nat.le_trans hown.sz (by simp)) ?_
 intro v' w' h1 h2 _
 refine h v' w' ⟨by rw [List.length_append, b8s_append]; exact h1, ?_, ?_⟩
 ·exact below_grown_own (hown.bel.alloc hown.sz _) (hown.own.alloc _) h2 (Nat.le_trans hown.sz (by simp))
 ·have := h2.size
  have := hown.sz
  simp at *
  omega
theorem wpList_append_bytes {ops : Array Oper} {rest : List Oper} {o : Oper} {a : Act} {Q : Exit → Act → World → Prop} {w0 wr : World} (hgd : o.guard = none) (s x : Operand)
  (ho : o.op = .call { callee := .builtin .append, args := #[s, x], argTypes := #[29, 29] }) {N : Nat} {v : Value} {zs : List UInt8} (ys : List UInt8) {A : Option Addr} {c : Nat} (hs : a.eval s = v)
  (hx : a.eval x = .slice A ys.length c) (hr : Rd wr A (b8s ys)) (hown : Own8 N w0 wr v zs) (hlen : zs.length + ys.length ≤ 140737488355328)
  (h : ∀ v' w', Own8 N w0 w' v' (zs ++ ys) → wr.grownBy w' v.ownBlock → wpList Tryz.prog ops Q rest (a.put o.dst v') w') : wpList Tryz.prog ops Q (o :: rest) a wr := by
 refine wpList_append_rd _ hgd s x 29 ho N 5 (.int .u8 0) 1 1 Tryz.underlying29 info_u8 rfl (by decide) v zs.length (b8s zs) hs hown.own _ ys.length c (b8s ys) hx (by simp [b8s]) hr (b8s_one' _)
  (by unfold maxLen; omega) (by omega) hown.sz ?_
 intro v' w' h1 h2 _
 refine h v' w' ⟨by rw [List.length_append, b8s_append]; exact h1, ?_, ?_⟩ h2
 ·exact below_grown_own hown.bel hown.own h2 hown.sz
 ·have := h2.size
  have := hown.sz
  omega
theorem Own8.start (w : World) : Own8 w.heap.size w (w.alloc (.cells #[] 5)) (.slice (some ⟨w.heap.size, 0, none⟩) 0 0) [] :=
 ⟨own_new w _ _ 1 0 [] (Nat.le_refl _) rfl (by decide), (Below.refl _ _).alloc (Nat.le_refl _) _, by simp⟩
theorem Own8.startN (w0 w : World) (N : Nat) (hb : Below N w0 w) (hN : N ≤ w.heap.size) : Own8 N w0 (w.alloc (.cells #[] 5)) (.slice (some ⟨w.heap.size, 0, none⟩) 0 0) [] :=
 ⟨own_new w _ _ 1 0 [] hN rfl (by decide), hb.alloc hN _, Nat.le_trans hN (by simp)⟩
theorem Own8.nil (w0 w : World) (N : Nat) (hb : Below N w0 w) (hN : N ≤ w.heap.size) : Own8 N w0 w (.slice none 0 0) [] :=
 ⟨World.ownsRow_nil _ _ _ _, hb, hN⟩
theorem Own8.slice {N : Nat} {w0 w : World} {v : Value} {zs : List UInt8} (h : Own8 N w0 w v zs) :
  ∃ A c, v = .slice A zs.length c ∧ zs.length ≤ c ∧ c ≤ maxLen ∧ Rd w A (b8s zs) ∧ (∀ ad, A = some ad → N ≤ ad.block ∧ ad.block < w.heap.size) := by
 obtain ⟨A, c, rfl, h1, h2, h3, _⟩ := own_slice h.own
 exact ⟨A, c, rfl, h1, h2, own_rd h.own, h3⟩
theorem Own8.trans {N : Nat} {w0 w1 w2 : World} {v : Value} {zs : List UInt8} (hb : Below N w0 w1) (hN : N ≤ w1.heap.size) (h : Own8 w1.heap.size w1 w2 v zs) : Own8 N w0 w2 v zs :=
 ⟨own_mono h.own hN, hb.trans (h.bel.mono hN), Nat.le_trans hN h.sz⟩
theorem Own8.later {N : Nat} {w0 w1 w2 : World} {v : Value} {zs : List UInt8} (h : Own8 N w0 w1 v zs) (hb : Below w1.heap.size w1 w2) : Own8 N w0 w2 v zs :=
 ⟨own_below h.own hb, h.bel.trans (hb.mono h.sz), Nat.le_trans h.sz hb.size⟩
theorem Own8.appended {N m : Nat} {w0 w1 w2 : World} {v v2 : Value} {xs ys : List UInt8} (h : Own8 N w0 w1 v xs) (h2 : w2.ownsRow N 5 1 v2 (xs.length + m) (b8s xs ++ b8s ys)) (hm : m = ys.length)
  (hg : w1.grownBy w2 v.ownBlock) : Own8 N w0 w2 v2 (xs ++ ys) := by
 subst hm
 refine ⟨by rw [List.length_append, b8s_append]; exact h2, below_grown_own h.bel h.own hg h.sz, ?_⟩
 have := hg.size
 have := h.sz
 omega
theorem Own8.ext {w0 w1 w2 : World} {v : Value} {zs : List UInt8} (h : Own8 w1.heap.size w1 w2 v zs) (hb : Below w0.heap.size w0 w1) : Below w0.heap.size w0 w2 := ext_trans hb h.bel
theorem wpList_append_str8 {ops : Array Oper} {rest : List Oper} {o : Oper} {a : Act} {Q : Exit → Act → World → Prop} {w0 wr : World} (hgd : o.guard = none) (s x : Operand)
  (ho : o.op = .call { callee := .builtin .append, args := #[s, x], argTypes := #[29, 9] }) {N : Nat} {v : Value} {zs : List UInt8} (t : ByteArray) (hs : a.eval s = v)
  (hx : a.eval x = .string t) (hown : Own8 N w0 wr v zs) (hlen : zs.length + t.size ≤ 140737488355328)
  (h : ∀ v' w', Own8 N w0 w' v' (zs ++ t.data.toList) → wpList Tryz.prog ops Q rest (a.put o.dst v') w') : wpList Tryz.prog ops Q (o :: rest) a wr := by
 obtain ⟨i, hi, hz, hsize, hby⟩ := info_parts info_u8
 refine Lib.wpList_append_own_string wr hgd s x 29 9 ho N 5 i Tryz.underlying29 Tryz.underlying9 hi hz hsize hby v zs.length (b8s zs) hs hown.own t hx (by unfold maxLen; omega) (by omega) hown.sz ?_
 intro v' w' h1 h2 _
 refine h v' w' ⟨by rw [List.length_append, b8s_append, size_toList]; exact h1, ?_, ?_⟩
 ·exact below_grown_own hown.bel hown.own h2 hown.sz
 ·have := h2.size
  have := hown.sz
  omega
set_option maxHeartbeats 1000000 in
theorem join_any (A B : Option Addr) (xs ys : List UInt8) (c c' : Nat) (w : World) (ha : Rd w A (b8s xs)) (hb : Rd w B (b8s ys)) (hm : xs.length + ys.length ≤ 140737488355328) :
  Calls Tryz.prog 44 #[.slice A xs.length c, .slice B ys.length c'] w fun e w' => ∃ v, e = .returned v ∧ Own8 w.heap.size w w' v (xs ++ ys) := by
 have hlx : xs.length ≤ 140737488355328 := by omega
 have hly : ys.length ≤ 140737488355328 := by omega
 obtain ⟨N, hN⟩ : ∃ N, N = w.heap.size := ⟨_, rfl⟩
 have HN := h_ hN
 go_enter Tryz.func44, Tryz.ntmps44
 rw [← hN]
 clear hN
 go_wp2
 go_loopw [5, 6] (fun v i wr => ∃ (k : Nat) (zs : List UInt8), k ≤ xs.length ∧ i = .int .i64 k ∧ zs = xs.take k ∧ Own8 N w wr v zs) (fun _ i _ => xs.length - (intOf i).toNat)
 case atStart =>
  have := HN.out
  subst this
  exact ⟨0, [], by omega, rfl, by simp, Own8.start w⟩
 case round =>
  obtain ⟨k, zs, hk, rfl, hzs, hown⟩ := hrel
  have Hzs := h_ hzs
  have hl : zs.length = k := by rw [hzs, List.length_take]; omega
  have Hl := h_ hl
  have hl1 : zs.length ≤ k := by omega
  clear hl hzs
  by_cases hlt : k < xs.length
  ·have hr : Rd wr A (b8s xs) := by
    have := HN.out
    subst this
    exact ha.below hown.bel
   obtain ⟨b, o, rfl, hc⟩ := hr.byte k hlt
   go_wp2_with (at_builtin; refine wpList_append_u8 rfl _ _ rfl xs[k] rfl rfl rfl hown (by omega) ?_; intro v1 w1 hown1)
   go_roundw
   case rel => exact ⟨k + 1, _, by omega, by go_num, by rw [Hzs.out, List.take_succ_eq_append_getElem hlt], hown1⟩
   case measure => simp [intOf]; omega
  ·go_wp2
   have hz : zs = xs := by
    have := Hzs.out
    rw [this, List.take_of_length_le (by omega)]
   subst hz
   clear Hzs hl1 Hl
   go_loopw [5, 7] (fun v i wr => ∃ (k : Nat) (us : List UInt8), k ≤ ys.length ∧ i = .int .i64 k ∧ us = zs ++ ys.take k ∧ Own8 N w wr v us) (fun _ i _ => ys.length - (intOf i).toNat)
   case atStart => exact ⟨0, zs, by omega, rfl, by simp, hown⟩
   case round =>
    clear hown
    obtain ⟨k, us, hk, rfl, hus, hown⟩ := hrel
    have Hus := h_ hus
    have hl : us.length = zs.length + k := by rw [hus, List.length_append, List.length_take]; omega
    have Hl := h_ hl
    have hl1 : us.length ≤ zs.length + k := by omega
    clear hl hus
    by_cases hlt : k < ys.length
    ·have hr : Rd wr B (b8s ys) := by
      have := HN.out
      subst this
      exact hb.below hown.bel
     obtain ⟨b, o, rfl, hc⟩ := hr.byte k hlt
     go_wp2_with (at_builtin; refine wpList_append_u8 rfl _ _ rfl ys[k] rfl rfl rfl hown (by omega) ?_; intro v1 w1 hown1)
     go_roundw
     case rel => exact ⟨k + 1, _, by omega, by go_num, by rw [Hus.out, List.take_succ_eq_append_getElem hlt, List.append_assoc], hown1⟩
     case measure => simp [intOf]; omega
    ·go_wp2
     go_ret
     have hz : us = zs ++ ys := by
      have := Hus.out
      rw [this, List.take_of_length_le (by omega)]
     subst hz
     exact ⟨_, rfl, hown⟩
theorem join_n (A B : Option Addr) (xs ys : List UInt8) (c c' : Nat) (w : World) (ha : Rd w A (b8s xs)) (hb : Rd w B (b8s ys)) (n m : Nat) (hn : n = xs.length) (hm : m = ys.length) (hl : xs.length + ys.length ≤ 140737488355328) :
  Calls Tryz.prog 44 #[.slice A n c, .slice B m c'] w fun e w' => ∃ v, e = .returned v ∧ Own8 w.heap.size w w' v (xs ++ ys) := by
 subst hn hm
 exact join_any A B xs ys c c' w ha hb hl
theorem Own8.hid {N : Nat} {w0 w : World} {v : Value} {zs : List UInt8} (h : Own8 N w0 w v zs) :
  ∃ A n c, v = .slice A n c ∧ Hid (n = zs.length) ∧ Rd w A (b8s zs) := by
 obtain ⟨A, c, h1, h2, h3, h4, h5⟩ := h.slice
 exact ⟨A, _, c, h1, rfl, h4⟩
theorem Own8.sliceN {N : Nat} {w0 w : World} {v : Value} {zs : List UInt8} (h : Own8 N w0 w v zs) :
  ∃ A n c, v = .slice A n c ∧ n = zs.length ∧ n ≤ c ∧ c ≤ maxLen ∧ Rd w A (b8s zs) ∧ (∀ ad, A = some ad → N ≤ ad.block ∧ ad.block < w.heap.size) := by
 obtain ⟨A, c, h1, h2, h3, h4, h5⟩ := h.slice
 exact ⟨A, _, c, h1, rfl, h2, h3, h4, h5⟩
def wpS (P : Program) (ops : Array Oper) (S : World → Prop) (Q : Exit → Act → World → Prop) : List (Bool × Nat) → Act → World → Prop
 | [], a, w => Q .normal a w
 | (true, i) :: r, a, w => ∀ o, ops[i]? = some o → ∃ v, YieldsIf P ops S o v a ∧ wpS P ops S Q r (a.put o.dst v) w
 | (false, i) :: r, a, w => ∀ o, ops[i]? = some o → ∀ K : Act → World → Prop, Shut (∀ a w, S w → (S w → wpS P ops S Q r a w) → K a w) → if Region.wanted o (yielded ops a.tmps) = true then Oper.wp P o a w K Q else K (a.put o.dst undef) w
def schedOk (md : Region.Mode) (ops : Array Oper) : List (Bool × Nat) → Array Bool → Bool
 | [], listed => (Region.ready md ops listed).isEmpty
 | (true, i) :: r, listed => (Region.ready md ops listed).contains i && Region.free md ops listed i && schedOk md ops r (listed.setIfInBounds i true)
 | (false, i) :: r, listed => (Region.ready md ops listed == [i]) && schedOk md ops r (listed.setIfInBounds i true)
theorem ready_get {md : Region.Mode} {ops : Array Oper} {listed : Array Bool} {i : Nat} (h : i ∈ Region.ready md ops listed) : ∃ o, ops[i]? = some o := by
 simp only [Region.ready, List.mem_filter, List.mem_range] at h
 exact ⟨_, Array.getElem?_eq_getElem h.1⟩
theorem wpAnyH_of_sched {P : Program} {ops : Array Oper} {S : World → Prop} {Q : Exit → Act → World → Prop} {md : Region.Mode} (hsel : Region.noSelect ops = true)
  (hQ : ∀ c a a' w, Q (.panic c) a w → Q (.panic c) a' w) :
  ∀ (L : List (Bool × Nat)) (listed : Array Bool) (a : Act) (w : World), schedOk md ops L listed = true → S w → wpS P ops S Q L a w → wpAnyH P md ops Q S L.length listed a w
 | [], listed, a, w, hk, _, h => by
  simp only [schedOk, List.isEmpty_iff] at hk
  exact ⟨hk, h⟩
 | (true, i) :: r, listed, a, w, hk, hS, h => by
   simp only [schedOk, Bool.and_eq_true] at hk
   obtain ⟨⟨hr, hf⟩, hk⟩ := hk
   obtain ⟨o, ho⟩ := ready_get (by simpa using hr)
   obtain ⟨v, hy, hrest⟩ := h o ho
   exact wpAnyH_take ho hsel hf hr (fun c a w h => hQ c _ _ w h) hy hS (wpAnyH_of_sched hsel hQ r _ _ _ hk hS hrest)
 | (false, i) :: r, listed, a, w, hk, hS, h => by
   simp only [schedOk, Bool.and_eq_true, beq_iff_eq] at hk
   obtain ⟨hr, hk⟩ := hk
   obtain ⟨o, ho⟩ := ready_get (md := md) (ops := ops) (listed := listed) (i := i) (by rw [hr]; simp)
   refine wpAnyH_ready hr (by simp) (AllReadyH.cons ho (fun K hK => ?_) AllReadyH.nil)
   exact h o ho K (fun a w hS' hW => hK.out a w hS' (fun hS'' => wpAnyH_of_sched hsel hQ r _ a w hk hS'' (hW hS'')))
theorem wp_region_sched {P : Program} {ops : Array Oper} {Q : Exit → Act → World → Prop} {id : Nat} {a : Act} {w : World} (S : World → Prop) (L : List (Bool × Nat)) (hm : P.follows .mixedOrders = true)
  (hsel : Region.noSelect ops = true) (hlen : L.length = ops.size) (hk : schedOk .any ops L (Array.replicate ops.size false) = true)
  (hS : S w.drew) (h : wpS P ops S (NoPanic Q) L a w.drew) : (Code.region id ops true).wp P Q a w :=
 wp_region_noPanic <| wp_region_held_drew hm hS fun hS' => by
  have := wpAnyH_of_sched hsel (fun _ _ _ _ h => h.elim) L _ a w.drew hk hS' h
  rw [hlen] at this
  exact this
theorem wpS_done {P : Program} {ops : Array Oper} {S : World → Prop} {Q : Exit → Act → World → Prop} {a : Act} {w : World} (h : Q .normal a w) : wpS P ops S (NoPanic Q) [] a w := h
set_option linter.unusedSectionVars false
section
variable {P : Program} {ops : Array Oper} {S : World → Prop} {Q : Exit → Act → World → Prop} {r : List (Bool × Nat)} {a : Act} {w : World}
theorem wpS_take {i : Nat} (o : Oper) (v : Value) (ho : ops[i]? = some o) (hw : Region.wanted o (yielded ops a.tmps) = true) (hy : ∀ w, S w → (execOp a.eval o).run P w = .ok (.value v) w)
  (h : wpS P ops S Q r (a.put o.dst v) w) : wpS P ops S Q ((true, i) :: r) a w := fun o' ho' => by
 rw [ho] at ho'
 cases ho'
 exact ⟨v, .inl ⟨hw, hy⟩, h⟩
theorem wpS_pass {i : Nat} (o : Oper) (ho : ops[i]? = some o) (hw : Region.wanted o (yielded ops a.tmps) = false)
  (h : wpS P ops S Q r (a.put o.dst undef) w) : wpS P ops S Q ((true, i) :: r) a w := fun o' ho' => by
 rw [ho] at ho'
 cases ho'
 exact ⟨undef, .inr ⟨hw, rfl⟩, h⟩
theorem wpS_load {i : Nat} (o : Oper) (ho : ops[i]? = some o) (hw : Region.wanted o (yielded ops a.tmps) = true) (ty : TypeId) (x : Operand) (hop : o.op = .load ty x)
  (b off : Nat) (hx : a.eval x = .pointer (some ⟨b, off, none⟩)) (cs : List Value) (d : TypeDesc) (hS : ∀ w, S w → w.rangeAt b off cs)
  (hu : P.underlying ty = some d) (hd : d.isRow = true) (hi : (P.info? ty).map (·.size) = some cs.length)
  (h : wpS P ops S Q r (a.put o.dst (.agg cs.toArray)) w) : wpS P ops S Q ((true, i) :: r) a w := fun o' ho' => by
 rw [ho] at ho'
 cases ho'
 exact ⟨_, yieldsIf_load_mid hw ty x hop b off hx cs d hS hu hd hi, h⟩
theorem wpS_do {i : Nat} (o : Oper) (ho : ops[i]? = some o) (hw : Region.wanted o (yielded ops a.tmps) = true)
  (h : ∀ K : Act → World → Prop, Shut (∀ a w, S w → (S w → wpS P ops S Q r a w) → K a w) → Oper.wp P o a w K Q) : wpS P ops S Q ((false, i) :: r) a w := fun o' ho' K hK => by
 rw [ho] at ho'
 cases ho'
 rw [if_pos hw]
 exact h K hK
theorem wpS_skip {i : Nat} (o : Oper) (ho : ops[i]? = some o) (hw : Region.wanted o (yielded ops a.tmps) = false) (hS : S w)
  (h : wpS P ops S Q r (a.put o.dst undef) w) : wpS P ops S Q ((false, i) :: r) a w := fun o' ho' K hK => by
 rw [ho] at ho'
 cases ho'
 rw [if_neg (by rw [hw]; decide)]
 exact hK.out _ _ hS (fun _ => h)
end
def doStep (P : Program) (ops : Array Oper) (S : World → Prop) (Q : Exit → Act → World → Prop) (i : Nat) (R : Act → World → Prop) (a : Act) (w : World) : Prop :=
 ∀ o, ops[i]? = some o → ∀ K : Act → World → Prop, Shut (∀ a w, S w → (S w → R a w) → K a w) → if Region.wanted o (yielded ops a.tmps) = true then Oper.wp P o a w K Q else K (a.put o.dst undef) w
def wpS2 (P : Program) (ops : Array Oper) (S : World → Prop) (Q : Exit → Act → World → Prop) (i j : Nat) (r : List (Bool × Nat)) : List (Bool × Nat) → Act → World → Prop
 | [], a, w => doStep P ops S Q i (doStep P ops S Q j (wpS P ops S Q r)) a w ∧ doStep P ops S Q j (doStep P ops S Q i (wpS P ops S Q r)) a w
 | (true, k) :: l, a, w => ∀ o, ops[k]? = some o → ∃ v, YieldsIf P ops S o v a ∧ wpS2 P ops S Q i j r l (a.put o.dst v) w
 | (false, k) :: l, a, w => doStep P ops S Q k (wpS2 P ops S Q i j r l) a w
def schedOk2 (md : Region.Mode) (ops : Array Oper) (i j : Nat) (r : List (Bool × Nat)) : List (Bool × Nat) → Array Bool → Bool
 | [], listed => (Region.ready md ops listed == [i, j]) && (Region.ready md ops (listed.setIfInBounds i true) == [j]) && (Region.ready md ops (listed.setIfInBounds j true) == [i]) && schedOk md ops r ((listed.setIfInBounds i true).setIfInBounds j true) && schedOk md ops r ((listed.setIfInBounds j true).setIfInBounds i true)
 | (true, k) :: l, listed => (Region.ready md ops listed).contains k && Region.free md ops listed k && schedOk2 md ops i j r l (listed.setIfInBounds k true)
 | (false, k) :: l, listed => (Region.ready md ops listed == [k]) && schedOk2 md ops i j r l (listed.setIfInBounds k true)
theorem wpAnyH_one {P : Program} {ops : Array Oper} {S : World → Prop} {Q : Exit → Act → World → Prop} {md : Region.Mode} {i n : Nat} {listed : Array Bool} {a : Act} {w : World} {R : Act → World → Prop}
  (hr : Region.ready md ops listed = [i]) (hR : ∀ a w, S w → R a w → wpAnyH P md ops Q S n (listed.setIfInBounds i true) a w) (h : doStep P ops S Q i R a w) : wpAnyH P md ops Q S (n + 1) listed a w := by
 obtain ⟨o, ho⟩ := ready_get (md := md) (ops := ops) (listed := listed) (i := i) (by rw [hr]; simp)
 refine wpAnyH_ready hr (by simp) (AllReadyH.cons ho (fun K hK => ?_) AllReadyH.nil)
 exact h o ho K (fun a w hS' hW => hK.out a w hS' (fun hS'' => hR a w hS' (hW hS'')))
theorem wpAnyH_two {P : Program} {ops : Array Oper} {S : World → Prop} {Q : Exit → Act → World → Prop} {md : Region.Mode} {i j n : Nat} {listed : Array Bool} {a : Act} {w : World} {R R' : Act → World → Prop}
  (hr : Region.ready md ops listed = [i, j]) (hR : ∀ a w, S w → R a w → wpAnyH P md ops Q S n (listed.setIfInBounds i true) a w) (hR' : ∀ a w, S w → R' a w → wpAnyH P md ops Q S n (listed.setIfInBounds j true) a w)
  (h : doStep P ops S Q i R a w) (h' : doStep P ops S Q j R' a w) : wpAnyH P md ops Q S (n + 1) listed a w := by
 obtain ⟨o, ho⟩ := ready_get (md := md) (ops := ops) (listed := listed) (i := i) (by rw [hr]; simp)
 obtain ⟨o', ho'⟩ := ready_get (md := md) (ops := ops) (listed := listed) (i := j) (by rw [hr]; simp)
 refine wpAnyH_ready hr (by simp) (AllReadyH.cons ho (fun K hK => ?_) (AllReadyH.cons ho' (fun K hK => ?_) AllReadyH.nil))
 ·exact h o ho K (fun a w hS' hW => hK.out a w hS' (fun hS'' => hR a w hS' (hW hS'')))
 ·exact h' o' ho' K (fun a w hS' hW => hK.out a w hS' (fun hS'' => hR' a w hS' (hW hS'')))
theorem wpAnyH_of_sched2 {P : Program} {ops : Array Oper} {S : World → Prop} {Q : Exit → Act → World → Prop} {md : Region.Mode} (hsel : Region.noSelect ops = true)
  (hQ : ∀ c a a' w, Q (.panic c) a w → Q (.panic c) a' w) (i j : Nat) (r : List (Bool × Nat)) :
  ∀ (L : List (Bool × Nat)) (listed : Array Bool) (a : Act) (w : World), schedOk2 md ops i j r L listed = true → S w → wpS2 P ops S Q i j r L a w → wpAnyH P md ops Q S (L.length + (r.length + 1 + 1)) listed a w
 | [], listed, a, w, hk, hS, h => by
  simp only [schedOk2, Bool.and_eq_true, beq_iff_eq] at hk
  obtain ⟨⟨⟨⟨h1, h2⟩, h3⟩, h4⟩, h5⟩ := hk
  rw [List.length_nil, Nat.zero_add]
  refine wpAnyH_two h1 (fun a w hS h => wpAnyH_one h2 (fun a w hS h => wpAnyH_of_sched hsel hQ r _ a w h4 hS h) h) (fun a w hS h => wpAnyH_one h3 (fun a w hS h => wpAnyH_of_sched hsel hQ r _ a w h5 hS h) h) h.1 h.2
 | (true, k) :: l, listed, a, w, hk, hS, h => by
   simp only [schedOk2, Bool.and_eq_true] at hk
   obtain ⟨⟨hr, hf⟩, hk⟩ := hk
   obtain ⟨o, ho⟩ := ready_get (by simpa using hr)
   obtain ⟨v, hy, hrest⟩ := h o ho
   have := wpAnyH_of_sched2 hsel hQ i j r l _ _ _ hk hS hrest
   rw [List.length_cons, Nat.add_right_comm]
   exact wpAnyH_take ho hsel hf hr (fun c a w h => hQ c _ _ w h) hy hS this
 | (false, k) :: l, listed, a, w, hk, hS, h => by
   simp only [schedOk2, Bool.and_eq_true, beq_iff_eq] at hk
   obtain ⟨hr, hk⟩ := hk
   rw [List.length_cons, Nat.add_right_comm]
   exact wpAnyH_one hr (fun a w hS h => wpAnyH_of_sched2 hsel hQ i j r l _ a w hk hS h) h
theorem wp_region_sched2 {P : Program} {ops : Array Oper} {Q : Exit → Act → World → Prop} {id : Nat} {a : Act} {w : World} (S : World → Prop) (L : List (Bool × Nat)) (i j : Nat) (r : List (Bool × Nat)) (hm : P.follows .mixedOrders = true)
  (hsel : Region.noSelect ops = true) (hlen : L.length + (r.length + 1 + 1) = ops.size) (hk : schedOk2 .any ops i j r L (Array.replicate ops.size false) = true)
  (hS : S w.drew) (h : wpS2 P ops S (NoPanic Q) i j r L a w.drew) : (Code.region id ops true).wp P Q a w :=
 wp_region_noPanic <| wp_region_held_drew hm hS fun hS' => by
  have := wpAnyH_of_sched2 hsel (fun _ _ _ _ h => h.elim) i j r L _ a w.drew hk hS' h
  rw [hlen] at this
  exact this
section
variable {P : Program} {ops : Array Oper} {S : World → Prop} {Q : Exit → Act → World → Prop} {r l : List (Bool × Nat)} {i j : Nat} {a : Act} {w : World}
theorem wpS2_take {k : Nat} (o : Oper) (v : Value) (ho : ops[k]? = some o) (hw : Region.wanted o (yielded ops a.tmps) = true) (hy : ∀ w, S w → (execOp a.eval o).run P w = .ok (.value v) w)
  (h : wpS2 P ops S Q i j r l (a.put o.dst v) w) : wpS2 P ops S Q i j r ((true, k) :: l) a w := fun o' ho' => by
 rw [ho] at ho'
 cases ho'
 exact ⟨v, .inl ⟨hw, hy⟩, h⟩
theorem wpS2_load {k : Nat} (o : Oper) (ho : ops[k]? = some o) (hw : Region.wanted o (yielded ops a.tmps) = true) (ty : TypeId) (x : Operand) (hop : o.op = .load ty x)
  (b off : Nat) (hx : a.eval x = .pointer (some ⟨b, off, none⟩)) (cs : List Value) (d : TypeDesc) (hS : ∀ w, S w → w.rangeAt b off cs)
  (hu : P.underlying ty = some d) (hd : d.isRow = true) (hi : (P.info? ty).map (·.size) = some cs.length)
  (h : wpS2 P ops S Q i j r l (a.put o.dst (.agg cs.toArray)) w) : wpS2 P ops S Q i j r ((true, k) :: l) a w := fun o' ho' => by
 rw [ho] at ho'
 cases ho'
 exact ⟨_, yieldsIf_load_mid hw ty x hop b off hx cs d hS hu hd hi, h⟩
theorem doStep_do {R : Act → World → Prop} (o : Oper) (ho : ops[i]? = some o) (hw : Region.wanted o (yielded ops a.tmps) = true)
  (h : ∀ K : Act → World → Prop, Shut (∀ a w, S w → (S w → R a w) → K a w) → Oper.wp P o a w K Q) : doStep P ops S Q i R a w := fun o' ho' K hK => by
 rw [ho] at ho'
 cases ho'
 rw [if_pos hw]
 exact h K hK
theorem wpS2_both (h : doStep P ops S Q i (doStep P ops S Q j (wpS P ops S Q r)) a w) (h' : doStep P ops S Q j (doStep P ops S Q i (wpS P ops S Q r)) a w) : wpS2 P ops S Q i j r [] a w := ⟨h, h'⟩
end
section
variable {P : Program}
theorem run_eq_items (d : Nat) {e : TypeId} (a b : List UInt8) (w : World) (he : P.underlying e = some (.int .u8)) (hk : P.plainKey e = true) (hl : a.length = b.length) :
  ∀ (m k : Nat), k + m = a.length → (Op.eqItems (d + 1) e 1 (b8s a).toArray (b8s b).toArray (List.range' k m)).run P w = .ok (decide (a.drop k = b.drop k)) w
 | 0, k, h => by
  rw [List.drop_of_length_le (by omega), List.drop_of_length_le (by omega)]
  simp [Op.eqItems]
 | m + 1, k, h => by
   have hka : k < a.length := by omega
   have hkb : k < b.length := by omega
   have h1 : (part e (b8s a).toArray (k * 1)).run P w = .ok (.int .u8 (a[k].toNat : Int)) w := run_part_plain w hk (by rw [Nat.mul_one]; simp [b8s, hka])
   have h2 : (part e (b8s b).toArray (k * 1)).run P w = .ok (.int .u8 (b[k].toNat : Int)) w := run_part_plain w hk (by rw [Nat.mul_one]; simp [b8s, hkb])
   have h3 : (Op.equalIn (d + 1) e (.int .u8 (a[k].toNat : Int)) (.int .u8 (b[k].toNat : Int))).run P w = .ok ((a[k].toNat : Int) == (b[k].toNat : Int)) w := run_equalIn_int w d e .u8 .u8 _ _ he
   have ih := run_eq_items d a b w he hk hl m (k + 1) (by omega)
   rw [List.range'_succ]
   simp only [Op.eqItems, Sem.run_bind, h1, h2, h3, Result.andThen_ok]
   have hd : (a.drop k = b.drop k) ↔ a[k] = b[k] ∧ a.drop (k + 1) = b.drop (k + 1) := by
    rw [List.drop_eq_getElem_cons hka, List.drop_eq_getElem_cons hkb]
    exact List.cons_eq_cons
   by_cases hx : a[k] = b[k]
   ·have hb : ((a[k].toNat : Int) == (b[k].toNat : Int)) = true := by rw [hx]; simp
    rw [hb]
    simp only [Bool.not_true, Bool.false_eq_true, if_false]
    rw [ih]
    congr 1
    rw [decide_eq_decide]
    rw [hd]
    simp [hx]
   ·have hb : ((a[k].toNat : Int) == (b[k].toNat : Int)) = false := by
     rw [beq_eq_false_iff_ne]
     intro h'
     exact hx (UInt8.toNat_inj.1 (by omega))
    rw [hb]
    have : ¬ (a.drop k = b.drop k) := fun h' => hx (hd.1 h').1
    simp [this]
theorem run_eq_bytes (d : Nat) {t e : TypeId} {n : Nat} {i : TypeInfo} (a b : List UInt8) (w : World) (hu : P.underlying t = some (.array n e)) (he : P.underlying e = some (.int .u8)) (hi : P.info? e = some i) (hc : P.cellsOf e = 1) (hk : P.plainKey e = true)
  (ha : a.length = n) (hb : b.length = n) : (Op.equalIn (d + 2) t (.agg (b8s a).toArray) (.agg (b8s b).toArray)).run P w = .ok (decide (a = b)) w := by
 rw [run_equalIn_array w (d + 1) _ _ hu hi, hc, List.range_eq_range', run_eq_items d a b w he hk (by omega) n 0 (by omega)]
 simp
theorem run_eql_ids {t e : TypeId} {n : Nat} (hu : P.underlying t = some (.array n e)) (he : P.underlying e = some (.int .u8)) (hi : (P.info? e).isSome = true) (hc : P.cellsOf e = 1) (hk : P.plainKey e = true)
  (a b : List UInt8) (ha : a.length = n) (hb : b.length = n) (w : World) : (binOp .eql t (.agg (b8s a).toArray) (.agg (b8s b).toArray)).run P w = .ok (.bool (decide (a = b))) w := by
 obtain ⟨i, hi⟩ := Option.isSome_iff_exists.1 hi
 have h := run_eq_bytes (P := P) 9998 a b w hu he hi hc hk ha hb
 simp only [binOp]
 simp [Op.equal, Op.maxDepth, h]
theorem run_neq_ids {t e : TypeId} {n : Nat} (hu : P.underlying t = some (.array n e)) (he : P.underlying e = some (.int .u8)) (hi : (P.info? e).isSome = true) (hc : P.cellsOf e = 1) (hk : P.plainKey e = true)
  (a b : List UInt8) (ha : a.length = n) (hb : b.length = n) (w : World) : (binOp .neq t (.agg (b8s a).toArray) (.agg (b8s b).toArray)).run P w = .ok (.bool (!decide (a = b))) w := by
 obtain ⟨i, hi⟩ := Option.isSome_iff_exists.1 hi
 have h := run_eq_bytes (P := P) 9998 a b w hu he hi hc hk ha hb
 simp only [binOp]
 simp [Op.equal, Op.maxDepth, h]
end
theorem index_str {P : Program} {t : TypeId} {s : ByteArray} {c : UInt8} (n : Nat) (k : IntKind) (w : World) (h : P.underlying t = some .string) (hs : s[n]? = some c) : (Instr.index t (.string s) (.int k (n : Int))).run P w = .ok (.int .u8 (c.toNat : Int)) w := by
 simp [Instr.index, asIntOf, run_underlying h, hs]
theorem exec_index {P : Program} {a : Act} {o : Oper} {w : World} (T : TypeId) (x i : Operand) (ho : o.op = .index T x i) (X I V : Value) (hx : a.eval x = X) (hi : a.eval i = I) (h : (Instr.index T X I).run P w = .ok V w) : (execOp a.eval o).run P w = .ok (.value V) w := by
 simp [execOp, ho, hx, hi, h]
theorem exec_bin {P : Program} {a : Act} {o : Oper} {w : World} (b : BinOp) (T U : TypeId) (x y : Operand) (ho : o.op = .binOp b T x y U) (X Y V : Value) (hx : a.eval x = X) (hy : a.eval y = Y) (hg : (eqGuard b T x y X Y).run P w = .ok () w) (h : (binOp b T X Y).run P w = .ok V w) : (execOp a.eval o).run P w = .ok (.value V) w := by
 simp [execOp, ho, hx, hy, h, hg]
theorem wrap64_in (c : Int) (h1 : -9223372036854775808 ≤ c) (h2 : c ≤ 9223372036854775807) : IntKind.i64.wrap c = c := by rw [IntKind.wrap_i64]; omega
theorem bin_add {P : Program} {t : TypeId} (a b c : Int) (w : World) (h : a + b = c) (h1 : -9223372036854775808 ≤ c) (h2 : c ≤ 9223372036854775807) : (binOp .add t (.int .i64 a) (.int .i64 b)).run P w = .ok (.int .i64 c) w := by
 subst h
 simp [binOp, go_sem, wrap64_in _ h1 h2]
theorem bin_sub {P : Program} {t : TypeId} (a b c : Int) (w : World) (h : a - b = c) (h1 : -9223372036854775808 ≤ c) (h2 : c ≤ 9223372036854775807) : (binOp .sub t (.int .i64 a) (.int .i64 b)).run P w = .ok (.int .i64 c) w := by
 subst h
 simp [binOp, go_sem, wrap64_in _ h1 h2]
theorem row_cell {w : World} {g : Nat} {cs : Array Value} {t : TypeId} (h : w.heap[g]? = some (.cells cs t (0, 0))) (i : Nat) : w.cell? ⟨g, i, none⟩ = cs[i]? := cell_of_row w g i cs t (0, 0) h
theorem row_free {w : World} {g : Nat} {cs : Array Value} {t : TypeId} (h : w.heap[g]? = some (.cells cs t (0, 0))) (i : Nat) : w.frozen? ⟨g, i, none⟩ = false := frozen_of_row w g i cs t h
theorem row_set {w : World} {g : Nat} {cs : Array Value} {t : TypeId} (h : w.heap[g]? = some (.cells cs t (0, 0))) (i : Nat) (u : Value) : (w.setCell ⟨g, i, none⟩ u).heap[g]? = some (.cells (cs.setIfInBounds i u) t (0, 0)) :=
 heap_setCell_same w g i cs t u h
theorem grown_set {w : World} (g i : Nat) (u : Value) : w.grownBy (w.setCell ⟨g, i, none⟩ u) (some g) :=
 ⟨rfl, rfl, rfl, by simp [World.setCell], fun k _ hk => Below.heap_setCell _ _ _ _ (fun e => hk (by rw [e]))⟩
theorem grown_trans1 {a b c : World} {g : Nat} (h : a.grownBy b (some g)) (k : b.grownBy c (some g)) : a.grownBy c (some g) :=
 ⟨k.os.trans h.os, k.tape.trans h.tape, k.output.trans h.output, Nat.le_trans h.size k.size, fun i hi hne => (k.block i (Nat.lt_of_lt_of_le hi h.size) hne).trans (h.block i hi hne)⟩
theorem bel_grown {N g : Nat} {w0 w1 w2 : World} (h : Below N w0 w1) (hN : N ≤ w1.heap.size) (hg : w1.grownBy w2 (some g)) (hNg : N ≤ g) : Below N w0 w2 :=
 h.grown hg hN fun k hk => by cases hk; exact hNg
theorem rw2 {w : World} {g : Nat} {a0 a1 : Value} {t : TypeId} (h : Hid (w.heap[g]? = some (.cells #[a0, a1] t (0, 0)))) : w.cell? ⟨g, 0, none⟩ = some a0 ∧ w.cell? ⟨g, 1, none⟩ = some a1 := ⟨row_cell h.out 0, row_cell h.out 1⟩
theorem rw3 {w : World} {g : Nat} {a0 a1 a2 : Value} {t : TypeId} (h : Hid (w.heap[g]? = some (.cells #[a0, a1, a2] t (0, 0)))) : w.cell? ⟨g, 0, none⟩ = some a0 ∧ w.cell? ⟨g, 1, none⟩ = some a1 ∧ w.cell? ⟨g, 2, none⟩ = some a2 := ⟨row_cell h.out 0, row_cell h.out 1, row_cell h.out 2⟩
theorem rw4 {w : World} {g : Nat} {a0 a1 a2 a3 : Value} {t : TypeId} (h : Hid (w.heap[g]? = some (.cells #[a0, a1, a2, a3] t (0, 0)))) : w.cell? ⟨g, 0, none⟩ = some a0 ∧ w.cell? ⟨g, 1, none⟩ = some a1 ∧ w.cell? ⟨g, 2, none⟩ = some a2 ∧ w.cell? ⟨g, 3, none⟩ = some a3 := ⟨row_cell h.out 0, row_cell h.out 1, row_cell h.out 2, row_cell h.out 3⟩
theorem rw7 {w : World} {g : Nat} {a0 a1 a2 a3 a4 a5 a6 : Value} {t : TypeId} (h : Hid (w.heap[g]? = some (.cells #[a0, a1, a2, a3, a4, a5, a6] t (0, 0)))) : w.cell? ⟨g, 0, none⟩ = some a0 ∧ w.cell? ⟨g, 1, none⟩ = some a1 ∧ w.cell? ⟨g, 2, none⟩ = some a2 ∧ w.cell? ⟨g, 3, none⟩ = some a3 ∧ w.cell? ⟨g, 4, none⟩ = some a4 ∧ w.cell? ⟨g, 5, none⟩ = some a5 ∧ w.cell? ⟨g, 6, none⟩ = some a6 := ⟨row_cell h.out 0, row_cell h.out 1, row_cell h.out 2, row_cell h.out 3, row_cell h.out 4, row_cell h.out 5, row_cell h.out 6⟩
theorem bg_ {g : Nat} {w0 w1 w2 : World} (h : Hid (Below w0.heap.size w0 w1)) (hg : Hid (w1.grownBy w2 (some g))) (hN : w0.heap.size ≤ g) : Hid (Below w0.heap.size w0 w2) := h_ (bel_grown h.out h.out.size hg.out hN)
theorem bt_ {w0 w1 w2 : World} (h : Hid (Below w0.heap.size w0 w1)) (k : Below w1.heap.size w1 w2) : Hid (Below w0.heap.size w0 w2) := h_ (h.out.trans (k.mono h.out.size))
theorem setCells_grown (g : Nat) : ∀ (vs : List Value) (o : Nat) (w : World), w.grownBy (w.setCells g o vs) (some g)
 | [], _, w => World.grownBy.refl _ _
 | v :: vs, o, w => grown_trans1 (grown_set g o v) (setCells_grown g vs (o + 1) _)
theorem there_of_row {w : World} {g : Nat} {cs : Array Value} {t : TypeId} (h : w.heap[g]? = some (.cells cs t (0, 0))) : w.there g 0 cs.size := fun j hj =>
 ⟨by rw [row_cell h, Nat.zero_add]; simp [hj], row_free h _⟩
theorem range_of_row {w : World} {g : Nat} {cs : List Value} {t : TypeId} (h : w.heap[g]? = some (.cells cs.toArray t (0, 0))) : w.rangeAt g 0 cs := fun j v hv => by
 rw [row_cell h, Nat.zero_add]; simpa using hv
section
variable {P : Program}
theorem results_tmp_row {fn : Func} {u p : Tmp} {ty : TypeId} (h : fn.results = #[.tmp u, .cell p ty]) (tmps : Array Value) (w : World) (g : Nat) (t : TypeId) (cs : Array Value) (fr : Nat × Nat) (d : TypeDesc)
  (hp : tmps.getD p undef = .pointer (some ⟨g, 0, none⟩)) (hg : w.heap[g]? = some (.cells cs t fr))
  (hu : P.underlying ty = some d) (hd : (match d with | .struct _ | .array _ _ => true | _ => false) = true) (hi : (P.info? ty).map (·.size) = some cs.size) :
  (results fn tmps).run P w = .ok (.tuple #[tmps.getD u undef, .agg cs]) w := by
 have hp' : tmps[p]?.getD undef = .pointer (some ⟨g, 0, none⟩) := by simpa using hp
 simp [results, h, hp', asAddr, run_loadVar_row w g t ty cs fr d hg hu hd hi]
theorem results_row_row {fn : Func} {q p : Tmp} {ty ty' : TypeId} (h : fn.results = #[.cell q ty', .cell p ty]) (tmps : Array Value) (w : World) (g g' : Nat) (t t' : TypeId) (cs cs' : Array Value) (fr fr' : Nat × Nat) (d d' : TypeDesc)
  (hp : tmps.getD p undef = .pointer (some ⟨g, 0, none⟩)) (hg : w.heap[g]? = some (.cells cs t fr))
  (hu : P.underlying ty = some d) (hd : (match d with | .struct _ | .array _ _ => true | _ => false) = true) (hi : (P.info? ty).map (·.size) = some cs.size)
  (hp' : tmps.getD q undef = .pointer (some ⟨g', 0, none⟩)) (hg' : w.heap[g']? = some (.cells cs' t' fr'))
  (hu' : P.underlying ty' = some d') (hd' : (match d' with | .struct _ | .array _ _ => true | _ => false) = true) (hi' : (P.info? ty').map (·.size) = some cs'.size) :
  (results fn tmps).run P w = .ok (.tuple #[.agg cs', .agg cs]) w := by
 have e1 : tmps[p]?.getD undef = .pointer (some ⟨g, 0, none⟩) := by simpa using hp
 have e2 : tmps[q]?.getD undef = .pointer (some ⟨g', 0, none⟩) := by simpa using hp'
 simp [results, h, e1, e2, asAddr, run_loadVar_row w g t ty cs fr d hg hu hd hi, run_loadVar_row w g' t' ty' cs' fr' d' hg' hu' hd' hi']
end
theorem row_set2 {w : World} {g : Nat} {a b : Value} {t : TypeId} (h : w.heap[g]? = some (.cells #[a, b] t (0, 0))) (x y : Value) : ((w.setCell ⟨g, 0, none⟩ x).setCell ⟨g, 1, none⟩ y).heap[g]? = some (.cells #[x, y] t (0, 0)) := by
 have := row_set (row_set h 0 x) 1 y
 simpa using this
theorem bel_set2 {w w1 : World} {N g : Nat} (hb : Below N w w1) (hN : N ≤ w1.heap.size) (hg : N ≤ g) (x y : Value) : Below N w ((w1.setCell ⟨g, 0, none⟩ x).setCell ⟨g, 1, none⟩ y) :=
 bel_grown hb hN (grown_trans1 (grown_set g 0 x) (grown_set g 1 y)) hg
theorem set2_far (w : World) (g : Nat) (x y : Value) (a : Addr) (h : g ≠ a.block) : (((w.setCell ⟨g, 0, none⟩ x).setCell ⟨g, 1, none⟩ y).drew).cell? a = w.cell? a := by
 show ((w.setCell ⟨g, 0, none⟩ x).setCell ⟨g, 1, none⟩ y).cell? a = w.cell? a
 rw [World.cell?_setCell_far _ _ _ _ h, World.cell?_setCell_far _ _ _ _ h]
theorem row_set2d {w : World} {g : Nat} {a b : Value} {t : TypeId} (h : w.heap[g]? = some (.cells #[a, b] t (0, 0))) (x y : Value) : (((w.setCell ⟨g, 0, none⟩ x).setCell ⟨g, 1, none⟩ y).drew).heap[g]? = some (.cells #[x, y] t (0, 0)) := row_set2 h x y
theorem grown_set2 (w : World) (g : Nat) (x y : Value) : w.grownBy (((w.setCell ⟨g, 0, none⟩ x).setCell ⟨g, 1, none⟩ y).drew) (some g) :=
 have h := grown_trans1 (grown_set (w := w) g 0 x) (grown_set (w := w.setCell ⟨g, 0, none⟩ x) g 1 y)
 ⟨h.os, h.tape, h.output, h.size, h.block⟩
theorem row_setCells {g : Nat} {t : TypeId} : ∀ (vs p q r : List Value) (w : World), w.heap[g]? = some (.cells (p ++ q ++ r).toArray t (0, 0)) → q.length = vs.length →
  (w.setCells g p.length vs).heap[g]? = some (.cells (p ++ vs ++ r).toArray t (0, 0))
 | [], p, q, r, w, h, hq => by
  have : q = [] := List.eq_nil_of_length_eq_zero hq
  subst this
  exact h
 | v :: vs, p, [], r, w, h, hq => by simp at hq
 | v :: vs, p, x :: q, r, w, h, hq => by
   have h1 := row_set h p.length v
   have e : (p ++ x :: q ++ r).toArray.setIfInBounds p.length v = ((p ++ [v]) ++ q ++ r).toArray := by
    rw [List.setIfInBounds_toArray]
    congr 1
    simp [List.set_append]
   rw [e] at h1
   have := row_setCells vs (p ++ [v]) q r _ h1 (by simpa using hq)
   have e2 : p ++ v :: vs ++ r = (p ++ [v]) ++ vs ++ r := by simp
   rw [e2]
   simpa [World.setCells] using this
theorem row_setAll {g : Nat} {t : TypeId} {cs vs : List Value} {w : World} (h : w.heap[g]? = some (.cells cs.toArray t (0, 0))) (hl : cs.length = vs.length) : (w.setCells g 0 vs).heap[g]? = some (.cells vs.toArray t (0, 0)) := by
 have := row_setCells vs [] cs [] w (by simpa using h) hl
 simpa using this
theorem setCells_other (g : Nat) : ∀ (vs : List Value) (o : Nat) (w : World) (k : Nat), k ≠ g → (w.setCells g o vs).heap[k]? = w.heap[k]?
 | [], _, _, _, _ => rfl
 | v :: vs, o, w, k, h => (setCells_other g vs (o + 1) _ k h).trans (Below.heap_setCell _ _ _ _ (fun e => h (by rw [e])))
theorem setCells_size (g : Nat) (vs : List Value) (o : Nat) (w : World) : w.heap.size ≤ (w.setCells g o vs).heap.size := (setCells_grown g vs o w).size
section
variable {P : Program}
theorem results_row_tmp {fn : Func} {u p : Tmp} {ty : TypeId} (h : fn.results = #[.cell p ty, .tmp u]) (tmps : Array Value) (w : World) (g : Nat) (t : TypeId) (cs : Array Value) (fr : Nat × Nat) (d : TypeDesc)
  (hp : tmps.getD p undef = .pointer (some ⟨g, 0, none⟩)) (hg : w.heap[g]? = some (.cells cs t fr))
  (hu : P.underlying ty = some d) (hd : (match d with | .struct _ | .array _ _ => true | _ => false) = true) (hi : (P.info? ty).map (·.size) = some cs.size) :
  (results fn tmps).run P w = .ok (.tuple #[.agg cs, tmps.getD u undef]) w := by
 have hp' : tmps[p]?.getD undef = .pointer (some ⟨g, 0, none⟩) := by simpa using hp
 simp [results, h, hp', asAddr, run_loadVar_row w g t ty cs fr d hg hu hd hi]
end
section
variable {P : Program} {ops : Array Oper} {rest : List Oper} {o : Oper} {a : Act} {w : World} {Q : Exit → Act → World → Prop}
theorem wpList_wanted (hw : Region.wanted o (yielded ops a.tmps) = true) (h : ∀ K : Act → World → Prop, (∀ a w, wpList P ops Q rest a w → K a w) → o.wp P a w K Q) : wpList P ops Q (o :: rest) a w :=
 wpList_step fun K hK => by simp only [hw, if_true]; exact h K hK
theorem wpList_load_row_w (ty : TypeId) (x : Operand) (ho : o.op = .load ty x)
  (g : Nat) (hx : a.eval x = .pointer (some ⟨g, 0, none⟩)) (t : TypeId) (cs : Array Value) (fr : Nat × Nat) (d : TypeDesc) (hg : w.heap[g]? = some (.cells cs t fr))
  (hu : P.underlying ty = some d) (hd : (match d with | .struct _ | .array _ _ => true | _ => false) = true) (hi : (P.info? ty).map (·.size) = some cs.size) (hw : Region.wanted o (yielded ops a.tmps) = true)
  (h : wpList P ops Q rest (a.put o.dst (.agg cs)) w) : wpList P ops Q (o :: rest) a w :=
 wpList_wanted hw fun _ hK => wp_load_row ty x ho g hx t cs fr d hg hu hd hi (hK _ _ h)
end
def zeros32 : List UInt8 := List.replicate 32 0
theorem zeros32_cells : b8s zeros32 = [.int .u8 0, .int .u8 0, .int .u8 0, .int .u8 0, .int .u8 0, .int .u8 0, .int .u8 0, .int .u8 0, .int .u8 0, .int .u8 0, .int .u8 0, .int .u8 0, .int .u8 0, .int .u8 0, .int .u8 0, .int .u8 0, .int .u8 0, .int .u8 0, .int .u8 0, .int .u8 0, .int .u8 0, .int .u8 0, .int .u8 0, .int .u8 0, .int .u8 0, .int .u8 0, .int .u8 0, .int .u8 0, .int .u8 0, .int .u8 0, .int .u8 0, .int .u8 0] := rfl
theorem arr_place {w : World} (t : TypeId) (idv : List UInt8) (hid : idv.length = 32) :
  ∃ H Wa W5, w.heap.size = H ∧ w.alloc (.cells #[Value.int .u8 0, .int .u8 0, .int .u8 0, .int .u8 0, .int .u8 0, .int .u8 0, .int .u8 0, .int .u8 0, .int .u8 0, .int .u8 0, .int .u8 0, .int .u8 0, .int .u8 0, .int .u8 0, .int .u8 0, .int .u8 0, .int .u8 0, .int .u8 0, .int .u8 0, .int .u8 0, .int .u8 0, .int .u8 0, .int .u8 0, .int .u8 0, .int .u8 0, .int .u8 0, .int .u8 0, .int .u8 0, .int .u8 0, .int .u8 0, .int .u8 0, .int .u8 0] t) = Wa ∧ Wa.setCells H 0 (b8s idv).toArray.toList = W5 ∧ Hid (Wa.there H 0 (b8s idv).toArray.size) ∧ Hid (W5.heap[H]? = some (.cells (b8s idv).toArray t (0, 0))) ∧ Hid (Below w.heap.size w W5) ∧ Hid (W5.heap.size = H + 1) := by
 have hr : (w.alloc (.cells #[Value.int .u8 0, .int .u8 0, .int .u8 0, .int .u8 0, .int .u8 0, .int .u8 0, .int .u8 0, .int .u8 0, .int .u8 0, .int .u8 0, .int .u8 0, .int .u8 0, .int .u8 0, .int .u8 0, .int .u8 0, .int .u8 0, .int .u8 0, .int .u8 0, .int .u8 0, .int .u8 0, .int .u8 0, .int .u8 0, .int .u8 0, .int .u8 0, .int .u8 0, .int .u8 0, .int .u8 0, .int .u8 0, .int .u8 0, .int .u8 0, .int .u8 0, .int .u8 0] t)).heap[w.heap.size]? = some (.cells (b8s zeros32).toArray t (0, 0)) := heap_alloc_new w _
 have hb : Below w.heap.size w (w.alloc (.cells #[Value.int .u8 0, .int .u8 0, .int .u8 0, .int .u8 0, .int .u8 0, .int .u8 0, .int .u8 0, .int .u8 0, .int .u8 0, .int .u8 0, .int .u8 0, .int .u8 0, .int .u8 0, .int .u8 0, .int .u8 0, .int .u8 0, .int .u8 0, .int .u8 0, .int .u8 0, .int .u8 0, .int .u8 0, .int .u8 0, .int .u8 0, .int .u8 0, .int .u8 0, .int .u8 0, .int .u8 0, .int .u8 0, .int .u8 0, .int .u8 0, .int .u8 0, .int .u8 0] t)) := (Below.refl _ _).alloc (Nat.le_refl _) _
 have hs : (b8s idv).toArray.size = 32 := by simp [b8s, hid]
 refine ⟨w.heap.size, _, _, rfl, rfl, rfl, h_ (by rw [hs]; exact there_of_row hr), h_ (row_setAll hr (by rw [b8s_length, b8s_length, hid]; rfl)), h_ (bel_grown hb hb.size (setCells_grown _ _ _ _) (Nat.le_refl _)), h_ ?_⟩
 have : ∀ (vs : List Value) (o : Nat) (W : World), (W.setCells w.heap.size o vs).heap.size = W.heap.size := by
  intro vs
  induction vs with
  | nil => intro o W; rfl
  | cons v vs ih => intro o W; exact (ih (o + 1) _).trans (by simp [World.setCell])
 rw [this]
 simp
theorem arr_size (idv : List UInt8) (hid : idv.length = 32) : (b8s idv).toArray.size = 32 := by simp [b8s, hid]
section
variable {P : Program} (w : World)
end
theorem new_row {w W : World} {cs : Array Value} {t : TypeId} (h : w.alloc (.cells cs t) = W) : W.heap[w.heap.size]? = some (.cells cs t (0, 0)) ∧ Below w.heap.size w W ∧ W.heap.size = w.heap.size + 1 := by
 subst h
 exact ⟨heap_alloc_new w _, (Below.refl _ _).alloc (Nat.le_refl _) _, by simp⟩
section
variable {α : Type} {f : α → List Value} {m : Nat}
theorem flat_length (xs : List α) (h : ∀ x ∈ xs, (f x).length = m) : (xs.flatMap f).length = xs.length * m := by
 induction xs with
 | nil => simp
 | cons x xs ih =>
   have h1 := h x (by simp)
   have h2 := ih (fun y hy => h y (by simp [hy]))
   rw [List.flatMap_cons, List.length_append, h1, h2, List.length_cons, Nat.succ_mul]
   omega
theorem flat_get (xs : List α) (h : ∀ x ∈ xs, (f x).length = m) : ∀ (i : Nat) (hi : i < xs.length) (j : Nat) (u : Value), (f xs[i])[j]? = some u → (xs.flatMap f)[i * m + j]? = some u := by
 induction xs with
 | nil => intro i hi; simp at hi
 | cons x xs ih =>
   intro i hi j u hu
   have h1 := h x (by simp)
   rw [List.flatMap_cons]
   cases i with
   | zero =>
     have hj := (List.getElem?_eq_some_iff.1 hu).1
     rw [Nat.zero_mul, Nat.zero_add, List.getElem?_append_left (by simpa using hj)]
     exact hu
   | succ i =>
     rw [List.getElem?_append_right (by rw [h1, Nat.succ_mul]; omega), h1, show (i + 1) * m + j - m = i * m + j by rw [Nat.succ_mul]; omega]
     exact ih (fun y hy => h y (by simp [hy])) i (by simpa using hi) j u hu
theorem rd_flat {w : World} {b off : Nat} {xs : List α} (hr : Rd w (some ⟨b, off, none⟩) (xs.flatMap f)) (h : ∀ x ∈ xs, (f x).length = m) (i : Nat) (hi : i < xs.length) : w.rangeAt b (off + i * m) (f xs[i]) := by
 intro j v hv
 obtain ⟨b', o', he, hc⟩ := hr _ _ (flat_get xs h i hi j v hv)
 cases he
 rw [Nat.add_assoc]
 exact hc
theorem flat_one (xs : List α) (h : ∀ x ∈ xs, ∀ v ∈ f x, v.oneCell' = true) : ∀ v ∈ xs.flatMap f, v.oneCell' = true := by
 intro v hv
 obtain ⟨x, hx, hv⟩ := List.mem_flatMap.1 hv
 exact h x hx v hv
end
section
variable {P : Program} {ops : Array Oper} {rest : List Oper} {op : Oper} {a : Act} {w : World} {Q : Exit → Act → World → Prop}
theorem wpList_load_cells (ty : TypeId) (x : Operand) (g off : Nat) (cs : List Value) (hs : w.rangeAt g off cs) {d : TypeDesc} (hu : P.underlying ty = some d) (hd : d.isRow = true) (hi : (P.info? ty).map (·.size) = some cs.length)
  (hw : Region.wanted op (yielded ops a.tmps) = true) (ho : op.op = .load ty x) (hx : a.eval x = .pointer (some ⟨g, off, none⟩))
  (h : wpList P ops Q rest (a.put op.dst (.agg cs.toArray)) w) : wpList P ops Q (op :: rest) a w :=
 wpList_wanted hw fun _ hK => wp_load_mid ty x ho g off hx cs d hs hu hd hi (hK _ _ h)
end
theorem row_place {w : World} (t : TypeId) (zs vs : List Value) (hl : zs.length = vs.length) : ∃ Wa W5, w.alloc (.cells zs.toArray t) = Wa ∧ Wa.setCells w.heap.size 0 vs.toArray.toList = W5 ∧ Hid (Wa.there w.heap.size 0 vs.toArray.size) ∧ Hid (W5.heap[w.heap.size]? = some (.cells vs.toArray t (0, 0))) ∧ Hid (Below w.heap.size w W5) := by
 have hrow : (w.alloc (.cells zs.toArray t)).heap[w.heap.size]? = some (.cells zs.toArray t (0, 0)) := heap_alloc_new w _
 have hb : Below w.heap.size w (w.alloc (.cells zs.toArray t)) := (Below.refl _ _).alloc (Nat.le_refl _) _
 refine ⟨_, _, rfl, rfl, h_ ?_, h_ ?_, h_ (bel_grown hb hb.size (setCells_grown _ _ _ _) (Nat.le_refl _))⟩
 ·have := there_of_row hrow
  simpa [hl] using this
 ·simpa using row_setAll (cs := zs) (vs := vs) hrow hl
theorem range_below {w w' : World} {g off : Nat} {cs : List Value} (h : w.rangeAt g off cs) (hg : g < w.heap.size) (hb : Below w.heap.size w w') : w'.rangeAt g off cs := fun j v hv =>
 (World.cell?_of_block (a := ⟨g, off + j, none⟩) (hb.block g hg)).trans (h j v hv)
theorem cell_below {w w' : World} {g off : Nat} {v : Value} (h : w.cell? ⟨g, off, none⟩ = some v) (hg : g < w.heap.size) (hb : Below w.heap.size w w') : w'.cell? ⟨g, off, none⟩ = some v :=
 (World.cell?_of_block (a := ⟨g, off, none⟩) (hb.block g hg)).trans h
theorem results_row1 {P : Program} {fn : Func} {p : Tmp} {ty : TypeId} (h : fn.results = #[.cell p ty]) (tmps : Array Value) (w : World) (g : Nat) (t : TypeId) (cs : Array Value) (fr : Nat × Nat) (d : TypeDesc)
  (hp : tmps.getD p undef = .pointer (some ⟨g, 0, none⟩)) (hg : w.heap[g]? = some (.cells cs t fr))
  (hu : P.underlying ty = some d) (hd : (match d with | .struct _ | .array _ _ => true | _ => false) = true) (hi : (P.info? ty).map (·.size) = some cs.size) :
  (results fn tmps).run P w = .ok (.agg cs) w := by
 have hp' : tmps[p]?.getD undef = .pointer (some ⟨g, 0, none⟩) := by simpa using hp
 simp [results, h, hp', asAddr, run_loadVar_row w g t ty cs fr d hg hu hd hi]
section
variable {P : Program} {ops : Array Oper} {S : World → Prop} {Q : Exit → Act → World → Prop} {r : List (Bool × Nat)} {a : Act} {w : World}
theorem oneCell_cells {v : Value} (h : v.oneCell' = true) : v.cells = #[v] := by cases v <;> first | rfl | cases h
theorem run_storeVar_cell (w : World) (b o : Nat) (ty : TypeId) (v u : Value) (h1 : v.oneCell' = true) (hc : w.cell? ⟨b, o, none⟩ = some u) (hf : w.frozen? ⟨b, o, none⟩ = false) (hi : (P.info? ty).map (·.size) = some 1) :
  (storeVar ty ⟨b, o, none⟩ v).run P w = .ok () (w.setCell ⟨b, o, none⟩ v) := by
 have hk1 : ∀ j, j < [v].length → (w.cell? ⟨b, o + 0 + j, none⟩).isSome = true := by
  intro j hj
  have : j = 0 := by simpa using hj
  subst this
  simp [hc]
 have hk2 : ∀ j, j < [v].length → w.frozen? ⟨b, o + 0 + j, none⟩ = false := by
  intro j hj
  have : j = 0 := by simpa using hj
  subst this
  simpa using hf
 have := run_storeCells_cells (P := P) b o [v] 0 w hk1 hk2 (fun x hx => by simp at hx; subst hx; exact h1)
 cases hq : P.info? ty with
 | none => simp [hq] at hi
 | some i =>
   have hs : i.size = 1 := by simpa [hq] using hi
   simp only [Nat.add_zero] at this
   simp [storeVar, sizeOf, typeInfo, hq, oneCell_cells h1, hs, this, World.setCells]
theorem wpS_store_cell {i : Nat} (o : Oper) (ho : ops[i]? = some o) (hw : Region.wanted o (yielded ops a.tmps) = true) (ty : TypeId) (x y : Operand) (hop : o.op = .store ty x y)
  (b off : Nat) (hx : a.eval x = .pointer (some ⟨b, off, none⟩)) (v : Value) (hy : a.eval y = v) (h1 : v.oneCell' = true) (u : Value) (hc : w.cell? ⟨b, off, none⟩ = some u) (hf : w.frozen? ⟨b, off, none⟩ = false)
  (hi : (P.info? ty).map (·.size) = some 1) (hS : S (w.setCell ⟨b, off, none⟩ v)) (h : wpS P ops S Q r (a.put o.dst undef) (w.setCell ⟨b, off, none⟩ v)) : wpS P ops S Q ((false, i) :: r) a w :=
 wpS_do o ho hw fun K hK => by
  unfold Oper.wp execOp
  simp only [hop, hx, hy, Instr.storeAt, Instr.sureAddr, Sem.run_bind, Sem.run_pure, Result.andThen_ok, run_storeVar_cell w b off ty v u h1 hc hf hi]
  exact hK.out _ _ hS (fun _ => h)
theorem wpS_store_mid {i : Nat} (o : Oper) (ho : ops[i]? = some o) (hw : Region.wanted o (yielded ops a.tmps) = true) (ty : TypeId) (x y : Operand) (hop : o.op = .store ty x y)
  (b off : Nat) (cells : Array Value) (hx : a.eval x = .pointer (some ⟨b, off, none⟩)) (hy : a.eval y = .agg cells) (ht : w.there b off cells.size) (hi : (P.info? ty).map (·.size) = some cells.size) (h1 : cells.all (·.oneCell') = true)
  (hS : S (w.setCells b off cells.toList)) (h : wpS P ops S Q r (a.put o.dst undef) (w.setCells b off cells.toList)) : wpS P ops S Q ((false, i) :: r) a w :=
 wpS_do o ho hw fun K hK => wp_store_mid ty x y hop b off cells hx hy ht hi h1 (hK.out _ _ hS (fun _ => h))
end
theorem fold_splice (off : Nat) : ∀ (vs p q r : List Value) (k : Nat), p.length = off + k → q.length = vs.length →
  (vs.zipIdx k).foldl (fun (cs : Array Value) (x : Value × Nat) => cs.setIfInBounds (off + x.2) x.1) (p ++ q ++ r).toArray = (p ++ vs ++ r).toArray
 | [], p, q, r, k, hp, hq => by
  have : q = [] := List.eq_nil_of_length_eq_zero hq
  subst this
  rfl
 | v :: vs, p, [], r, k, hp, hq => by simp at hq
 | v :: vs, p, x :: q, r, k, hp, hq => by
   rw [List.zipIdx_cons, List.foldl_cons]
   have e : (p ++ x :: q ++ r).toArray.setIfInBounds (off + k) v = ((p ++ [v]) ++ q ++ r).toArray := by
    rw [List.setIfInBounds_toArray, ← hp]
    congr 1
    simp [List.set_append]
   rw [e]
   have := fold_splice off vs (p ++ [v]) q r (k + 1) (by simp; omega) (by simpa using hq)
   rw [this]
   simp
theorem fill_one (place : Nat → Option (Nat × Nat)) (p q r vs : List Value) (rest : List (Nat × Value)) (i : Nat) (hpl : place i = some (p.length, vs.length)) (hq : q.length = vs.length) :
  Instr.fill place (p ++ q ++ r).toArray ((i, .agg vs.toArray) :: rest) = Instr.fill place (p ++ vs ++ r).toArray rest := by
 have h1 : (Value.agg vs.toArray).cells = vs.toArray := rfl
 have h2 := fold_splice p.length vs p q r 0 (by simp) hq
 simp only [Instr.fill, hpl, h1]
 rw [if_neg (by simp; omega)]
 congr 1
 rw [← Array.foldl_toList, Array.toList_zipIdx]
 exact h2
section
variable {P : Program} {ops : Array Oper} {rest : List Oper} {o : Oper} {a : Act} {w : World} {Q : Exit → Act → World → Prop}
theorem wpList_build1 (hg : o.guard = none) (t e : TypeId) (x : Operand) (ho : o.op = .buildSlice t 1 #[(0, x)]) (cs : List Value) (hx : a.eval x = .agg cs.toArray)
  (hu : P.underlying t = some (.slice e)) (hi : (P.info? e).map (fun i => (i.size, i.zero.isSome)) = some (cs.length, true)) (hpos : 0 < cs.length) (hs : cs.length ≤ 2 ^ 24)
  (h : wpList P ops Q rest (a.put o.dst (.slice (some ⟨w.heap.size, 0, none⟩) 1 1)) (w.alloc (.cells cs.toArray e))) : wpList P ops Q (o :: rest) a w := by
 cases hie : P.info? e with
 | none => simp [hie] at hi
 | some ie =>
   simp only [hie, Option.map_some, Option.some.injEq, Prod.mk.injEq] at hi
   obtain ⟨z, hz⟩ := Option.isSome_iff_exists.1 hi.2
   refine wpList_buildSlice hg t e 1 #[(0, x)] ho cs.toArray ie z hu hie hz (by rw [hi.1]; omega) (by rw [hi.1]; omega) ?_ h
   have e1 : (#[(0, x)].map fun (i, x) => (i, a.eval x)).toList = [(0, .agg cs.toArray)] := by simp [hx]
   rw [e1]
   obtain ⟨q, hq⟩ : ∃ q : List Value, ((Array.range (1 * ie.size)).map (z.cells[· % z.cells.size]!)) = ([] ++ q ++ []).toArray := ⟨((Array.range (1 * ie.size)).map (z.cells[· % z.cells.size]!)).toList, by rw [List.nil_append, List.append_nil, Array.toArray_toList]⟩
   have hql : q.length = cs.length := by
    have := congrArg Array.size hq
    simp at this
    omega
   rw [hq, fill_one _ [] q [] cs [] 0 (by simp [hi.1]) hql]
   simp [Instr.fill]
end
theorem grown_none {w w1 : World} (h : w.grownBy w1 none) : Below w.heap.size w w1 := ⟨h.os, h.tape, h.output, h.size, fun i hi => h.block i hi (by simp)⟩
theorem own_far {w w' : World} {base : Nat} {e : TypeId} {size : Nat} {v : Value} {n : Nat} {xs : List Value} {r : Nat} (h : w.ownsRow base e size v n xs) (hr : r < base) (hg : w.grownBy w' (some r)) : w'.ownsRow base e size v n xs :=
 own_keep h fun b hb hlt => hg.block b hlt (by have := (h.lt b hb).1; simp; omega)
section
variable {P : Program} {ops : Array Oper} {rest : List Oper} {o : Oper} {a : Act} {w : World} {Q : Exit → Act → World → Prop}
theorem wpList_built (hg : o.guard = none) (t : TypeId) (parts : Array (Nat × Operand)) (ho : o.op = .build t parts) (ps : List (Nat × Value)) (hps : (parts.toList.map fun (i, x) => (i, a.eval x)) = ps) (cs : Array Value)
  (hf : P.built t ps = some cs) (h : wpList P ops Q rest (a.put o.dst (.agg cs)) w) : wpList P ops Q (o :: rest) a w := by
 have e : (parts.map fun (i, x) => (i, a.eval x)).toList = ps := by rw [Array.toList_map]; exact hps
 refine wpList_build hg t parts ho (by rw [e, hf]; rfl) ?_
 rw [e, hf]
 exact h
end
def Kp (W : World) (lo g2 g3 : Nat) (A : Option Addr) (cs : List Value) : Prop := Rd W A cs ∧ ∀ ad, A = some ad → ad.block < lo ∧ g2 < ad.block ∧ g3 < ad.block
section
variable {W W' : World} {lo lo' g2 g3 : Nat} {A : Option Addr} {cs : List Value}
theorem Kp.nil : Kp W lo g2 g3 none [] := ⟨Rd.nil, fun _ e => by cases e⟩
theorem Kp.below (h : Kp W lo g2 g3 A cs) (hb : Below W.heap.size W W') : Kp W' lo g2 g3 A cs := ⟨h.1.below hb, h.2⟩
theorem Kp.far (h : Kp W lo g2 g3 A cs) {row : Option Nat} (hg : W.grownBy W' row) (hr : ∀ b, row = some b → lo ≤ b ∨ b ≤ g3 ∨ b ≤ g2) : Kp W' lo g2 g3 A cs :=
 ⟨h.1.grown hg (fun ad e hx => by have h1 := h.2 ad e; rcases hr _ hx.symm with h2 | h2 | h2 <;> omega), h.2⟩
end
section
variable {P : Program} {ops : Array Oper} {rest : List Oper} {o : Oper} {a : Act} {w : World} {Q : Exit → Act → World → Prop}
theorem wpList_built_w (hg : Region.wanted o (yielded ops a.tmps) = true) (t : TypeId) (parts : Array (Nat × Operand)) (ho : o.op = .build t parts) (ps : List (Nat × Value)) (hps : (parts.toList.map fun (i, x) => (i, a.eval x)) = ps) (cs : Array Value)
  (hf : P.built t ps = some cs) (h : wpList P ops Q rest (a.put o.dst (.agg cs)) w) : wpList P ops Q (o :: rest) a w := by
 have e : (parts.map fun (i, x) => (i, a.eval x)).toList = ps := by rw [Array.toList_map]; exact hps
 refine wpList_wanted hg fun K hK => wp_build t parts ho (by rw [e, hf]; rfl) ?_
 rw [e, hf]
 exact hK _ _ h
end
end Go.Proofs.YtelbofikcpchiaaGreat
