
/- The helpers that all references share: SameBytes, Join. -/

import Derived.Test.YtabkgoandfpclaaProg

import Derived.Test.YtabkgoandfpclaaBase

namespace Go.Proofs.Ytabkgoandfpclaa

open Go.RowKit

theorem ret_bool {a b : Bool} (h : a = b) : Ending.returned (.bool a) = .returned (.bool b) := by rw [h]

theorem u8_cast_inj {a b : UInt8} : ((a.toNat : Int) = (b.toNat : Int)) ↔ a = b := by
  constructor
  · intro h; exact UInt8.toNat_inj.1 (by omega)
  · rintro rfl; rfl

theorem take_eq_succ {α : Type} {a b : List α} {k : Nat} (ha : k < a.length) (hb : k < b.length) (h : a.take k = b.take k) : a.take (k + 1) = b.take (k + 1) ↔ a[k] = b[k] := by
  rw [List.take_succ_eq_append_getElem ha, List.take_succ_eq_append_getElem hb, h, List.append_cancel_left_eq]
  constructor
  · intro h'; injection h'
  · intro h'; rw [h']

set_option maxHeartbeats 400000 in
theorem same_any (A B : Option Addr) (xs ys : List UInt8) (c c' : Nat) (w : World) (ha : Rd w A (b8s xs)) (hb : Rd w B (b8s ys)) (hma : xs.length ≤ maxLen) (hmb : ys.length ≤ maxLen) :
    Calls Try.prog 23 #[.slice A xs.length c, .slice B ys.length c'] w fun e w' => e = .returned (.bool (decide (xs = ys))) ∧ ∃ n, w' = w.drewN n := by
  unfold maxLen at hma hmb
  by_cases hl : xs.length = ys.length
  · go_enter Try.func23, Try.ntmps23
    rw [← hl]
    go_wp2
    go_loopw [5] (fun i wr => ∃ k n : Nat, k ≤ xs.length ∧ i = .int .i64 k ∧ wr = w.drewN n ∧ xs.take k = ys.take k) (fun i _ => xs.length - (intOf i).toNat)
    case atStart => exact ⟨0, 0, by omega, rfl, rfl, by simp⟩
    case round =>
      obtain ⟨k, n, hk, rfl, rfl, heq⟩ := hrel
      by_cases hlt : k < xs.length
      · obtain ⟨b, o, rfl, hc⟩ := ha.byte k hlt
        obtain ⟨b', o', rfl, hc'⟩ := hb.byte k (by omega)
        have hiff := take_eq_succ hlt (hl ▸ hlt) heq
        by_cases hx : xs[k] = ys[k]'(hl ▸ hlt)
        · have hH := Lib.hid (hiff.2 hx)
          rw [← hx] at hc'
          have hz : ((xs[k].toNat : Int) != (xs[k].toNat : Int)) = false := by simp
          clear heq hiff hx
          go_wp2
          go_quiet (fail)
          go_wp2
          go_roundw
          case rel => exact ⟨k + 1, _, by omega, by go_num, rfl, hH⟩
          case measure => simp [intOf]; omega
        · have hH := Lib.hid hx
          have hz : ((xs[k].toNat : Int) != ((ys[k]'(hl ▸ hlt)).toNat : Int)) = true := by
            rw [bne_iff_ne]; exact fun h => hx (u8_cast_inj.1 h)
          clear heq hiff hx
          go_wp2
          go_quiet (fail)
          go_wp2
          go_ret
          refine ⟨ret_bool ?_, _, World.drewN_drewN _ _ _⟩
          rw [eq_comm, decide_eq_false_iff_not]
          rintro rfl
          exact hH.out rfl
      · go_wp2
        go_ret
        refine ⟨ret_bool ?_, _, rfl⟩
        rw [eq_comm, decide_eq_true_eq]
        have : k = xs.length := by omega
        subst this
        rw [List.take_length, hl, List.take_length] at heq
        exact heq
  · have hz : ((xs.length : Int) != (ys.length : Int)) = true := by rw [bne_iff_ne]; omega
    go_enter Try.func23, Try.ntmps23
    go_wp2
    go_ret
    refine ⟨ret_bool ?_, 0, rfl⟩
    rw [eq_comm, decide_eq_false_iff_not]
    rintro rfl
    exact hl rfl
/-- the same, of what is known: the world behind it a name -/
theorem same_b (b : Bool) (A B : Option Addr) (xs ys : List UInt8) (c c' : Nat) (w : World) (ha : Rd w A (b8s xs)) (hb : Rd w B (b8s ys)) (hma : xs.length ≤ maxLen) (hmb : ys.length ≤ maxLen) (he : decide (xs = ys) = b) :
    Calls Try.prog 23 #[.slice A xs.length c, .slice B ys.length c'] w fun e w' => e = .returned (.bool b) ∧ Below w.heap.size w w' :=
  (same_any A B xs ys c c' w ha hb hma hmb).mono fun e w' ⟨h1, n, h2⟩ => ⟨by rw [h1, he], by rw [h2]; exact below_drewN (Below.refl _ _) n⟩

theorem info_u8 : (Try.prog.info? 5).map (fun i => (i.zero, i.size, i.bytes)) = some (some (.int .u8 0), 1, 1) := by kernel_rfl

/-- what a row of bytes of the call's own is, and what of memory stands -/
structure Own8 (N : Nat) (w0 w : World) (v : Value) (zs : List UInt8) : Prop where
  own : w.ownsRow N 5 1 v zs.length (b8s zs)
  bel : Below N w0 w
  sz : N ≤ w.heap.size

/-- 'out = append(out, y)': one byte appended to a row of the call's own -/
theorem wpList_append_u8 {ops : Array Oper} {rest : List Oper} {o : Oper} {a : Act} {Q : Exit → Act → World → Prop} {w0 wr : World} (hgd : o.guard = none) (s x : Operand)
    (ho : o.op = .call { callee := .builtin .append, args := #[s, x], argTypes := #[36, 36] }) {N : Nat} {v u : Value} {zs : List UInt8} (y : UInt8) (hs : a.eval s = v)
    (hx : a.eval x = .slice (some ⟨wr.heap.size, 0, none⟩) 1 1) (hu : u = .int .u8 (y.toNat : Int)) (hown : Own8 N w0 wr v zs) (hlen : zs.length + 1 ≤ 140737488355328)
    (h : ∀ v' w', Own8 N w0 w' v' (zs ++ [y]) → wpList Try.prog ops Q rest (a.put o.dst v') w') : wpList Try.prog ops Q (o :: rest) a (wr.alloc (.cells #[u] 5)) := by
  subst hu
  refine wpList_append_rd _ hgd s x 36 ho N 5 (.int .u8 0) 1 1 Try.underlying36 info_u8 rfl (by decide) v zs.length (b8s zs) hs (hown.own.alloc _) _ 1 1 (b8s [y]) hx rfl (Rd.new _ _ _) (b8s_one' _)
    (by unfold maxLen; omega) (by omega) (Nat.le_trans hown.sz (by simp)) ?_
  intro v' w' h1 h2 _
  refine h v' w' ⟨by rw [List.length_append, b8s_append]; exact h1, ?_, ?_⟩
  · exact below_grown_own (hown.bel.alloc hown.sz _) (hown.own.alloc _) h2 (Nat.le_trans hown.sz (by simp))
  · have := h2.size
    have := hown.sz
    simp at *
    omega

/-- 'out = append(out, b...)' -/
theorem wpList_append_bytes {ops : Array Oper} {rest : List Oper} {o : Oper} {a : Act} {Q : Exit → Act → World → Prop} {w0 wr : World} (hgd : o.guard = none) (s x : Operand)
    (ho : o.op = .call { callee := .builtin .append, args := #[s, x], argTypes := #[36, 36] }) {N : Nat} {v : Value} {zs : List UInt8} (ys : List UInt8) {A : Option Addr} {c : Nat} (hs : a.eval s = v)
    (hx : a.eval x = .slice A ys.length c) (hr : Rd wr A (b8s ys)) (hown : Own8 N w0 wr v zs) (hlen : zs.length + ys.length ≤ 140737488355328)
    (h : ∀ v' w', Own8 N w0 w' v' (zs ++ ys) → wr.grownBy w' v.ownBlock → wpList Try.prog ops Q rest (a.put o.dst v') w') : wpList Try.prog ops Q (o :: rest) a wr := by
  refine wpList_append_rd _ hgd s x 36 ho N 5 (.int .u8 0) 1 1 Try.underlying36 info_u8 rfl (by decide) v zs.length (b8s zs) hs hown.own _ ys.length c (b8s ys) hx (by simp [b8s]) hr (b8s_one' _)
    (by unfold maxLen; omega) (by omega) hown.sz ?_
  intro v' w' h1 h2 _
  refine h v' w' ⟨by rw [List.length_append, b8s_append]; exact h1, ?_, ?_⟩ h2
  · exact below_grown_own hown.bel hown.own h2 hown.sz
  · have := h2.size
    have := hown.sz
    omega

theorem Own8.start (w : World) : Own8 w.heap.size w (w.alloc (.cells #[] 5)) (.slice (some ⟨w.heap.size, 0, none⟩) 0 0) [] :=
  ⟨own_new w _ _ 1 0 [] (Nat.le_refl _) rfl (by decide), (Below.refl _ _).alloc (Nat.le_refl _) _, by simp⟩
theorem Own8.startN (w0 w : World) (N : Nat) (hb : Below N w0 w) (hN : N ≤ w.heap.size) : Own8 N w0 (w.alloc (.cells #[] 5)) (.slice (some ⟨w.heap.size, 0, none⟩) 0 0) [] :=
  ⟨own_new w _ _ 1 0 [] hN rfl (by decide), hb.alloc hN _, Nat.le_trans hN (by simp)⟩
theorem Own8.nil (w0 w : World) (N : Nat) (hb : Below N w0 w) (hN : N ≤ w.heap.size) : Own8 N w0 w (.slice none 0 0) [] :=
  ⟨World.ownsRow_nil _ _ _ _, hb, hN⟩
theorem Own8.slice {N : Nat} {w0 w : World} {v : Value} {zs : List UInt8} (h : Own8 N w0 w v zs) :
    ∃ A c, v = .slice A zs.length c ∧ zs.length ≤ c ∧ c ≤ maxLen ∧ Rd w A (b8s zs) ∧ (∀ ad, A = some ad → N ≤ ad.block ∧ ad.block < w.heap.size) := by
  obtain ⟨A, c, rfl, h1, h2, h3, _⟩ := own_slice h.own
  exact ⟨A, c, rfl, h1, h2, own_rd h.own, h3⟩

theorem Own8.trans {N : Nat} {w0 w1 w2 : World} {v : Value} {zs : List UInt8} (hb : Below N w0 w1) (hN : N ≤ w1.heap.size) (h : Own8 w1.heap.size w1 w2 v zs) : Own8 N w0 w2 v zs :=
  ⟨own_mono h.own hN, hb.trans (h.bel.mono hN), Nat.le_trans hN h.sz⟩
/-- an owned row of an elder step is still owned -/
theorem Own8.later {N : Nat} {w0 w1 w2 : World} {v : Value} {zs : List UInt8} (h : Own8 N w0 w1 v zs) (hb : Below w1.heap.size w1 w2) : Own8 N w0 w2 v zs :=
  ⟨own_below h.own hb, h.bel.trans (hb.mono h.sz), Nat.le_trans h.sz hb.size⟩

theorem Own8.appended {N m : Nat} {w0 w1 w2 : World} {v v2 : Value} {xs ys : List UInt8} (h : Own8 N w0 w1 v xs) (h2 : w2.ownsRow N 5 1 v2 (xs.length + m) (b8s xs ++ b8s ys)) (hm : m = ys.length)
    (hg : w1.grownBy w2 v.ownBlock) : Own8 N w0 w2 v2 (xs ++ ys) := by
  subst hm
  refine ⟨by rw [List.length_append, b8s_append]; exact h2, below_grown_own h.bel h.own hg h.sz, ?_⟩
  have := hg.size
  have := h.sz
  omega

theorem Own8.ext {w0 w1 w2 : World} {v : Value} {zs : List UInt8} (h : Own8 w1.heap.size w1 w2 v zs) (hb : Below w0.heap.size w0 w1) : Below w0.heap.size w0 w2 := ext_trans hb h.bel

/-- 'append(out, s...)' of a string -/
theorem wpList_append_str8 {ops : Array Oper} {rest : List Oper} {o : Oper} {a : Act} {Q : Exit → Act → World → Prop} {w0 wr : World} (hgd : o.guard = none) (s x : Operand)
    (ho : o.op = .call { callee := .builtin .append, args := #[s, x], argTypes := #[36, 9] }) {N : Nat} {v : Value} {zs : List UInt8} (t : ByteArray) (hs : a.eval s = v)
    (hx : a.eval x = .string t) (hown : Own8 N w0 wr v zs) (hlen : zs.length + t.size ≤ 140737488355328)
    (h : ∀ v' w', Own8 N w0 w' v' (zs ++ t.data.toList) → wpList Try.prog ops Q rest (a.put o.dst v') w') : wpList Try.prog ops Q (o :: rest) a wr := by
  obtain ⟨i, hi, hz, hsize, hby⟩ := info_parts info_u8
  refine Lib.wpList_append_own_string wr hgd s x 36 9 ho N 5 i Try.underlying36 Try.underlying9 hi hz hsize hby v zs.length (b8s zs) hs hown.own t hx (by unfold maxLen; omega) (by omega) hown.sz ?_
  intro v' w' h1 h2 _
  refine h v' w' ⟨by rw [List.length_append, b8s_append, size_toList]; exact h1, ?_, ?_⟩
  · exact below_grown_own hown.bel hown.own h2 hown.sz
  · have := h2.size
    have := hown.sz
    omega

set_option maxHeartbeats 1000000 in
theorem join_any (A B : Option Addr) (xs ys : List UInt8) (c c' : Nat) (w : World) (ha : Rd w A (b8s xs)) (hb : Rd w B (b8s ys)) (hm : xs.length + ys.length ≤ 140737488355328) :
    Calls Try.prog 24 #[.slice A xs.length c, .slice B ys.length c'] w fun e w' => ∃ v, e = .returned v ∧ Own8 w.heap.size w w' v (xs ++ ys) := by
  have hlx : xs.length ≤ 140737488355328 := by omega
  have hly : ys.length ≤ 140737488355328 := by omega
  obtain ⟨N, hN⟩ : ∃ N, N = w.heap.size := ⟨_, rfl⟩
  have HN := Lib.hid hN
  go_enter Try.func24, Try.ntmps24
  rw [← hN]
  clear hN
  go_wp2
  go_loopw [5, 6] (fun v i wr => ∃ (k : Nat) (zs : List UInt8), k ≤ xs.length ∧ i = .int .i64 k ∧ zs = xs.take k ∧ Own8 N w wr v zs) (fun _ i _ => xs.length - (intOf i).toNat)
  case atStart =>
    have := HN.out
    subst this
    exact ⟨0, [], by omega, rfl, by simp, Own8.start w⟩
  case round =>
    obtain ⟨k, zs, hk, rfl, hzs, hown⟩ := hrel
    have Hzs := Lib.hid hzs
    have hl : zs.length = k := by rw [hzs, List.length_take]; omega
    have Hl := Lib.hid hl
    have hl1 : zs.length ≤ k := by omega
    clear hl hzs
    by_cases hlt : k < xs.length
    · have hr : Rd wr A (b8s xs) := by
        have := HN.out
        subst this
        exact ha.below hown.bel
      obtain ⟨b, o, rfl, hc⟩ := hr.byte k hlt
      go_wp2_with (at_builtin; refine wpList_append_u8 rfl _ _ rfl xs[k] rfl rfl rfl hown (by omega) ?_; intro v1 w1 hown1)
      go_roundw
      case rel => exact ⟨k + 1, _, by omega, by go_num, by rw [Hzs.out, List.take_succ_eq_append_getElem hlt], hown1⟩
      case measure => simp [intOf]; omega
    · go_wp2
      have hz : zs = xs := by
        have := Hzs.out
        rw [this, List.take_of_length_le (by omega)]
      subst hz
      clear Hzs hl1 Hl
      go_loopw [5, 7] (fun v i wr => ∃ (k : Nat) (us : List UInt8), k ≤ ys.length ∧ i = .int .i64 k ∧ us = zs ++ ys.take k ∧ Own8 N w wr v us) (fun _ i _ => ys.length - (intOf i).toNat)
      case atStart => exact ⟨0, zs, by omega, rfl, by simp, hown⟩
      case round =>
        clear hown
        obtain ⟨k, us, hk, rfl, hus, hown⟩ := hrel
        have Hus := Lib.hid hus
        have hl : us.length = zs.length + k := by rw [hus, List.length_append, List.length_take]; omega
        have Hl := Lib.hid hl
        have hl1 : us.length ≤ zs.length + k := by omega
        clear hl hus
        by_cases hlt : k < ys.length
        · have hr : Rd wr B (b8s ys) := by
            have := HN.out
            subst this
            exact hb.below hown.bel
          obtain ⟨b, o, rfl, hc⟩ := hr.byte k hlt
          go_wp2_with (at_builtin; refine wpList_append_u8 rfl _ _ rfl ys[k] rfl rfl rfl hown (by omega) ?_; intro v1 w1 hown1)
          go_roundw
          case rel => exact ⟨k + 1, _, by omega, by go_num, by rw [Hus.out, List.take_succ_eq_append_getElem hlt, List.append_assoc], hown1⟩
          case measure => simp [intOf]; omega
        · go_wp2
          go_ret
          have hz : us = zs ++ ys := by
            have := Hus.out
            rw [this, List.take_of_length_le (by omega)]
          subst hz
          exact ⟨_, rfl, hown⟩

/-! ### the same, at lengths that are spelled otherwise -/

theorem same_n (b : Bool) (A B : Option Addr) (xs ys : List UInt8) (c c' : Nat) (w : World) (ha : Rd w A (b8s xs)) (hb : Rd w B (b8s ys)) (n m : Nat) (hn : n = xs.length) (hm : m = ys.length) (hma : xs.length ≤ 1099511627776) (hmb : ys.length ≤ 1099511627776) (he : decide (xs = ys) = b) :
    Calls Try.prog 23 #[.slice A n c, .slice B m c'] w fun e w' => e = .returned (.bool b) ∧ Below w.heap.size w w' := by
  subst hn hm
  exact same_b b A B xs ys c c' w ha hb (by unfold maxLen; omega) (by unfold maxLen; omega) he
theorem join_n (A B : Option Addr) (xs ys : List UInt8) (c c' : Nat) (w : World) (ha : Rd w A (b8s xs)) (hb : Rd w B (b8s ys)) (n m : Nat) (hn : n = xs.length) (hm : m = ys.length) (hl : xs.length + ys.length ≤ 140737488355328) :
    Calls Try.prog 24 #[.slice A n c, .slice B m c'] w fun e w' => ∃ v, e = .returned v ∧ Own8 w.heap.size w w' v (xs ++ ys) := by
  subst hn hm
  exact join_any A B xs ys c c' w ha hb hl
theorem Own8.hid {N : Nat} {w0 w : World} {v : Value} {zs : List UInt8} (h : Own8 N w0 w v zs) :
    ∃ A n c, v = .slice A n c ∧ Hid (n = zs.length) ∧ Rd w A (b8s zs) := by
  obtain ⟨A, c, h1, h2, h3, h4, h5⟩ := h.slice
  exact ⟨A, _, c, h1, rfl, h4⟩
/-- the slice, its length a name -/
theorem Own8.sliceN {N : Nat} {w0 w : World} {v : Value} {zs : List UInt8} (h : Own8 N w0 w v zs) :
    ∃ A n c, v = .slice A n c ∧ n = zs.length ∧ n ≤ c ∧ c ≤ maxLen ∧ Rd w A (b8s zs) ∧ (∀ ad, A = some ad → N ≤ ad.block ∧ ad.block < w.heap.size) := by
  obtain ⟨A, c, h1, h2, h3, h4, h5⟩ := h.slice
  exact ⟨A, _, c, h1, rfl, h2, h3, h4, h5⟩
end Go.Proofs.Ytabkgoandfpclaa
