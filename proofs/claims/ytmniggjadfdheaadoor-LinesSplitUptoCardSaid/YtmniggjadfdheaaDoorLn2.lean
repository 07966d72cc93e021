
/- trace: the walks of each number of edits. -/

import Derived.Test.YtmniggjadfdheaaDoorLn1

import Derived.Deep.LoopGhost

import Derived.Deep.CutBlock

import Derived.Deep.DeepCutAuto

import Derived.Outline

namespace Go.Proofs.YtmniggjadfdheaaDoor

set_option linter.unusedVariables false

set_option linter.unusedSimpArgs false

set_option linter.unusedSectionVars false

open Go.RowKit

open Go.Maps (Keyed)

section

variable {ops : Array Oper} {rest : List Oper} {o : Oper} {a : Act} {w : World} {Q : Exit → Act → World → Prop}

theorem wp_upd {x : FuncId → FuncId} (b n : Nat) (f : Int → Int) (h : MapF w b n f) (hn : n < maxLen) (k y : Int) (hk : i64B k) (hy : i64B y) :
    ∃ w', (Instr.mapUpdate 54 (.map (some b)) (.int .i64 k) (.int .i64 y)).run Tryd.prog w = .ok () w' ∧ MapF w' b (n + 1) (fun j => if j = k then y else f j) ∧ w.grownBy w' (some b) := by
  obtain ⟨D, h1, h2⟩ := h.ex
  obtain ⟨w', hr, h3, h4⟩ := World.ownsMap.update h1 keyed_int Tryd.underlying54 hn (Maps.keyOf_int_mk Tryd.underlying3 (i64_wf hk)) (plainElem_int Tryd.underlying3 (i64_wf hy))
  exact ⟨w', hr, ⟨_, h3, h2.put h1.isMap k y⟩, h4⟩
theorem wpList_upd (hg : o.guard = none) (m x v : Operand) (hop : o.op = Op.mapUpdate 54 m x v) (b n : Nat) (f : Int → Int) (hm : a.eval m = .map (some b)) (h : MapF w b n f) (hn : n < maxLen) (k y : Int)
    (hx : a.eval x = .int .i64 k) (hv : a.eval v = .int .i64 y) (hk : i64B k) (hy : i64B y)
    (hK : ∀ w', MapF w' b (n + 1) (fun j => if j = k then y else f j) → w.grownBy w' (some b) → wpList Tryd.prog ops Q rest (a.put o.dst undef) w') : wpList Tryd.prog ops Q (o :: rest) a w := by
  refine wpList_plain hg fun K' hK' => ?_
  obtain ⟨w', hrun, r1, r2⟩ := wp_upd (x := id) b n f h hn k y hk hy
  unfold Oper.wp
  simp [execOp, hop, hm, hx, hv, hrun, Result.andThen]
  exact hK' _ _ (hK w' r1 r2)
theorem wpList_ins (hg : o.guard = none) (m x v : Operand) (hop : o.op = Op.insert 54 m x v) (b n : Nat) (f : Int → Int) (hm : a.eval m = .map (some b)) (h : MapF w b n f) (hn : n < maxLen) (k y : Int)
    (hx : a.eval x = .int .i64 k) (hv : a.eval v = .int .i64 y) (hk : i64B k) (hy : i64B y)
    (hK : ∀ w', MapF w' b (n + 1) (fun j => if j = k then y else f j) → w.grownBy w' (some b) → wpList Tryd.prog ops Q rest (a.put o.dst undef) w') : wpList Tryd.prog ops Q (o :: rest) a w := by
  refine wpList_plain hg fun K' hK' => ?_
  obtain ⟨w', hrun, r1, r2⟩ := wp_upd (x := id) b n f h hn k y hk hy
  unfold Oper.wp
  simp [execOp, hop, hm, hx, hv, hrun, Result.andThen]
  exact hK' _ _ (hK w' r1 r2)
end

theorem ownsD_size {w : World} {b n : Nat} {D : MapD} (h : ownsD w b n D) : Maps.size D ≤ n := by
  obtain ⟨es, clock, hb, F, hs, rfl⟩ := h
  show (List.foldr DataW.insert [] _).length ≤ n
  rw [length_sorted]
  simpa using hs
theorem MapF.mono {w : World} {b n n' : Nat} {f : Int → Int} (h : MapF w b n f) (hn : n ≤ n') : MapF w b n' f := by
  obtain ⟨D, h1, h2⟩ := h.ex
  exact ⟨D, h1.mono hn, h2⟩
theorem MapF.same {w : World} {b n : Nat} {f g : Int → Int} (h : MapF w b n f) (e : ∀ k, f k = g k) : MapF w b n g := by
  obtain ⟨D, h1, h2⟩ := h.ex
  exact ⟨D, h1, h2.same e⟩
theorem MapF.made (w : World) : MapF (w.alloc (.map #[] 0)) w.heap.size 0 (fun _ => 0) := ⟨.map [], World.ownsMap_made _ _ _ _, readsF_empty⟩

/-- strings as cells -/
def sts (xs : List ByteArray) : List Value := xs.map Value.string
/-- the walks so far -/
structure TR (w0 W : World) (a b : List ByteArray) (A : Option Addr) (c d : Nat) (bs : List Nat) : Prop where
  own : W.ownsRow w0.heap.size 54 1 (.slice A d c) d (bs.map fun b => .map (some b))
  len : bs.length = d
  maps : ∀ i (h : i < bs.length), MapF W bs[i] 100000000 (fS a b i)
  bel : Below w0.heap.size w0 W
theorem own_not_map {w : World} {base : Nat} {e : TypeId} {size : Nat} {v : Value} {n m : Nat} {xs : List Value} {b : Nat} {f : Int → Int} (h : w.ownsRow base e size v n xs) (hm : MapF w b m f) : some b ≠ v.ownBlock := by
  intro he
  rcases h.2 with ⟨rfl, _⟩ | ⟨g, cap, cur, rfl, _, hg, _⟩
  · cases he
  · have e1 : b = g := by simpa [Value.ownBlock] using he
    subst e1
    obtain ⟨D, ⟨es, clock, hb, _⟩, _⟩ := hm.ex
    rw [hg] at hb
    cases hb
section

variable {w0 W W' : World} {a b : List ByteArray} {A : Option Addr} {c d : Nat} {bs : List Nat}

theorem TR.below (h : TR w0 W a b A c d bs) (hb : Below W.heap.size W W') : TR w0 W' a b A c d bs :=
  ⟨own_below h.own hb, h.len, fun i hi => (h.maps i hi).below hb, ext_trans h.bel hb⟩
/-- another map is written -/
theorem TR.upd (h : TR w0 W a b A c d bs) {bn : Nat} (hn : bn ∉ bs) (h0 : w0.heap.size ≤ bn) {n : Nat} {f : Int → Int} (hm : MapF W bn n f) (hg : W.grownBy W' (some bn)) : TR w0 W' a b A c d bs :=
  ⟨own_keep h.own fun k hk hl => hg.block k hl (fun e => own_not_map h.own hm (by rw [hk]; exact e.symm)), h.len,
    fun i hi => (h.maps i hi).kept hg (fun e => hn (by have := Option.some.inj e; rw [← this]; exact List.getElem_mem hi)), bel_grown h.bel h.bel.size hg h0⟩
/-- a walk more -/
theorem TR.app (h : TR w0 W a b A c d bs) {A' : Option Addr} {c' bw : Nat} (hg : W.grownBy W' (Value.slice A d c).ownBlock) (ho : W'.ownsRow w0.heap.size 54 1 (.slice A' (d + 1) c') (d + 1) ((bs.map fun b => .map (some b)) ++ [.map (some bw)]))
    (hm : MapF W bw 100000000 (fS a b d)) : TR w0 W' a b A' c' (d + 1) (bs ++ [bw]) := by
  refine ⟨by rw [List.map_append]; exact ho, by simp [h.len], fun i hi => ?_, ?_⟩
  · by_cases hi' : i < bs.length
    · rw [List.getElem_append_left hi']
      exact (h.maps i hi').kept hg (own_not_map h.own (h.maps i hi'))
    · have e : i = bs.length := by simp at hi; omega
      subst e
      rw [List.getElem_append_right (Nat.le_refl _)]
      simp only [Nat.sub_self, List.getElem_cons_zero]
      rw [h.len]
      exact hm.kept hg (own_not_map h.own hm)
  · cases hv : (Value.slice A d c).ownBlock with
    | none => rw [hv] at hg; exact h.bel.trans ((grown_none hg).mono h.bel.size)
    | some i => rw [hv] at hg; exact bel_grown h.bel h.bel.size hg (h.own.lt i hv).1
end

theorem info_walk : (Tryd.prog.info? 54).map (fun i => (i.zero, i.size, i.bytes)) = some (some (.map none), 1, 8) := by kernel_rfl
/-- the table in the midst of round d, ahead of diagonal k -/
def midF (a b : List ByteArray) (d : Nat) (k : Int) : Int → Int := fun j => if onD d j ∧ j < k then V a b d j else fS a b d j
theorem ne_block {bn bw : Nat} (h : bn < bw) : some bw ≠ some bn := fun e => by have := Option.some.inj e; omega
theorem midF_start (a b : List ByteArray) (d : Nat) (j : Int) : fS a b d j = midF a b d (-(d : Int)) j := by
  unfold midF
  rw [if_neg (fun h => by have := h.1.1; have := h.2; omega)]
theorem midF_step (a b : List ByteArray) (d : Nat) (k : Int) (hk : onD d k) (j : Int) : (if j = k then V a b d k else midF a b d k j) = midF a b d (k + 2) j := by
  unfold midF
  by_cases e : j = k
  · subst e
    rw [if_pos rfl, if_pos ⟨hk, by omega⟩]
  · rw [if_neg e]
    by_cases h : onD d j ∧ j < k
    · rw [if_pos h, if_pos ⟨h.1, by omega⟩]
    · rw [if_neg h]
      rw [if_neg]
      rintro ⟨h1, h2⟩
      apply h
      refine ⟨h1, ?_⟩
      unfold onD at h1 hk
      omega
theorem midF_step' (a b : List ByteArray) (d : Nat) (k : Int) (x : Nat) (hk : onD d k) (hx : V a b d k = (x : Int)) (j : Int) : (if j = k then (x : Int) else midF a b d k j) = midF a b d (k + 2) j := by
  rw [← hx]; exact midF_step a b d k hk j
theorem midF_end (a b : List ByteArray) (d : Nat) (k : Int) (hk : (d : Int) < k) (j : Int) : midF a b d k j = fS a b (d + 1) j := by
  unfold midF
  show _ = (if onD d j then farX a b (fS a b d) d j else fS a b d j)
  by_cases h : onD d j
  · rw [if_pos h, if_pos ⟨h, by have := h.2.1; omega⟩]; rfl
  · rw [if_neg h, if_neg (fun e => h e.1)]

theorem names_eq (a b : ByteArray) : (a.toList == b.toList) = decide (a = b) := by
  rw [ByteArray.toList_eq, ByteArray.toList_eq]
  by_cases h : a = b
  · subst h; simp
  · have h2 : ¬ a.data = b.data := fun e => h (by
      obtain ⟨x⟩ := a
      obtain ⟨y⟩ := b
      simp at e
      rw [e])
    simp [h, h2]
theorem bin_streq {P : Program} {t : TypeId} (ht : P.underlying t = some .string) (x y : ByteArray) (w : World) : (binOp .eql t (.string x) (.string y)).run P w = .ok (.bool (decide (x = y))) w := by
  simp [binOp, Op.stringOp, go_sem, run_underlying ht, names_eq]
theorem dnX_nonneg {a b : List ByteArray} {d : Nat} {k : Int} (h : onD d k) : 0 ≤ dnX (fS a b d) d k - k := by
  cases d with
  | zero =>
    obtain ⟨h1, h2⟩ := dn_zero (a := a) (b := b) h
    have h3 : dnX (fS a b 0) ((0 : Nat) : Int) k = 0 := h2
    rw [h3, h1]; decide
  | succ d =>
    cases hb : dnB (fS a b (d + 1)) (d + 1 : Nat) k
    · obtain ⟨h1, h2⟩ := dn_right h hb
      have := (V_reach a b d (k - 1) h1).2.1
      rw [h2]; omega
    · obtain ⟨h1, h2⟩ := dn_down h hb
      have := (V_reach a b d (k + 1) h1).2.1
      rw [h2]; omega

set_option maxRecDepth 100000 in
set_option maxHeartbeats 8000000 in
theorem trace_any (A B : Option Addr) (a b : List ByteArray) (c c' : Nat) (w : World) (ha : Rd w A (sts a)) (hb : Rd w B (sts b)) (hla : a.length ≤ 1000) (hlb : b.length ≤ 1000) :
    Calls Tryd.prog 27 #[.slice A a.length c, .slice B b.length c'] w fun e w' => ∃ A' c' bs, e = .returned (.slice A' (levL a b + 1) c') ∧ TR w w' a b A' c' (levL a b + 1) bs := by
  have hmm := @run_makeMap Tryd.prog
  have HIS := Lib.hid (levL_is a b)
  have HLE := Lib.hid (levL_le a b)
  have HA := Lib.hid ha
  have HB := Lib.hid hb
  obtain ⟨N, hN⟩ : ∃ n, a.length = n := ⟨_, rfl⟩
  obtain ⟨M, hM⟩ : ∃ n, b.length = n := ⟨_, rfl⟩
  obtain ⟨L, hL⟩ : ∃ n, levL a b = n := ⟨_, rfl⟩
  have HN := Lib.hid hN
  have HM := Lib.hid hM
  have HL := Lib.hid hL
  rw [hN] at hla
  rw [hM] at hlb
  rw [hN, hM, hL]
  have hLb : L ≤ 2000 := by rw [← hL]; have := HLE.out; omega
  clear ha hb hN hM hL
  obtain ⟨W1, hW1⟩ : ∃ W, w.alloc (.map #[] 0) = W := ⟨_, rfl⟩
  have m1 := MapF.made w
  rw [hW1] at m1
  obtain ⟨bn, hbn⟩ : ∃ g, w.heap.size = g := ⟨_, rfl⟩
  rw [hbn] at m1
  have HM1 := Lib.hid m1
  have HBN := Lib.hid hbn
  have b1 : Below w.heap.size w W1 := by rw [← hW1]; exact (Below.refl _ _).alloc (Nat.le_refl _) _
  have HB1 := Lib.hid b1
  clear m1 b1
  go_enter Tryd.func27, Tryd.ntmps27
  go_wp2_with (first
    | (refine wpList_ins rfl _ _ _ rfl bn 0 _ rfl HM1.out (by unfold maxLen; omega) 1 0 rfl rfl (by unfold i64B; omega) (by unfold i64B; omega) ?_; intro w2 hm2 hg2))
  have HT : Hid (TR w w2 a b none 0 0 []) := Lib.hid ⟨World.ownsRow_nil _ _ _ _, rfl, fun i hi => by simp at hi, bel_grown HB1.out HB1.out.size hg2 (by have := HBN.out; omega)⟩
  have HF : Hid (MapF w2 bn 1 (fS a b 0)) := Lib.hid (hm2.same (fun k => by show (if k = 1 then (0 : Int) else 0) = 0; split <;> rfl))
  clear hm2 hg2 HM1 HB1 hW1 hbn
  go_loopg [5, 7] ((L + 1) * 1) (fun gk_ v s wr => ∃ (d : Nat) (A' : Option Addr) (cc n : Nat) (bs : List Nat), d ≤ L ∧ gk_ = L + 1 - d ∧ v = .slice A' d cc ∧ s = .int .i64 (d : Int) ∧ n ≤ 1 + d * 4000 ∧ Hid (TR w wr a b A' cc d bs) ∧ Hid (bn ∉ bs) ∧ Hid (MapF wr bn n (fS a b d)) ∧ Hid (∀ e < d, ∀ k, onD e k → hitB a b e k = false))
  case atStart => exact ⟨0, none, 0, 1, [], by omega, by omega, rfl, rfl, by omega, HT, Lib.hid (fun h => by cases h), HF, Lib.hid (fun e he => by omega)⟩
  case round =>
  clear HT HF
  obtain ⟨d, A', cc, n, bs, hd, rfl, rfl, rfl, hn, HT, HNB, HF, HNO⟩ := hrel
  obtain ⟨wo, rfl⟩ : ∃ wo : World, wo = wr := ⟨_, rfl⟩
  obtain ⟨Dn, hon, hrf⟩ := HF.out.ex
  have HRF := Lib.hid hrf
  have hsz := ownsD_size hon
  have hbl := hon.lt
  obtain ⟨W3, hW3⟩ : ∃ W, wo.alloc (.map #[] 0) = W := ⟨_, rfl⟩
  have b3 : Below wo.heap.size wo W3 := by rw [← hW3]; exact (Below.refl _ _).alloc (Nat.le_refl _) _
  have s3 : W3.heap.size = wo.heap.size + 1 := by rw [← hW3]; simp
  have own3 : ownsD W3 bn n Dn := hon.kept (row := none) ⟨b3.os, b3.tape, b3.output, b3.size, fun i hi _ => b3.block i hi⟩ (by simp)
  have made3 : ownsD W3 wo.heap.size 0 (.map []) := by rw [← hW3]; exact World.ownsMap_made _ _ _ _
  obtain ⟨bw, hbw⟩ : ∃ g, wo.heap.size = g := ⟨_, rfl⟩
  rw [hbw] at made3 s3
  have HBW : Hid (wo.heap.size = bw ∧ bn < bw) := Lib.hid ⟨hbw, by omega⟩
  go_wp2_with (first
    | (at_range; refine wpList_range_own _ rfl _ 54 rfl 3 3 keyed_int Tryd.underlying54 _ bn n _ rfl own3 ?_; intro w4 hrg4 hg4 hs4))
  go_frame
  rw [s3] at hrg4 hs4 ⊢
  have HB4 : Hid (Below wo.heap.size wo w4) := Lib.hid (ext_trans b3 (grown_none hg4))
  have HW4 : Hid (ownsD w4 bw 0 (.map [])) := Lib.hid (made3.kept hg4 (by simp))
  have HR4 := Lib.hid hrg4
  have HSZ := Lib.hid hsz
  have HCN := Lib.hid (hon.canon keyed_int)
  clear hon hrf hsz hbl hW3 b3 own3 made3 hg4 hrg4 hs4 s3 hbw
  go_loopw [9] (fun _ wc => ∃ (left : Lit → Bool) (cnt : Nat) (Dout : MapD), Hid (wc.ranges Tryd.prog 3 (plainElem Tryd.prog 3) bn (bw + 1) n Dn left cnt) ∧ Hid (cnt ≤ Maps.size Dn) ∧ Hid (ownsD wc bw (Maps.size Dn - cnt) Dout) ∧ Hid (Maps.Agree Dout Dn left) ∧ Hid (Below wo.heap.size wo wc)) (fun _ wc => wc.rangeLeft bn (bw + 1))
  case atStart => exact ⟨_, _, .map [], HR4, Lib.hid (Nat.le_refl _), Lib.hid (HW4.out.mono (Nat.zero_le _)), Lib.hid (Maps.agree_start Dn), HB4⟩
  case round =>
  clear HR4 HW4 HB4
  obtain ⟨left, cnt, Dout, HRG, HCS, HOUT, HAG, HBC⟩ := hrel
  have hrg := HRG.out
  go_wp2_with (first
    | (at_next; refine wpList_next_ranges_ii _ rfl _ rfl 3 3 .i64 .i64 keyed_int Tryd.underlying3 Tryd.underlying3 bn (bw + 1) n _ _ _ rfl hrg ?_ ?_))
  · intro hc0 hl0
    have e := Maps.agree_end HAG.out hl0 (HOUT.out.canon keyed_int) HCN.out
    have hsz := HSZ.out
    have mw : MapF wr bw 100000000 (fS a b d) := ⟨Dout, HOUT.out.mono (by omega), by rw [e]; exact HRF.out⟩
    have mn : MapF wr bn n (fS a b d) := ⟨Dn, hrg.owns, HRF.out⟩
    have ht5 := HT.out.below HBC.out
    obtain ⟨W6, hW6⟩ : ∃ W, wr.alloc (.cells #[.map (some bw)] 54) = W := ⟨_, rfl⟩
    obtain ⟨r6, b6, s6⟩ := new_row hW6
    have HT6 := Lib.hid (ht5.below b6)
    have MN6 := Lib.hid (mn.below b6)
    have MW6 := Lib.hid (mw.below b6)
    have HR6 : Hid (Rd W6 (some ⟨wr.heap.size, 0, none⟩) [.map (some bw)]) := Lib.hid (range_rd (range_of_row (cs := [.map (some bw)]) r6))
    have HBA := Lib.hid HT6.out.bel.size
    clear e hsz mw mn ht5 r6 b6 s6 hc0 hl0 hrg HRG HCS HOUT HAG HBC HF HT
    go_wp2_with (first
      | (at_builtin; refine wpList_append_rd _ rfl _ _ 50 rfl w.heap.size 54 _ 1 8 Tryd.underlying50 info_walk rfl (by decide) (.slice A' d cc) d _ rfl HT6.out.own _ 1 1 [.map (some bw)] rfl rfl HR6.out (fun u hu => by rw [List.mem_singleton.1 hu]; rfl) (by unfold maxLen; omega) (by omega) HBA.out ?_; intro v7 w7 ho7 hg7 hvb7; obtain ⟨A7, c7, e7, _⟩ := own_slice ho7; subst e7; have HT7 := Lib.hid (HT6.out.app hg7 ho7 MW6.out); have MN7 := Lib.hid (MN6.out.kept hg7 (own_not_map HT6.out.own MN6.out)); have MW7 := Lib.hid (MW6.out.kept hg7 (own_not_map HT6.out.own MW6.out)); clear ho7 hg7 hvb7))
    clear hW6
    have HNB7 : Hid (bn ∉ bs ++ [bw]) := Lib.hid (fun h => by
      rcases List.mem_append.1 h with h | h
      · exact HNB.out h
      · have := HBW.out.2; rw [List.mem_singleton.1 h] at this; omega)
    have HD0 : Hid (0 ≤ d) := Lib.hid (Nat.zero_le d)
    go_loopg [11] ((d + 1) * 1) (fun gk_ s wx => ∃ (j : Nat) (k : Int) (n' : Nat), j ≤ d + 1 ∧ gk_ = d + 1 - j ∧ s = .int .i64 k ∧ n' ≤ 1 + d * 4000 + j ∧ -(d : Int) ≤ k ∧ k ≤ (d : Int) + 2 ∧ Hid (k = 2 * (j : Int) - d) ∧ Hid (TR w wx a b A7 c7 (d + 1) (bs ++ [bw])) ∧ Hid (MapF wx bn n' (midF a b d k)) ∧ Hid (MapF wx bw 100000000 (fS a b d)) ∧ Hid (∀ k', onD d k' → k' < k → hitB a b d k' = false))
    case atStart => exact ⟨0, -(d : Int), n, by omega, by omega, rfl, by omega, by omega, by omega, Lib.hid (by omega), HT7, Lib.hid (MN7.out.same (midF_start a b d)), MW7, Lib.hid (fun k' h1 h2 => by have := h1.1; omega)⟩
    case round =>
    clear HT6 MN6 MW6 HR6 HBA HT7 MN7 MW7 HNB
    obtain ⟨j, k, n', hj, rfl, rfl, hn', hk0, hk2, HK, HT, MN, MW, HNK⟩ := hrel
    obtain ⟨wi, rfl⟩ : ∃ wi : World, wi = wr := ⟨_, rfl⟩
    by_cases hle : k ≤ (d : Int)
    · have HON : Hid (onD d k) := Lib.hid ⟨hk0, hle, by have := HK.out; omega⟩
      have hjd : j ≤ d := by have := HK.out; omega
      have HBD := Lib.hid (fun x => fS_bound a b d x)
      have HDX := Lib.hid (dnX_bound a b d k)
      have hdx : 0 ≤ dnX (fS a b d) d k ∧ dnX (fS a b d) d k ≤ (N : Int) + 2001 := by have h1 := HDX.out; have h2 := HN.out; omega
      have HDN := Lib.hid (dnX_nonneg (a := a) (b := b) HON.out)
      have hdn := HDN.out
      go_wp2_with fail
      refine (down_any bw 100000000 (fS a b d) k d wi MW.out (by omega) (by omega) (fun x => by have := HBD.out x; have := HN.out; omega)).mono ?_
      rintro e w5 ⟨rfl, nd, rfl⟩
      have hb5 : Below wi.heap.size wi (wi.drewN nd) := below_drewN (Below.refl _ _) nd
      have HB5 := Lib.hid hb5
      clear hb5
      generalize wi.drewN nd = w5 at *
      obtain ⟨x0, hx0⟩ : ∃ x0 : Nat, dnX (fS a b d) d k = (x0 : Int) := ⟨(dnX (fS a b d) d k).toNat, by omega⟩
      have HVX : Hid (snake a b k (x0 : Int) = V a b d k) := Lib.hid (by rw [← hx0]; rfl)
      rw [hx0] at hdx hdn ⊢
      have hx2 : x0 ≤ N + 2001 := by omega
      clear hx0 hdx
      go_wp2_with fail
      go_loopg [13] ((N + 3000 - x0) * 1) (fun gk_ s wx => ∃ (x : Nat), x ≤ N + 2001 ∧ gk_ = N + 3000 - x ∧ s = .int .i64 (x : Int) ∧ 0 ≤ (x : Int) - k ∧ Hid (snake a b k (x : Int) = V a b d k) ∧ Hid (Below wi.heap.size wi wx))
      case atStart => exact ⟨x0, by omega, by omega, rfl, hdn, HVX, HB5⟩
      case round =>
      clear HVX HB5 hdn HDX HDN hx2
      obtain ⟨x, hx, rfl, rfl, hxk, HV, HBX⟩ := hrel
      obtain ⟨y, hy⟩ : ∃ y : Nat, (x : Int) - k = (y : Int) := ⟨((x : Int) - k).toNat, by omega⟩
      have hsub := fun w => bin_sub (P := Tryd.prog) (t := 3) (x : Int) k (y : Int) w hy (by omega) (by omega)
      by_cases h1 : x < N
      · have i1 : (x : Int) < (N : Int) := by omega
        by_cases h2 : y < M
        · have i2 : (y : Int) < (M : Int) := by omega
          have i3 : (0 : Int) ≤ (y : Int) := by omega
          obtain ⟨bA, oA, hA1, hA2⟩ := (HA.out.below (HT.out.bel.trans (HBX.out.mono HT.out.bel.size))).at_ x (by unfold sts; rw [List.length_map, HN.out]; exact h1)
          obtain ⟨bB, oB, hB1, hB2⟩ := (HB.out.below (HT.out.bel.trans (HBX.out.mono HT.out.bel.size))).at_ y (by unfold sts; rw [List.length_map, HM.out]; exact h2)
          obtain ⟨sa, hsa⟩ : ∃ s, a[x]'(by rw [HN.out]; exact h1) = s := ⟨_, rfl⟩
          obtain ⟨sb, hsb⟩ : ∃ s, b[y]'(by rw [HM.out]; exact h2) = s := ⟨_, rfl⟩
          have ea : (sts a)[x]'(by unfold sts; rw [List.length_map, HN.out]; exact h1) = .string sa := by rw [← hsa]; simp [sts]
          have eb : (sts b)[y]'(by unfold sts; rw [List.length_map, HM.out]; exact h2) = .string sb := by rw [← hsb]; simp [sts]
          rw [ea] at hA2
          rw [eb] at hB2
          have HGO : Hid (GoOn a b k (x : Int) ↔ sa = sb) := Lib.hid (by
            have hn := HN.out
            have hm := HM.out
            have g1 : ((x : Int)).toNat = x := by omega
            have g2 : ((x : Int) - k).toNat = y := by omega
            have l1 : x < a.length := by omega
            have l2 : y < b.length := by omega
            unfold GoOn
            rw [g1, g2, List.getElem?_eq_getElem l1, List.getElem?_eq_getElem l2, hsa, hsb, hn, hm, hy]
            constructor
            · rintro ⟨_, _, _, h⟩; exact Option.some.inj h
            · intro h; exact ⟨i1, i2, i3, by rw [h]⟩)
          have HXA := Lib.hid hA1
          have HXB := Lib.hid hB1
          clear hsa hsb ea eb
          have heq := fun w => bin_streq (P := Tryd.prog) Tryd.underlying9 sa sb w
          rw [hA1, hB1]
          clear hA1 hB1
          by_cases h3 : sa = sb
          · have z3 : decide (sa = sb) = true := decide_eq_true h3
            have HST : Hid (GoOn a b k (x : Int)) := Lib.hid (HGO.out.2 h3)
            clear h3 HGO
            go_wp2_with fail
            refine wp_region_sched (fun w' => w'.cell? ⟨bA, oA + x, none⟩ = some (.string sa) ∧ w'.cell? ⟨bB, oB + y, none⟩ = some (.string sb)) [(true, 0), (true, 1), (true, 2), (true, 3), (true, 4), (true, 5), (true, 6), (true, 7), (true, 8), (true, 9), (true, 10), (true, 11), (true, 12), (true, 13), (true, 14), (true, 15), (true, 16), (true, 17), (true, 18), (true, 19), (true, 20), (true, 21), (true, 22), (true, 23), (true, 24), (true, 25), (true, 26), (true, 27), (true, 28), (true, 29), (true, 30)] (by kernel_rfl) (by kernel_rfl) rfl (by kernel_rfl) ⟨hA2, hB2⟩ ?_
            (first | (refine wpS_pass _ rfl (by rfl) ?_; simp only [Act.put, List.getElem_toArray, List.getElem_cons_zero, List.getElem_cons_succ, List.setIfInBounds_toArray, List.set_cons_zero, List.set_cons_succ]) | (refine wpS_take _ ?_ rfl (by rfl) ?_ ?_; rotate_left; (focus (intro w' hS'; (try dsimp only at hS'); (repeat (have hS1 := hS'.1; replace hS' := hS'.2)); go_simp; (try with_reducible rfl); done)); simp only [Act.put, List.getElem_toArray, List.getElem_cons_zero, List.getElem_cons_succ, List.setIfInBounds_toArray, List.set_cons_zero, List.set_cons_succ]))
            (first | (refine wpS_pass _ rfl (by rfl) ?_; simp only [Act.put, List.getElem_toArray, List.getElem_cons_zero, List.getElem_cons_succ, List.setIfInBounds_toArray, List.set_cons_zero, List.set_cons_succ]) | (refine wpS_take _ ?_ rfl (by rfl) ?_ ?_; rotate_left; (focus (intro w' hS'; (try dsimp only at hS'); (repeat (have hS1 := hS'.1; replace hS' := hS'.2)); go_simp; (try with_reducible rfl); done)); simp only [Act.put, List.getElem_toArray, List.getElem_cons_zero, List.getElem_cons_succ, List.setIfInBounds_toArray, List.set_cons_zero, List.set_cons_succ]))
            (first | (refine wpS_pass _ rfl (by rfl) ?_; simp only [Act.put, List.getElem_toArray, List.getElem_cons_zero, List.getElem_cons_succ, List.setIfInBounds_toArray, List.set_cons_zero, List.set_cons_succ]) | (refine wpS_take _ ?_ rfl (by rfl) ?_ ?_; rotate_left; (focus (intro w' hS'; (try dsimp only at hS'); (repeat (have hS1 := hS'.1; replace hS' := hS'.2)); go_simp; (try with_reducible rfl); done)); simp only [Act.put, List.getElem_toArray, List.getElem_cons_zero, List.getElem_cons_succ, List.setIfInBounds_toArray, List.set_cons_zero, List.set_cons_succ]))
            (first | (refine wpS_pass _ rfl (by rfl) ?_; simp only [Act.put, List.getElem_toArray, List.getElem_cons_zero, List.getElem_cons_succ, List.setIfInBounds_toArray, List.set_cons_zero, List.set_cons_succ]) | (refine wpS_take _ ?_ rfl (by rfl) ?_ ?_; rotate_left; (focus (intro w' hS'; (try dsimp only at hS'); (repeat (have hS1 := hS'.1; replace hS' := hS'.2)); go_simp; (try with_reducible rfl); done)); simp only [Act.put, List.getElem_toArray, List.getElem_cons_zero, List.getElem_cons_succ, List.setIfInBounds_toArray, List.set_cons_zero, List.set_cons_succ]))
            (first | (refine wpS_pass _ rfl (by rfl) ?_; simp only [Act.put, List.getElem_toArray, List.getElem_cons_zero, List.getElem_cons_succ, List.setIfInBounds_toArray, List.set_cons_zero, List.set_cons_succ]) | (refine wpS_take _ ?_ rfl (by rfl) ?_ ?_; rotate_left; (focus (intro w' hS'; (try dsimp only at hS'); (repeat (have hS1 := hS'.1; replace hS' := hS'.2)); go_simp; (try with_reducible rfl); done)); simp only [Act.put, List.getElem_toArray, List.getElem_cons_zero, List.getElem_cons_succ, List.setIfInBounds_toArray, List.set_cons_zero, List.set_cons_succ]))
            (first | (refine wpS_pass _ rfl (by rfl) ?_; simp only [Act.put, List.getElem_toArray, List.getElem_cons_zero, List.getElem_cons_succ, List.setIfInBounds_toArray, List.set_cons_zero, List.set_cons_succ]) | (refine wpS_take _ ?_ rfl (by rfl) ?_ ?_; rotate_left; (focus (intro w' hS'; (try dsimp only at hS'); (repeat (have hS1 := hS'.1; replace hS' := hS'.2)); go_simp; (try with_reducible rfl); done)); simp only [Act.put, List.getElem_toArray, List.getElem_cons_zero, List.getElem_cons_succ, List.setIfInBounds_toArray, List.set_cons_zero, List.set_cons_succ]))
            (first | (refine wpS_pass _ rfl (by rfl) ?_; simp only [Act.put, List.getElem_toArray, List.getElem_cons_zero, List.getElem_cons_succ, List.setIfInBounds_toArray, List.set_cons_zero, List.set_cons_succ]) | (refine wpS_take _ ?_ rfl (by rfl) ?_ ?_; rotate_left; (focus (intro w' hS'; (try dsimp only at hS'); (repeat (have hS1 := hS'.1; replace hS' := hS'.2)); go_simp; (try with_reducible rfl); done)); simp only [Act.put, List.getElem_toArray, List.getElem_cons_zero, List.getElem_cons_succ, List.setIfInBounds_toArray, List.set_cons_zero, List.set_cons_succ]))
            refine wpS_take _ _ rfl (by rfl) (fun w' hS' => exec_bin _ _ _ _ _ rfl _ _ _ rfl rfl rfl (hsub w')) ?_
            simp only [Act.put, List.getElem_toArray, List.getElem_cons_zero, List.getElem_cons_succ, List.setIfInBounds_toArray, List.set_cons_zero, List.set_cons_succ]
            (first | (refine wpS_pass _ rfl (by rfl) ?_; simp only [Act.put, List.getElem_toArray, List.getElem_cons_zero, List.getElem_cons_succ, List.setIfInBounds_toArray, List.set_cons_zero, List.set_cons_succ]) | (refine wpS_take _ ?_ rfl (by rfl) ?_ ?_; rotate_left; (focus (intro w' hS'; (try dsimp only at hS'); (repeat (have hS1 := hS'.1; replace hS' := hS'.2)); go_simp; (try with_reducible rfl); done)); simp only [Act.put, List.getElem_toArray, List.getElem_cons_zero, List.getElem_cons_succ, List.setIfInBounds_toArray, List.set_cons_zero, List.set_cons_succ]))
            (first | (refine wpS_pass _ rfl (by rfl) ?_; simp only [Act.put, List.getElem_toArray, List.getElem_cons_zero, List.getElem_cons_succ, List.setIfInBounds_toArray, List.set_cons_zero, List.set_cons_succ]) | (refine wpS_take _ ?_ rfl (by rfl) ?_ ?_; rotate_left; (focus (intro w' hS'; (try dsimp only at hS'); (repeat (have hS1 := hS'.1; replace hS' := hS'.2)); go_simp; (try with_reducible rfl); done)); simp only [Act.put, List.getElem_toArray, List.getElem_cons_zero, List.getElem_cons_succ, List.setIfInBounds_toArray, List.set_cons_zero, List.set_cons_succ]))
            (first | (refine wpS_pass _ rfl (by rfl) ?_; simp only [Act.put, List.getElem_toArray, List.getElem_cons_zero, List.getElem_cons_succ, List.setIfInBounds_toArray, List.set_cons_zero, List.set_cons_succ]) | (refine wpS_take _ ?_ rfl (by rfl) ?_ ?_; rotate_left; (focus (intro w' hS'; (try dsimp only at hS'); (repeat (have hS1 := hS'.1; replace hS' := hS'.2)); go_simp; (try with_reducible rfl); done)); simp only [Act.put, List.getElem_toArray, List.getElem_cons_zero, List.getElem_cons_succ, List.setIfInBounds_toArray, List.set_cons_zero, List.set_cons_succ]))
            (first | (refine wpS_pass _ rfl (by rfl) ?_; simp only [Act.put, List.getElem_toArray, List.getElem_cons_zero, List.getElem_cons_succ, List.setIfInBounds_toArray, List.set_cons_zero, List.set_cons_succ]) | (refine wpS_take _ ?_ rfl (by rfl) ?_ ?_; rotate_left; (focus (intro w' hS'; (try dsimp only at hS'); (repeat (have hS1 := hS'.1; replace hS' := hS'.2)); go_simp; (try with_reducible rfl); done)); simp only [Act.put, List.getElem_toArray, List.getElem_cons_zero, List.getElem_cons_succ, List.setIfInBounds_toArray, List.set_cons_zero, List.set_cons_succ]))
            (first | (refine wpS_pass _ rfl (by rfl) ?_; simp only [Act.put, List.getElem_toArray, List.getElem_cons_zero, List.getElem_cons_succ, List.setIfInBounds_toArray, List.set_cons_zero, List.set_cons_succ]) | (refine wpS_take _ ?_ rfl (by rfl) ?_ ?_; rotate_left; (focus (intro w' hS'; (try dsimp only at hS'); (repeat (have hS1 := hS'.1; replace hS' := hS'.2)); go_simp; (try with_reducible rfl); done)); simp only [Act.put, List.getElem_toArray, List.getElem_cons_zero, List.getElem_cons_succ, List.setIfInBounds_toArray, List.set_cons_zero, List.set_cons_succ]))
            (first | (refine wpS_pass _ rfl (by rfl) ?_; simp only [Act.put, List.getElem_toArray, List.getElem_cons_zero, List.getElem_cons_succ, List.setIfInBounds_toArray, List.set_cons_zero, List.set_cons_succ]) | (refine wpS_take _ ?_ rfl (by rfl) ?_ ?_; rotate_left; (focus (intro w' hS'; (try dsimp only at hS'); (repeat (have hS1 := hS'.1; replace hS' := hS'.2)); go_simp; (try with_reducible rfl); done)); simp only [Act.put, List.getElem_toArray, List.getElem_cons_zero, List.getElem_cons_succ, List.setIfInBounds_toArray, List.set_cons_zero, List.set_cons_succ]))
            (first | (refine wpS_pass _ rfl (by rfl) ?_; simp only [Act.put, List.getElem_toArray, List.getElem_cons_zero, List.getElem_cons_succ, List.setIfInBounds_toArray, List.set_cons_zero, List.set_cons_succ]) | (refine wpS_take _ ?_ rfl (by rfl) ?_ ?_; rotate_left; (focus (intro w' hS'; (try dsimp only at hS'); (repeat (have hS1 := hS'.1; replace hS' := hS'.2)); go_simp; (try with_reducible rfl); done)); simp only [Act.put, List.getElem_toArray, List.getElem_cons_zero, List.getElem_cons_succ, List.setIfInBounds_toArray, List.set_cons_zero, List.set_cons_succ]))
            refine wpS_take _ _ rfl (by rfl) (fun w' hS' => exec_bin _ _ _ _ _ rfl _ _ _ rfl rfl rfl (hsub w')) ?_
            simp only [Act.put, List.getElem_toArray, List.getElem_cons_zero, List.getElem_cons_succ, List.setIfInBounds_toArray, List.set_cons_zero, List.set_cons_succ]
            (first | (refine wpS_pass _ rfl (by rfl) ?_; simp only [Act.put, List.getElem_toArray, List.getElem_cons_zero, List.getElem_cons_succ, List.setIfInBounds_toArray, List.set_cons_zero, List.set_cons_succ]) | (refine wpS_take _ ?_ rfl (by rfl) ?_ ?_; rotate_left; (focus (intro w' hS'; (try dsimp only at hS'); (repeat (have hS1 := hS'.1; replace hS' := hS'.2)); go_simp; (try with_reducible rfl); done)); simp only [Act.put, List.getElem_toArray, List.getElem_cons_zero, List.getElem_cons_succ, List.setIfInBounds_toArray, List.set_cons_zero, List.set_cons_succ]))
            (first | (refine wpS_pass _ rfl (by rfl) ?_; simp only [Act.put, List.getElem_toArray, List.getElem_cons_zero, List.getElem_cons_succ, List.setIfInBounds_toArray, List.set_cons_zero, List.set_cons_succ]) | (refine wpS_take _ ?_ rfl (by rfl) ?_ ?_; rotate_left; (focus (intro w' hS'; (try dsimp only at hS'); (repeat (have hS1 := hS'.1; replace hS' := hS'.2)); go_simp; (try with_reducible rfl); done)); simp only [Act.put, List.getElem_toArray, List.getElem_cons_zero, List.getElem_cons_succ, List.setIfInBounds_toArray, List.set_cons_zero, List.set_cons_succ]))
            (first | (refine wpS_pass _ rfl (by rfl) ?_; simp only [Act.put, List.getElem_toArray, List.getElem_cons_zero, List.getElem_cons_succ, List.setIfInBounds_toArray, List.set_cons_zero, List.set_cons_succ]) | (refine wpS_take _ ?_ rfl (by rfl) ?_ ?_; rotate_left; (focus (intro w' hS'; (try dsimp only at hS'); (repeat (have hS1 := hS'.1; replace hS' := hS'.2)); go_simp; (try with_reducible rfl); done)); simp only [Act.put, List.getElem_toArray, List.getElem_cons_zero, List.getElem_cons_succ, List.setIfInBounds_toArray, List.set_cons_zero, List.set_cons_succ]))
            (first | (refine wpS_pass _ rfl (by rfl) ?_; simp only [Act.put, List.getElem_toArray, List.getElem_cons_zero, List.getElem_cons_succ, List.setIfInBounds_toArray, List.set_cons_zero, List.set_cons_succ]) | (refine wpS_take _ ?_ rfl (by rfl) ?_ ?_; rotate_left; (focus (intro w' hS'; (try dsimp only at hS'); (repeat (have hS1 := hS'.1; replace hS' := hS'.2)); go_simp; (try with_reducible rfl); done)); simp only [Act.put, List.getElem_toArray, List.getElem_cons_zero, List.getElem_cons_succ, List.setIfInBounds_toArray, List.set_cons_zero, List.set_cons_succ]))
            (first | (refine wpS_pass _ rfl (by rfl) ?_; simp only [Act.put, List.getElem_toArray, List.getElem_cons_zero, List.getElem_cons_succ, List.setIfInBounds_toArray, List.set_cons_zero, List.set_cons_succ]) | (refine wpS_take _ ?_ rfl (by rfl) ?_ ?_; rotate_left; (focus (intro w' hS'; (try dsimp only at hS'); (repeat (have hS1 := hS'.1; replace hS' := hS'.2)); go_simp; (try with_reducible rfl); done)); simp only [Act.put, List.getElem_toArray, List.getElem_cons_zero, List.getElem_cons_succ, List.setIfInBounds_toArray, List.set_cons_zero, List.set_cons_succ]))
            (first | (refine wpS_pass _ rfl (by rfl) ?_; simp only [Act.put, List.getElem_toArray, List.getElem_cons_zero, List.getElem_cons_succ, List.setIfInBounds_toArray, List.set_cons_zero, List.set_cons_succ]) | (refine wpS_take _ ?_ rfl (by rfl) ?_ ?_; rotate_left; (focus (intro w' hS'; (try dsimp only at hS'); (repeat (have hS1 := hS'.1; replace hS' := hS'.2)); go_simp; (try with_reducible rfl); done)); simp only [Act.put, List.getElem_toArray, List.getElem_cons_zero, List.getElem_cons_succ, List.setIfInBounds_toArray, List.set_cons_zero, List.set_cons_succ]))
            (first | (refine wpS_pass _ rfl (by rfl) ?_; simp only [Act.put, List.getElem_toArray, List.getElem_cons_zero, List.getElem_cons_succ, List.setIfInBounds_toArray, List.set_cons_zero, List.set_cons_succ]) | (refine wpS_take _ ?_ rfl (by rfl) ?_ ?_; rotate_left; (focus (intro w' hS'; (try dsimp only at hS'); (repeat (have hS1 := hS'.1; replace hS' := hS'.2)); go_simp; (try with_reducible rfl); done)); simp only [Act.put, List.getElem_toArray, List.getElem_cons_zero, List.getElem_cons_succ, List.setIfInBounds_toArray, List.set_cons_zero, List.set_cons_succ]))
            (first | (refine wpS_pass _ rfl (by rfl) ?_; simp only [Act.put, List.getElem_toArray, List.getElem_cons_zero, List.getElem_cons_succ, List.setIfInBounds_toArray, List.set_cons_zero, List.set_cons_succ]) | (refine wpS_take _ ?_ rfl (by rfl) ?_ ?_; rotate_left; (focus (intro w' hS'; (try dsimp only at hS'); (repeat (have hS1 := hS'.1; replace hS' := hS'.2)); go_simp; (try with_reducible rfl); done)); simp only [Act.put, List.getElem_toArray, List.getElem_cons_zero, List.getElem_cons_succ, List.setIfInBounds_toArray, List.set_cons_zero, List.set_cons_succ]))
            (first | (refine wpS_pass _ rfl (by rfl) ?_; simp only [Act.put, List.getElem_toArray, List.getElem_cons_zero, List.getElem_cons_succ, List.setIfInBounds_toArray, List.set_cons_zero, List.set_cons_succ]) | (refine wpS_take _ ?_ rfl (by rfl) ?_ ?_; rotate_left; (focus (intro w' hS'; (try dsimp only at hS'); (repeat (have hS1 := hS'.1; replace hS' := hS'.2)); go_simp; (try with_reducible rfl); done)); simp only [Act.put, List.getElem_toArray, List.getElem_cons_zero, List.getElem_cons_succ, List.setIfInBounds_toArray, List.set_cons_zero, List.set_cons_succ]))
            (first | (refine wpS_pass _ rfl (by rfl) ?_; simp only [Act.put, List.getElem_toArray, List.getElem_cons_zero, List.getElem_cons_succ, List.setIfInBounds_toArray, List.set_cons_zero, List.set_cons_succ]) | (refine wpS_take _ ?_ rfl (by rfl) ?_ ?_; rotate_left; (focus (intro w' hS'; (try dsimp only at hS'); (repeat (have hS1 := hS'.1; replace hS' := hS'.2)); go_simp; (try with_reducible rfl); done)); simp only [Act.put, List.getElem_toArray, List.getElem_cons_zero, List.getElem_cons_succ, List.setIfInBounds_toArray, List.set_cons_zero, List.set_cons_succ]))
            refine wpS_take _ _ rfl (by rfl) (fun w' hS' => exec_bin _ _ _ _ _ rfl _ _ _ rfl rfl rfl (hsub w')) ?_
            simp only [Act.put, List.getElem_toArray, List.getElem_cons_zero, List.getElem_cons_succ, List.setIfInBounds_toArray, List.set_cons_zero, List.set_cons_succ]
            (first | (refine wpS_pass _ rfl (by rfl) ?_; simp only [Act.put, List.getElem_toArray, List.getElem_cons_zero, List.getElem_cons_succ, List.setIfInBounds_toArray, List.set_cons_zero, List.set_cons_succ]) | (refine wpS_take _ ?_ rfl (by rfl) ?_ ?_; rotate_left; (focus (intro w' hS'; (try dsimp only at hS'); (repeat (have hS1 := hS'.1; replace hS' := hS'.2)); go_simp; (try with_reducible rfl); done)); simp only [Act.put, List.getElem_toArray, List.getElem_cons_zero, List.getElem_cons_succ, List.setIfInBounds_toArray, List.set_cons_zero, List.set_cons_succ]))
            (first | (refine wpS_pass _ rfl (by rfl) ?_; simp only [Act.put, List.getElem_toArray, List.getElem_cons_zero, List.getElem_cons_succ, List.setIfInBounds_toArray, List.set_cons_zero, List.set_cons_succ]) | (refine wpS_take _ ?_ rfl (by rfl) ?_ ?_; rotate_left; (focus (intro w' hS'; (try dsimp only at hS'); (repeat (have hS1 := hS'.1; replace hS' := hS'.2)); go_simp; (try with_reducible rfl); done)); simp only [Act.put, List.getElem_toArray, List.getElem_cons_zero, List.getElem_cons_succ, List.setIfInBounds_toArray, List.set_cons_zero, List.set_cons_succ]))
            refine wpS_take _ _ rfl (by rfl) (fun w' hS' => exec_bin _ _ _ _ _ rfl _ _ _ rfl rfl rfl (heq w')) ?_
            simp only [Act.put, List.getElem_toArray, List.getElem_cons_zero, List.getElem_cons_succ, List.setIfInBounds_toArray, List.set_cons_zero, List.set_cons_succ]
            (repeat (first | (refine wpS_pass _ rfl (by rfl) ?_; simp only [Act.put, List.getElem_toArray, List.getElem_cons_zero, List.getElem_cons_succ, List.setIfInBounds_toArray, List.set_cons_zero, List.set_cons_succ]) | (refine wpS_take _ ?_ rfl (by rfl) ?_ ?_; rotate_left; (focus (intro w' hS'; (try dsimp only at hS'); (repeat (have hS1 := hS'.1; replace hS' := hS'.2)); go_simp; (try with_reducible rfl); done)); simp only [Act.put, List.getElem_toArray, List.getElem_cons_zero, List.getElem_cons_succ, List.setIfInBounds_toArray, List.set_cons_zero, List.set_cons_succ])))
            refine wpS_done ?_
            clear hA2 hB2 heq
            go_wp2_with fail
            rw [← HXA.out, ← HXB.out]
            go_roundg (N + 3000 - (x + 1))
            case measure => omega
            case rel => exact ⟨x + 1, by omega, rfl, by first | rfl | exact congrArg (Value.int .i64) (by omega) | go_num, by omega, Lib.hid (by rw [← HV.out, snake_go HST.out]; rfl), Lib.hid HBX.out.drew⟩
          · have z3 : decide (sa = sb) = false := decide_eq_false h3
            have HSTOP : Hid (¬ GoOn a b k (x : Int)) := Lib.hid (fun g => h3 (HGO.out.1 g))
            clear h3 HGO
            go_wp2_with fail
            refine wp_region_sched (fun w' => w'.cell? ⟨bA, oA + x, none⟩ = some (.string sa) ∧ w'.cell? ⟨bB, oB + y, none⟩ = some (.string sb)) [(true, 0), (true, 1), (true, 2), (true, 3), (true, 4), (true, 5), (true, 6), (true, 7), (true, 8), (true, 9), (true, 10), (true, 11), (true, 12), (true, 13), (true, 14), (true, 15), (true, 16), (true, 17), (true, 18), (true, 19), (true, 20), (true, 21), (true, 22), (true, 23), (true, 24), (true, 25), (true, 26), (true, 27), (true, 28), (true, 29), (true, 30)] (by kernel_rfl) (by kernel_rfl) rfl (by kernel_rfl) ⟨hA2, hB2⟩ ?_
            (first | (refine wpS_pass _ rfl (by rfl) ?_; simp only [Act.put, List.getElem_toArray, List.getElem_cons_zero, List.getElem_cons_succ, List.setIfInBounds_toArray, List.set_cons_zero, List.set_cons_succ]) | (refine wpS_take _ ?_ rfl (by rfl) ?_ ?_; rotate_left; (focus (intro w' hS'; (try dsimp only at hS'); (repeat (have hS1 := hS'.1; replace hS' := hS'.2)); go_simp; (try with_reducible rfl); done)); simp only [Act.put, List.getElem_toArray, List.getElem_cons_zero, List.getElem_cons_succ, List.setIfInBounds_toArray, List.set_cons_zero, List.set_cons_succ]))
            (first | (refine wpS_pass _ rfl (by rfl) ?_; simp only [Act.put, List.getElem_toArray, List.getElem_cons_zero, List.getElem_cons_succ, List.setIfInBounds_toArray, List.set_cons_zero, List.set_cons_succ]) | (refine wpS_take _ ?_ rfl (by rfl) ?_ ?_; rotate_left; (focus (intro w' hS'; (try dsimp only at hS'); (repeat (have hS1 := hS'.1; replace hS' := hS'.2)); go_simp; (try with_reducible rfl); done)); simp only [Act.put, List.getElem_toArray, List.getElem_cons_zero, List.getElem_cons_succ, List.setIfInBounds_toArray, List.set_cons_zero, List.set_cons_succ]))
            (first | (refine wpS_pass _ rfl (by rfl) ?_; simp only [Act.put, List.getElem_toArray, List.getElem_cons_zero, List.getElem_cons_succ, List.setIfInBounds_toArray, List.set_cons_zero, List.set_cons_succ]) | (refine wpS_take _ ?_ rfl (by rfl) ?_ ?_; rotate_left; (focus (intro w' hS'; (try dsimp only at hS'); (repeat (have hS1 := hS'.1; replace hS' := hS'.2)); go_simp; (try with_reducible rfl); done)); simp only [Act.put, List.getElem_toArray, List.getElem_cons_zero, List.getElem_cons_succ, List.setIfInBounds_toArray, List.set_cons_zero, List.set_cons_succ]))
            (first | (refine wpS_pass _ rfl (by rfl) ?_; simp only [Act.put, List.getElem_toArray, List.getElem_cons_zero, List.getElem_cons_succ, List.setIfInBounds_toArray, List.set_cons_zero, List.set_cons_succ]) | (refine wpS_take _ ?_ rfl (by rfl) ?_ ?_; rotate_left; (focus (intro w' hS'; (try dsimp only at hS'); (repeat (have hS1 := hS'.1; replace hS' := hS'.2)); go_simp; (try with_reducible rfl); done)); simp only [Act.put, List.getElem_toArray, List.getElem_cons_zero, List.getElem_cons_succ, List.setIfInBounds_toArray, List.set_cons_zero, List.set_cons_succ]))
            (first | (refine wpS_pass _ rfl (by rfl) ?_; simp only [Act.put, List.getElem_toArray, List.getElem_cons_zero, List.getElem_cons_succ, List.setIfInBounds_toArray, List.set_cons_zero, List.set_cons_succ]) | (refine wpS_take _ ?_ rfl (by rfl) ?_ ?_; rotate_left; (focus (intro w' hS'; (try dsimp only at hS'); (repeat (have hS1 := hS'.1; replace hS' := hS'.2)); go_simp; (try with_reducible rfl); done)); simp only [Act.put, List.getElem_toArray, List.getElem_cons_zero, List.getElem_cons_succ, List.setIfInBounds_toArray, List.set_cons_zero, List.set_cons_succ]))
            (first | (refine wpS_pass _ rfl (by rfl) ?_; simp only [Act.put, List.getElem_toArray, List.getElem_cons_zero, List.getElem_cons_succ, List.setIfInBounds_toArray, List.set_cons_zero, List.set_cons_succ]) | (refine wpS_take _ ?_ rfl (by rfl) ?_ ?_; rotate_left; (focus (intro w' hS'; (try dsimp only at hS'); (repeat (have hS1 := hS'.1; replace hS' := hS'.2)); go_simp; (try with_reducible rfl); done)); simp only [Act.put, List.getElem_toArray, List.getElem_cons_zero, List.getElem_cons_succ, List.setIfInBounds_toArray, List.set_cons_zero, List.set_cons_succ]))
            (first | (refine wpS_pass _ rfl (by rfl) ?_; simp only [Act.put, List.getElem_toArray, List.getElem_cons_zero, List.getElem_cons_succ, List.setIfInBounds_toArray, List.set_cons_zero, List.set_cons_succ]) | (refine wpS_take _ ?_ rfl (by rfl) ?_ ?_; rotate_left; (focus (intro w' hS'; (try dsimp only at hS'); (repeat (have hS1 := hS'.1; replace hS' := hS'.2)); go_simp; (try with_reducible rfl); done)); simp only [Act.put, List.getElem_toArray, List.getElem_cons_zero, List.getElem_cons_succ, List.setIfInBounds_toArray, List.set_cons_zero, List.set_cons_succ]))
            refine wpS_take _ _ rfl (by rfl) (fun w' hS' => exec_bin _ _ _ _ _ rfl _ _ _ rfl rfl rfl (hsub w')) ?_
            simp only [Act.put, List.getElem_toArray, List.getElem_cons_zero, List.getElem_cons_succ, List.setIfInBounds_toArray, List.set_cons_zero, List.set_cons_succ]
            (first | (refine wpS_pass _ rfl (by rfl) ?_; simp only [Act.put, List.getElem_toArray, List.getElem_cons_zero, List.getElem_cons_succ, List.setIfInBounds_toArray, List.set_cons_zero, List.set_cons_succ]) | (refine wpS_take _ ?_ rfl (by rfl) ?_ ?_; rotate_left; (focus (intro w' hS'; (try dsimp only at hS'); (repeat (have hS1 := hS'.1; replace hS' := hS'.2)); go_simp; (try with_reducible rfl); done)); simp only [Act.put, List.getElem_toArray, List.getElem_cons_zero, List.getElem_cons_succ, List.setIfInBounds_toArray, List.set_cons_zero, List.set_cons_succ]))
            (first | (refine wpS_pass _ rfl (by rfl) ?_; simp only [Act.put, List.getElem_toArray, List.getElem_cons_zero, List.getElem_cons_succ, List.setIfInBounds_toArray, List.set_cons_zero, List.set_cons_succ]) | (refine wpS_take _ ?_ rfl (by rfl) ?_ ?_; rotate_left; (focus (intro w' hS'; (try dsimp only at hS'); (repeat (have hS1 := hS'.1; replace hS' := hS'.2)); go_simp; (try with_reducible rfl); done)); simp only [Act.put, List.getElem_toArray, List.getElem_cons_zero, List.getElem_cons_succ, List.setIfInBounds_toArray, List.set_cons_zero, List.set_cons_succ]))
            (first | (refine wpS_pass _ rfl (by rfl) ?_; simp only [Act.put, List.getElem_toArray, List.getElem_cons_zero, List.getElem_cons_succ, List.setIfInBounds_toArray, List.set_cons_zero, List.set_cons_succ]) | (refine wpS_take _ ?_ rfl (by rfl) ?_ ?_; rotate_left; (focus (intro w' hS'; (try dsimp only at hS'); (repeat (have hS1 := hS'.1; replace hS' := hS'.2)); go_simp; (try with_reducible rfl); done)); simp only [Act.put, List.getElem_toArray, List.getElem_cons_zero, List.getElem_cons_succ, List.setIfInBounds_toArray, List.set_cons_zero, List.set_cons_succ]))
            (first | (refine wpS_pass _ rfl (by rfl) ?_; simp only [Act.put, List.getElem_toArray, List.getElem_cons_zero, List.getElem_cons_succ, List.setIfInBounds_toArray, List.set_cons_zero, List.set_cons_succ]) | (refine wpS_take _ ?_ rfl (by rfl) ?_ ?_; rotate_left; (focus (intro w' hS'; (try dsimp only at hS'); (repeat (have hS1 := hS'.1; replace hS' := hS'.2)); go_simp; (try with_reducible rfl); done)); simp only [Act.put, List.getElem_toArray, List.getElem_cons_zero, List.getElem_cons_succ, List.setIfInBounds_toArray, List.set_cons_zero, List.set_cons_succ]))
            (first | (refine wpS_pass _ rfl (by rfl) ?_; simp only [Act.put, List.getElem_toArray, List.getElem_cons_zero, List.getElem_cons_succ, List.setIfInBounds_toArray, List.set_cons_zero, List.set_cons_succ]) | (refine wpS_take _ ?_ rfl (by rfl) ?_ ?_; rotate_left; (focus (intro w' hS'; (try dsimp only at hS'); (repeat (have hS1 := hS'.1; replace hS' := hS'.2)); go_simp; (try with_reducible rfl); done)); simp only [Act.put, List.getElem_toArray, List.getElem_cons_zero, List.getElem_cons_succ, List.setIfInBounds_toArray, List.set_cons_zero, List.set_cons_succ]))
            (first | (refine wpS_pass _ rfl (by rfl) ?_; simp only [Act.put, List.getElem_toArray, List.getElem_cons_zero, List.getElem_cons_succ, List.setIfInBounds_toArray, List.set_cons_zero, List.set_cons_succ]) | (refine wpS_take _ ?_ rfl (by rfl) ?_ ?_; rotate_left; (focus (intro w' hS'; (try dsimp only at hS'); (repeat (have hS1 := hS'.1; replace hS' := hS'.2)); go_simp; (try with_reducible rfl); done)); simp only [Act.put, List.getElem_toArray, List.getElem_cons_zero, List.getElem_cons_succ, List.setIfInBounds_toArray, List.set_cons_zero, List.set_cons_succ]))
            (first | (refine wpS_pass _ rfl (by rfl) ?_; simp only [Act.put, List.getElem_toArray, List.getElem_cons_zero, List.getElem_cons_succ, List.setIfInBounds_toArray, List.set_cons_zero, List.set_cons_succ]) | (refine wpS_take _ ?_ rfl (by rfl) ?_ ?_; rotate_left; (focus (intro w' hS'; (try dsimp only at hS'); (repeat (have hS1 := hS'.1; replace hS' := hS'.2)); go_simp; (try with_reducible rfl); done)); simp only [Act.put, List.getElem_toArray, List.getElem_cons_zero, List.getElem_cons_succ, List.setIfInBounds_toArray, List.set_cons_zero, List.set_cons_succ]))
            refine wpS_take _ _ rfl (by rfl) (fun w' hS' => exec_bin _ _ _ _ _ rfl _ _ _ rfl rfl rfl (hsub w')) ?_
            simp only [Act.put, List.getElem_toArray, List.getElem_cons_zero, List.getElem_cons_succ, List.setIfInBounds_toArray, List.set_cons_zero, List.set_cons_succ]
            (first | (refine wpS_pass _ rfl (by rfl) ?_; simp only [Act.put, List.getElem_toArray, List.getElem_cons_zero, List.getElem_cons_succ, List.setIfInBounds_toArray, List.set_cons_zero, List.set_cons_succ]) | (refine wpS_take _ ?_ rfl (by rfl) ?_ ?_; rotate_left; (focus (intro w' hS'; (try dsimp only at hS'); (repeat (have hS1 := hS'.1; replace hS' := hS'.2)); go_simp; (try with_reducible rfl); done)); simp only [Act.put, List.getElem_toArray, List.getElem_cons_zero, List.getElem_cons_succ, List.setIfInBounds_toArray, List.set_cons_zero, List.set_cons_succ]))
            (first | (refine wpS_pass _ rfl (by rfl) ?_; simp only [Act.put, List.getElem_toArray, List.getElem_cons_zero, List.getElem_cons_succ, List.setIfInBounds_toArray, List.set_cons_zero, List.set_cons_succ]) | (refine wpS_take _ ?_ rfl (by rfl) ?_ ?_; rotate_left; (focus (intro w' hS'; (try dsimp only at hS'); (repeat (have hS1 := hS'.1; replace hS' := hS'.2)); go_simp; (try with_reducible rfl); done)); simp only [Act.put, List.getElem_toArray, List.getElem_cons_zero, List.getElem_cons_succ, List.setIfInBounds_toArray, List.set_cons_zero, List.set_cons_succ]))
            (first | (refine wpS_pass _ rfl (by rfl) ?_; simp only [Act.put, List.getElem_toArray, List.getElem_cons_zero, List.getElem_cons_succ, List.setIfInBounds_toArray, List.set_cons_zero, List.set_cons_succ]) | (refine wpS_take _ ?_ rfl (by rfl) ?_ ?_; rotate_left; (focus (intro w' hS'; (try dsimp only at hS'); (repeat (have hS1 := hS'.1; replace hS' := hS'.2)); go_simp; (try with_reducible rfl); done)); simp only [Act.put, List.getElem_toArray, List.getElem_cons_zero, List.getElem_cons_succ, List.setIfInBounds_toArray, List.set_cons_zero, List.set_cons_succ]))
            (first | (refine wpS_pass _ rfl (by rfl) ?_; simp only [Act.put, List.getElem_toArray, List.getElem_cons_zero, List.getElem_cons_succ, List.setIfInBounds_toArray, List.set_cons_zero, List.set_cons_succ]) | (refine wpS_take _ ?_ rfl (by rfl) ?_ ?_; rotate_left; (focus (intro w' hS'; (try dsimp only at hS'); (repeat (have hS1 := hS'.1; replace hS' := hS'.2)); go_simp; (try with_reducible rfl); done)); simp only [Act.put, List.getElem_toArray, List.getElem_cons_zero, List.getElem_cons_succ, List.setIfInBounds_toArray, List.set_cons_zero, List.set_cons_succ]))
            (first | (refine wpS_pass _ rfl (by rfl) ?_; simp only [Act.put, List.getElem_toArray, List.getElem_cons_zero, List.getElem_cons_succ, List.setIfInBounds_toArray, List.set_cons_zero, List.set_cons_succ]) | (refine wpS_take _ ?_ rfl (by rfl) ?_ ?_; rotate_left; (focus (intro w' hS'; (try dsimp only at hS'); (repeat (have hS1 := hS'.1; replace hS' := hS'.2)); go_simp; (try with_reducible rfl); done)); simp only [Act.put, List.getElem_toArray, List.getElem_cons_zero, List.getElem_cons_succ, List.setIfInBounds_toArray, List.set_cons_zero, List.set_cons_succ]))
            (first | (refine wpS_pass _ rfl (by rfl) ?_; simp only [Act.put, List.getElem_toArray, List.getElem_cons_zero, List.getElem_cons_succ, List.setIfInBounds_toArray, List.set_cons_zero, List.set_cons_succ]) | (refine wpS_take _ ?_ rfl (by rfl) ?_ ?_; rotate_left; (focus (intro w' hS'; (try dsimp only at hS'); (repeat (have hS1 := hS'.1; replace hS' := hS'.2)); go_simp; (try with_reducible rfl); done)); simp only [Act.put, List.getElem_toArray, List.getElem_cons_zero, List.getElem_cons_succ, List.setIfInBounds_toArray, List.set_cons_zero, List.set_cons_succ]))
            (first | (refine wpS_pass _ rfl (by rfl) ?_; simp only [Act.put, List.getElem_toArray, List.getElem_cons_zero, List.getElem_cons_succ, List.setIfInBounds_toArray, List.set_cons_zero, List.set_cons_succ]) | (refine wpS_take _ ?_ rfl (by rfl) ?_ ?_; rotate_left; (focus (intro w' hS'; (try dsimp only at hS'); (repeat (have hS1 := hS'.1; replace hS' := hS'.2)); go_simp; (try with_reducible rfl); done)); simp only [Act.put, List.getElem_toArray, List.getElem_cons_zero, List.getElem_cons_succ, List.setIfInBounds_toArray, List.set_cons_zero, List.set_cons_succ]))
            (first | (refine wpS_pass _ rfl (by rfl) ?_; simp only [Act.put, List.getElem_toArray, List.getElem_cons_zero, List.getElem_cons_succ, List.setIfInBounds_toArray, List.set_cons_zero, List.set_cons_succ]) | (refine wpS_take _ ?_ rfl (by rfl) ?_ ?_; rotate_left; (focus (intro w' hS'; (try dsimp only at hS'); (repeat (have hS1 := hS'.1; replace hS' := hS'.2)); go_simp; (try with_reducible rfl); done)); simp only [Act.put, List.getElem_toArray, List.getElem_cons_zero, List.getElem_cons_succ, List.setIfInBounds_toArray, List.set_cons_zero, List.set_cons_succ]))
            (first | (refine wpS_pass _ rfl (by rfl) ?_; simp only [Act.put, List.getElem_toArray, List.getElem_cons_zero, List.getElem_cons_succ, List.setIfInBounds_toArray, List.set_cons_zero, List.set_cons_succ]) | (refine wpS_take _ ?_ rfl (by rfl) ?_ ?_; rotate_left; (focus (intro w' hS'; (try dsimp only at hS'); (repeat (have hS1 := hS'.1; replace hS' := hS'.2)); go_simp; (try with_reducible rfl); done)); simp only [Act.put, List.getElem_toArray, List.getElem_cons_zero, List.getElem_cons_succ, List.setIfInBounds_toArray, List.set_cons_zero, List.set_cons_succ]))
            (first | (refine wpS_pass _ rfl (by rfl) ?_; simp only [Act.put, List.getElem_toArray, List.getElem_cons_zero, List.getElem_cons_succ, List.setIfInBounds_toArray, List.set_cons_zero, List.set_cons_succ]) | (refine wpS_take _ ?_ rfl (by rfl) ?_ ?_; rotate_left; (focus (intro w' hS'; (try dsimp only at hS'); (repeat (have hS1 := hS'.1; replace hS' := hS'.2)); go_simp; (try with_reducible rfl); done)); simp only [Act.put, List.getElem_toArray, List.getElem_cons_zero, List.getElem_cons_succ, List.setIfInBounds_toArray, List.set_cons_zero, List.set_cons_succ]))
            refine wpS_take _ _ rfl (by rfl) (fun w' hS' => exec_bin _ _ _ _ _ rfl _ _ _ rfl rfl rfl (hsub w')) ?_
            simp only [Act.put, List.getElem_toArray, List.getElem_cons_zero, List.getElem_cons_succ, List.setIfInBounds_toArray, List.set_cons_zero, List.set_cons_succ]
            (first | (refine wpS_pass _ rfl (by rfl) ?_; simp only [Act.put, List.getElem_toArray, List.getElem_cons_zero, List.getElem_cons_succ, List.setIfInBounds_toArray, List.set_cons_zero, List.set_cons_succ]) | (refine wpS_take _ ?_ rfl (by rfl) ?_ ?_; rotate_left; (focus (intro w' hS'; (try dsimp only at hS'); (repeat (have hS1 := hS'.1; replace hS' := hS'.2)); go_simp; (try with_reducible rfl); done)); simp only [Act.put, List.getElem_toArray, List.getElem_cons_zero, List.getElem_cons_succ, List.setIfInBounds_toArray, List.set_cons_zero, List.set_cons_succ]))
            (first | (refine wpS_pass _ rfl (by rfl) ?_; simp only [Act.put, List.getElem_toArray, List.getElem_cons_zero, List.getElem_cons_succ, List.setIfInBounds_toArray, List.set_cons_zero, List.set_cons_succ]) | (refine wpS_take _ ?_ rfl (by rfl) ?_ ?_; rotate_left; (focus (intro w' hS'; (try dsimp only at hS'); (repeat (have hS1 := hS'.1; replace hS' := hS'.2)); go_simp; (try with_reducible rfl); done)); simp only [Act.put, List.getElem_toArray, List.getElem_cons_zero, List.getElem_cons_succ, List.setIfInBounds_toArray, List.set_cons_zero, List.set_cons_succ]))
            refine wpS_take _ _ rfl (by rfl) (fun w' hS' => exec_bin _ _ _ _ _ rfl _ _ _ rfl rfl rfl (heq w')) ?_
            simp only [Act.put, List.getElem_toArray, List.getElem_cons_zero, List.getElem_cons_succ, List.setIfInBounds_toArray, List.set_cons_zero, List.set_cons_succ]
            (repeat (first | (refine wpS_pass _ rfl (by rfl) ?_; simp only [Act.put, List.getElem_toArray, List.getElem_cons_zero, List.getElem_cons_succ, List.setIfInBounds_toArray, List.set_cons_zero, List.set_cons_succ]) | (refine wpS_take _ ?_ rfl (by rfl) ?_ ?_; rotate_left; (focus (intro w' hS'; (try dsimp only at hS'); (repeat (have hS1 := hS'.1; replace hS' := hS'.2)); go_simp; (try with_reducible rfl); done)); simp only [Act.put, List.getElem_toArray, List.getElem_cons_zero, List.getElem_cons_succ, List.setIfInBounds_toArray, List.set_cons_zero, List.set_cons_succ])))
            refine wpS_done ?_
            clear hA2 hB2 heq
            rw [← HXA.out, ← HXB.out]
            have HVV : Hid (V a b d k = (x : Int)) := Lib.hid (by rw [← HV.out, snake_stop HSTOP.out])
            have hb8 : Below wi.heap.size wi wr.drew := HBX.out.drew
            have HT8 := Lib.hid (HT.out.below hb8)
            have MN8 := Lib.hid (MN.out.below hb8)
            have MW8 := Lib.hid (MW.out.below hb8)
            clear hb8 HSTOP HV
            generalize wr.drew = w8 at *
            have e1 : ¬ (N : Int) ≤ (x : Int) := by omega
            have HIT : Hid (hitB a b d k = false) := Lib.hid (by unfold hitB; rw [HVV.out, HN.out, HM.out, decide_eq_false e1, Bool.false_and])
            go_wp2_with (first
              | (refine wpList_upd rfl _ _ _ rfl bn n' _ rfl MN8.out (by unfold maxLen; omega) k (x : Int) rfl rfl (by unfold i64B; omega) (by unfold i64B; omega) ?_; intro w9 hm9 hg9; have HT9 := Lib.hid (HT8.out.upd HNB7.out (Nat.le_of_eq HBN.out) MN8.out hg9); have MN9 := Lib.hid (hm9.same (midF_step' a b d k x HON.out HVV.out)); have MW9 := Lib.hid (MW8.out.kept hg9 (ne_block HBW.out.2)); clear hm9 hg9))
            go_roundg (d + 1 - (j + 1))
            case measure => omega
            case rel => exact ⟨j + 1, k + 2, n' + 1, by omega, rfl, by first | rfl | exact congrArg (Value.int .i64) (by omega) | go_num, by omega, by omega, by omega, Lib.hid (by have := HK.out; omega), HT9, MN9, MW9, Lib.hid (fun k' h1 h2 => by
              by_cases e : k' = k
              · rw [e]; exact HIT.out
              · have h3 := HON.out; unfold onD at h1 h3; exact HNK.out k' h1 (by omega))⟩
        · have i2 : ¬ (y : Int) < (M : Int) := by omega
          have HSTOP : Hid (¬ GoOn a b k (x : Int)) := Lib.hid (fun g => by have h := g.2.1; have := HM.out; omega)
          go_wp2_with fail
          refine wp_region_sched (fun w' => Below wi.heap.size wi w') [(true, 0), (true, 1), (true, 2), (true, 3), (true, 4), (true, 5), (true, 6), (true, 7), (true, 8), (true, 9), (true, 10), (true, 11), (true, 12), (true, 13), (true, 14), (true, 15), (true, 16), (true, 17), (true, 18), (true, 19), (true, 20), (true, 21), (true, 22), (true, 23), (true, 24), (true, 25), (true, 26), (true, 27), (true, 28), (true, 29), (true, 30)] (by kernel_rfl) (by kernel_rfl) rfl (by kernel_rfl) HBX.out.drew ?_
          (first | (refine wpS_pass _ rfl (by rfl) ?_; simp only [Act.put, List.getElem_toArray, List.getElem_cons_zero, List.getElem_cons_succ, List.setIfInBounds_toArray, List.set_cons_zero, List.set_cons_succ]) | (refine wpS_take _ ?_ rfl (by rfl) ?_ ?_; rotate_left; (focus (intro w' hS'; (try dsimp only at hS'); (repeat (have hS1 := hS'.1; replace hS' := hS'.2)); go_simp; (try with_reducible rfl); done)); simp only [Act.put, List.getElem_toArray, List.getElem_cons_zero, List.getElem_cons_succ, List.setIfInBounds_toArray, List.set_cons_zero, List.set_cons_succ]))
          (first | (refine wpS_pass _ rfl (by rfl) ?_; simp only [Act.put, List.getElem_toArray, List.getElem_cons_zero, List.getElem_cons_succ, List.setIfInBounds_toArray, List.set_cons_zero, List.set_cons_succ]) | (refine wpS_take _ ?_ rfl (by rfl) ?_ ?_; rotate_left; (focus (intro w' hS'; (try dsimp only at hS'); (repeat (have hS1 := hS'.1; replace hS' := hS'.2)); go_simp; (try with_reducible rfl); done)); simp only [Act.put, List.getElem_toArray, List.getElem_cons_zero, List.getElem_cons_succ, List.setIfInBounds_toArray, List.set_cons_zero, List.set_cons_succ]))
          (first | (refine wpS_pass _ rfl (by rfl) ?_; simp only [Act.put, List.getElem_toArray, List.getElem_cons_zero, List.getElem_cons_succ, List.setIfInBounds_toArray, List.set_cons_zero, List.set_cons_succ]) | (refine wpS_take _ ?_ rfl (by rfl) ?_ ?_; rotate_left; (focus (intro w' hS'; (try dsimp only at hS'); (repeat (have hS1 := hS'.1; replace hS' := hS'.2)); go_simp; (try with_reducible rfl); done)); simp only [Act.put, List.getElem_toArray, List.getElem_cons_zero, List.getElem_cons_succ, List.setIfInBounds_toArray, List.set_cons_zero, List.set_cons_succ]))
          (first | (refine wpS_pass _ rfl (by rfl) ?_; simp only [Act.put, List.getElem_toArray, List.getElem_cons_zero, List.getElem_cons_succ, List.setIfInBounds_toArray, List.set_cons_zero, List.set_cons_succ]) | (refine wpS_take _ ?_ rfl (by rfl) ?_ ?_; rotate_left; (focus (intro w' hS'; (try dsimp only at hS'); (repeat (have hS1 := hS'.1; replace hS' := hS'.2)); go_simp; (try with_reducible rfl); done)); simp only [Act.put, List.getElem_toArray, List.getElem_cons_zero, List.getElem_cons_succ, List.setIfInBounds_toArray, List.set_cons_zero, List.set_cons_succ]))
          (first | (refine wpS_pass _ rfl (by rfl) ?_; simp only [Act.put, List.getElem_toArray, List.getElem_cons_zero, List.getElem_cons_succ, List.setIfInBounds_toArray, List.set_cons_zero, List.set_cons_succ]) | (refine wpS_take _ ?_ rfl (by rfl) ?_ ?_; rotate_left; (focus (intro w' hS'; (try dsimp only at hS'); (repeat (have hS1 := hS'.1; replace hS' := hS'.2)); go_simp; (try with_reducible rfl); done)); simp only [Act.put, List.getElem_toArray, List.getElem_cons_zero, List.getElem_cons_succ, List.setIfInBounds_toArray, List.set_cons_zero, List.set_cons_succ]))
          (first | (refine wpS_pass _ rfl (by rfl) ?_; simp only [Act.put, List.getElem_toArray, List.getElem_cons_zero, List.getElem_cons_succ, List.setIfInBounds_toArray, List.set_cons_zero, List.set_cons_succ]) | (refine wpS_take _ ?_ rfl (by rfl) ?_ ?_; rotate_left; (focus (intro w' hS'; (try dsimp only at hS'); (repeat (have hS1 := hS'.1; replace hS' := hS'.2)); go_simp; (try with_reducible rfl); done)); simp only [Act.put, List.getElem_toArray, List.getElem_cons_zero, List.getElem_cons_succ, List.setIfInBounds_toArray, List.set_cons_zero, List.set_cons_succ]))
          (first | (refine wpS_pass _ rfl (by rfl) ?_; simp only [Act.put, List.getElem_toArray, List.getElem_cons_zero, List.getElem_cons_succ, List.setIfInBounds_toArray, List.set_cons_zero, List.set_cons_succ]) | (refine wpS_take _ ?_ rfl (by rfl) ?_ ?_; rotate_left; (focus (intro w' hS'; (try dsimp only at hS'); (repeat (have hS1 := hS'.1; replace hS' := hS'.2)); go_simp; (try with_reducible rfl); done)); simp only [Act.put, List.getElem_toArray, List.getElem_cons_zero, List.getElem_cons_succ, List.setIfInBounds_toArray, List.set_cons_zero, List.set_cons_succ]))
          refine wpS_take _ _ rfl (by rfl) (fun w' hS' => exec_bin _ _ _ _ _ rfl _ _ _ rfl rfl rfl (hsub w')) ?_
          simp only [Act.put, List.getElem_toArray, List.getElem_cons_zero, List.getElem_cons_succ, List.setIfInBounds_toArray, List.set_cons_zero, List.set_cons_succ]
          (repeat (first | (refine wpS_pass _ rfl (by rfl) ?_; simp only [Act.put, List.getElem_toArray, List.getElem_cons_zero, List.getElem_cons_succ, List.setIfInBounds_toArray, List.set_cons_zero, List.set_cons_succ]) | (refine wpS_take _ ?_ rfl (by rfl) ?_ ?_; rotate_left; (focus (intro w' hS'; (try dsimp only at hS'); (repeat (have hS1 := hS'.1; replace hS' := hS'.2)); go_simp; (try with_reducible rfl); done)); simp only [Act.put, List.getElem_toArray, List.getElem_cons_zero, List.getElem_cons_succ, List.setIfInBounds_toArray, List.set_cons_zero, List.set_cons_succ])))
          refine wpS_done ?_
          have HVV : Hid (V a b d k = (x : Int)) := Lib.hid (by rw [← HV.out, snake_stop HSTOP.out])
          have hb8 : Below wi.heap.size wi wr.drew := HBX.out.drew
          have HT8 := Lib.hid (HT.out.below hb8)
          have MN8 := Lib.hid (MN.out.below hb8)
          have MW8 := Lib.hid (MW.out.below hb8)
          clear hb8 HSTOP HV
          generalize wr.drew = w8 at *
          have e1 : ¬ (N : Int) ≤ (x : Int) := by omega
          have HIT : Hid (hitB a b d k = false) := Lib.hid (by unfold hitB; rw [HVV.out, HN.out, HM.out, decide_eq_false e1, Bool.false_and])
          go_wp2_with (first
            | (refine wpList_upd rfl _ _ _ rfl bn n' _ rfl MN8.out (by unfold maxLen; omega) k (x : Int) rfl rfl (by unfold i64B; omega) (by unfold i64B; omega) ?_; intro w9 hm9 hg9; have HT9 := Lib.hid (HT8.out.upd HNB7.out (Nat.le_of_eq HBN.out) MN8.out hg9); have MN9 := Lib.hid (hm9.same (midF_step' a b d k x HON.out HVV.out)); have MW9 := Lib.hid (MW8.out.kept hg9 (ne_block HBW.out.2)); clear hm9 hg9))
          go_roundg (d + 1 - (j + 1))
          case measure => omega
          case rel => exact ⟨j + 1, k + 2, n' + 1, by omega, rfl, by first | rfl | exact congrArg (Value.int .i64) (by omega) | go_num, by omega, by omega, by omega, Lib.hid (by have := HK.out; omega), HT9, MN9, MW9, Lib.hid (fun k' h1 h2 => by
            by_cases e : k' = k
            · rw [e]; exact HIT.out
            · have h3 := HON.out; unfold onD at h1 h3; exact HNK.out k' h1 (by omega))⟩
      · have i1 : ¬ (x : Int) < (N : Int) := by omega
        have HSTOP : Hid (¬ GoOn a b k (x : Int)) := Lib.hid (fun g => by have h := g.1; have := HN.out; omega)
        go_wp2_with fail
        refine wp_region_sched (fun w' => Below wi.heap.size wi w') [(true, 0), (true, 1), (true, 2), (true, 3), (true, 4), (true, 5), (true, 6), (true, 7), (true, 8), (true, 9), (true, 10), (true, 11), (true, 12), (true, 13), (true, 14), (true, 15), (true, 16), (true, 17), (true, 18), (true, 19), (true, 20), (true, 21), (true, 22), (true, 23), (true, 24), (true, 25), (true, 26), (true, 27), (true, 28), (true, 29), (true, 30)] (by kernel_rfl) (by kernel_rfl) rfl (by kernel_rfl) HBX.out.drew ?_
        (repeat (first | (refine wpS_pass _ rfl (by rfl) ?_; simp only [Act.put, List.getElem_toArray, List.getElem_cons_zero, List.getElem_cons_succ, List.setIfInBounds_toArray, List.set_cons_zero, List.set_cons_succ]) | (refine wpS_take _ ?_ rfl (by rfl) ?_ ?_; rotate_left; (focus (intro w' hS'; (try dsimp only at hS'); (repeat (have hS1 := hS'.1; replace hS' := hS'.2)); go_simp; (try with_reducible rfl); done)); simp only [Act.put, List.getElem_toArray, List.getElem_cons_zero, List.getElem_cons_succ, List.setIfInBounds_toArray, List.set_cons_zero, List.set_cons_succ])))
        refine wpS_done ?_
        have HVV : Hid (V a b d k = (x : Int)) := Lib.hid (by rw [← HV.out, snake_stop HSTOP.out])
        have hb8 : Below wi.heap.size wi wr.drew := HBX.out.drew
        have HT8 := Lib.hid (HT.out.below hb8)
        have MN8 := Lib.hid (MN.out.below hb8)
        have MW8 := Lib.hid (MW.out.below hb8)
        clear hb8 HSTOP HV
        generalize wr.drew = w8 at *
        have e1 : (N : Int) ≤ (x : Int) := by omega
        by_cases e2 : (M : Int) ≤ (x : Int) - k
        · have HIT : Hid (hitB a b d k = true) := Lib.hid (by unfold hitB; rw [HVV.out, HN.out, HM.out, decide_eq_true e1, decide_eq_true e2]; rfl)
          have HDL : Hid (d = L) := Lib.hid (by
            have h0 := HIS.out
            rw [HL.out] at h0
            rcases Nat.lt_or_ge d L with h | h
            · have := h0.none h HON.out; rw [HIT.out] at this; cases this
            · omega)
          go_wp2_with (first
            | (refine wpList_upd rfl _ _ _ rfl bn n' _ rfl MN8.out (by unfold maxLen; omega) k (x : Int) rfl rfl (by unfold i64B; omega) (by unfold i64B; omega) ?_; intro w9 hm9 hg9; have HT9 := Lib.hid (HT8.out.upd HNB7.out (Nat.le_of_eq HBN.out) MN8.out hg9); have MN9 := Lib.hid (hm9.same (midF_step' a b d k x HON.out HVV.out)); have MW9 := Lib.hid (MW8.out.kept hg9 (ne_block HBW.out.2)); clear hm9 hg9))
          go_ret
          have e := HDL.out
          subst e
          exact ⟨_, _, _, rfl, HT9.out⟩
        · have HIT : Hid (hitB a b d k = false) := Lib.hid (by unfold hitB; rw [HVV.out, HN.out, HM.out, decide_eq_false e2, Bool.and_false])
          go_wp2_with (first
            | (refine wpList_upd rfl _ _ _ rfl bn n' _ rfl MN8.out (by unfold maxLen; omega) k (x : Int) rfl rfl (by unfold i64B; omega) (by unfold i64B; omega) ?_; intro w9 hm9 hg9; have HT9 := Lib.hid (HT8.out.upd HNB7.out (Nat.le_of_eq HBN.out) MN8.out hg9); have MN9 := Lib.hid (hm9.same (midF_step' a b d k x HON.out HVV.out)); have MW9 := Lib.hid (MW8.out.kept hg9 (ne_block HBW.out.2)); clear hm9 hg9))
          go_roundg (d + 1 - (j + 1))
          case measure => omega
          case rel => exact ⟨j + 1, k + 2, n' + 1, by omega, rfl, by first | rfl | exact congrArg (Value.int .i64) (by omega) | go_num, by omega, by omega, by omega, Lib.hid (by have := HK.out; omega), HT9, MN9, MW9, Lib.hid (fun k' h1 h2 => by
            by_cases e : k' = k
            · rw [e]; exact HIT.out
            · have h3 := HON.out; unfold onD at h1 h3; exact HNK.out k' h1 (by omega))⟩
    · have HEQ : Hid (∀ k', onD d k' → hitB a b d k' = false) := Lib.hid (fun k' h => HNK.out k' h (by have := h.2.1; omega))
      have HLT : Hid (d < L) := Lib.hid (by
        have h0 := HIS.out
        rw [HL.out] at h0
        rcases Nat.lt_or_ge d L with h | h
        · exact h
        · have e : d = L := by omega
          subst e
          have h1 := h0.at_
          have := HEQ.out _ h1.1
          rw [h1.2] at this
          cases this)
      have hlt := HLT.out
      go_wp2_with fail
      go_roundg (L + 1 - (d + 1))
      case measure => omega
      case rel => exact ⟨d + 1, A7, c7, n', bs ++ [bw], by omega, rfl, rfl, by first | rfl | exact congrArg (Value.int .i64) (by omega) | go_num, by omega, HT, HNB7, Lib.hid (MN.out.same (midF_end a b d k (by omega))), Lib.hid (fun e he k' h => by
        by_cases e0 : e = d
        · rw [e0] at h ⊢; exact HEQ.out k' h
        · exact HNO.out e (by omega) k' h)⟩
  · intro x cc1 w1 cnt1 hwx hwc hlx hat hrg1 hlt hg1 hs1 hen
    have hout1 := HOUT.out.kept hg1 (by simp)
    have hsz := HSZ.out
    have hcs := HCS.out
    have hbw := HBW.out.1
    have HBW2 := Lib.hid hbw
    clear hbw
    go_wp2_with (first
      | (at_mapUpdate; refine wpList_mapUpdate_own _ rfl _ _ _ 54 rfl 3 3 keyed_int Tryd.underlying54 _ bw _ _ rfl hout1 (by unfold maxLen; omega) _ _ _ rfl rfl (Maps.keyOf_int_mk Tryd.underlying3 hwx) _ [] (plainElem_int Tryd.underlying3 hwc) ?_; intro w2_ hout2 hg2; go_frame))
    have hrg2 := hrg1.kept hg2 (fun e => by have := Option.some.inj e; have := HBW.out.2; omega) (fun e => by have := Option.some.inj e; omega)
    have hb1 := bel_grown HBC.out HBC.out.size hg1 (by have := HBW2.out; omega)
    have hb2 := bel_grown hb1 hb1.size hg2 (by have := HBW2.out; omega)
    go_roundw
    case rel => exact ⟨_, cnt1, _, Lib.hid hrg2, Lib.hid (by omega), Lib.hid (hout2.mono (by omega)), Lib.hid (Maps.agree_step HAG.out HOUT.out.isMap trivial hat), Lib.hid hb2⟩
    case measure => rw [hrg2.left_eq, hrg.left_eq]; exact hlt
end Go.Proofs.YtmniggjadfdheaaDoor
