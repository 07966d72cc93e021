
/- The document's disk: Do: its loops, and where the step is wrong or the power goes. (Printed by wip/genDp7.py.) -/

import Derived.Test.YtpmifpblamjclaaDp6

import Derived.Deep.CutBlock

namespace Go.Proofs.Ytpmifpblamjclaa

set_option linter.unusedVariables false

set_option linter.unusedSimpArgs false

set_option linter.unusedSectionVars false

open Go.RowKit

theorem rwrong_any {K L : Nat} {F : Nat → Prop} (R : RA) (m : DM) (S Z : ByteArray) (Ab : Option Addr) (nb cb : Nat) (w : World) (h : RIn F w R m) (hf : Fit K L m) (hK : K ≤ 1000) (hL : L ≤ 1000000) (hnb : nb ≤ 1000000)
    (k : Nat) (hk : 1 ≤ k ∧ k ≤ 6) (e' : Int) (he : wrongM m (k : Int) S.data.toList Z.data.toList nb = e') :
    Calls Try.prog 40 #[R.val m, .agg #[.int .i64 (k : Int), .string S, .string Z, .slice Ab nb cb]] w fun e w' => e = .returned (.int .i64 e') ∧ Below w.heap.size w w' := by
  have hma : ¬ 4096 ≤ m.now.length := by have := hf.now; omega
  subst he
  unfold wrongM
  by_cases hd : m.down = true
  · rw [if_pos hd]
    obtain rfl | rfl | rfl | rfl | rfl | rfl : k = 1 ∨ k = 2 ∨ k = 3 ∨ k = 4 ∨ k = 5 ∨ k = 6 := by omega
    · exact rw1D R m S Z Ab nb cb w h hf hK hL hnb hd
    · exact rw2D R m S Z Ab nb cb w h hf hK hL hnb hd
    · exact rw3D R m S Z Ab nb cb w h hf hK hL hnb hd
    · exact rw4D R m S Z Ab nb cb w h hf hK hL hnb hd
    · exact rw5D R m S Z Ab nb cb w h hf hK hL hnb hd
    · exact rw6D R m S Z Ab nb cb w h hf hK hL hnb hd
  rw [if_neg hd]
  have hd' : m.down = false := by simpa using hd
  rw [if_neg (by omega : ¬ ((k : Int) = 1 ∧ 4096 ≤ m.now.length))]
  obtain rfl | rfl | rfl | rfl | rfl | rfl : k = 1 ∨ k = 2 ∨ k = 3 ∨ k = 4 ∨ k = 5 ∨ k = 6 := by omega
  · cases hn : namedB S.data.toList with
    | false =>
      rw [if_pos (.inl ⟨rfl, rfl⟩)]
      exact rw1N R m S Z Ab nb cb w h hf hK hL hnb hd' hn
    | true =>
      rw [if_neg (by simp)]
      cases hfi : findN m.now S.data.toList with
      | some f =>
        rw [if_pos ⟨rfl, by simp⟩]
        exact rw1T R m S Z Ab nb cb w h hf hK hL hnb hd' hn f hfi
      | none =>
        rw [if_neg (by simp), if_neg (by simp), if_neg (by simp)]
        exact rw1O R m S Z Ab nb cb w h hf hK hL hnb hd' hn hfi hma
  · rw [if_neg (by simp), if_neg (by simp)]
    cases hfi : findN m.now S.data.toList with
    | none =>
      rw [if_pos (by simp)]
      exact rw2X R m S Z Ab nb cb w h hf hK hL hnb hd' hfi
    | some f =>
      rw [if_neg (by simp)]
      by_cases hro : roomM m < nb
      · rw [if_pos ⟨rfl, hro⟩]
        exact rw2R R m S Z Ab nb cb w h hf hK hL hnb hd' f hfi hro
      · rw [if_neg (by simp [hro])]
        exact rw2O R m S Z Ab nb cb w h hf hK hL hnb hd' f hfi hro
  · rw [if_neg (by simp), if_neg (by simp)]
    cases hfi : findN m.now S.data.toList with
    | none =>
      rw [if_pos (by simp)]
      exact rw3X R m S Z Ab nb cb w h hf hK hL hnb hd' hfi
    | some f =>
      rw [if_neg (by simp), if_neg (by simp)]
      exact rw3O R m S Z Ab nb cb w h hf hK hL hnb hd' f hfi
  · cases hn : namedB Z.data.toList with
    | false =>
      rw [if_pos (.inr ⟨rfl, rfl⟩)]
      exact rw4N R m S Z Ab nb cb w h hf hK hL hnb hd' hn
    | true =>
      rw [if_neg (by simp), if_neg (by simp)]
      cases hfi : findN m.now S.data.toList with
      | none =>
        rw [if_pos (by simp)]
        exact rw4X R m S Z Ab nb cb w h hf hK hL hnb hd' hn hfi
      | some f =>
        rw [if_neg (by simp), if_neg (by simp)]
        exact rw4O R m S Z Ab nb cb w h hf hK hL hnb hd' hn f hfi
  · rw [if_neg (by simp), if_neg (by simp)]
    cases hfi : findN m.now S.data.toList with
    | none =>
      rw [if_pos (by simp)]
      exact rw5X R m S Z Ab nb cb w h hf hK hL hnb hd' hfi
    | some f =>
      rw [if_neg (by simp), if_neg (by simp)]
      exact rw5O R m S Z Ab nb cb w h hf hK hL hnb hd' f hfi
  · rw [if_neg (by simp), if_neg (by simp), if_neg (by simp), if_neg (by simp)]
    exact rw6O R m S Z Ab nb cb w h hf hK hL hnb hd'

/-- a row is written whole -/
theorem put_row {w : World} {g : Nat} {old new : List Value} {t : TypeId} (h : w.heap[g]? = some (.cells old.toArray t (0, 0))) (hl : old.length = new.length) :
    ∃ W, w.setCells g 0 new.toArray.toList = W ∧ Hid (w.there g 0 new.toArray.size) ∧ Hid (W.heap[g]? = some (.cells new.toArray t (0, 0))) ∧ Hid (w.grownBy W (some g)) := by
  have hs : new.toArray.size = old.toArray.size := by simp [hl]
  exact ⟨_, rfl, Lib.hid (by rw [hs]; exact there_of_row h), Lib.hid (row_setAll h hl), Lib.hid (setCells_grown _ _ _ _)⟩
/-- a walk stops here -/
def Stop (p : Prop) : Prop := p
theorem Stop.out {p : Prop} (h : Stop p) : p := h
theorem Stop.mk {p : Prop} (h : p) : Stop p := h
theorem row_other {w w' : World} {g k : Nat} {o : Option Obj} (h : w.heap[g]? = o) (hg : w.grownBy w' (some k)) (hne : g ≠ k) (hl : g < w.heap.size) : w'.heap[g]? = o := (hg.block g hl (by simpa using hne)).trans h
noncomputable def doBlk (n : Nat) : Code := ((Try.f25.body.bind (findBlk n)).getD .skip)

set_option maxRecDepth 1000000 in
set_option maxHeartbeats 8000000 in
theorem cp_files {u0 u1 u3 u4 u5 u6 u7 u8 u11 u12 u13 u14 u15 u16 u17 u18 u19 u20 u21 u22 u23 u24 u25 u26 u27 u28 u29 u30 u31 u32 u33 u34 u35 u36 u37 u38 u39 u40 u41 u42 u43 u44 u45 u46 u47 u48 u49 u50 u51 u52 u53 u54 u55 u56 u57 u58 u59 u60 u61 u62 u63 u64 u65 u66 u67 u68 u69 u70 u71 u72 u73 u74 u75 u76 u77 u78 u79 u80 u81 u82 u83 u84 u85 u86 u87 u88 u89 u90 u91 u92 u93 u94 u95 u96 u97 u98 u99 u100 u101 u102 u103 u104 u105 u106 u107 u108 u109 u110 u111 u112 u113 u114 u115 u116 u117 u118 u119 u120 u121 u122 u123 u124 u125 u126 u127 u128 u129 u130 u131 u132 u133 u134 u135 u136 u137 u138 u139 u140 u141 u142 u143 u144 u145 u146 u147 u148 u149 u150 u151 u152 u153 u154 u155 u156 : Value} (g b0 n c : Nat) (A : Option Addr) (cs : Array Value) (xs : List (PV × Nat)) (wr w0 : World)
    (hg : wr.heap[g]? = some (.cells cs 50 (0, 0))) (hlt : g < w0.heap.size) (hc : cs[0]? = some (.slice A n c)) (hn : xs.length = n) (hnl : n ≤ 1000)
    (hr : ∀ W, Below w0.heap.size w0 W → Rd W A (xs.flatMap fileC)) (ho : LOut 92 2 fileC w0 wr (some ⟨b0, 0, none⟩) 0 0 []) (Q : Exit → Act → World → Prop)
    (hexit : ∀ (x10 x51 x52 x53 x54 x55 x56 x57 x58 x59 x60 x61 x62 x63 x64 x65 : Value) (A1 : Option Addr) (c1 : Nat) (wx : World), LOut 92 2 fileC w0 wx A1 n c1 xs → Q .normal ⟨#[u0, u1, .pointer (some ⟨g, 0, none⟩), u3, u4, u5, u6, u7, u8, (.slice A1 n c1), x10, u11, u12, u13, u14, u15, u16, u17, u18, u19, u20, u21, u22, u23, u24, u25, u26, u27, u28, u29, u30, u31, u32, u33, u34, u35, u36, u37, u38, u39, u40, u41, u42, u43, u44, u45, u46, u47, u48, u49, u50, x51, x52, x53, x54, x55, x56, x57, x58, x59, x60, x61, x62, x63, x64, x65, u66, u67, u68, u69, u70, u71, u72, u73, u74, u75, u76, u77, u78, u79, u80, u81, u82, u83, u84, u85, u86, u87, u88, u89, u90, u91, u92, u93, u94, u95, u96, u97, u98, u99, u100, u101, u102, u103, u104, u105, u106, u107, u108, u109, u110, u111, u112, u113, u114, u115, u116, u117, u118, u119, u120, u121, u122, u123, u124, u125, u126, u127, u128, u129, u130, u131, u132, u133, u134, u135, u136, u137, u138, u139, u140, u141, u142, u143, u144, u145, u146, u147, u148, u149, u150, u151, u152, u153, u154, u155, u156], []⟩ wx) :
    Code.wp Try.prog (doBlk 1) Q ⟨#[u0, u1, .pointer (some ⟨g, 0, none⟩), u3, u4, u5, u6, u7, u8, .slice (some ⟨b0, 0, none⟩) 0 0, .int .i64 0, u11, u12, u13, u14, u15, u16, u17, u18, u19, u20, u21, u22, u23, u24, u25, u26, u27, u28, u29, u30, u31, u32, u33, u34, u35, u36, u37, u38, u39, u40, u41, u42, u43, u44, u45, u46, u47, u48, u49, u50, u51, u52, u53, u54, u55, u56, u57, u58, u59, u60, u61, u62, u63, u64, u65, u66, u67, u68, u69, u70, u71, u72, u73, u74, u75, u76, u77, u78, u79, u80, u81, u82, u83, u84, u85, u86, u87, u88, u89, u90, u91, u92, u93, u94, u95, u96, u97, u98, u99, u100, u101, u102, u103, u104, u105, u106, u107, u108, u109, u110, u111, u112, u113, u114, u115, u116, u117, u118, u119, u120, u121, u122, u123, u124, u125, u126, u127, u128, u129, u130, u131, u132, u133, u134, u135, u136, u137, u138, u139, u140, u141, u142, u143, u144, u145, u146, u147, u148, u149, u150, u151, u152, u153, u154, u155, u156], []⟩ wr := by
  have HEX := Lib.hid hexit
  clear hexit
  conv => arg 2; whnf
  have HG : Hid (∀ W, Below w0.heap.size w0 W → W.heap[g]? = some (.cells cs 50 (0, 0))) := Lib.hid (fun W hb => (hb.block g hlt).trans ((ho.bel.block g hlt).symm.trans hg))
  have HR : Hid (∀ W, Below w0.heap.size w0 W → Rd W A (xs.flatMap fileC)) := Lib.hid hr
  have HN := Lib.hid hn
  have HC := Lib.hid hc
  have HO0 := Lib.hid ho
  clear hg hr hn hc ho hlt
  go_wp2_with fail
  go_loopg [9, 10] (n * 1) (fun gk_ ov iv wr => ∃ (k : Nat) (A1 : Option Addr) (c1 : Nat), k ≤ n ∧ gk_ = n - k ∧ ov = .slice A1 k c1 ∧ iv = .int .i64 (k : Int) ∧ Hid (LOut 92 2 fileC w0 wr A1 k c1 (xs.take k)))
  case atStart => exact ⟨0, _, 0, by omega, by omega, rfl, rfl, HO0⟩
  case round =>
  clear HO0
  obtain ⟨k, A1, c1, hk, rfl, rfl, rfl, HO⟩ := hrel
  have c0 : wr.cell? ⟨g, 0, none⟩ = some (.slice A n c) := (row_cell (HG.out _ HO.out.bel) 0).trans HC.out
  by_cases hlt : k < n
  · have i1 : (k : Int) < (n : Int) := by omega
    have hkl : k < xs.length := by rw [HN.out]; exact hlt
    obtain ⟨x, hx⟩ : ∃ x, xs[k] = x := ⟨_, rfl⟩
    have HS : Hid (xs.take (k + 1) = xs.take k ++ [x]) := Lib.hid (by rw [List.take_add_one, List.getElem?_eq_getElem hkl, hx]; rfl)
    have hrr := HR.out _ HO.out.bel
    obtain ⟨b, o, hA, _⟩ := hrr.all (by rw [show (xs.flatMap fileC).length = _ from filesC_len xs]; omega)
    rw [hA] at hrr
    have hrow := rd_flat (f := fileC) (m := 2) hrr (fun _ _ => rfl) k hkl
    rw [hx] at hrow
    have HA := Lib.hid hA
    rw [hA] at c0
    obtain ⟨v, y, hv⟩ : ∃ v y, fileC x = [v, .int .i64 y] := ⟨_, _, rfl⟩
    have HV := Lib.hid hv
    have HV1 : Hid (∀ t ∈ ([v, .int .i64 y] : List Value), t.oneCell' = true) := Lib.hid (by rw [← hv]; exact fl_one x)
    rw [hv] at hrow
    have HRW := Lib.hid hrow
    obtain ⟨W6, hW6⟩ : ∃ W, wr.alloc (.cells #[v, .int .i64 y] 92) = W := ⟨_, rfl⟩
    obtain ⟨r6, b6, s6⟩ := new_row hW6
    have HO6 := Lib.hid (HO.out.below b6)
    have HR6 : Hid (Rd W6 (some ⟨wr.heap.size, 0, none⟩) [v, .int .i64 y]) := Lib.hid (range_rd (range_of_row (cs := [v, .int .i64 y]) r6))
    clear r6 b6 s6 HO hkl hx hv hrow hA hrr
    go_wp2_with (first
      | ((with_reducible (refine wpList_load_cells 92 _ b (o + k * 2) ([v, .int .i64 y]) HRW.out Try.underlying92 rfl info_fl2 ?_ rfl ?_ ?_)); (exact rfl); (exact rfl))
      | (at_builtin; refine wpList_append_rd _ rfl _ _ 46 rfl w0.heap.size 92 _ 2 32 Try.underlying46 info_flz rfl (by decide) (.slice A1 k c1) k _ rfl HO6.out.own _ 1 _ ([v, .int .i64 y]) rfl (rfl) HR6.out (HV1.out) (by unfold maxLen; omega) (by omega) HO6.out.bel.size ?_; intro v7 w7 ho7 hg7 hvb7; obtain ⟨A7, c7, e7, _⟩ := own_slice ho7; subst e7; have HO7 := Lib.hid (HO6.out.grow (x := x) (by rw [HV.out]; exact ho7) hg7); clear ho7 hg7 hvb7))
    try rw [← HA.out]
    clear hW6
    go_roundg (n - (k + 1))
    case measure => omega
    case rel => exact ⟨k + 1, A7, c7, by omega, rfl, rfl, by first | rfl | exact congrArg (Value.int .i64) (by omega) | go_num, Lib.hid (by rw [HS.out]; exact HO7.out)⟩
  · obtain rfl : k = n := by omega
    have HF : Hid (xs.take k = xs) := Lib.hid (List.take_of_length_le (by rw [HN.out]; exact Nat.le_refl _))
    rw [HF.out] at HO
    go_wp2_with fail
    exact HEX.out _ _ _ _ _ _ _ _ _ _ _ _ _ _ _ _ _ _ _ HO.out

set_option maxRecDepth 1000000 in
set_option maxHeartbeats 8000000 in
theorem cp_turns {u0 u1 u3 u4 u5 u6 u7 u8 u9 u10 u11 u12 u15 u16 u17 u18 u19 u20 u21 u22 u23 u24 u25 u26 u27 u28 u29 u30 u31 u32 u33 u34 u35 u36 u37 u38 u39 u40 u41 u42 u43 u44 u45 u46 u47 u48 u49 u50 u51 u52 u53 u54 u55 u56 u57 u58 u59 u60 u61 u62 u63 u64 u65 u66 u67 u68 u69 u70 u71 u72 u73 u74 u75 u76 u77 u78 u79 u80 u81 u82 u83 u84 u85 u86 u87 u88 u89 u90 u91 u92 u93 u94 u95 u96 u97 u98 u99 u100 u101 u102 u103 u104 u105 u106 u107 u108 u109 u110 u111 u112 u113 u114 u115 u116 u117 u118 u119 u120 u121 u122 u123 u124 u125 u126 u127 u128 u129 u130 u131 u132 u133 u134 u135 u136 u137 u138 u139 u140 u141 u142 u143 u144 u145 u146 u147 u148 u149 u150 u151 u152 u153 u154 u155 u156 : Value} (g b0 n c : Nat) (A : Option Addr) (cs : Array Value) (xs : List TM) (wr w0 : World)
    (hg : wr.heap[g]? = some (.cells cs 50 (0, 0))) (hlt : g < w0.heap.size) (hc : cs[3]? = some (.slice A n c)) (hn : xs.length = n) (hnl : n ≤ 1000)
    (hr : ∀ W, Below w0.heap.size w0 W → Rd W A (xs.flatMap turnR)) (ho : LOut 90 3 turnR w0 wr (some ⟨b0, 0, none⟩) 0 0 []) (Q : Exit → Act → World → Prop)
    (hexit : ∀ (x14 x131 x132 x133 x134 x135 x136 x137 x138 x139 x140 x141 x142 x143 x144 x145 : Value) (A1 : Option Addr) (c1 : Nat) (wx : World), LOut 90 3 turnR w0 wx A1 n c1 xs → Q .normal ⟨#[u0, u1, .pointer (some ⟨g, 0, none⟩), u3, u4, u5, u6, u7, u8, u9, u10, u11, u12, (.slice A1 n c1), x14, u15, u16, u17, u18, u19, u20, u21, u22, u23, u24, u25, u26, u27, u28, u29, u30, u31, u32, u33, u34, u35, u36, u37, u38, u39, u40, u41, u42, u43, u44, u45, u46, u47, u48, u49, u50, u51, u52, u53, u54, u55, u56, u57, u58, u59, u60, u61, u62, u63, u64, u65, u66, u67, u68, u69, u70, u71, u72, u73, u74, u75, u76, u77, u78, u79, u80, u81, u82, u83, u84, u85, u86, u87, u88, u89, u90, u91, u92, u93, u94, u95, u96, u97, u98, u99, u100, u101, u102, u103, u104, u105, u106, u107, u108, u109, u110, u111, u112, u113, u114, u115, u116, u117, u118, u119, u120, u121, u122, u123, u124, u125, u126, u127, u128, u129, u130, x131, x132, x133, x134, x135, x136, x137, x138, x139, x140, x141, x142, x143, x144, x145, u146, u147, u148, u149, u150, u151, u152, u153, u154, u155, u156], []⟩ wx) :
    Code.wp Try.prog (doBlk 3) Q ⟨#[u0, u1, .pointer (some ⟨g, 0, none⟩), u3, u4, u5, u6, u7, u8, u9, u10, u11, u12, .slice (some ⟨b0, 0, none⟩) 0 0, .int .i64 0, u15, u16, u17, u18, u19, u20, u21, u22, u23, u24, u25, u26, u27, u28, u29, u30, u31, u32, u33, u34, u35, u36, u37, u38, u39, u40, u41, u42, u43, u44, u45, u46, u47, u48, u49, u50, u51, u52, u53, u54, u55, u56, u57, u58, u59, u60, u61, u62, u63, u64, u65, u66, u67, u68, u69, u70, u71, u72, u73, u74, u75, u76, u77, u78, u79, u80, u81, u82, u83, u84, u85, u86, u87, u88, u89, u90, u91, u92, u93, u94, u95, u96, u97, u98, u99, u100, u101, u102, u103, u104, u105, u106, u107, u108, u109, u110, u111, u112, u113, u114, u115, u116, u117, u118, u119, u120, u121, u122, u123, u124, u125, u126, u127, u128, u129, u130, u131, u132, u133, u134, u135, u136, u137, u138, u139, u140, u141, u142, u143, u144, u145, u146, u147, u148, u149, u150, u151, u152, u153, u154, u155, u156], []⟩ wr := by
  have HEX := Lib.hid hexit
  clear hexit
  conv => arg 2; whnf
  have HG : Hid (∀ W, Below w0.heap.size w0 W → W.heap[g]? = some (.cells cs 50 (0, 0))) := Lib.hid (fun W hb => (hb.block g hlt).trans ((ho.bel.block g hlt).symm.trans hg))
  have HR : Hid (∀ W, Below w0.heap.size w0 W → Rd W A (xs.flatMap turnR)) := Lib.hid hr
  have HN := Lib.hid hn
  have HC := Lib.hid hc
  have HO0 := Lib.hid ho
  clear hg hr hn hc ho hlt
  go_wp2_with fail
  go_loopg [13, 14] (n * 1) (fun gk_ ov iv wr => ∃ (k : Nat) (A1 : Option Addr) (c1 : Nat), k ≤ n ∧ gk_ = n - k ∧ ov = .slice A1 k c1 ∧ iv = .int .i64 (k : Int) ∧ Hid (LOut 90 3 turnR w0 wr A1 k c1 (xs.take k)))
  case atStart => exact ⟨0, _, 0, by omega, by omega, rfl, rfl, HO0⟩
  case round =>
  clear HO0
  obtain ⟨k, A1, c1, hk, rfl, rfl, rfl, HO⟩ := hrel
  have c0 : wr.cell? ⟨g, 3, none⟩ = some (.slice A n c) := (row_cell (HG.out _ HO.out.bel) 3).trans HC.out
  by_cases hlt : k < n
  · have i1 : (k : Int) < (n : Int) := by omega
    have hkl : k < xs.length := by rw [HN.out]; exact hlt
    obtain ⟨x, hx⟩ : ∃ x, xs[k] = x := ⟨_, rfl⟩
    have HS : Hid (xs.take (k + 1) = xs.take k ++ [x]) := Lib.hid (by rw [List.take_add_one, List.getElem?_eq_getElem hkl, hx]; rfl)
    have hrr := HR.out _ HO.out.bel
    obtain ⟨b, o, hA, _⟩ := hrr.all (by rw [show (xs.flatMap turnR).length = _ from turnsR_len xs]; omega)
    rw [hA] at hrr
    have hrow := rd_flat (f := turnR) (m := 3) hrr (fun _ _ => rfl) k hkl
    rw [hx] at hrow
    have HA := Lib.hid hA
    rw [hA] at c0
    obtain ⟨v, u, y, hv⟩ : ∃ v u y, turnR x = [v, u, .int .i64 y] := ⟨_, _, _, rfl⟩
    have HV := Lib.hid hv
    have HV1 : Hid (∀ t ∈ ([v, u, .int .i64 y] : List Value), t.oneCell' = true) := Lib.hid (by rw [← hv]; exact tn_one x)
    rw [hv] at hrow
    have HRW := Lib.hid hrow
    obtain ⟨W6, hW6⟩ : ∃ W, wr.alloc (.cells #[v, u, .int .i64 y] 90) = W := ⟨_, rfl⟩
    obtain ⟨r6, b6, s6⟩ := new_row hW6
    have HO6 := Lib.hid (HO.out.below b6)
    have HR6 : Hid (Rd W6 (some ⟨wr.heap.size, 0, none⟩) [v, u, .int .i64 y]) := Lib.hid (range_rd (range_of_row (cs := [v, u, .int .i64 y]) r6))
    clear r6 b6 s6 HO hkl hx hv hrow hA hrr
    go_wp2_with (first
      | ((with_reducible (refine wpList_load_cells 90 _ b (o + k * 3) ([v, u, .int .i64 y]) HRW.out Try.underlying90 rfl info_tn3 ?_ rfl ?_ ?_)); (exact rfl); (exact rfl))
      | (at_builtin; refine wpList_append_rd _ rfl _ _ 48 rfl w0.heap.size 90 _ 3 40 Try.underlying48 info_tnz rfl (by decide) (.slice A1 k c1) k _ rfl HO6.out.own _ 1 _ ([v, u, .int .i64 y]) rfl (rfl) HR6.out (HV1.out) (by unfold maxLen; omega) (by omega) HO6.out.bel.size ?_; intro v7 w7 ho7 hg7 hvb7; obtain ⟨A7, c7, e7, _⟩ := own_slice ho7; subst e7; have HO7 := Lib.hid (HO6.out.grow (x := x) (by rw [HV.out]; exact ho7) hg7); clear ho7 hg7 hvb7))
    try rw [← HA.out]
    clear hW6
    go_roundg (n - (k + 1))
    case measure => omega
    case rel => exact ⟨k + 1, A7, c7, by omega, rfl, rfl, by first | rfl | exact congrArg (Value.int .i64) (by omega) | go_num, Lib.hid (by rw [HS.out]; exact HO7.out)⟩
  · obtain rfl : k = n := by omega
    have HF : Hid (xs.take k = xs) := Lib.hid (List.take_of_length_le (by rw [HN.out]; exact Nat.le_refl _))
    rw [HF.out] at HO
    go_wp2_with fail
    exact HEX.out _ _ _ _ _ _ _ _ _ _ _ _ _ _ _ _ _ _ _ HO.out
end Go.Proofs.Ytpmifpblamjclaa
