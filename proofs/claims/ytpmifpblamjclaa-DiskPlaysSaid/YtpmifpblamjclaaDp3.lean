
/- The document's disk: do, with. -/

import Derived.Test.YtpmifpblamjclaaDp2

namespace Go.Proofs.Ytpmifpblamjclaa

set_option linter.unusedVariables false

set_option linter.unusedSimpArgs false

set_option linter.unusedSectionVars false

open Go.RowKit

theorem less_before : ∀ (a b : List UInt8), Op.bytesLess a b = bytesBefore a b
  | [], [] => rfl
  | [], _ :: _ => rfl
  | _ :: _, [] => rfl
  | a :: x, b :: y => by simp only [Op.bytesLess, bytesBefore, less_before x y]
theorem before_not {a b : List UInt8} (h : bytesBefore a b = true) : bytesBefore b a = false := by
  cases hb : bytesBefore b a with
  | false => rfl
  | true => rw [WideShapes.bytes_trans _ _ _ h hb |>.symm.trans (WideAt.bytes_irrefl a)]

/-- names but for two -/
def delT (ns : NM) (fr to_ : List UInt8) : NM := delN (delN ns fr) to_
/-- names behind a turn, as the document says it -/
def doD (ns : NM) (fr to_ : List UInt8) (f : Nat) : NM := if to_ = [] then delT ns fr to_ else insN (to_, f) (delT ns fr to_)
theorem delT_succ {ns : NM} {fr to_ : List UInt8} {k : Nat} {p : List UInt8 × Nat} (hp : ns[k]? = some p) (h1 : p.1 ≠ fr) (h2 : p.1 ≠ to_) : delT (ns.take (k + 1)) fr to_ = delT (ns.take k) fr to_ ++ [p] := by
  unfold delT delN
  rw [List.take_add_one, hp]
  simp [h1, h2]
theorem delT_skip {ns : NM} {fr to_ : List UInt8} {k : Nat} {p : List UInt8 × Nat} (hp : ns[k]? = some p) (h : p.1 = fr ∨ p.1 = to_) : delT (ns.take (k + 1)) fr to_ = delT (ns.take k) fr to_ := by
  unfold delT delN
  rw [List.take_add_one, hp]
  rcases h with h | h
  · simp [h]
  · by_cases h' : to_ = fr
    · simp [h, h']
    · simp [h, h']
theorem delT_mem {ns : NM} {fr to_ : List UInt8} {p : List UInt8 × Nat} (h : p ∈ delT ns fr to_) : p.1 ≠ to_ := (delN_mem.1 h).2
theorem delT_len (ns : NM) (fr to_ : List UInt8) : (delT ns fr to_).length ≤ ns.length := Nat.le_trans (delN_length _ _) (delN_length _ _)
theorem delN_none {ns : NM} {s : List UInt8} (h : ∀ p ∈ ns, p.1 ≠ s) : delN ns s = ns := by
  unfold delN
  rw [List.filter_eq_self]
  intro p hp
  simp [h p hp]
theorem doD_do {ns : NM} (h : ∀ p ∈ ns, p.1 ≠ []) (t : TM) : doD ns t.fr t.to_ t.f = doN ns t := by
  have h1 : (if t.fr = [] then ns else delN ns t.fr) = delN ns t.fr := by
    split
    · rename_i e; rw [e, delN_none h]
    · rfl
  unfold doD doN delT
  dsimp only
  rw [h1]
  split
  · rename_i e
    rw [e, delN_none (fun p hp => h p (delN_mem.1 hp).1)]
  · rfl
theorem doN_ne {ns : NM} (h : ∀ p ∈ ns, p.1 ≠ []) (t : TM) : ∀ p ∈ doN ns t, p.1 ≠ [] := by
  rw [← doD_do h]
  unfold doD delT
  split
  · exact fun p hp => h p (delN_mem.1 (delN_mem.1 hp).1).1
  · rename_i e
    intro p hp
    rcases insN_mem.1 hp with rfl | hp
    · exact e
    · exact h p (delN_mem.1 (delN_mem.1 hp).1).1

theorem nm_cells1 (ns : NM) : ∀ u ∈ namesR ns, u.oneCell' = true := flat_one ns (fun e _ v hv => by
  simp only [nmC, List.mem_cons, List.not_mem_nil, or_false] at hv
  rcases hv with rfl | rfl <;> rfl)
theorem info_nm2 {a b : Value} : (Try.prog.info? 98).map (·.size) = some ([a, b] : List Value).length := by kernel_rfl
theorem info_nmz : (Try.prog.info? 98).map (fun i => (i.zero, i.size, i.bytes)) = some (some (.agg #[.string ⟨#[]⟩, .int .i64 0]), 2, 24) := by kernel_rfl
theorem info_nm1 : (Try.prog.info? 98).map (fun i => (i.size, i.zero.isSome)) = some (2, true) := by kernel_rfl
theorem two_one {X : ByteArray} {z : Int} : ∀ u ∈ ([.string X, .int .i64 z] : List Value), u.oneCell' = true := by
  intro u hu
  simp only [List.mem_cons, List.not_mem_nil, or_false] at hu
  rcases hu with rfl | rfl <;> rfl
/-- an empty row of the call's own -/
theorem own_start {w0 w : World} (e : TypeId) (size : Nat) (hb : w0.heap.size ≤ w.heap.size) : (w.alloc (.cells #[] e)).ownsRow w0.heap.size e size (.slice (some ⟨w.heap.size, 0, none⟩) 0 0) 0 [] := by
  have := own_new w w0.heap.size e size 0 [] hb (by simp) (by unfold maxLen; omega)
  exact this

/-- what a list of names that was made is -/
structure NmOut (w0 w : World) (A : Option Addr) (n c : Nat) (ns : NM) : Prop where
  len : n = ns.length
  own : w.ownsRow w0.heap.size 98 2 (.slice A n c) n (namesR ns)
  bel : Below w0.heap.size w0 w
theorem NmOut.grow {w0 w w' : World} {A A' : Option Addr} {n c c' : Nat} {ns : NM} {p : List UInt8 × Nat} (h : NmOut w0 w A n c ns) (ho : w'.ownsRow w0.heap.size 98 2 (.slice A' (n + 1) c') (n + 1) (namesR ns ++ nmC p)) (hg : w.grownBy w' (Value.slice A n c).ownBlock) : NmOut w0 w' A' (n + 1) c' (ns ++ [p]) := by
  refine ⟨by rw [List.length_append, ← h.len]; rfl, ?_, ?_⟩
  · rw [namesR_app, show namesR [p] = nmC p from by simp [namesR]]
    exact ho
  · exact below_grown_own h.bel h.own hg h.bel.size
theorem NmOut.below {w0 w w' : World} {A : Option Addr} {n c : Nat} {ns : NM} (h : NmOut w0 w A n c ns) (hb : Below w.heap.size w w') : NmOut w0 w' A n c ns := ⟨h.len, own_below h.own hb, ext_trans h.bel hb⟩
theorem NmOut.rd {w0 w : World} {A : Option Addr} {n c : Nat} {ns : NM} (h : NmOut w0 w A n c ns) : Rd w A (namesR ns) := own_rd h.own

theorem NmOut.mono {w0 w1 w : World} {A : Option Addr} {n c : Nat} {ns : NM} (h : NmOut w1 w A n c ns) (hb : Below w0.heap.size w0 w1) : NmOut w0 w A n c ns := ⟨h.len, own_mono h.own hb.size, hb.trans (h.bel.mono hb.size)⟩

set_option maxRecDepth 100000 in
set_option maxHeartbeats 8000000 in
theorem rdo_any (A : Option Addr) (ns : NM) (n c : Nat) (hn : ns.length = n) (hnl : n ≤ 1000) (S T : ByteArray) (f : Nat) (w : World) (hr : Rd w A (namesR ns)) :
    Calls Try.prog 44 #[.slice A n c, .agg #[.string S, .string T, .int .i64 (f : Int)]] w fun e w' => ∃ A' n' c', e = .returned (.slice A' n' c') ∧ NmOut w w' A' n' c' (doD ns S.data.toList T.data.toList f) := by
  have HN := Lib.hid hn
  obtain ⟨W1, hW1⟩ : ∃ W, w.alloc (.cells #[.string S, .string T, .int .i64 (f : Int)] 90) = W := ⟨_, rfl⟩
  obtain ⟨r1, b1, s1⟩ := new_row hW1
  obtain ⟨W2, hW2⟩ : ∃ W, W1.alloc (.cells #[] 98) = W := ⟨_, rfl⟩
  obtain ⟨r2, b2, s2⟩ := new_row hW2
  have HR := Lib.hid (hr.below b1)
  have HB1 := Lib.hid b1
  have HO : Hid (NmOut W1 W2 (some ⟨W1.heap.size, 0, none⟩) 0 0 []) := Lib.hid ⟨rfl, by rw [← hW2]; exact own_start _ _ (Nat.le_refl _), b2⟩
  obtain ⟨g, hg⟩ : ∃ g, w.heap.size = g := ⟨_, rfl⟩
  rw [hg] at r1
  -- the turn's row stays
  have HT : Hid (∀ W, Below W1.heap.size W1 W → W.heap[g]? = some (.cells #[.string S, .string T, .int .i64 (f : Int)] 90 (0, 0))) := Lib.hid (fun W hb => (hb.block _ (by omega)).trans r1)
  obtain ⟨fr, hfr⟩ : ∃ fr, S.data.toList = fr := ⟨_, rfl⟩
  obtain ⟨to_, hto⟩ : ∃ fr, T.data.toList = fr := ⟨_, rfl⟩
  have HFR := Lib.hid hfr
  have HTO := Lib.hid hto
  rw [hfr, hto]
  obtain ⟨q, hq⟩ : ∃ q, doD ns fr to_ f = q := ⟨_, rfl⟩
  have HQ0 := Lib.hid hq
  rw [hq]
  clear hq hn hr r1 b1 s1 r2 b2 s2 hfr hto
  go_enter Try.func44, Try.ntmps44
  go_wp2_with fail
  try rw [hg]
  clear hg hW1 hW2
  go_loopg [5, 6] (n * 1) (fun gk_ ov iv wr => ∃ (k : Nat) (A1 : Option Addr) (n1 c1 : Nat), k ≤ n ∧ n1 ≤ k ∧ gk_ = n - k ∧ ov = .slice A1 n1 c1 ∧ iv = .int .i64 (k : Int) ∧ Hid (NmOut W1 wr A1 n1 c1 (delT (ns.take k) fr to_)))
  case atStart => exact ⟨0, _, 0, 0, by omega, by omega, by omega, rfl, rfl, HO⟩
  case round =>
  clear HO
  obtain ⟨k, A1, n1, c1, hk, hn1, rfl, rfl, rfl, HO⟩ := hrel
  have hT := HT.out _ HO.out.bel
  have t0 : wr.cell? ⟨g, 0, none⟩ = some (.string S) := row_cell hT 0
  have t1 : wr.cell? ⟨g, 1, none⟩ = some (.string T) := row_cell hT 1
  have t2 : wr.cell? ⟨g, 2, none⟩ = some (.int .i64 (f : Int)) := row_cell hT 2
  clear hT
  by_cases hlt : k < n
  · have i1 : (k : Int) < (n : Int) := by omega
    have hkl : k < ns.length := by rw [HN.out]; exact hlt
    obtain ⟨⟨s, z⟩, hp⟩ : ∃ p, ns[k]? = some p := ⟨_, List.getElem?_eq_getElem hkl⟩
    obtain ⟨b, o, hA, hrow⟩ := nm_cell (HR.out.below HO.out.bel) hp
    obtain ⟨X, hX, hXs⟩ : ∃ X : ByteArray, strV s = .string X ∧ X.data.toList = s := ⟨_, rfl, rfl⟩
    have a0 : wr.cell? ⟨b, o + k * 2, none⟩ = some (.string X) := by rw [← hX]; exact hrow 0 _ rfl
    have HRW : Hid (wr.rangeAt b (o + k * 2) [.string X, .int .i64 (z : Int)]) := Lib.hid (by rw [← hX]; exact hrow)
    have HNC : Hid (nmC (s, z) = [.string X, .int .i64 (z : Int)]) := Lib.hid (by unfold nmC; rw [hX])
    have HP := Lib.hid hp
    have HXS := Lib.hid hXs
    have HA := Lib.hid hA
    rw [hA]
    clear hp hrow hX hXs hA hkl
    by_cases he1 : X = S
    · have hc1 : (X.toList == S.toList) = true := by rw [names_eq, decide_eq_true he1]
      have hd1 : (X.toList != S.toList) = false := by rw [bne, hc1]; rfl
      have HS : Hid (delT (ns.take (k + 1)) fr to_ = delT (ns.take k) fr to_) := Lib.hid (delT_skip HP.out (.inl (by rw [← HFR.out, ← he1, HXS.out])))
      clear he1
      go_wp2_with fail
      go_quiet (fail)
      go_wp2_with fail
      rw [← HA.out]
      go_roundg (n - (k + 1))
      case measure => omega
      case rel => exact ⟨k + 1, A1, n1, c1, by omega, by omega, rfl, rfl, by first | rfl | exact congrArg (Value.int .i64) (by omega) | go_num, Lib.hid (by rw [HS.out]; exact HO.out.below (below_drewN (Below.refl _ _) _))⟩
    · have hc1 : (X.toList == S.toList) = false := by rw [names_eq, decide_eq_false he1]
      have hd1 : (X.toList != S.toList) = true := by rw [bne, hc1]; rfl
      by_cases he2 : X = T
      · have hc2 : (X.toList == T.toList) = true := by rw [names_eq, decide_eq_true he2]
        have hd2 : (X.toList != T.toList) = false := by rw [bne, hc2]; rfl
        have HS : Hid (delT (ns.take (k + 1)) fr to_ = delT (ns.take k) fr to_) := Lib.hid (delT_skip HP.out (.inr (by rw [← HTO.out, ← he2, HXS.out])))
        clear he1 he2
        go_wp2_with fail
        go_quiet (fail)
        go_wp2_with fail
        rw [← HA.out]
        go_roundg (n - (k + 1))
        case measure => omega
        case rel => exact ⟨k + 1, A1, n1, c1, by omega, by omega, rfl, rfl, by first | rfl | exact congrArg (Value.int .i64) (by omega) | go_num, Lib.hid (by rw [HS.out]; exact HO.out.below (below_drewN (Below.refl _ _) _))⟩
      · have hc2 : (X.toList == T.toList) = false := by rw [names_eq, decide_eq_false he2]
        have hd2 : (X.toList != T.toList) = true := by rw [bne, hc2]; rfl
        have HS : Hid (delT (ns.take (k + 1)) fr to_ = delT (ns.take k) fr to_ ++ [(s, z)]) := Lib.hid (delT_succ HP.out (fun e => he1 (ba_ext (by rw [HXS.out, HFR.out]; exact e))) (fun e => he2 (ba_ext (by rw [HXS.out, HTO.out]; exact e))))
        clear he1 he2
        go_wp2_with fail
        go_quiet (fail)
        have HO5 := Lib.hid (HO.out.below (below_drewN (Below.refl _ _) nq))
        have HRW5 : Hid ((wr.drewN nq).rangeAt b (o + k * 2) [.string X, .int .i64 (z : Int)]) := Lib.hid HRW.out
        generalize wr.drewN nq = w5 at *
        obtain ⟨W6, hW6⟩ : ∃ W, w5.alloc (.cells #[.string X, .int .i64 (z : Int)] 98) = W := ⟨_, rfl⟩
        obtain ⟨r6, b6, s6⟩ := new_row hW6
        have HO6 := Lib.hid (HO5.out.below b6)
        have HR6 : Hid (Rd W6 (some ⟨w5.heap.size, 0, none⟩) [.string X, .int .i64 (z : Int)]) := Lib.hid (range_rd (range_of_row (cs := [.string X, .int .i64 (z : Int)]) r6))
        clear r6 b6 s6 HO HO5
        go_wp2_with (first
          | ((with_reducible (refine wpList_load_cells 98 _ b (o + k * 2) ([.string X, .int .i64 (z : Int)]) HRW5.out Try.underlying98 rfl info_nm2 ?_ rfl ?_ ?_)); (exact rfl); (exact rfl))
          | (at_builtin; refine wpList_append_rd _ rfl _ _ 47 rfl W1.heap.size 98 _ 2 24 Try.underlying47 info_nmz rfl (by decide) (.slice A1 n1 c1) n1 _ rfl HO6.out.own _ 1 _ ([.string X, .int .i64 (z : Int)]) rfl (rfl) HR6.out (two_one) (by unfold maxLen; omega) (by omega) HO6.out.bel.size ?_; intro v7 w7 ho7 hg7 hvb7; obtain ⟨A7, c7, e7, _⟩ := own_slice ho7; subst e7; have HO7 := Lib.hid (HO6.out.grow (p := (s, z)) (by rw [HNC.out]; exact ho7) hg7); clear ho7 hg7 hvb7))
        rw [← HA.out]
        clear hW6
        go_roundg (n - (k + 1))
        case measure => omega
        case rel => exact ⟨k + 1, A7, n1 + 1, c7, by omega, by omega, rfl, rfl, by first | rfl | exact congrArg (Value.int .i64) (by omega) | go_num, Lib.hid (by rw [HS.out]; exact HO7.out)⟩
  · obtain rfl : k = n := by omega
    obtain ⟨rest, hrest⟩ : ∃ r, delT ns fr to_ = r := ⟨_, rfl⟩
    have HO1 : Hid (NmOut W1 wr A1 n1 c1 rest) := Lib.hid (by have h := HO.out; rw [List.take_of_length_le (by rw [HN.out]; exact Nat.le_refl _), hrest] at h; exact h)
    have HQ : Hid (q = if to_ = [] then rest else insN (to_, f) rest) := Lib.hid (by rw [← HQ0.out]; unfold doD; rw [hrest])
    have HNT : Hid (∀ p ∈ rest, p.1 ≠ to_) := Lib.hid (fun p hp => delT_mem (by rw [hrest]; exact hp))
    clear hrest HO hlt HT
    by_cases hT : T = ⟨#[]⟩
    · have hc1 : T.toList.isEmpty = true := by rw [ByteArray.toList_eq, hT]; rfl
      have HF : Hid (q = rest) := Lib.hid (by rw [HQ.out, if_pos (by rw [← HTO.out, hT])])
      clear hT
      go_wp2_with fail
      go_ret
      refine ⟨A1, n1, c1, rfl, ?_⟩
      rw [HF.out]
      exact HO1.out.mono HB1.out
    have hc1 : T.toList.isEmpty = false := by
      rw [ByteArray.toList_eq, HTO.out, List.isEmpty_eq_false_iff]
      exact fun e => hT (ba_ext (by rw [HTO.out, e]))
    have HF : Hid (q = insN (to_, f) rest) := Lib.hid (by rw [HQ.out, if_neg (fun e => hT (ba_ext (by rw [HTO.out, e])))])
    clear hT
    obtain ⟨w2, hw2⟩ : ∃ x, x = wr := ⟨_, rfl⟩
    subst hw2
    obtain ⟨W3, hW3⟩ : ∃ W, w2.alloc (.cells #[] 98) = W := ⟨_, rfl⟩
    obtain ⟨r3, b3, s3⟩ := new_row hW3
    have HO3 : Hid (NmOut w2 W3 (some ⟨w2.heap.size, 0, none⟩) 0 0 []) := Lib.hid ⟨rfl, by rw [← hW3]; exact own_start _ _ (Nat.le_refl _), b3⟩
    have HRR := Lib.hid HO1.out.rd
    have HN1 := Lib.hid HO1.out.len
    have HB2 := Lib.hid HO1.out.bel
    have HRT : Hid (∀ W, Below w2.heap.size w2 W → W.cell? ⟨g, 1, none⟩ = some (.string T) ∧ W.cell? ⟨g, 2, none⟩ = some (.int .i64 (f : Int))) := Lib.hid (fun W hb => by
      have hlt := World.block_lt_of_cell? w2 _ t1
      exact ⟨cell_below t1 hlt hb, cell_below t2 hlt hb⟩)
    clear r3 b3 s3 HO1 hk
    go_wp2_with fail
    clear hW3 t0 t1 t2
    go_loopg [7, 8, 9] (n1 * 1) (fun gk_ ov dv iv wr => ∃ (k : Nat) (dn : Bool) (A2 : Option Addr) (n2 c2 : Nat) (out : NM), k ≤ n1 ∧ n2 ≤ 2 * k ∧ gk_ = n1 - k ∧ ov = .slice A2 n2 c2 ∧ dv = .bool dn ∧ iv = .int .i64 (k : Int) ∧ Hid (NmOut w2 wr A2 n2 c2 out) ∧ Hid (out ++ (if dn = true then rest.drop k else insN (to_, f) (rest.drop k)) = insN (to_, f) rest))
    case atStart => exact ⟨0, false, _, 0, 0, [], by omega, by omega, by omega, rfl, rfl, rfl, HO3, Lib.hid rfl⟩
    case round =>
    clear HO3
    obtain ⟨k, dn, A2, n2, c2, out, hk, hn2, rfl, rfl, rfl, rfl, HO, HE⟩ := hrel
    obtain ⟨t1, t2⟩ := HRT.out _ HO.out.bel
    by_cases hlt : k < n1
    · have i1 : (k : Int) < (n1 : Int) := by omega
      have hkl : k < rest.length := by rw [← HN1.out]; exact hlt
      obtain ⟨⟨s, z⟩, hp⟩ : ∃ p, rest[k]? = some p := ⟨_, List.getElem?_eq_getElem hkl⟩
      obtain ⟨b, o, hA, hrow⟩ := nm_cell HRR.out hp
      have hne : s ≠ to_ := HNT.out _ (List.mem_of_getElem? hp)
      have hdr : rest.drop k = (s, z) :: rest.drop (k + 1) := by
        rw [List.drop_eq_getElem_cons hkl]
        rw [(List.getElem?_eq_some_iff.1 hp).2]
      have HDR := Lib.hid hdr
      obtain ⟨X, hX, hXs⟩ : ∃ X : ByteArray, strV s = .string X ∧ X.data.toList = s := ⟨_, rfl, rfl⟩
      have HRX : Hid (∀ W, Below w2.heap.size w2 W → W.rangeAt b (o + k * 2) [.string X, .int .i64 (z : Int)]) := Lib.hid (fun W hb => range_below (by rw [← hX]; exact hrow) (World.block_lt_of_cell? w2 _ (hrow 0 _ rfl)) hb)
      have a0 : wr.cell? ⟨b, o + k * 2, none⟩ = some (.string X) := HRX.out _ HO.out.bel 0 _ rfl
      have HNC : Hid (nmC (s, z) = [.string X, .int .i64 (z : Int)]) := Lib.hid (by unfold nmC; rw [hX])
      have HNC2 : Hid (nmC (to_, f) = [.string T, .int .i64 (f : Int)]) := Lib.hid (by
        unfold nmC strV
        rw [show (⟨to_.toArray⟩ : ByteArray) = T from ba_ext (by rw [HTO.out])])
      have hXT : X ≠ T := fun e => hne (by rw [← hXs, e, HTO.out])
      obtain ⟨bf, hbf⟩ : ∃ bf, bytesBefore to_ s = bf := ⟨_, rfl⟩
      have hc2 : (X.toList == T.toList) = false := by rw [names_eq, decide_eq_false hXT]
      have hl2 : Op.bytesLess X.toList T.toList = !bf := by
        rw [less_before, ByteArray.toList_eq, ByteArray.toList_eq, hXs, HTO.out, ← hbf]
        rcases WideAt.bytes_total s to_ hne with h | h
        · rw [h, before_not h]; rfl
        · rw [h, before_not h]; rfl
      have HBF := Lib.hid hbf
      have HA := Lib.hid hA
      rw [hA]
      clear hp hrow hX hXs hA hkl hne hdr hXT hbf
      cases dn
      · cases bf
        · replace hl2 : Op.bytesLess X.toList T.toList = true := hl2
          have HS : Hid ((out ++ [(s, z)]) ++ (if false = true then rest.drop (k + 1) else insN (to_, f) (rest.drop (k + 1))) = insN (to_, f) rest) := Lib.hid (by
            rw [← HE.out, HDR.out, if_neg (by decide), if_neg (by decide)]
            simp [insN, HBF.out])
          go_wp2_with fail
          go_quiet (fail)
          have HO5 := Lib.hid (HO.out.below (below_drewN (Below.refl _ _) nq))
          have HRW5 := Lib.hid (HRX.out _ HO5.out.bel)
          obtain ⟨t1, t2⟩ := HRT.out _ HO5.out.bel
          clear a0 HO
          generalize wr.drewN nq = w5 at *
          obtain ⟨W6, hW6⟩ : ∃ W, w5.alloc (.cells #[.string X, .int .i64 (z : Int)] 98) = W := ⟨_, rfl⟩
          obtain ⟨r6, b6, s6⟩ := new_row hW6
          have HO6 := Lib.hid (HO5.out.below b6)
          have HR6 : Hid (Rd W6 (some ⟨w5.heap.size, 0, none⟩) [.string X, .int .i64 (z : Int)]) := Lib.hid (range_rd (range_of_row (cs := [.string X, .int .i64 (z : Int)]) r6))
          clear r6 b6 s6 HO5
          go_wp2_with (first
            | ((with_reducible (refine wpList_load_cells 98 _ b (o + k * 2) ([.string X, .int .i64 (z : Int)]) HRW5.out Try.underlying98 rfl info_nm2 ?_ rfl ?_ ?_)); (exact rfl); (exact rfl))
            | (at_builtin; refine wpList_append_rd _ rfl _ _ 47 rfl w2.heap.size 98 _ 2 24 Try.underlying47 info_nmz rfl (by decide) (.slice A2 n2 c2) n2 _ rfl HO6.out.own _ 1 _ ([.string X, .int .i64 (z : Int)]) rfl (rfl) HR6.out (two_one) (by unfold maxLen; omega) (by omega) HO6.out.bel.size ?_; intro v7 w7 ho7 hg7 hvb7; obtain ⟨A7, c7, e7, _⟩ := own_slice ho7; subst e7; have HO7 := Lib.hid (HO6.out.grow (p := (s, z)) (by rw [HNC.out]; exact ho7) hg7); clear ho7 hg7 hvb7))
          rw [← HA.out]
          clear hW6
          go_roundg (n1 - (k + 1))
          case measure => omega
          case rel => exact ⟨k + 1, false, A7, n2 + 1, c7, out ++ [(s, z)], by omega, by omega, rfl, rfl, rfl, by first | rfl | exact congrArg (Value.int .i64) (by omega) | go_num, HO7, HS⟩
        · replace hl2 : Op.bytesLess X.toList T.toList = false := hl2
          have HS : Hid ((out ++ [(to_, f)]) ++ [(s, z)] ++ (if true = true then rest.drop (k + 1) else insN (to_, f) (rest.drop (k + 1))) = insN (to_, f) rest) := Lib.hid (by
            rw [← HE.out, HDR.out, if_pos rfl, if_neg (by decide)]
            simp [insN, HBF.out])
          go_wp2_with fail
          go_quiet (fail)
          have HO5 := Lib.hid (HO.out.below (below_drewN (Below.refl _ _) nq))
          have HRW5 := Lib.hid (HRX.out _ HO5.out.bel)
          obtain ⟨t1, t2⟩ := HRT.out _ HO5.out.bel
          clear a0 HO
          generalize wr.drewN nq = w5 at *
          obtain ⟨W6, hW6⟩ : ∃ W, w5.alloc (.cells #[.string T, .int .i64 (f : Int)] 98) = W := ⟨_, rfl⟩
          obtain ⟨r6, b6, s6⟩ := new_row hW6
          have HO6 := Lib.hid (HO5.out.below b6)
          have HR6 : Hid (Rd W6 (some ⟨w5.heap.size, 0, none⟩) [.string T, .int .i64 (f : Int)]) := Lib.hid (range_rd (range_of_row (cs := [.string T, .int .i64 (f : Int)]) r6))
          have HNX : Hid (∀ (A : Option Addr) (c : Nat) (W : World), NmOut w2 W A (n2 + 1) c (out ++ [(to_, f)]) → ∃ W8, Hid (NmOut w2 W8 A (n2 + 1) c (out ++ [(to_, f)])) ∧ W.alloc (.cells #[.string X, .int .i64 (z : Int)] 98) = W8 ∧ Hid (Rd W8 (some ⟨W.heap.size, 0, none⟩) [.string X, .int .i64 (z : Int)])) := Lib.hid (fun A c W h => by
            obtain ⟨W8, hW8⟩ : ∃ W8, W.alloc (.cells #[.string X, .int .i64 (z : Int)] 98) = W8 := ⟨_, rfl⟩
            obtain ⟨r8, b8, s8⟩ := new_row hW8
            exact ⟨W8, Lib.hid (h.below b8), hW8, Lib.hid (range_rd (range_of_row (cs := [.string X, .int .i64 (z : Int)]) r8))⟩)
          clear r6 b6 s6 HO5 HRW5
          go_wp2_with (first
            | (at_builtin; refine wpList_append_rd _ rfl _ _ 47 rfl w2.heap.size 98 _ 2 24 Try.underlying47 info_nmz rfl (by decide) (.slice A2 n2 c2) n2 _ rfl HO6.out.own _ 1 _ ([.string T, .int .i64 (f : Int)]) rfl (rfl) HR6.out (two_one) (by unfold maxLen; omega) (by omega) HO6.out.bel.size ?_; intro v7 w7 ho7 hg7 hvb7; obtain ⟨A7, c7, e7, _⟩ := own_slice ho7; subst e7; have HO7 := Lib.hid (HO6.out.grow (p := (to_, f)) (by rw [HNC2.out]; exact ho7) hg7); have HRW7 := Lib.hid (HRX.out _ HO7.out.bel); obtain ⟨W8, HO8, hW8, HR8⟩ := HNX.out _ _ _ HO7.out; clear ho7 hg7 hvb7)
            | ((with_reducible (refine wpList_load_cells 98 _ b (o + k * 2) ([.string X, .int .i64 (z : Int)]) HRW7.out Try.underlying98 rfl info_nm2 ?_ rfl ?_ ?_)); (exact rfl); (exact rfl))
            | (at_builtin; refine wpList_append_rd _ rfl _ _ 47 rfl w2.heap.size 98 _ 2 24 Try.underlying47 info_nmz rfl (by decide) (.slice A7 (n2 + 1) c7) (n2 + 1) _ rfl HO8.out.own _ 1 _ ([.string X, .int .i64 (z : Int)]) rfl (rfl) HR8.out (two_one) (by unfold maxLen; omega) (by omega) HO8.out.bel.size ?_; intro v9 w9 ho9 hg9 hvb9; obtain ⟨A9, c9, e9, _⟩ := own_slice ho9; subst e9; have HO9 := Lib.hid (HO8.out.grow (p := (s, z)) (by rw [HNC.out]; exact ho9) hg9); clear ho9 hg9 hvb9))
          rw [← HA.out]
          clear hW6 hW8
          go_roundg (n1 - (k + 1))
          case measure => omega
          case rel => exact ⟨k + 1, true, A9, n2 + 1 + 1, c9, (out ++ [(to_, f)]) ++ [(s, z)], by omega, by omega, rfl, rfl, rfl, by first | rfl | exact congrArg (Value.int .i64) (by omega) | go_num, HO9, HS⟩
      · have HS : Hid ((out ++ [(s, z)]) ++ (if true = true then rest.drop (k + 1) else insN (to_, f) (rest.drop (k + 1))) = insN (to_, f) rest) := Lib.hid (by
          rw [← HE.out, HDR.out, if_pos rfl, if_pos rfl]
          simp)
        go_wp2_with fail
        go_quiet (fail)
        have HO5 := Lib.hid (HO.out.below (below_drewN (Below.refl _ _) nq))
        have HRW5 := Lib.hid (HRX.out _ HO5.out.bel)
        obtain ⟨t1, t2⟩ := HRT.out _ HO5.out.bel
        clear a0 HO
        generalize wr.drewN nq = w5 at *
        obtain ⟨W6, hW6⟩ : ∃ W, w5.alloc (.cells #[.string X, .int .i64 (z : Int)] 98) = W := ⟨_, rfl⟩
        obtain ⟨r6, b6, s6⟩ := new_row hW6
        have HO6 := Lib.hid (HO5.out.below b6)
        have HR6 : Hid (Rd W6 (some ⟨w5.heap.size, 0, none⟩) [.string X, .int .i64 (z : Int)]) := Lib.hid (range_rd (range_of_row (cs := [.string X, .int .i64 (z : Int)]) r6))
        clear r6 b6 s6 HO5
        go_wp2_with (first
          | ((with_reducible (refine wpList_load_cells 98 _ b (o + k * 2) ([.string X, .int .i64 (z : Int)]) HRW5.out Try.underlying98 rfl info_nm2 ?_ rfl ?_ ?_)); (exact rfl); (exact rfl))
          | (at_builtin; refine wpList_append_rd _ rfl _ _ 47 rfl w2.heap.size 98 _ 2 24 Try.underlying47 info_nmz rfl (by decide) (.slice A2 n2 c2) n2 _ rfl HO6.out.own _ 1 _ ([.string X, .int .i64 (z : Int)]) rfl (rfl) HR6.out (two_one) (by unfold maxLen; omega) (by omega) HO6.out.bel.size ?_; intro v7 w7 ho7 hg7 hvb7; obtain ⟨A7, c7, e7, _⟩ := own_slice ho7; subst e7; have HO7 := Lib.hid (HO6.out.grow (p := (s, z)) (by rw [HNC.out]; exact ho7) hg7); clear ho7 hg7 hvb7))
        rw [← HA.out]
        clear hW6
        go_roundg (n1 - (k + 1))
        case measure => omega
        case rel => exact ⟨k + 1, true, A7, n2 + 1, c7, out ++ [(s, z)], by omega, by omega, rfl, rfl, rfl, by first | rfl | exact congrArg (Value.int .i64) (by omega) | go_num, HO7, HS⟩
    · obtain rfl : k = n1 := by omega
      have hdr : rest.drop k = [] := List.drop_eq_nil_of_le (by rw [← HN1.out]; exact Nat.le_refl _)
      cases dn
      · have HE2 : Hid (out ++ [(to_, f)] = q) := Lib.hid (by have h := HE.out; rw [hdr] at h; rw [HF.out, ← h]; rfl)
        obtain ⟨W6, hW6⟩ : ∃ W, wr.alloc (.cells #[.string T, .int .i64 (f : Int)] 98) = W := ⟨_, rfl⟩
        obtain ⟨r6, b6, s6⟩ := new_row hW6
        have HO6 := Lib.hid (HO.out.below b6)
        have HR6 : Hid (Rd W6 (some ⟨wr.heap.size, 0, none⟩) [.string T, .int .i64 (f : Int)]) := Lib.hid (range_rd (range_of_row (cs := [.string T, .int .i64 (f : Int)]) r6))
        have HNC2 : Hid (nmC (to_, f) = [.string T, .int .i64 (f : Int)]) := Lib.hid (by
          unfold nmC strV
          rw [show (⟨to_.toArray⟩ : ByteArray) = T from ba_ext (by rw [HTO.out])])
        clear r6 b6 s6 hdr HE HO
        go_wp2_with ((at_builtin; refine wpList_append_rd _ rfl _ _ 47 rfl w2.heap.size 98 _ 2 24 Try.underlying47 info_nmz rfl (by decide) (.slice A2 n2 c2) n2 _ rfl HO6.out.own _ 1 _ ([.string T, .int .i64 (f : Int)]) rfl (rfl) HR6.out (two_one) (by unfold maxLen; omega) (by omega) HO6.out.bel.size ?_; intro v7 w7 ho7 hg7 hvb7; obtain ⟨A7, c7, e7, _⟩ := own_slice ho7; subst e7; have HO7 := Lib.hid (HO6.out.grow (p := (to_, f)) (by rw [HNC2.out]; exact ho7) hg7); clear ho7 hg7 hvb7))
        go_ret
        refine ⟨A7, n2 + 1, c7, rfl, ?_⟩
        rw [← HE2.out]
        exact (HO7.out.mono HB2.out).mono HB1.out
      · have HE2 : Hid (out = q) := Lib.hid (by have h := HE.out; rw [hdr] at h; rw [HF.out, ← h]; simp)
        clear hdr HE
        go_wp2_with fail
        go_ret
        refine ⟨A2, n2, c2, rfl, ?_⟩
        rw [← HE2.out]
        exact (HO.out.mono HB2.out).mono HB1.out
end Go.Proofs.Ytpmifpblamjclaa
