
/- RefsKeeps: the turns till the power goes. (Printed by wip/genRf37.py.) -/

import Derived.Test.YtelbofikcpchiaaGreatRf36

import Derived.Test.YtelbofikcpchiaaGreatRf28

import Derived.Deep.CutBlock

namespace Go.Proofs.YtelbofikcpchiaaGreat

set_option linter.unusedVariables false

set_option linter.unusedSimpArgs false

set_option linter.unusedSectionVars false

open Go.RowKit

noncomputable def kpBlk (n : Nat) : Code := ((Tryz.f6.body.bind (findBlk n)).getD .skip)

def idsC (ids : List (List UInt8)) : List Value := ids.flatMap b8s
theorem recsK_end (ids : List (List UInt8)) (x : List UInt8) : recsK Z32 (ids ++ [x]) = recsK Z32 ids ++ recordB (kT (lastK Z32 ids) x) := recsK_app ids Z32 x
theorem lastK_get : ∀ (ids : List (List UInt8)) (p : List UInt8), (p :: ids)[ids.length]? = some (lastK p ids)
  | [], p => rfl
  | id :: ids, p => by
    rw [List.length_cons, List.getElem?_cons_succ]
    exact lastK_get ids id
/-- the state of the loop -/
structure KP (w0 : World) (g gr p13 : Nat) (going : List UInt8) (ids : List (List UInt8)) (bs : List UInt8) (sf fu : Nat) (dn : Bool) (r : RfM) (Am : Option Addr) (nm cm : Nat) (w : World) : Prop where
  ex : ∃ L d q, DR w0.heap.size w g (kD bs sf fu dn) d gr r q ∧ Fit 5 L (kD bs sf fu dn) ∧ L ≤ 114 * (ids.length + if dn = true then 2 else 1) ∧ ¬ footA g gr d q p13 ∧ ∀ a, Am = some a → ¬ footA g gr d q a.block
  row : w.heap[p13]? = some (.cells (b8s going).toArray 24 (0, 0))
  own : w.ownsRow (p13 - 1) 24 32 (.slice Am nm cm) nm (idsC (Z32 :: ids))
  num : nm = ids.length + 1
  len : ∀ i ∈ ids, i.length = 32
  bel : Below w0.heap.size w0 w
  ne : ∀ a, Am = some a → a.block ≠ p13
section

variable {w0 w w' : World} {g gr p13 sf fu nm cm : Nat} {going bs : List UInt8} {ids : List (List UInt8)} {dn : Bool} {r : RfM} {Am : Option Addr}

theorem KP.below (h : KP w0 g gr p13 going ids bs sf fu dn r Am nm cm w) (hb : Below w.heap.size w w') : KP w0 g gr p13 going ids bs sf fu dn r Am nm cm w' := by
  obtain ⟨L, d, q, h1, h2, h3, h4, h5⟩ := h.ex
  exact ⟨⟨L, d, q, h1.below hb, h2, h3, h4, h5⟩, (hb.block _ (Array.getElem?_eq_some_iff.1 h.row).1).trans h.row, own_below h.own hb, h.num, h.len, h.bel.trans (hb.mono h.bel.size), h.ne⟩
end

set_option maxRecDepth 1000000 in
set_option maxHeartbeats 8000000 in
theorem kp_loop {u0 u1 u2 u3 u4 u5 u6 u7 u8 u9 u11 u14 u15 u16 u17 u18 u19 u20 u21 u22 u23 u24 u25 u26 u27 u28 u29 u30 u31 u32 u33 u34 u35 u36 u37 u38 u39 u40 u41 u42 u43 u47 u48 u49 u50 u51 u52 u53 u54 u55 u56 u57 u58 u59 u60 u61 u62 u63 u64 u65 u66 u67 u68 u69 u70 u71 u72 u73 u74 u75 u76 u77 u78 u79 u80 u81 u82 u83 u84 u85 u86 u87 u88 u89 u90 u91 u92 u93 u94 u95 u96 u97 u98 u99 u100 u101 u102 u103 u104 u105 u106 u107 u108 u109 u110 u111 u112 u113 u114 u115 u116 u117 u118 u119 u120 u121 u122 u123 u124 u125 u126 u127 : Value} (w0 : World) (g gr p13 : Nat) (A : Option Addr) (n c : Nat) (ids : List (List UInt8)) (HN : Hid (ids.length = n)) (hnm : n ≤ 9223372036854775807) (HIL : Hid (∀ i ∈ ids, i.length = 32)) (HRD : Hid (Rd w0 A (idsC ids))) (fu0 : Nat) (Am : Option Addr) (cm0 : Nat) (r : RfM) (wr : World) (HK0 : Hid (KP w0 g gr p13 Z32 [] [] 0 fu0 false r Am 1 cm0 wr)) (HKR : Hid (KR r Z32 0)) (HFU : Hid (1 ≤ fu0)) (HP13 : Hid (w0.heap.size < p13)) (Q : Exit → Act → World → Prop)
    (hexit : ∀ (x8 x14 x15 x16 x17 x46 x47 x48 x49 x50 x51 x52 x53 x54 x55 x56 x57 x58 x59 x60 x61 x62 x63 x64 x65 x66 x67 x68 x69 x70 x71 x72 x73 x74 x75 x76 x77 x78 x79 x80 x81 x82 x83 x84 x85 x86 x87 : Value) (A1 : Option Addr) (n1 c1 : Nat) (ids' : List (List UInt8)) (going bs : List UInt8) (sf fu : Nat) (dn : Bool) (r1 : RfM) (wx : World), Hid (KP w0 g gr p13 going ids' bs sf fu dn r1 A1 n1 c1 wx) → Hid (sf = (recsK Z32 ids').length ∧ going.length = 32 ∧ ids'.length ≤ 12) → Hid (bs = recsK Z32 ids' ∨ bs = recsK Z32 ids' ++ recordB (kT (lastK Z32 ids') going)) → Q .normal ⟨#[u0, u1, u2, u3, u4, u5, u6, u7, x8, u9, .pointer (some ⟨gr, 0, none⟩), u11, .slice A1 n1 c1, .pointer (some ⟨p13, 0, none⟩), x14, x15, x16, x17, u18, u19, u20, u21, u22, u23, u24, u25, u26, u27, u28, u29, u30, u31, u32, u33, u34, u35, u36, u37, u38, u39, u40, u41, u42, u43, .slice A n c, .int .i64 (n : Int), x46, x47, x48, x49, x50, x51, x52, x53, x54, x55, x56, x57, x58, x59, x60, x61, x62, x63, x64, x65, x66, x67, x68, x69, x70, x71, x72, x73, x74, x75, x76, x77, x78, x79, x80, x81, x82, x83, x84, x85, x86, x87, u88, u89, u90, u91, u92, u93, u94, u95, u96, u97, u98, u99, u100, u101, u102, u103, u104, u105, u106, u107, u108, u109, u110, u111, u112, u113, u114, u115, u116, u117, u118, u119, u120, u121, u122, u123, u124, u125, u126, u127], []⟩ wx) :
    Code.wp Tryz.prog (kpBlk 0) Q ⟨#[u0, u1, u2, u3, u4, u5, u6, u7, u8, u9, .pointer (some ⟨gr, 0, none⟩), u11, .slice Am 1 cm0, .pointer (some ⟨p13, 0, none⟩), u14, u15, u16, u17, u18, u19, u20, u21, u22, u23, u24, u25, u26, u27, u28, u29, u30, u31, u32, u33, u34, u35, u36, u37, u38, u39, u40, u41, u42, u43, .slice A n c, .int .i64 (n : Int), .int .i64 0, u47, u48, u49, u50, u51, u52, u53, u54, u55, u56, u57, u58, u59, u60, u61, u62, u63, u64, u65, u66, u67, u68, u69, u70, u71, u72, u73, u74, u75, u76, u77, u78, u79, u80, u81, u82, u83, u84, u85, u86, u87, u88, u89, u90, u91, u92, u93, u94, u95, u96, u97, u98, u99, u100, u101, u102, u103, u104, u105, u106, u107, u108, u109, u110, u111, u112, u113, u114, u115, u116, u117, u118, u119, u120, u121, u122, u123, u124, u125, u126, u127], []⟩ wr := by
  have HEX := Lib.hid hexit
  clear hexit
  conv => arg 2; whnf
  have hgd := id_guard
  go_wp2_with fail
  go_loopg [12, 46] (n * 1) (fun gk_ mv iv wr => ∃ (i : Nat) (Ai : Option Addr) (ci : Nat) (r1 : RfM), i ≤ n ∧ i ≤ 12 ∧ gk_ = n - i ∧ mv = .slice Ai (i + 1) ci ∧ iv = .int .i64 (i : Int) ∧ Hid (KP w0 g gr p13 Z32 (ids.take i) (recsK Z32 (ids.take i)) (recsK Z32 (ids.take i)).length (fu0 - 2 * i) false r1 Ai (i + 1) ci wr) ∧ Hid (KR r1 (lastK Z32 (ids.take i)) i) ∧ Hid (1 ≤ fu0 - 2 * i))
  case atStart => exact ⟨0, Am, cm0, r, by omega, by omega, by omega, rfl, rfl, HK0, HKR, HFU⟩
  case round =>
  clear HK0 HKR HFU
  obtain ⟨i, Ai, ci, r1, hi, hi12, rfl, rfl, rfl, HK, HR, HF⟩ := hrel
  by_cases hlt : i < n
  · have j1 : (i : Int) < (n : Int) := by omega
    have hil : i < ids.length := by rw [HN.out]; exact hlt
    obtain ⟨id, hid⟩ : ∃ x, ids[i] = x := ⟨_, rfl⟩
    have HIDL : Hid (id.length = 32) := Lib.hid (HIL.out id (by rw [← hid]; exact List.getElem_mem hil))
    have hcl : ∀ x ∈ ids, (b8s x).length = 32 := fun x hx => by rw [b8s_length]; exact HIL.out x hx
    have hrd := HRD.out.below HK.out.bel
    obtain ⟨b, o, hA, _⟩ := hrd.all (by unfold idsC; rw [flat_length ids hcl, HN.out]; omega)
    rw [hA] at hrd
    have hrow := rd_flat (f := b8s) (m := 32) hrd hcl i hil
    rw [hid] at hrow
    have HROW := Lib.hid hrow
    subst hA
    have HTK : Hid (ids.take (i + 1) = ids.take i ++ [id]) := Lib.hid (by rw [← hid, List.take_append_getElem])
    obtain ⟨p15, Wa, W2, hH, hWa, hW2, HTH, HR15, HB2, _⟩ := arr_place (w := wr) 24 id HIDL.out
    have HIDA := Lib.hid (info_ida id HIDL.out)
    have HIDI := Lib.hid (info_idl id HIDL.out)
    have HOC : Hid ((b8s id).toArray.all (·.oneCell') = true) := Lib.hid (all_oneCell_toArray (b8s_one' _))
    have HW2 := Lib.hid hW2
    have HK2 := Lib.hid (HK.out.below HB2.out)
    obtain ⟨li, hli⟩ : ∃ l, b8s id = l := ⟨_, rfl⟩
    have HLI := Lib.hid hli
    rw [hli] at HROW HIDA HIDI HOC HW2 HTH HR15
    clear hil hid hrd hrow hcl hW2 hli
    by_cases h12 : 12 ≤ i
    · have j12 : (12 : Int) ≤ (i : Int) := by omega
      go_wp2_with (first
        | ((with_reducible (refine wpList_load_cells 24 _ b (o + i * 32) (li) HROW.out Tryz.underlying24 rfl HIDI.out ?_ rfl ?_ ?_)); (exact rfl); (exact rfl))
        | ((with_reducible (refine wpList_store_mid rfl _ _ _ rfl ?_ ?_ ?_ ?_ ?_ ?_ ?_ ?_ ?_)); (exact p15); (exact 0); (exact (li).toArray); (exact rfl); (exact rfl); (exact HTH.out); (exact HIDA.out); (exact HOC.out); rw [HW2.out]))
      exact HEX.out _ _ _ _ _ _ _ _ _ _ _ _ _ _ _ _ _ _ _ _ _ _ _ _ _ _ _ _ _ _ _ _ _ _ _ _ _ _ _ _ _ _ _ _ _ _ _ Ai (i + 1) ci (ids.take i) Z32 _ _ _ false r1 _ HK2 (Lib.hid ⟨rfl, rfl, by rw [List.length_take]; omega⟩) (Lib.hid (.inl rfl))
    · have j12 : ¬ (12 : Int) ≤ (i : Int) := by omega
      obtain ⟨gm, cm, eM, _, _⟩ := own_some HK2.out.own (by omega)
      obtain ⟨rfl, rfl⟩ : Ai = some ⟨gm, 0, none⟩ ∧ ci = cm := by simpa using eM
      clear eM
      have htl : (ids.take i).length = i := by rw [List.length_take, HN.out]; omega
      obtain ⟨prev, hprev⟩ : ∃ x, lastK Z32 (ids.take i) = x := ⟨_, rfl⟩
      have HPV := Lib.hid hprev
      have HPL : Hid (prev.length = 32) := Lib.hid (by rw [← hprev]; exact lastK_len _ _ rfl HK2.out.len)
      have hcl2 : ∀ x ∈ Z32 :: ids.take i, (b8s x).length = 32 := fun x hx => by
        rw [b8s_length]
        rcases List.mem_cons.1 hx with rfl | hx
        · rfl
        · exact HK2.out.len x hx
      have hgl : i < (Z32 :: ids.take i).length := by rw [List.length_cons, htl]; omega
      have hrm := rd_flat (f := b8s) (m := 32) (own_rd HK2.out.own) hcl2 i hgl
      have hge : (Z32 :: ids.take i)[i] = prev := by
        have h1 := lastK_get (ids.take i) Z32
        rw [htl, List.getElem?_eq_getElem hgl] at h1
        rw [Option.some.inj h1, hprev]
      rw [hge, Nat.zero_add] at hrm
      have HRM := Lib.hid hrm
      obtain ⟨p16, Wc, W4, hH2, hWc, hW4, HTH4, HR16, HB4, _⟩ := arr_place (w := W2) 24 prev HPL.out
      have HW4 := Lib.hid hW4
      have HK4 := Lib.hid (HK2.out.below HB4.out)
      have HIDP := Lib.hid (info_ida prev HPL.out)
      have HIDQ := Lib.hid (info_idl prev HPL.out)
      have HOP : Hid ((b8s prev).toArray.all (·.oneCell') = true) := Lib.hid (all_oneCell_toArray (b8s_one' _))
      have HR154 : Hid (W4.heap[p15]? = some (.cells li.toArray 24 (0, 0))) := Lib.hid ((HB4.out.block _ (Array.getElem?_eq_some_iff.1 HR15.out).1).trans HR15.out)
      have HRG15 := Lib.hid (range_of_row HR154.out)
      have HRG16 := Lib.hid (range_of_row HR16.out)
      have HLT : Hid (∀ W : World, Calls Tryz.prog 27 #[.string ⟨#[104, 101, 97, 100, 115, 47, 109, 97, 105, 110]⟩, .agg (b8s prev).toArray, .agg li.toArray] W fun e w' => ∃ b, W.heap.size ≤ b ∧ e = .returned (.agg (txC (some ⟨b, 0, none⟩) 1 1 (kT prev id)).toArray) ∧ Below W.heap.size W w' ∧ Rd w' (some ⟨b, 0, none⟩) (upsC (kT prev id).us)) := Lib.hid (by
        intro W
        rw [← HLI.out]
        exact lawturn_any _ ⟨mainB, prev, id⟩ rfl ⟨HPL.out, HIDL.out, by show mainB.length ≤ _; decide⟩ W)
      obtain ⟨lp, hlp⟩ : ∃ l, b8s prev = l := ⟨_, rfl⟩
      have HLP := Lib.hid hlp
      have HP15 : Hid (wr.heap.size = p15) := Lib.hid hH
      have HP16 : Hid (W2.heap.size = p16) := Lib.hid hH2
      rw [hlp] at HRM HW4 HTH4 HIDP HIDQ HOP HRG16 HLT HR16
      clear htl hprev hcl2 hgl hrm hge hW4 hlp
      go_wp2_with (first
        | ((with_reducible (refine wpList_load_cells 24 _ b (o + i * 32) (li) HROW.out Tryz.underlying24 rfl HIDI.out ?_ rfl ?_ ?_)); (exact rfl); (exact rfl))
        | ((with_reducible (refine wpList_store_mid rfl _ _ _ rfl ?_ ?_ ?_ ?_ ?_ ?_ ?_ ?_ ?_)); (exact p15); (exact 0); (exact (li).toArray); (exact rfl); (exact rfl); (exact HTH.out); (exact HIDA.out); (exact HOC.out); rw [HW2.out])
        | ((with_reducible (refine wpList_load_cells 24 _ gm (i * 32) (lp) HRM.out Tryz.underlying24 rfl HIDQ.out ?_ rfl ?_ ?_)); (exact rfl); (exact rfl))
        | ((with_reducible (refine wpList_store_mid rfl _ _ _ rfl ?_ ?_ ?_ ?_ ?_ ?_ ?_ ?_ ?_)); (exact p16); (exact 0); (exact (lp).toArray); (exact rfl); (exact rfl); (exact HTH4.out); (exact HIDP.out); (exact HOP.out); rw [HW4.out])
        | ((with_reducible (refine wpList_load_cells 24 _ p16 0 (lp) HRG16.out Tryz.underlying24 rfl HIDQ.out ?_ rfl ?_ ?_)); (exact rfl); (exact rfl))
        | ((with_reducible (refine wpList_load_cells 24 _ p15 0 (li) HRG15.out Tryz.underlying24 rfl HIDI.out ?_ rfl ?_ ?_)); (exact rfl); (exact rfl)))
      refine (HLT.out _).mono ?_
      rintro e w5 ⟨b5, hb5, rfl, hbl5, hrd5⟩
      obtain ⟨L, d, q, k1, k2, k3, k4, k5⟩ := HK.out.ex
      have htl2 : (ids.take i).length = i := by rw [List.length_take, HN.out]; omega
      have hb2w : Below wr.heap.size wr w5 := (HB2.out.trans (HB4.out.mono HB2.out.size)).trans (hbl5.mono (Nat.le_trans HB2.out.size HB4.out.size))
      have hrl := recsK_len (ids.take i) Z32 rfl HK2.out.len
      rw [htl2] at hrl k3
      replace k3 : L ≤ 114 * (i + 1) := k3
      have hkr := HR.out
      rw [HPV.out] at hkr
      have hfl : ∀ b, footA g gr d q b → b < wr.heap.size := fun b hb => by
        rcases hb with hb | hb
        · exact k1.disk.foot_lt hb
        · exact k1.refs.foot_lt hb
      have HDO := Lib.hid (kdo (k1.below hb2w) k2 hkr HPL.out HIDL.out HF.out (by omega) (by omega) (by omega) (some ⟨b5, 0, none⟩) hrd5 (fun _ a ha hf => by
        cases ha
        have h9 := hfl _ hf
        have := HB2.out.size
        have := HB4.out.size
        try dsimp only at h9
        omega))
      have HR155 : Hid (w5.heap[p15]? = some (.cells li.toArray 24 (0, 0))) := Lib.hid ((hbl5.block _ (Array.getElem?_eq_some_iff.1 HR154.out).1).trans HR154.out)
      have HR165 : Hid (w5.heap[p16]? = some (.cells lp.toArray 24 (0, 0))) := Lib.hid ((hbl5.block _ (Array.getElem?_eq_some_iff.1 HR16.out).1).trans HR16.out)
      have HK5 := Lib.hid (HK4.out.below hbl5)
      have HNF : Hid (¬ footA g gr d q p15 ∧ ¬ footA g gr d q p16 ∧ ¬ footA g gr d q p13 ∧ ¬ footA g gr d q gm) := Lib.hid ⟨fun h9 => by have := hfl _ h9; omega, fun h9 => by have := hfl _ h9; have := HB2.out.size; omega, k4, k5 _ rfl⟩
      have HRL := Lib.hid hrl
      have HK3 : Hid (L ≤ 114 * (i + 1)) := Lib.hid k3
      obtain ⟨lt, hlt_⟩ : ∃ l, txC (some ⟨b5, 0, none⟩) 1 1 (kT prev id) = l := ⟨_, rfl⟩
      rw [hlt_] at HDO ⊢
      clear hb5 hbl5 hrd5 k1 k2 k3 k4 k5 htl2 hb2w hrl hkr hfl hlt_ hH hWa hH2 hWc
      go_wp2_with fail
      refine HDO.out.mono ?_
      clear HDO
      rintro e w6 ⟨v, d', q', r', bs', sf', fu', dn', rfl, hd6, hf6, hb6, hs6, hcase⟩
      have HD6 := Lib.hid hd6
      have HF6 := Lib.hid hf6
      have HB6 : Hid (Below w0.heap.size w0 w6) := Lib.hid (HK5.out.bel.trans hb6)
      have HS6 := Lib.hid hs6
      have HR156 := Lib.hid ((hs6 p15 (Array.getElem?_eq_some_iff.1 HR155.out).1 HNF.out.1).1.trans HR155.out)
      have HR166 := Lib.hid ((hs6 p16 (Array.getElem?_eq_some_iff.1 HR165.out).1 HNF.out.2.1).1.trans HR165.out)
      have HR136 := Lib.hid ((hs6 p13 (Array.getElem?_eq_some_iff.1 HK5.out.row).1 HNF.out.2.2.1).1.trans HK5.out.row)
      have hgl6 := (HK5.out.own.lt gm rfl).2
      have HO6 : Hid (w6.ownsRow (p13 - 1) 24 32 (.slice (some ⟨gm, 0, none⟩) (i + 1) ci) (i + 1) (idsC (Z32 :: ids.take i))) := Lib.hid (own_keep HK5.out.own (fun b hb hl => by
        have e9 : gm = b := Option.some.inj hb
        exact (hs6 b hl (e9 ▸ HNF.out.2.2.2)).1))
      have HNF6 : Hid (¬ footA g gr d' q' p13 ∧ ¬ footA g gr d' q' gm ∧ ¬ footA g gr d' q' p15 ∧ ¬ footA g gr d' q' p16) := Lib.hid ⟨(hs6 p13 (Array.getElem?_eq_some_iff.1 HK5.out.row).1 HNF.out.2.2.1).2, (hs6 gm hgl6 HNF.out.2.2.2).2, (hs6 p15 (Array.getElem?_eq_some_iff.1 HR155.out).1 HNF.out.1).2, (hs6 p16 (Array.getElem?_eq_some_iff.1 HR165.out).1 HNF.out.2.1).2⟩
      clear hd6 hf6 hb6 hs6 hgl6
      rcases hcase with ⟨rfl, hc1, hc2, hc3, hc4, hc5, hc6⟩ | ⟨rfl, hc1, hc2, hc3, hc4, hc5⟩
      · have HC6 := Lib.hid hc6
        have HBS : Hid (bs' = recsK Z32 (ids.take (i + 1)) ∧ sf' = (recsK Z32 (ids.take (i + 1))).length ∧ fu' = fu0 - 2 * (i + 1) ∧ 3 ≤ fu0 - 2 * i) := Lib.hid (by
          have e1 : recsK Z32 (ids.take (i + 1)) = bs' := by rw [HTK.out, recsK_end, HPV.out, hc2]
          rw [e1]
          exact ⟨rfl, hc3, by omega, hc1⟩)
        subst hc5
        clear hc1 hc2 hc3 hc4 hc6
        have HRG6 := Lib.hid (range_of_row HR156.out)
        obtain ⟨p17, hp17⟩ : ∃ x, w6.heap.size = x := ⟨_, rfl⟩
        obtain ⟨W7, hW7⟩ : ∃ W, w6.alloc (.cells li.toArray 24) = W := ⟨_, rfl⟩
        obtain ⟨r7, b7, s7⟩ := new_row hW7
        rw [hp17] at r7
        have HB67 := Lib.hid b7
        have HO7 := Lib.hid (own_below HO6.out b7)
        have HRD7 : Hid (Rd W7 (some ⟨p17, 0, none⟩) li) := Lib.hid (range_rd (range_of_row r7))
        have HLL : Hid (li.length = 32) := Lib.hid (by rw [← HLI.out, b8s_length, HIDL.out])
        have HIB : Hid ((Tryz.prog.info? 24).map (fun i => (i.size, i.zero.isSome)) = some (li.length, true)) := Lib.hid (by rw [HLL.out]; kernel_rfl)
        have HI1 : Hid (∀ x ∈ li, x.oneCell' = true) := Lib.hid (by rw [← HLI.out]; exact b8s_one' _)
        have HSZ7 : Hid (p13 - 1 ≤ W7.heap.size) := Lib.hid (by
          have := (Array.getElem?_eq_some_iff.1 HR136.out).1
          have := b7.size
          omega)
        have HII : Hid ((Tryz.prog.info? 24).map (fun i => (i.zero, i.size, i.bytes)) = some (some (.agg (b8s (List.replicate 32 0)).toArray), 32, 32)) := Lib.hid (by kernel_rfl)
        clear r7 b7 s7
        go_wp2_with (first
          | ((with_reducible (refine wpList_load_cells 24 _ p15 0 (li) HRG6.out Tryz.underlying24 rfl HIDI.out ?_ rfl ?_ ?_)); (exact rfl); (exact rfl))
          | (refine wpList_build1 rfl 71 24 _ rfl li rfl Tryz.underlying71 HIB.out (by rw [HLL.out]; omega) (by rw [HLL.out]; omega) ?_)
          | (at_builtin; (try rw [hW7]); (try rw [hp17]); go_loud (refine wpList_append_rd _ rfl _ _ 71 rfl (p13 - 1) 24 _ 32 32 Tryz.underlying71 HII.out (by simp [Value.cells, b8s]) (by decide) (.slice (some ⟨gm, 0, none⟩) (i + 1) ci) (i + 1) _ rfl HO7.out _ 1 1 li rfl (by rw [HLL.out]) HRD7.out HI1.out (by unfold maxLen; omega) (by omega) HSZ7.out ?_); intro v8 w8 ho8 hg8 hvb8; obtain ⟨A8, c8, e8, hnc8, _, hA8, _⟩ := own_slice ho8; subst e8; have HO8 := Lib.hid ho8; have HG8 := Lib.hid hg8; have HV8 := Lib.hid hvb8; clear ho8 hg8 hvb8 hnc8 hA8))
        have HNM : Hid (gm ≠ p13) := Lib.hid (HK.out.ne _ rfl)
        have HG8' : Hid (W7.grownBy w8 (some gm)) := Lib.hid HG8.out
        have hfr : Frm (· = gm) W7 w8 := Frm.of_grown HG8'.out (fun k hk => .inl (by cases hk; rfl))
        have hd7 := HD6.out.below HB67.out
        have hd8 : DR w0.heap.size w8 g (kD bs' sf' fu' false) d' gr r' q' := ⟨hd7.disk.frm hfr (fun b hb e => HNF6.out.2.1 (.inl (e ▸ hb))), hd7.refs.frm hfr (fun b hb e => HNF6.out.2.1 (.inr (e ▸ hb))), hd7.apart⟩
        have hr7 := (HB67.out.block _ (Array.getElem?_eq_some_iff.1 HR136.out).1).trans HR136.out
        have hr8 := (HG8'.out.block _ (Array.getElem?_eq_some_iff.1 hr7).1 (fun e => HNM.out (Option.some.inj e).symm)).trans hr7
        have hb8 : Below w0.heap.size w0 w8 := by
          have h0 : Below w0.heap.size w0 W7 := HB6.out.trans (HB67.out.mono HB6.out.size)
          exact bel_grown h0 h0.size HG8'.out (by
            have h1 := (HK.out.own.lt gm rfl).1
            have := HP13.out
            omega)
        have ha8 : ∀ a, A8 = some a → a.block = gm ∨ a.block = W7.heap.size := fun a ha => by
          rcases HV8.out with h1 | h1
          · rw [ha] at h1; exact .inl (Option.some.inj h1)
          · rw [ha] at h1; exact .inr (Option.some.inj h1)
        have hp13 := (Array.getElem?_eq_some_iff.1 HR136.out).1
        have hs7 := HB67.out.size
        have hk' : KP w0 g gr p13 Z32 (ids.take (i + 1)) (recsK Z32 (ids.take (i + 1))) (recsK Z32 (ids.take (i + 1))).length (fu0 - 2 * (i + 1)) false r' A8 (i + 1 + 1) c8 w8 := by
          obtain ⟨e1, e2, e3, _⟩ := HBS.out
          rw [e1, e2, e3] at hd8
          have hf8 := HF6.out
          rw [e1, e2, e3] at hf8
          have hl1 : (ids.take (i + 1)).length = i + 1 := by rw [List.length_take, HN.out]; omega
          refine ⟨⟨L + 114, d', q', hd8, hf8, by rw [hl1]; have := HK3.out; show L + 114 ≤ 114 * (i + 1 + 1); omega, HNF6.out.1, fun a ha hfo => ?_⟩, hr8, ?_, by rw [hl1], fun x hx => HIL.out x (List.mem_of_mem_take hx), hb8, fun a ha => ?_⟩
          · rcases ha8 a ha with h1 | h1
            · exact HNF6.out.2.1 (h1 ▸ hfo)
            · have : a.block < w6.heap.size := by
                rcases hfo with hfo | hfo
                · exact HD6.out.disk.foot_lt hfo
                · exact HD6.out.refs.foot_lt hfo
              omega
          · have h1 := HO8.out
            have e : idsC (Z32 :: ids.take (i + 1)) = idsC (Z32 :: ids.take i) ++ li := by
              rw [HTK.out, ← HLI.out]
              simp [idsC]
            rw [e]
            exact h1
          · rcases ha8 a ha with h1 | h1
            · rw [h1]; exact HNM.out
            · omega
        have HKN := Lib.hid hk'
        have HRN : Hid (KR r' (lastK Z32 (ids.take (i + 1))) (i + 1)) := Lib.hid (by rw [HTK.out, lastK_app]; exact HC6.out)
        have HFN : Hid (1 ≤ fu0 - 2 * (i + 1)) := Lib.hid (by have := HBS.out.2.2.2; omega)
        clear hfr hd7 hd8 hr7 hr8 hb8 ha8 hp13 hs7 hk' hp17 hW7
        go_roundg (n - (i + 1))
        case measure => omega
        case rel => exact ⟨i + 1, A8, c8, r', by omega, by omega, rfl, rfl, by first | rfl | exact congrArg (Value.int .i64) (by omega) | go_num, HKN, HRN, HFN⟩
      · subst hc2 hc3
        have HNM : Hid (gm ≠ p13) := Lib.hid (HK.out.ne _ rfl)
        have HN15 : Hid (p15 ≠ p13 ∧ p16 ≠ p13) := Lib.hid ⟨fun e => by
          have h1 := (Array.getElem?_eq_some_iff.1 HK.out.row).1
          have h2 := HP15.out
          omega, fun e => by
          have h1 := (Array.getElem?_eq_some_iff.1 HK.out.row).1
          have h2 := HP16.out
          have h3 := HB2.out.size
          omega⟩
        have HST := Lib.hid (KR.stuck (by have h1 := HR.out; rw [HPV.out] at h1; exact h1))
        obtain ⟨W7, hW7, T7, R7, G7⟩ := put_rowR (new := li) HR136.out (by rw [← HLI.out, b8s_length, b8s_length, HIDL.out]; rfl)
        have HW7 := Lib.hid hW7
        have hfr : Frm (· = p13) w6 W7 := Frm.of_grown G7.out (fun k hk => .inl (by cases hk; rfl))
        have HD7 : Hid (DR w0.heap.size W7 g (kD bs' sf' fu' true) d' gr (stuckR r1) q') := Lib.hid ⟨HD6.out.disk.frm hfr (fun b hb e => HNF6.out.1 (.inl (e ▸ hb))), HD6.out.refs.frm hfr (fun b hb e => HNF6.out.1 (.inr (e ▸ hb))), HD6.out.apart⟩
        have HRG6 := Lib.hid (range_of_row HR156.out)
        have hr157 := (G7.out.block _ (Array.getElem?_eq_some_iff.1 HR156.out).1 (fun e => HN15.out.1 (Option.some.inj e))).trans HR156.out
        have hr167 := (G7.out.block _ (Array.getElem?_eq_some_iff.1 HR166.out).1 (fun e => HN15.out.2 (Option.some.inj e))).trans HR166.out
        have HS7 : Hid (W7.rangeAt p16 0 lp ∧ W7.rangeAt p15 0 li) := Lib.hid ⟨range_of_row hr167, range_of_row hr157⟩
        have HL7 : Hid (p16 < W7.heap.size ∧ p15 < W7.heap.size) := Lib.hid ⟨(Array.getElem?_eq_some_iff.1 hr167).1, (Array.getElem?_eq_some_iff.1 hr157).1⟩
        have HKF : Hid (KP w0 g gr p13 id (ids.take i) bs' sf' fu' true (stuckR r1) (some ⟨gm, 0, none⟩) (i + 1) ci W7) := Lib.hid (by
          have hl1 : (ids.take i).length = i := by rw [List.length_take, HN.out]; omega
          refine ⟨⟨L + 114, d', q', HD7.out, HF6.out, ?_, HNF6.out.1, fun a ha hfo => ?_⟩, ?_, own_keep HO6.out (fun b hb hl => G7.out.block b hl (fun e => ?_)), by rw [hl1], HK2.out.len, bel_grown HB6.out HB6.out.size G7.out (by have := HP13.out; omega), HK.out.ne⟩
          · rw [hl1]; have := HK3.out; show L + 114 ≤ 114 * (i + 2); omega
          · cases ha
            exact HNF6.out.2.1 hfo
          · rw [HLI.out]; exact R7.out
          · have e1 : gm = b := Option.some.inj hb
            exact HNM.out (e1.trans (Option.some.inj e)))
        have HBF : Hid ((sf' = (recsK Z32 (ids.take i)).length ∧ id.length = 32 ∧ (ids.take i).length ≤ 12) ∧ (bs' = recsK Z32 (ids.take i) ∨ bs' = recsK Z32 (ids.take i) ++ recordB (kT (lastK Z32 (ids.take i)) id))) := Lib.hid ⟨⟨hc4, HIDL.out, by rw [List.length_take]; omega⟩, by rw [HPV.out]; exact hc5⟩
        have HGT : Hid (∀ W, RfIn w0.heap.size W gr g (stuckR r1) q' → Calls Tryz.prog 15 #[.pointer (some ⟨gr, 0, none⟩), .string ⟨#[104, 101, 97, 100, 115, 47, 109, 97, 105, 110]⟩] W fun e w' => e = .returned (.agg lp.toArray) ∧ Below W.heap.size W w') := Lib.hid (fun W hW => by
          have h1 := get_any hW HST.out.2.1 ⟨#[104, 101, 97, 100, 115, 47, 109, 97, 105, 110]⟩ (by decide)
          rw [show (⟨#[104, 101, 97, 100, 115, 47, 109, 97, 105, 110]⟩ : ByteArray).data.toList = mainB from rfl, HST.out.1, HLP.out] at h1
          exact h1)
        have hq : ∀ W, (binOp .neq 24 (.agg lp.toArray) (.agg lp.toArray)).run Tryz.prog W = .ok (.bool false) W := by
          intro W
          rw [← HLP.out, id_neq prev prev HPL.out HPL.out W, decide_eq_true rfl]
          rfl
        have HT7 := Lib.hid T7.out
        clear hc1 hc4 hc5 hW7 T7 R7 G7 hfr hr157 hr167
        go_wp2_with (first
          | ((with_reducible (refine wpList_load_cells 24 _ p15 0 (li) HRG6.out Tryz.underlying24 rfl HIDI.out ?_ rfl ?_ ?_)); (exact rfl); (exact rfl))
          | ((with_reducible (refine wpList_store_mid rfl _ _ _ rfl ?_ ?_ ?_ ?_ ?_ ?_ ?_ ?_ ?_)); (exact p13); (exact 0); (exact (li).toArray); (exact rfl); (exact rfl); (exact HT7.out); (exact HIDA.out); (exact HOC.out); rw [HW7.out]))
        refine wp_region_sched (fun w' => w'.rangeAt p16 0 lp ∧ w'.rangeAt p15 0 li) [(true, 0), (true, 1), (true, 2), (true, 3), (true, 5), (false, 4), (true, 6), (true, 7), (true, 8), (true, 9), (true, 10), (true, 11), (false, 12), (false, 13), (true, 14), (true, 15)] (by kernel_rfl) (by kernel_rfl) rfl (by kernel_rfl) HS7.out ?_
        (repeat (first | (refine wpS_pass _ rfl (by rfl) ?_; simp only [Act.put, List.getElem_toArray, List.getElem_cons_zero, List.getElem_cons_succ, List.setIfInBounds_toArray, List.set_cons_zero, List.set_cons_succ]) | (refine wpS_take _ ?_ rfl (by rfl) ?_ ?_; rotate_left; (focus (intro w' hS'; (try dsimp only at hS'); (repeat (have hS1 := hS'.1; replace hS' := hS'.2)); go_simp; (try with_reducible rfl); done)); simp only [Act.put, List.getElem_toArray, List.getElem_cons_zero, List.getElem_cons_succ, List.setIfInBounds_toArray, List.set_cons_zero, List.set_cons_succ])))
        refine wpS_load _ rfl (by rfl) 24 _ rfl p16 0 rfl lp _ (fun w' hS => hS.1) Tryz.underlying24 rfl HIDQ.out ?_
        simp only [Act.put, List.getElem_toArray, List.getElem_cons_zero, List.getElem_cons_succ, List.setIfInBounds_toArray, List.set_cons_zero, List.set_cons_succ]
        refine wpS_do _ rfl (by rfl) (fun KK hKK => ?_)
        go_simp
        refine (HGT.out W7.drew (HD7.out.below (Below.refl _ _).drew).refs).mono ?_
        rintro e w9 ⟨rfl, hb9⟩
        have hb9' : Below W7.heap.size W7 w9 := (Below.refl _ _).drew.trans hb9
        have HB9 := Lib.hid hb9'
        refine hKK.out _ _ ⟨range_below HS7.out.1 HL7.out.1 hb9', range_below HS7.out.2 HL7.out.2 hb9'⟩ (fun hS => ?_)
        clear hKK hS hb9 hb9'
        (repeat (first | (refine wpS_pass _ rfl (by rfl) ?_; simp only [Act.put, List.getElem_toArray, List.getElem_cons_zero, List.getElem_cons_succ, List.setIfInBounds_toArray, List.set_cons_zero, List.set_cons_succ]) | (refine wpS_take _ ?_ rfl (by rfl) ?_ ?_; rotate_left; (focus (intro w' hS'; (try dsimp only at hS'); (repeat (have hS1 := hS'.1; replace hS' := hS'.2)); go_simp; (try with_reducible rfl); done)); simp only [Act.put, List.getElem_toArray, List.getElem_cons_zero, List.getElem_cons_succ, List.setIfInBounds_toArray, List.set_cons_zero, List.set_cons_succ])))
        refine wpS_load _ rfl (by rfl) 24 _ rfl p16 0 rfl lp _ (fun w' hS => hS.1) Tryz.underlying24 rfl HIDQ.out ?_
        simp only [Act.put, List.getElem_toArray, List.getElem_cons_zero, List.getElem_cons_succ, List.setIfInBounds_toArray, List.set_cons_zero, List.set_cons_succ]
        refine wpS_load _ rfl (by rfl) 24 _ rfl p15 0 rfl li _ (fun w' hS => hS.2) Tryz.underlying24 rfl HIDI.out ?_
        simp only [Act.put, List.getElem_toArray, List.getElem_cons_zero, List.getElem_cons_succ, List.setIfInBounds_toArray, List.set_cons_zero, List.set_cons_succ]
        refine wpS_do _ rfl (by rfl) (fun KK hKK => ?_)
        go_simp
        refine (HLT.out w9).mono ?_
        rintro e w10 ⟨b10, hb10, rfl, hbl10, hrd10⟩
        have HB10 := Lib.hid (HB9.out.trans (hbl10.mono HB9.out.size))
        have HDS := Lib.hid (do_stuck (HD7.out.below HB10.out).refs HST.out.2.1 HST.out.2.2.1 (some ⟨b10, 0, none⟩) 1 1 (kT prev id) rfl (kT_ok HPL.out HIDL.out) hrd10 (HST.out.2.2.2 id) (kT_empty _ _))
        refine hKK.out _ _ ⟨range_below HS7.out.1 HL7.out.1 HB10.out, range_below HS7.out.2 HL7.out.2 HB10.out⟩ (fun hS => ?_)
        clear hKK hS hb10 hbl10 hrd10
        refine wpS_do _ rfl (by rfl) (fun KK hKK => ?_)
        go_simp
        refine HDS.out.mono ?_
        rintro e w11 ⟨rfl, hb11⟩
        have HB11 := Lib.hid (HB10.out.trans (hb11.mono HB10.out.size))
        refine hKK.out _ _ ⟨range_below HS7.out.1 HL7.out.1 HB11.out, range_below HS7.out.2 HL7.out.2 HB11.out⟩ (fun hS => ?_)
        clear hKK hS hb11
        (repeat (first | (refine wpS_pass _ rfl (by rfl) ?_; simp only [Act.put, List.getElem_toArray, List.getElem_cons_zero, List.getElem_cons_succ, List.setIfInBounds_toArray, List.set_cons_zero, List.set_cons_succ]) | (refine wpS_take _ ?_ rfl (by rfl) ?_ ?_; rotate_left; (focus (intro w' hS'; (try dsimp only at hS'); (repeat (have hS1 := hS'.1; replace hS' := hS'.2)); go_simp; (try with_reducible rfl); done)); simp only [Act.put, List.getElem_toArray, List.getElem_cons_zero, List.getElem_cons_succ, List.setIfInBounds_toArray, List.set_cons_zero, List.set_cons_succ])))
        refine wpS_done ?_
        go_wp2_with fail
        exact HEX.out _ _ _ _ _ _ _ _ _ _ _ _ _ _ _ _ _ _ _ _ _ _ _ _ _ _ _ _ _ _ _ _ _ _ _ _ _ _ _ _ _ _ _ _ _ _ _ (some ⟨gm, 0, none⟩) (i + 1) ci (ids.take i) id _ _ _ true (stuckR r1) _ (Lib.hid (HKF.out.below HB11.out)) (Lib.hid HBF.out.1) (Lib.hid HBF.out.2)
  · obtain rfl : i = n := by omega
    go_wp2_with fail
    exact HEX.out _ _ _ _ _ _ _ _ _ _ _ _ _ _ _ _ _ _ _ _ _ _ _ _ _ _ _ _ _ _ _ _ _ _ _ _ _ _ _ _ _ _ _ _ _ _ _ Ai (i + 1) ci (ids.take i) Z32 _ _ _ false r1 _ HK (Lib.hid ⟨rfl, rfl, by rw [List.length_take]; omega⟩) (Lib.hid (.inl rfl))
end Go.Proofs.YtelbofikcpchiaaGreat
