
/- DiskRoom. (Printed by wip/genDk21.py.) -/

import Derived.Test.YtpmifpblamjclaaDk20

import Derived.Deep.CutBlock

namespace Go.Proofs.Ytpmifpblamjclaa

set_option linter.unusedVariables false

set_option linter.unusedSimpArgs false

set_option linter.unusedSectionVars false

open Go.RowKit

noncomputable def rmBlk (n : Nat) : Code := ((Try.f6.body.bind (findBlk n)).getD .skip)

set_option maxRecDepth 1000000 in
set_option maxHeartbeats 16000000 in
theorem rm_fill {u1 u2 u3 u4 u7 u8 u9 u10 u11 u12 u13 u14 u15 u16 u17 u18 u19 u20 u21 u22 u23 u24 u25 u26 u27 u31 u32 u33 u34 u35 u36 u37 u38 u39 u40 u41 u42 u43 u44 u45 u46 u47 u48 u49 u50 u51 u52 u53 u54 u55 u56 u57 u58 u59 u60 u61 u62 u63 u64 u65 u66 u67 u68 u69 u70 u71 u72 u73 u74 u75 u76 u77 u78 u79 u80 u81 u82 u83 u84 u85 u86 u87 u88 u89 u90 u91 u92 u93 u94 u95 u96 u97 u98 u99 u100 u101 u102 u103 u104 u105 u106 u107 u108 u109 u110 u111 u112 u113 u114 u115 u116 u117 u118 u119 u120 u121 u122 u123 u124 u125 u126 u127 u128 u129 u130 u131 u132 u133 u134 u135 u136 u137 u138 : Value} (w : World) (A : Option Addr) (ps : List PV) (n c : Nat) (HN : Hid (ps.length = n)) (hnl : n ≤ 9223372036854775807) (HR : Hid (Rd w A (ps.map PV.v))) (HP : Hid (∀ p ∈ ps, p.ok w)) (R : Nat) (hR : R ≤ 4095) (g : Nat) (m : DM) (d0 d : DA) (w1 : World) (A0 : Hid (Aft w.heap.size g w1 w1 (newM (R : Int)) d0 d0)) (B0 : Hid (Below w.heap.size w w1)) (HR0 : Hid (RS m R [] (firstN 0))) (HF0 : Hid (Fit 0 0 m)) (wr : World) (HA0 : Hid (Aft w.heap.size g w1 wr m d0 d)) (Q : Exit → Act → World → Prop)
    (hexit : ∀ (x4 x7 x8 x9 x10 x30 x31 x32 x33 x34 x35 x36 x37 x38 x39 x40 x41 x42 x43 x44 x45 x46 x47 x48 x49 x50 x51 x52 x53 x54 x55 x56 x57 x58 x59 x60 x61 x62 x63 x64 x65 x66 x67 x68 x69 x70 x71 x72 x73 x74 x75 : Value) (wx : World) (L : List (List UInt8)) (m : DM) (d : DA) (u : Nat), L.length ≤ 20 ∧ u ≤ R ∧ Hid (RS m R L (firstN L.length)) ∧ Hid (u = lenL L (firstN L.length)) ∧ Hid (Aft w.heap.size g w1 wx m d0 d) ∧ Hid (Fit L.length (2000 * L.length) m) → Q .normal ⟨#[.int .i64 (R : Int), u1, u2, u3, x4, .pointer (some ⟨g, 0, none⟩), .int .i64 (u : Int), x7, x8, x9, x10, u11, u12, u13, u14, u15, u16, u17, u18, u19, u20, u21, u22, u23, u24, u25, u26, u27, .slice A n c, .int .i64 (n : Int), x30, x31, x32, x33, x34, x35, x36, x37, x38, x39, x40, x41, x42, x43, x44, x45, x46, x47, x48, x49, x50, x51, x52, x53, x54, x55, x56, x57, x58, x59, x60, x61, x62, x63, x64, x65, x66, x67, x68, x69, x70, x71, x72, x73, x74, x75, u76, u77, u78, u79, u80, u81, u82, u83, u84, u85, u86, u87, u88, u89, u90, u91, u92, u93, u94, u95, u96, u97, u98, u99, u100, u101, u102, u103, u104, u105, u106, u107, u108, u109, u110, u111, u112, u113, u114, u115, u116, u117, u118, u119, u120, u121, u122, u123, u124, u125, u126, u127, u128, u129, u130, u131, u132, u133, u134, u135, u136, u137, u138], []⟩ wx) :
    Code.wp Try.prog (rmBlk 0) Q ⟨#[.int .i64 (R : Int), u1, u2, u3, u4, .pointer (some ⟨g, 0, none⟩), .int .i64 0, u7, u8, u9, u10, u11, u12, u13, u14, u15, u16, u17, u18, u19, u20, u21, u22, u23, u24, u25, u26, u27, .slice A n c, .int .i64 (n : Int), .int .i64 0, u31, u32, u33, u34, u35, u36, u37, u38, u39, u40, u41, u42, u43, u44, u45, u46, u47, u48, u49, u50, u51, u52, u53, u54, u55, u56, u57, u58, u59, u60, u61, u62, u63, u64, u65, u66, u67, u68, u69, u70, u71, u72, u73, u74, u75, u76, u77, u78, u79, u80, u81, u82, u83, u84, u85, u86, u87, u88, u89, u90, u91, u92, u93, u94, u95, u96, u97, u98, u99, u100, u101, u102, u103, u104, u105, u106, u107, u108, u109, u110, u111, u112, u113, u114, u115, u116, u117, u118, u119, u120, u121, u122, u123, u124, u125, u126, u127, u128, u129, u130, u131, u132, u133, u134, u135, u136, u137, u138], []⟩ wr := by
  have HEX := Lib.hid hexit
  clear hexit
  conv => arg 2; whnf
  go_wp2_with fail
  go_loopg [6, 30] (n * 1) (fun gk_ uv iv wr => ∃ (j : Nat) (L : List (List UInt8)) (m : DM) (d : DA) (u : Nat), j ≤ n ∧ gk_ = n - j ∧ uv = .int .i64 (u : Int) ∧ iv = .int .i64 (j : Int) ∧ j ≤ 20 ∧ u ≤ R ∧ Hid (L.length = j) ∧ Hid (RS m R L (firstN j)) ∧ Hid (u = lenL L (firstN j)) ∧ Hid (Aft w.heap.size g w1 wr m d0 d) ∧ Hid (Fit j (2000 * j) m))
  case atStart => exact ⟨0, [], m, d, 0, by omega, by omega, rfl, rfl, by omega, by omega, Lib.hid rfl, HR0, Lib.hid rfl, HA0, HF0⟩
  case round =>
  clear HR0 HA0 HF0
  clear m d
  obtain ⟨j, L, m, d, u, hj, rfl, rfl, rfl, hj20, huR, HLL, HRS, HUS, HA, HF⟩ := hrel
  by_cases hlt : j < n
  · have i1 : (j : Int) < (n : Int) := by omega
    have hjl : j < ps.length := by rw [HN.out]; exact hlt
    have BW := Lib.hid (B0.out.trans (HA.out.bel A0.out.disk B0.out.size))
    obtain ⟨b, o, hAe, hcell⟩ := (HR.out.below BW.out) j (ps[j].v) (by simp [hjl])
    have hpo := HP.out ps[j] (List.getElem_mem hjl)
    obtain ⟨q, hq⟩ : ∃ q, ps[j] = q := ⟨_, rfl⟩
    rw [hq] at hcell hpo
    obtain ⟨Ap, cp, p⟩ := q
    obtain ⟨pn, hpn⟩ : ∃ pn, p.length = pn := ⟨_, rfl⟩
    replace hcell : wr.cell? ⟨b, o + j, none⟩ = some (.slice Ap pn cp) := by rw [← hpn]; exact hcell
    obtain ⟨hrp, hpc, hpm⟩ := hpo
    dsimp only at hrp hpc hpm
    rw [hpn] at hpc
    have HRP := Lib.hid hrp
    have HPN := Lib.hid hpn
    have HAE := Lib.hid hAe
    rw [hAe]
    have hpb : pn ≤ 9223372036854775807 := by omega
    clear hAe hrp hpn hpc hpm hq hjl BW
    by_cases hj20' : 20 ≤ j
    · have i2 : (20 : Int) ≤ (j : Int) := by omega
      have HJ : Hid (∀ k, k = j → Q .normal = Q .normal) := Lib.hid (fun _ _ => rfl)
      rw [← HLL.out] at HRS HUS
      rw [← HLL.out] at HF
      have HL20 : Hid (L.length ≤ 20) := Lib.hid (by rw [HLL.out]; omega)
      have HU := Lib.hid huR
      go_wp2_with fail
      rw [← HAE.out]
      exact HEX.out _ _ _ _ _ _ _ _ _ _ _ _ _ _ _ _ _ _ _ _ _ _ _ _ _ _ _ _ _ _ _ _ _ _ _ _ _ _ _ _ _ _ _ _ _ _ _ _ _ _ _ _ L m d u ⟨HL20.out, HU.out, HRS, HUS, HA, HF⟩
    have i2 : ¬ ((20 : Int) ≤ (j : Int)) := by omega
    by_cases hpl : 2000 < pn
    · have i3 : (2000 : Int) < (pn : Int) := by omega
      rw [← HLL.out] at HRS HUS
      rw [← HLL.out] at HF
      have HL20 : Hid (L.length ≤ 20) := Lib.hid (by rw [HLL.out]; omega)
      have HU := Lib.hid huR
      go_wp2_with fail
      rw [← HAE.out]
      exact HEX.out _ _ _ _ _ _ _ _ _ _ _ _ _ _ _ _ _ _ _ _ _ _ _ _ _ _ _ _ _ _ _ _ _ _ _ _ _ _ _ _ _ _ _ _ _ _ _ _ _ _ _ _ L m d u ⟨HL20.out, HU.out, HRS, HUS, HA, HF⟩
    have i3 : ¬ ((2000 : Int) < (pn : Int)) := by omega
    obtain ⟨x, hx⟩ : ∃ x : UInt8, UInt8.ofNat (97 + j) = x := ⟨_, rfl⟩
    have hw8 := u8_wrap (i := j) (by omega)
    rw [hx] at hw8
    have HNM : Hid ((⟨#[x]⟩ : ByteArray).data.toList = nm L.length) := Lib.hid (by rw [← hx, HLL.out]; rfl)
    have hsz : Hid ((⟨#[x]⟩ : ByteArray).size ≤ maxLen) := Lib.hid (by show 1 ≤ maxLen; unfold maxLen; omega)
    have hst := str_one wr x
    have A2 := Lib.hid (Aft.below HA.out.disk ((Below.refl _ wr).alloc (Nat.le_refl _) (.cells #[.int .u8 (x.toNat : Int)] 5)))
    have HRL : Hid (RS m R L (firstN L.length)) := Lib.hid (by rw [HLL.out]; exact HRS.out)
    have HUL : Hid (lenL L (firstN L.length) = u) := Lib.hid (by rw [HLL.out]; exact HUS.out.symm)
    have HL20 : Hid (L.length < 20) := Lib.hid (by rw [HLL.out]; omega)
    obtain ⟨m1, hc1, hr1⟩ := HRL.out.make HL20.out
    have HC1 := Lib.hid hc1
    have HR1 := Lib.hid hr1
    clear hx hc1 hr1
    go_wp2_with fail
    refine (create_st (m' := m1) (e' := 0) A2.out.disk HF.out (by omega) (by omega) hsz.out (by rw [HNM.out]; exact HC1.out)).mono ?_
    rintro e w3 ⟨rfl, d3, ha, hf⟩
    have A3 := Lib.hid ((HA.out.trans A2.out).trans ha)
    have F3 := Lib.hid hf
    clear ha hf A2 hst hw8 HRS HUS HA HF
    have hw1 : IntKind.i64.wrap ((u : Int) + (pn : Int)) = (u : Int) + (pn : Int) := by rw [IntKind.wrap_i64]; omega
    by_cases hfit : R < u + pn
    · have i4 : (R : Int) < (u : Int) + (pn : Int) := by omega
      have HAP := Lib.hid (HR1.out.full (p := p) HL20.out (by rw [HUL.out, HPN.out]; exact hfit) (by rw [HUL.out]; exact huR))
      go_wp2_with fail
      refine (append_st (m' := m1) (e' := 51) (bs := p) A3.out.disk F3.out (by omega) (by omega) hsz.out HPN.out.symm (HRP.out.below (B0.out.trans (A3.out.bel A0.out.disk B0.out.size))) (far_bytes A3.out.disk rfl HRP.out) (by rw [HPN.out]; omega) (by rw [HNM.out]; exact HAP.out)).mono ?_
      rintro e w4 ⟨rfl, d4, ha, hf⟩
      have A4 := Lib.hid (A3.out.trans ha)
      have HF : Hid (Fit (j + 1) (2000 * (j + 1)) m1) := Lib.hid (hf.mono (by omega) (by rw [HPN.out]; omega))
      clear ha hf A3 F3
      have HRS : Hid (RS m1 R (L ++ [[]]) (firstN (j + 1))) := Lib.hid (by have := HR1.out; rw [HLL.out] at this; exact this)
      have HUS : Hid (u = lenL (L ++ [[]]) (firstN (j + 1))) := Lib.hid (by have := lenL_first L []; rw [HUL.out, HLL.out] at this; rw [this]; rfl)
      have hrm : roomM m1 = R - u := by rw [HRS.out.room, ← HUS.out]
      obtain ⟨r, hr⟩ : ∃ r, R - u = r := ⟨_, rfl⟩
      rw [hr] at hrm
      have HRM := Lib.hid hrm
      have hw2 : IntKind.i64.wrap ((R : Int) - (u : Int)) = (r : Int) := by rw [IntKind.wrap_i64]; omega
      have z2 : ((r : Int) != (r : Int)) = false := by simp
      clear hrm hr
      go_wp2_with fail
      refine (room_st A4.out.disk HF.out (by omega) (by omega) HRM.out).mono ?_
      rintro e w5 ⟨rfl, hb⟩
      have HA := Lib.hid (A4.out.then hb)
      clear hb A4
      replace HLL : Hid ((L ++ [[]]).length = j + 1) := Lib.hid (by rw [List.length_append, HLL.out]; rfl)
      go_wp2_with fail
      rw [← HAE.out]
      go_roundg (n - (j + 1))
      case measure => omega
      case rel => exact ⟨j + 1, L ++ [[]], m1, d4, u, by omega, rfl, rfl, by first | rfl | exact congrArg (Value.int .i64) (by omega) | go_num, by omega, by omega, HLL, HRS, HUS, HA, HF⟩
    · have i4 : ¬ ((R : Int) < (u : Int) + (pn : Int)) := by omega
      obtain ⟨m2, hc2, hr2⟩ := HR1.out.fill (p := p) HL20.out (by rw [HUL.out, HPN.out]; omega)
      have HC2 := Lib.hid hc2
      have HR2 := Lib.hid hr2
      clear hc2 hr2
      go_wp2_with fail
      refine (append_st (m' := m2) (e' := 0) (bs := p) A3.out.disk F3.out (by omega) (by omega) hsz.out HPN.out.symm (HRP.out.below (B0.out.trans (A3.out.bel A0.out.disk B0.out.size))) (far_bytes A3.out.disk rfl HRP.out) (by rw [HPN.out]; omega) (by rw [HNM.out]; exact HC2.out)).mono ?_
      rintro e w4 ⟨rfl, d4, ha, hf⟩
      have A4 := Lib.hid (A3.out.trans ha)
      have HF : Hid (Fit (j + 1) (2000 * (j + 1)) m2) := Lib.hid (hf.mono (by omega) (by rw [HPN.out]; omega))
      clear ha hf A3 F3
      have HRS : Hid (RS m2 R (L ++ [p]) (firstN (j + 1))) := Lib.hid (by have := HR2.out; rw [HLL.out] at this; exact this)
      obtain ⟨v, hv⟩ : ∃ v, u + pn = v := ⟨_, rfl⟩
      have HUS : Hid (v = lenL (L ++ [p]) (firstN (j + 1))) := Lib.hid (by have := lenL_first L p; rw [HUL.out, HLL.out, HPN.out, hv] at this; exact this.symm)
      have hrm : roomM m2 = R - v := by rw [HRS.out.room, ← HUS.out]
      obtain ⟨r, hr⟩ : ∃ r, R - v = r := ⟨_, rfl⟩
      rw [hr] at hrm
      have HRM := Lib.hid hrm
      replace hw1 : IntKind.i64.wrap ((u : Int) + (pn : Int)) = (v : Int) := by rw [hw1]; omega
      have hw3 : (u : Int) + (pn : Int) = (v : Int) := by omega
      have i5 : ¬ ((R : Int) < (v : Int)) := by omega
      have hw2 : IntKind.i64.wrap ((R : Int) - (v : Int)) = (r : Int) := by rw [IntKind.wrap_i64]; omega
      have hvR : v ≤ R := by omega
      have z2 : ((r : Int) != (r : Int)) = false := by simp
      clear hrm hr hv hfit
      go_wp2_with fail
      refine (room_st A4.out.disk HF.out (by omega) (by omega) HRM.out).mono ?_
      rintro e w5 ⟨rfl, hb⟩
      have HA := Lib.hid (A4.out.then hb)
      clear hb A4
      replace HLL : Hid ((L ++ [p]).length = j + 1) := Lib.hid (by rw [List.length_append, HLL.out]; rfl)
      go_wp2_with fail
      rw [← HAE.out]
      go_roundg (n - (j + 1))
      case measure => omega
      case rel => exact ⟨j + 1, L ++ [p], m2, d4, v, by omega, rfl, rfl, by first | rfl | exact congrArg (Value.int .i64) (by omega) | go_num, by omega, by omega, HLL, HRS, HUS, HA, HF⟩
  · obtain rfl : j = n := by omega
    rw [← HLL.out] at HRS HUS
    rw [← HLL.out] at HF
    have HL20 : Hid (L.length ≤ 20) := Lib.hid (by rw [HLL.out]; omega)
    have HU := Lib.hid huR
    go_wp2_with fail
    exact HEX.out _ _ _ _ _ _ _ _ _ _ _ _ _ _ _ _ _ _ _ _ _ _ _ _ _ _ _ _ _ _ _ _ _ _ _ _ _ _ _ _ _ _ _ _ _ _ _ _ _ _ _ _ L m d u ⟨HL20.out, HU.out, HRS, HUS, HA, HF⟩

set_option maxRecDepth 1000000 in
set_option maxHeartbeats 16000000 in
theorem rm_turn {u1 u2 u3 u4 u7 u8 u9 u10 u11 u12 u13 u14 u15 u16 u17 u18 u19 u20 u21 u22 u23 u24 u25 u26 u27 u28 u29 u30 u31 u32 u33 u34 u35 u36 u37 u38 u39 u40 u41 u42 u43 u44 u45 u46 u47 u48 u49 u50 u51 u52 u53 u54 u55 u56 u57 u58 u59 u60 u61 u62 u63 u64 u65 u66 u67 u68 u69 u70 u71 u72 u73 u74 u75 u76 u77 u78 u79 u80 u81 u82 u83 u84 u85 u86 u87 u88 u89 u90 u91 u92 u93 u94 u95 u96 u97 u98 u99 u100 u101 u102 u103 u104 u105 u106 u107 u108 u109 u110 u111 u112 u113 u114 u115 u116 u117 u118 u119 u120 u121 u122 u123 u124 u125 u126 u127 u128 u129 u130 u131 u132 u133 u134 u135 u136 u137 u138 : Value} (w : World) (R : Nat) (hR : R ≤ 4095) (L : List (List UInt8)) (i : Nat) (hi : i ≤ 20) (g : Nat) (m : DM) (d0 d : DA) (w1 : World) (u0 : Nat) (hu0 : u0 ≤ R) (HR0 : Hid (RS m R L (firstN i))) (HU0 : Hid (u0 = lenL L (firstN i))) (HF0 : Hid (Fit (20 + 0) 40000 m)) (wr : World) (HA0 : Hid (Aft w.heap.size g w1 wr m d0 d)) (Q : Exit → Act → World → Prop)
    (hexit : ∀ (x4 x11 x12 x13 x14 x15 x76 x77 x78 x79 x80 x81 x82 x83 x84 x85 x86 x87 x88 x89 x90 x91 x92 x93 x94 x95 x96 x97 x98 x99 x100 x101 x102 x103 x104 x105 x106 x107 x108 x109 x110 x111 x112 x113 x114 x115 x116 x117 x118 x119 x120 x121 x122 : Value) (wx : World) (ns : NM) (m : DM) (d : DA) (u : Nat), u ≤ R ∧ Hid (ns = [] ∨ ∃ k, k < 20 ∧ ns = [(nm k, 0)]) ∧ Hid (RS m R L ns) ∧ Hid (u = lenL L ns) ∧ Hid (Aft w.heap.size g w1 wx m d0 d) ∧ Hid (Fit 40 40000 m) → Q .normal ⟨#[.int .i64 (R : Int), u1, u2, u3, x4, .pointer (some ⟨g, 0, none⟩), .int .i64 (u : Int), u7, u8, u9, u10, x11, x12, x13, x14, x15, u16, u17, u18, u19, u20, u21, u22, u23, u24, u25, u26, u27, u28, u29, u30, u31, u32, u33, u34, u35, u36, u37, u38, u39, u40, u41, u42, u43, u44, u45, u46, u47, u48, u49, u50, u51, u52, u53, u54, u55, u56, u57, u58, u59, u60, u61, u62, u63, u64, u65, u66, u67, u68, u69, u70, u71, u72, u73, u74, u75, x76, x77, x78, x79, x80, x81, x82, x83, x84, x85, x86, x87, x88, x89, x90, x91, x92, x93, x94, x95, x96, x97, x98, x99, x100, x101, x102, x103, x104, x105, x106, x107, x108, x109, x110, x111, x112, x113, x114, x115, x116, x117, x118, x119, x120, x121, x122, u123, u124, u125, u126, u127, u128, u129, u130, u131, u132, u133, u134, u135, u136, u137, u138], []⟩ wx) :
    Code.wp Try.prog (rmBlk 2) Q ⟨#[.int .i64 (R : Int), u1, u2, u3, u4, .pointer (some ⟨g, 0, none⟩), .int .i64 (u0 : Int), u7, u8, u9, u10, u11, u12, u13, u14, u15, u16, u17, u18, u19, u20, u21, u22, u23, u24, u25, u26, u27, u28, u29, u30, u31, u32, u33, u34, u35, u36, u37, u38, u39, u40, u41, u42, u43, u44, u45, u46, u47, u48, u49, u50, u51, u52, u53, u54, u55, u56, u57, u58, u59, u60, u61, u62, u63, u64, u65, u66, u67, u68, u69, u70, u71, u72, u73, u74, u75, u76, u77, u78, u79, u80, u81, u82, u83, u84, u85, u86, u87, u88, u89, u90, u91, u92, u93, u94, u95, u96, u97, u98, u99, u100, u101, u102, u103, u104, u105, u106, u107, u108, u109, u110, u111, u112, u113, u114, u115, u116, u117, u118, u119, u120, u121, u122, u123, u124, u125, u126, u127, u128, u129, u130, u131, u132, u133, u134, u135, u136, u137, u138], []⟩ wr := by
  have HEX := Lib.hid hexit
  clear hexit
  conv => arg 2; whnf
  go_wp2_with fail
  go_loopg [6] (i * 1) (fun gk_ uv wr => ∃ (t u : Nat) (m : DM) (d : DA) (ns : NM) (q : Nat), gk_ = i - t ∧ uv = .int .i64 (u : Int) ∧ u ≤ R ∧ t ≤ i ∧ q = i - t ∧ Hid (ns.length = q) ∧ Hid (0 < q → ns = nowT t i) ∧ Hid (RS m R L ns) ∧ Hid (u = lenL L ns) ∧ Hid (Aft w.heap.size g w1 wr m d0 d) ∧ Hid (Fit (20 + t) 40000 m))
  case atStart => exact ⟨0, u0, m, d, firstN i, i, by omega, rfl, hu0, by omega, by omega, Lib.hid (firstN_len i), Lib.hid (fun h => nowT_zero (by omega) h), HR0, HU0, HA0, HF0⟩
  case round =>
  clear HR0 HU0 HA0 HF0
  clear m d
  obtain ⟨t, u, m, d, ns, q, rfl, rfl, huR, hti, hqe, HQL, HNS, HRS, HUS, HA, HF⟩ := hrel
  by_cases hq1 : 1 < q
  · have i1 : (1 : Int) < (q : Int) := by omega
    have hti1 : t + 1 < i := by omega
    have HQE := Lib.hid hqe
    clear hqe
    obtain rfl := HNS.out (by omega)
    obtain ⟨hk1, hk2, hk3⟩ := nowT_next (by omega) hti1
    have HK2 := Lib.hid hk2
    have HK3 := Lib.hid hk3
    have HRD1 := Lib.hid (HRS.out.read hk3)
    have HRD2 := Lib.hid (HRS.out.read hk2)
    obtain ⟨m2, hc2, hr2⟩ := HRS.out.rename (t := nm (t + 1)) rfl hk3
    rw [hk1] at hr2
    have HC2 := Lib.hid hc2
    have HR2 := Lib.hid hr2
    obtain ⟨nx, hnx0⟩ : ∃ nx, (L.getD 0 []).length = nx := ⟨_, rfl⟩
    obtain ⟨ny, hny0⟩ : ∃ ny, (L.getD (t + 1) []).length = ny := ⟨_, rfl⟩
    obtain ⟨u2, hu2⟩ : ∃ u2, lenL L (nowT (t + 1) i) = u2 := ⟨_, rfl⟩
    have hus := HUS.out
    rw [lenL_nowT L hti1, hu2, hny0] at hus
    have hle := lenL_head L (t + 1) i
    rw [hnx0, hu2] at hle
    have HNX := Lib.hid hnx0
    have HNY := Lib.hid hny0
    have HU2 := Lib.hid hu2
    clear hc2 hr2 hk1 hk2 hk3 hnx0 hny0 hu2
    go_wp2_with fail
    refine (names_st HA.out.disk HF.out (by omega) (by omega) HRS.out.now).mono ?_
    rintro e w3 ⟨v, rfl, ho, hb⟩
    obtain ⟨An1, cn1, rfl, _, _⟩ := own_slice ho
    have A3 := Lib.hid (HA.out.then hb)
    rw [HQL.out]
    clear ho hb HA
    go_wp2_with fail
    refine (names_st A3.out.disk HF.out (by omega) (by omega) HRS.out.now).mono ?_
    rintro e w4 ⟨v, rfl, ho, hb⟩
    obtain ⟨An, cn, rfl, _, _⟩ := own_slice ho
    have A4 := Lib.hid (A3.out.then hb)
    have hrd := own_rd ho
    rw [HQL.out]
    obtain ⟨bn, on, rfl, hall⟩ := hrd.all (by unfold namesC; rw [List.length_map, HQL.out]; omega)
    have k0 : w4.cell? ⟨bn, on, none⟩ = some (.string (nmB t)) := hall 0 _ (nowT_c0 t i)
    have k1 : w4.cell? ⟨bn, on + 1, none⟩ = some (.string (nmB (t + 1))) := hall 1 _ (nowT_c1 hti1)
    have HRN := Lib.hid hrd
    have HNF : Hid (¬ foot g d bn) := Lib.hid (fun hf => by
      have h1 := (ho.lt bn rfl).1
      have h2 := A3.out.disk.foot_lt hf
      omega)
    have i0 : (0 : Int) < (q : Int) := by omega
    have hq0 : 0 < q := by omega
    obtain ⟨S0, hS0⟩ : ∃ S, nmB t = S := ⟨_, rfl⟩
    obtain ⟨S1, hS1⟩ : ∃ S, nmB (t + 1) = S := ⟨_, rfl⟩
    rw [hS0] at k0
    rw [hS1] at k1
    have HS0 : Hid (S0.data.toList = nm t ∧ S0.size ≤ maxLen) := Lib.hid (by rw [← hS0]; exact ⟨nmB_l t, nmB_s t⟩)
    have HS1 : Hid (S1.data.toList = nm (t + 1) ∧ S1.size ≤ maxLen) := Lib.hid (by rw [← hS1]; exact ⟨nmB_l (t + 1), nmB_s (t + 1)⟩)
    have HC0 : Hid (∀ w', Below w4.heap.size w4 w' → w'.cell? ⟨bn, on, none⟩ = some (.string S0) ∧ w'.cell? ⟨bn, on + 1, none⟩ = some (.string S1)) := Lib.hid (fun w' hb' => by
      have hr' := HRN.out.below hb'
      obtain ⟨b1, o1, e1, c1⟩ := hr' 0 _ (nowT_c0 t i)
      obtain ⟨b2, o2, e2, c2⟩ := hr' 1 _ (nowT_c1 hti1)
      cases e1
      cases e2
      rw [← hS0, ← hS1]
      exact ⟨c1, c2⟩)
    clear ho hb hrd hall hS0 hS1 A3
    go_wp2_with fail
    refine (read_st (bs := L.getD 0 []) (e' := 0) A4.out.disk HF.out (by omega) (by omega) HS0.out.2 (by rw [HS0.out.1]; exact HRD1.out)).mono ?_
    rintro e w5 ⟨v, rfl, ho⟩
    obtain ⟨Ax, nx', cx, rfl, hnx, _, _, _, _⟩ := ho.sliceN
    have A5 := Lib.hid (A4.out.then ho.bel)
    have BB5 := Lib.hid ho.bel
    obtain rfl : nx = nx' := by rw [hnx]; exact HNX.out.symm
    obtain ⟨k0', k1'⟩ := HC0.out w5 ho.bel
    clear ho hnx k0 k1 A4
    go_wp2_with fail
    refine (read_st (bs := L.getD (t + 1) []) (e' := 0) A5.out.disk HF.out (by omega) (by omega) HS1.out.2 (by rw [HS1.out.1]; exact HRD2.out)).mono ?_
    rintro e w6 ⟨v, rfl, ho⟩
    obtain ⟨Ay, ny', cy, rfl, hny, _, _, _, _⟩ := ho.sliceN
    have A6 := Lib.hid (A5.out.then ho.bel)
    have BB6 := Lib.hid (ext_trans BB5.out ho.bel)
    obtain rfl : ny = ny' := by rw [hny]; exact HNY.out.symm
    obtain ⟨k0, k1⟩ := HC0.out w6 BB6.out
    clear ho hny k0' k1' A5
    go_wp2_with fail
    refine wp_region_sched (fun w' => w'.cell? ⟨bn, on, none⟩ = some (.string S0) ∧ w'.cell? ⟨bn, on + 1, none⟩ = some (.string S1)) [(true, 0), (true, 1), (true, 2), (true, 3), (true, 4), (true, 5), (true, 6), (false, 7), (true, 8)] (by kernel_rfl) (by kernel_rfl) rfl (by kernel_rfl) ⟨k0, k1⟩ ?_
    (first | (refine wpS_pass _ rfl (by rfl) ?_; simp only [Act.put, List.getElem_toArray, List.getElem_cons_zero, List.getElem_cons_succ, List.setIfInBounds_toArray, List.set_cons_zero, List.set_cons_succ]) | (refine wpS_take _ ?_ rfl (by rfl) ?_ ?_; rotate_left; (focus (intro w' hS'; (try dsimp only at hS'); (repeat (have hS1 := hS'.1; replace hS' := hS'.2)); go_simp; (try with_reducible rfl); done)); simp only [Act.put, List.getElem_toArray, List.getElem_cons_zero, List.getElem_cons_succ, List.setIfInBounds_toArray, List.set_cons_zero, List.set_cons_succ]))
    (first | (refine wpS_pass _ rfl (by rfl) ?_; simp only [Act.put, List.getElem_toArray, List.getElem_cons_zero, List.getElem_cons_succ, List.setIfInBounds_toArray, List.set_cons_zero, List.set_cons_succ]) | (refine wpS_take _ ?_ rfl (by rfl) ?_ ?_; rotate_left; (focus (intro w' hS'; (try dsimp only at hS'); (repeat (have hS1 := hS'.1; replace hS' := hS'.2)); go_simp; (try with_reducible rfl); done)); simp only [Act.put, List.getElem_toArray, List.getElem_cons_zero, List.getElem_cons_succ, List.setIfInBounds_toArray, List.set_cons_zero, List.set_cons_succ]))
    (first | (refine wpS_pass _ rfl (by rfl) ?_; simp only [Act.put, List.getElem_toArray, List.getElem_cons_zero, List.getElem_cons_succ, List.setIfInBounds_toArray, List.set_cons_zero, List.set_cons_succ]) | (refine wpS_take _ ?_ rfl (by rfl) ?_ ?_; rotate_left; (focus (intro w' hS'; (try dsimp only at hS'); (repeat (have hS1 := hS'.1; replace hS' := hS'.2)); go_simp; (try with_reducible rfl); done)); simp only [Act.put, List.getElem_toArray, List.getElem_cons_zero, List.getElem_cons_succ, List.setIfInBounds_toArray, List.set_cons_zero, List.set_cons_succ]))
    refine wpS_take _ (.string S0) rfl (by rfl) (fun w' hS' => ?_) ?_
    · have hSa := hS'.1
      go_simp
    simp only [Act.put, List.getElem_toArray, List.getElem_cons_zero, List.getElem_cons_succ, List.setIfInBounds_toArray, List.set_cons_zero, List.set_cons_succ]
    (first | (refine wpS_pass _ rfl (by rfl) ?_; simp only [Act.put, List.getElem_toArray, List.getElem_cons_zero, List.getElem_cons_succ, List.setIfInBounds_toArray, List.set_cons_zero, List.set_cons_succ]) | (refine wpS_take _ ?_ rfl (by rfl) ?_ ?_; rotate_left; (focus (intro w' hS'; (try dsimp only at hS'); (repeat (have hS1 := hS'.1; replace hS' := hS'.2)); go_simp; (try with_reducible rfl); done)); simp only [Act.put, List.getElem_toArray, List.getElem_cons_zero, List.getElem_cons_succ, List.setIfInBounds_toArray, List.set_cons_zero, List.set_cons_succ]))
    (first | (refine wpS_pass _ rfl (by rfl) ?_; simp only [Act.put, List.getElem_toArray, List.getElem_cons_zero, List.getElem_cons_succ, List.setIfInBounds_toArray, List.set_cons_zero, List.set_cons_succ]) | (refine wpS_take _ ?_ rfl (by rfl) ?_ ?_; rotate_left; (focus (intro w' hS'; (try dsimp only at hS'); (repeat (have hS1 := hS'.1; replace hS' := hS'.2)); go_simp; (try with_reducible rfl); done)); simp only [Act.put, List.getElem_toArray, List.getElem_cons_zero, List.getElem_cons_succ, List.setIfInBounds_toArray, List.set_cons_zero, List.set_cons_succ]))
    refine wpS_take _ (.string S1) rfl (by rfl) (fun w' hS' => ?_) ?_
    · have hSa := hS'.2
      go_simp
    simp only [Act.put, List.getElem_toArray, List.getElem_cons_zero, List.getElem_cons_succ, List.setIfInBounds_toArray, List.set_cons_zero, List.set_cons_succ]
    refine wpS_do _ rfl (by rfl) (fun K hK => ?_)
    go_simp
    refine (rename_st (m' := m2) (e' := 0) A6.out.disk.drew HF.out (by omega) (by omega) HS0.out.2 HS1.out.2 (by rw [HS0.out.1, HS1.out.1]; exact HC2.out)).mono ?_
    rintro e w7 ⟨rfl, d7, ha, hf⟩
    dsimp only
    have HA : Hid (Aft w.heap.size g w1 w7 m2 d0 d7) := Lib.hid ((A6.out.trans ⟨A6.out.disk.drew, ⟨rfl, rfl, rfl, Nat.le_refl _, fun _ _ _ => rfl⟩, fun b hb => .inl hb⟩).trans ha)
    have HF2 : Hid (Fit (20 + (t + 1)) 40000 m2) := Lib.hid hf
    have HFAR : Hid (w7.cell? ⟨bn, on, none⟩ = some (.string S0) ∧ w7.cell? ⟨bn, on + 1, none⟩ = some (.string S1)) := Lib.hid (by
      have hnf : ¬ foot g d bn := HNF.out
      have hlt := World.block_lt_of_cell? _ _ k0
      have hh : w7.heap[bn]? = w6.heap[bn]? := ha.frm.block bn hlt hnf
      exact ⟨(World.cell?_of_block (a := ⟨bn, on, none⟩) hh).trans k0, (World.cell?_of_block (a := ⟨bn, on + 1, none⟩) hh).trans k1⟩)
    refine hK.out _ _ HFAR.out (fun hS' => ?_)
    clear hS' hK ha hf A6 k0 k1
    (first | (refine wpS_pass _ rfl (by rfl) ?_; simp only [Act.put, List.getElem_toArray, List.getElem_cons_zero, List.getElem_cons_succ, List.setIfInBounds_toArray, List.set_cons_zero, List.set_cons_succ]) | (refine wpS_take _ ?_ rfl (by rfl) ?_ ?_; rotate_left; (focus (intro w' hS'; (try dsimp only at hS'); (repeat (have hS1 := hS'.1; replace hS' := hS'.2)); go_simp; (try with_reducible rfl); done)); simp only [Act.put, List.getElem_toArray, List.getElem_cons_zero, List.getElem_cons_succ, List.setIfInBounds_toArray, List.set_cons_zero, List.set_cons_succ]))
    refine wpS_done ?_
    have hw2 : IntKind.i64.wrap ((u : Int) - (ny : Int)) = (u2 : Int) := by rw [IntKind.wrap_i64]; omega
    have hw4 : (u : Int) - (ny : Int) = (u2 : Int) := by omega
    have hrm : roomM m2 = R - u2 := by rw [HR2.out.room, HU2.out]
    obtain ⟨r, hr⟩ : ∃ r, R - u2 = r := ⟨_, rfl⟩
    rw [hr] at hrm
    have HRM := Lib.hid hrm
    have hw3 : IntKind.i64.wrap ((R : Int) - (u2 : Int)) = (r : Int) := by rw [IntKind.wrap_i64]; omega
    have z2 : ((r : Int) != (r : Int)) = false := by simp
    have i5 : ¬ ((u2 : Int) < (nx : Int)) := by omega
    have hu2R : u2 ≤ R := by omega
    clear hrm hr hus
    go_wp2_with fail
    refine (room_st HA.out.disk HF2.out (by omega) (by omega) HRM.out).mono ?_
    rintro e w8 ⟨rfl, hb⟩
    have HA2 := Lib.hid (HA.out.then hb)
    clear hb HA
    go_wp2_with fail
    go_roundg (i - (t + 1))
    case measure => omega
    case rel => exact ⟨t + 1, u2, m2, d7, nowT (t + 1) i, q - 1, rfl, rfl, by omega, by omega, by have := HQE.out; omega, Lib.hid (by rw [nowT_len hti1]; have := HQE.out; omega), Lib.hid (fun _ => rfl), HR2, Lib.hid HU2.out.symm, HA2, HF2⟩
  · have i1 : ¬ ((1 : Int) < (q : Int)) := by omega
    have HQE := Lib.hid hqe
    have hq20 : q ≤ 20 := by omega
    clear hqe
    have HEND : Hid (ns = [] ∨ ∃ k, k < 20 ∧ ns = [(nm k, 0)]) := Lib.hid (by
      rcases Nat.eq_zero_or_pos q with h0 | h0
      · exact .inl (List.length_eq_zero_iff.1 (by rw [HQL.out, h0]))
      · refine .inr ⟨t, by have := HQE.out; omega, ?_⟩
        rw [HNS.out h0]
        have e : i = t + 1 := by have := HQE.out; omega
        rw [e]
        exact (nowT_last (by omega)).1)
    have HF2 : Hid (Fit 40 40000 m) := Lib.hid (HF.out.mono (by omega) (Nat.le_refl _))
    go_wp2_with fail
    refine (names_st HA.out.disk HF.out (by omega) (by omega) HRS.out.now).mono ?_
    rintro e w3 ⟨v, rfl, ho, hb⟩
    obtain ⟨An1, cn1, rfl, _, _⟩ := own_slice ho
    have A3 := Lib.hid (HA.out.then hb)
    rw [HQL.out]
    clear ho hb HA
    go_wp2_with fail
    exact HEX.out _ _ _ _ _ _ _ _ _ _ _ _ _ _ _ _ _ _ _ _ _ _ _ _ _ _ _ _ _ _ _ _ _ _ _ _ _ _ _ _ _ _ _ _ _ _ _ _ _ _ _ _ _ _ ns m d u ⟨huR, HEND, HRS, HUS, A3, HF2⟩

set_option maxRecDepth 1000000 in
set_option maxHeartbeats 16000000 in
theorem room_law (room : Int) (A : Option Addr) (ps : List PV) (n c : Nat) (hn : ps.length = n) (hnl : n ≤ 9223372036854775807) (w : World) (hr : Rd w A (ps.map PV.v)) (hp : ∀ p ∈ ps, p.ok w) :
    Calls Try.prog 6 #[.int .i64 room, .slice A n c] w fun e w' => e = .returned (.bool true) ∧ Below w.heap.size w w' := by
  have HR := Lib.hid hr
  have HP := Lib.hid hp
  have HN := Lib.hid hn
  clear hr hp hn
  obtain ⟨R, hR, hRa⟩ : ∃ n : Nat, n ≤ 4095 ∧ bits .and .i64 room 4095 = (n : Int) := i64_and_mask room 4095 (by decide)
  have HNW := Lib.hid (new_any (R : Int) (by omega) w)
  go_enter Try.func6, Try.ntmps6
  go_wp2_with fail
  refine HNW.out.mono ?_
  rintro e w1 ⟨g, d0, rfl, hd0, hb0⟩
  have A0 := Lib.hid (Aft.refl hd0)
  have B0 := Lib.hid hb0
  have F0 : Hid (Fit 0 0 (newM (R : Int))) := Lib.hid (fit_new (R : Int) (by omega))
  clear hd0 hb0
  go_wp2_with fail
  refine (alive_any _).mono ?_
  rintro e w2 ⟨rfl, hb⟩
  have A1 := Lib.hid (A0.out.then hb)
  clear hb
  go_upto_block 0 with (fail)
  refine rm_fill w A ps n c HN hnl HR HP R hR g _ d0 d0 w1 A0 B0 (Lib.hid (RS.start R)) F0 _ A1 _ ?_
  intros
  rename_i wx L m d u hx
  obtain ⟨hL, huR, HRS, HUS, HA, HF⟩ := hx
  have HF2 : Hid (Fit (20 + 0) 40000 m) := Lib.hid (HF.out.mono (by omega) (by omega))
  clear HF A1 F0
  go_upto_block 2 with (fail)
  refine rm_turn w R hR L L.length hL g m d0 d w1 u huR HRS HUS HF2 _ HA _ ?_
  intros
  rename_i wy ns m3 d3 u3 hy
  clear HRS HUS HF2 HA
  obtain ⟨hu3, HEND, HRS, HUS, HA, HF⟩ := hy
  obtain ⟨q, hq⟩ : ∃ q, ns.length = q := ⟨_, rfl⟩
  have HQL := Lib.hid hq
  have hq1 : q ≤ 1 := by
    rcases HEND.out with e | ⟨k, _, e⟩
    · rw [← hq, e]; simp
    · rw [← hq, e]; simp
  clear hq
  go_wp2_with fail
  refine (names_st HA.out.disk HF.out (by omega) (by omega) HRS.out.now).mono ?_
  rintro e w4 ⟨v, rfl, ho, hb⟩
  obtain ⟨An, cn, rfl, _, _⟩ := own_slice ho
  have A4 := Lib.hid (HA.out.then hb)
  have HRN := Lib.hid (own_rd ho)
  have HNF : Hid (∀ a, An = some a → ¬ foot g d3 a.block) := Lib.hid (fun a ha hf => by
    subst ha
    have h1 := (ho.lt a.block rfl).1
    have h2 := HA.out.disk.foot_lt hf
    omega)
  rw [HQL.out]
  clear ho hb HA
  go_wp2_with fail
  go_loopg [126] (q * 1) (fun gk_ iv wr => ∃ (j : Nat) (m : DM) (d : DA) (ks : NM), j ≤ q ∧ gk_ = q - j ∧ iv = .int .i64 (j : Int) ∧ Hid (RS m R L ks) ∧ Hid (j = 0 → ks = ns) ∧ Hid (0 < j → ks = []) ∧ Hid (Aft w.heap.size g w1 wr m d0 d) ∧ Hid (Fit (40 + j) 40000 m) ∧ Hid (j = 0 → Rd wr An (namesC ns)))
  case atStart => exact ⟨0, m3, d3, ns, by omega, by omega, rfl, HRS, Lib.hid (fun _ => rfl), Lib.hid (fun h => absurd h (by omega)), A4, HF, Lib.hid (fun _ => HRN.out)⟩
  case round =>
  clear A4 HF HRS
  obtain ⟨j, m4, d4, ks, hj, rfl, rfl, HRS, HK0, HK1, HA, HF, HFR⟩ := hrel
  by_cases hlt : j < q
  · have i1 : (j : Int) < (q : Int) := by omega
    obtain rfl : j = 0 := by omega
    obtain rfl : ns = ks := (HK0.out rfl).symm
    obtain ⟨k, hk20, hnk⟩ : ∃ k, k < 20 ∧ ns = [(nm k, 0)] := by
      rcases HEND.out with e | h
      · have := HQL.out
        rw [e] at this
        simp at this
        omega
      · exact h
    have hrd : Rd wr An (namesC ns) := HFR.out rfl
    obtain ⟨bn, on, hAn, hcell⟩ := hrd 0 (.string (nmB k)) (by rw [hnk]; rfl)
    obtain ⟨S, hS⟩ : ∃ S, nmB k = S := ⟨_, rfl⟩
    rw [hS] at hcell
    replace hcell : wr.cell? ⟨bn, on, none⟩ = some (.string S) := hcell
    have HS : Hid (S.data.toList = nm k ∧ S.size ≤ maxLen) := Lib.hid (by rw [← hS]; exact ⟨nmB_l k, nmB_s k⟩)
    obtain ⟨hl1, hl2, hl3⟩ := nowT_last hk20
    have hrs := HRS.out
    rw [hnk] at hrs
    obtain ⟨m5, hc5, hr5⟩ := hrs.remove hl3
    rw [hl2] at hr5
    have HC5 := Lib.hid hc5
    have HR5 := Lib.hid hr5
    have HAN := Lib.hid hAn
    rw [hAn]
    clear hrd hS hrs hc5 hr5 hl1 hl2 hl3 hnk
    go_wp2_with fail
    refine (remove_st (m' := m5) (e' := 0) HA.out.disk HF.out (by omega) (by omega) HS.out.2 (by rw [HS.out.1]; exact HC5.out)).mono ?_
    rintro e w6 ⟨rfl, d6, ha, hf⟩
    have A6 := Lib.hid (HA.out.trans ha)
    have F6 : Hid (Fit (40 + 1) 40000 m5) := Lib.hid hf
    clear ha hf hcell
    go_wp2_with fail
    rw [← HAN.out]
    go_roundg (q - 1)
    case measure => omega
    case rel => exact ⟨1, m5, d6, [], by omega, rfl, by first | rfl | exact congrArg (Value.int .i64) (by omega) | go_num, HR5, Lib.hid (fun h => absurd h (by decide)), Lib.hid (fun _ => rfl), A6, F6, Lib.hid (fun h => absurd h (by decide))⟩
  · obtain rfl : j = q := by omega
    have HNIL : Hid (ks = []) := Lib.hid (by
      rcases Nat.eq_zero_or_pos j with h0 | h0
      · rw [HK0.out h0]
        exact List.length_eq_zero_iff.1 (by rw [HQL.out, h0])
      · exact HK1.out h0)
    have HRM : Hid (roomM m4 = R) := Lib.hid (by rw [HRS.out.room, HNIL.out]; simp [lenL])
    have z1 : ((R : Int) == (R : Int)) = true := by simp
    go_wp2_with fail
    refine (room_st HA.out.disk HF.out (by omega) (by omega) HRM.out).mono ?_
    rintro e w8 ⟨rfl, hb⟩
    have HA2 := Lib.hid (HA.out.then hb)
    clear hb HA
    go_wp2_with fail
    go_ret
    exact ⟨rfl, B0.out.trans (HA2.out.bel A0.out.disk B0.out.size)⟩
end Go.Proofs.Ytpmifpblamjclaa
