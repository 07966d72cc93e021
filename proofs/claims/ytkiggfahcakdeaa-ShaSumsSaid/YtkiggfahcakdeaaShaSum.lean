
/- What sha.Sum makes: begin, rounds, Sum. -/

import Derived.Test.YtkiggfahcakdeaaShaSumO

import Derived.Test.YtkiggfahcakdeaaClone

import Derived.Test.YtkiggfahcakdeaaShaHexL

namespace Go.Proofs.Ytkiggfahcakdeaa

set_option linter.unusedVariables false

set_option linter.unusedSimpArgs false

open Go.RowKit

theorem w32s_H0 : (w32s H0.list).toArray = #[.int .u32 1779033703, .int .u32 3144134277, .int .u32 1013904242, .int .u32 2773480762, .int .u32 1359893119, .int .u32 2600822924, .int .u32 528734635, .int .u32 1541459225] := by rfl

theorem results_row1 {P : Program} {fn : Func} {p : Tmp} {ty : TypeId} (h : fn.results = #[.cell p ty]) (tmps : Array Value) (w : World) (g : Nat) (t : TypeId) (cs : Array Value) (fr : Nat × Nat) (d : TypeDesc)
    (hp : tmps.getD p undef = .pointer (some ⟨g, 0, none⟩)) (hg : w.heap[g]? = some (.cells cs t fr))
    (hu : P.underlying ty = some d) (hd : (match d with | .struct _ | .array _ _ => true | _ => false) = true) (hi : (P.info? ty).map (·.size) = some cs.size) :
    (results fn tmps).run P w = .ok (.agg cs) w := by
  have hp' : tmps[p]?.getD undef = .pointer (some ⟨g, 0, none⟩) := by simpa using hp
  simp [results, h, hp', asAddr, run_loadVar_row w g t ty cs fr d hg hu hd hi]

set_option maxRecDepth 100000 in
set_option maxHeartbeats 1000000 in
theorem begin_any (w : World) : Calls Try.prog 34 #[] w fun e w' => e = .returned (.agg (w32s H0.list).toArray) ∧ Below w.heap.size w w' := by
  obtain ⟨gv, Wa, W5, hH, hWa, hW5, HTH, HV, HB5, HS5⟩ := w8_place (w := w) 69 H0
  have HI8 : Hid ((Try.prog.info? 69).map (·.size) = some (w32s H0.list).toArray.size) := Lib.hid info_state
  have HL := Lib.hid w32s_H0
  obtain ⟨R, hR⟩ : ∃ R, (w32s H0.list).toArray = R := ⟨_, rfl⟩
  rw [hR] at hW5 HTH HV HI8 HL ⊢
  have HO : Hid (R.all (·.oneCell') = true) := Lib.hid (by rw [← hR]; exact all_oneCell_toArray (w32s_one _))
  have HW5 := Lib.hid hW5
  clear hW5 hR
  go_enter Try.func34, Try.ntmps34
  go_wp2_with ((with_reducible (refine wpList_store_mid rfl _ _ _ rfl ?_ ?_ ?_ ?_ ?_ ?_ ?_ ?_ ?_)); (exact gv); (exact 0); (exact R); (exact rfl); (exact congrArg Value.agg HL.out.symm); (exact HTH.out); (exact HI8.out); (exact HO.out); rw [HW5.out])
  refine bodyPost_ret (results_row1 rfl _ _ _ _ _ _ _ rfl HV.out Try.underlying69 rfl HI8.out) rfl ?_
  exact ⟨rfl, HB5.out⟩

set_option maxRecDepth 100000 in
set_option maxHeartbeats 1000000 in
theorem rounds_any (w : World) : Calls Try.prog 35 #[] w fun e w' => e = .returned (.pointer (some ⟨w.heap.size, 0, none⟩)) ∧ w'.heap[w.heap.size]? = some (.cells (w32s K0).toArray 98 (0, 0)) ∧ Below w.heap.size w w' := by
  go_enter Try.func35, Try.ntmps35
  go_wp2
  go_ret
  exact ⟨rfl, heap_alloc_new w _, (Below.refl _ _).alloc (Nat.le_refl _) _⟩

theorem rd_drop_map {w : World} {AA : Option Addr} {R : List UInt8} (h : Rd w AA (b8s R)) : Rd w (AA.map fun x => ⟨x.block, x.off + 64, none⟩) (b8s (R.drop 64)) := fun j u hu => by
  rw [b8s_drop, List.getElem?_drop] at hu
  obtain ⟨b, o, rfl, hcell⟩ := h _ u hu
  exact ⟨b, o + 64, rfl, by rw [Nat.add_assoc]; exact hcell⟩
theorem rd_drop_none {w : World} {AA : Option Addr} {R : List UInt8} (h : R.length ≤ 64) : Rd w AA (b8s (R.drop 64)) := by
  rw [List.drop_of_length_le h]; exact Rd.nil

theorem len_byte (n k : Nat) (h : k < 8) : ((n : Int) * 8 / 2 ^ (8 * (7 - k)) % 256) = ((UInt8.ofNat (8 * n / 2 ^ (56 - 8 * k))).toNat : Int) := by
  rw [UInt8.toNat_ofNat', show 56 - 8 * k = 8 * (7 - k) by omega, Nat.mul_comm 8 n, Int.natCast_emod, Int.natCast_ediv, Int.natCast_mul, Int.natCast_pow]
  rfl
theorem len8_succ (n k : Nat) (h : k < 8) : (len8 n).take (k + 1) = (len8 n).take k ++ [UInt8.ofNat (n / 2 ^ (56 - 8 * k))] := by
  have hl : k < (len8 n).length := by simp [len8]; exact h
  rw [List.take_succ_eq_append_getElem hl]
  simp [len8]

theorem shaL_split (bs : List UInt8) (m i : Nat) (h : 64 * m ≤ bs.length) (hi : 64 * i = (bs.drop (64 * m) ++ padOf bs.length).length) : shaL bs = outB (eat K0 (bs.drop (64 * m) ++ padOf bs.length) i (eat K0 bs m H0)) := by
  have hp : padded bs = bs.take (64 * m) ++ (bs.drop (64 * m) ++ padOf bs.length) := by rw [padded, ← List.append_assoc, List.take_append_drop]
  have hl : (padded bs).length / 64 = m + i := by
    rw [hp, List.length_append, List.length_take]; omega
  have h1 : eat K0 bs m H0 = eat K0 (bs.take (64 * m)) m H0 := by
    have := eat_front K0 (bs.take (64 * m)) (bs.drop (64 * m)) H0 m (by rw [List.length_take]; omega)
    rwa [List.take_append_drop] at this
  unfold shaL
  rw [hl, hp, eat_append K0 _ _ H0 m (by rw [List.length_take]; omega), h1]
theorem index_w32 {P : Program} {t e : TypeId} {N : Nat} {l : List W32} (n : Nat) (k : IntKind) (w : World) (ht : P.underlying t = some (.array N e)) (hi : (P.info? e).map (·.size) = some 1) (hk : P.plainKey e = true) (hl : l.length = N) (hn : n < l.length) :
    (Instr.index t (.agg (w32s l).toArray) (.int k (n : Int))).run P w = .ok (.int .u32 (l[n].toNat : Int)) w := by
  obtain ⟨j, hj, hjs⟩ := Option.map_eq_some_iff.1 hi
  have h1 := run_part_plain (P := P) w (e := e) (xs := (w32s l).toArray) (off := n * 1) (v := .int .u32 (l[n].toNat : Int)) hk (by rw [Nat.mul_one]; simp [w32s, hn])
  have h2 : (n : Int) < (N : Int) := by omega
  simp only [Nat.mul_one] at h1
  have h3 : ¬ N ≤ n := by omega
  simp [Instr.index, asIntOf, run_underlying ht, h2, h3, sizeOf, typeInfo, hj, hjs, h1]

set_option maxRecDepth 100000 in
set_option maxHeartbeats 1000000 in
theorem sum_any (A : Option Addr) (bs : List UInt8) (c : Nat) (w : World) (hr : Rd w A (b8s bs)) (hm : bs.length ≤ 140737488355328) (hcap : bs.length ≤ c) (hc2 : c ≤ 9223372036854775807) :
    Calls Try.prog 19 #[.slice A bs.length c] w fun e w' => e = .returned (.agg (b8s (shaL bs)).toArray) ∧ Below w.heap.size w w' := by
  have HR := Lib.hid hr
  clear hr
  obtain ⟨Wa, hWa⟩ : ∃ Wa, w.alloc (.cells #[Value.int .u8 0, Value.int .u8 0, Value.int .u8 0, Value.int .u8 0, Value.int .u8 0, Value.int .u8 0, Value.int .u8 0, Value.int .u8 0, Value.int .u8 0, Value.int .u8 0, Value.int .u8 0, Value.int .u8 0, Value.int .u8 0, Value.int .u8 0, Value.int .u8 0, Value.int .u8 0, Value.int .u8 0, Value.int .u8 0, Value.int .u8 0, Value.int .u8 0, Value.int .u8 0, Value.int .u8 0, Value.int .u8 0, Value.int .u8 0, Value.int .u8 0, Value.int .u8 0, Value.int .u8 0, Value.int .u8 0, Value.int .u8 0, Value.int .u8 0, Value.int .u8 0, Value.int .u8 0] 23) = Wa := ⟨_, rfl⟩
  have hid0 : Wa.heap[w.heap.size]? = some (.cells (b8s zeros32).toArray 23 (0, 0)) := by rw [← hWa]; exact heap_alloc_new w _
  have hba : Below w.heap.size w Wa := by rw [← hWa]; exact (Below.refl _ _).alloc (Nat.le_refl _) _
  have hsa : Wa.heap.size = w.heap.size + 1 := by rw [← hWa]; simp
  have HID := Lib.hid hid0
  have HBA := Lib.hid hba
  have HSA := Lib.hid hsa
  clear hid0 hba hsa
  go_enter Try.func19, Try.ntmps19
  go_wp2_with fail
  refine (begin_any Wa).mono ?_
  rintro e w1 ⟨rfl, hb1⟩
  go_wp2_with fail
  refine (rounds_any w1).mono ?_
  rintro e w2 ⟨rfl, hk2, hb2⟩
  obtain ⟨gs, Wb, W5, hH, hWb, hW5, HTH, HV, HB5, HS5⟩ := w8_place (w := w2) 69 H0
  have HI8 : Hid ((Try.prog.info? 69).map (·.size) = some (w32s H0.list).toArray.size) := Lib.hid info_state
  have HW5 := Lib.hid hW5
  clear hW5
  go_wp2_with ((with_reducible (refine wpList_store_mid rfl _ _ _ rfl ?_ ?_ ?_ ?_ ?_ ?_ ?_ ?_ ?_)); (exact gs); (exact 0); (exact (w32s H0.list).toArray); (exact rfl); (exact rfl); (exact HTH.out); (exact HI8.out); (exact all_oneCell_toArray (w32s_one _)); rw [HW5.out])
  have hgk : w1.heap.size < w2.heap.size := (Array.getElem?_eq_some_iff.1 hk2).1
  have hgs : w1.heap.size < gs := by omega
  have hia : w.heap.size < w1.heap.size := by have := HSA.out; have := hb1.size; omega
  have hB1 := HBA.out.trans (hb1.mono (by rw [HSA.out]; omega))
  have hB2 := hB1.trans (hb2.mono hB1.size)
  have hB := hB2.trans (HB5.out.mono hB2.size)
  have hid5 := (HB5.out.block _ (by omega)).trans ((hb2.block _ hia).trans ((hb1.block _ (by rw [HSA.out]; omega)).trans HID.out))
  have hk5 := (HB5.out.block _ hgk).trans hk2
  have HID5 := Lib.hid hid5
  have HK5 := Lib.hid hk5
  have hS5 := HS5.out
  clear hid5 hk5 hWb hWa HSA HBA HID hb1 hb2 hk2 HB5 HTH HI8 HW5 hB1 hB2 HS5
  generalize w1.heap.size = gk at *
  clear w1 Wa Wb
  obtain ⟨KT, hKT⟩ : ∃ KT, K0 = KT := ⟨_, rfl⟩
  have hKL : KT.length = 64 := by rw [← hKT]; rfl
  have hst : (eat KT bs 0 H0) = H0 := rfl
  rw [← hst] at HV
  rw [hKT] at HK5
  have HKT := Lib.hid hKT
  have HKL := Lib.hid hKL
  clear hKT hKL hst
  have HR0 : Hid (Rd w A (b8s (bs.drop (64 * 0)))) := HR
  go_loopg [5] (bs.length / 64) (fun gk_ s5 wr => ∃ (m : Nat) (AA : Option Addr) (n cc : Nat), gk_ = bs.length / 64 - m ∧ Hid (64 * m + n = bs.length) ∧ s5 = .slice AA n cc ∧ n ≤ cc ∧ cc ≤ 9223372036854775807 ∧ Hid (Rd w AA (b8s (bs.drop (64 * m)))) ∧ 
    Hid (wr.heap[gs]? = some (.cells (w32s (eat KT bs m H0).list).toArray 69 (0, 0))) ∧ Hid (wr.heap[gk]? = some (.cells (w32s KT).toArray 98 (0, 0))) ∧ Hid (wr.heap[w.heap.size]? = some (.cells (b8s zeros32).toArray 23 (0, 0))) ∧ Below w.heap.size w wr ∧ gs < wr.heap.size)
  case atStart => exact ⟨0, A, bs.length, c, by omega, Lib.hid (by omega), rfl, hcap, hc2, HR0, HV, HK5, HID5, hB, by omega⟩
  case round =>
    clear HV HK5 HID5 hB HR0 hS5
    obtain ⟨m, AA, n, cc, rfl, HN, rfl, hncc, hcc, HRD, HS, HK, HI, hbel, hgl⟩ := hrel
    by_cases hlt : 64 ≤ n
    · have hnl : (64 : Int) ≤ (n : Int) := by omega
      have hdl : (bs.drop (64 * m)).length = n := by have := HN.out; rw [List.length_drop]; omega
      have HDL := Lib.hid hdl
      clear hdl
      obtain ⟨st, hst⟩ : ∃ st, eat KT bs m H0 = st := ⟨_, rfl⟩
      obtain ⟨R, hR⟩ : ∃ R, bs.drop (64 * m) = R := ⟨_, rfl⟩
      rw [hst] at HS
      rw [hR] at HRD HDL
      have HST := Lib.hid hst
      have HR2 := Lib.hid hR
      clear hst hR
      go_wp2_with fail
      refine (take_any gs gk AA R n cc st KT _ HS.out HK.out HKL.out (HRD.out.below hbel) HDL.out.symm (by rw [HDL.out]; exact hlt) (by have := HN.out; rw [HDL.out]; unfold maxLen; omega) (by omega)).mono ?_
      rintro e w3 ⟨rfl, hs3, hg3⟩
      have hk3 := (hg3.block gk (Array.getElem?_eq_some_iff.1 HK.out).1 (by simp; omega)).trans HK.out
      have hi3 := (hg3.block w.heap.size (Array.getElem?_eq_some_iff.1 HI.out).1 (by simp; omega)).trans HI.out
      have hb3 := bel_grown hbel hbel.size hg3 (by omega)
      have hz3 := hg3.size
      have HS3 := Lib.hid hs3
      have HK3 := Lib.hid hk3
      have HI3 := Lib.hid hi3
      clear hs3 hk3 hi3 hg3 HS HK HI hbel
      have c1 : (64 : Int) ≤ (cc : Int) := by omega
      have hdd : bs.drop (64 * (m + 1)) = R.drop 64 := by rw [← HR2.out, List.drop_drop]; congr 1
      have hee : eat KT bs (m + 1) H0 = comp KT st R := by rw [← HST.out, ← HR2.out]; rfl
      have HDD := Lib.hid hdd
      have HEE := Lib.hid hee
      clear hdd hee
      go_wp2_with fail
      case inl =>
        go_roundg (bs.length / 64 - (m + 1))
        case measure => have := HN.out; omega
        case rel => exact ⟨m + 1, _, n - 64, _, rfl, Lib.hid (by have := HN.out; omega), rfl, by omega, by omega, by rw [HDD.out]; exact Lib.hid (rd_drop_none (by have := HDL.out; omega)), by rw [HEE.out]; exact HS3, HK3, HI3, hb3, by omega⟩
      case inr =>
        go_roundg (bs.length / 64 - (m + 1))
        case measure => have := HN.out; omega
        case rel => exact ⟨m + 1, _, n - 64, _, rfl, Lib.hid (by have := HN.out; omega), rfl, by omega, by omega, by rw [HDD.out]; exact Lib.hid (rd_drop_map HRD.out), by rw [HEE.out]; exact HS3, HK3, HI3, hb3, by omega⟩
    · have hnl : ¬ (64 : Int) ≤ (n : Int) := by omega
      obtain ⟨R, hR⟩ : ∃ R, bs.drop (64 * m) = R := ⟨_, rfl⟩
      have hnr : n = R.length := by have := HN.out; rw [← hR, List.length_drop]; omega
      rw [hR] at HRD
      have HR2 := Lib.hid hR
      clear hR
      subst hnr
      go_wp2_with fail
      refine (clone_any AA R cc _ (HRD.out.below hbel) (by have := HN.out; omega)).mono ?_
      rintro e w4 ⟨v4, rfl, hown⟩
      obtain ⟨N, hN⟩ : ∃ N, N = wr.heap.size := ⟨_, rfl⟩
      rw [← hN] at hown
      have HNN := Lib.hid hN
      have hgN : gs < N := by omega
      have hRl : R.length ≤ 63 := by omega
      clear hN hgl
      obtain ⟨wR, hwR⟩ : ∃ wR, wr = wR := ⟨_, rfl⟩
      rw [hwR] at hown HNN HS HK HI hbel
      clear hwR
      go_wp2_with (at_builtin; refine wpList_append_u8 rfl _ _ rfl (128 : UInt8) rfl rfl rfl hown (by omega) ?_; intro v5 w5 hown5)
      have hz0 : R ++ [128] = R ++ [128] ++ List.replicate 0 0 := by simp
      go_loopg [6] 64 (fun gk_ s6 wx => ∃ (j : Nat) (zs : List UInt8), gk_ = 64 - j ∧ j ≤ zPad R.length ∧ Hid (zs = R ++ [128] ++ List.replicate j 0) ∧ Own8 N wR wx s6 zs ∧ Hid (zs.length = R.length + 1 + j))
      case atStart => exact ⟨0, _, by omega, by omega, Lib.hid hz0, hown5, Lib.hid (by simp)⟩
      case round =>
        clear hown5 hz0 hown
        obtain ⟨j, zs, rfl, hj, HZ, hown, HZL⟩ := hrel
        have HOW := Lib.hid hown
        obtain ⟨A6, c6, hs6, hc6, hm6, hr6, hb6⟩ := hown.slice
        subst hs6
        clear hr6 hb6 hc6 hm6
        by_cases hlt2 : j < zPad R.length
        · have hne : (((zs.length : Int) % 64) != 56) = true := by
            have := HZL.out
            unfold zPad at hlt2
            rw [bne_iff_ne]; omega
          have hl6 : zs.length + 1 ≤ 140737488355328 := by have := HZL.out; unfold zPad at hlt2; omega
          go_wp2_with (at_builtin; refine wpList_append_u8 rfl _ _ rfl (0 : UInt8) rfl rfl rfl hown hl6 ?_; intro v6 w6 hown6)
          go_roundg (64 - (j + 1))
          case measure => unfold zPad at hlt2; omega
          case rel => exact ⟨j + 1, _, rfl, by omega, Lib.hid (by rw [HZ.out, List.replicate_succ', List.append_assoc]), hown6, Lib.hid (by have := HZL.out; rw [List.length_append, this]; rfl)⟩
        · obtain rfl : j = zPad R.length := by omega
          have hne : (((zs.length : Int) % 64) != 56) = false := by
            have := HZL.out
            rw [bne_eq_false_iff_eq]; rw [this]; unfold zPad; omega
          have hzl : R.length + 1 + zPad R.length ≤ 140737488355328 - 8 := by unfold zPad; omega
          have hz0 : zs = R ++ [128] ++ List.replicate (zPad R.length) 0 ++ (len8 (8 * bs.length)).take 0 := by rw [HZ.out]; simp
          have HZ0 := Lib.hid hz0
          clear hz0
          go_wp2_with fail
          go_loopg [6, 7] 8 (fun gk_ s6 s7 wx => ∃ (k : Nat) (zs : List UInt8), gk_ = 8 - k ∧ k ≤ 8 ∧ s7 = .int .i64 (7 - (k : Int)) ∧ Hid (zs = R ++ [128] ++ List.replicate (zPad R.length) 0 ++ (len8 (8 * bs.length)).take k) ∧ Own8 N wR wx s6 zs ∧ Hid (zs.length = R.length + 1 + zPad R.length + k))
          case atStart => exact ⟨0, zs, by omega, by omega, rfl, HZ0, hown, HZL⟩
          case round =>
            clear HZ HZ0 hown HZL HOW hne
            obtain ⟨k, zs, rfl, hk, rfl, HZ, hown, HZL⟩ := hrel
            by_cases hlt3 : k < 8
            · have h0k : (0 : Int) ≤ 7 - (k : Int) := by omega
              have hlb := congrArg (Value.int .u8) (len_byte bs.length k hlt3)
              have HLB := Lib.hid hlb
              clear hlb
              have hl6 : zs.length + 1 ≤ 140737488355328 := by have := HZL.out; omega
              obtain ⟨A6, c6, hs6, hc6, hm6, hr6, hb6⟩ := hown.slice
              subst hs6
              go_wp2_with (at_builtin; refine wpList_append_u8 rfl _ _ rfl (UInt8.ofNat (8 * bs.length / 2 ^ (56 - 8 * k))) rfl rfl HLB.out hown hl6 ?_; intro v7 w7 hown7)
              go_roundg (8 - (k + 1))
              case measure => omega
              case rel => exact ⟨k + 1, _, rfl, by omega, by go_num, Lib.hid (by rw [HZ.out, len8_succ _ _ hlt3, List.append_assoc]), hown7, Lib.hid (by have := HZL.out; rw [List.length_append, this]; rfl)⟩
            · obtain rfl : k = 8 := by omega
              have hnk : ¬ (0 : Int) ≤ 7 - ((8 : Nat) : Int) := by omega
              have hzp : zPad R.length = zPad bs.length := by have := HN.out; unfold zPad; omega
              have hT : zs = R ++ padOf bs.length := by
                rw [HZ.out, hzp, List.take_of_length_le (show (len8 (8 * bs.length)).length ≤ 8 by simp [len8])]; simp [padOf]
              have hL : zs.length % 64 = 0 := by have := HZL.out; rw [this]; unfold zPad; omega
              obtain ⟨A6, c6, hs6, hc6, hm6, hr6, hb6⟩ := hown.slice
              subst hs6
              unfold maxLen at hm6
              have HT := Lib.hid hT
              have HL := Lib.hid hL
              have hbw := hown.bel
              have hszw := hown.sz
              have hsN := (Array.getElem?_eq_some_iff.1 HS.out).1
              have hS := (hbw.block gs (by omega)).trans HS.out
              have hK := (hbw.block gk (by omega)).trans HK.out
              have hI := (hbw.block w.heap.size (by omega)).trans HI.out
              have hbb := hbel.trans (hbw.mono (by rw [HNN.out]; exact hbel.size))
              have hlz : zs.length ≤ 140737488355328 := by have := HZL.out; omega
              obtain ⟨ST, hST⟩ : ∃ ST, eat KT bs m H0 = ST := ⟨_, rfl⟩
              rw [hST] at hS
              have HST := Lib.hid hST
              have HS7 := Lib.hid hS
              have HK7 := Lib.hid hK
              have HI7 := Lib.hid hI
              have HR7 := Lib.hid hr6
              have HB7 := Lib.hid (fun ad h => (Nat.ne_of_gt (Nat.lt_of_lt_of_le hgN (hb6 ad h).1)) : ∀ ad, A6 = some ad → ad.block ≠ gs)
              clear hS hK hI hr6 hb6 hT hL hST HS HK HI hbel HZ HZL hown hbw hsN
              go_wp2_with fail
              go_loopg [6] (zs.length / 64) (fun gk_ s6 wx => ∃ (i : Nat) (A7 : Option Addr) (n c7 : Nat), gk_ = zs.length / 64 - i ∧ Hid (64 * i + n = zs.length) ∧ s6 = .slice A7 n c7 ∧ n ≤ c7 ∧ c7 ≤ 9223372036854775807 ∧ Hid (Rd wr A7 (b8s (zs.drop (64 * i)))) ∧ Hid (∀ ad, A7 = some ad → ad.block ≠ gs) ∧
                Hid (wx.heap[gs]? = some (.cells (w32s (eat KT zs i ST).list).toArray 69 (0, 0))) ∧ Hid (wx.heap[gk]? = some (.cells (w32s KT).toArray 98 (0, 0))) ∧ Hid (wx.heap[w.heap.size]? = some (.cells (b8s zeros32).toArray 23 (0, 0))) ∧ Below w.heap.size w wx ∧ wr.grownBy wx (some gs))
              case atStart => exact ⟨0, A6, zs.length, c6, by omega, Lib.hid (by omega), rfl, hc6, hm6, HR7, HB7, HS7, HK7, HI7, hbb, ⟨rfl, rfl, rfl, Nat.le_refl _, fun _ _ _ => rfl⟩⟩
              case round =>
                clear HS7 HK7 HI7 HR7 HB7 hbb
                obtain ⟨i, A7, n, c7, rfl, HN7, rfl, hnc7, hc7, HR7, HB7, HS, HK, HI, hbel, hgr⟩ := hrel
                by_cases hlt7 : 0 < n
                · have h64 : 64 ≤ n := by have := HN7.out; have := HL.out; omega
                  have hnl7 : (0 : Int) < (n : Int) := by omega
                  have h64i : (64 : Int) ≤ (n : Int) := by omega
                  have c1 : (64 : Int) ≤ (c7 : Int) := by omega
                  obtain ⟨s7, hs7⟩ : ∃ s7, eat KT zs i ST = s7 := ⟨_, rfl⟩
                  obtain ⟨Z, hZ⟩ : ∃ Z, zs.drop (64 * i) = Z := ⟨_, rfl⟩
                  have hzl7 : Z.length = n := by have := HN7.out; rw [← hZ, List.length_drop]; omega
                  rw [hs7] at HS
                  rw [hZ] at HR7
                  have hdd : zs.drop (64 * (i + 1)) = Z.drop 64 := by rw [← hZ, List.drop_drop]; congr 1
                  have hee : eat KT zs (i + 1) ST = comp KT s7 Z := by rw [← hs7, ← hZ]; rfl
                  have HDD := Lib.hid hdd
                  have HEE := Lib.hid hee
                  have HZL7 := Lib.hid hzl7
                  clear hs7 hZ hdd hee hzl7
                  go_wp2_with fail
                  refine (take_any gs gk A7 Z n c7 s7 KT _ HS.out HK.out HKL.out (HR7.out.grown hgr (fun ad h e => HB7.out ad h (Option.some.inj e))) HZL7.out.symm (by rw [HZL7.out]; exact h64) (by have := HN7.out; rw [HZL7.out]; unfold maxLen; omega) (by omega)).mono ?_
                  rintro e w3 ⟨rfl, hs3, hg3⟩
                  have hk3 := (hg3.block gk (Array.getElem?_eq_some_iff.1 HK.out).1 (by simp; omega)).trans HK.out
                  have hi3 := (hg3.block w.heap.size (Array.getElem?_eq_some_iff.1 HI.out).1 (by simp; omega)).trans HI.out
                  have hb3 := bel_grown hbel hbel.size hg3 (by omega)
                  have hg4 := grown_trans1 hgr hg3
                  have HS3 := Lib.hid hs3
                  have HK3 := Lib.hid hk3
                  have HI3 := Lib.hid hi3
                  clear hs3 hk3 hi3 hg3 HS HK HI hbel hgr
                  go_wp2_with fail
                  case inl =>
                    go_roundg (zs.length / 64 - (i + 1))
                    case measure => have := HN7.out; omega
                    case rel => exact ⟨i + 1, _, n - 64, _, rfl, Lib.hid (by have := HN7.out; omega), rfl, by omega, by omega, by rw [HDD.out]; exact Lib.hid (rd_drop_none (by have := HZL7.out; omega)), HB7, by rw [HEE.out]; exact HS3, HK3, HI3, hb3, hg4⟩
                  case inr =>
                    go_roundg (zs.length / 64 - (i + 1))
                    case measure => have := HN7.out; omega
                    case rel => exact ⟨i + 1, _, n - 64, _, rfl, Lib.hid (by have := HN7.out; omega), rfl, by omega, by omega, by rw [HDD.out]; exact Lib.hid (rd_drop_map HR7.out), Lib.hid (fun ad h => by
                      cases A7 with
                      | none => cases h
                      | some a => cases h; exact HB7.out a rfl), by rw [HEE.out]; exact HS3, HK3, HI3, hb3, hg4⟩
                · have hnl7 : ¬ (0 : Int) < (n : Int) := by omega
                  obtain ⟨V, hV⟩ : ∃ V, eat KT zs i ST = V := ⟨_, rfl⟩
                  have hfin : shaL bs = outB V := by
                    have h1 := HN.out
                    have h2 := HN7.out
                    have h3 := HT.out
                    have h4 : zs = bs.drop (64 * m) ++ padOf bs.length := by rw [h3, HR2.out]
                    rw [shaL_split bs m i (by omega) (by rw [← h4]; omega), ← h4, ← hV, ← HST.out, HKT.out]
                  have HFIN := Lib.hid hfin
                  rw [hV] at HS
                  obtain ⟨W8, hW8⟩ : ∃ W8, wr.alloc (.cells #[Value.int .u8 0, Value.int .u8 0, Value.int .u8 0, Value.int .u8 0, Value.int .u8 0, Value.int .u8 0, Value.int .u8 0, Value.int .u8 0, Value.int .u8 0, Value.int .u8 0, Value.int .u8 0, Value.int .u8 0, Value.int .u8 0, Value.int .u8 0, Value.int .u8 0, Value.int .u8 0, Value.int .u8 0, Value.int .u8 0, Value.int .u8 0, Value.int .u8 0, Value.int .u8 0, Value.int .u8 0, Value.int .u8 0, Value.int .u8 0, Value.int .u8 0, Value.int .u8 0, Value.int .u8 0, Value.int .u8 0, Value.int .u8 0, Value.int .u8 0, Value.int .u8 0, Value.int .u8 0] 23) = W8 := ⟨_, rfl⟩
                  have hn8 : W8.heap[wr.heap.size]? = some (.cells (b8s (outPart V 0)).toArray 23 (0, 0)) := by rw [← hW8]; exact heap_alloc_new wr _
                  have hb8 : Below wr.heap.size wr W8 := by rw [← hW8]; exact (Below.refl _ _).alloc (Nat.le_refl _) _
                  have hs8 : W8.heap[gs]? = some (.cells (w32s V.list).toArray 69 (0, 0)) := (hb8.block gs (Array.getElem?_eq_some_iff.1 HS.out).1).trans HS.out
                  have hwl : w.heap.size < wr.heap.size := (Array.getElem?_eq_some_iff.1 HI.out).1
                  have hi8 : W8.heap[w.heap.size]? = some (.cells (b8s zeros32).toArray 23 (0, 0)) := (hb8.block _ hwl).trans HI.out
                  have hbb8 := hbel.trans (hb8.mono hbel.size)
                  have HN8 := Lib.hid hn8
                  have HS8 := Lib.hid hs8
                  have HI8 := Lib.hid hi8
                  have HINF : Hid ((Try.prog.info? 69).map (·.size) = some (w32s V.list).toArray.size) := Lib.hid info_state
                  clear hV hfin hn8 hs8 hi8 hb8 HS HI HK hgr HB7 HR7
                  go_wp2_with ((with_reducible (refine wpList_load_row rfl _ _ rfl _ rfl _ _ _ _ HS8.out Try.underlying69 rfl ?_ ?_)); (focus (exact HINF.out)))
                  obtain ⟨gi, hgi⟩ : ∃ gi, wr.heap.size = gi := ⟨_, rfl⟩
                  rw [hgi] at HN8 hwl ⊢
                  clear hgi hW8 HS8 HINF
                  go_loopg [57] 8 (fun gk_ s57 wx => ∃ (k : Nat), gk_ = 8 - k ∧ k ≤ 8 ∧ s57 = .int .i64 (k : Int) ∧ Hid (wx.heap[gi]? = some (.cells (b8s (outPart V k)).toArray 23 (0, 0))) ∧ Hid (wx.heap[w.heap.size]? = some (.cells (b8s zeros32).toArray 23 (0, 0))) ∧ Below w.heap.size w wx)
                  case atStart => exact ⟨0, by omega, by omega, rfl, HN8, HI8, hbb8⟩
                  case round =>
                    clear HN8 HI8 hbb8
                    obtain ⟨k, rfl, hk8, rfl, HN8, HI8, hbel⟩ := hrel
                    by_cases hlt8 : k < 8
                    · have hk8' : (k : Int) < 8 := by omega
                      have hix := fun w' => index_w32 (P := Try.prog) (t := 69) (l := V.list) k .i64 w' Try.underlying69 info_w (by kernel_rfl) rfl hlt8
                      obtain ⟨x, hx⟩ : ∃ x, V.list[k]'hlt8 = x := ⟨_, rfl⟩
                      rw [hx] at hix
                      have HX := Lib.hid hx
                      have hcl : ∀ j, j < 32 → ∃ v, wr.cell? ⟨gi, j, none⟩ = some v := fun j hj => by
                        rw [row_cell HN8.out]
                        refine ⟨_, Array.getElem?_eq_getElem ?_⟩
                        rw [List.size_toArray, b8s_length]; simp [outPart, outB, b4, St8.list]; omega
                      obtain ⟨v0, hv0⟩ := hcl (4 * k) (by omega)
                      obtain ⟨v1, hv1⟩ := hcl (4 * k + 1) (by omega)
                      obtain ⟨v2, hv2⟩ := hcl (4 * k + 2) (by omega)
                      obtain ⟨v3, hv3⟩ := hcl (4 * k + 3) (by omega)
                      have hfz := fun j => row_free HN8.out j
                      have e0 : IntKind.i64.wrap (4 * (k : Int)) = 4 * (k : Int) := wrap64_in _ (by omega) (by omega)
                      have t0 : (4 * (k : Int)).toNat = 4 * k := by omega
                      have t1 : (4 * (k : Int) + 1).toNat = 4 * k + 1 := by omega
                      have t2 : (4 * (k : Int) + 2).toNat = 4 * k + 2 := by omega
                      have t3 : (4 * (k : Int) + 3).toNat = 4 * k + 3 := by omega
                      clear hx hcl
                      go_wp2_with fail
                      rw [out_b0, out_b1, out_b2, out_b3]
                      have hst := out_step V k hlt8 x HX.out
                      have h1 := row_set HN8.out (4 * k) (.int .u8 ((UInt8.ofNat (x >>> 24).toNat).toNat : Int))
                      have h2 := row_set h1 (4 * k + 1) (.int .u8 ((UInt8.ofNat (x >>> 16).toNat).toNat : Int))
                      have h3 := row_set h2 (4 * k + 2) (.int .u8 ((UInt8.ofNat (x >>> 8).toNat).toNat : Int))
                      have h4 := row_set h3 (4 * k + 3) (.int .u8 ((UInt8.ofNat x.toNat).toNat : Int))
                      have hrow : (((((b8s (outPart V k)).toArray.setIfInBounds (4 * k) (.int .u8 ((UInt8.ofNat (x >>> 24).toNat).toNat : Int))).setIfInBounds (4 * k + 1) (.int .u8 ((UInt8.ofNat (x >>> 16).toNat).toNat : Int))).setIfInBounds (4 * k + 2) (.int .u8 ((UInt8.ofNat (x >>> 8).toNat).toNat : Int))).setIfInBounds (4 * k + 3) (.int .u8 ((UInt8.ofNat x.toNat).toNat : Int))) = (b8s (outPart V (k + 1))).toArray := by
                        rw [← hst]; simp [b8s, List.map_set]
                      rw [hrow] at h4
                      have hg := grown_trans1 (grown_trans1 (grown_trans1 (grown_set (w := wr) gi (4 * k) (.int .u8 ((UInt8.ofNat (x >>> 24).toNat).toNat : Int))) (grown_set gi (4 * k + 1) (.int .u8 ((UInt8.ofNat (x >>> 16).toNat).toNat : Int)))) (grown_set gi (4 * k + 2) (.int .u8 ((UInt8.ofNat (x >>> 8).toNat).toNat : Int)))) (grown_set gi (4 * k + 3) (.int .u8 ((UInt8.ofNat x.toNat).toNat : Int)))
                      go_roundg (8 - (k + 1))
                      case measure => omega
                      case rel => exact ⟨k + 1, rfl, by omega, by go_num, Lib.hid h4, Lib.hid ((hg.block _ (Array.getElem?_eq_some_iff.1 HI8.out).1 (by simp; omega)).trans HI8.out), bel_grown hbel hbel.size hg (by omega)⟩
                    · obtain rfl : k = 8 := by omega
                      have hop : outPart V 8 = outB V := by unfold outPart; rw [List.take_of_length_le (by simp [outB, b4, St8.list])]; simp
                      rw [hop] at HN8
                      have HIV : Hid ((Try.prog.info? 23).map (·.size) = some (b8s (outB V)).toArray.size) := Lib.hid (info_of_arr _ rfl info_id)
                      obtain ⟨W9, hW9, HTH, HR9, HB9⟩ := arr_write HI8.out (new := outB V) rfl hbel hbel.size (Nat.le_refl _)
                      have HW9 := Lib.hid hW9
                      clear hW9 hop
                      go_wp2_with (first
                        | ((with_reducible (refine wpList_load_row rfl _ _ rfl _ rfl _ _ _ _ HN8.out Try.underlying23 rfl ?_ ?_)); (focus (exact HIV.out)))
                        | ((with_reducible (refine wpList_store_mid rfl _ _ _ rfl ?_ ?_ ?_ ?_ ?_ ?_ ?_ ?_ ?_)); (exact w.heap.size); (exact 0); (exact (b8s (outB V)).toArray); (exact rfl); (exact rfl); (exact HTH.out); (exact HIV.out); (exact all_oneCell_toArray (b8s_one' _)); rw [HW9.out]))
                      rw [HFIN.out]
                      refine bodyPost_ret (results_row1 rfl _ _ _ _ _ _ _ rfl HR9.out Try.underlying23 rfl HIV.out) rfl ?_
                      exact ⟨rfl, HB9.out⟩
end Go.Proofs.Ytkiggfahcakdeaa
