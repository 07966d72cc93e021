
/- Parse, the program's and the document's. -/

import Derived.Test.YtkiggfahcakdeaaShaHex

namespace Go.Proofs.Ytkiggfahcakdeaa

set_option linter.unusedVariables false

set_option linter.unusedSimpArgs false

open Go.RowKit

set_option maxRecDepth 100000 in
theorem digIndex_any (c : UInt8) (w : World) : Calls Try.prog 29 #[.string ⟨#[48, 49, 50, 51, 52, 53, 54, 55, 56, 57, 97, 98, 99, 100, 101, 102]⟩, .int .u8 (c.toNat : Int)] w fun e w' => w = w' ∧ e = .returned (.int .i64 (ud c)) :=
  (indexByte_any digS c w).mono fun e w' ⟨h1, h2⟩ => ⟨h1, by rw [h2, ← indexByte_dig]; rfl⟩

/-- two arrays of zeros -/
theorem arr_two_new (w : World) (t : TypeId) : ∃ Wa Wb, w.alloc (.cells #[Value.int .u8 0, Value.int .u8 0, Value.int .u8 0, Value.int .u8 0, Value.int .u8 0, Value.int .u8 0, Value.int .u8 0, Value.int .u8 0, Value.int .u8 0, Value.int .u8 0, Value.int .u8 0, Value.int .u8 0, Value.int .u8 0, Value.int .u8 0, Value.int .u8 0, Value.int .u8 0, Value.int .u8 0, Value.int .u8 0, Value.int .u8 0, Value.int .u8 0, Value.int .u8 0, Value.int .u8 0, Value.int .u8 0, Value.int .u8 0, Value.int .u8 0, Value.int .u8 0, Value.int .u8 0, Value.int .u8 0, Value.int .u8 0, Value.int .u8 0, Value.int .u8 0, Value.int .u8 0] t) = Wa ∧ Wa.alloc (.cells #[Value.int .u8 0, Value.int .u8 0, Value.int .u8 0, Value.int .u8 0, Value.int .u8 0, Value.int .u8 0, Value.int .u8 0, Value.int .u8 0, Value.int .u8 0, Value.int .u8 0, Value.int .u8 0, Value.int .u8 0, Value.int .u8 0, Value.int .u8 0, Value.int .u8 0, Value.int .u8 0, Value.int .u8 0, Value.int .u8 0, Value.int .u8 0, Value.int .u8 0, Value.int .u8 0, Value.int .u8 0, Value.int .u8 0, Value.int .u8 0, Value.int .u8 0, Value.int .u8 0, Value.int .u8 0, Value.int .u8 0, Value.int .u8 0, Value.int .u8 0, Value.int .u8 0, Value.int .u8 0] t) = Wb ∧ Wa.heap.size = w.heap.size + 1 ∧ Wb.heap.size = w.heap.size + 1 + 1 ∧
    Hid (Wb.heap[w.heap.size]? = some (.cells (b8s zeros32).toArray t (0, 0))) ∧ Hid (Wb.heap[w.heap.size + 1]? = some (.cells (b8s zeros32).toArray t (0, 0))) ∧ Hid (Below w.heap.size w Wb) := by
  refine ⟨_, _, rfl, rfl, by simp, by simp, Lib.hid ?_, Lib.hid ?_, Lib.hid ((((Below.refl _ _).alloc (Nat.le_refl _) _).alloc (by simp) _))⟩
  · exact heap_alloc2_old w _ _
  · exact heap_alloc2_new w _ _
theorem setCells_size_eq (g : Nat) : ∀ (vs : List Value) (o : Nat) (W : World), (W.setCells g o vs).heap.size = W.heap.size
  | [], _, _ => rfl
  | v :: vs, o, W => (setCells_size_eq g vs (o + 1) _).trans (by simp [World.setCell])
/-- a whole array written anew -/
theorem arr_write {w0 w : World} {g N : Nat} {old new : List UInt8} {t : TypeId} (h : w.heap[g]? = some (.cells (b8s old).toArray t (0, 0))) (ho : old.length = new.length) (hb : Below N w0 w) (hN : N ≤ w.heap.size) (hg : N ≤ g) :
    ∃ W, w.setCells g 0 (b8s new).toArray.toList = W ∧ Hid (w.there g 0 (b8s new).toArray.size) ∧ Hid (W.heap[g]? = some (.cells (b8s new).toArray t (0, 0))) ∧ Hid (Below N w0 W) := by
  have hs : (b8s new).toArray.size = (b8s old).toArray.size := by simp [b8s, ho]
  exact ⟨_, rfl, Lib.hid (by rw [hs]; exact there_of_row h), Lib.hid (row_setAll h (by rw [b8s_length, b8s_length, ho])), Lib.hid (bel_grown hb hN (setCells_grown _ _ _ _) hg)⟩

theorem or16 (a b : Nat) (ha : a < 16) (hb : b < 16) : bits .or .u8 (((UInt8.ofNat a).toNat : Int) * 16 % 256) (b : Int) = ((UInt8.ofNat (16 * a + b)).toNat : Int) := by
  have h1 : (UInt8.ofNat a).toNat = a := by rw [UInt8.toNat_ofNat']; omega
  have h2 : (UInt8.ofNat (16 * a + b)).toNat = 16 * a + b := by rw [UInt8.toNat_ofNat']; omega
  have h3 : ((a : Int) * 16 % 256) = ((a * 16 : Nat) : Int) := by omega
  have h4 : ∀ x, x < 16 → ∀ y, y < 16 → (x * 16) ||| y = 16 * x + y := by decide +kernel
  rw [h1, h2, h3, u8_or_nat _ _ (by omega) (by omega), h4 a ha b hb]
theorem arr_or (l : List UInt8) (k : Nat) (hk : k < 64) (hkl : k < l.length) (ho : okd (l.take (k + 1)) = true) :
    bits .or .u8 (((arr l k)[k / 2]'(by rw [arr_len]; omega)).toNat * 16 % 256) (ud l[k]) = (((arr l (k + 1))[k / 2]'(by rw [arr_len]; omega)).toNat : Int) := by
  have hmem : ∀ j, j ≤ k → ∃ (h : j < l.length), 0 ≤ ud l[j] := fun j hj => by
    refine ⟨by omega, ?_⟩
    have hm : l[j] ∈ l.take (k + 1) := by
      rw [List.mem_take_iff_getElem]
      exact ⟨j, by omega, rfl⟩
    have := List.all_eq_true.1 ho _ hm
    simpa using this
  obtain ⟨_, h0⟩ := hmem k (Nat.le_refl _)
  have h1 := (ud_lt l[k]).2
  obtain ⟨b, hb⟩ : ∃ b : Nat, ud l[k] = b := ⟨(ud l[k]).toNat, by omega⟩
  have hgk : l.getD k 0 = l[k] := by simp [List.getD, hkl]
  rw [arr_get _ _ _ (by omega), arr_get _ _ _ (by omega), hb]
  rcases Nat.mod_two_eq_zero_or_one k with he | ho'
  · have hk2 : 2 * (k / 2) = k := by omega
    rw [if_neg (by omega), if_neg (by omega), if_neg (by omega), if_pos (by omega), hk2, hgk, hb]
    have := or16 0 b (by omega) (by omega)
    simpa using this
  · have hk2 : 2 * (k / 2) + 1 = k := by omega
    rw [if_neg (by omega), if_pos (by omega), if_pos (by omega), hk2, hgk]
    obtain ⟨hj, hp⟩ := hmem (2 * (k / 2)) (by omega)
    have hgj : l.getD (2 * (k / 2)) 0 = l[2 * (k / 2)] := by simp [List.getD, hj]
    have h3 := (ud_lt l[2 * (k / 2)]).2
    rw [hgj, or16 _ _ (by omega) (by omega), b16, hb]
    simp

set_option maxRecDepth 100000 in
set_option maxHeartbeats 1000000 in
theorem parse_any (s : ByteArray) (hs : s.size ≤ maxLen) (w : World) :
    Calls Try.prog 13 #[.string s] w fun e w' => e = .returned (.tuple #[.agg (b8s (parseL s.data.toList).1).toArray, .bool (parseL s.data.toList).2]) ∧ Below w.heap.size w w' := by
  unfold maxLen at hs
  obtain ⟨Wa, Wb, hWa, hWb, hsa, hsb, HA, HB, HBEL⟩ := arr_two_new w 23
  obtain ⟨Z, hZ⟩ : ∃ Z, zeros32 = Z := ⟨_, rfl⟩
  have hzl : Z.length = 32 := by rw [← hZ]; rfl
  rw [hZ] at HA HB
  have HZ : Hid (zero32 = Z) := Lib.hid hZ
  have HI : Hid ((Try.prog.info? 23).map (·.size) = some (b8s Z).toArray.size) := Lib.hid (info_of_arr Z hzl info_id)
  have HO : Hid ((b8s Z).toArray.all (·.oneCell') = true) := Lib.hid (all_oneCell_toArray (b8s_one' _))
  clear hZ
  have hsz : s.data.toList.length = s.size := size_toList s
  by_cases hl : s.size = 64
  · have hli : ((s.size : Int) != 64) = false := by rw [hl]; rfl
    obtain ⟨Wc, hWc⟩ : ∃ Wc, Wb.iter s 0 = Wc := ⟨_, rfl⟩
    have hbc : Below Wb.heap.size Wb Wc := by rw [← hWc]; exact (Below.refl _ _).alloc (Nat.le_refl _) _
    have hit : Wc.heap[w.heap.size + 1 + 1]? = some (.stringIter s 0) := by rw [← hWc, ← hsb]; exact World.iter_heap Wb s 0
    have hsc : Wc.heap.size = w.heap.size + 1 + 1 + 1 := by rw [← hWc]; show (Wb.heap.push _).size = _; rw [Array.size_push, hsb]
    have hA := (hbc.block _ (by rw [hsb]; omega)).trans HA.out
    have hBc := (hbc.block _ (by rw [hsb]; omega)).trans HB.out
    have HA2 := Lib.hid hA
    have HB2 := Lib.hid hBc
    have HBL2 := Lib.hid (HBEL.out.trans (hbc.mono (by rw [hsb]; omega)))
    have HIT := Lib.hid hit
    have HSC := Lib.hid hsc
    have HHL := Lib.hid hl
    have HSZ := Lib.hid hsz
    clear hA hBc HA HB HBEL hbc hit hsc hl hsz
    go_enter Try.func13, Try.ntmps13
    go_wp2_with fail
    clear hWa hWb hWc hsa hsb
    rw [← HZ.out, ← arr_zero s.data.toList] at HB2
    go_loopg [5, 13] 64 (fun gk s5 s13 wr => ∃ (k : Nat), k ≤ 64 ∧ gk = 64 - k ∧ Hid (okd (s.data.toList.take k) = true) ∧ Hid (wr.heap[w.heap.size]? = some (.cells (b8s Z).toArray 23 (0, 0))) ∧ Hid (wr.heap[w.heap.size + 1]? = some (.cells (b8s (arr s.data.toList k)).toArray 23 (0, 0))) ∧
      Hid (wr.heap[w.heap.size + 1 + 1]? = some (.stringIter s k)) ∧ Below w.heap.size w wr)
    case atStart => exact ⟨0, by omega, by omega, Lib.hid rfl, HA2, HB2, HIT, HBL2.out⟩
    case round =>
      clear HA2 HB2 HIT HBL2 HSC hli
      obtain ⟨k, hk, rfl, HOK, HA, HB, HIT, hbel⟩ := hrel
      by_cases hlt : k < 64
      · have hks : k < s.size := by rw [HHL.out]; exact hlt
        have hki : (k : Int) < (s.size : Int) := by omega
        obtain ⟨r, wd, w1, hnx, hit1, hg1, hwd⟩ := run_next_at (P := Try.prog) wr (w.heap.size + 1 + 1) s k HIT.out hks
        have hkl : k < s.data.toList.length := by rw [HSZ.out]; exact hks
        have hlk : s.data.toList[k] = s[k] := rfl
        have hA1 := (hg1.block _ (Array.getElem?_eq_some_iff.1 HA.out).1 (by simp; omega)).trans HA.out
        have hB1 := (hg1.block _ (Array.getElem?_eq_some_iff.1 HB.out).1 (by simp)).trans HB.out
        have hb1 := bel_grown hbel hbel.size hg1 (by omega)
        have HA1 := Lib.hid hA1
        have HB1 := Lib.hid hB1
        have HIT1 := Lib.hid hit1
        have HWD := Lib.hid hwd
        have HLK := Lib.hid hlk
        clear HA HB HIT hA1 hB1 hit1 hwd hlk hg1 hbel
        by_cases hud : ud s[k] < 0
        · have hbad := okd_bad s.data.toList k hkl (by rw [HLK.out]; exact hud)
          have hp : parseL s.data.toList = (zero32, false) := by unfold parseL; rw [hbad, if_neg]; simp
          obtain ⟨W3, hW3, HTH, HR3, HB3⟩ := arr_write HA1.out (new := zeros32) (by rw [hzl]; rfl) hb1 hb1.size (Nat.le_refl _)
          have HW3 := Lib.hid hW3
          have HP := Lib.hid hp
          have HI0 : Hid ((Try.prog.info? 23).map (·.size) = some (b8s zeros32).toArray.size) := Lib.hid (info_of_arr zeros32 rfl info_id)
          clear hbad hp hW3
          go_wp2_with fail
          refine (digIndex_any s[k] w1).mono ?_
          rintro e w' ⟨rfl, rfl⟩
          go_wp2_with ((with_reducible (refine wpList_store_mid rfl _ _ _ rfl ?_ ?_ ?_ ?_ ?_ ?_ ?_ ?_ ?_)); (exact w.heap.size); (exact 0); (exact (b8s zeros32).toArray); (exact rfl); (exact rfl); (exact HTH.out); (exact HI0.out); (exact all_oneCell_toArray (b8s_one' _)); rw [HW3.out])
          refine bodyPost_ret (results_row_tmp rfl _ _ _ _ _ _ _ rfl HR3.out Try.underlying23 rfl HI0.out) rfl ?_
          rw [HP.out]
          exact ⟨rfl, HB3.out⟩
        · have hud0 : 0 ≤ ud s[k] := by omega
          have hw1 : wd = 1 := HWD.out (by
            rcases Nat.lt_or_ge s[k].toNat 128 with h | h
            · exact h
            · have := ud_high s[k] h; omega)
          subst hw1
          have hok := okd_take s.data.toList k hkl HOK.out (by rw [HLK.out]; exact hud0)
          have HOK2 := Lib.hid hok
          have hul := (ud_lt s[k]).2
          have hk2 : k / 2 < 32 := by omega
          have hcell : w1.cell? ⟨w.heap.size + 1, k / 2, none⟩ = some (.int .u8 (((arr s.data.toList k)[k / 2]'(by rw [arr_len]; exact hk2)).toNat : Int)) := by
            rw [row_cell HB1.out, List.getElem?_toArray]; exact b8s_get _ _ (by rw [arr_len]; exact hk2)
          have hfz : w1.frozen? ⟨w.heap.size + 1, k / 2, none⟩ = false := row_free HB1.out _
          clear hok HOK
          go_wp2_with fail
          refine (digIndex_any s[k] w1).mono ?_
          rintro e w' ⟨rfl, rfl⟩
          go_wp2_with fail
          have hg2 := grown_set (w := w1) (w.heap.size + 1) (k / 2) (.int .u8 (bits .or .u8 (((arr s.data.toList k)[k / 2]'(by rw [arr_len]; exact hk2)).toNat * 16 % 256) (ud s[k])))
          have hor := arr_or s.data.toList k hlt hkl HOK2.out
          rw [HLK.out] at hor
          have hset := row_set HB1.out (k / 2) (.int .u8 (bits .or .u8 (((arr s.data.toList k)[k / 2]'(by rw [arr_len]; exact hk2)).toNat * 16 % 256) (ud s[k])))
          have hrow : ((b8s (arr s.data.toList k)).toArray.setIfInBounds (k / 2) (.int .u8 (bits .or .u8 (((arr s.data.toList k)[k / 2]'(by rw [arr_len]; exact hk2)).toNat * 16 % 256) (ud s[k])))) = (b8s (arr s.data.toList (k + 1))).toArray := by
            rw [hor]
            have h1 := congrArg (fun l => (b8s l).toArray) (arr_one s.data.toList k hlt)
            rw [← h1]
            simp [b8s, List.map_set]
          rw [hrow] at hset
          go_roundg (64 - (k + 1))
          case measure => omega
          case rel => exact ⟨k + 1, by omega, rfl, HOK2, Lib.hid ((hg2.block _ (Array.getElem?_eq_some_iff.1 HA1.out).1 (by simp)).trans HA1.out), Lib.hid hset, Lib.hid ((hg2.block _ (Array.getElem?_eq_some_iff.1 HIT1.out).1 (by simp)).trans HIT1.out), bel_grown hb1 hb1.size hg2 (by omega)⟩
      obtain rfl : k = 64 := by omega
      have hstop := fun ty => run_next_stop (P := Try.prog) wr (w.heap.size + 1 + 1) s 64 ty HIT.out (by rw [HHL.out]; omega)
      have hsl : s.data.toList.length = 64 := by rw [HSZ.out, HHL.out]
      have hok := HOK.out
      rw [← hsl, List.take_length] at hok
      have hp : parseL s.data.toList = (arr s.data.toList 64, true) := by
        unfold parseL
        rw [if_pos ⟨hsl, hok⟩, arr_done _ hsl]
      obtain ⟨W3, hW3, HTH, HR3, HB3⟩ := arr_write HA.out (new := arr s.data.toList 64) (by rw [hzl, arr_len]) hbel hbel.size (Nat.le_refl _)
      have HW3 := Lib.hid hW3
      have HP := Lib.hid hp
      have HI0 : Hid ((Try.prog.info? 23).map (·.size) = some (b8s (arr s.data.toList 64)).toArray.size) := Lib.hid (info_of_arr _ (arr_len _ _) info_id)
      clear hok hp hW3 hsl
      go_wp2_with (first
        | ((with_reducible (refine wpList_load_row rfl _ _ rfl _ rfl _ _ _ _ HB.out Try.underlying23 rfl ?_ ?_)); (focus (exact HI0.out)))
        | ((with_reducible (refine wpList_store_mid rfl _ _ _ rfl ?_ ?_ ?_ ?_ ?_ ?_ ?_ ?_ ?_)); (exact w.heap.size); (exact 0); (exact (b8s (arr s.data.toList 64)).toArray); (exact rfl); (exact rfl); (exact HTH.out); (exact HI0.out); (exact all_oneCell_toArray (b8s_one' _)); rw [HW3.out]))
      refine bodyPost_ret (results_row_tmp rfl _ _ _ _ _ _ _ rfl HR3.out Try.underlying23 rfl HI0.out) rfl ?_
      rw [HP.out]
      exact ⟨rfl, HB3.out⟩
  · have hli : ((s.size : Int) == 64) = false := by rw [beq_eq_false_iff_ne]; omega
    have hli2 : (!((s.size : Int) == 64)) = true := by rw [hli]; rfl
    have hp : parseL s.data.toList = (zero32, false) := by unfold parseL; rw [if_neg]; rw [hsz]; exact fun h => hl h.1
    obtain ⟨W3, hW3, HTH, HR3, HB3⟩ := arr_write HA.out (new := Z) rfl HBEL.out (by omega) (Nat.le_refl _)
    have HW3 := Lib.hid hW3
    have HP := Lib.hid hp
    clear hp hW3 hsz
    go_enter Try.func13, Try.ntmps13
    go_wp2_with (first
      | ((with_reducible (refine wpList_load_row rfl _ _ rfl _ rfl _ _ _ _ HB.out Try.underlying23 rfl ?_ ?_)); (focus (exact HI.out)))
      | ((with_reducible (refine wpList_store_mid rfl _ _ _ rfl ?_ ?_ ?_ ?_ ?_ ?_ ?_ ?_ ?_)); (exact w.heap.size); (exact 0); (exact (b8s Z).toArray); (exact rfl); (exact rfl); (exact HTH.out); (exact HI.out); (exact HO.out); rw [HW3.out]))
    refine bodyPost_ret (results_row_tmp rfl _ _ _ _ _ _ _ rfl HR3.out Try.underlying23 rfl HI.out) rfl ?_
    rw [HP.out, HZ.out]; exact ⟨rfl, HB3.out⟩

theorem wrap64_in (c : Int) (h1 : -9223372036854775808 ≤ c) (h2 : c ≤ 9223372036854775807) : IntKind.i64.wrap c = c := by rw [IntKind.wrap_i64]; omega
theorem bin_mul {P : Program} {t : TypeId} (a b c : Int) (w : World) (h : a * b = c) (h1 : -9223372036854775808 ≤ c) (h2 : c ≤ 9223372036854775807) : (binOp .mul t (.int .i64 a) (.int .i64 b)).run P w = .ok (.int .i64 c) w := by
  subst h
  simp [binOp, go_sem, wrap64_in _ h1 h2]
theorem bin_add {P : Program} {t : TypeId} (a b c : Int) (w : World) (h : a + b = c) (h1 : -9223372036854775808 ≤ c) (h2 : c ≤ 9223372036854775807) : (binOp .add t (.int .i64 a) (.int .i64 b)).run P w = .ok (.int .i64 c) w := by
  subst h
  simp [binOp, go_sem, wrap64_in _ h1 h2]
theorem b16_int (a b : UInt8) (ha : 0 ≤ ud a) (hb : 0 ≤ ud b) : (16 * ud a + ud b) = ((b16 a b).toNat : Int) ∧ 16 * ud a + ud b < 256 := by
  have h1 := (ud_lt a).2
  have h2 := (ud_lt b).2
  unfold b16
  rw [UInt8.toNat_ofNat']
  omega

set_option maxRecDepth 100000 in
set_option maxHeartbeats 2000000 in
theorem rparse_any (s : ByteArray) (hs : s.size ≤ maxLen) (w : World) :
    Calls Try.prog 14 #[.string s] w fun e w' => e = .returned (.tuple #[.agg (b8s (parseL s.data.toList).1).toArray, .bool (parseL s.data.toList).2]) ∧ Below w.heap.size w w' := by
  unfold maxLen at hs
  obtain ⟨Wa, Wb, hWa, hWb, hsa, hsb, HA, HB, HBEL⟩ := arr_two_new w 22
  have hI0 : (Try.prog.info? 22).map (·.size) = some (b8s zeros32).toArray.size := info_of_arr zeros32 rfl info_arr
  have HI0 := Lib.hid hI0
  obtain ⟨Wc, hWc, HTH0, HR0, HB0⟩ := arr_write HB.out (new := zeros32) rfl HBEL.out (by omega) (by omega)
  have HWc := Lib.hid hWc
  have hbc := setCells_grown (w.heap.size + 1) (b8s zeros32) 0 Wb
  have hA1 := (hbc.block _ (by omega) (by simp)).trans HA.out
  have hWc' : Wb.setCells (w.heap.size + 1) 0 (b8s zeros32) = Wc := hWc
  rw [hWc'] at hbc hA1
  have HA1 := Lib.hid hA1
  have hsz : s.data.toList.length = s.size := size_toList s
  have HSZ := Lib.hid hsz
  clear hWc hWc' hbc hA1 hsz hI0 HA HB HBEL
  by_cases hl : s.size = 64
  · have hli : ((s.size : Int) != 64) = false := by rw [hl]; rfl
    have HHL := Lib.hid hl
    clear hl
    go_enter Try.func14, Try.ntmps14
    go_wp2_with ((with_reducible (refine wpList_store_mid rfl _ _ _ rfl ?_ ?_ ?_ ?_ ?_ ?_ ?_ ?_ ?_)); (exact w.heap.size + 1); (exact 0); (exact (b8s zeros32).toArray); (exact rfl); (exact rfl); (exact HTH0.out); (exact HI0.out); (exact all_oneCell_toArray (b8s_one' _)); rw [HWc.out])
    clear hWa hWb hsa hsb
    have hz : zeros32 = arr s.data.toList (2 * 0) := by rw [Nat.mul_zero, arr_zero]; rfl
    have HR1 := HR0.out
    rw [hz] at HR1
    go_loopg [5] 32 (fun gk s5 wr => ∃ (k : Nat), k ≤ 32 ∧ gk = 32 - k ∧ s5 = .int .i64 k ∧ Hid (okd (s.data.toList.take (2 * k)) = true) ∧ Hid (wr.heap[w.heap.size]? = some (.cells (b8s zeros32).toArray 22 (0, 0))) ∧ Hid (wr.heap[w.heap.size + 1]? = some (.cells (b8s (arr s.data.toList (2 * k))).toArray 22 (0, 0))) ∧ Below w.heap.size w wr)
    case atStart => exact ⟨0, by omega, by omega, rfl, Lib.hid rfl, HA1, Lib.hid HR1, HB0.out⟩
    case round =>
      clear HA1 HR0 HR1 HB0 HTH0 HWc hli hz
      obtain ⟨k, hk, rfl, rfl, HOK, HA, HB, hbel⟩ := hrel
      by_cases hlt : k < 32
      · have hks0 : 2 * k < s.size := by rw [HHL.out]; omega
        have hks1 : 2 * k + 1 < s.size := by rw [HHL.out]; omega
        have hki0 : (2 : Int) * (k : Int) < (s.size : Int) := by omega
        have hki1 : (2 : Int) * (k : Int) + 1 < (s.size : Int) := by omega
        go_wp2_with fail
        have hm := fun w => bin_mul (P := Try.prog) (t := 3) 2 (k : Int) ((2 * k : Nat) : Int) w (by omega) (by omega) (by omega)
        have ha := fun w => bin_add (P := Try.prog) (t := 3) ((2 * k : Nat) : Int) 1 ((2 * k + 1 : Nat) : Int) w (by omega) (by omega) (by omega)
        have hx0 := fun w => index_str (P := Try.prog) (t := 9) (s := s) (2 * k) .i64 w Try.underlying9 (getElem?_pos s (2 * k) hks0)
        have hx1 := fun w => index_str (P := Try.prog) (t := 9) (s := s) (2 * k + 1) .i64 w Try.underlying9 (getElem?_pos s (2 * k + 1) hks1)
        refine wp_region_sched (fun w' => True) [(true, 0), (true, 1), (true, 2), (true, 3), (true, 5), (true, 6), (true, 7), (true, 8), (true, 9), (false, 4), (false, 10), (true, 11), (true, 12)] (by kernel_rfl) (by kernel_rfl) rfl (by kernel_rfl) trivial ?_
        (first | (refine wpS_pass _ rfl (by rfl) ?_; simp only [Act.put, List.getElem_toArray, List.getElem_cons_zero, List.getElem_cons_succ, List.setIfInBounds_toArray, List.set_cons_zero, List.set_cons_succ]) | (refine wpS_take _ ?_ rfl (by rfl) ?_ ?_; rotate_left; (focus (intro w' hS'; (try dsimp only at hS'); (repeat (have hS1 := hS'.1; replace hS' := hS'.2)); go_simp; (try with_reducible rfl); done)); simp only [Act.put, List.getElem_toArray, List.getElem_cons_zero, List.getElem_cons_succ, List.setIfInBounds_toArray, List.set_cons_zero, List.set_cons_succ]))
        (first | (refine wpS_pass _ rfl (by rfl) ?_; simp only [Act.put, List.getElem_toArray, List.getElem_cons_zero, List.getElem_cons_succ, List.setIfInBounds_toArray, List.set_cons_zero, List.set_cons_succ]) | (refine wpS_take _ ?_ rfl (by rfl) ?_ ?_; rotate_left; (focus (intro w' hS'; (try dsimp only at hS'); (repeat (have hS1 := hS'.1; replace hS' := hS'.2)); go_simp; (try with_reducible rfl); done)); simp only [Act.put, List.getElem_toArray, List.getElem_cons_zero, List.getElem_cons_succ, List.setIfInBounds_toArray, List.set_cons_zero, List.set_cons_succ]))
        refine wpS_take _ _ rfl (by rfl) (fun w' hS' => exec_bin _ _ _ _ _ rfl _ _ _ rfl rfl rfl (hm w')) ?_
        simp only [Act.put, List.getElem_toArray, List.getElem_cons_zero, List.getElem_cons_succ, List.setIfInBounds_toArray, List.set_cons_zero, List.set_cons_succ]
        refine wpS_take _ _ rfl (by rfl) (fun w' hS' => exec_index _ _ _ rfl _ _ _ rfl rfl (hx0 w')) ?_
        simp only [Act.put, List.getElem_toArray, List.getElem_cons_zero, List.getElem_cons_succ, List.setIfInBounds_toArray, List.set_cons_zero, List.set_cons_succ]
        (first | (refine wpS_pass _ rfl (by rfl) ?_; simp only [Act.put, List.getElem_toArray, List.getElem_cons_zero, List.getElem_cons_succ, List.setIfInBounds_toArray, List.set_cons_zero, List.set_cons_succ]) | (refine wpS_take _ ?_ rfl (by rfl) ?_ ?_; rotate_left; (focus (intro w' hS'; (try dsimp only at hS'); (repeat (have hS1 := hS'.1; replace hS' := hS'.2)); go_simp; (try with_reducible rfl); done)); simp only [Act.put, List.getElem_toArray, List.getElem_cons_zero, List.getElem_cons_succ, List.setIfInBounds_toArray, List.set_cons_zero, List.set_cons_succ]))
        (first | (refine wpS_pass _ rfl (by rfl) ?_; simp only [Act.put, List.getElem_toArray, List.getElem_cons_zero, List.getElem_cons_succ, List.setIfInBounds_toArray, List.set_cons_zero, List.set_cons_succ]) | (refine wpS_take _ ?_ rfl (by rfl) ?_ ?_; rotate_left; (focus (intro w' hS'; (try dsimp only at hS'); (repeat (have hS1 := hS'.1; replace hS' := hS'.2)); go_simp; (try with_reducible rfl); done)); simp only [Act.put, List.getElem_toArray, List.getElem_cons_zero, List.getElem_cons_succ, List.setIfInBounds_toArray, List.set_cons_zero, List.set_cons_succ]))
        refine wpS_take _ _ rfl (by rfl) (fun w' hS' => exec_bin _ _ _ _ _ rfl _ _ _ rfl rfl rfl (hm w')) ?_
        simp only [Act.put, List.getElem_toArray, List.getElem_cons_zero, List.getElem_cons_succ, List.setIfInBounds_toArray, List.set_cons_zero, List.set_cons_succ]
        refine wpS_take _ _ rfl (by rfl) (fun w' hS' => exec_bin _ _ _ _ _ rfl _ _ _ rfl rfl rfl (ha w')) ?_
        simp only [Act.put, List.getElem_toArray, List.getElem_cons_zero, List.getElem_cons_succ, List.setIfInBounds_toArray, List.set_cons_zero, List.set_cons_succ]
        refine wpS_take _ _ rfl (by rfl) (fun w' hS' => exec_index _ _ _ rfl _ _ _ rfl rfl (hx1 w')) ?_
        simp only [Act.put, List.getElem_toArray, List.getElem_cons_zero, List.getElem_cons_succ, List.setIfInBounds_toArray, List.set_cons_zero, List.set_cons_succ]
        clear hm ha hx0 hx1
        refine wpS_do _ rfl (by rfl) (fun K hK => ?_)
        go_simp
        refine (unhex_any s[2 * k] _).mono ?_
        rintro e w' ⟨rfl, rfl⟩
        refine hK.out _ _ trivial (fun hS => ?_)
        clear hK hS
        refine wpS_do _ rfl (by rfl) (fun K hK => ?_)
        go_simp
        refine (unhex_any s[2 * k + 1] _).mono ?_
        rintro e w' ⟨rfl, rfl⟩
        refine hK.out _ _ trivial (fun hS => ?_)
        clear hK hS
        (repeat (first | (refine wpS_pass _ rfl (by rfl) ?_; simp only [Act.put, List.getElem_toArray, List.getElem_cons_zero, List.getElem_cons_succ, List.setIfInBounds_toArray, List.set_cons_zero, List.set_cons_succ]) | (refine wpS_take _ ?_ rfl (by rfl) ?_ ?_; rotate_left; (focus (intro w' hS'; (try dsimp only at hS'); (repeat (have hS1 := hS'.1; replace hS' := hS'.2)); go_simp; (try with_reducible rfl); done)); simp only [Act.put, List.getElem_toArray, List.getElem_cons_zero, List.getElem_cons_succ, List.setIfInBounds_toArray, List.set_cons_zero, List.set_cons_succ])))
        refine wpS_done ?_
        have hkl0 : 2 * k < s.data.toList.length := by rw [HSZ.out]; exact hks0
        have hkl1 : 2 * k + 1 < s.data.toList.length := by rw [HSZ.out]; exact hks1
        have hg0 : s.data.toList[2 * k] = s[2 * k] := rfl
        have hg1 : s.data.toList[2 * k + 1] = s[2 * k + 1] := rfl
        have hd0 : s.data.toList.getD (2 * k) 0 = s[2 * k] := by rw [← hg0, List.getD_eq_getElem?_getD, List.getElem?_eq_getElem hkl0]; rfl
        have hd1 : s.data.toList.getD (2 * k + 1) 0 = s[2 * k + 1] := by rw [← hg1, List.getD_eq_getElem?_getD, List.getElem?_eq_getElem hkl1]; rfl
        have HG0 := Lib.hid hg0
        have HG1 := Lib.hid hg1
        have HD0 := Lib.hid hd0
        have HD1 := Lib.hid hd1
        clear hg0 hg1 hd0 hd1
        by_cases hu0 : ud s[2 * k] < 0
        · have hbad := okd_bad s.data.toList (2 * k) hkl0 (by rw [HG0.out]; exact hu0)
          have hp : parseL s.data.toList = (zero32, false) := by unfold parseL; rw [hbad, if_neg]; simp
          obtain ⟨W3, hW3, HTH, HR3, HB3⟩ := arr_write (w := wr.drew) HA.out (new := zeros32) rfl hbel.drew hbel.drew.size (Nat.le_refl _)
          have HW3 := Lib.hid hW3
          have HP := Lib.hid hp
          clear hbad hp hW3
          go_wp2_with ((with_reducible (refine wpList_store_mid rfl _ _ _ rfl ?_ ?_ ?_ ?_ ?_ ?_ ?_ ?_ ?_)); (exact w.heap.size); (exact 0); (exact (b8s zeros32).toArray); (exact rfl); (exact rfl); (exact HTH.out); (exact HI0.out); (exact all_oneCell_toArray (b8s_one' _)); rw [HW3.out])
          refine bodyPost_ret (results_row_tmp rfl _ _ _ _ _ _ _ rfl HR3.out Try.underlying22 rfl HI0.out) rfl ?_
          rw [HP.out]
          exact ⟨rfl, HB3.out⟩
        by_cases hu1 : ud s[2 * k + 1] < 0
        · have hbad := okd_bad s.data.toList (2 * k + 1) hkl1 (by rw [HG1.out]; exact hu1)
          have hp : parseL s.data.toList = (zero32, false) := by unfold parseL; rw [hbad, if_neg]; simp
          obtain ⟨W3, hW3, HTH, HR3, HB3⟩ := arr_write (w := wr.drew) HA.out (new := zeros32) rfl hbel.drew hbel.drew.size (Nat.le_refl _)
          have HW3 := Lib.hid hW3
          have HP := Lib.hid hp
          clear hbad hp hW3
          go_wp2_with ((with_reducible (refine wpList_store_mid rfl _ _ _ rfl ?_ ?_ ?_ ?_ ?_ ?_ ?_ ?_ ?_)); (exact w.heap.size); (exact 0); (exact (b8s zeros32).toArray); (exact rfl); (exact rfl); (exact HTH.out); (exact HI0.out); (exact all_oneCell_toArray (b8s_one' _)); rw [HW3.out])
          refine bodyPost_ret (results_row_tmp rfl _ _ _ _ _ _ _ rfl HR3.out Try.underlying22 rfl HI0.out) rfl ?_
          rw [HP.out]
          exact ⟨rfl, HB3.out⟩
        have hok := okd_take s.data.toList (2 * k + 1) hkl1 (okd_take s.data.toList (2 * k) hkl0 HOK.out (by rw [HG0.out]; omega)) (by rw [HG1.out]; omega)
        have hok2 : okd (s.data.toList.take (2 * (k + 1))) = true := hok
        have HOK2 := Lib.hid hok2
        obtain ⟨hb1, hb2⟩ := b16_int s[2 * k] s[2 * k + 1] (by omega) (by omega)
        have hlt0 := (ud_lt s[2 * k]).2
        have hlt1 := (ud_lt s[2 * k + 1]).2
        have HB1 := Lib.hid hb1
        have hcell : ∃ v, wr.cell? ⟨w.heap.size + 1, k, none⟩ = some v := by
          refine ⟨.int .u8 (((arr s.data.toList (2 * k))[k]'(by rw [arr_len]; exact hlt)).toNat : Int), ?_⟩
          rw [row_cell HB.out, List.getElem?_toArray]; exact b8s_get _ _ (by rw [arr_len]; exact hlt)
        obtain ⟨v0, hv0⟩ := hcell
        have hfz : wr.frozen? ⟨w.heap.size + 1, k, none⟩ = false := row_free HB.out _
        have hu0' : 0 ≤ ud s[2 * k] := by omega
        have hu1' : 0 ≤ ud s[2 * k + 1] := by omega
        clear hok hok2 HOK hb1
        go_wp2_with fail
        have hg2 := grown_set (w := wr) (w.heap.size + 1) k (.int .u8 (16 * ud s[2 * k] + ud s[2 * k + 1]))
        have hset := row_set HB.out k (.int .u8 (16 * ud s[2 * k] + ud s[2 * k + 1]))
        have hrow : ((b8s (arr s.data.toList (2 * k))).toArray.setIfInBounds k (.int .u8 (16 * ud s[2 * k] + ud s[2 * k + 1]))) = (b8s (arr s.data.toList (2 * (k + 1)))).toArray := by
          rw [HB1.out, ← arr_two s.data.toList k hlt, HD0.out, HD1.out]
          simp [b8s, List.map_set]
        rw [hrow] at hset
        go_roundg (32 - (k + 1))
        case measure => omega
        case rel => exact ⟨k + 1, by omega, rfl, by go_num, HOK2, Lib.hid ((hg2.block _ (Array.getElem?_eq_some_iff.1 HA.out).1 (by simp)).trans HA.out), Lib.hid hset, (bel_grown hbel hbel.size hg2 (by omega)).drew⟩
      obtain rfl : k = 32 := by omega
      have hsl : s.data.toList.length = 64 := by rw [HSZ.out, HHL.out]
      have hok := HOK.out
      rw [show 2 * 32 = s.data.toList.length from hsl.symm, List.take_length] at hok
      have hp : parseL s.data.toList = (arr s.data.toList (2 * 32), true) := by
        unfold parseL
        rw [if_pos ⟨hsl, hok⟩, ← arr_done _ hsl]
      obtain ⟨W3, hW3, HTH, HR3, HB3⟩ := arr_write HA.out (new := arr s.data.toList (2 * 32)) (by rw [arr_len]; rfl) hbel hbel.size (Nat.le_refl _)
      have HW3 := Lib.hid hW3
      have HP := Lib.hid hp
      have HI1 : Hid ((Try.prog.info? 22).map (·.size) = some (b8s (arr s.data.toList (2 * 32))).toArray.size) := Lib.hid (info_of_arr _ (arr_len _ _) info_arr)
      clear hok hp hW3 hsl
      generalize arr s.data.toList (2 * 32) = Y at *
      go_wp2_with (first
        | ((with_reducible (refine wpList_load_row rfl _ _ rfl _ rfl _ _ _ _ HB.out Try.underlying22 rfl ?_ ?_)); (focus (exact HI1.out)))
        | ((with_reducible (refine wpList_store_mid rfl _ _ _ rfl ?_ ?_ ?_ ?_ ?_ ?_ ?_ ?_ ?_)); (exact w.heap.size); (exact 0); (exact (b8s Y).toArray); (exact rfl); (exact rfl); (exact HTH.out); (exact HI1.out); (exact all_oneCell_toArray (b8s_one' _)); rw [HW3.out]))
      refine bodyPost_ret (results_row_tmp rfl _ _ _ _ _ _ _ rfl HR3.out Try.underlying22 rfl HI1.out) rfl ?_
      rw [HP.out]
      exact ⟨rfl, HB3.out⟩
  · have hli2 : ((s.size : Int) != 64) = true := by rw [bne_iff_ne]; omega
    have hp : parseL s.data.toList = (zero32, false) := by unfold parseL; rw [if_neg]; rw [HSZ.out]; exact fun h => hl h.1
    obtain ⟨W3, hW3, HTH, HR3, HB3⟩ := arr_write HA1.out (new := zeros32) rfl HB0.out HB0.out.size (Nat.le_refl _)
    have HW3 := Lib.hid hW3
    have HP := Lib.hid hp
    clear hp hW3 hl
    go_enter Try.func14, Try.ntmps14
    go_wp2_with (first
      | ((with_reducible (refine wpList_load_row rfl _ _ rfl _ rfl _ _ _ _ HR0.out Try.underlying22 rfl ?_ ?_)); (focus (exact HI0.out)))
      | ((with_reducible (refine wpList_store_mid rfl _ _ _ rfl ?_ ?_ ?_ ?_ ?_ ?_ ?_ ?_ ?_)); (exact w.heap.size + 1); (exact 0); (exact (b8s zeros32).toArray); (exact rfl); (exact rfl); (exact HTH0.out); (exact HI0.out); (exact all_oneCell_toArray (b8s_one' _)); rw [HWc.out])
      | ((with_reducible (refine wpList_store_mid rfl _ _ _ rfl ?_ ?_ ?_ ?_ ?_ ?_ ?_ ?_ ?_)); (exact w.heap.size); (exact 0); (exact (b8s zeros32).toArray); (exact rfl); (exact rfl); (exact HTH.out); (exact HI0.out); (exact all_oneCell_toArray (b8s_one' _)); rw [HW3.out]))
    refine bodyPost_ret (results_row_tmp rfl _ _ _ _ _ _ _ rfl HR3.out Try.underlying22 rfl HI0.out) rfl ?_
    rw [HP.out]
    exact ⟨rfl, HB3.out⟩
end Go.Proofs.Ytkiggfahcakdeaa
