
/- The document's GetId. -/

import Derived.Test.YtfjfidhhmidflaaEncIn3

namespace Go.Proofs.Ytfjfidhhmidflaa

set_option linter.unusedVariables false

set_option linter.unusedSimpArgs false

open Go.RowKit

theorem id_entry (w : World) (x y : Value) : ∃ (Wa Wb Wc W1 : World), w.alloc (.cells #[x, y] 86) = Wa ∧ Wa.alloc (.cells (b8s zeros32).toArray 24) = Wb ∧ Wb.alloc (.cells #[.slice none 0 0, .bool false] 86) = Wc ∧ Wc.alloc (.cells (b8s zeros32).toArray 24) = W1 ∧
    Wa.heap.size = w.heap.size + 1 ∧ Wb.heap.size = w.heap.size + 1 + 1 ∧ Wc.heap.size = w.heap.size + 1 + 1 + 1 ∧ W1.heap.size = w.heap.size + 1 + 1 + 1 + 1 ∧
    W1.heap[w.heap.size]? = some (.cells #[x, y] 86 (0, 0)) ∧ W1.heap[w.heap.size + 1]? = some (.cells (b8s zeros32).toArray 24 (0, 0)) ∧ W1.heap[w.heap.size + 1 + 1]? = some (.cells #[.slice none 0 0, .bool false] 86 (0, 0)) ∧
    W1.heap[w.heap.size + 1 + 1 + 1]? = some (.cells (b8s zeros32).toArray 24 (0, 0)) ∧ Below w.heap.size w W1 := by
  refine ⟨_, _, _, _, rfl, rfl, rfl, rfl, by simp, by simp, by simp, by simp, ?_, ?_, ?_, ?_, ?_⟩
  · rw [heap_alloc_old _ _ (by simp; omega), heap_alloc_old _ _ (by simp; omega), heap_alloc_old _ _ (by simp), heap_alloc_new]
  · have := heap_alloc_new (w.alloc (.cells #[x, y] 86)) (.cells (b8s zeros32).toArray 24)
    rw [heap_alloc_old _ _ (by simp), heap_alloc_old _ _ (by simp)]
    simpa using this
  · have := heap_alloc_new ((w.alloc (.cells #[x, y] 86)).alloc (.cells (b8s zeros32).toArray 24)) (.cells #[.slice none 0 0, .bool false] 86)
    rw [heap_alloc_old _ _ (by simp)]
    simpa using this
  · have := heap_alloc_new (((w.alloc (.cells #[x, y] 86)).alloc (.cells (b8s zeros32).toArray 24)).alloc (.cells #[.slice none 0 0, .bool false] 86)) (.cells (b8s zeros32).toArray 24)
    simpa using this
  · exact ((((Below.refl _ _).alloc (Nat.le_refl _) _).alloc (by simp) _).alloc (by simp; omega) _).alloc (by simp; omega) _
theorem zl_one : (#[Value.int .u8 0, Value.int .u8 0, Value.int .u8 0, Value.int .u8 0, Value.int .u8 0, Value.int .u8 0, Value.int .u8 0, Value.int .u8 0, Value.int .u8 0, Value.int .u8 0, Value.int .u8 0, Value.int .u8 0, Value.int .u8 0, Value.int .u8 0, Value.int .u8 0, Value.int .u8 0, Value.int .u8 0, Value.int .u8 0, Value.int .u8 0, Value.int .u8 0, Value.int .u8 0, Value.int .u8 0, Value.int .u8 0, Value.int .u8 0, Value.int .u8 0, Value.int .u8 0, Value.int .u8 0, Value.int .u8 0, Value.int .u8 0, Value.int .u8 0, Value.int .u8 0, Value.int .u8 0]).all (·.oneCell') = true := by
  have := all_oneCell_toArray (b8s_one' zeros32)
  rw [zeros32_cells] at this
  exact this
/-- what is there behind the second row of zeros -/
theorem id_second {w W1 : World} {x y : Value} (ha : W1.heap[w.heap.size]? = some (.cells #[x, y] 86 (0, 0))) (hb : W1.heap[w.heap.size + 1]? = some (.cells (b8s zeros32).toArray 24 (0, 0))) (hc : W1.heap[w.heap.size + 1 + 1]? = some (.cells #[.slice none 0 0, .bool false] 86 (0, 0)))
    (hd : W1.heap[w.heap.size + 1 + 1 + 1]? = some (.cells (b8s zeros32).toArray 24 (0, 0))) (hbel : Below w.heap.size w W1) (hs1 : W1.heap.size = w.heap.size + 1 + 1 + 1 + 1) :
    ∃ W2, W1.setCells (w.heap.size + 1 + 1 + 1) 0 (#[Value.int .u8 0, Value.int .u8 0, Value.int .u8 0, Value.int .u8 0, Value.int .u8 0, Value.int .u8 0, Value.int .u8 0, Value.int .u8 0, Value.int .u8 0, Value.int .u8 0, Value.int .u8 0, Value.int .u8 0, Value.int .u8 0, Value.int .u8 0, Value.int .u8 0, Value.int .u8 0, Value.int .u8 0, Value.int .u8 0, Value.int .u8 0, Value.int .u8 0, Value.int .u8 0, Value.int .u8 0, Value.int .u8 0, Value.int .u8 0, Value.int .u8 0, Value.int .u8 0, Value.int .u8 0, Value.int .u8 0, Value.int .u8 0, Value.int .u8 0, Value.int .u8 0, Value.int .u8 0]).toList = W2 ∧ W2.heap[w.heap.size]? = some (.cells #[x, y] 86 (0, 0)) ∧ W2.heap[w.heap.size + 1]? = some (.cells (b8s zeros32).toArray 24 (0, 0)) ∧ W2.heap[w.heap.size + 1 + 1]? = some (.cells #[.slice none 0 0, .bool false] 86 (0, 0)) ∧
      W2.heap[w.heap.size + 1 + 1 + 1]? = some (.cells (b8s zeros32).toArray 24 (0, 0)) ∧ Below w.heap.size w W2 ∧ w.heap.size + 1 + 1 + 1 < W2.heap.size := by
  have e : (#[Value.int .u8 0, Value.int .u8 0, Value.int .u8 0, Value.int .u8 0, Value.int .u8 0, Value.int .u8 0, Value.int .u8 0, Value.int .u8 0, Value.int .u8 0, Value.int .u8 0, Value.int .u8 0, Value.int .u8 0, Value.int .u8 0, Value.int .u8 0, Value.int .u8 0, Value.int .u8 0, Value.int .u8 0, Value.int .u8 0, Value.int .u8 0, Value.int .u8 0, Value.int .u8 0, Value.int .u8 0, Value.int .u8 0, Value.int .u8 0, Value.int .u8 0, Value.int .u8 0, Value.int .u8 0, Value.int .u8 0, Value.int .u8 0, Value.int .u8 0, Value.int .u8 0, Value.int .u8 0]).toList = b8s zeros32 := by rw [zeros32_cells]
  rw [e]
  refine ⟨_, rfl, ?_, ?_, ?_, ?_, ?_, ?_⟩
  · rw [setCells_other _ _ _ _ _ (by omega)]; exact ha
  · rw [setCells_other _ _ _ _ _ (by omega)]; exact hb
  · rw [setCells_other _ _ _ _ _ (by omega)]; exact hc
  · exact row_setAll hd rfl
  · exact bel_grown hbel (by omega) (setCells_grown _ _ _ _) (by omega)
  · have := setCells_size (w.heap.size + 1 + 1 + 1) (b8s zeros32) 0 W1
    omega
theorem info_arr : (Try.prog.info? 24).map (·.size) = some 32 := by kernel_rfl

theorem zl_size : (#[Value.int .u8 0, Value.int .u8 0, Value.int .u8 0, Value.int .u8 0, Value.int .u8 0, Value.int .u8 0, Value.int .u8 0, Value.int .u8 0, Value.int .u8 0, Value.int .u8 0, Value.int .u8 0, Value.int .u8 0, Value.int .u8 0, Value.int .u8 0, Value.int .u8 0, Value.int .u8 0, Value.int .u8 0, Value.int .u8 0, Value.int .u8 0, Value.int .u8 0, Value.int .u8 0, Value.int .u8 0, Value.int .u8 0, Value.int .u8 0, Value.int .u8 0, Value.int .u8 0, Value.int .u8 0, Value.int .u8 0, Value.int .u8 0, Value.int .u8 0, Value.int .u8 0, Value.int .u8 0]).size = 32 := by simp
theorem zl_there {W : World} {g : Nat} (h : W.there g 0 32) : W.there g 0 (#[Value.int .u8 0, Value.int .u8 0, Value.int .u8 0, Value.int .u8 0, Value.int .u8 0, Value.int .u8 0, Value.int .u8 0, Value.int .u8 0, Value.int .u8 0, Value.int .u8 0, Value.int .u8 0, Value.int .u8 0, Value.int .u8 0, Value.int .u8 0, Value.int .u8 0, Value.int .u8 0, Value.int .u8 0, Value.int .u8 0, Value.int .u8 0, Value.int .u8 0, Value.int .u8 0, Value.int .u8 0, Value.int .u8 0, Value.int .u8 0, Value.int .u8 0, Value.int .u8 0, Value.int .u8 0, Value.int .u8 0, Value.int .u8 0, Value.int .u8 0, Value.int .u8 0, Value.int .u8 0]).size := by rw [zl_size]; exact h
theorem info_zl : (Try.prog.info? 24).map (·.size) = some (#[Value.int .u8 0, Value.int .u8 0, Value.int .u8 0, Value.int .u8 0, Value.int .u8 0, Value.int .u8 0, Value.int .u8 0, Value.int .u8 0, Value.int .u8 0, Value.int .u8 0, Value.int .u8 0, Value.int .u8 0, Value.int .u8 0, Value.int .u8 0, Value.int .u8 0, Value.int .u8 0, Value.int .u8 0, Value.int .u8 0, Value.int .u8 0, Value.int .u8 0, Value.int .u8 0, Value.int .u8 0, Value.int .u8 0, Value.int .u8 0, Value.int .u8 0, Value.int .u8 0, Value.int .u8 0, Value.int .u8 0, Value.int .u8 0, Value.int .u8 0, Value.int .u8 0, Value.int .u8 0]).size := by rw [zl_size]; exact info_arr

/-- the array while it is filled -/
def part (bs : List UInt8) (k : Nat) : List UInt8 := bs.take k ++ List.replicate (32 - k) 0
theorem part_zero (bs : List UInt8) : part bs 0 = zeros32 := rfl
theorem part_len (bs : List UInt8) (k : Nat) (h : k ≤ bs.length) (h2 : k ≤ 32) : (part bs k).length = 32 := by
  simp [part]; omega
theorem part_done (bs : List UInt8) : part bs 32 = bs.take 32 := by simp [part]
theorem part_step (bs : List UInt8) (k : Nat) (h : k < bs.length) (h2 : k < 32) : (b8s (part bs k)).toArray.setIfInBounds k (.int .u8 (bs[k].toNat : Int)) = (b8s (part bs (k + 1))).toArray := by
  have e : part bs (k + 1) = (part bs k).set k bs[k] := by
    unfold part
    have h3 : (bs.take k).length = k := by rw [List.length_take]; omega
    obtain ⟨m, hm⟩ : ∃ m, 32 - k = m + 1 := ⟨31 - k, by omega⟩
    have hm2 : 32 - (k + 1) = m := by omega
    rw [hm, hm2, List.replicate_succ, List.take_succ_eq_append_getElem h, List.set_append, h3, if_neg (by omega), Nat.sub_self, List.set_cons_zero, List.append_assoc]
    rfl
  rw [e, List.setIfInBounds_toArray]
  simp [b8s, List.map_set]
theorem part_cell (bs : List UInt8) (k : Nat) (h : k < bs.length) (h2 : k < 32) : ∃ v, (b8s (part bs k)).toArray[k]? = some v := by
  have : k < (b8s (part bs k)).toArray.size := by
    rw [List.size_toArray, b8s_length, part_len bs k (by omega) (by omega)]; exact h2
  exact ⟨_, Array.getElem?_eq_getElem this⟩

set_option maxRecDepth 100000 in
set_option maxHeartbeats 400000 in
theorem igetid_any (st : St) (v : Value) (w : World) (h : InV w v st) :
    Calls Try.prog 52 #[v] w fun e w' => ∃ u, e = .returned (.tuple #[.agg (b8s (getId st).1).toArray, u]) ∧ InV w' u (getId st).2 ∧ Below w.heap.size w w' := by
  have hcases := st_cases st 32
  have hT : getId st = (padId (getN st 32).1, (getN st 32).2) := rfl
  generalize getId st = T at *
  have HT := Lib.hid hT
  clear hT
  rcases hcases with ⟨bs, rfl, hlen⟩ | hno
  · obtain ⟨A, n, c, rfl, hn, h2, h3, h4⟩ := h
    have hl : ¬ (n : Int) < 32 := by omega
    have Hn := Lib.hid hn
    have H4 := Lib.hid h4
    obtain ⟨Wa, Wb, Wc, W1, hWa, hWb, hWc, hW1, hsa, hsb, hsc, hs1, ha, hb, hc, hd, hbel⟩ := id_entry w (.slice A n c) (.bool false)
    have hWb' : Wa.alloc (.cells #[Value.int .u8 0, Value.int .u8 0, Value.int .u8 0, Value.int .u8 0, Value.int .u8 0, Value.int .u8 0, Value.int .u8 0, Value.int .u8 0, Value.int .u8 0, Value.int .u8 0, Value.int .u8 0, Value.int .u8 0, Value.int .u8 0, Value.int .u8 0, Value.int .u8 0, Value.int .u8 0, Value.int .u8 0, Value.int .u8 0, Value.int .u8 0, Value.int .u8 0, Value.int .u8 0, Value.int .u8 0, Value.int .u8 0, Value.int .u8 0, Value.int .u8 0, Value.int .u8 0, Value.int .u8 0, Value.int .u8 0, Value.int .u8 0, Value.int .u8 0, Value.int .u8 0, Value.int .u8 0] 24) = Wb := hWb
    have hW1' : Wc.alloc (.cells #[Value.int .u8 0, Value.int .u8 0, Value.int .u8 0, Value.int .u8 0, Value.int .u8 0, Value.int .u8 0, Value.int .u8 0, Value.int .u8 0, Value.int .u8 0, Value.int .u8 0, Value.int .u8 0, Value.int .u8 0, Value.int .u8 0, Value.int .u8 0, Value.int .u8 0, Value.int .u8 0, Value.int .u8 0, Value.int .u8 0, Value.int .u8 0, Value.int .u8 0, Value.int .u8 0, Value.int .u8 0, Value.int .u8 0, Value.int .u8 0, Value.int .u8 0, Value.int .u8 0, Value.int .u8 0, Value.int .u8 0, Value.int .u8 0, Value.int .u8 0, Value.int .u8 0, Value.int .u8 0] 24) = W1 := hW1
    have hthere : W1.there (w.heap.size + 1 + 1 + 1) 0 32 := there_of_row hd
    have HT4 := Lib.hid hthere
    obtain ⟨W2, hW2, ha, hb, hc, hd, hbel, hs2⟩ := id_second ha hb hc hd hbel hs1
    have ca0 : W2.cell? ⟨w.heap.size, 0, none⟩ = some (.slice A n c) := row_cell ha 0
    have ca1 : W2.cell? ⟨w.heap.size, 1, none⟩ = some (.bool false) := row_cell ha 1
    have Ha := Lib.hid ha
    have Hb := Lib.hid hb
    have Hc := Lib.hid hc
    have Hd := Lib.hid hd
    have Hs2 := Lib.hid hs2
    clear hn h4 hWb hW1 ha hb hc hd hthere hs2
    go_enter Try.func52, Try.ntmps52
    go_wp2_with ((with_reducible (refine wpList_store_mid rfl _ _ _ rfl ?_ ?_ ?_ ?_ ?_ ?_ ?_ ?_ ?_)); (exact w.heap.size + 1 + 1 + 1); (exact 0); (exact #[Value.int .u8 0, Value.int .u8 0, Value.int .u8 0, Value.int .u8 0, Value.int .u8 0, Value.int .u8 0, Value.int .u8 0, Value.int .u8 0, Value.int .u8 0, Value.int .u8 0, Value.int .u8 0, Value.int .u8 0, Value.int .u8 0, Value.int .u8 0, Value.int .u8 0, Value.int .u8 0, Value.int .u8 0, Value.int .u8 0, Value.int .u8 0, Value.int .u8 0, Value.int .u8 0, Value.int .u8 0, Value.int .u8 0, Value.int .u8 0, Value.int .u8 0, Value.int .u8 0, Value.int .u8 0, Value.int .u8 0, Value.int .u8 0, Value.int .u8 0, Value.int .u8 0, Value.int .u8 0]); (focus (simp [Act.eval]; done)); (focus (simp [Act.eval]; done)); (exact zl_there HT4.out); (exact info_zl); (exact zl_one); rw [hW2])
    clear hWa hWc hWb' hW1' hW2 hsa hsb hsc hs1 HT4
    go_loopw [5] (fun i wr => ∃ (k : Nat), k ≤ 32 ∧ i = .int .i64 (k : Int) ∧ wr.heap[w.heap.size]? = some (.cells #[.slice A n c, .bool false] 86 (0, 0)) ∧ Hid (wr.heap[w.heap.size + 1]? = some (.cells (b8s zeros32).toArray 24 (0, 0))) ∧ Hid (wr.heap[w.heap.size + 1 + 1]? = some (.cells #[.slice none 0 0, .bool false] 86 (0, 0))) ∧
      wr.heap[w.heap.size + 1 + 1 + 1]? = some (.cells (b8s (part bs k)).toArray 24 (0, 0)) ∧ Below w.heap.size w wr ∧ w.heap.size + 1 + 1 + 1 < wr.heap.size) (fun i _ => 32 - (intOf i).toNat)
    case atStart => exact ⟨0, by omega, rfl, Ha.out, Hb, Hc, Hd.out, hbel, Hs2.out⟩
    case round =>
      clear ca0 ca1 Ha Hb Hc Hd hbel Hs2
      obtain ⟨k, hk, rfl, ha, Hb, Hc, hd, hbel, hsz⟩ := hrel
      have ca0 : wr.cell? ⟨w.heap.size, 0, none⟩ = some (.slice A n c) := row_cell ha 0
      have Ha := Lib.hid ha
      have Hd := Lib.hid hd
      by_cases hlt : k < 32
      · obtain ⟨b, o, rfl, hcell⟩ := (H4.out.below hbel).byte k (by omega)
        have hkn : (k : Int) < (n : Int) := by have := Hn.out; omega
        have hkn2 : k < n := by have := Hn.out; omega
        obtain ⟨v0, hv0⟩ := part_cell bs k (by omega) hlt
        have hd0 : wr.cell? ⟨w.heap.size + 1 + 1 + 1, k, none⟩ = some v0 := (row_cell hd k).trans hv0
        have hf0 : wr.frozen? ⟨w.heap.size + 1 + 1 + 1, k, none⟩ = false := row_free hd k
        clear ha hd hv0
        have hgs := grown_set (w := wr) (w.heap.size + 1 + 1 + 1) k (.int .u8 (bs[k].toNat : Int))
        go_wp2_with fail
        go_roundw
        case rel =>
          refine ⟨k + 1, by omega, by go_num, ?_, ?_, ?_, ?_, ?_, ?_⟩
          · exact (hgs.block _ (by omega) (by simp; omega)).trans Ha.out
          · exact (hgs.block _ (by omega) (by simp)).trans Hb.out
          · exact (hgs.block _ (by omega) (by simp)).trans Hc.out
          · have := row_set Hd.out k (.int .u8 (bs[k].toNat : Int))
            rw [part_step bs k (by omega) hlt] at this
            exact this
          · exact bel_grown hbel (by omega) hgs (by omega)
          · exact Nat.lt_of_lt_of_le hsz hgs.size
        case measure => simp [intOf]; omega
      · obtain rfl : k = 32 := by omega
        rw [part_done] at Hd
        have hn32 : 32 ≤ n := by have := Hn.out; omega
        have hn32i : (32 : Int) ≤ (n : Int) := by omega
        have hbi : (bs.take 32).length = 32 := by rw [List.length_take]; omega
        go_wp2_with fail
        refine wp_region_sched (fun w' => w'.heap[w.heap.size + 1 + 1 + 1]? = some (.cells (b8s (bs.take 32)).toArray 24 (0, 0)) ∧ w'.cell? ⟨w.heap.size, 0, none⟩ = some (.slice A n c)) [(true, 0), (true, 1), (true, 2), (true, 3), (true, 4), (false, 5), (false, 6)] (by kernel_rfl) (by kernel_rfl) rfl (by kernel_rfl) ⟨Hd.out, ca0⟩ ?_
        refine wpS_load _ rfl (by rfl) _ _ rfl _ _ rfl (b8s (bs.take 32)) _ (fun w' hS' => range_of_row hS'.1) Try.underlying24 rfl (by rw [b8s_length, hbi]; exact info_arr) ?_
        simp only [Act.put, List.getElem_toArray, List.getElem_cons_zero, List.getElem_cons_succ, List.setIfInBounds_toArray, List.set_cons_zero, List.set_cons_succ]
        (repeat (first | (refine wpS_pass _ rfl (by rfl) ?_; simp only [Act.put, List.getElem_toArray, List.getElem_cons_zero, List.getElem_cons_succ, List.setIfInBounds_toArray, List.set_cons_zero, List.set_cons_succ]) | (refine wpS_take _ ?_ rfl (by rfl) ?_ ?_; rotate_left; (focus (intro w' hS'; (try dsimp only at hS'); (repeat (have hS1 := hS'.1; replace hS' := hS'.2)); go_simp; (try with_reducible rfl); done)); simp only [Act.put, List.getElem_toArray, List.getElem_cons_zero, List.getElem_cons_succ, List.setIfInBounds_toArray, List.set_cons_zero, List.set_cons_succ])))
        obtain ⟨A', hA'⟩ : ∃ A', (if c = 32 then A else Option.map (fun x => (⟨x.block, x.off + 32, none⟩ : Addr)) A) = A' := ⟨_, rfl⟩
        rw [hA']
        have HA := Lib.hid hA'
        clear hA'
        generalize hI : bs.take 32 = idv at *
        have hth : wr.drew.there (w.heap.size + 1) 0 (b8s idv).toArray.size := by
          have e : (b8s idv).toArray.size = 32 := by simp [b8s, hbi]
          rw [e]
          exact there_of_row (w := wr.drew) Hb.out
        have hinf : (Try.prog.info? 24).map (·.size) = some (b8s idv).toArray.size := by
          have e : (b8s idv).toArray.size = 32 := by simp [b8s, hbi]
          rw [e]
          exact info_arr
        have hsc := setCells_grown (w.heap.size + 1) (b8s idv) 0 wr.drew
        have hrb := row_setAll (w := wr.drew) (vs := b8s idv) Hb.out (by rw [b8s_length, b8s_length, hbi]; rfl)
        have hlist : ((b8s idv).toArray).toList = b8s idv := rfl
        refine wpS_do _ rfl (by rfl) (fun K hK => ?_)
        refine wp_store_mid _ _ _ rfl (w.heap.size + 1) 0 (b8s idv).toArray rfl rfl hth hinf (all_oneCell_toArray (b8s_one' _)) ?_
        rw [hlist]
        generalize wr.drew.setCells (w.heap.size + 1) 0 (b8s idv) = w5 at *
        have hszd : wr.drew.heap.size = wr.heap.size := rfl
        have ha5 := (hsc.block w.heap.size (by omega) (by first | (simp; done) | (simp; omega))).trans Ha.out
        have hc5 := (hsc.block (w.heap.size + 1 + 1) (by omega) (by first | (simp; done) | (simp; omega))).trans Hc.out
        have hd5 := (hsc.block (w.heap.size + 1 + 1 + 1) (by omega) (by first | (simp; done) | (simp; omega))).trans Hd.out
        have hb5 := bel_grown (w1 := wr.drew) hbel.drew (by omega) hsc (by omega)
        have hs5 := hsc.size
        have ca5 : w5.cell? ⟨w.heap.size, 0, none⟩ = some (.slice A n c) := row_cell ha5 0
        refine hK.out _ _ ⟨hd5, ca5⟩ (fun hS => ?_)
        clear hK hS
        have Hb5 := Lib.hid hrb
        have Hc5 := Lib.hid hc5
        have Hd5 := Lib.hid hd5
        have hinf2 := hinf
        clear hrb hc5 hd5 ha5 hsc hth hinf hlist Ha Hb Hc Hd ca0
        refine wpS_do _ rfl (by rfl) (fun K hK => ?_)
        simp only [Act.put, List.getElem_toArray, List.getElem_cons_zero, List.getElem_cons_succ, List.setIfInBounds_toArray, List.set_cons_zero, List.set_cons_succ]
        have f0 : w5.frozen? ⟨w.heap.size + 1 + 1, 0, none⟩ = false := row_free Hc5.out 0
        have f1 : w5.frozen? ⟨w.heap.size + 1 + 1, 1, none⟩ = false := row_free Hc5.out 1
        have c0 : w5.cell? ⟨w.heap.size + 1 + 1, 0, none⟩ = some (.slice none 0 0) := row_cell Hc5.out 0
        have c1 : w5.cell? ⟨w.heap.size + 1 + 1, 1, none⟩ = some (.bool false) := row_cell Hc5.out 1
        go_simp
        refine hK.out _ _ ⟨?_, ?_⟩ (fun hS => ?_)
        · have := (grown_set2 w5 (w.heap.size + 1 + 1) (.slice A' (n - 32) (c - 32)) (.bool false)).block (w.heap.size + 1 + 1 + 1) (by omega) (by first | (simp; done) | (simp; omega))
          exact this.trans Hd5.out
        · exact (set2_far _ _ _ _ _ (by dsimp only; omega)).trans ca5
        clear hK hS f0 f1 c0 c1 ca5
        refine wpS_done ?_
        have hg6 := grown_set2 w5 (w.heap.size + 1 + 1) (.slice A' (n - 32) (c - 32)) (.bool false)
        have hb6 := (hg6.block (w.heap.size + 1) (by omega) (by first | (simp; done) | (simp; omega))).trans Hb5.out
        have hc6 := row_set2 Hc5.out (.slice A' (n - 32) (c - 32)) (.bool false)
        have hbel6 := bel_set2 hb5 (by omega) (g := w.heap.size + 1 + 1) (by omega) (.slice A' (n - 32) (c - 32)) (.bool false)
        have HB6 := Lib.hid hb6
        have HC6 := Lib.hid hc6
        clear hb6 hc6 hg6
        go_wp2_with fail
        have hT := HT.out
        rw [getN_yes hlen] at hT
        have hpad : padId (bs.take 32) = idv := by
          rw [hI]
          unfold padId
          rw [if_neg (by intro h0; rw [h0] at hbi; simp at hbi)]
        dsimp only at hT
        rw [hpad] at hT
        subst hT
        refine bodyPost_ret (results_row_row rfl _ _ _ _ _ _ _ _ _ _ _ _ rfl HC6.out Try.underlying86 rfl info_in rfl HB6.out Try.underlying24 rfl hinf2) rfl ?_
        refine ⟨.agg #[.slice A' (n - 32) (c - 32), .bool false], rfl, ?_, hbel6⟩
        have hd := Rd.drop (k := 32) (size := 1) (cap := c) (H4.out.below hbel6) (by rw [b8s_length]; have := Hn.out; omega)
        rw [Nat.mul_one, ← b8s_drop] at hd
        refine ⟨_, _, _, rfl, by have := Hn.out; rw [List.length_drop]; omega, by omega, by omega, ?_⟩
        have hA2 : (if c = 32 then A else A.map (·.add 32)) = A' := by
          rw [← HA.out]
          obtain ⟨b, o, hA, _⟩ := H4.out.byte 0 (by omega)
          rw [hA]
          simp [Addr.add]
        rw [hA2] at hd
        exact hd
  · have hT := HT.out
    rw [getN_no hno] at hT
    have HT2 := Lib.hid hT
    clear hT HT
    cases st with
    | none =>
      cases h
      obtain ⟨Wa, Wb, Wc, W1, hWa, hWb, hWc, hW1, hsa, hsb, hsc, hs1, ha, hb, hc, hd, hbel⟩ := id_entry w (.slice none 0 0) (.bool true)
      have hWb' : Wa.alloc (.cells #[Value.int .u8 0, Value.int .u8 0, Value.int .u8 0, Value.int .u8 0, Value.int .u8 0, Value.int .u8 0, Value.int .u8 0, Value.int .u8 0, Value.int .u8 0, Value.int .u8 0, Value.int .u8 0, Value.int .u8 0, Value.int .u8 0, Value.int .u8 0, Value.int .u8 0, Value.int .u8 0, Value.int .u8 0, Value.int .u8 0, Value.int .u8 0, Value.int .u8 0, Value.int .u8 0, Value.int .u8 0, Value.int .u8 0, Value.int .u8 0, Value.int .u8 0, Value.int .u8 0, Value.int .u8 0, Value.int .u8 0, Value.int .u8 0, Value.int .u8 0, Value.int .u8 0, Value.int .u8 0] 24) = Wb := hWb
      have hW1' : Wc.alloc (.cells #[Value.int .u8 0, Value.int .u8 0, Value.int .u8 0, Value.int .u8 0, Value.int .u8 0, Value.int .u8 0, Value.int .u8 0, Value.int .u8 0, Value.int .u8 0, Value.int .u8 0, Value.int .u8 0, Value.int .u8 0, Value.int .u8 0, Value.int .u8 0, Value.int .u8 0, Value.int .u8 0, Value.int .u8 0, Value.int .u8 0, Value.int .u8 0, Value.int .u8 0, Value.int .u8 0, Value.int .u8 0, Value.int .u8 0, Value.int .u8 0, Value.int .u8 0, Value.int .u8 0, Value.int .u8 0, Value.int .u8 0, Value.int .u8 0, Value.int .u8 0, Value.int .u8 0, Value.int .u8 0] 24) = W1 := hW1
      have hthere : W1.there (w.heap.size + 1 + 1 + 1) 0 32 := there_of_row hd
      have HT4 := Lib.hid hthere
      obtain ⟨W2, hW2, ha, hb, hc, hd, hbel, hs2⟩ := id_second ha hb hc hd hbel hs1
      have ca0 : W2.cell? ⟨w.heap.size, 0, none⟩ = some (.slice none 0 0) := row_cell ha 0
      have ca1 : W2.cell? ⟨w.heap.size, 1, none⟩ = some (.bool true) := row_cell ha 1
      have Ha := Lib.hid ha
      have Hb := Lib.hid hb
      have Hc := Lib.hid hc
      have Hd := Lib.hid hd
      have Hs2 := Lib.hid hs2
      clear hWb hW1 ha hb hc hd hthere hs2
      go_enter Try.func52, Try.ntmps52
      go_wp2_with ((with_reducible (refine wpList_store_mid rfl _ _ _ rfl ?_ ?_ ?_ ?_ ?_ ?_ ?_ ?_ ?_)); (exact w.heap.size + 1 + 1 + 1); (exact 0); (exact #[Value.int .u8 0, Value.int .u8 0, Value.int .u8 0, Value.int .u8 0, Value.int .u8 0, Value.int .u8 0, Value.int .u8 0, Value.int .u8 0, Value.int .u8 0, Value.int .u8 0, Value.int .u8 0, Value.int .u8 0, Value.int .u8 0, Value.int .u8 0, Value.int .u8 0, Value.int .u8 0, Value.int .u8 0, Value.int .u8 0, Value.int .u8 0, Value.int .u8 0, Value.int .u8 0, Value.int .u8 0, Value.int .u8 0, Value.int .u8 0, Value.int .u8 0, Value.int .u8 0, Value.int .u8 0, Value.int .u8 0, Value.int .u8 0, Value.int .u8 0, Value.int .u8 0, Value.int .u8 0]); (focus (simp [Act.eval]; done)); (focus (simp [Act.eval]; done)); (exact zl_there HT4.out); (exact info_zl); (exact zl_one); rw [hW2])
      clear hWa hWc hWb' hW1' hW2 hsa hsb hsc hs1 HT4 ca0 ca1
      refine wp_region_sched (fun w' => w'.heap[w.heap.size + 1 + 1 + 1]? = some (.cells (b8s zeros32).toArray 24 (0, 0))) [(true, 0), (false, 1), (false, 2), (false, 3)] (by kernel_rfl) (by kernel_rfl) rfl (by kernel_rfl) Hd.out ?_
      refine wpS_load _ rfl (by rfl) _ _ rfl _ _ rfl (b8s zeros32) _ (fun w' hS' => range_of_row hS') Try.underlying24 rfl (by rw [b8s_length]; exact info_arr) ?_
      simp only [Act.put, List.getElem_toArray, List.getElem_cons_zero, List.getElem_cons_succ, List.setIfInBounds_toArray, List.set_cons_zero, List.set_cons_succ]
      generalize hZ : b8s zeros32 = Z at *
      refine wpS_do _ rfl (by rfl) (fun K hK => ?_)
      go_simp
      refine (failed_any _).mono ?_
      rintro e w3 ⟨rfl, hb3⟩
      have hs2 := Hs2.out
      have hd3 := (hb3.block (w.heap.size + 1 + 1 + 1) (by simpa using hs2)).trans Hd.out
      have hc3 := (hb3.block (w.heap.size + 1 + 1) (by show _ < W2.heap.size; omega)).trans Hc.out
      have hr3 := (hb3.block (w.heap.size + 1) (by show _ < W2.heap.size; omega)).trans Hb.out
      have hbel3 := hbel.trans ((show Below W2.heap.size W2 w3 from ⟨hb3.os, hb3.tape, hb3.output, hb3.size, hb3.block⟩).mono (by omega))
      have hs3 : W2.heap.size ≤ w3.heap.size := hb3.size
      refine hK.out _ _ hd3 (fun hS => ?_)
      clear hK hS
      have hzl : Z.length = 32 := by rw [← hZ, b8s_length]; rfl
      have hzs : Z.toArray.size = 32 := by rw [List.size_toArray]; exact hzl
      have hth : w3.there (w.heap.size + 1) 0 Z.toArray.size := there_of_row hr3
      have hinf : (Try.prog.info? 24).map (·.size) = some Z.toArray.size := by rw [hzs]; exact info_arr
      have hone : Z.toArray.all (·.oneCell') = true := by rw [← hZ]; exact all_oneCell_toArray (b8s_one' _)
      have hsc := setCells_grown (w.heap.size + 1) Z 0 w3
      have hrb := row_setAll (vs := Z) hr3 rfl
      refine wpS_do _ rfl (by rfl) (fun K hK => ?_)
      refine wp_store_mid _ _ _ rfl (w.heap.size + 1) 0 Z.toArray rfl rfl hth hinf hone ?_
      rw [show Z.toArray.toList = Z from rfl]
      generalize w3.setCells (w.heap.size + 1) 0 Z = w5 at *
      have hc5 := (hsc.block (w.heap.size + 1 + 1) (by omega) (by first | (simp; done) | (simp; omega))).trans hc3
      have hd5 := (hsc.block (w.heap.size + 1 + 1 + 1) (by omega) (by first | (simp; done) | (simp; omega))).trans hd3
      have hb5 := bel_grown hbel3 (by omega) hsc (by omega)
      have hs5 := hsc.size
      refine hK.out _ _ hd5 (fun hS => ?_)
      clear hK hS
      have Hb5 := Lib.hid hrb
      have Hc5 := Lib.hid hc5
      have Hd5 := Lib.hid hd5
      have hinf2 := hinf
      clear hrb hc5 hd5 hsc hth hinf hone Hb Hc Hd hr3 hc3 hd3
      refine wpS_do _ rfl (by rfl) (fun K hK => ?_)
      simp only [Act.put, List.getElem_toArray, List.getElem_cons_zero, List.getElem_cons_succ, List.setIfInBounds_toArray, List.set_cons_zero, List.set_cons_succ]
      have f0 : w5.frozen? ⟨w.heap.size + 1 + 1, 0, none⟩ = false := row_free Hc5.out 0
      have f1 : w5.frozen? ⟨w.heap.size + 1 + 1, 1, none⟩ = false := row_free Hc5.out 1
      have c0 : w5.cell? ⟨w.heap.size + 1 + 1, 0, none⟩ = some (.slice none 0 0) := row_cell Hc5.out 0
      have c1 : w5.cell? ⟨w.heap.size + 1 + 1, 1, none⟩ = some (.bool false) := row_cell Hc5.out 1
      go_simp
      refine hK.out _ _ ?_ (fun hS => ?_)
      · have := (grown_set2 w5 (w.heap.size + 1 + 1) (.slice none 0 0) (.bool true)).block (w.heap.size + 1 + 1 + 1) (by omega) (by first | (simp; done) | (simp; omega))
        exact this.trans Hd5.out
      clear hK hS f0 f1 c0 c1
      refine wpS_done ?_
      have hg6 := grown_set2 w5 (w.heap.size + 1 + 1) (.slice none 0 0) (.bool true)
      have hb6 := (hg6.block (w.heap.size + 1) (by omega) (by first | (simp; done) | (simp; omega))).trans Hb5.out
      have hc6 := row_set2 Hc5.out (.slice none 0 0) (.bool true)
      have hbel6 := bel_set2 hb5 (by omega) (g := w.heap.size + 1 + 1) (by omega) (.slice none 0 0) (.bool true)
      have HB6 := Lib.hid hb6
      have HC6 := Lib.hid hc6
      clear hb6 hc6 hg6
      go_wp2_with fail
      have hT := HT2.out
      subst hT
      subst hZ
      exact bodyPost_ret (results_row_row rfl _ _ _ _ _ _ _ _ _ _ _ _ rfl HC6.out Try.underlying86 rfl info_in rfl HB6.out Try.underlying24 rfl hinf2) rfl ⟨_, rfl, rfl, hbel6⟩
    | some bs =>
      have hl := hno bs rfl
      obtain ⟨A, n, c, rfl, hn, h2, h3, h4⟩ := h
      have hl' : (n : Int) < 32 := by omega
      clear hl hn h4
      obtain ⟨Wa, Wb, Wc, W1, hWa, hWb, hWc, hW1, hsa, hsb, hsc, hs1, ha, hb, hc, hd, hbel⟩ := id_entry w (.slice A n c) (.bool false)
      have hWb' : Wa.alloc (.cells #[Value.int .u8 0, Value.int .u8 0, Value.int .u8 0, Value.int .u8 0, Value.int .u8 0, Value.int .u8 0, Value.int .u8 0, Value.int .u8 0, Value.int .u8 0, Value.int .u8 0, Value.int .u8 0, Value.int .u8 0, Value.int .u8 0, Value.int .u8 0, Value.int .u8 0, Value.int .u8 0, Value.int .u8 0, Value.int .u8 0, Value.int .u8 0, Value.int .u8 0, Value.int .u8 0, Value.int .u8 0, Value.int .u8 0, Value.int .u8 0, Value.int .u8 0, Value.int .u8 0, Value.int .u8 0, Value.int .u8 0, Value.int .u8 0, Value.int .u8 0, Value.int .u8 0, Value.int .u8 0] 24) = Wb := hWb
      have hW1' : Wc.alloc (.cells #[Value.int .u8 0, Value.int .u8 0, Value.int .u8 0, Value.int .u8 0, Value.int .u8 0, Value.int .u8 0, Value.int .u8 0, Value.int .u8 0, Value.int .u8 0, Value.int .u8 0, Value.int .u8 0, Value.int .u8 0, Value.int .u8 0, Value.int .u8 0, Value.int .u8 0, Value.int .u8 0, Value.int .u8 0, Value.int .u8 0, Value.int .u8 0, Value.int .u8 0, Value.int .u8 0, Value.int .u8 0, Value.int .u8 0, Value.int .u8 0, Value.int .u8 0, Value.int .u8 0, Value.int .u8 0, Value.int .u8 0, Value.int .u8 0, Value.int .u8 0, Value.int .u8 0, Value.int .u8 0] 24) = W1 := hW1
      have hthere : W1.there (w.heap.size + 1 + 1 + 1) 0 32 := there_of_row hd
      have HT4 := Lib.hid hthere
      obtain ⟨W2, hW2, ha, hb, hc, hd, hbel, hs2⟩ := id_second ha hb hc hd hbel hs1
      have ca0 : W2.cell? ⟨w.heap.size, 0, none⟩ = some (.slice A n c) := row_cell ha 0
      have ca1 : W2.cell? ⟨w.heap.size, 1, none⟩ = some (.bool false) := row_cell ha 1
      have Ha := Lib.hid ha
      have Hb := Lib.hid hb
      have Hc := Lib.hid hc
      have Hd := Lib.hid hd
      have Hs2 := Lib.hid hs2
      clear hWb hW1 ha hb hc hd hthere hs2
      go_enter Try.func52, Try.ntmps52
      go_wp2_with ((with_reducible (refine wpList_store_mid rfl _ _ _ rfl ?_ ?_ ?_ ?_ ?_ ?_ ?_ ?_ ?_)); (exact w.heap.size + 1 + 1 + 1); (exact 0); (exact #[Value.int .u8 0, Value.int .u8 0, Value.int .u8 0, Value.int .u8 0, Value.int .u8 0, Value.int .u8 0, Value.int .u8 0, Value.int .u8 0, Value.int .u8 0, Value.int .u8 0, Value.int .u8 0, Value.int .u8 0, Value.int .u8 0, Value.int .u8 0, Value.int .u8 0, Value.int .u8 0, Value.int .u8 0, Value.int .u8 0, Value.int .u8 0, Value.int .u8 0, Value.int .u8 0, Value.int .u8 0, Value.int .u8 0, Value.int .u8 0, Value.int .u8 0, Value.int .u8 0, Value.int .u8 0, Value.int .u8 0, Value.int .u8 0, Value.int .u8 0, Value.int .u8 0, Value.int .u8 0]); (focus (simp [Act.eval]; done)); (focus (simp [Act.eval]; done)); (exact zl_there HT4.out); (exact info_zl); (exact zl_one); rw [hW2])
      clear hWa hWc hWb' hW1' hW2 hsa hsb hsc hs1 HT4 ca0 ca1
      refine wp_region_sched (fun w' => w'.heap[w.heap.size + 1 + 1 + 1]? = some (.cells (b8s zeros32).toArray 24 (0, 0))) [(true, 0), (false, 1), (false, 2), (false, 3)] (by kernel_rfl) (by kernel_rfl) rfl (by kernel_rfl) Hd.out ?_
      refine wpS_load _ rfl (by rfl) _ _ rfl _ _ rfl (b8s zeros32) _ (fun w' hS' => range_of_row hS') Try.underlying24 rfl (by rw [b8s_length]; exact info_arr) ?_
      simp only [Act.put, List.getElem_toArray, List.getElem_cons_zero, List.getElem_cons_succ, List.setIfInBounds_toArray, List.set_cons_zero, List.set_cons_succ]
      generalize hZ : b8s zeros32 = Z at *
      refine wpS_do _ rfl (by rfl) (fun K hK => ?_)
      go_simp
      refine (failed_any _).mono ?_
      rintro e w3 ⟨rfl, hb3⟩
      have hs2 := Hs2.out
      have hd3 := (hb3.block (w.heap.size + 1 + 1 + 1) (by simpa using hs2)).trans Hd.out
      have hc3 := (hb3.block (w.heap.size + 1 + 1) (by show _ < W2.heap.size; omega)).trans Hc.out
      have hr3 := (hb3.block (w.heap.size + 1) (by show _ < W2.heap.size; omega)).trans Hb.out
      have hbel3 := hbel.trans ((show Below W2.heap.size W2 w3 from ⟨hb3.os, hb3.tape, hb3.output, hb3.size, hb3.block⟩).mono (by omega))
      have hs3 : W2.heap.size ≤ w3.heap.size := hb3.size
      refine hK.out _ _ hd3 (fun hS => ?_)
      clear hK hS
      have hzl : Z.length = 32 := by rw [← hZ, b8s_length]; rfl
      have hzs : Z.toArray.size = 32 := by rw [List.size_toArray]; exact hzl
      have hth : w3.there (w.heap.size + 1) 0 Z.toArray.size := there_of_row hr3
      have hinf : (Try.prog.info? 24).map (·.size) = some Z.toArray.size := by rw [hzs]; exact info_arr
      have hone : Z.toArray.all (·.oneCell') = true := by rw [← hZ]; exact all_oneCell_toArray (b8s_one' _)
      have hsc := setCells_grown (w.heap.size + 1) Z 0 w3
      have hrb := row_setAll (vs := Z) hr3 rfl
      refine wpS_do _ rfl (by rfl) (fun K hK => ?_)
      refine wp_store_mid _ _ _ rfl (w.heap.size + 1) 0 Z.toArray rfl rfl hth hinf hone ?_
      rw [show Z.toArray.toList = Z from rfl]
      generalize w3.setCells (w.heap.size + 1) 0 Z = w5 at *
      have hc5 := (hsc.block (w.heap.size + 1 + 1) (by omega) (by first | (simp; done) | (simp; omega))).trans hc3
      have hd5 := (hsc.block (w.heap.size + 1 + 1 + 1) (by omega) (by first | (simp; done) | (simp; omega))).trans hd3
      have hb5 := bel_grown hbel3 (by omega) hsc (by omega)
      have hs5 := hsc.size
      refine hK.out _ _ hd5 (fun hS => ?_)
      clear hK hS
      have Hb5 := Lib.hid hrb
      have Hc5 := Lib.hid hc5
      have Hd5 := Lib.hid hd5
      have hinf2 := hinf
      clear hrb hc5 hd5 hsc hth hinf hone Hb Hc Hd hr3 hc3 hd3
      refine wpS_do _ rfl (by rfl) (fun K hK => ?_)
      simp only [Act.put, List.getElem_toArray, List.getElem_cons_zero, List.getElem_cons_succ, List.setIfInBounds_toArray, List.set_cons_zero, List.set_cons_succ]
      have f0 : w5.frozen? ⟨w.heap.size + 1 + 1, 0, none⟩ = false := row_free Hc5.out 0
      have f1 : w5.frozen? ⟨w.heap.size + 1 + 1, 1, none⟩ = false := row_free Hc5.out 1
      have c0 : w5.cell? ⟨w.heap.size + 1 + 1, 0, none⟩ = some (.slice none 0 0) := row_cell Hc5.out 0
      have c1 : w5.cell? ⟨w.heap.size + 1 + 1, 1, none⟩ = some (.bool false) := row_cell Hc5.out 1
      go_simp
      refine hK.out _ _ ?_ (fun hS => ?_)
      · have := (grown_set2 w5 (w.heap.size + 1 + 1) (.slice none 0 0) (.bool true)).block (w.heap.size + 1 + 1 + 1) (by omega) (by first | (simp; done) | (simp; omega))
        exact this.trans Hd5.out
      clear hK hS f0 f1 c0 c1
      refine wpS_done ?_
      have hg6 := grown_set2 w5 (w.heap.size + 1 + 1) (.slice none 0 0) (.bool true)
      have hb6 := (hg6.block (w.heap.size + 1) (by omega) (by first | (simp; done) | (simp; omega))).trans Hb5.out
      have hc6 := row_set2 Hc5.out (.slice none 0 0) (.bool true)
      have hbel6 := bel_set2 hb5 (by omega) (g := w.heap.size + 1 + 1) (by omega) (.slice none 0 0) (.bool true)
      have HB6 := Lib.hid hb6
      have HC6 := Lib.hid hc6
      clear hb6 hc6 hg6
      go_wp2_with fail
      have hT := HT2.out
      subst hT
      subst hZ
      exact bodyPost_ret (results_row_row rfl _ _ _ _ _ _ _ _ _ _ _ _ rfl HC6.out Try.underlying86 rfl info_in rfl HB6.out Try.underlying24 rfl hinf2) rfl ⟨_, rfl, rfl, hbel6⟩
end Go.Proofs.Ytfjfidhhmidflaa
