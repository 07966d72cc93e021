
/- IDs behind bytes, the program's way and the document's; the writers on a slice value. -/

import Derived.Test.YtfjfidhhmidflaaLet3

import Derived.Test.YtfjfidhhmidflaaEncOrder

namespace Go.Proofs.Ytfjfidhhmidflaa

set_option linter.unusedVariables false

set_option linter.unusedSimpArgs false

open Go.RowKit

/-- bytes behind a slice value -/
def Sl (w : World) (v : Value) (bs : List UInt8) : Prop := ∃ A n c, v = .slice A n c ∧ n = bs.length ∧ n ≤ c ∧ c ≤ maxLen ∧ Rd w A (b8s bs)
theorem Sl.nil (w : World) : Sl w (.slice none 0 0) [] := ⟨_, _, _, rfl, rfl, Nat.le_refl _, by unfold maxLen; omega, Rd.nil⟩
theorem Own8.sl {N : Nat} {w0 w : World} {v : Value} {zs : List UInt8} (h : Own8 N w0 w v zs) : Sl w v zs := by
  obtain ⟨A, n, c, h1, h2, h3, h4, h5, _⟩ := h.sliceN
  exact ⟨A, n, c, h1, h2, h3, h4, h5⟩
theorem Sl.below {w w' : World} {v : Value} {bs : List UInt8} (h : Sl w v bs) (hb : Below w.heap.size w w') : Sl w' v bs := by
  obtain ⟨A, n, c, h1, h2, h3, h4, h5⟩ := h
  exact ⟨A, n, c, h1, h2, h3, h4, h5.below hb⟩
/-- what a writer hands back -/
def Wr (w w' : World) (e : Ending) (bs : List UInt8) : Prop := ∃ v, e = .returned v ∧ Sl w' v bs ∧ Below w.heap.size w w'
theorem Own8.wr {w w' : World} {v : Value} {zs : List UInt8} (h : Own8 w.heap.size w w' v zs) : Wr w w' (.returned v) zs := ⟨v, rfl, h.sl, h.bel⟩
theorem num_s (v : Value) (bs : List UInt8) (n : Int) (w : World) (h : Sl w v bs) (hm : bs.length ≤ 1099511627776) :
    Calls Try.prog 19 #[v, .int .i64 n] w fun e w' => Wr w w' e (bs ++ numB (clampN n)) := by
  obtain ⟨A, m, c, rfl, rfl, _, _, hr⟩ := h
  refine (num_any A bs c n w hr (by omega)).mono ?_
  rintro e w' ⟨v, rfl, h⟩
  exact h.wr
theorem text_s (v : Value) (bs : List UInt8) (s : ByteArray) (w : World) (h : Sl w v bs) (hm : bs.length ≤ 1099511627776) (hs : s.size ≤ 1099511627776) :
    Calls Try.prog 21 #[v, .string s] w fun e w' => Wr w w' e (bs ++ textB s.data.toList) := by
  obtain ⟨A, m, c, rfl, rfl, _, _, hr⟩ := h
  refine (text_any A bs c s w hr (by omega)).mono ?_
  rintro e w' ⟨v, rfl, h⟩
  exact h.wr
theorem id_s (v : Value) (bs id : List UInt8) (w : World) (h : Sl w v bs) (hid : id.length = 32) (hm : bs.length ≤ 1099511627776) :
    Calls Try.prog 20 #[v, .agg (b8s id).toArray] w fun e w' => Wr w w' e (bs ++ id) := by
  obtain ⟨A, m, c, rfl, rfl, _, _, hr⟩ := h
  refine (id_any A bs id c w hid hr (by omega)).mono ?_
  rintro e w' ⟨v, rfl, h⟩
  exact h.wr
theorem four_s (v : Value) (bs : List UInt8) (u : Nat) (w : World) (h : Sl w v bs) (hu : u < 4294967296) (hm : bs.length ≤ 1099511627776) :
    Calls Try.prog 23 #[v, .int .u32 (u : Int)] w fun e w' => Wr w w' e (bs ++ fourB u) := by
  obtain ⟨A, m, c, rfl, rfl, _, _, hr⟩ := h
  refine (four_any A bs c u w hu hr (by omega)).mono ?_
  rintro e w' ⟨v, rfl, h⟩
  exact h.wr
theorem sum_s (v : Value) (bs : List UInt8) (w : World) (h : Sl w v bs) :
    Calls Try.prog 24 #[v] w fun e w' => w = w' ∧ e = .returned (.int .u32 ((crc bs).toNat : Int)) := by
  obtain ⟨A, m, c, rfl, rfl, h1, h2, hr⟩ := h
  exact sum_any A bs c w hr (by omega)
theorem rsum_s (v : Value) (bs : List UInt8) (w : World) (h : Sl w v bs) :
    Calls Try.prog 48 #[v] w fun e w' => w = w' ∧ e = .returned (.int .u32 ((crc bs).toNat : Int)) := by
  obtain ⟨A, m, c, rfl, rfl, h1, h2, hr⟩ := h
  exact rsum_any A bs c w hr (by omega)
theorem join_s (v u : Value) (xs ys : List UInt8) (w : World) (hx : Sl w v xs) (hy : Sl w u ys) (hm : xs.length + ys.length ≤ 140737488355328) :
    Calls Try.prog 43 #[v, u] w fun e w' => Wr w w' e (xs ++ ys) := by
  obtain ⟨A, m, c, rfl, rfl, _, _, hr⟩ := hx
  obtain ⟨B, k, d, rfl, rfl, _, _, hs⟩ := hy
  refine (join_any A B xs ys c d w hr hs hm).mono ?_
  rintro e w' ⟨v, rfl, h⟩
  exact h.wr
theorem Wr.after {w w1 w2 : World} {e : Ending} {bs : List UInt8} (h : Wr w1 w2 e bs) (hb : Below w.heap.size w w1) : Wr w w2 e bs := by
  obtain ⟨v, h1, h2, h3⟩ := h
  exact ⟨v, h1, h2, ext_trans hb h3⟩
theorem same_s (v u : Value) (xs ys : List UInt8) (w : World) (hx : Sl w v xs) (hy : Sl w u ys) :
    Calls Try.prog 16 #[v, u] w fun e w' => e = .returned (.bool (decide (xs = ys))) ∧ Below w.heap.size w w' := by
  obtain ⟨A, m, c, rfl, rfl, h1, h2, hr⟩ := hx
  obtain ⟨B, k, d, rfl, rfl, h3, h4, hs⟩ := hy
  refine (same_any A B xs ys c d w hr hs (by omega) (by omega)).mono ?_
  rintro e w' ⟨rfl, n, rfl⟩
  exact ⟨rfl, below_drewN (Below.refl _ _) n⟩

/-! ### plain -/

def idsB (ids : List (List UInt8)) : List UInt8 := numB (clampN ids.length) ++ ids.flatten
theorem flat_take {ids : List (List UInt8)} {k : Nat} (h : k < ids.length) : (ids.take (k + 1)).flatten = (ids.take k).flatten ++ ids[k] := by
  have e : ids.take (k + 1) = ids.take k ++ [ids[k]] := by
    rw [List.take_add_one, List.getElem?_eq_getElem h]; rfl
  rw [e, List.flatten_append]
  simp
theorem flat_len {ids : List (List UInt8)} (h : iOk ids) (k : Nat) : ((ids.take k).flatten).length ≤ 32 * ids.length := by
  have key : ∀ (l : List (List UInt8)), iOk l → l.flatten.length = 32 * l.length := by
    intro l
    induction l with
    | nil => intro _; rfl
    | cons x l ih =>
      intro hl
      have h1 := hl x (by simp)
      have h2 := ih (fun y hy => hl y (by simp [hy]))
      simp only [List.flatten_cons, List.length_append, List.length_cons, h1, h2]
      omega
  rw [key _ (fun y hy => h y (List.mem_of_mem_take hy)), List.length_take]
  omega

set_option maxRecDepth 100000 in
set_option maxHeartbeats 2000000 in
theorem ids_any (v : Value) (bs : List UInt8) (A : Option Addr) (ids : List (List UInt8)) (c : Nat) (w : World) (hv : Sl w v bs) (hm : bs.length ≤ 1000000000) (hr : Rd w A (idc ids)) (ho : iOk ids) (hc : ids.length ≤ c) (hc2 : c ≤ 9223372036854775807) (hn : ids.length ≤ 1000000000) :
    Calls Try.prog 22 #[v, .slice A ids.length c] w fun e w' => Wr w w' e (bs ++ idsB ids) := by
  have HR := Lib.hid hr
  have HO := Lib.hid ho
  have HN := Lib.hid (num_s v bs ids.length w hv (by omega))
  have HNL := Lib.hid (numB_len (ids.length : Int)).2
  clear hr ho hv
  go_enter Try.func22, Try.ntmps22
  go_wp2_with fail
  refine HN.out.mono ?_
  rintro e w1 ⟨v1, rfl, hs1, hb1⟩
  have HS1 : Hid (Sl w1 v1 (bs ++ (numB (clampN ids.length) ++ (ids.take 0).flatten))) := Lib.hid (by simpa using hs1)
  have HB1 := Lib.hid hb1
  clear hs1 hb1 HN
  go_wp2_with fail
  go_loopg [0, 13] (ids.length * 1) (fun gk_ s0 s wr => ∃ (k : Nat), k ≤ ids.length ∧ gk_ = ids.length - k ∧ s = .int .i64 (k : Int) ∧ Hid (Sl wr s0 (bs ++ (numB (clampN ids.length) ++ (ids.take k).flatten))) ∧ Hid (Below w.heap.size w wr))
  case atStart => exact ⟨0, by omega, by omega, rfl, HS1, HB1⟩
  case round =>
    clear HS1 HB1
    obtain ⟨k, hk, rfl, rfl, HS, HB1⟩ := hrel
    by_cases hlt : k < ids.length
    · have hpos : 0 < (idc ids).length := by rw [idc_length HO.out]; omega
      have hrd := HR.out.below HB1.out
      obtain ⟨b, off, hA, _⟩ := hrd.all hpos
      subst hA
      have RS := rd_id hrd HO.out k hlt
      have hsl := iOk_get HO.out k hlt
      have hst := flat_take hlt
      obtain ⟨s, hs⟩ : ∃ s, ids[k] = s := ⟨_, rfl⟩
      rw [hs] at RS hsl hst
      have HST := Lib.hid hst
      have HIS := Lib.hid (info_id32 s hsl)
      have HIA : Hid ((Try.prog.info? 25).map (·.size) = some (b8s s).toArray.size) := Lib.hid (by rw [List.size_toArray]; exact info_id32 s hsl)
      have HSL := Lib.hid hsl
      obtain ⟨H, Wa, W5, hH, hWa, hW5, HTH, HRS, HB5, HS5⟩ := arr_place (w := wr) 25 s hsl
      have HW5 := Lib.hid hW5
      have HRSR := Lib.hid (range_of_row HRS.out)
      have HBW := Lib.hid (HB1.out.trans (HB5.out.mono HB1.out.size))
      have HSS := Lib.hid (HS.out.below HB5.out)
      have HLE := Lib.hid (flat_len HO.out k)
      have i1 : (k : Int) < (ids.length : Int) := by omega
      have i2 : (ids.length : Int) ≤ (c : Int) := by omega
      clear hrd hpos hsl hs hst hW5
      go_wp2_with (first
        | ((with_reducible (refine wpList_load_cells 25 _ b (off + k * 32) (b8s s) RS Try.underlying25 rfl HIS.out ?_ rfl ?_ ?_)); (exact rfl); (exact rfl))
        | ((with_reducible (refine wpList_load_cells 25 _ H 0 (b8s s) HRSR.out Try.underlying25 rfl HIS.out ?_ rfl ?_ ?_)); (exact rfl); (exact rfl))
        | ((with_reducible (refine wpList_store_mid rfl _ _ _ rfl ?_ ?_ ?_ ?_ ?_ ?_ ?_ ?_ ?_)); (exact H); (exact 0); (exact (b8s s).toArray); (exact rfl); (exact rfl); (exact HTH.out); (exact HIA.out); (exact all_oneCell_toArray (b8s_one' _)); rw [HW5.out]))
      clear hWa hH RS
      refine (id_s _ _ s W5 HSS.out HSL.out (by have h1 := HLE.out; have h2 := HNL.out; simp only [List.length_append]; omega)).mono ?_
      rintro e w6 ⟨v6, rfl, hs6, hb6⟩
      have HS6 : Hid (Sl w6 v6 (bs ++ (numB (clampN ids.length) ++ (ids.take (k + 1)).flatten))) := Lib.hid (by rw [HST.out]; simpa [List.append_assoc] using hs6)
      have HB6 := Lib.hid (ext_trans HBW.out hb6)
      clear hs6 hb6
      go_wp2_with fail
      go_roundg (ids.length - (k + 1))
      case measure => omega
      case rel => exact ⟨k + 1, by omega, rfl, by first | rfl | exact congrArg (Value.int .i64) (by omega) | go_num, HS6, HB6⟩
    · obtain rfl : k = ids.length := by omega
      go_wp2_with fail
      go_ret
      exact ⟨_, rfl, by have := HS.out; rw [List.take_length] at this; exact this, HB1.out⟩

set_option maxRecDepth 100000 in
set_option maxHeartbeats 1000000 in
theorem rnum_s (v : Value) (bs : List UInt8) (n : Int) (w : World) (hv : Sl w v bs) (hm : bs.length ≤ 1099511627776) :
    Calls Try.prog 42 #[v, .int .i64 n] w fun e w' => Wr w w' e (bs ++ numB (clampN n)) := by
  have HV := Lib.hid hv
  have HNL := Lib.hid (numB_len n).2
  clear hv
  go_enter Try.func42, Try.ntmps42
  go_wp2_with fail
  refine (rnum_any n w).mono ?_
  rintro e w1 ⟨v1, rfl, h1⟩
  have HS1 := Lib.hid h1.sl
  have HB1 := Lib.hid h1.bel
  clear h1
  go_wp2_with fail
  refine (join_s v v1 bs _ w1 (HV.out.below HB1.out) HS1.out (by have := HNL.out; omega)).mono ?_
  rintro e w2 ⟨v2, rfl, hs2, hb2⟩
  go_wp2_with fail
  go_ret
  exact ⟨v2, rfl, hs2, ext_trans HB1.out hb2⟩

set_option maxRecDepth 100000 in
set_option maxHeartbeats 2000000 in
theorem rids_any (v : Value) (bs : List UInt8) (A : Option Addr) (ids : List (List UInt8)) (c : Nat) (w : World) (hv : Sl w v bs) (hm : bs.length ≤ 1000000000) (hr : Rd w A (idc ids)) (ho : iOk ids) (hc : ids.length ≤ c) (hc2 : c ≤ 9223372036854775807) (hn : ids.length ≤ 1000000000) :
    Calls Try.prog 46 #[v, .slice A ids.length c] w fun e w' => Wr w w' e (bs ++ idsB ids) := by
  have HR := Lib.hid hr
  have HO := Lib.hid ho
  have HN := Lib.hid (rnum_s v bs ids.length w hv (by omega))
  have HNL := Lib.hid (numB_len (ids.length : Int)).2
  clear hr ho hv
  go_enter Try.func46, Try.ntmps46
  go_wp2_with fail
  refine HN.out.mono ?_
  rintro e w1 ⟨v1, rfl, hs1, hb1⟩
  have HS1 : Hid (Sl w1 v1 (bs ++ (numB (clampN ids.length) ++ (ids.take 0).flatten))) := Lib.hid (by simpa using hs1)
  have HB1 := Lib.hid hb1
  clear hs1 hb1 HN
  go_wp2_with fail
  go_loopg [0, 5] (ids.length * 1) (fun gk_ s0 s wr => ∃ (k : Nat), k ≤ ids.length ∧ gk_ = ids.length - k ∧ s = .int .i64 (k : Int) ∧ Hid (Sl wr s0 (bs ++ (numB (clampN ids.length) ++ (ids.take k).flatten))) ∧ Hid (Below w.heap.size w wr))
  case atStart => exact ⟨0, by omega, by omega, rfl, HS1, HB1⟩
  case round =>
    clear HS1 HB1
    obtain ⟨k, hk, rfl, rfl, HS, HB1⟩ := hrel
    by_cases hlt : k < ids.length
    · have hpos : 0 < (idc ids).length := by rw [idc_length HO.out]; omega
      have hrd := HR.out.below HB1.out
      obtain ⟨b, off, hA, _⟩ := hrd.all hpos
      subst hA
      have RS := rd_id hrd HO.out k hlt
      have hsl := iOk_get HO.out k hlt
      have hst := flat_take hlt
      obtain ⟨s, hs⟩ : ∃ s, ids[k] = s := ⟨_, rfl⟩
      rw [hs] at RS hsl hst
      have HST := Lib.hid hst
      have HIS := Lib.hid (info_arr32 s hsl)
      have HSL := Lib.hid hsl
      have HLE := Lib.hid (flat_len HO.out k)
      have i1 : (k : Int) < (ids.length : Int) := by omega
      have i2 : (ids.length : Int) ≤ (c : Int) := by omega
      clear hrd hpos hsl hs hst
      go_wp2_with ((with_reducible (refine wpList_load_cells 24 _ b (off + k * 32) (b8s s) RS Try.underlying24 rfl HIS.out ?_ rfl ?_ ?_)); (exact rfl); (exact rfl))
      clear RS
      refine (rid_any s wr HSL.out).mono ?_
      rintro e w5 ⟨v5, rfl, h5⟩
      have HS5 := Lib.hid h5.sl
      have HB5 := Lib.hid h5.bel
      clear h5
      go_wp2_with fail
      refine (join_s _ v5 _ s w5 (HS.out.below HB5.out) HS5.out (by have h1 := HLE.out; have h2 := HNL.out; have h3 := HSL.out; simp only [List.length_append]; omega)).mono ?_
      rintro e w6 ⟨v6, rfl, hs6, hb6⟩
      have HS6 : Hid (Sl w6 v6 (bs ++ (numB (clampN ids.length) ++ (ids.take (k + 1)).flatten))) := Lib.hid (by rw [HST.out]; simpa [List.append_assoc] using hs6)
      have HB6 := Lib.hid (ext_trans HB1.out (ext_trans HB5.out hb6))
      clear hs6 hb6
      go_wp2_with fail
      go_roundg (ids.length - (k + 1))
      case measure => omega
      case rel => exact ⟨k + 1, by omega, rfl, by first | rfl | exact congrArg (Value.int .i64) (by omega) | go_num, HS6, HB6⟩
    · obtain rfl : k = ids.length := by omega
      go_wp2_with fail
      go_ret
      exact ⟨_, rfl, by have := HS.out; rw [List.take_length] at this; exact this, HB1.out⟩
end Go.Proofs.Ytfjfidhhmidflaa
