
/- WireBounds: a Want. (Printed by wip/genWB.py.) -/

import Derived.Test.YtfjfidhhmidflaaWB4

namespace Go.Proofs.Ytfjfidhhmidflaa

set_option linter.unusedVariables false

set_option linter.unusedSimpArgs false

open Go.RowKit

def idN (i : Nat) : List UInt8 := UInt8.ofNat (i + 1) :: List.replicate 31 0
def hvs (j : Nat) : List (List UInt8) := (List.range j).map idN
def bWj (j : Nat) : Lt := ⟨3, 1, 2, 1, [], [idOne], hvs j, 0, 0, zeros32, []⟩
theorem hvs_len (j : Nat) : (hvs j).length = j := by simp [hvs]
theorem hvs_snoc (j : Nat) : hvs (j + 1) = hvs j ++ [idN j] := by simp [hvs, List.range_succ]
theorem hvs_ok (j : Nat) : iOk (hvs j) := fun x hx => by
  obtain ⟨i, _, rfl⟩ := List.mem_map.1 hx
  rfl
theorem idN_cells (j : Nat) (h : j < 255) : (b8s (idN j)).toArray = #[Value.int .u8 ((j : Int) + 1), Value.int .u8 0, Value.int .u8 0, Value.int .u8 0, Value.int .u8 0, Value.int .u8 0, Value.int .u8 0, Value.int .u8 0, Value.int .u8 0, Value.int .u8 0, Value.int .u8 0, Value.int .u8 0, Value.int .u8 0, Value.int .u8 0, Value.int .u8 0, Value.int .u8 0, Value.int .u8 0, Value.int .u8 0, Value.int .u8 0, Value.int .u8 0, Value.int .u8 0, Value.int .u8 0, Value.int .u8 0, Value.int .u8 0, Value.int .u8 0, Value.int .u8 0, Value.int .u8 0, Value.int .u8 0, Value.int .u8 0, Value.int .u8 0, Value.int .u8 0, Value.int .u8 0] := by
  have : ((UInt8.ofNat (j + 1)).toNat : Int) = (j : Int) + 1 := by rw [u8_small _ (by omega)]; rfl
  rw [← this]
  rfl
theorem bW_right {m : Nat} (h : m ≤ 2) : rightL (bWj (198 + m)) = true := by
  have : m = 0 ∨ m = 1 ∨ m = 2 := by omega
  rcases this with rfl | rfl | rfl <;> decide +kernel
theorem bW_bad : rightL (bWj 201) = false := by decide +kernel
/-- the letter while its IDs are appended -/
structure WS (w W : World) (g gi lo j : Nat) (A : Option Addr) (c : Nat) : Prop where
  row : W.heap[g]? = some (.cells ((bWj j).cells ⟨none, 0, some ⟨gi, 0, none⟩, 1, A, c, none, 0⟩).toArray 28 (0, 0))
  own : W.ownsRow lo 25 32 (.slice A j c) j (idc (hvs j))
  wr : W.heap[gi]? = some (.cells (b8s idOne).toArray 25 (0, 0))
  bel : Below w.heap.size w W
  ne : w.heap.size ≤ g ∧ g < lo ∧ gi < lo ∧ gi ≠ g ∧ lo ≤ W.heap.size
section

variable {w W W' : World} {g gi lo j : Nat} {A A' : Option Addr} {c c' : Nat}

theorem WS.below (h : WS w W g gi lo j A c) (hb : Below W.heap.size W W') : WS w W' g gi lo j A c :=
  ⟨(hb.block _ (Array.getElem?_eq_some_iff.1 h.row).1).trans h.row, own_below h.own hb, (hb.block _ (Array.getElem?_eq_some_iff.1 h.wr).1).trans h.wr, ext_trans h.bel hb,
    ⟨h.ne.1, h.ne.2.1, h.ne.2.2.1, h.ne.2.2.2.1, Nat.le_trans h.ne.2.2.2.2 hb.size⟩⟩
theorem WS.app (h : WS w W g gi lo j A c) (hg : W.grownBy W' (Value.slice A j c).ownBlock)
    (ho : W'.ownsRow lo 25 32 (.slice A' (j + 1) c') (j + 1) (idc (hvs j) ++ b8s (idN j))) :
    W'.cell? ⟨g, 6, none⟩ = some (.slice A j c) ∧ W'.frozen? ⟨g, 6, none⟩ = false ∧ WS w (W'.setCell ⟨g, 6, none⟩ (.slice A' (j + 1) c')) g gi lo (j + 1) A' c' := by
  obtain ⟨n1, n2, n3, n4, n5⟩ := h.ne
  have hb : ∀ b, (Value.slice A j c).ownBlock = some b → lo ≤ b := fun b e => (h.own.lt b e).1
  have hgg : ∀ i, i < lo → i < W.heap.size → W'.heap[i]? = W.heap[i]? := fun i hi hl => hg.block i hl (fun e => by have := hb i e.symm; omega)
  have q := (hgg g n2 (Array.getElem?_eq_some_iff.1 h.row).1).trans h.row
  have qi := (hgg gi n3 (Array.getElem?_eq_some_iff.1 h.wr).1).trans h.wr
  have hbw : Below w.heap.size w W' := by
    cases hv : (Value.slice A j c).ownBlock with
    | none => rw [hv] at hg; exact h.bel.trans ((grown_none hg).mono h.bel.size)
    | some b => rw [hv] at hg; exact bel_grown h.bel h.bel.size hg (by have := hb b hv; omega)
  have gr := grown_set (w := W') g 6 (.slice A' (j + 1) c')
  have e1 : W'.cell? ⟨g, 6, none⟩ = some (.slice A (hvs j).length c) := row_cell q 6
  rw [hvs_len] at e1
  have hr := row_haves (p := ⟨none, 0, some ⟨gi, 0, none⟩, 1, A, c, none, 0⟩) q A' c' (hvs (j + 1))
  rw [hvs_len] at hr
  refine ⟨e1, row_free q 6, hr, ?_, (gr.block _ (Array.getElem?_eq_some_iff.1 qi).1 (by simp; omega)).trans qi, bel_grown hbw hbw.size gr n1, ⟨n1, n2, n3, n4, Nat.le_trans n5 (Nat.le_trans hg.size gr.size)⟩⟩
  rw [hvs_snoc, idc_snoc]
  exact own_far ho n2 gr
theorem WS.in_ (h : WS w W g gi lo j A c) : LtIn W (bWj j) ⟨none, 0, some ⟨gi, 0, none⟩, 1, A, c, none, 0⟩ := by
  have k := lK_in 3 W
  obtain ⟨B, d, e, h1, h2, h3, _⟩ := own_slice h.own
  cases e
  exact ⟨rfl, k.rok, fun x hx => (by rw [List.mem_singleton.1 hx]; rfl), hvs_ok j, k.rr, ⟨by simpa [idc, bWj] using range_rd (range_of_row h.wr), Nat.le_refl _, by show (1 : Nat) ≤ _; decide⟩,
    ⟨own_rd h.own, by show (hvs j).length ≤ c; rw [hvs_len]; exact h1, by unfold maxLen at h2; exact h2⟩, k.dr⟩
end

set_option maxRecDepth 100000 in
set_option maxHeartbeats 8000000 in
theorem wireBounds_3t (n kd : Int) (x1 m : Nat) (w : World) (ex : bits .and .i64 kd 1023 = (x1 : Int)) (h3 : x1 % 3 = 1) (hm : m ≤ 2) (em : bits .and .i64 n 3 = (m : Int)) :
    Calls Try.prog 6 #[.int .i64 n, .int .i64 kd] w fun e w' => e = .returned (.bool true) ∧ Below w.heap.size w w' := by
  have hx : (x1 : Int) % 3 = 1 := by omega
  go_enter Try.func6, Try.ntmps6
  go_wp2_with fail
  refine (alive_any w).mono ?_
  rintro e w2 ⟨rfl, hb2⟩
  have HB2 := Lib.hid hb2
  clear h3
  obtain ⟨WA, hWA⟩ : ∃ W, w2.alloc (.cells #[Value.int .i64 0, Value.int .i64 0, Value.int .i64 0, Value.int .i64 0, Value.slice none 0 0, Value.slice none 0 0, Value.slice none 0 0, Value.int .i64 0, Value.int .i64 0, Value.int .u8 0, Value.int .u8 0, Value.int .u8 0, Value.int .u8 0, Value.int .u8 0, Value.int .u8 0, Value.int .u8 0, Value.int .u8 0, Value.int .u8 0, Value.int .u8 0, Value.int .u8 0, Value.int .u8 0, Value.int .u8 0, Value.int .u8 0, Value.int .u8 0, Value.int .u8 0, Value.int .u8 0, Value.int .u8 0, Value.int .u8 0, Value.int .u8 0, Value.int .u8 0, Value.int .u8 0, Value.int .u8 0, Value.int .u8 0, Value.int .u8 0, Value.int .u8 0, Value.int .u8 0, Value.int .u8 0, Value.int .u8 0, Value.int .u8 0, Value.int .u8 0, Value.int .u8 0, Value.slice none 0 0] 28) = W := ⟨_, rfl⟩
  obtain ⟨qa, ba, sa⟩ := new_row hWA
  rw [← lt0_cells] at qa
  obtain ⟨g, hg⟩ : ∃ g, w2.heap.size = g := ⟨_, rfl⟩
  rw [hg] at qa
  obtain ⟨WB, hWB, HTHB, HRB, HBB', _, _⟩ := let_write (q := p0) (m := lK 3) qa rfl rfl ba ba.size (Nat.le_of_eq hg)
  have HWB := Lib.hid hWB
  have HBB : Hid (Below w2.heap.size w2 WB) := HBB'
  have HILB := Lib.hid (info_leta (lK 3) p0 rfl)
  have HOLB := Lib.hid (all_oneCell_toArray ((lK 3).cells_one p0))
  have HGL := Lib.hid (Nat.le_of_eq hg)
  have k0 : WB.cell? ⟨g, 0, none⟩ = some (.int .i64 3) := row_cell HRB.out 0
  obtain ⟨WI, hWI⟩ : ∃ W, WB.alloc (.cells #[Value.int .u8 1, Value.int .u8 0, Value.int .u8 0, Value.int .u8 0, Value.int .u8 0, Value.int .u8 0, Value.int .u8 0, Value.int .u8 0, Value.int .u8 0, Value.int .u8 0, Value.int .u8 0, Value.int .u8 0, Value.int .u8 0, Value.int .u8 0, Value.int .u8 0, Value.int .u8 0, Value.int .u8 0, Value.int .u8 0, Value.int .u8 0, Value.int .u8 0, Value.int .u8 0, Value.int .u8 0, Value.int .u8 0, Value.int .u8 0, Value.int .u8 0, Value.int .u8 0, Value.int .u8 0, Value.int .u8 0, Value.int .u8 0, Value.int .u8 0, Value.int .u8 0, Value.int .u8 0] 25) = W := ⟨_, rfl⟩
  have hWI' : WB.alloc (.cells (b8s idOne).toArray 25) = WI := hWI
  obtain ⟨qi, bi, si⟩ := new_row hWI'
  obtain ⟨gi, hgi⟩ : ∃ g, WB.heap.size = g := ⟨_, rfl⟩
  rw [hgi] at qi
  have hgl : g < gi := by have := (Array.getElem?_eq_some_iff.1 HRB.out).1; omega
  have hri := (bi.block g (Array.getElem?_eq_some_iff.1 HRB.out).1).trans HRB.out
  have c5 : WI.cell? ⟨g, 5, none⟩ = some (.slice none 0 0) := row_cell hri 5
  have f5 := row_free hri 5
  obtain ⟨WC, hWC⟩ : ∃ W, WI.setCell ⟨g, 5, none⟩ (.slice (some ⟨gi, 0, none⟩) 1 1) = W := ⟨_, rfl⟩
  have hrc := row_wants (t := 28) (p := p0) hri (some ⟨gi, 0, none⟩) 1 [idOne]
  have grc := grown_set (w := WI) g 5 (.slice (some ⟨gi, 0, none⟩) 1 1)
  have hrc' : (WI.setCell ⟨g, 5, none⟩ (.slice (some ⟨gi, 0, none⟩) 1 1)).heap[g]? = some (.cells ((bWj 0).cells ⟨none, 0, some ⟨gi, 0, none⟩, 1, none, 0, none, 0⟩).toArray 28 (0, 0)) := hrc
  rw [hWC] at hrc' grc
  obtain ⟨lo, hlo⟩ : ∃ lo, WC.heap.size = lo := ⟨_, rfl⟩
  have hsz : WI.heap.size ≤ WC.heap.size := grc.size
  have hgs := HGL.out
  have HWS : Hid (WS w2 WC g gi lo 0 none 0) := Lib.hid ⟨hrc', World.ownsRow_nil _ _ _ _, (grc.block _ (Array.getElem?_eq_some_iff.1 qi).1 (by simp; omega)).trans qi, bel_grown (ext_trans HBB.out bi) (ext_trans HBB.out bi).size grc HGL.out, ⟨by omega, by omega, by omega, by omega, by omega⟩⟩
  have hm3 : (m : Int) ≤ 3 := by omega
  obtain ⟨L, hL⟩ : ∃ L : Nat, 198 + m = L := ⟨_, rfl⟩
  have hLI : 198 + (m : Int) = (L : Int) := by omega
  have HLB : Hid (L ≤ 201) := Lib.hid (by omega)
  clear qa ba sa hWB HBB' qi bi si hri hrc hrc' grc hsz hgs hlo hgl hWI'
  have HR : Hid (rightL (bWj L) = true) := Lib.hid (by rw [← hL]; exact bW_right hm)
  have hmo : ¬ (200 : Int) < (L : Int) := by omega
  go_wp2_with (first
    | ((with_reducible (refine wpList_store_mid rfl _ _ _ rfl ?_ ?_ ?_ ?_ ?_ ?_ ?_ ?_ ?_)); (exact g); (exact 0); (exact ((lK 3).cells p0).toArray); (exact rfl); (exact rfl); (exact HTHB.out); (exact HILB.out); (exact HOLB.out); rw [HWB.out]))
  clear hWI hWC c5 f5 hgi hWA hg k0
  go_loopg [8] (L * 1) (fun gk_ s wr => ∃ (k : Nat) (A : Option Addr) (c : Nat), k ≤ L ∧ gk_ = L - k ∧ s = .int .i64 (k : Int) ∧ Hid (WS w2 wr g gi lo k A c))
  case atStart => exact ⟨0, none, 0, by omega, by omega, rfl, HWS⟩
  case round =>
  clear HWS
  obtain ⟨k, A, c, hk, rfl, rfl, HWS⟩ := hrel
  by_cases hlt : k < L
  · have i1 : (k : Int) < (L : Int) := by omega
    have hlb := HLB.out
    have i2 : ((k : Int) + 1) % 256 = (k : Int) + 1 := by omega
    have c6 : wr.cell? ⟨g, 6, none⟩ = some (.slice A k c) := by
      have h : wr.cell? ⟨g, 6, none⟩ = some (.slice A (hvs k).length c) := row_cell HWS.out.row 6
      rwa [hvs_len] at h
    obtain ⟨W3, hW3⟩ : ∃ W, wr.alloc (.cells #[Value.int .u8 ((k : Int) + 1), Value.int .u8 0, Value.int .u8 0, Value.int .u8 0, Value.int .u8 0, Value.int .u8 0, Value.int .u8 0, Value.int .u8 0, Value.int .u8 0, Value.int .u8 0, Value.int .u8 0, Value.int .u8 0, Value.int .u8 0, Value.int .u8 0, Value.int .u8 0, Value.int .u8 0, Value.int .u8 0, Value.int .u8 0, Value.int .u8 0, Value.int .u8 0, Value.int .u8 0, Value.int .u8 0, Value.int .u8 0, Value.int .u8 0, Value.int .u8 0, Value.int .u8 0, Value.int .u8 0, Value.int .u8 0, Value.int .u8 0, Value.int .u8 0, Value.int .u8 0, Value.int .u8 0] 25) = W := ⟨_, rfl⟩
    have hW3' : wr.alloc (.cells (b8s (idN k)).toArray 25) = W3 := by rw [idN_cells k (by omega)]; exact hW3
    obtain ⟨r3, b3, s3⟩ := new_row hW3'
    have HWS3 := Lib.hid (HWS.out.below b3)
    have HR3 : Hid (Rd W3 (some ⟨wr.heap.size, 0, none⟩) (b8s (idN k))) := Lib.hid (range_rd (range_of_row r3))
    have HBA := Lib.hid HWS3.out.ne.2.2.2.2
    clear r3 b3 s3 hW3'
    go_wp2_with (at_builtin; refine wpList_append_rd _ rfl _ _ 23 rfl lo 25 _ 32 32 Try.underlying23 info_ids2 (by rw [zeros32_cells]; rfl) (by decide) (.slice A k c) k _ rfl HWS3.out.own _ 1 1 (b8s (idN k)) rfl (by rw [b8s_length]; rfl) HR3.out (b8s_one' _) (by unfold maxLen; omega) (by omega) HBA.out ?_; intro v4 w4 ho4 hg4 hvb4; obtain ⟨A5, c5, e5, _⟩ := own_slice ho4; subst e5; obtain ⟨x4, y4, HRX⟩ := HWS3.out.app hg4 ho4; have HRY := Lib.hid HRX; clear ho4 hg4 hvb4 HRX)
    clear c6 hW3
    go_roundg (L - (k + 1))
    case measure => omega
    case rel => exact ⟨k + 1, A5, c5, by omega, rfl, by first | rfl | exact congrArg (Value.int .i64) (by omega) | go_num, HRY⟩
  obtain rfl : k = L := by omega
  clear hlt hk
  have HB27 := Lib.hid HWS.out.bel
  obtain ⟨W7, hW7⟩ : ∃ W, wr = W := ⟨_, rfl⟩
  subst hW7
  have HR7 := Lib.hid HWS.out.row
  have HIN7 := Lib.hid HWS.out.in_
  have HTT : Hid (-9223372036854775808 ≤ (bWj k).total ∧ (bWj k).total ≤ 9223372036854775807) := Lib.hid ⟨(by decide : (-9223372036854775808 : Int) ≤ 0), (by decide : (0 : Int) ≤ 9223372036854775807)⟩
  have HIL7 := Lib.hid (info_leta (bWj k) ⟨none, 0, some ⟨gi, 0, none⟩, 1, A, c, none, 0⟩ rfl)
  go_wp2_with ((with_reducible (refine wpList_load_row_w _ _ rfl _ rfl _ _ _ _ HR7.out Try.underlying28 rfl HIL7.out ?_ ?_)); (focus (rfl)))
  refine (write_ok (bWj k) _ wr HIN7.out HTT.out HR.out).mono ?_
  rintro e w8 ⟨v8, rfl, hs8, hb8⟩
  have HRD := Lib.hid (read_s v8 _ w8 hs8)
  rw [read_write (bWj k) HR.out HIN7.out.lok] at HRD
  have HB8 := Lib.hid hb8
  clear hs8 hb8
  go_wp2_with fail
  refine HRD.out.mono ?_
  rintro e w9 ⟨q, rfl, hin9, hb9⟩
  obtain ⟨WX, hWX⟩ : ∃ W, w9.alloc (.cells #[Value.int .i64 0, Value.int .i64 0, Value.int .i64 0, Value.int .i64 0, Value.slice none 0 0, Value.slice none 0 0, Value.slice none 0 0, Value.int .i64 0, Value.int .i64 0, Value.int .u8 0, Value.int .u8 0, Value.int .u8 0, Value.int .u8 0, Value.int .u8 0, Value.int .u8 0, Value.int .u8 0, Value.int .u8 0, Value.int .u8 0, Value.int .u8 0, Value.int .u8 0, Value.int .u8 0, Value.int .u8 0, Value.int .u8 0, Value.int .u8 0, Value.int .u8 0, Value.int .u8 0, Value.int .u8 0, Value.int .u8 0, Value.int .u8 0, Value.int .u8 0, Value.int .u8 0, Value.int .u8 0, Value.int .u8 0, Value.int .u8 0, Value.int .u8 0, Value.int .u8 0, Value.int .u8 0, Value.int .u8 0, Value.int .u8 0, Value.int .u8 0, Value.int .u8 0, Value.slice none 0 0] 28) = W := ⟨_, rfl⟩
  obtain ⟨qx, bx, sx⟩ := new_row hWX
  rw [← lt0_cells] at qx
  obtain ⟨gx, hgx⟩ : ∃ g, w9.heap.size = g := ⟨_, rfl⟩
  rw [hgx] at qx
  obtain ⟨WY, hWY, HTHx, HRx, HBx, _, _⟩ := let_write (q := q) (m := bWj k) qx rfl rfl bx bx.size (Nat.le_of_eq hgx)
  have HWY := Lib.hid hWY
  have HBY : Hid (Below w9.heap.size w9 WY) := HBx
  have HILx := Lib.hid (info_leta (bWj k) q rfl)
  have HOLx := Lib.hid (all_oneCell_toArray ((bWj k).cells_one q))
  have HB7Y := Lib.hid (ext_trans HB8.out (ext_trans hb9 HBY.out))
  have HRL := Lib.hid ((HB7Y.out.block g (Array.getElem?_eq_some_iff.1 HR7.out).1).trans HR7.out)
  have HINx := Lib.hid (hin9.below HBY.out)
  have HINg := Lib.hid (HIN7.out.below HB7Y.out)
  clear qx bx sx hWY HBx hin9 hb9 HRD
  go_wp2_with (first
    | ((with_reducible (refine wpList_store_mid rfl _ _ _ rfl ?_ ?_ ?_ ?_ ?_ ?_ ?_ ?_ ?_)); (exact gx); (exact 0); (exact ((bWj k).cells q).toArray); (exact rfl); (exact rfl); (exact HTHx.out); (exact HILx.out); (exact HOLx.out); rw [HWY.out])
    | ((with_reducible (refine wpList_load_row_w _ _ rfl _ rfl _ _ _ _ HRL.out Try.underlying28 rfl HIL7.out ?_ ?_)); (focus (rfl)))
    | ((with_reducible (refine wpList_load_row_w _ _ rfl _ rfl _ _ _ _ HRx.out Try.underlying28 rfl HILx.out ?_ ?_)); (focus (rfl))))
  clear hWX hgx
  refine (lsame_any (bWj k) (bWj k) q _ WY HINx.out HINg.out).mono ?_
  rintro e w12 ⟨rfl, hb12⟩
  rw [sameL_me]
  go_wp2_with fail
  go_ret
  exact ⟨rfl, ext_trans HB2.out (ext_trans HB27.out (ext_trans HB7Y.out hb12))⟩

set_option maxRecDepth 100000 in
set_option maxHeartbeats 8000000 in
theorem wireBounds_3f (n kd : Int) (x1 m : Nat) (w : World) (ex : bits .and .i64 kd 1023 = (x1 : Int)) (h3 : x1 % 3 = 1) (hm : 2 < m ∧ m ≤ 3) (em : bits .and .i64 n 3 = (m : Int)) :
    Calls Try.prog 6 #[.int .i64 n, .int .i64 kd] w fun e w' => e = .returned (.bool true) ∧ Below w.heap.size w w' := by
  have hx : (x1 : Int) % 3 = 1 := by omega
  go_enter Try.func6, Try.ntmps6
  go_wp2_with fail
  refine (alive_any w).mono ?_
  rintro e w2 ⟨rfl, hb2⟩
  have HB2 := Lib.hid hb2
  clear h3
  obtain ⟨WA, hWA⟩ : ∃ W, w2.alloc (.cells #[Value.int .i64 0, Value.int .i64 0, Value.int .i64 0, Value.int .i64 0, Value.slice none 0 0, Value.slice none 0 0, Value.slice none 0 0, Value.int .i64 0, Value.int .i64 0, Value.int .u8 0, Value.int .u8 0, Value.int .u8 0, Value.int .u8 0, Value.int .u8 0, Value.int .u8 0, Value.int .u8 0, Value.int .u8 0, Value.int .u8 0, Value.int .u8 0, Value.int .u8 0, Value.int .u8 0, Value.int .u8 0, Value.int .u8 0, Value.int .u8 0, Value.int .u8 0, Value.int .u8 0, Value.int .u8 0, Value.int .u8 0, Value.int .u8 0, Value.int .u8 0, Value.int .u8 0, Value.int .u8 0, Value.int .u8 0, Value.int .u8 0, Value.int .u8 0, Value.int .u8 0, Value.int .u8 0, Value.int .u8 0, Value.int .u8 0, Value.int .u8 0, Value.int .u8 0, Value.slice none 0 0] 28) = W := ⟨_, rfl⟩
  obtain ⟨qa, ba, sa⟩ := new_row hWA
  rw [← lt0_cells] at qa
  obtain ⟨g, hg⟩ : ∃ g, w2.heap.size = g := ⟨_, rfl⟩
  rw [hg] at qa
  obtain ⟨WB, hWB, HTHB, HRB, HBB', _, _⟩ := let_write (q := p0) (m := lK 3) qa rfl rfl ba ba.size (Nat.le_of_eq hg)
  have HWB := Lib.hid hWB
  have HBB : Hid (Below w2.heap.size w2 WB) := HBB'
  have HILB := Lib.hid (info_leta (lK 3) p0 rfl)
  have HOLB := Lib.hid (all_oneCell_toArray ((lK 3).cells_one p0))
  have HGL := Lib.hid (Nat.le_of_eq hg)
  have k0 : WB.cell? ⟨g, 0, none⟩ = some (.int .i64 3) := row_cell HRB.out 0
  obtain ⟨WI, hWI⟩ : ∃ W, WB.alloc (.cells #[Value.int .u8 1, Value.int .u8 0, Value.int .u8 0, Value.int .u8 0, Value.int .u8 0, Value.int .u8 0, Value.int .u8 0, Value.int .u8 0, Value.int .u8 0, Value.int .u8 0, Value.int .u8 0, Value.int .u8 0, Value.int .u8 0, Value.int .u8 0, Value.int .u8 0, Value.int .u8 0, Value.int .u8 0, Value.int .u8 0, Value.int .u8 0, Value.int .u8 0, Value.int .u8 0, Value.int .u8 0, Value.int .u8 0, Value.int .u8 0, Value.int .u8 0, Value.int .u8 0, Value.int .u8 0, Value.int .u8 0, Value.int .u8 0, Value.int .u8 0, Value.int .u8 0, Value.int .u8 0] 25) = W := ⟨_, rfl⟩
  have hWI' : WB.alloc (.cells (b8s idOne).toArray 25) = WI := hWI
  obtain ⟨qi, bi, si⟩ := new_row hWI'
  obtain ⟨gi, hgi⟩ : ∃ g, WB.heap.size = g := ⟨_, rfl⟩
  rw [hgi] at qi
  have hgl : g < gi := by have := (Array.getElem?_eq_some_iff.1 HRB.out).1; omega
  have hri := (bi.block g (Array.getElem?_eq_some_iff.1 HRB.out).1).trans HRB.out
  have c5 : WI.cell? ⟨g, 5, none⟩ = some (.slice none 0 0) := row_cell hri 5
  have f5 := row_free hri 5
  obtain ⟨WC, hWC⟩ : ∃ W, WI.setCell ⟨g, 5, none⟩ (.slice (some ⟨gi, 0, none⟩) 1 1) = W := ⟨_, rfl⟩
  have hrc := row_wants (t := 28) (p := p0) hri (some ⟨gi, 0, none⟩) 1 [idOne]
  have grc := grown_set (w := WI) g 5 (.slice (some ⟨gi, 0, none⟩) 1 1)
  have hrc' : (WI.setCell ⟨g, 5, none⟩ (.slice (some ⟨gi, 0, none⟩) 1 1)).heap[g]? = some (.cells ((bWj 0).cells ⟨none, 0, some ⟨gi, 0, none⟩, 1, none, 0, none, 0⟩).toArray 28 (0, 0)) := hrc
  rw [hWC] at hrc' grc
  obtain ⟨lo, hlo⟩ : ∃ lo, WC.heap.size = lo := ⟨_, rfl⟩
  have hsz : WI.heap.size ≤ WC.heap.size := grc.size
  have hgs := HGL.out
  have HWS : Hid (WS w2 WC g gi lo 0 none 0) := Lib.hid ⟨hrc', World.ownsRow_nil _ _ _ _, (grc.block _ (Array.getElem?_eq_some_iff.1 qi).1 (by simp; omega)).trans qi, bel_grown (ext_trans HBB.out bi) (ext_trans HBB.out bi).size grc HGL.out, ⟨by omega, by omega, by omega, by omega, by omega⟩⟩
  have hm3 : (m : Int) ≤ 3 := by omega
  obtain ⟨L, hL⟩ : ∃ L : Nat, 198 + m = L := ⟨_, rfl⟩
  have hLI : 198 + (m : Int) = (L : Int) := by omega
  have HLB : Hid (L ≤ 201) := Lib.hid (by omega)
  clear qa ba sa hWB HBB' qi bi si hri hrc hrc' grc hsz hgs hlo hgl hWI'
  have HR : Hid (rightL (bWj L) = false) := Lib.hid (by rw [show L = 201 by omega]; exact bW_bad)
  have hmo : (200 : Int) < (L : Int) := by omega
  go_wp2_with (first
    | ((with_reducible (refine wpList_store_mid rfl _ _ _ rfl ?_ ?_ ?_ ?_ ?_ ?_ ?_ ?_ ?_)); (exact g); (exact 0); (exact ((lK 3).cells p0).toArray); (exact rfl); (exact rfl); (exact HTHB.out); (exact HILB.out); (exact HOLB.out); rw [HWB.out]))
  clear hWI hWC c5 f5 hgi hWA hg k0
  go_loopg [8] (L * 1) (fun gk_ s wr => ∃ (k : Nat) (A : Option Addr) (c : Nat), k ≤ L ∧ gk_ = L - k ∧ s = .int .i64 (k : Int) ∧ Hid (WS w2 wr g gi lo k A c))
  case atStart => exact ⟨0, none, 0, by omega, by omega, rfl, HWS⟩
  case round =>
  clear HWS
  obtain ⟨k, A, c, hk, rfl, rfl, HWS⟩ := hrel
  by_cases hlt : k < L
  · have i1 : (k : Int) < (L : Int) := by omega
    have hlb := HLB.out
    have i2 : ((k : Int) + 1) % 256 = (k : Int) + 1 := by omega
    have c6 : wr.cell? ⟨g, 6, none⟩ = some (.slice A k c) := by
      have h : wr.cell? ⟨g, 6, none⟩ = some (.slice A (hvs k).length c) := row_cell HWS.out.row 6
      rwa [hvs_len] at h
    obtain ⟨W3, hW3⟩ : ∃ W, wr.alloc (.cells #[Value.int .u8 ((k : Int) + 1), Value.int .u8 0, Value.int .u8 0, Value.int .u8 0, Value.int .u8 0, Value.int .u8 0, Value.int .u8 0, Value.int .u8 0, Value.int .u8 0, Value.int .u8 0, Value.int .u8 0, Value.int .u8 0, Value.int .u8 0, Value.int .u8 0, Value.int .u8 0, Value.int .u8 0, Value.int .u8 0, Value.int .u8 0, Value.int .u8 0, Value.int .u8 0, Value.int .u8 0, Value.int .u8 0, Value.int .u8 0, Value.int .u8 0, Value.int .u8 0, Value.int .u8 0, Value.int .u8 0, Value.int .u8 0, Value.int .u8 0, Value.int .u8 0, Value.int .u8 0, Value.int .u8 0] 25) = W := ⟨_, rfl⟩
    have hW3' : wr.alloc (.cells (b8s (idN k)).toArray 25) = W3 := by rw [idN_cells k (by omega)]; exact hW3
    obtain ⟨r3, b3, s3⟩ := new_row hW3'
    have HWS3 := Lib.hid (HWS.out.below b3)
    have HR3 : Hid (Rd W3 (some ⟨wr.heap.size, 0, none⟩) (b8s (idN k))) := Lib.hid (range_rd (range_of_row r3))
    have HBA := Lib.hid HWS3.out.ne.2.2.2.2
    clear r3 b3 s3 hW3'
    go_wp2_with (at_builtin; refine wpList_append_rd _ rfl _ _ 23 rfl lo 25 _ 32 32 Try.underlying23 info_ids2 (by rw [zeros32_cells]; rfl) (by decide) (.slice A k c) k _ rfl HWS3.out.own _ 1 1 (b8s (idN k)) rfl (by rw [b8s_length]; rfl) HR3.out (b8s_one' _) (by unfold maxLen; omega) (by omega) HBA.out ?_; intro v4 w4 ho4 hg4 hvb4; obtain ⟨A5, c5, e5, _⟩ := own_slice ho4; subst e5; obtain ⟨x4, y4, HRX⟩ := HWS3.out.app hg4 ho4; have HRY := Lib.hid HRX; clear ho4 hg4 hvb4 HRX)
    clear c6 hW3
    go_roundg (L - (k + 1))
    case measure => omega
    case rel => exact ⟨k + 1, A5, c5, by omega, rfl, by first | rfl | exact congrArg (Value.int .i64) (by omega) | go_num, HRY⟩
  obtain rfl : k = L := by omega
  clear hlt hk
  have HB27 := Lib.hid HWS.out.bel
  obtain ⟨W7, hW7⟩ : ∃ W, wr = W := ⟨_, rfl⟩
  subst hW7
  have HR7 := Lib.hid HWS.out.row
  have HIN7 := Lib.hid HWS.out.in_
  have HTT : Hid (-9223372036854775808 ≤ (bWj k).total ∧ (bWj k).total ≤ 9223372036854775807) := Lib.hid ⟨(by decide : (-9223372036854775808 : Int) ≤ 0), (by decide : (0 : Int) ≤ 9223372036854775807)⟩
  have HIL7 := Lib.hid (info_leta (bWj k) ⟨none, 0, some ⟨gi, 0, none⟩, 1, A, c, none, 0⟩ rfl)
  go_wp2_with ((with_reducible (refine wpList_load_row_w _ _ rfl _ rfl _ _ _ _ HR7.out Try.underlying28 rfl HIL7.out ?_ ?_)); (focus (rfl)))
  refine (write_bad (bWj k) _ wr HIN7.out HTT.out HR.out).mono ?_
  rintro e w8 ⟨rfl, hb8⟩
  have HRL := Lib.hid ((hb8.block g (Array.getElem?_eq_some_iff.1 HR7.out).1).trans HR7.out)
  have HIN8 := Lib.hid (HIN7.out.below hb8)
  have HB8 := Lib.hid hb8
  clear hb8
  go_wp2_with ((with_reducible (refine wpList_load_row_w _ _ rfl _ rfl _ _ _ _ HRL.out Try.underlying28 rfl HIL7.out ?_ ?_)); (focus (rfl)))
  refine (lright_any (bWj k) _ w8 HIN8.out HTT.out).mono ?_
  rintro e w9 ⟨rfl, hb9⟩
  rw [HR.out]
  go_wp2_with fail
  go_ret
  exact ⟨rfl, ext_trans HB2.out (ext_trans HB27.out (ext_trans HB8.out hb9))⟩
end Go.Proofs.Ytfjfidhhmidflaa
