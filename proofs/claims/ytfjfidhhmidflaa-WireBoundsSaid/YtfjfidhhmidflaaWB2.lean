
/- WireBounds: a Tell. (Printed by wip/genWB.py.) -/

import Derived.Test.YtfjfidhhmidflaaWB3

namespace Go.Proofs.Ytfjfidhhmidflaa

set_option linter.unusedVariables false

set_option linter.unusedSimpArgs false

open Go.RowKit

def nm2 (k : Nat) : List UInt8 := [UInt8.ofNat (97 + k / 16), UInt8.ofNat (97 + k % 16)]
def nmN (k : Nat) : ByteArray := ⟨#[98]⟩ ++ ⟨(nm2 k).toArray⟩
def rfN (k : Nat) : RefM := ⟨nmN k, idOne⟩
def rfs (j : Nat) : List RefM := (List.range j).map rfN
def bTj (j : Nat) : Lt := ⟨2, 1, 2, 1, rfs j, [], [], 0, 0, zeros32, []⟩
theorem rfs_len (j : Nat) : (rfs j).length = j := by simp [rfs]
theorem rfs_snoc (j : Nat) : rfs (j + 1) = rfs j ++ [rfN j] := by simp [rfs, List.range_succ]
theorem rfN_ok (k : Nat) : (rfN k).ok := ⟨rfl, by
  show (nmN k).size ≤ _
  unfold nmN
  rw [ByteArray.size_append]
  show 1 + 2 ≤ _
  decide⟩
theorem rfs_ok (j : Nat) : rOk (rfs j) := fun x hx => by
  obtain ⟨i, _, rfl⟩ := List.mem_map.1 hx
  exact rfN_ok i
theorem nm2_cells (k : Nat) (h : k < 255) : (b8s (nm2 k)).toArray = #[Value.int .u8 (97 + (k : Int) / 16), Value.int .u8 (97 + (k : Int) % 16)] := by
  have e1 : ((UInt8.ofNat (97 + k / 16)).toNat : Int) = 97 + (k : Int) / 16 := by rw [u8_small _ (by omega)]; omega
  have e2 : ((UInt8.ofNat (97 + k % 16)).toNat : Int) = 97 + (k : Int) % 16 := by rw [u8_small _ (by omega)]; omega
  rw [← e1, ← e2]
  rfl
theorem bT_right {m : Nat} (h : m ≤ 2) : rightL (bTj (98 + m)) = true := by
  have : m = 0 ∨ m = 1 ∨ m = 2 := by omega
  rcases this with rfl | rfl | rfl <;> decide +kernel
theorem bT_bad : rightL (bTj 101) = false := by decide +kernel
/-- the letter while its refs are appended -/
structure TS (w W : World) (g lo j : Nat) (A : Option Addr) (c : Nat) : Prop where
  row : W.heap[g]? = some (.cells ((bTj j).cells ⟨A, c, none, 0, none, 0, none, 0⟩).toArray 28 (0, 0))
  own : W.ownsRow lo 52 33 (.slice A j c) j (rfc (rfs j))
  bel : Below w.heap.size w W
  ne : w.heap.size ≤ g ∧ g < lo ∧ lo ≤ W.heap.size
section

variable {w W W' : World} {g lo j : Nat} {A A' : Option Addr} {c c' : Nat}

theorem TS.below (h : TS w W g lo j A c) (hb : Below W.heap.size W W') : TS w W' g lo j A c :=
  ⟨(hb.block _ (Array.getElem?_eq_some_iff.1 h.row).1).trans h.row, own_below h.own hb, ext_trans h.bel hb, ⟨h.ne.1, h.ne.2.1, Nat.le_trans h.ne.2.2 hb.size⟩⟩
theorem TS.app (h : TS w W g lo j A c) (hg : W.grownBy W' (Value.slice A j c).ownBlock)
    (ho : W'.ownsRow lo 52 33 (.slice A' (j + 1) c') (j + 1) (rfc (rfs j) ++ (rfN j).cells)) :
    W'.cell? ⟨g, 4, none⟩ = some (.slice A j c) ∧ W'.frozen? ⟨g, 4, none⟩ = false ∧ TS w (W'.setCell ⟨g, 4, none⟩ (.slice A' (j + 1) c')) g lo (j + 1) A' c' := by
  obtain ⟨n1, n2, n5⟩ := h.ne
  have hb : ∀ b, (Value.slice A j c).ownBlock = some b → lo ≤ b := fun b e => (h.own.lt b e).1
  have hgg : ∀ i, i < lo → i < W.heap.size → W'.heap[i]? = W.heap[i]? := fun i hi hl => hg.block i hl (fun e => by have := hb i e.symm; omega)
  have q := (hgg g n2 (Array.getElem?_eq_some_iff.1 h.row).1).trans h.row
  have hbw : Below w.heap.size w W' := by
    cases hv : (Value.slice A j c).ownBlock with
    | none => rw [hv] at hg; exact h.bel.trans ((grown_none hg).mono h.bel.size)
    | some b => rw [hv] at hg; exact bel_grown h.bel h.bel.size hg (by have := hb b hv; omega)
  have gr := grown_set (w := W') g 4 (.slice A' (j + 1) c')
  have e1 : W'.cell? ⟨g, 4, none⟩ = some (.slice A (rfs j).length c) := row_cell q 4
  rw [rfs_len] at e1
  have hr := row_refs (p := ⟨A, c, none, 0, none, 0, none, 0⟩) q A' c' (rfs (j + 1))
  rw [rfs_len] at hr
  refine ⟨e1, row_free q 4, hr, ?_, bel_grown hbw hbw.size gr n1, ⟨n1, n2, Nat.le_trans n5 (Nat.le_trans hg.size gr.size)⟩⟩
  rw [rfs_snoc, rfc_snoc]
  exact own_far ho n2 gr
theorem TS.in_ (h : TS w W g lo j A c) : LtIn W (bTj j) ⟨A, c, none, 0, none, 0, none, 0⟩ := by
  have k := lK_in 2 W
  obtain ⟨B, d, e, h1, h2, h3, _⟩ := own_slice h.own
  cases e
  exact ⟨rfl, rfs_ok j, k.wok, k.hok, ⟨own_rd h.own, by show (rfs j).length ≤ c; rw [rfs_len]; exact h1, by unfold maxLen at h2; exact h2⟩, k.wr, k.hr, k.dr⟩
end

theorem i64_and_mask (x : Int) (m : Nat) (hm : m < 9223372036854775808) : ∃ n : Nat, n ≤ m ∧ bits .and .i64 x (m : Int) = (n : Int) := by
  refine ⟨(BitVec.ofInt 64 x &&& BitVec.ofInt 64 (m : Int)).toNat, ?_, ?_⟩
  · rw [BitVec.toNat_and]
    refine Nat.le_trans Nat.and_le_right ?_
    rw [BitVec.ofInt_natCast, BitVec.toNat_ofNat]
    exact Nat.mod_le _ _
  · show IntKind.i64.wrap ((BitVec.ofInt 64 x &&& BitVec.ofInt 64 (m : Int)).toNat : Int) = _
    have h1 : (BitVec.ofInt 64 x &&& BitVec.ofInt 64 (m : Int)).toNat ≤ m := by
      rw [BitVec.toNat_and]
      refine Nat.le_trans Nat.and_le_right ?_
      rw [BitVec.ofInt_natCast, BitVec.toNat_ofNat]
      exact Nat.mod_le _ _
    exact IntWalk.i64_in _ (by omega)

set_option maxRecDepth 100000 in
set_option maxHeartbeats 8000000 in
theorem wireBounds_2t (n kd : Int) (x1 m : Nat) (w : World) (ex : bits .and .i64 kd 1023 = (x1 : Int)) (h3 : x1 % 3 = 0) (hm : m ≤ 2) (em : bits .and .i64 n 3 = (m : Int)) :
    Calls Try.prog 6 #[.int .i64 n, .int .i64 kd] w fun e w' => e = .returned (.bool true) ∧ Below w.heap.size w w' := by
  have hx : (x1 : Int) % 3 = 0 := by omega
  go_enter Try.func6, Try.ntmps6
  go_wp2_with fail
  refine (alive_any w).mono ?_
  rintro e w2 ⟨rfl, hb2⟩
  have HB2 := Lib.hid hb2
  clear h3
  obtain ⟨WA, hWA⟩ : ∃ W, w2.alloc (.cells #[Value.int .i64 0, Value.int .i64 0, Value.int .i64 0, Value.int .i64 0, Value.slice none 0 0, Value.slice none 0 0, Value.slice none 0 0, Value.int .i64 0, Value.int .i64 0, Value.int .u8 0, Value.int .u8 0, Value.int .u8 0, Value.int .u8 0, Value.int .u8 0, Value.int .u8 0, Value.int .u8 0, Value.int .u8 0, Value.int .u8 0, Value.int .u8 0, Value.int .u8 0, Value.int .u8 0, Value.int .u8 0, Value.int .u8 0, Value.int .u8 0, Value.int .u8 0, Value.int .u8 0, Value.int .u8 0, Value.int .u8 0, Value.int .u8 0, Value.int .u8 0, Value.int .u8 0, Value.int .u8 0, Value.int .u8 0, Value.int .u8 0, Value.int .u8 0, Value.int .u8 0, Value.int .u8 0, Value.int .u8 0, Value.int .u8 0, Value.int .u8 0, Value.int .u8 0, Value.slice none 0 0] 28) = W := ⟨_, rfl⟩
  obtain ⟨qa, ba, sa⟩ := new_row hWA
  rw [← lt0_cells] at qa
  obtain ⟨g, hg⟩ : ∃ g, w2.heap.size = g := ⟨_, rfl⟩
  rw [hg] at qa
  obtain ⟨WB, hWB, HTHB, HRB, HBB', _, _⟩ := let_write (q := p0) (m := lK 2) qa rfl rfl ba ba.size (Nat.le_of_eq hg)
  have HWB := Lib.hid hWB
  have HBB : Hid (Below w2.heap.size w2 WB) := HBB'
  have HILB := Lib.hid (info_leta (lK 2) p0 rfl)
  have HOLB := Lib.hid (all_oneCell_toArray ((lK 2).cells_one p0))
  have HGL := Lib.hid (Nat.le_of_eq hg)
  have k0 : WB.cell? ⟨g, 0, none⟩ = some (.int .i64 2) := row_cell HRB.out 0
  obtain ⟨lo, hlo⟩ : ∃ lo, WB.heap.size = lo := ⟨_, rfl⟩
  have hgl : g < lo := by have := (Array.getElem?_eq_some_iff.1 HRB.out).1; omega
  have hgs := HGL.out
  have HWS : Hid (TS w2 WB g lo 0 none 0) := Lib.hid ⟨HRB.out, World.ownsRow_nil _ _ _ _, HBB.out, ⟨by omega, hgl, by omega⟩⟩
  have hm3 : (m : Int) ≤ 3 := by omega
  obtain ⟨L, hL⟩ : ∃ L : Nat, 98 + m = L := ⟨_, rfl⟩
  have hLI : 98 + (m : Int) = (L : Int) := by omega
  have HLB : Hid (L ≤ 101) := Lib.hid (by omega)
  clear qa ba sa hWB HBB' hgs hlo hgl
  have HR : Hid (rightL (bTj L) = true) := Lib.hid (by rw [← hL]; exact bT_right hm)
  have hmo : ¬ (100 : Int) < (L : Int) := by omega
  go_wp2_with (first
    | ((with_reducible (refine wpList_store_mid rfl _ _ _ rfl ?_ ?_ ?_ ?_ ?_ ?_ ?_ ?_ ?_)); (exact g); (exact 0); (exact ((lK 2).cells p0).toArray); (exact rfl); (exact rfl); (exact HTHB.out); (exact HILB.out); (exact HOLB.out); rw [HWB.out]))
  clear hWA hg k0
  go_loopg [7] (L * 1) (fun gk_ s wr => ∃ (k : Nat) (A : Option Addr) (c : Nat), k ≤ L ∧ gk_ = L - k ∧ s = .int .i64 (k : Int) ∧ Hid (TS w2 wr g lo k A c))
  case atStart => exact ⟨0, none, 0, by omega, by omega, rfl, HWS⟩
  case round =>
  clear HWS
  obtain ⟨k, A, c, hk, rfl, rfl, HWS⟩ := hrel
  by_cases hlt : k < L
  · have i1 : (k : Int) < (L : Int) := by omega
    have hlb := HLB.out
    have i2 : (97 + (k : Int) / 16) % 256 = 97 + (k : Int) / 16 := by omega
    have i3 : (97 + (k : Int) % 16) % 256 = 97 + (k : Int) % 16 := by omega
    have c6 : wr.cell? ⟨g, 4, none⟩ = some (.slice A k c) := by
      have h : wr.cell? ⟨g, 4, none⟩ = some (.slice A (rfs k).length c) := row_cell HWS.out.row 4
      rwa [rfs_len] at h
    obtain ⟨W3, hW3⟩ : ∃ W, wr.alloc (.cells #[Value.int .u8 (97 + (k : Int) / 16), Value.int .u8 (97 + (k : Int) % 16)] 5) = W := ⟨_, rfl⟩
    have hW3' : wr.alloc (.cells (b8s (nm2 k)).toArray 5) = W3 := by rw [nm2_cells k (by omega)]; exact hW3
    obtain ⟨r3, b3, s3⟩ := new_row hW3'
    have HWS3 := Lib.hid (HWS.out.below b3)
    have hr3 : Rd W3 (some ⟨wr.heap.size, 0, none⟩) (b8s (nm2 k)) := range_rd (range_of_row r3)
    have hcv := run_str_of_bytes (P := Try.prog) (src := 26) (dst := 9) 2 2 rfl Try.underlying26 Try.underlying5 Try.underlying9 hr3
    have hnm : (⟨#[98]⟩ : ByteArray) ++ ⟨(nm2 k).toArray⟩ = nmN k := rfl
    obtain ⟨W4, hW4⟩ : ∃ W, W3.alloc (.cells (rfN k).cells.toArray 52) = W := ⟨_, rfl⟩
    obtain ⟨r4, b4, s4⟩ := new_row hW4
    have HW4 := Lib.hid hW4
    have HWS4 := Lib.hid (HWS3.out.below b4)
    have HR4 : Hid (Rd W4 (some ⟨W3.heap.size, 0, none⟩) (rfN k).cells) := Lib.hid (range_rd (range_of_row r4))
    have HBA := Lib.hid HWS4.out.ne.2.2
    clear r3 b3 s3 hW3' hr3 r4 b4 s4 hW4
    go_wp2_with (first
      | (refine wpList_build1 rfl _ 52 _ rfl (rfN k).cells rfl Try.underlying22 (by rw [RefM.len (rfN_ok k)]; exact info_ref1) (by rw [RefM.len (rfN_ok k)]; decide) (by rw [RefM.len (rfN_ok k)]; decide) ?_; rw [HW4.out])
      | (at_builtin; refine wpList_append_rd _ rfl _ _ 22 rfl lo 52 _ 33 48 Try.underlying22 info_ref2 (by unfold refZ; rw [zeros32_cells]; rfl) (by decide) (.slice A k c) k _ rfl HWS4.out.own _ 1 1 (rfN k).cells rfl (by rw [RefM.len (rfN_ok k)]) HR4.out (RefM.one _) (by unfold maxLen; omega) (by omega) HBA.out ?_; intro v4 w4 ho4 hg4 hvb4; obtain ⟨A5, c5, e5, _⟩ := own_slice ho4; subst e5; obtain ⟨x4, y4, HRX⟩ := HWS4.out.app hg4 ho4; have HRY := Lib.hid HRX; clear ho4 hg4 hvb4 HRX))
    clear c6 hW3
    go_roundg (L - (k + 1))
    case measure => omega
    case rel => exact ⟨k + 1, A5, c5, by omega, rfl, by first | rfl | exact congrArg (Value.int .i64) (by omega) | go_num, HRY⟩
  obtain rfl : k = L := by omega
  clear hlt hk
  have HB27 := Lib.hid HWS.out.bel
  have HR7 := Lib.hid HWS.out.row
  have HIN7 := Lib.hid HWS.out.in_
  have HTT : Hid (-9223372036854775808 ≤ (bTj k).total ∧ (bTj k).total ≤ 9223372036854775807) := Lib.hid ⟨(by decide : (-9223372036854775808 : Int) ≤ 0), (by decide : (0 : Int) ≤ 9223372036854775807)⟩
  have HIL7 := Lib.hid (info_leta (bTj k) ⟨A, c, none, 0, none, 0, none, 0⟩ rfl)
  go_wp2_with ((with_reducible (refine wpList_load_row_w _ _ rfl _ rfl _ _ _ _ HR7.out Try.underlying28 rfl HIL7.out ?_ ?_)); (focus (rfl)))
  refine (write_ok (bTj k) _ wr HIN7.out HTT.out HR.out).mono ?_
  rintro e w8 ⟨v8, rfl, hs8, hb8⟩
  have HRD := Lib.hid (read_s v8 _ w8 hs8)
  rw [read_write (bTj k) HR.out HIN7.out.lok] at HRD
  have HB8 := Lib.hid hb8
  clear hs8 hb8
  go_wp2_with fail
  refine HRD.out.mono ?_
  rintro e w9 ⟨q, rfl, hin9, hb9⟩
  obtain ⟨WX, hWX⟩ : ∃ W, w9.alloc (.cells #[Value.int .i64 0, Value.int .i64 0, Value.int .i64 0, Value.int .i64 0, Value.slice none 0 0, Value.slice none 0 0, Value.slice none 0 0, Value.int .i64 0, Value.int .i64 0, Value.int .u8 0, Value.int .u8 0, Value.int .u8 0, Value.int .u8 0, Value.int .u8 0, Value.int .u8 0, Value.int .u8 0, Value.int .u8 0, Value.int .u8 0, Value.int .u8 0, Value.int .u8 0, Value.int .u8 0, Value.int .u8 0, Value.int .u8 0, Value.int .u8 0, Value.int .u8 0, Value.int .u8 0, Value.int .u8 0, Value.int .u8 0, Value.int .u8 0, Value.int .u8 0, Value.int .u8 0, Value.int .u8 0, Value.int .u8 0, Value.int .u8 0, Value.int .u8 0, Value.int .u8 0, Value.int .u8 0, Value.int .u8 0, Value.int .u8 0, Value.int .u8 0, Value.int .u8 0, Value.slice none 0 0] 28) = W := ⟨_, rfl⟩
  obtain ⟨qx, bx, sx⟩ := new_row hWX
  rw [← lt0_cells] at qx
  obtain ⟨gx, hgx⟩ : ∃ g, w9.heap.size = g := ⟨_, rfl⟩
  rw [hgx] at qx
  obtain ⟨WY, hWY, HTHx, HRx, HBx, _, _⟩ := let_write (q := q) (m := bTj k) qx rfl rfl bx bx.size (Nat.le_of_eq hgx)
  have HWY := Lib.hid hWY
  have HBY : Hid (Below w9.heap.size w9 WY) := HBx
  have HILx := Lib.hid (info_leta (bTj k) q rfl)
  have HOLx := Lib.hid (all_oneCell_toArray ((bTj k).cells_one q))
  have HB7Y := Lib.hid (ext_trans HB8.out (ext_trans hb9 HBY.out))
  have HRL := Lib.hid ((HB7Y.out.block g (Array.getElem?_eq_some_iff.1 HR7.out).1).trans HR7.out)
  have HINx := Lib.hid (hin9.below HBY.out)
  have HINg := Lib.hid (HIN7.out.below HB7Y.out)
  clear qx bx sx hWY HBx hin9 hb9 HRD
  go_wp2_with (first
    | ((with_reducible (refine wpList_store_mid rfl _ _ _ rfl ?_ ?_ ?_ ?_ ?_ ?_ ?_ ?_ ?_)); (exact gx); (exact 0); (exact ((bTj k).cells q).toArray); (exact rfl); (exact rfl); (exact HTHx.out); (exact HILx.out); (exact HOLx.out); rw [HWY.out])
    | ((with_reducible (refine wpList_load_row_w _ _ rfl _ rfl _ _ _ _ HRL.out Try.underlying28 rfl HIL7.out ?_ ?_)); (focus (rfl)))
    | ((with_reducible (refine wpList_load_row_w _ _ rfl _ rfl _ _ _ _ HRx.out Try.underlying28 rfl HILx.out ?_ ?_)); (focus (rfl))))
  clear hWX hgx
  refine (lsame_any (bTj k) (bTj k) q _ WY HINx.out HINg.out).mono ?_
  rintro e w12 ⟨rfl, hb12⟩
  rw [sameL_me]
  go_wp2_with fail
  go_ret
  exact ⟨rfl, ext_trans HB2.out (ext_trans HB27.out (ext_trans HB7Y.out hb12))⟩

set_option maxRecDepth 100000 in
set_option maxHeartbeats 8000000 in
theorem wireBounds_2f (n kd : Int) (x1 m : Nat) (w : World) (ex : bits .and .i64 kd 1023 = (x1 : Int)) (h3 : x1 % 3 = 0) (hm : 2 < m ∧ m ≤ 3) (em : bits .and .i64 n 3 = (m : Int)) :
    Calls Try.prog 6 #[.int .i64 n, .int .i64 kd] w fun e w' => e = .returned (.bool true) ∧ Below w.heap.size w w' := by
  have hx : (x1 : Int) % 3 = 0 := by omega
  go_enter Try.func6, Try.ntmps6
  go_wp2_with fail
  refine (alive_any w).mono ?_
  rintro e w2 ⟨rfl, hb2⟩
  have HB2 := Lib.hid hb2
  clear h3
  obtain ⟨WA, hWA⟩ : ∃ W, w2.alloc (.cells #[Value.int .i64 0, Value.int .i64 0, Value.int .i64 0, Value.int .i64 0, Value.slice none 0 0, Value.slice none 0 0, Value.slice none 0 0, Value.int .i64 0, Value.int .i64 0, Value.int .u8 0, Value.int .u8 0, Value.int .u8 0, Value.int .u8 0, Value.int .u8 0, Value.int .u8 0, Value.int .u8 0, Value.int .u8 0, Value.int .u8 0, Value.int .u8 0, Value.int .u8 0, Value.int .u8 0, Value.int .u8 0, Value.int .u8 0, Value.int .u8 0, Value.int .u8 0, Value.int .u8 0, Value.int .u8 0, Value.int .u8 0, Value.int .u8 0, Value.int .u8 0, Value.int .u8 0, Value.int .u8 0, Value.int .u8 0, Value.int .u8 0, Value.int .u8 0, Value.int .u8 0, Value.int .u8 0, Value.int .u8 0, Value.int .u8 0, Value.int .u8 0, Value.int .u8 0, Value.slice none 0 0] 28) = W := ⟨_, rfl⟩
  obtain ⟨qa, ba, sa⟩ := new_row hWA
  rw [← lt0_cells] at qa
  obtain ⟨g, hg⟩ : ∃ g, w2.heap.size = g := ⟨_, rfl⟩
  rw [hg] at qa
  obtain ⟨WB, hWB, HTHB, HRB, HBB', _, _⟩ := let_write (q := p0) (m := lK 2) qa rfl rfl ba ba.size (Nat.le_of_eq hg)
  have HWB := Lib.hid hWB
  have HBB : Hid (Below w2.heap.size w2 WB) := HBB'
  have HILB := Lib.hid (info_leta (lK 2) p0 rfl)
  have HOLB := Lib.hid (all_oneCell_toArray ((lK 2).cells_one p0))
  have HGL := Lib.hid (Nat.le_of_eq hg)
  have k0 : WB.cell? ⟨g, 0, none⟩ = some (.int .i64 2) := row_cell HRB.out 0
  obtain ⟨lo, hlo⟩ : ∃ lo, WB.heap.size = lo := ⟨_, rfl⟩
  have hgl : g < lo := by have := (Array.getElem?_eq_some_iff.1 HRB.out).1; omega
  have hgs := HGL.out
  have HWS : Hid (TS w2 WB g lo 0 none 0) := Lib.hid ⟨HRB.out, World.ownsRow_nil _ _ _ _, HBB.out, ⟨by omega, hgl, by omega⟩⟩
  have hm3 : (m : Int) ≤ 3 := by omega
  obtain ⟨L, hL⟩ : ∃ L : Nat, 98 + m = L := ⟨_, rfl⟩
  have hLI : 98 + (m : Int) = (L : Int) := by omega
  have HLB : Hid (L ≤ 101) := Lib.hid (by omega)
  clear qa ba sa hWB HBB' hgs hlo hgl
  have HR : Hid (rightL (bTj L) = false) := Lib.hid (by rw [show L = 101 by omega]; exact bT_bad)
  have hmo : (100 : Int) < (L : Int) := by omega
  go_wp2_with (first
    | ((with_reducible (refine wpList_store_mid rfl _ _ _ rfl ?_ ?_ ?_ ?_ ?_ ?_ ?_ ?_ ?_)); (exact g); (exact 0); (exact ((lK 2).cells p0).toArray); (exact rfl); (exact rfl); (exact HTHB.out); (exact HILB.out); (exact HOLB.out); rw [HWB.out]))
  clear hWA hg k0
  go_loopg [7] (L * 1) (fun gk_ s wr => ∃ (k : Nat) (A : Option Addr) (c : Nat), k ≤ L ∧ gk_ = L - k ∧ s = .int .i64 (k : Int) ∧ Hid (TS w2 wr g lo k A c))
  case atStart => exact ⟨0, none, 0, by omega, by omega, rfl, HWS⟩
  case round =>
  clear HWS
  obtain ⟨k, A, c, hk, rfl, rfl, HWS⟩ := hrel
  by_cases hlt : k < L
  · have i1 : (k : Int) < (L : Int) := by omega
    have hlb := HLB.out
    have i2 : (97 + (k : Int) / 16) % 256 = 97 + (k : Int) / 16 := by omega
    have i3 : (97 + (k : Int) % 16) % 256 = 97 + (k : Int) % 16 := by omega
    have c6 : wr.cell? ⟨g, 4, none⟩ = some (.slice A k c) := by
      have h : wr.cell? ⟨g, 4, none⟩ = some (.slice A (rfs k).length c) := row_cell HWS.out.row 4
      rwa [rfs_len] at h
    obtain ⟨W3, hW3⟩ : ∃ W, wr.alloc (.cells #[Value.int .u8 (97 + (k : Int) / 16), Value.int .u8 (97 + (k : Int) % 16)] 5) = W := ⟨_, rfl⟩
    have hW3' : wr.alloc (.cells (b8s (nm2 k)).toArray 5) = W3 := by rw [nm2_cells k (by omega)]; exact hW3
    obtain ⟨r3, b3, s3⟩ := new_row hW3'
    have HWS3 := Lib.hid (HWS.out.below b3)
    have hr3 : Rd W3 (some ⟨wr.heap.size, 0, none⟩) (b8s (nm2 k)) := range_rd (range_of_row r3)
    have hcv := run_str_of_bytes (P := Try.prog) (src := 26) (dst := 9) 2 2 rfl Try.underlying26 Try.underlying5 Try.underlying9 hr3
    have hnm : (⟨#[98]⟩ : ByteArray) ++ ⟨(nm2 k).toArray⟩ = nmN k := rfl
    obtain ⟨W4, hW4⟩ : ∃ W, W3.alloc (.cells (rfN k).cells.toArray 52) = W := ⟨_, rfl⟩
    obtain ⟨r4, b4, s4⟩ := new_row hW4
    have HW4 := Lib.hid hW4
    have HWS4 := Lib.hid (HWS3.out.below b4)
    have HR4 : Hid (Rd W4 (some ⟨W3.heap.size, 0, none⟩) (rfN k).cells) := Lib.hid (range_rd (range_of_row r4))
    have HBA := Lib.hid HWS4.out.ne.2.2
    clear r3 b3 s3 hW3' hr3 r4 b4 s4 hW4
    go_wp2_with (first
      | (refine wpList_build1 rfl _ 52 _ rfl (rfN k).cells rfl Try.underlying22 (by rw [RefM.len (rfN_ok k)]; exact info_ref1) (by rw [RefM.len (rfN_ok k)]; decide) (by rw [RefM.len (rfN_ok k)]; decide) ?_; rw [HW4.out])
      | (at_builtin; refine wpList_append_rd _ rfl _ _ 22 rfl lo 52 _ 33 48 Try.underlying22 info_ref2 (by unfold refZ; rw [zeros32_cells]; rfl) (by decide) (.slice A k c) k _ rfl HWS4.out.own _ 1 1 (rfN k).cells rfl (by rw [RefM.len (rfN_ok k)]) HR4.out (RefM.one _) (by unfold maxLen; omega) (by omega) HBA.out ?_; intro v4 w4 ho4 hg4 hvb4; obtain ⟨A5, c5, e5, _⟩ := own_slice ho4; subst e5; obtain ⟨x4, y4, HRX⟩ := HWS4.out.app hg4 ho4; have HRY := Lib.hid HRX; clear ho4 hg4 hvb4 HRX))
    clear c6 hW3
    go_roundg (L - (k + 1))
    case measure => omega
    case rel => exact ⟨k + 1, A5, c5, by omega, rfl, by first | rfl | exact congrArg (Value.int .i64) (by omega) | go_num, HRY⟩
  obtain rfl : k = L := by omega
  clear hlt hk
  have HB27 := Lib.hid HWS.out.bel
  have HR7 := Lib.hid HWS.out.row
  have HIN7 := Lib.hid HWS.out.in_
  have HTT : Hid (-9223372036854775808 ≤ (bTj k).total ∧ (bTj k).total ≤ 9223372036854775807) := Lib.hid ⟨(by decide : (-9223372036854775808 : Int) ≤ 0), (by decide : (0 : Int) ≤ 9223372036854775807)⟩
  have HIL7 := Lib.hid (info_leta (bTj k) ⟨A, c, none, 0, none, 0, none, 0⟩ rfl)
  go_wp2_with ((with_reducible (refine wpList_load_row_w _ _ rfl _ rfl _ _ _ _ HR7.out Try.underlying28 rfl HIL7.out ?_ ?_)); (focus (rfl)))
  refine (write_bad (bTj k) _ wr HIN7.out HTT.out HR.out).mono ?_
  rintro e w8 ⟨rfl, hb8⟩
  have HRL := Lib.hid ((hb8.block g (Array.getElem?_eq_some_iff.1 HR7.out).1).trans HR7.out)
  have HIN8 := Lib.hid (HIN7.out.below hb8)
  have HB8 := Lib.hid hb8
  clear hb8
  go_wp2_with ((with_reducible (refine wpList_load_row_w _ _ rfl _ rfl _ _ _ _ HRL.out Try.underlying28 rfl HIL7.out ?_ ?_)); (focus (rfl)))
  refine (lright_any (bTj k) _ w8 HIN8.out HTT.out).mono ?_
  rintro e w9 ⟨rfl, hb9⟩
  rw [HR.out]
  go_wp2_with fail
  go_ret
  exact ⟨rfl, ext_trans HB2.out (ext_trans HB27.out (ext_trans HB8.out hb9))⟩

/-- WireBounds -/
theorem wireBounds_any (n kd : Int) (w : World) : Calls Try.prog 6 #[.int .i64 n, .int .i64 kd] w fun e w' => e = .returned (.bool true) ∧ Below w.heap.size w w' := by
  obtain ⟨m, hm, em⟩ := i64_and_mask n 3 (by decide)
  obtain ⟨x, hx, ex⟩ := i64_and_mask kd 1023 (by decide)
  have h3 : x % 3 = 0 ∨ x % 3 = 1 ∨ x % 3 = 2 := by omega
  by_cases h : m ≤ 2
  · rcases h3 with h3 | h3 | h3
    · exact wireBounds_2t n kd x m w ex h3 h em
    · exact wireBounds_3t n kd x m w ex h3 h em
    · exact wireBounds_4t n kd x m w ex h3 h em
  · rcases h3 with h3 | h3 | h3
    · exact wireBounds_2f n kd x m w ex h3 ⟨by omega, hm⟩ em
    · exact wireBounds_3f n kd x m w ex h3 ⟨by omega, hm⟩ em
    · exact wireBounds_4f n kd x m w ex h3 ⟨by omega, hm⟩ em
end Go.Proofs.Ytfjfidhhmidflaa
