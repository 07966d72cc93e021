/- What the Reader's Text, Id and Four read. (With the texts that it stands on.) -/
import Derived.Test.YtelbofikcpchiaaGreatBase
import Derived.Test.YtelbofikcpchiaaGreatProg
import Derived.Test.YtelbofikcpchiaaGreatQA
import Derived.Laws.ResultCell
import Derived.Laws.IdiomCopy
import Derived.Laws.CopyRow
import Derived.Lib.SlBuf
namespace Go.Proofs.YtelbofikcpchiaaGreat
open Go.RowKit
theorem u32_xor_bv (x y : BitVec 32) : bits .xor .u32 (x.toNat : Int) (y.toNat : Int) = ((x ^^^ y).toNat : Int) := by
 rw [u32_xor_nat _ _ x.isLt y.isLt, BitVec.toNat_xor]
theorem u32_and_bv (x y : BitVec 32) : bits .and .u32 (x.toNat : Int) (y.toNat : Int) = ((x &&& y).toNat : Int) := by
 rw [u32_and_nat _ _ x.isLt y.isLt, BitVec.toNat_and]
theorem u32_neg_bv (x : BitVec 32) : -(x.toNat : Int) % 4294967296 = ((-x).toNat : Int) := by
 rw [BitVec.toNat_neg]
 have := x.isLt
 omega
theorem u32_shr_bv (x : BitVec 32) (k : Nat) : (x.toNat : Int) / 2 ^ k = ((x >>> k).toNat : Int) := by
 rw [BitVec.toNat_ushiftRight, Nat.shiftRight_eq_div_pow]
 simp
theorem u32_not_bv (x : BitVec 32) : bits .xor .u32 4294967295 (x.toNat : Int) = ((~~~x).toNat : Int) := by
 have h : (4294967295 : Int) = ((4294967295#32).toNat : Int) := rfl
 rw [h, u32_xor_bv, show (4294967295#32) = BitVec.allOnes 32 from rfl, BitVec.allOnes_xor]
def crcPoly : BitVec 32 := 0xedb88320#32
def crcBit (s : BitVec 32) : BitVec 32 := (s >>> 1) ^^^ (crcPoly &&& -(s &&& 1#32))
def crcN : Nat → BitVec 32 → BitVec 32
 | 0, s => s
 | n + 1, s => crcBit (crcN n s)
def wide (c : UInt8) : BitVec 32 := BitVec.ofNat 32 c.toNat
def crcByte (s : BitVec 32) (c : UInt8) : BitVec 32 := crcN 8 (s ^^^ wide c)
def crcAll (bs : List UInt8) : BitVec 32 := bs.foldl crcByte 0xffffffff#32
def crc (bs : List UInt8) : BitVec 32 := ~~~ crcAll bs
theorem wide_toNat (c : UInt8) : (wide c).toNat = c.toNat := by
 have := c.toNat_lt
 simp only [wide, BitVec.toNat_ofNat]
 omega
theorem foldl_take {α β : Type} (f : β → α → β) (s : β) (l : List α) (k : Nat) (h : k < l.length) : (l.take (k + 1)).foldl f s = f ((l.take k).foldl f s) l[k] := by
 rw [List.take_succ_eq_append_getElem h, List.foldl_append]; rfl
theorem crc_first (s : BitVec 32) (c : UInt8) : bits .xor .u32 (s.toNat : Int) ((c.toNat : Int) % 4294967296) = ((s ^^^ wide c).toNat : Int) := by
 have h : ((c.toNat : Int) % 4294967296) = ((wide c).toNat : Int) := by
  rw [wide_toNat]
  have := c.toNat_lt
  omega
 rw [h, u32_xor_bv]
theorem crc_step (s : BitVec 32) :
  bits .xor .u32 ((s.toNat : Int) / 2) (bits .and .u32 3988292384 (-bits .and .u32 (s.toNat : Int) 1 % 4294967296)) = ((crcBit s).toNat : Int) := by
 have h1 : (1 : Int) = ((1#32).toNat : Int) := rfl
 have h2 : (3988292384 : Int) = ((crcPoly).toNat : Int) := rfl
 have h3 := u32_shr_bv s 1
 simp only [Int.pow_succ, Int.pow_zero, Int.one_mul] at h3
 rw [h1, u32_and_bv, u32_neg_bv, h2, u32_and_bv, h3, u32_xor_bv]
 rfl
def refBit (s : BitVec 32) (b : Bool) : BitVec 32 := (s >>> 1) ^^^ (if (s.getLsbD 0 != b) = true then crcPoly else 0#32)
def refN (c : UInt8) : Nat → BitVec 32 → BitVec 32
 | 0, s => s
 | n + 1, s => refBit (refN c n s) (c.toNat.testBit n)
theorem crcBit_if (s : BitVec 32) : crcBit s = (s >>> 1) ^^^ (if s.getLsbD 0 = true then crcPoly else 0#32) := by
 unfold crcBit
 congr 1
 have h : s &&& 1#32 = if s.getLsbD 0 = true then 1#32 else 0#32 := by
  ext i hi
  by_cases h0 : i = 0
  ·subst h0
   cases hb : s[0] <;> simp [hb, BitVec.getLsbD_eq_getElem]
  ·have h1 : (1#32).getLsbD i = false := by
    rw [BitVec.getLsbD_one]; simp [h0]
   rw [BitVec.getElem_and, ← BitVec.getLsbD_eq_getElem (x := 1#32), h1, Bool.and_false]
   split
   ·rw [← BitVec.getLsbD_eq_getElem, h1]
   ·simp
 rw [h]
 split <;> decide
theorem crcBit_ref (x : BitVec 32) (c : UInt8) (j : Nat) : crcBit (x ^^^ (wide c >>> j)) = refBit x (c.toNat.testBit j) ^^^ (wide c >>> (j + 1)) := by
 rw [crcBit_if]
 unfold refBit
 have h1 : (x ^^^ (wide c >>> j)).getLsbD 0 = (x.getLsbD 0 != c.toNat.testBit j) := by
  rw [BitVec.getLsbD_xor, BitVec.getLsbD_ushiftRight]
  have : (wide c).getLsbD (j + 0) = c.toNat.testBit j := by
   rw [Nat.add_zero, BitVec.getLsbD, wide_toNat]
  rw [this]
 have h2 : (x ^^^ (wide c >>> j)) >>> 1 = (x >>> 1) ^^^ (wide c >>> (j + 1)) := by
  rw [BitVec.ushiftRight_xor_distrib, BitVec.shiftRight_add]
 rw [h1, h2]
 rw [BitVec.xor_assoc, BitVec.xor_assoc]
 congr 1
 exact BitVec.xor_comm _ _
theorem crcN_ref (s : BitVec 32) (c : UInt8) (j : Nat) : crcN j (s ^^^ wide c) = refN c j s ^^^ (wide c >>> j) := by
 induction j with
 | zero => simp [crcN, refN]
 | succ n ih => simp only [crcN, refN, ih, crcBit_ref]
theorem wide_shift8 (c : UInt8) : wide c >>> 8 = 0#32 := by
 apply BitVec.eq_of_toNat_eq
 rw [BitVec.toNat_ushiftRight, wide_toNat, Nat.shiftRight_eq_div_pow]
 have := c.toNat_lt
 simp
 omega
theorem crcByte_ref (s : BitVec 32) (c : UInt8) : crcByte s c = refN c 8 s := by
 unfold crcByte
 rw [crcN_ref, wide_shift8]
 simp
def numF : Nat → Nat → List UInt8
 | 0, _ => []
 | f + 1, n => if n < 128 then [UInt8.ofNat n] else UInt8.ofNat (n % 128 + 128) :: numF f (n / 128)
def most : Nat := 4611686018427387904
def clampN (n : Int) : Nat := if n < 0 then 0 else if n > 4611686018427387904 then most else n.toNat
def numB (n : Nat) : List UInt8 := numF 10 n
theorem clampN_le (n : Int) : clampN n ≤ 4611686018427387904 := by
 unfold clampN most
 split
 ·omega
 ·split <;> omega
theorem clampN_eq (n : Int) : ((clampN n : Nat) : Int) = min (max n 0) 4611686018427387904 := by
 unfold clampN most
 split
 ·omega
 ·split <;> omega
theorem numF_ge (f n : Nat) (h : 128 ≤ n) : numF (f + 1) n = UInt8.ofNat (n % 128 + 128) :: numF f (n / 128) := by
 rw [numF, if_neg (by omega)]
theorem numF_lt (f n : Nat) (h : n < 128) : numF (f + 1) n = [UInt8.ofNat n] := by
 rw [numF, if_pos h]
theorem u8_high (n : Nat) : bits .or .u8 ((n : Int) % 256) 128 = ((UInt8.ofNat (n % 128 + 128)).toNat : Int) := by
 have h1 : ((n : Int) % 256) = ((n % 256 : Nat) : Int) := by omega
 have h2 : (128 : Int) = ((128 : Nat) : Int) := rfl
 rw [h1, h2, u8_or_nat _ _ (by omega) (by omega)]
 have hb : ∀ x, x < 256 → x ||| 128 = x % 128 + 128 := by decide +kernel
 rw [hb _ (by omega), UInt8.toNat_ofNat']
 congr 1
 omega
theorem u8_low (n : Nat) : ((n : Int) % 256) = ((UInt8.ofNat n).toNat : Int) := by
 rw [UInt8.toNat_ofNat']
 omega
theorem rd_none_nil {w : World} {bs : List UInt8} (h : Rd w none (b8s bs)) : bs = [] := by
 cases bs with
 | nil => rfl
 | cons c bs =>
   obtain ⟨b, o, hA, _⟩ := h.byte 0 (by simp)
   cases hA
set_option maxHeartbeats 400000 in
theorem clone_any (A : Option Addr) (bs : List UInt8) (c : Nat) (w : World) (hr : Rd w A (b8s bs)) (hm : bs.length ≤ 140737488355328) :
  Calls Tryz.prog 64 #[.slice A bs.length c] w fun e w' => ∃ v, e = .returned v ∧ Own8 w.heap.size w w' v bs := by
 have hnil := fun (w : World) (n c : Nat) => Lib.run_eql_slice_nil (P := Tryz.prog) w 29 5 A n c 0 0 Tryz.underlying29
 cases A with
 | none =>
   have := rd_none_nil hr
   subst this
   go_enter Tryz.func64, Tryz.ntmps64
   go_wp2
   go_ret
   exact ⟨_, rfl, Own8.nil _ _ _ (Below.refl _ _) (Nat.le_refl _)⟩
 | some ad =>
   obtain ⟨N, hN⟩ : ∃ N, N = w.heap.size := ⟨_, rfl⟩
   have hst := Own8.startN w w N (hN ▸ Below.refl _ _) (hN ▸ Nat.le_refl _)
   have hr' := hr.alloc (.cells #[] 5)
   rw [← hN]
   clear hN
   go_enter Tryz.func64, Tryz.ntmps64
   go_wp2_with (at_builtin; refine wpList_append_bytes rfl _ _ rfl bs rfl rfl hr' hst (by simp; omega) ?_; intro v1 w2 hown hg)
   go_ret
   exact ⟨_, rfl, by simpa using hown⟩
theorem u8_low' (n : Nat) (h : n < 128) : (n : Int) = ((UInt8.ofNat n).toNat : Int) := by
 rw [UInt8.toNat_ofNat']
 omega
theorem numF_step {f n : Nat} (h : n < 128 ^ (f + 1)) (h2 : 128 ≤ n) : ∃ f', f = f' + 1 ∧ n / 128 < 128 ^ (f' + 1) := by
 cases f with
 | zero => omega
 | succ f' => exact ⟨f', rfl, by rw [Nat.pow_succ] at h; exact Nat.div_lt_of_lt_mul (by rw [Nat.mul_comm]; exact h)⟩
theorem num_fuel (n : Int) : clampN n < 128 ^ (9 + 1) := by
 have := clampN_le n
 have h : (4611686018427387904 : Nat) < 128 ^ (9 + 1) := by decide
 exact Nat.lt_of_le_of_lt this h
theorem numB_length (n : Int) : (numB (clampN n)).length ≤ 10 := by
 have : ∀ f n, (numF f n).length ≤ f := by
  intro f
  induction f with
  | zero => intro n; simp [numF]
  | succ f ih => intro n; unfold numF; split <;> simp; exact ih _
 exact this 10 _
def NumRel (front : List UInt8) (N n f : Nat) (zs : List UInt8) : Prop := n < 128 ^ (f + 1) ∧ zs ++ numF (f + 1) n = front ++ numB N ∧ zs.length + (f + 1) ≤ front.length + 10
theorem NumRel.start (front : List UInt8) (n : Int) : NumRel front (clampN n) (clampN n) 9 front := ⟨num_fuel n, rfl, Nat.le_refl _⟩
theorem NumRel.step {front zs : List UInt8} {N n f : Nat} (h : NumRel front N n f zs) (hn : 128 ≤ n) :
  ∃ f', NumRel front N (n / 128) f' (zs ++ [UInt8.ofNat (n % 128 + 128)]) := by
 obtain ⟨h1, h2, h3⟩ := h
 obtain ⟨f', rfl, h4⟩ := numF_step h1 hn
 refine ⟨f', h4, ?_, by simp; omega⟩
 rw [← h2, numF_ge _ _ hn, List.append_assoc]
 rfl
theorem NumRel.done {front zs : List UInt8} {N n f : Nat} (h : NumRel front N n f zs) (hn : n < 128) : zs ++ [UInt8.ofNat n] = front ++ numB N := by
 rw [← h.2.1, numF_lt _ _ hn]
theorem NumRel.len {front zs : List UInt8} {N n f : Nat} (h : NumRel front N n f zs) : zs.length + 1 ≤ front.length + 10 := by
 have := h.2.2
 omega
set_option maxHeartbeats 1000000 in
theorem num_any (A : Option Addr) (bs : List UInt8) (c : Nat) (n : Int) (w : World) (hr : Rd w A (b8s bs)) (hm : bs.length + 10 ≤ 140737488355328) :
  Calls Tryz.prog 77 #[.slice A bs.length c, .int .i64 n] w fun e w' => ∃ v, e = .returned v ∧ Own8 w.heap.size w w' v (bs ++ numB (clampN n)) := by
 obtain ⟨N, hN⟩ : ∃ N, N = w.heap.size := ⟨_, rfl⟩
 have HN := h_ hN
 rw [← hN]
 clear hN
 have hcl := clampN_eq n
 have hcle := clampN_le n
 have hst := NumRel.start bs n
 generalize clampN n = M at *
 have Hcl := h_ hcl
 clear hcl
 go_enter Tryz.func77, Tryz.ntmps77
 go_wp2_with fail
 refine (clone_any A bs c w hr (by omega)).mono ?_
 rintro e w1 ⟨v1, rfl, hown⟩
 rw [← HN.out] at hown
 go_wp2_with fail
 all_goals
  go_loopw [5, 6] (fun v u wr => ∃ (m f : Nat) (zs : List UInt8), u = .int .u64 (m : Int) ∧ NumRel bs M m f zs ∧ m ≤ 4611686018427387904 ∧ Own8 N w wr v zs) (fun _ u _ => (intOf u).toNat)
  case atStart => exact ⟨M, 9, bs, by have := Hcl.out; congr 1; omega, hst, hcle, hown⟩
  case round =>
   clear hown hst
   obtain ⟨m, f, zs, rfl, hrel, hm', hown⟩ := hrel
   have hlen := hrel.len
   by_cases hlt : 127 < m
   ·obtain ⟨f', hrel'⟩ := hrel.step (by omega)
    go_wp2_with (at_builtin; refine wpList_append_u8 rfl _ _ rfl (UInt8.ofNat (m % 128 + 128)) rfl rfl (congrArg (Value.int .u8) (u8_high m)) hown (by omega) ?_; intro v1 w1 hown1)
    go_roundw
    case rel => exact ⟨m / 128, f', _, rfl, hrel', by omega, hown1⟩
    case measure => simp [intOf]; omega
   ·have hd := h_ (hrel.done (by omega))
    clear hrel
    go_wp2_with (at_builtin; refine wpList_append_u8 rfl _ _ rfl (UInt8.ofNat m) rfl rfl (congrArg (Value.int .u8) (u8_low' m (by omega))) hown (by omega) ?_; intro v1 w1 hown1)
    go_ret
    rw [hd.out] at hown1
    exact ⟨_, rfl, hown1⟩
def textB (l : List UInt8) : List UInt8 := numB (clampN (l.length : Int)) ++ l
def fourB (u : Nat) : List UInt8 := [UInt8.ofNat u, UInt8.ofNat (u / 256), UInt8.ofNat (u / 65536), UInt8.ofNat (u / 16777216)]
set_option maxHeartbeats 400000 in
theorem text_any (A : Option Addr) (bs : List UInt8) (c : Nat) (s : ByteArray) (w : World) (hr : Rd w A (b8s bs)) (hm : bs.length + s.size + 10 ≤ 140737488355328) :
  Calls Tryz.prog 103 #[.slice A bs.length c, .string s] w fun e w' => ∃ v, e = .returned v ∧ Own8 w.heap.size w w' v (bs ++ textB s.data.toList) := by
 go_enter Tryz.func103, Tryz.ntmps103
 go_wp2_with fail
 refine (num_any A bs c _ w hr (by omega)).mono ?_
 rintro e w1 ⟨v1, rfl, hown⟩
 have hl := numB_length (s.size : Int)
 go_wp2_with (at_builtin; refine wpList_append_str8 rfl _ _ rfl s rfl rfl hown (by rw [List.length_append]; omega) ?_; intro v2 w2 hown2)
 go_ret
 refine ⟨_, rfl, ?_⟩
 rw [List.append_assoc] at hown2
 unfold textB
 rw [size_toList]
 exact hown2
set_option maxRecDepth 100000 in
set_option maxHeartbeats 400000 in
theorem id_any (A : Option Addr) (bs id : List UInt8) (c : Nat) (w : World) (hid : id.length = 32) (hr : Rd w A (b8s bs)) (hm : bs.length + 32 ≤ 140737488355328) :
  Calls Tryz.prog 102 #[.slice A bs.length c, .agg (b8s id).toArray] w fun e w' => ∃ v, e = .returned v ∧ Own8 w.heap.size w w' v (bs ++ id) := by
 go_enter Tryz.func102, Tryz.ntmps102
 go_wp2_with fail
 go_region_law (first | (refine step_append_rd rfl _ _ 29 rfl _ 5 (.int .u8 0) 1 1 Tryz.underlying29 info_u8 rfl (by decide) _ _ _ rfl hown.own _ 32 _ (b8s id) rfl (by simp [b8s, hid]) ((Rd.new w (b8s id) 24).drew.below hown.bel) (b8s_one' _) (by unfold maxLen; omega) (by omega) hown.sz ?_; intro v2 w2 hown2 hg2 hv2) | (refine step_plain rfl ?_; go_simp; refine (clone_any A bs c _ (hr.alloc _).drew (by omega)).mono ?_; rintro e w1 ⟨v1, rfl, hown⟩; dsimp only))
 go_wp2
 go_ret
 exact ⟨_, rfl, (hown.appended hown2 hid.symm hg2).trans ((Below.refl _ _).alloc (Nat.le_refl _) _).drew (by simp)⟩
theorem four_cells (u : Nat) (hu : u < 4294967296) : [Value.int .u8 ((u : Int) % 256), .int .u8 ((u : Int) / 256 % 256), .int .u8 ((u : Int) / 65536 % 256), .int .u8 ((u : Int) / 16777216)] = b8s (fourB u) := by
 simp only [fourB, b8s, List.map_cons, List.map_nil, List.cons.injEq, Value.int.injEq, true_and, and_true]
 refine ⟨?_, ?_, ?_, ?_⟩ <;> rw [UInt8.toNat_ofNat'] <;> omega
set_option maxHeartbeats 400000 in
theorem four_any (A : Option Addr) (bs : List UInt8) (c u : Nat) (w : World) (hu : u < 4294967296) (hr : Rd w A (b8s bs)) (hm : bs.length + 4 ≤ 140737488355328) :
  Calls Tryz.prog 76 #[.slice A bs.length c, .int .u32 (u : Int)] w fun e w' => ∃ v, e = .returned v ∧ Own8 w.heap.size w w' v (bs ++ fourB u) := by
 obtain ⟨N, hN⟩ : ∃ N, N = w.heap.size := ⟨_, rfl⟩
 have HN := h_ hN
 rw [← hN]
 clear hN
 go_enter Tryz.func76, Tryz.ntmps76
 go_wp2_with fail
 refine (clone_any A bs c w hr (by omega)).mono ?_
 rintro e w1 ⟨v1, rfl, hown⟩
 rw [← HN.out] at hown
 go_wp2_with (at_builtin; go_loud (refine wpList_append_bytes rfl _ _ rfl (fourB u) rfl rfl (by rw [← four_cells u hu]; exact Rd.new _ _ _) (Own8.later hown ((Below.refl _ _).alloc (Nat.le_refl _) _)) (by show _ + 4 ≤ _; omega) ?_); intro v2 w2 hown2 hg2)
 go_ret
 exact ⟨_, rfl, hown2⟩
attribute [local go_sem high] run_max2c run_min2c
theorem ret_u32 {a b : Int} (h : a = b) : Ending.returned (.int .u32 a) = .returned (.int .u32 b) := by rw [h]
set_option maxHeartbeats 400000 in
theorem sum_any (A : Option Addr) (bs : List UInt8) (c : Nat) (w : World) (hr : Rd w A (b8s bs)) (hm : bs.length ≤ maxLen) :
  Calls Tryz.prog 71 #[.slice A bs.length c] w fun e w' => w = w' ∧ e = .returned (.int .u32 ((crc bs).toNat : Int)) := by
 unfold maxLen at hm
 go_enter Tryz.func71, Tryz.ntmps71
 go_wp2
 go_loop [3, 8] (fun t i => ∃ k : Nat, k ≤ bs.length ∧ i = .int .i64 k ∧ t = .int .u32 ((((bs.take k).foldl crcByte 0xffffffff#32)).toNat : Int)) (fun _ i => bs.length - (intOf i).toNat)
 case atStart => exact ⟨0, by omega, rfl, rfl⟩
 case round =>
  obtain ⟨k, hk, rfl, rfl⟩ := hrel
  by_cases hlt : k < bs.length
  ·obtain ⟨b, o, rfl, hc⟩ := hr.byte k hlt
   have hstep := foldl_take crcByte 0xffffffff#32 bs k hlt
   generalize (bs.take k).foldl crcByte 0xffffffff#32 = s at *
   have Hs := h_ hstep
   clear hstep
   go_wp2
   go_loop [3, 16] (fun t i => ∃ j : Nat, j ≤ 8 ∧ i = .int .i64 j ∧ t = .int .u32 (((crcN j (s ^^^ wide bs[k])).toNat : Int))) (fun _ i => 8 - (intOf i).toNat)
   case atStart => exact ⟨0, by omega, rfl, by rw [crc_first]; rfl⟩
   case round =>
    obtain ⟨j, hj, rfl, rfl⟩ := hrel
    by_cases hlt8 : j < 8
    ·go_wp2
     go_round
     case rel => exact ⟨j + 1, by omega, by go_num, by rw [crc_step]; rfl⟩
     case measure => simp [intOf]; omega
    ·go_wp2
     go_round
     case rel =>
      have : j = 8 := by omega
      subst this
      exact ⟨k + 1, by omega, by go_num, by rw [Hs.out]; rfl⟩
     case measure => simp [intOf]; omega
  ·go_wp2
   go_ret
   have : k = bs.length := by omega
   subst this
   refine ⟨rfl, ret_u32 ?_⟩
   rw [List.take_length]
   exact u32_not_bv _
theorem u32_xor_comm (x : BitVec 32) : bits .xor .u32 (x.toNat : Int) 4294967295 = bits .xor .u32 4294967295 (x.toNat : Int) := by
 have h : (4294967295 : Int) = ((4294967295#32).toNat : Int) := rfl
 rw [h, u32_xor_bv, u32_xor_bv, BitVec.xor_comm]
theorem ref_bit1 (s : BitVec 32) : (bits .and .u32 (s.toNat : Int) 1 == 1) = s.getLsbD 0 := by
 have h1 : (1 : Int) = ((1#32).toNat : Int) := rfl
 rw [h1, u32_and_bv]
 rw [Bool.eq_iff_iff]
 rw [beq_iff_eq]
 constructor
 ·intro h
  have h' : s &&& 1#32 = 1#32 := BitVec.eq_of_toNat_eq (by omega)
  have := congrArg (fun x => x.getLsbD 0) h'
  simpa using this
 ·intro h
  have h' : s &&& 1#32 = 1#32 := by
   ext i hi
   by_cases h0 : i = 0
   ·subst h0
    simp [BitVec.getLsbD_eq_getElem] at h
    simp [h]
   ·simp [h0, BitVec.getElem_one]
  rw [h']
theorem ref_bit2 (c : UInt8) (j : Nat) : (bits .and .u8 ((c.toNat : Int) / 2 ^ j) 1 == 1) = c.toNat.testBit j := by
 have h0 : ((c.toNat : Int) / 2 ^ j) = ((c.toNat / 2 ^ j : Nat) : Int) := by simp
 have h1 : (1 : Int) = ((1 : Nat) : Int) := rfl
 have hc := c.toNat_lt
 have hd : c.toNat / 2 ^ j ≤ c.toNat := Nat.div_le_self _ _
 rw [h0, h1, u8_and_nat _ _ (by omega) (by omega), Nat.testBit, Nat.shiftRight_eq_div_pow, Nat.and_one_is_mod, Nat.one_and_eq_mod_two]
 rw [Bool.eq_iff_iff]
 simp
 omega
theorem ref_yes (s : BitVec 32) (c : UInt8) (j : Nat) (h : (!(bits .and .u32 (s.toNat : Int) 1 == 1) == (bits .and .u8 ((c.toNat : Int) / 2 ^ j) 1 == 1)) = true) :
  bits .xor .u32 ((s.toNat : Int) / 2) 3988292384 = ((refBit s (c.toNat.testBit j)).toNat : Int) := by
 rw [ref_bit1, ref_bit2] at h
 have h2 : (3988292384 : Int) = ((crcPoly).toNat : Int) := rfl
 have h3 := u32_shr_bv s 1
 simp only [Int.pow_succ, Int.pow_zero, Int.one_mul] at h3
 rw [h2, h3, u32_xor_bv]
 unfold refBit
 rw [if_pos (by simpa [bne] using h)]
theorem ref_no (s : BitVec 32) (c : UInt8) (j : Nat) (h : (!(bits .and .u32 (s.toNat : Int) 1 == 1) == (bits .and .u8 ((c.toNat : Int) / 2 ^ j) 1 == 1)) = false) :
  (s.toNat : Int) / 2 = ((refBit s (c.toNat.testBit j)).toNat : Int) := by
 rw [ref_bit1, ref_bit2] at h
 have h3 := u32_shr_bv s 1
 simp only [Int.pow_succ, Int.pow_zero, Int.one_mul] at h3
 rw [h3]
 unfold refBit
 rw [if_neg (by simpa [bne] using h), BitVec.xor_zero]
set_option maxHeartbeats 400000 in
theorem rsum_any (A : Option Addr) (bs : List UInt8) (c : Nat) (w : World) (hr : Rd w A (b8s bs)) (hm : bs.length ≤ maxLen) :
  Calls Tryz.prog 92 #[.slice A bs.length c] w fun e w' => w = w' ∧ e = .returned (.int .u32 ((crc bs).toNat : Int)) := by
 unfold maxLen at hm
 go_enter Tryz.func92, Tryz.ntmps92
 go_wp2
 go_loop [3, 4] (fun t i => ∃ k : Nat, k ≤ bs.length ∧ i = .int .i64 k ∧ t = .int .u32 ((((bs.take k).foldl crcByte 0xffffffff#32)).toNat : Int)) (fun _ i => bs.length - (intOf i).toNat)
 case atStart => exact ⟨0, by omega, rfl, rfl⟩
 case round =>
  obtain ⟨k, hk, rfl, rfl⟩ := hrel
  by_cases hlt : k < bs.length
  ·obtain ⟨b, o, rfl, hc⟩ := hr.byte k hlt
   have hstep := foldl_take crcByte 0xffffffff#32 bs k hlt
   generalize (bs.take k).foldl crcByte 0xffffffff#32 = s at *
   have Hs := h_ hstep
   clear hstep
   go_wp2
   go_loop [3, 5] (fun t i => ∃ j : Nat, j ≤ 8 ∧ i = .int .i64 j ∧ t = .int .u32 (((refN bs[k] j s).toNat : Int))) (fun _ i => 8 - (intOf i).toNat)
   case atStart => exact ⟨0, by omega, rfl, rfl⟩
   case round =>
    obtain ⟨j, hj, rfl, rfl⟩ := hrel
    by_cases hlt8 : j < 8
    ·go_wp2
     ·rename_i ht
      go_round
      case rel => exact ⟨j + 1, by omega, by go_num, by rw [ref_yes _ _ _ ht]; rfl⟩
      case measure => simp [intOf]; omega
     ·rename_i ht
      go_round
      case rel => exact ⟨j + 1, by omega, by go_num, by rw [ref_no _ _ _ ht]; rfl⟩
      case measure => simp [intOf]; omega
    ·go_wp2
     go_round
     case rel =>
      have : j = 8 := by omega
      subst this
      exact ⟨k + 1, by omega, by go_num, by rw [Hs.out, crcByte_ref]⟩
     case measure => simp [intOf]; omega
  ·go_wp2
   go_ret
   have : k = bs.length := by omega
   subst this
   refine ⟨rfl, ret_u32 ?_⟩
   rw [List.take_length, u32_xor_comm]
   exact u32_not_bv _
abbrev St := Option (List UInt8)
def numS (most : Int) : Nat → Nat → Nat → List UInt8 → Option (Nat × List UInt8)
 | 0, _, _, _ => none
 | _ + 1, _, _, [] => none
 | f + 1, i, acc, c :: r =>
   if 128 ≤ c.toNat then numS most f (i + 1) (acc + c.toNat % 128 * 128 ^ i) r
   else if 4611686018427387904 < acc + c.toNat % 128 * 128 ^ i ∨ most < ((acc + c.toNat % 128 * 128 ^ i : Nat) : Int) ∨ (c.toNat = 0 ∧ 0 < i) then none
   else some (acc + c.toNat % 128 * 128 ^ i, r)
def getNum (st : St) (most : Int) : Nat × St :=
 match st with
 | none => (0, none)
 | some bs => match numS most 9 0 0 bs with
   | none => (0, none)
   | some (n, r) => (n, some r)
def getN (st : St) (n : Nat) : List UInt8 × St :=
 match st with
 | none => ([], none)
 | some bs => if n ≤ bs.length then (bs.take n, some (bs.drop n)) else ([], none)
def getText (st : St) (most : Int) : List UInt8 × St := getN (getNum st most).2 (getNum st most).1
def padId (l : List UInt8) : List UInt8 := if l = [] then List.replicate 32 0 else l
def getId (st : St) : List UInt8 × St := (padId (getN st 32).1, (getN st 32).2)
def four (l : List UInt8) : Nat := match l with
 | [a, b, c, d] => a.toNat + 256 * b.toNat + 65536 * c.toNat + 16777216 * d.toNat
 | _ => 0
def getFour (st : St) : Nat × St := (four (getN st 4).1, (getN st 4).2)
def RdrM (w : World) (g : Nat) : St → Prop
 | some bs => ∃ A n c, w.heap[g]? = some (.cells #[.slice A n c, .bool false] 168 (0, 0)) ∧ n = bs.length ∧ n ≤ c ∧ c ≤ maxLen ∧ Rd w A (b8s bs)
 | none => w.heap[g]? = some (.cells #[.slice none 0 0, .bool true] 168 (0, 0))
theorem RdrM.lt {w : World} {g : Nat} {st : St} (h : RdrM w g st) : g < w.heap.size := by
 cases st with
 | none => exact (Array.getElem?_eq_some_iff.1 h).1
 | some bs =>
   obtain ⟨A, n, c, hh, _⟩ := h
   exact (Array.getElem?_eq_some_iff.1 hh).1
theorem rd_ne_rdr {w : World} {g : Nat} {a b : Value} {A : Option Addr} {bs : List UInt8} (hh : w.heap[g]? = some (.cells #[a, b] 168 (0, 0))) (ha : ∀ z, a ≠ .int .u8 z) (hb : ∀ z, b ≠ .int .u8 z) (hr : Rd w A (b8s bs)) (hne : bs ≠ []) :
  ∀ ad, A = some ad → ad.block ≠ g := by
 intro ad hA hg
 have hp : 0 < bs.length := List.length_pos_iff.2 hne
 obtain ⟨b', o, hA', hc⟩ := hr.byte 0 hp
 rw [hA'] at hA
 cases hA
 dsimp only at hg
 subst hg
 rw [row_cell hh] at hc
 match o, hc with
 | 0, hc => simp at hc; exact ha _ hc
 | 1, hc => simp at hc; exact hb _ hc
 | o + 2, hc => simp at hc
theorem rd_set_rdr {w w' : World} {g : Nat} {a b : Value} {A : Option Addr} {bs : List UInt8} (hh : w.heap[g]? = some (.cells #[a, b] 168 (0, 0))) (ha : ∀ z, a ≠ .int .u8 z) (hb : ∀ z, b ≠ .int .u8 z) (hr : Rd w A (b8s bs))
  (hg : w.grownBy w' (some g)) : Rd w' A (b8s bs) := by
 by_cases hne : bs = []
 ·subst hne; exact Rd.nil
 ·exact hr.grown hg (fun ad hA e => rd_ne_rdr hh ha hb hr hne ad hA (by simpa using e))
theorem RdrM.below {w w' : World} {g : Nat} {st : St} (h : RdrM w g st) (hb : Below w.heap.size w w') : RdrM w' g st := by
 have hlt := h.lt
 cases st with
 | none => exact (hb.block g hlt).trans h
 | some bs =>
   obtain ⟨A, n, c, hh, h1, h2, h3, h4⟩ := h
   exact ⟨A, n, c, (hb.block g hlt).trans hh, h1, h2, h3, h4.below hb⟩
def RdrB (w : World) (g K : Nat) (bs : List UInt8) : Prop :=
 ∃ A n c, w.heap[g]? = some (.cells #[.slice A n c, .bool false] 168 (0, 0)) ∧ n = bs.length ∧ n ≤ c ∧ c ≤ maxLen ∧ Rd w A (b8s bs) ∧ (bs ≠ [] → ∀ ad, A = some ad → ad.block < K)
theorem RdrB.m {w : World} {g K : Nat} {bs : List UInt8} (h : RdrB w g K bs) : RdrM w g (some bs) := by
 obtain ⟨A, n, c, h1, h2, h3, h4, h5, _⟩ := h
 exact ⟨A, n, c, h1, h2, h3, h4, h5⟩
theorem RdrM.b {w : World} {g : Nat} {bs : List UInt8} (h : RdrM w g (some bs)) : RdrB w g w.heap.size bs := by
 obtain ⟨A, n, c, h1, h2, h3, h4, h5⟩ := h
 refine ⟨A, n, c, h1, h2, h3, h4, h5, fun hne ad hA => ?_⟩
 obtain ⟨b, o, e, hc⟩ := h5.byte 0 (List.length_pos_iff.2 hne)
 rw [e] at hA
 cases hA
 exact World.block_lt_of_cell? w _ hc
set_option maxHeartbeats 400000 in
theorem read_any (A : Option Addr) (bs : List UInt8) (n c : Nat) (w : World) (hn : n = bs.length) (hr : Rd w A (b8s bs)) (hm : bs.length ≤ 140737488355328) :
  Calls Tryz.prog 65 #[.slice A n c] w fun e w' => ∃ g, e = .returned (.pointer (some ⟨g, 0, none⟩)) ∧ w.heap.size ≤ g ∧ Below w.heap.size w w' ∧ RdrM w' g (some bs) := by
 subst hn
 go_enter Tryz.func65, Tryz.ntmps65
 go_wp2_with fail
 refine (clone_any A bs c w hr hm).mono ?_
 rintro e w1 ⟨v1, rfl, hown⟩
 obtain ⟨A1, n1, c1, rfl, hn1, hc1, hc2, hr1, _⟩ := hown.sliceN
 have Hn1 := h_ hn1
 clear hn1
 go_wp2
 go_ret
 refine ⟨_, rfl, hown.sz, hown.bel.alloc hown.sz _, A1, n1, c1, heap_alloc_new _ _, Hn1.out, hc1, hc2, hr1.alloc _⟩
set_option maxHeartbeats 400000 in
theorem fail_any (g : Nat) (st : St) (w : World) (h : RdrM w g st) :
  Calls Tryz.prog 97 #[.pointer (some ⟨g, 0, none⟩)] w fun e w' => e = .returned (.tuple #[]) ∧ RdrM w' g none ∧ w.grownBy w' (some g) := by
 have key : ∀ x y, w.heap[g]? = some (.cells #[x, y] 168 (0, 0)) → Calls Tryz.prog 97 #[.pointer (some ⟨g, 0, none⟩)] w fun e w' => e = .returned (.tuple #[]) ∧ RdrM w' g none ∧ w.grownBy w' (some g) := by
  intro x y hh
  have c0 : w.cell? ⟨g, 0, none⟩ = some x := row_cell hh 0
  have c1 : w.cell? ⟨g, 1, none⟩ = some y := row_cell hh 1
  have f0 := row_free hh 0
  have f1 := row_free hh 1
  have H := h_ hh
  clear hh
  go_enter Tryz.func97, Tryz.ntmps97
  go_wp2
  go_end0
  refine ⟨rfl, ?_, grown_trans1 (grown_set g 0 _) (grown_set g 1 _)⟩
  exact row_set (row_set H.out 0 (.slice none 0 0)) 1 (.bool true)
 cases st with
 | none => exact key _ _ h
 | some bs =>
   obtain ⟨A, n, c, hh, _⟩ := h
   exact key _ _ hh
set_option maxHeartbeats 400000 in
theorem good_any (g : Nat) (st : St) (w : World) (h : RdrM w g st) :
  Calls Tryz.prog 68 #[.pointer (some ⟨g, 0, none⟩)] w fun e w' => w = w' ∧ e = .returned (.bool st.isSome) := by
 cases st with
 | none =>
   have c1 : w.cell? ⟨g, 1, none⟩ = some (.bool true) := row_cell h 1
   clear h
   go_enter Tryz.func68, Tryz.ntmps68
   go_wp2
   go_ret
   exact ⟨rfl, rfl⟩
 | some bs =>
   obtain ⟨A, n, c, hh, _⟩ := h
   have c1 : w.cell? ⟨g, 1, none⟩ = some (.bool false) := row_cell hh 1
   clear hh
   go_enter Tryz.func68, Tryz.ntmps68
   go_wp2
   go_ret
   exact ⟨rfl, rfl⟩
def leftS : St → Nat | some bs => bs.length | none => 0
set_option maxHeartbeats 400000 in
theorem left_any (g : Nat) (st : St) (w : World) (h : RdrM w g st) :
  Calls Tryz.prog 69 #[.pointer (some ⟨g, 0, none⟩)] w fun e w' => w = w' ∧ e = .returned (.int .i64 (leftS st : Int)) := by
 cases st with
 | none =>
   have c1 : w.cell? ⟨g, 0, none⟩ = some (.slice none 0 0) := row_cell h 0
   clear h
   go_enter Tryz.func69, Tryz.ntmps69
   go_wp2
   go_ret
   exact ⟨rfl, rfl⟩
 | some bs =>
   obtain ⟨A, n, c, hh, hn, _⟩ := h
   subst hn
   have c1 : w.cell? ⟨g, 0, none⟩ = some (.slice A bs.length c) := row_cell hh 0
   clear hh
   go_enter Tryz.func69, Tryz.ntmps69
   go_wp2
   go_ret
   exact ⟨rfl, rfl⟩
def doneS : St → Bool | some bs => decide (bs.length = 0) | none => false
set_option maxHeartbeats 400000 in
theorem done_any (g : Nat) (st : St) (w : World) (h : RdrM w g st) :
  Calls Tryz.prog 100 #[.pointer (some ⟨g, 0, none⟩)] w fun e w' => w = w' ∧ e = .returned (.bool (doneS st)) := by
 cases st with
 | none =>
   have c1 : w.cell? ⟨g, 1, none⟩ = some (.bool true) := row_cell h 1
   clear h
   go_enter Tryz.func100, Tryz.ntmps100
   go_wp2
   go_ret
   exact ⟨rfl, rfl⟩
 | some bs =>
   obtain ⟨A, n, c, hh, hn, _⟩ := h
   subst hn
   have c0 : w.cell? ⟨g, 0, none⟩ = some (.slice A bs.length c) := row_cell hh 0
   have c1 : w.cell? ⟨g, 1, none⟩ = some (.bool false) := row_cell hh 1
   clear hh
   go_enter Tryz.func100, Tryz.ntmps100
   go_wp2
   go_ret
   refine ⟨rfl, ret_bool ?_⟩
   simp only [doneS]
   rw [Bool.eq_iff_iff, beq_iff_eq, decide_eq_true_eq]
   omega
set_option maxHeartbeats 1000000 in
theorem take_no (g n : Nat) (st : St) (w : World) (h : RdrM w g st) (hm : n ≤ 9223372036854775807) (hno : ∀ bs, st = some bs → bs.length < n) :
  Calls Tryz.prog 96 #[.pointer (some ⟨g, 0, none⟩), .int .i64 (n : Int)] w fun e w' => e = .returned (.slice none 0 0) ∧ RdrM w' g none ∧ w.grownBy w' (some g) := by
 have hf := fail_any g st w h
 cases st with
 | none =>
   have c1 : w.cell? ⟨g, 1, none⟩ = some (.bool true) := row_cell h 1
   have H := h_ hf
   clear h hf hno
   go_enter Tryz.func96, Tryz.ntmps96
   go_wp2_with fail
   refine H.out.mono ?_
   rintro e w1 ⟨rfl, h1, h2⟩
   go_wp2_with fail
   go_ret
   exact ⟨rfl, h1, h2⟩
 | some bs =>
   have hlt := hno bs rfl
   obtain ⟨A, k, c, hh, hn, _⟩ := h
   subst hn
   have c0 : w.cell? ⟨g, 0, none⟩ = some (.slice A bs.length c) := row_cell hh 0
   have c1 : w.cell? ⟨g, 1, none⟩ = some (.bool false) := row_cell hh 1
   have H := h_ hf
   clear hh hf hno
   go_enter Tryz.func96, Tryz.ntmps96
   go_wp2_with fail
   refine H.out.mono ?_
   rintro e w1 ⟨rfl, h1, h2⟩
   go_wp2_with fail
   go_ret
   exact ⟨rfl, h1, h2⟩
set_option maxHeartbeats 1000000 in
theorem take_yesB (g n K : Nat) (bs : List UInt8) (w : World) (h : RdrB w g K bs) (hle : n ≤ bs.length) :
  Calls Tryz.prog 96 #[.pointer (some ⟨g, 0, none⟩), .int .i64 (n : Int)] w fun e w' => (∃ A c, e = .returned (.slice A n c) ∧ Rd w' A (b8s (bs.take n)) ∧ (0 < n → A.isNone = false)) ∧ RdrB w' g K (bs.drop n) ∧ w.grownBy w' (some g) := by
 obtain ⟨A, k, c, hh, hn, hkc, hcm, hr, hK⟩ := h
 have HK := h_ hK
 clear hK
 subst hn
 have c0 : w.cell? ⟨g, 0, none⟩ = some (.slice A bs.length c) := row_cell hh 0
 have c1 : w.cell? ⟨g, 1, none⟩ = some (.bool false) := row_cell hh 1
 have f0 := row_free hh 0
 have H := h_ hh
 have hcm' := hcm
 unfold maxLen at hcm
 clear hh
 go_enter Tryz.func96, Tryz.ntmps96
 have ha : ∀ z, Value.slice A bs.length c ≠ .int .u8 z := fun z e => by cases e
 have hb : ∀ z, Value.bool false ≠ .int .u8 z := fun z e => by cases e
 have hgr : ∀ u, w.grownBy (w.setCell ⟨g, 0, none⟩ u) (some g) := fun u => grown_set g 0 u
 have htk : Rd w A (b8s (bs.take n)) := by rw [b8s_take]; exact hr.take n
 have hne : 0 < n → A.isNone = false := fun hn => by
  obtain ⟨b, o, e, _⟩ := hr.byte 0 (by omega)
  rw [e]; rfl
 have Ha := h_ ha
 have Hb := h_ hb
 have Hg := h_ hgr
 have Hn := h_ hne
 have Ht := h_ htk
 have Hr := h_ hr
 clear ha hb hgr hne htk hr
 by_cases hcn : c = n
 ·go_wp2
  go_ret
  refine ⟨⟨A, n, rfl, rd_set_rdr H.out Ha.out Hb.out Ht.out (Hg.out _), Hn.out⟩, ?_, Hg.out _⟩
  refine ⟨A, bs.length - n, 0, ?_, by simp, by omega, by unfold maxLen; omega, ?_, ?_⟩
  ·exact row_set H.out 0 _
  ·rw [List.drop_of_length_le (by omega)]; exact Rd.nil
  ·rw [List.drop_of_length_le (by omega)]; exact fun h => absurd rfl h
 ·go_wp2
  go_ret
  refine ⟨⟨A, n, rfl, rd_set_rdr H.out Ha.out Hb.out Ht.out (Hg.out _), Hn.out⟩, ?_, Hg.out _⟩
  refine ⟨A.map (·.add n), bs.length - n, c - n, ?_, by simp, by omega, by unfold maxLen; omega, ?_, ?_⟩
  ·exact row_set H.out 0 _
  rotate_left
  ·intro hne ad hA
   have hb : bs ≠ [] := by rintro rfl; simp at hne
   cases A with
   | none => cases hA
   | some ad0 =>
     simp only [Option.map_some, Option.some.injEq] at hA
     subst hA
     have := HK.out hb ad0 rfl
     unfold Addr.add
     split <;> exact this
  ·have hd := Rd.drop (k := n) (size := 1) (cap := c) Hr.out (by rw [b8s_length]; omega)
   rw [if_neg hcn, Nat.mul_one, ← b8s_drop] at hd
   exact rd_set_rdr H.out Ha.out Hb.out hd (Hg.out _)
theorem take_yes (g n : Nat) (bs : List UInt8) (w : World) (h : RdrM w g (some bs)) (hle : n ≤ bs.length) :
  Calls Tryz.prog 96 #[.pointer (some ⟨g, 0, none⟩), .int .i64 (n : Int)] w fun e w' => (∃ A c, e = .returned (.slice A n c) ∧ Rd w' A (b8s (bs.take n)) ∧ (0 < n → A.isNone = false)) ∧ RdrM w' g (some (bs.drop n)) ∧ w.grownBy w' (some g) :=
 (take_yesB g n _ bs w h.b hle).mono fun _ _ ⟨h1, h2, h3⟩ => ⟨h1, h2.m, h3⟩
def numFrom (most : Int) (i acc : Nat) : St → Nat × St
 | none => (0, none)
 | some r => match numS most (9 - i) i acc r with
   | none => (0, none)
   | some (n, r') => (n, some r')
theorem numFrom_start (most : Int) (st : St) : numFrom most 0 0 st = getNum st most := by
 cases st <;> rfl
theorem numFrom_none (most : Int) (i acc : Nat) (h : i < 9) (st : St) (hs : ∀ bs, st = some bs → bs.length < 1) : numFrom most i acc st = (0, none) := by
 cases st with
 | none => rfl
 | some bs =>
   have : bs = [] := List.eq_nil_of_length_eq_zero (by have := hs bs rfl; omega)
   subst this
   obtain ⟨f, hf⟩ : ∃ f, 9 - i = f + 1 := ⟨8 - i, by omega⟩
   simp [numFrom, hf, numS]
theorem numFrom_end (most : Int) (acc : Nat) (st : St) : numFrom most 9 acc st = (0, none) := by
 cases st <;> simp [numFrom, numS]
theorem numFrom_more (most : Int) (i acc : Nat) (h : i < 9) (c : UInt8) (r : List UInt8) (hc : 128 ≤ c.toNat) : numFrom most i acc (some (c :: r)) = numFrom most (i + 1) (acc + c.toNat % 128 * 128 ^ i) (some r) := by
 obtain ⟨f, hf⟩ : ∃ f, 9 - i = f + 1 := ⟨8 - i, by omega⟩
 have hf' : 9 - (i + 1) = f := by omega
 simp only [numFrom, hf, hf', numS, if_pos hc]
theorem numFrom_bad (most : Int) (i acc : Nat) (h : i < 9) (c : UInt8) (r : List UInt8) (hc : c.toNat < 128)
  (hb : 4611686018427387904 < acc + c.toNat % 128 * 128 ^ i ∨ most < ((acc + c.toNat % 128 * 128 ^ i : Nat) : Int) ∨ (c.toNat = 0 ∧ 0 < i)) : numFrom most i acc (some (c :: r)) = (0, none) := by
 obtain ⟨f, hf⟩ : ∃ f, 9 - i = f + 1 := ⟨8 - i, by omega⟩
 simp only [numFrom, hf, numS, if_neg (show ¬ 128 ≤ c.toNat by omega), if_pos hb]
theorem numFrom_good (most : Int) (i acc : Nat) (h : i < 9) (c : UInt8) (r : List UInt8) (hc : c.toNat < 128)
  (hb : ¬ (4611686018427387904 < acc + c.toNat % 128 * 128 ^ i ∨ most < ((acc + c.toNat % 128 * 128 ^ i : Nat) : Int) ∨ (c.toNat = 0 ∧ 0 < i))) : numFrom most i acc (some (c :: r)) = (acc + c.toNat % 128 * 128 ^ i, some r) := by
 obtain ⟨f, hf⟩ : ∃ f, 9 - i = f + 1 := ⟨8 - i, by omega⟩
 simp only [numFrom, hf, numS, if_neg (show ¬ 128 ≤ c.toNat by omega), if_neg hb]
theorem pow128 (i : Nat) : 128 ^ i = 2 ^ (7 * i) := by
 rw [Nat.pow_mul]
theorem pow128_le (i : Nat) (h : i < 9) : 128 ^ i ≤ 72057594037927936 := by
 have : 128 ^ i ≤ 128 ^ 8 := Nat.pow_le_pow_right (by decide) (by omega)
 simpa using this
theorem acc_lt (i acc : Nat) (c : UInt8) (h : acc < 128 ^ i) : acc + c.toNat % 128 * 128 ^ i < 128 ^ (i + 1) := by
 have h1 : c.toNat % 128 ≤ 127 := by omega
 have h2 : c.toNat % 128 * 128 ^ i ≤ 127 * 128 ^ i := Nat.mul_le_mul_right _ h1
 rw [Nat.pow_succ]
 omega
theorem acc_le (i acc : Nat) (c : UInt8) (hi : i < 9) (h : acc < 128 ^ i) : acc + c.toNat % 128 * 128 ^ i < 9223372036854775808 := by
 have h1 := acc_lt i acc c h
 have h2 : 128 ^ (i + 1) ≤ 128 ^ 9 := Nat.pow_le_pow_right (by decide) (by omega)
 have h3 : (128 : Nat) ^ 9 = 9223372036854775808 := by decide
 omega
theorem and127 (c : UInt8) : bits .and .u8 (c.toNat : Int) 127 = ((c.toNat % 128 : Nat) : Int) := by
 have h : (127 : Int) = ((127 : Nat) : Int) := rfl
 rw [h, u8_and_nat _ _ c.toNat_lt (by omega), nat_mask7]
theorem shl_group (m i : Nat) (hm : m ≤ 127) (hi : i < 9) : IntKind.u64.wrap ((m : Int) * 2 ^ (7 * i)) = ((m * 128 ^ i : Nat) : Int) := by
 have h1 := pow128_le i hi
 have h2 : m * 128 ^ i ≤ 127 * 72057594037927936 := Nat.mul_le_mul hm h1
 have e : ((m : Int) * 2 ^ (7 * i)) = ((m * 128 ^ i : Nat) : Int) := by
  rw [pow128]
  simp
 rw [e]
 exact IntWalk.u64_in _ (by omega)
theorem or_group (acc m i : Nat) (ha : acc < 128 ^ i) (hm : m ≤ 127) (hi : i < 9) : bits .or .u64 (acc : Int) ((m * 128 ^ i : Nat) : Int) = ((acc + m * 128 ^ i : Nat) : Int) := by
 have h1 := pow128_le i hi
 have h2 : m * 128 ^ i ≤ 127 * 72057594037927936 := Nat.mul_le_mul hm h1
 rw [u64_or_nat _ _ (by omega) (by omega)]
 congr 1
 rw [Nat.or_comm, nat_join (7 * i) (m * 128 ^ i) acc (by rw [pow128]; exact Nat.mul_mod_left _ _) (by rw [← pow128]; exact ha), Nat.add_comm]
set_option maxRecDepth 100000 in
set_option maxHeartbeats 1000000 in
theorem rdnum_any (g : Nat) (st : St) (most : Int) (w : World) (h : RdrM w g st) :
  Calls Tryz.prog 66 #[.pointer (some ⟨g, 0, none⟩), .int .i64 most] w fun e w' => e = .returned (.int .i64 ((getNum st most).1 : Int)) ∧ RdrM w' g (getNum st most).2 ∧ w.grownBy w' (some g) := by
 have hst := numFrom_start most st
 generalize getNum st most = R at *
 have Hst := h_ hst
 clear hst
 go_enter Tryz.func66, Tryz.ntmps66
 go_wp2_with fail
 go_loopw [5, 6] (fun u s wr => ∃ (i acc : Nat) (st' : St), i ≤ 9 ∧ u = .int .u64 (acc : Int) ∧ s = .int .i64 ((7 * i : Nat) : Int) ∧ Hid (acc < 128 ^ i) ∧ acc < 9223372036854775808 ∧ RdrM wr g st' ∧ w.grownBy wr (some g) ∧ Hid (numFrom most i acc st' = R)) (fun _ s _ => 63 - (intOf s).toNat)
 case atStart => exact ⟨0, 0, st, by omega, rfl, rfl, by show 0 < 128 ^ 0; decide, by omega, h, World.grownBy.refl _ _, Hst.out⟩
 case round =>
  clear h Hst
  obtain ⟨i, acc, st', hi, rfl, rfl, hacc, hacc2, hm, hg, hR⟩ := hrel
  by_cases hlt : i < 9
  ·by_cases hno : ∀ bs, st' = some bs → bs.length < 1
   ·have hN := numFrom_none most i acc hlt st' hno
    have ht := take_no g 1 st' wr hm (by omega) hno
    have Ht := h_ ht
    have HN := h_ hN
    clear ht hN hno
    have hnil := fun (w : World) (A : Option Addr) (n c : Nat) => Lib.run_eql_slice_nil (P := Tryz.prog) w 29 5 A n c 0 0 Tryz.underlying29
    go_wp2_with fail
    refine Ht.out.mono ?_
    rintro e w1 ⟨rfl, h1, h2⟩
    go_wp2_with fail
    go_ret
    have : R = (0, none) := by rw [← hR.out, HN.out]
    subst this
    exact ⟨rfl, h1, grown_trans1 hg h2⟩
   ·obtain ⟨c, r, rfl⟩ : ∃ c r, st' = some (c :: r) := by
     cases st' with
     | none => exact absurd (fun bs h => by cases h) hno
     | some bs =>
       cases bs with
       | nil => exact absurd (fun bs h => by cases h; simp) hno
       | cons c r => exact ⟨c, r, rfl⟩
    have ht := take_yes g 1 (c :: r) wr hm (by simp)
    have Ht := h_ ht
    clear ht hno hm
    have hnil := fun (w : World) (A : Option Addr) (n c : Nat) => Lib.run_eql_slice_nil (P := Tryz.prog) w 29 5 A n c 0 0 Tryz.underlying29
    go_wp2_with fail
    refine Ht.out.mono ?_
    rintro e w1 ⟨⟨A1, c1, rfl, hr1, hn1⟩, h1, h2⟩
    have hA := hn1 (by omega)
    obtain ⟨b, o, rfl, hc⟩ := hr1.byte 0 (by simp)
    have hg2 := grown_trans1 hg h2
    clear hn1 hr1 h2 hg Ht
    simp only [List.take_succ_cons, List.take_zero, List.getElem_cons_zero, Nat.add_zero] at hc
    have e1 := and127 c
    have hm7 : c.toNat % 128 ≤ 127 := by omega
    have e2 := shl_group (c.toNat % 128) i hm7 hlt
    have e3 := or_group acc (c.toNat % 128) i hacc.out hm7 hlt
    have hV1 := acc_le i acc c hlt hacc.out
    have hV2 := acc_lt i acc c hacc.out
    have hmore := numFrom_more most i acc hlt c r
    have hbad := numFrom_bad most i acc hlt c r
    have hgood := numFrom_good most i acc hlt c r
    generalize acc + c.toNat % 128 * 128 ^ i = V at *
    generalize c.toNat % 128 * 128 ^ i = M at *
    generalize c.toNat % 128 = m at *
    have HV2 := h_ hV2
    clear hV2
    by_cases hc1 : 128 ≤ c.toNat
    ·have HM := h_ (hmore hc1)
     clear hmore hbad hgood
     go_wp2_with fail
     go_roundw
     case rel => exact ⟨i + 1, V, some r, by omega, rfl, by first | rfl | (congr 1; omega), HV2.out, hV1, h1, hg2, by show _ = _; rw [← HM.out]; exact hR.out⟩
     case measure => simp [intOf]; omega
    have hc2 : c.toNat < 128 := by omega
    by_cases hb1 : 4611686018427387904 < V
    ·have HB := h_ (hbad hc2 (.inl hb1))
     clear hmore hbad hgood
     go_wp2_with fail
     refine (fail_any g _ _ h1).mono ?_
     rintro e w2 ⟨rfl, h3, h4⟩
     go_wp2_with fail
     go_ret
     have : R = (0, none) := by rw [← hR.out, HB.out]
     subst this
     exact ⟨rfl, h3, grown_trans1 hg2 h4⟩
    by_cases hb2 : most < (V : Int)
    ·have HB := h_ (hbad hc2 (.inr (.inl hb2)))
     clear hmore hbad hgood
     go_wp2_with fail
     refine (fail_any g _ _ h1).mono ?_
     rintro e w2 ⟨rfl, h3, h4⟩
     go_wp2_with fail
     go_ret
     have : R = (0, none) := by rw [← hR.out, HB.out]
     subst this
     exact ⟨rfl, h3, grown_trans1 hg2 h4⟩
    by_cases hb3 : c.toNat = 0
    ·have hz : ((c.toNat : Int) == 0) = true := by rw [beq_iff_eq]; omega
     by_cases hi0 : 0 < i
     ·have HB := h_ (hbad hc2 (.inr (.inr ⟨hb3, hi0⟩)))
      clear hmore hbad hgood hb3
      go_wp2_with fail
      refine (fail_any g _ _ h1).mono ?_
      rintro e w2 ⟨rfl, h3, h4⟩
      go_wp2_with fail
      go_ret
      have : R = (0, none) := by rw [← hR.out, HB.out]
      subst this
      exact ⟨rfl, h3, grown_trans1 hg2 h4⟩
     ·have HG := h_ (hgood hc2 (by omega))
      clear hmore hbad hgood hb3
      go_wp2_with fail
      go_ret
      have : R = (V, some r) := by rw [← hR.out, HG.out]
      subst this
      exact ⟨rfl, h1, hg2⟩
    ·have hz : ((c.toNat : Int) == 0) = false := by rw [beq_eq_false_iff_ne]; omega
     have HG := h_ (hgood hc2 (by omega))
     clear hmore hbad hgood hb3
     go_wp2_with fail
     go_ret
     have : R = (V, some r) := by rw [← hR.out, HG.out]
     subst this
     exact ⟨rfl, h1, hg2⟩
  ·have : i = 9 := by omega
   subst this
   have HE := h_ (numFrom_end most acc st')
   go_wp2_with fail
   refine (fail_any g _ _ hm).mono ?_
   rintro e w2 ⟨rfl, h3, h4⟩
   go_wp2_with fail
   go_ret
   have : R = (0, none) := by rw [← hR.out, HE.out]
   subst this
   exact ⟨rfl, h3, grown_trans1 hg h4⟩
theorem numS_le (most : Int) : ∀ (f i acc : Nat) (bs : List UInt8) (n : Nat) (r : List UInt8), numS most f i acc bs = some (n, r) → n ≤ 4611686018427387904 ∧ (n : Int) ≤ most ∧ r.length < bs.length
 | 0, _, _, _, _, _, h => by simp [numS] at h
 | _ + 1, _, _, [], _, _, h => by simp [numS] at h
 | f + 1, i, acc, c :: bs, n, r, h => by
   unfold numS at h
   split at h
   ·have := numS_le most f _ _ bs n r h
    simp only [List.length_cons]
    omega
   ·split at h
    ·cases h
    ·rename_i h1
     cases h
     simp only [List.length_cons]
     omega
theorem getNum_le (st : St) (most : Int) : (getNum st most).1 ≤ 4611686018427387904 := by
 unfold getNum
 split
 ·simp
 ·split
  ·simp
  ·rename_i h
   exact (numS_le most _ _ _ _ _ _ h).1
theorem getN_yes {bs : List UInt8} {n : Nat} (h : n ≤ bs.length) : getN (some bs) n = (bs.take n, some (bs.drop n)) := by simp [getN, h]
theorem getN_no {st : St} {n : Nat} (h : ∀ bs, st = some bs → bs.length < n) : getN st n = ([], none) := by
 cases st with
 | none => rfl
 | some bs => have := h bs rfl; simp [getN]; omega
theorem st_cases (st : St) (n : Nat) : (∃ bs, st = some bs ∧ n ≤ bs.length) ∨ (∀ bs, st = some bs → bs.length < n) := by
 cases st with
 | none => exact .inr fun bs h => by cases h
 | some bs =>
   by_cases h : n ≤ bs.length
   ·exact .inl ⟨bs, rfl, h⟩
   ·exact .inr fun b h' => by cases h'; omega
theorem or4 (a b c d : UInt8) : bits .or .u32 (bits .or .u32 (bits .or .u32 ((a.toNat : Int) % 4294967296) ((b.toNat : Int) % 4294967296 * 256 % 4294967296)) ((c.toNat : Int) % 4294967296 * 65536 % 4294967296)) ((d.toNat : Int) % 4294967296 * 16777216 % 4294967296) = ((four [a, b, c, d] : Nat) : Int) := by
 have ha := a.toNat_lt
 have hb := b.toNat_lt
 have hc := c.toNat_lt
 have hd := d.toNat_lt
 have e0 : ((a.toNat : Int) % 4294967296) = (a.toNat : Int) := by omega
 have e1 : ((b.toNat : Int) % 4294967296 * 256 % 4294967296) = ((b.toNat * 256 : Nat) : Int) := by omega
 have e2 : ((c.toNat : Int) % 4294967296 * 65536 % 4294967296) = ((c.toNat * 65536 : Nat) : Int) := by omega
 have e3 : ((d.toNat : Int) % 4294967296 * 16777216 % 4294967296) = ((d.toNat * 16777216 : Nat) : Int) := by omega
 rw [e0, e1, u32_or_nat _ _ (by omega) (by omega), Nat.or_comm, nat_join 8 _ _ (by omega) (by omega)]
 rw [e2, u32_or_nat _ _ (by omega) (by omega), Nat.or_comm, nat_join 16 _ _ (by omega) (by omega)]
 rw [e3, u32_or_nat _ _ (by omega) (by omega), Nat.or_comm, nat_join 24 _ _ (by omega) (by omega)]
 simp only [four]
 congr 1
 omega
set_option maxHeartbeats 1000000 in
theorem rdfour_any (g : Nat) (st : St) (w : World) (h : RdrM w g st) :
  Calls Tryz.prog 67 #[.pointer (some ⟨g, 0, none⟩)] w fun e w' => e = .returned (.int .u32 ((getFour st).1 : Int)) ∧ RdrM w' g (getFour st).2 ∧ w.grownBy w' (some g) := by
 have hcases := st_cases st 4
 have hT : getFour st = (four (getN st 4).1, (getN st 4).2) := rfl
 generalize getFour st = T at *
 have hnil := fun (w : World) (A : Option Addr) (n c : Nat) => Lib.run_eql_slice_nil (P := Tryz.prog) w 29 5 A n c 0 0 Tryz.underlying29
 rcases hcases with ⟨bs, rfl, hlen⟩ | hno
 ·rw [getN_yes hlen] at hT
  obtain ⟨x0, x1, x2, x3, rest, rfl⟩ : ∃ x0 x1 x2 x3 rest, bs = x0 :: x1 :: x2 :: x3 :: rest := by
   match bs, hlen with
   | x0 :: x1 :: x2 :: x3 :: rest, _ => exact ⟨_, _, _, _, _, rfl⟩
  have HT := h_ hT
  clear hT
  go_enter Tryz.func67, Tryz.ntmps67
  go_wp2_with fail
  refine (take_yes g 4 _ w h hlen).mono ?_
  rintro e w2 ⟨⟨A2, c2, rfl, hr2, hne⟩, h2, hg2⟩
  obtain ⟨b, o, rfl, hc0⟩ := hr2.byte 0 (by simp)
  obtain ⟨b', o', he, hc1⟩ := hr2.byte 1 (by simp)
  cases he
  obtain ⟨b', o', he, hc2⟩ := hr2.byte 2 (by simp)
  cases he
  obtain ⟨b', o', he, hc3⟩ := hr2.byte 3 (by simp)
  cases he
  simp only [List.take_succ_cons, List.take_zero, List.getElem_cons_zero, List.getElem_cons_succ, Nat.add_zero] at hc0 hc1 hc2 hc3
  clear hr2 hne hlen
  go_wp2_with fail
  go_quiet (fail)
  go_wp2_with fail
  go_ret
  have := HT.out
  subst this
  refine ⟨congrArg (fun z => Ending.returned (.int .u32 z)) (or4 x0 x1 x2 x3), h2, ?_⟩
  exact ⟨hg2.os, hg2.tape, hg2.output, hg2.size, hg2.block⟩
 ·rw [getN_no hno] at hT
  have HT := h_ hT
  have ht := take_no g 4 st w h (by omega) hno
  have Ht := h_ ht
  clear hT hno ht
  go_enter Tryz.func67, Tryz.ntmps67
  go_wp2_with fail
  refine Ht.out.mono ?_
  rintro e w2 ⟨rfl, h2, hg2⟩
  go_wp2_with fail
  go_ret
  have := HT.out
  subst this
  exact ⟨rfl, h2, hg2⟩
theorem run_copy_whole {P : Program} {w : World} {dT sT ty elem : TypeId} {g n c sc : Nat} {A : Option Addr} {old : Array Value} {t : TypeId} {bs : List UInt8} (hu : P.underlying dT = some (.slice elem)) (hs : (P.info? elem).map (·.size) = some 1)
  (hg : w.heap[g]? = some (.cells old t (0, 0))) (hn : bs.length = n) (ho : old.size = n) (hr : Rd w A (b8s bs)) (hp : 0 < n) :
  (Builtin.copy_ #[dT, sT] ty #[.slice (some ⟨g, 0, none⟩) n c, .slice A n sc]).run P w = .ok (goInt n) (w.setRow g (b8s bs).toArray) := by
 obtain ⟨b, o, rfl, hc⟩ := hr.all (by rw [b8s_length]; omega)
 have h := run_copy_row (P := P) w dT sT ty elem g 0 n c ⟨b, o, none⟩ n sc old t (b8s bs) hu hs hg (by rw [b8s_length, hn]; simp) (fun j v hv => by rw [Addr.add_lit]; exact hc j v hv) (by rw [b8s_length]; omega) (b8s_one' bs)
 rw [h, b8s_length, hn]
 congr 2
 have e : old.toList.drop (0 + n) = [] := List.drop_of_length_le (by rw [Array.length_toList]; omega)
 rw [e]
 simp
theorem RdrB.far {w w' : World} {g K B : Nat} {bs : List UInt8} (h : RdrB w g K bs) (hne : g ≠ B) (hK : K ≤ B) (hg : w.grownBy w' (some B)) : RdrB w' g K bs := by
 have hlt := h.m.lt
 obtain ⟨A, n, c, hh, h1, h2, h3, h4, h5⟩ := h
 refine ⟨A, n, c, (hg.block g hlt (by simpa using hne)).trans hh, h1, h2, h3, ?_, h5⟩
 by_cases hb : bs = []
 ·subst hb; exact Rd.nil
 ·exact h4.grown hg (fun ad hA e => by have := h5 hb ad hA; have : ad.block = B := by simpa using e
                                       omega)
theorem RdrM.far_none {w w' : World} {g B : Nat} (h : RdrM w g none) (hne : g ≠ B) (hg : w.grownBy w' (some B)) : RdrM w' g none :=
 (hg.block g h.lt (by simpa using hne)).trans h
theorem RdrB.below {w w' : World} {g K : Nat} {bs : List UInt8} (h : RdrB w g K bs) (hb : Below w.heap.size w w') : RdrB w' g K bs := by
 have hlt := h.m.lt
 obtain ⟨A, n, c, hh, h1, h2, h3, h4, h5⟩ := h
 exact ⟨A, n, c, (hb.block g hlt).trans hh, h1, h2, h3, h4.below hb, h5⟩
theorem getId_len (st : St) : (getId st).1.length = 32 := by
 rcases st_cases st 32 with ⟨bs, rfl, h⟩ | h
 ·simp only [getId, getN_yes h, padId]
  split
  ·simp
  ·rw [List.length_take]; omega
 ·simp [getId, getN_no h, padId]
theorem info_id : (Tryz.prog.info? 24).map (·.size) = some 32 := by kernel_rfl
theorem info_u8s : (Tryz.prog.info? 5).map (·.size) = some 1 := by kernel_rfl
end Go.Proofs.YtelbofikcpchiaaGreat
