/- EncTurns: with bits turned within a run of 32 bytes have another sum: the walk. -/
import Derived.Test.YtgmhdkkhiclilaaEncSums
import Derived.Test.YtgmhdkkhiclilaaCrcBurst
import Derived.Test.YtgmhdkkhiclilaaRef01
namespace Go.Proofs.Ytgmhdkkhiclilaa
open Go.RowKit

theorem i64_and_mask (x : Int) (m : Nat) (hm : m < 9223372036854775808) : ∃ n : Nat, n ≤ m ∧ bits .and .i64 x (m : Int) = (n : Int) := by
  refine ⟨(BitVec.ofInt 64 x &&& BitVec.ofInt 64 (m : Int)).toNat, ?_, ?_⟩
  · rw [BitVec.toNat_and]
    refine Nat.le_trans Nat.and_le_right ?_
    rw [BitVec.ofInt_natCast, BitVec.toNat_ofNat]
    exact Nat.mod_le _ _
  · show IntKind.i64.wrap ((BitVec.ofInt 64 x &&& BitVec.ofInt 64 (m : Int)).toNat : Int) = _
    have h1 : (BitVec.ofInt 64 x &&& BitVec.ofInt 64 (m : Int)).toNat ≤ m := by
      rw [BitVec.toNat_and]
      refine Nat.le_trans Nat.and_le_right ?_
      rw [BitVec.ofInt_natCast, BitVec.toNat_ofNat]
      exact Nat.mod_le _ _
    exact IntWalk.i64_in _ (by omega)

/-- a byte with bit r turned -/
def flipB (c : UInt8) (r : Nat) : UInt8 := UInt8.ofNat (c.toNat ^^^ 2 ^ r)
theorem flip_lt (c : UInt8) (r : Nat) (hr : r < 8) : c.toNat ^^^ 2 ^ r < 256 := by
  have h : 2 ^ r < 2 ^ 8 := Nat.pow_lt_pow_right (by decide) hr
  exact Nat.xor_lt_two_pow (n := 8) c.toNat_lt h
theorem flip_toNat (c : UInt8) (r : Nat) (hr : r < 8) : (flipB c r).toNat = c.toNat ^^^ 2 ^ r := by
  unfold flipB
  rw [UInt8.toNat_ofNat']
  exact Nat.mod_eq_of_lt (flip_lt c r hr)
theorem flip_val (c : UInt8) (r : Nat) (hr : r < 8) : bits .xor .u8 (c.toNat : Int) ((2 : Int) ^ r % 256) = ((flipB c r).toNat : Int) := by
  have h : 2 ^ r < 2 ^ 8 := Nat.pow_lt_pow_right (by decide) hr
  have e : ((2 : Int) ^ r % 256) = ((2 ^ r : Nat) : Int) := by
    rw [Int.emod_eq_of_lt]
    · simp
    · exact Int.le_of_lt (Int.pow_pos (by decide))
    · have : ((2 ^ r : Nat) : Int) < 256 := by omega
      simpa using this
  rw [e, u8_xor_nat _ _ c.toNat_lt (by omega), flip_toNat c r hr]
theorem flip_bit (c : UInt8) (r : Nat) (hr : r < 8) (j : Nat) (hj : j ≠ r) : (flipB c r).toNat.testBit j = c.toNat.testBit j := by
  rw [flip_toNat c r hr, Nat.testBit_xor, Nat.testBit_two_pow]
  simp [Ne.symm hj]

/-- what one turn of a bit does to the loop's relation -/
theorem turns_step {w wr : World} {N g c1 f k n : Nat} {ms bs : List UInt8} (hk : k < 32) (hl : ms.length = n) (hj : (f + k) / 8 < ms.length)
    (hown : wr.ownsRow N 5 1 (.slice (some ⟨g, 0, none⟩) n c1) n (b8s ms)) (hbel : Below N w wr) (hsz : N ≤ wr.heap.size) (hg : N ≤ g)
    (hout : ∀ i, i < f ∨ f + 32 ≤ i → (bitsOf ms)[i]? = (bitsOf bs)[i]?) :
    ∃ ms' : List UInt8, ms'.length = n ∧
      ((wr.setCell ⟨g, (f + k) / 8, none⟩ (.int .u8 (bits .xor .u8 (ms[(f + k) / 8].toNat : Int) ((2 : Int) ^ ((f + k) % 8) % 256)))).drew).ownsRow N 5 1 (.slice (some ⟨g, 0, none⟩) n c1) n (b8s ms') ∧
      Below N w (wr.setCell ⟨g, (f + k) / 8, none⟩ (.int .u8 (bits .xor .u8 (ms[(f + k) / 8].toNat : Int) ((2 : Int) ^ ((f + k) % 8) % 256)))).drew ∧
      N ≤ (wr.setCell ⟨g, (f + k) / 8, none⟩ (.int .u8 (bits .xor .u8 (ms[(f + k) / 8].toNat : Int) ((2 : Int) ^ ((f + k) % 8) % 256)))).drew.heap.size ∧
      (∀ i, i < f ∨ f + 32 ≤ i → (bitsOf ms')[i]? = (bitsOf bs)[i]?) := by
  have h8 : (f + k) % 8 < 8 := by omega
  refine ⟨ms.set ((f + k) / 8) (flipB ms[(f + k) / 8] ((f + k) % 8)), by simp [hl], ?_, (hbel.setCell hg _).drew, by simpa [World.setCell] using hsz, ?_⟩
  · rw [flip_val _ _ h8]
    have := (hown.stored ((f + k) / 8) (.int .u8 ((flipB ms[(f + k) / 8] ((f + k) % 8)).toNat : Int))).1.drew
    have e : b8s (ms.set ((f + k) / 8) (flipB ms[(f + k) / 8] ((f + k) % 8))) = (b8s ms).set ((f + k) / 8) (.int .u8 ((flipB ms[(f + k) / 8] ((f + k) % 8)).toNat : Int)) := by
      simp [b8s, List.map_set]
    rw [e]
    exact this
  · intro i hi
    rw [bitsOf_set ms (f + k) hj _ (fun j _ hne => flip_bit _ _ h8 j hne) i (by omega)]
    exact hout i hi

set_option maxHeartbeats 1000000 in
theorem encTurns_any (A : Option Addr) (bs : List UInt8) (c : Nat) (at_ low mask : Int) (w : World) (hr : Rd w A (b8s bs)) (hm : bs.length ≤ maxLen) :
    Calls Try.prog 4 #[.slice A bs.length c, .int .i64 at_, .int .i64 low, .int .u32 mask] w fun e w' => e = .returned (.bool true) ∧ Below w.heap.size w w' := by
  unfold maxLen at hm
  by_cases h0 : bs.length = 0
  · have hz : ((bs.length : Int) == 0) = true := by rw [beq_iff_eq]; omega
    clear h0
    go_enter Try.func4, Try.ntmps4
    go_wp2_with fail
    refine (summing_any w).mono ?_
    rintro e w1 ⟨rfl, hb⟩
    go_wp2_with fail
    go_ret
    exact ⟨rfl, hb⟩
  by_cases h1 : 1000 < bs.length
  · have hz : ((bs.length : Int) == 0) = false := by rw [beq_eq_false_iff_ne]; omega
    have hz1 : (1000 : Int) < bs.length := by omega
    clear h0
    go_enter Try.func4, Try.ntmps4
    go_wp2_with fail
    refine (summing_any w).mono ?_
    rintro e w1 ⟨rfl, hb⟩
    go_wp2_with fail
    go_ret
    exact ⟨rfl, hb⟩
  obtain ⟨x1, hx1, ex1⟩ : ∃ n : Nat, n ≤ 1048575 ∧ bits .and .i64 at_ 1048575 = (n : Int) := i64_and_mask at_ 1048575 (by omega)
  obtain ⟨x2, hx2, ex2⟩ : ∃ n : Nat, n ≤ 7 ∧ bits .and .i64 low 7 = (n : Int) := i64_and_mask low 7 (by omega)
  have hz0 : ((bs.length : Int) == 0) = false := by rw [beq_eq_false_iff_ne]; omega
  have hd0 : x1 % bs.length < bs.length := Nat.mod_lt _ (by omega)
  have hd1 : (x1 : Int) % bs.length < bs.length := by omega
  have hd2 : 0 ≤ (x1 : Int) % bs.length := by omega
  obtain ⟨N, hN⟩ : ∃ N, N = w.heap.size := ⟨_, rfl⟩
  have HN := Lib.hid hN
  rw [← hN]
  clear hN
  go_enter Try.func4, Try.ntmps4
  go_wp2_with fail
  refine (summing_any w).mono ?_
  rintro e w1 ⟨rfl, hb⟩
  have hr1 := hr.below hb
  have hst := Own8.startN w w1 N (HN.out ▸ hb) (HN.out ▸ hb.size)
  have hr1' := hr1.alloc (.cells #[] 5)
  go_wp2_with (at_builtin; refine wpList_append_bytes rfl _ _ rfl bs rfl rfl hr1' hst (by simp; omega) ?_; intro v1 w2 hown hg)
  obtain ⟨f, hf, ef⟩ : ∃ f : Nat, f ≤ 8007 ∧ (8 * ((x1 : Int) % bs.length) + x2) = f := ⟨(8 * ((x1 : Int) % bs.length) + x2).toNat, by omega, by omega⟩
  rw [ef]
  clear ef hd0 hd1 hd2 ex1 ex2 hst hr1'
  have hlb : 0 < bs.length := by omega
  obtain ⟨g, c1, rfl, hc1, hc2, hg1, hg2⟩ := own_head hown.own (by simpa using hlb)
  unfold maxLen at hc2
  simp only [List.nil_append] at hown hc1 ⊢
  have hrw : Rd w A (b8s bs) := hr
  clear hr1 hg hb
  go_loopw [11] (fun i wr => ∃ (k : Nat) (ms : List UInt8), k ≤ 32 ∧ i = .int .i64 k ∧ ms.length = bs.length ∧ wr.ownsRow N 5 1 (.slice (some ⟨g, 0, none⟩) bs.length c1) bs.length (b8s ms) ∧ Below N w wr ∧ N ≤ wr.heap.size ∧ (∀ i, i < f ∨ f + 32 ≤ i → (bitsOf ms)[i]? = (bitsOf bs)[i]?)) (fun i _ => 32 - (intOf i).toNat)
  case atStart => exact ⟨0, bs, by omega, rfl, rfl, hown.own, hown.bel, hown.sz, fun _ _ => rfl⟩
  case round =>
    clear hown
    obtain ⟨k, ms, hk, rfl, hl, hown, hbel, hsz, hout⟩ := hrel
    have Hl := Lib.hid hl
    have Hout := Lib.hid hout
    clear hl hout
    by_cases hlt : k < 32
    · by_cases hi : f + k < 8 * bs.length
      · have hj : (f + k) / 8 < ms.length := by have := Hl.out; omega
        have hc := hown.cellAt ((f + k) / 8) (by omega)
        rw [b8s_get ms _ hj] at hc
        have hfz := hown.frozenAt ((f + k) / 8)
        have hj2 : (f + k) / 8 < bs.length := by omega
        go_wp2
        · go_region
          go_wp2
          go_roundw
          case rel =>
            obtain ⟨ms', h1', h2', h3', h4', h5'⟩ := turns_step (bs := bs) (w := w) hlt Hl.out hj hown hbel hsz hg1 Hout.out
            exact ⟨k + 1, ms', by omega, by go_num, h1', h2', h3', h4', h5'⟩
          case measure => simp [intOf]; omega
        · go_roundw
          case rel => exact ⟨k + 1, ms, by omega, by go_num, Hl.out, hown, hbel, hsz, Hout.out⟩
          case measure => simp [intOf]; omega
      · go_wp2
        all_goals
          go_roundw
          case rel => exact ⟨k + 1, ms, by omega, by go_num, Hl.out, hown, hbel, hsz, Hout.out⟩
          case measure => simp [intOf]; omega
    · have hrd : Rd wr (some ⟨g, 0, none⟩) (b8s ms) := own_rd hown
      have hrb : Rd wr A (b8s bs) := by
        have := HN.out
        subst this
        exact hrw.below hbel
      have hs1 := sum_any (some ⟨g, 0, none⟩) ms c1 wr hrd (by rw [Hl.out]; unfold maxLen; omega)
      have hs2 := sum_any A bs c wr hrb hm
      have hs3 := same_any (some ⟨g, 0, none⟩) A ms bs c1 c wr hrd hrb (by rw [Hl.out]; unfold maxLen; omega) hm
      rw [Hl.out] at hs1 hs3
      have H1 := Lib.hid hs1
      have H2 := Lib.hid hs2
      have H3 := Lib.hid hs3
      clear hs1 hs2 hs3 hrd hrb hrw hr
      go_wp2_with fail
      refine H1.out.mono ?_
      rintro e w' ⟨rfl, rfl⟩
      go_wp2_with fail
      refine H2.out.mono ?_
      rintro e w' ⟨rfl, rfl⟩
      go_wp2_with fail
      refine H3.out.mono ?_
      rintro e w' ⟨rfl, n, rfl⟩
      go_wp2_with fail
      go_ret
      refine ⟨ret_bool ?_, below_drewN hbel n⟩
      have hcw := crc_window f Hl.out Hout.out
      rw [beq_iff_eq, Bool.eq_iff_iff, beq_iff_eq, decide_eq_true_eq, ← hcw]
      constructor
      · intro h; exact BitVec.eq_of_toNat_eq (by omega)
      · intro h; rw [h]
end Go.Proofs.Ytgmhdkkhiclilaa
