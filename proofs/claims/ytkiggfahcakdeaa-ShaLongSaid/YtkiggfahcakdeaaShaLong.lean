/- ShaLong: the walk. -/
import Derived.Test.YtkiggfahcakdeaaShaRefD
import Derived.Test.YtkiggfahcakdeaaShaAlive
namespace Go.Proofs.Ytkiggfahcakdeaa
set_option linter.unusedVariables false
set_option linter.unusedSimpArgs false
open Go.RowKit

def txt56 : List UInt8 := [97, 98, 99, 100, 98, 99, 100, 101, 99, 100, 101, 102, 100, 101, 102, 103, 101, 102, 103, 104, 102, 103, 104, 105, 103, 104, 105, 106, 104, 105, 106, 107, 105, 106, 107, 108, 106, 107, 108, 109, 107, 108, 109, 110, 108, 109, 110, 111, 109, 110, 111, 112, 110, 111, 112, 113]
def strE : ByteArray := ⟨#[101, 51, 98, 48, 99, 52, 52, 50, 57, 56, 102, 99, 49, 99, 49, 52, 57, 97, 102, 98, 102, 52, 99, 56, 57, 57, 54, 102, 98, 57, 50, 52, 50, 55, 97, 101, 52, 49, 101, 52, 54, 52, 57, 98, 57, 51, 52, 99, 97, 52, 57, 53, 57, 57, 49, 98, 55, 56, 53, 50, 98, 56, 53, 53]⟩
def strL : ByteArray := ⟨#[50, 52, 56, 100, 54, 97, 54, 49, 100, 50, 48, 54, 51, 56, 98, 56, 101, 53, 99, 48, 50, 54, 57, 51, 48, 99, 51, 101, 54, 48, 51, 57, 97, 51, 51, 99, 101, 52, 53, 57, 54, 52, 102, 102, 50, 49, 54, 55, 102, 54, 101, 99, 101, 100, 100, 52, 49, 57, 100, 98, 48, 54, 99, 49]⟩
theorem sha_nil : hexL (shaL []) = strE.data.toList := by decide +kernel
theorem sha_56 : hexL (shaL txt56) = strL.data.toList := by decide +kernel
theorem hex_nil (w : World) : Calls Try.prog 11 #[.agg (b8s (shaL [])).toArray] w fun e w' => e = .returned (.string ⟨#[101, 51, 98, 48, 99, 52, 52, 50, 57, 56, 102, 99, 49, 99, 49, 52, 57, 97, 102, 98, 102, 52, 99, 56, 57, 57, 54, 102, 98, 57, 50, 52, 50, 55, 97, 101, 52, 49, 101, 52, 54, 52, 57, 98, 57, 51, 52, 99, 97, 52, 57, 53, 57, 57, 49, 98, 55, 56, 53, 50, 98, 56, 53, 53]⟩) ∧ Below w.heap.size w w' := by
  have h := hex_any (shaL []) rfl w
  rw [sha_nil] at h
  exact h
theorem hex_56 (w : World) : Calls Try.prog 11 #[.agg (b8s (shaL txt56)).toArray] w fun e w' => e = .returned (.string ⟨#[50, 52, 56, 100, 54, 97, 54, 49, 100, 50, 48, 54, 51, 56, 98, 56, 101, 53, 99, 48, 50, 54, 57, 51, 48, 99, 51, 101, 54, 48, 51, 57, 97, 51, 51, 99, 101, 52, 53, 57, 54, 52, 102, 102, 50, 49, 54, 55, 102, 54, 101, 99, 101, 100, 100, 52, 49, 57, 100, 98, 48, 54, 99, 49]⟩) ∧ Below w.heap.size w w' := by
  have h := hex_any (shaL txt56) rfl w
  rw [sha_56] at h
  exact h
theorem sum_nil (w : World) : Calls Try.prog 19 #[.slice none 0 0] w fun e w' => e = .returned (.agg (b8s (shaL [])).toArray) ∧ Below w.heap.size w w' :=
  sum_any none [] 0 w Rd.nil (by decide) (by decide) (by decide)
/-- the document's sum by the table that is written out -/
theorem refsum_known (a b : Addr) (A : Option Addr) (bs : List UInt8) (n c : Nat) (hn : n = bs.length) (w : World) (h1 : Rd w (some a) (w32s H0.list)) (h2 : Rd w (some b) (w32s K0)) (hr : Rd w A (b8s bs)) (hm : bs.length ≤ 1099511627776) :
    Calls Try.prog 20 #[.agg #[.slice (some a) 8 8, .slice (some b) 64 64], .slice A n c] w fun e w' => e = .returned (.agg (b8s (shaL bs)).toArray) ∧ Below w.heap.size w w' := by
  subst hn
  exact refsum_any (some a) (some b) 8 64 H0 K0 rfl A bs c w h1 h2 hr hm
theorem sum_n (A : Option Addr) (bs : List UInt8) (n c : Nat) (hn : n = bs.length) (w : World) (hr : Rd w A (b8s bs)) (hm : bs.length ≤ 140737488355328) (hcap : n ≤ c) (hc2 : c ≤ 9223372036854775807) :
    Calls Try.prog 19 #[.slice A n c] w fun e w' => e = .returned (.agg (b8s (shaL bs)).toArray) ∧ Below w.heap.size w w' := by
  subst hn
  exact sum_any A bs c w hr hm hcap hc2

theorem i64_and_mask (x : Int) (m : Nat) (hm : m < 9223372036854775808) : ∃ n : Nat, n ≤ m ∧ bits .and .i64 x (m : Int) = (n : Int) := by
  refine ⟨(BitVec.ofInt 64 x &&& BitVec.ofInt 64 (m : Int)).toNat, ?_, ?_⟩
  · rw [BitVec.toNat_and]
    refine Nat.le_trans Nat.and_le_right ?_
    rw [BitVec.ofInt_natCast, BitVec.toNat_ofNat]
    exact Nat.mod_le _ _
  · show IntKind.i64.wrap ((BitVec.ofInt 64 x &&& BitVec.ofInt 64 (m : Int)).toNat : Int) = _
    have h1 : (BitVec.ofInt 64 x &&& BitVec.ofInt 64 (m : Int)).toNat ≤ m := by
      rw [BitVec.toNat_and]
      refine Nat.le_trans Nat.and_le_right ?_
      rw [BitVec.ofInt_natCast, BitVec.toNat_ofNat]
      exact Nat.mod_le _ _
    exact IntWalk.i64_in _ (by omega)

/-- a byte with bit r turned -/
def flipB (c : UInt8) (r : Nat) : UInt8 := UInt8.ofNat (c.toNat ^^^ 2 ^ r)
theorem info_u8s : (Try.prog.info? 5).isSome = true := by kernel_rfl

set_option maxRecDepth 100000 in
set_option maxHeartbeats 2000000 in
theorem shaLong_any (n : Int) (c : UInt8) (w : World) : Calls Try.prog 7 #[.int .i64 n, .int .u8 (c.toNat : Int)] w fun e w' => e = .returned (.bool true) ∧ Below w.heap.size w w' := by
  obtain ⟨M, hM, hn⟩ : ∃ M : Nat, M ≤ 31 ∧ bits .and .i64 n 31 = (M : Int) := by
    exact i64_and_mask n 31 (by decide)
  have kc := fun (w : World) (C : Array Value) (n c : Nat) => Lib.run_convert_bytes_const (P := Try.prog) w 32 5 C n c Try.underlying32 Try.underlying5
  go_enter Try.func7, Try.ntmps7
  go_wp2_with fail
  refine (alive_any w).mono ?_
  rintro e w1 ⟨rfl, hb1⟩
  go_wp2_with fail
  refine (hexing_any w1).mono ?_
  rintro e w2 ⟨rfl, hb2⟩
  go_wp2_with fail
  refine (sum_nil w2).mono ?_
  rintro e w3 ⟨rfl, hb3⟩
  go_wp2_with fail
  refine (hex_nil w3).mono ?_
  rintro e w4 ⟨rfl, hb4⟩
  have hbb := ext_trans hb1 (ext_trans hb2 (ext_trans hb3 hb4))
  clear hb1 hb2 hb3 hb4
  go_wp2_with fail
  have hb56 : Below w.heap.size w (w4.alloc (.cells (b8s txt56).toArray 5 (56, 57))) := hbb.alloc hbb.size _
  refine (sum_n (some ⟨w4.heap.size, 0, none⟩) txt56 56 56 rfl (w4.alloc (.cells (b8s txt56).toArray 5 (56, 57))) (Rd.newm w4 (b8s txt56) 5 (56, 57)) (by decide) (by decide) (by decide)).mono ?_
  rintro e w5 ⟨rfl, hb5⟩
  go_wp2_with fail
  refine (hex_56 w5).mono ?_
  rintro e w6 ⟨rfl, hb6⟩
  have hb := ext_trans hb56 (ext_trans hb5 hb6)
  clear hbb hb56 hb5 hb6
  go_wp2_with fail
  have hst := Own8.startN w6 w6 w6.heap.size (Below.refl _ _) (Nat.le_refl _)
  go_loopg [5, 6] (40 + M) (fun gk_ v i wr => ∃ k : Nat, k ≤ 40 + M ∧ gk_ = 40 + M - k ∧ i = .int .i64 (k : Int) ∧ Own8 w6.heap.size w6 wr v (List.replicate k c))
  case atStart => exact ⟨0, by omega, by omega, rfl, hst⟩
  case round =>
    clear hst
    obtain ⟨k, hk, rfl, rfl, hown⟩ := hrel
    have hl1 : (List.replicate k c).length + 1 ≤ 140737488355328 := by rw [List.length_replicate]; omega
    by_cases hlt : k < 40 + M
    · go_wp2_with (at_builtin; refine wpList_append_u8 rfl _ _ rfl c rfl rfl rfl hown hl1 ?_; intro v1 w1 hown1)
      go_roundg (40 + M - (k + 1))
      case measure => omega
      case rel => exact ⟨k + 1, by omega, rfl, by go_num, by rw [List.replicate_succ']; exact hown1⟩
    · obtain rfl : k = 40 + M := by omega
      obtain ⟨A5, n5, c5, rfl, hn5, hnc5, hc5, hr5, _⟩ := hown.sliceN
      have hbw := ext_trans hb hown.bel
      obtain ⟨bs, hbs⟩ : ∃ bs, List.replicate (40 + M) c = bs := ⟨_, rfl⟩
      have hbl : bs.length = 40 + M := by rw [← hbs, List.length_replicate]
      rw [hbs] at hr5 hn5
      have HR5 := Lib.hid hr5
      have HBL := Lib.hid hbl
      have Hn5 := Lib.hid hn5
      unfold maxLen at hc5
      have hn5' : n5 = 40 + M := by omega
      obtain rfl := hn5'
      have hnc5' : 40 + M ≤ c5 := hnc5
      clear hr5 hbl hn5 hbs hown hb hl1 hlt
      obtain ⟨wq, rfl⟩ : ∃ wq : World, wq = wr := ⟨_, rfl⟩
      go_wp2_with fail
      refine (known_any wq).mono ?_
      rintro e w7 ⟨a, b, rfl, hb7, hk1, hk2⟩
      have HK1 := Lib.hid hk1
      have HK2 := Lib.hid hk2
      have HR7 := Lib.hid (HR5.out.below hb7)
      have hb8 := ext_trans hbw hb7
      clear hk1 hk2 HR5 hb7 hbw
      go_wp2_with fail
      obtain ⟨W8, hW8⟩ : ∃ W8, w7.alloc (.cells #[.slice (some a) 8 8, .slice (some b) 64 64] 39) = W8 := ⟨_, rfl⟩
      have hrow : W8.heap[w7.heap.size]? = some (.cells #[.slice (some a) 8 8, .slice (some b) 64 64] 39 (0, 0)) := by rw [← hW8]; exact heap_alloc_new w7 _
      have hbA : Below w7.heap.size w7 W8 := by rw [← hW8]; exact (Below.refl _ _).alloc (Nat.le_refl _) _
      have HROW := Lib.hid hrow
      have HL8 := Lib.hid (Array.getElem?_eq_some_iff.1 hrow).1
      have HB8 := Lib.hid (ext_trans hb8 hbA)
      have HK1 := Lib.hid (HK1.out.below hbA)
      have HK2 := Lib.hid (HK2.out.below hbA)
      have HR8 := Lib.hid (HR7.out.below hbA)
      rw [hW8]
      clear hW8 hrow hbA hb8 HR7
      go_loopg [8] 9 (fun gk_ i wr => ∃ j : Nat, 32 + M ≤ j ∧ j ≤ 41 + M ∧ gk_ = 41 + M - j ∧ i = .int .i64 (j : Int) ∧ Below W8.heap.size W8 wr)
      case atStart => exact ⟨32 + M, by omega, by omega, by omega, congrArg (Value.int .i64) (by omega), Below.refl _ _⟩
      case round =>
        obtain ⟨j, hj1, hj, rfl, rfl, hbel⟩ := hrel
        by_cases hlt2 : j ≤ 40 + M
        · have c0 : wr.cell? ⟨w7.heap.size, 0, none⟩ = some (.slice (some a) 8 8) := by rw [row_cell ((hbel.block _ HL8.out).trans HROW.out)]; rfl
          have c1 : wr.cell? ⟨w7.heap.size, 1, none⟩ = some (.slice (some b) 64 64) := by rw [row_cell ((hbel.block _ HL8.out).trans HROW.out)]; rfl
          have r5 := HR8.out.below hbel
          obtain ⟨xs, hxs⟩ : ∃ xs, bs.take j = xs := ⟨_, rfl⟩
          have hxl : j = xs.length := by have := HBL.out; rw [← hxs, List.length_take]; omega
          have rx : Rd wr A5 (b8s xs) := by rw [← hxs, b8s_take]; exact r5.take j
          have hneq : ∀ w, (binOp .neq 23 (.agg (b8s (shaL xs)).toArray) (.agg (b8s (shaL xs)).toArray)).run Try.prog w = .ok (.bool false) w := fun w => by
            have := run_neq_ids (P := Try.prog) (t := 23) (e := 5) (n := 32) Try.underlying23 Try.underlying5 info_u8s (by kernel_rfl) (by kernel_rfl) (shaL xs) (shaL xs) rfl rfl w
            simpa using this
          have HXL := Lib.hid hxl
          have HRX := Lib.hid rx
          have i0 : j ≤ c5 := Nat.le_trans hlt2 hnc5'
          have i1 : (j : Int) ≤ (c5 : Int) := Int.ofNat_le.2 i0
          clear i0
          have i2 : (j : Int) ≤ 40 + (M : Int) := by omega
          have hxm : xs.length ≤ 1000 := by omega
          clear hxs hxl rx r5
          go_wp2_with fail
          refine wp_region_sched (fun w' => w'.cell? ⟨w7.heap.size, 0, none⟩ = some (.slice (some a) 8 8) ∧ w'.cell? ⟨w7.heap.size, 1, none⟩ = some (.slice (some b) 64 64)) [(true, 0), (true, 1), (true, 2), (true, 4), (true, 5), (true, 6), (true, 7), (false, 3), (false, 8), (true, 9)] (by kernel_rfl) (by kernel_rfl) rfl (by kernel_rfl) ⟨c0, c1⟩ ?_
          (repeat (first | (refine wpS_pass _ rfl (by rfl) ?_; simp only [Act.put, List.getElem_toArray, List.getElem_cons_zero, List.getElem_cons_succ, List.setIfInBounds_toArray, List.set_cons_zero, List.set_cons_succ]) | (refine wpS_take _ ?_ rfl (by rfl) ?_ ?_; rotate_left; (focus (intro w' hS'; (try dsimp only at hS'); (repeat (have hS1 := hS'.1; replace hS' := hS'.2)); go_simp; (try with_reducible rfl); done)); simp only [Act.put, List.getElem_toArray, List.getElem_cons_zero, List.getElem_cons_succ, List.setIfInBounds_toArray, List.set_cons_zero, List.set_cons_succ])))
          refine wpS_do _ rfl (by rfl) (fun K hK => ?_)
          go_simp
          refine (sum_n A5 xs j c5 HXL.out wr.drew HRX.out.drew (by omega) (by omega) (by omega)).mono ?_
          rintro e wa ⟨rfl, hba⟩
          have hbb := hbel.drew.trans (hba.mono hbel.size)
          have c0 : wa.cell? ⟨w7.heap.size, 0, none⟩ = some (.slice (some a) 8 8) := by rw [row_cell ((hbb.block _ HL8.out).trans HROW.out)]; rfl
          have c1 : wa.cell? ⟨w7.heap.size, 1, none⟩ = some (.slice (some b) 64 64) := by rw [row_cell ((hbb.block _ HL8.out).trans HROW.out)]; rfl
          refine hK.out _ _ ⟨c0, c1⟩ (fun hS => ?_)
          clear hK hS c0 c1
          refine wpS_do _ rfl (by rfl) (fun K hK => ?_)
          go_simp
          refine (refsum_known a b A5 xs j c5 HXL.out wa (HK1.out.below hbb) (HK2.out.below hbb) (HRX.out.drew.below hba) (by omega)).mono ?_
          rintro e wc ⟨rfl, hbc⟩
          have hbd := hbb.trans (hbc.mono hbb.size)
          have c0 : wc.cell? ⟨w7.heap.size, 0, none⟩ = some (.slice (some a) 8 8) := by rw [row_cell ((hbd.block _ HL8.out).trans HROW.out)]; rfl
          have c1 : wc.cell? ⟨w7.heap.size, 1, none⟩ = some (.slice (some b) 64 64) := by rw [row_cell ((hbd.block _ HL8.out).trans HROW.out)]; rfl
          refine hK.out _ _ ⟨c0, c1⟩ (fun hS => ?_)
          clear hK hS c0 c1
          (repeat (first | (refine wpS_pass _ rfl (by rfl) ?_; simp only [Act.put, List.getElem_toArray, List.getElem_cons_zero, List.getElem_cons_succ, List.setIfInBounds_toArray, List.set_cons_zero, List.set_cons_succ]) | (refine wpS_take _ ?_ rfl (by rfl) ?_ ?_; rotate_left; (focus (intro w' hS'; (try dsimp only at hS'); (repeat (have hS1 := hS'.1; replace hS' := hS'.2)); go_simp; (try with_reducible rfl); done)); simp only [Act.put, List.getElem_toArray, List.getElem_cons_zero, List.getElem_cons_succ, List.setIfInBounds_toArray, List.set_cons_zero, List.set_cons_succ])))
          refine wpS_done ?_
          clear hneq
          go_wp2_with fail
          go_roundg (41 + M - (j + 1))
          case measure => omega
          case rel => exact ⟨j + 1, by omega, by omega, rfl, by go_num, hbd⟩
        · have i2 : ¬ (j : Int) ≤ 40 + (M : Int) := by omega
          go_wp2_with fail
          go_ret
          exact ⟨rfl, HB8.out.trans (hbel.mono HB8.out.size)⟩
end Go.Proofs.Ytkiggfahcakdeaa
