
/- ShaNamed: the walk. -/

import Derived.Test.YtkiggfahcakdeaaShaParts

namespace Go.Proofs.Ytkiggfahcakdeaa

set_option linter.unusedVariables false

set_option linter.unusedSimpArgs false

open Go.RowKit

/-- a cell of a row of the call's own is written -/
theorem own_set {w : World} {base : Nat} {e : TypeId} {g n c m : Nat} {xs : List Value} (h : w.ownsRow base e 1 (.slice (some ⟨g, 0, none⟩) n c) m xs) (k : Nat) (hk : k < m) (u : Value) :
    (w.setCell ⟨g, k, none⟩ u).ownsRow base e 1 (.slice (some ⟨g, 0, none⟩) n c) m (xs.set k u) := by
  refine ⟨by rw [List.length_set]; exact h.1, ?_⟩
  rcases h.2 with ⟨h0, _⟩ | ⟨g', cap, cur, hv, hb, hh, hn, hc, hs, ht⟩
  · cases h0
  · cases hv
    have hl := h.1
    refine .inr ⟨g, c, cur.setIfInBounds k u, rfl, hb, row_set hh k u, hn, hc, by simpa using hs, ?_⟩
    rw [Array.toList_setIfInBounds, List.take_set, ht]
theorem own_free {w : World} {base : Nat} {e : TypeId} {g n c m : Nat} {xs : List Value} (h : w.ownsRow base e 1 (.slice (some ⟨g, 0, none⟩) n c) m xs) (k : Nat) : w.frozen? ⟨g, k, none⟩ = false := by
  rcases h.2 with ⟨h0, _⟩ | ⟨g', cap, cur, hv, hb, hh, hn, hc, hs, ht⟩
  · cases h0
  · cases hv
    exact row_free hh k
/-- a Named that was asked k times -/
def NamedK (w : World) (g : Nat) (sl : Value) (V : List UInt8) (k : Nat) : Prop := if k = 0 then NamedAt w g sl 0 0 zeros32 0 else NamedAt w g sl 1 0 V 1
def sumsK (k : Nat) : Int := if k = 0 then 0 else 1
theorem NamedK.lt {w : World} {g : Nat} {sl : Value} {V : List UInt8} {k : Nat} (h : NamedK w g sl V k) : g < w.heap.size := by
  unfold NamedK at h
  split at h
  · exact h.lt
  · exact h.lt
theorem NamedK.block {w w' : World} {g : Nat} {sl : Value} {V : List UInt8} {k : Nat} (h : NamedK w g sl V k) (hb : w'.heap[g]? = w.heap[g]?) : NamedK w' g sl V k := by
  unfold NamedK at h ⊢
  split at h
  · rename_i hk; rw [if_pos hk]; exact ⟨h.1, hb.trans h.2⟩
  · rename_i hk; rw [if_neg hk]; exact ⟨h.1, hb.trans h.2⟩
theorem sumsK_any (g : Nat) (sl : Value) (V : List UInt8) (k : Nat) (w : World) (h : NamedK w g sl V k) : Calls Try.prog 24 #[.pointer (some ⟨g, 0, none⟩)] w fun e w' => w = w' ∧ e = .returned (.int .i64 (sumsK k)) := by
  unfold NamedK at h
  unfold sumsK
  split at h
  · rename_i hk; rw [if_pos hk]; exact sums_any g _ _ _ _ 0 w h
  · rename_i hk; rw [if_neg hk]; exact sums_any g _ _ _ _ 1 w h
theorem idK_any (g : Nat) (A : Option Addr) (bs V : List UInt8) (hV : shaL bs = V) (c k : Nat) (w : World) (hr : Rd w A (b8s bs)) (hAg : ∀ ad, A = some ad → ad.block ≠ g) (hm : bs.length ≤ 140737488355328) (hcap : bs.length ≤ c) (hc2 : c ≤ 9223372036854775807)
    (h : NamedK w g (.slice A bs.length c) V k) :
    Calls Try.prog 23 #[.pointer (some ⟨g, 0, none⟩)] w fun e w' => e = .returned (.agg (b8s V).toArray) ∧ NamedK w' g (.slice A bs.length c) V (k + 1) ∧ w.grownBy w' (some g) := by
  unfold NamedK at h
  have hk1 : ∀ w', NamedK w' g (.slice A bs.length c) V (k + 1) = NamedAt w' g (.slice A bs.length c) 1 0 V 1 := fun w' => by unfold NamedK; rw [if_neg (by omega)]
  split at h
  · refine (id_first_n g A bs V hV c w hr hAg hm hcap hc2 h).mono ?_
    rintro e w' ⟨rfl, h1, h2⟩
    exact ⟨rfl, by rw [hk1]; exact h1, h2⟩
  · refine (id_again g _ V 1 w h).mono ?_
    rintro e w' ⟨rfl, h1⟩
    exact ⟨rfl, by rw [hk1]; exact h.keep h1, grown_of_below h1⟩
theorem bytesK_any (g : Nat) (A : Option Addr) (bs V : List UInt8) (c k : Nat) (w : World) (hr : Rd w A (b8s bs)) (hm : bs.length ≤ 140737488355328) (h : NamedK w g (.slice A bs.length c) V k) :
    Calls Try.prog 25 #[.pointer (some ⟨g, 0, none⟩)] w fun e w' => ∃ v, e = .returned v ∧ Own8 w.heap.size w w' v bs := by
  unfold NamedK at h
  split at h
  · exact bytes_any g A bs _ c rfl _ _ _ _ w hr hm h
  · exact bytes_any g A bs _ c rfl _ _ _ _ w hr hm h
theorem neq_ids_self (id : List UInt8) (h : id.length = 32) (w : World) : (binOp .neq 23 (.agg (b8s id).toArray) (.agg (b8s id).toArray)).run Try.prog w = .ok (.bool false) w := by
  have := run_neq_ids (P := Try.prog) (t := 23) (e := 5) (n := 32) Try.underlying23 Try.underlying5 (by kernel_rfl) (by kernel_rfl) (by kernel_rfl) id id h h w
  simpa using this

theorem i64_and_mask15 (x : Int) : ∃ n : Nat, n ≤ 15 ∧ bits .and .i64 x 15 = (n : Int) := by
  refine ⟨(BitVec.ofInt 64 x &&& BitVec.ofInt 64 (15 : Int)).toNat, ?_, ?_⟩
  · rw [BitVec.toNat_and]
    refine Nat.le_trans Nat.and_le_right ?_
    decide
  · show IntKind.i64.wrap ((BitVec.ofInt 64 x &&& BitVec.ofInt 64 (15 : Int)).toNat : Int) = _
    have h1 : (BitVec.ofInt 64 x &&& BitVec.ofInt 64 (15 : Int)).toNat ≤ 15 := by
      rw [BitVec.toNat_and]
      refine Nat.le_trans Nat.and_le_right ?_
      decide
    exact IntWalk.i64_in _ (by omega)

set_option maxRecDepth 100000 in
set_option maxHeartbeats 4000000 in
theorem shaNamed_any (A0 : Option Addr) (b : List UInt8) (c0 : Nat) (n : Int) (w : World) (h0 : Rd w A0 (b8s b)) (k0 : b.length ≤ c0) (m0 : c0 ≤ 9223372036854775807) (hn64 : -9223372036854775808 ≤ n ∧ n ≤ 9223372036854775807) :
    Calls Try.prog 9 #[.slice A0 b.length c0, .int .i64 n] w fun e w' => e = .returned (.bool true) ∧ Below w.heap.size w w' := by
  have H0 := Lib.hid h0
  clear h0
  obtain ⟨M, hM, hmask⟩ := i64_and_mask15 n
  have HM := Lib.hid hmask
  have hb3 : Below w.heap.size w (w.alloc (.cells #[.int .u8 97, .int .u8 98, .int .u8 99] 5 (3, 4))) := (Below.refl _ _).alloc (Nat.le_refl _) _
  have kc := fun (w : World) (C : Array Value) (n c : Nat) => Lib.run_convert_bytes_const (P := Try.prog) w 32 5 C n c Try.underlying32 Try.underlying5
  have hOF := of_any (some ⟨w.heap.size, 0, none⟩) [97, 98, 99] 3 3 rfl (w.alloc (.cells #[.int .u8 97, .int .u8 98, .int .u8 99] 5 (3, 4))) (Rd.newm w (b8s [97, 98, 99]) 5 (3, 4)) (by decide)
  have hSUM := fun (w : World) => sum_any (some ⟨w.heap.size, 0, none⟩) [97, 98, 99] 3 (w.alloc (.cells #[.int .u8 97, .int .u8 98, .int .u8 99] 5 (3, 4))) (Rd.newm w (b8s [97, 98, 99]) 5 (3, 4)) (by decide) (by decide) (by decide)
  have hIDX := fun (g : Nat) (A : Option Addr) (c : Nat) (w : World) (hr : Rd w A (b8s [97, 98, 99])) (hAg : ∀ ad, A = some ad → ad.block ≠ g) (hcap : 3 ≤ c) (hc2 : c ≤ 9223372036854775807) (hN : NamedAt w g (.slice A 3 c) 0 0 zeros32 0) => id_first g A [97, 98, 99] zeros32 c w hr hAg (by decide) hcap hc2 hN
  obtain ⟨VX, hVX⟩ : ∃ VX, shaL [97, 98, 99] = VX := ⟨_, rfl⟩
  have hVXl : VX.length = 32 := by rw [← hVX]; rfl
  simp only [hVX] at hSUM hIDX
  have HOF := Lib.hid hOF
  have HSUM := Lib.hid hSUM
  have HIDX := Lib.hid hIDX
  have HVX := Lib.hid hVXl
  have HB3 := Lib.hid hb3
  clear hOF hSUM hIDX hVX hVXl hb3 hmask
  go_enter Try.func9, Try.ntmps9
  go_wp2_with fail
  refine HOF.out.mono ?_
  rintro e w1 ⟨gx, Ax, cx, rfl, hNx, hrx, hbx, hcx, hcx2, hb1, hgx⟩
  have HB1 := Lib.hid (HB3.out.trans (hb1.mono HB3.out.size))
  have HNx := Lib.hid hNx
  have HRx := Lib.hid hrx
  have HBX := Lib.hid hbx
  have HB0 : w.heap.size ≤ (w.alloc (.cells #[.int .u8 97, .int .u8 98, .int .u8 99] 5 (3, 4))).heap.size := by simp
  clear HOF HB3 hNx hrx hb1 hbx
  go_wp2_with fail
  refine (alive_any w1).mono ?_
  rintro e w2 ⟨rfl, hb2⟩
  have HNx2 := Lib.hid (HNx.out.keep hb2)
  have HRx2 := Lib.hid (HRx.out.below hb2)
  have HB2 := Lib.hid (ext_trans HB1.out hb2)
  clear HNx HRx hb2 HB1
  go_wp2_with fail
  refine (sums_any gx _ _ _ _ 0 w2 HNx2.out).mono ?_
  rintro e w' ⟨rfl, rfl⟩
  go_wp2_with fail
  refine (HIDX.out gx Ax cx w2 HRx2.out (fun ad h => (HBX.out ad h).1) hcx hcx2 HNx2.out).mono ?_
  rintro e w3 ⟨rfl, hN3, hg3⟩
  have hb3 : Below w.heap.size w w3 := bel_grown HB2.out HB2.out.size hg3 (by have := hgx; have := HB0; omega)
  have HN3 := Lib.hid hN3
  have hr3 := Lib.hid (HRx2.out.grown hg3 (fun ad h e => (HBX.out ad h).1 (Option.some.inj e)))
  have hne := fun w => neq_ids_self VX HVX.out w
  have hb3b : Below w.heap.size w (w3.alloc (.cells #[.int .u8 97, .int .u8 98, .int .u8 99] 5 (3, 4))) := hb3.alloc hb3.size _
  have HB3b := Lib.hid hb3b
  have HN3b := Lib.hid (HN3.out.keep ((Below.refl w3.heap.size w3).alloc (Nat.le_refl _) (.cells #[.int .u8 97, .int .u8 98, .int .u8 99] 5 (3, 4))))
  have HR3b := Lib.hid (hr3.out.alloc (.cells #[.int .u8 97, .int .u8 98, .int .u8 99] 5 (3, 4)))
  clear hb3 hb3b hN3 hg3 hr3 HN3
  go_wp2_with fail
  refine (HSUM.out w3).mono ?_
  rintro e w4 ⟨rfl, hb4⟩
  have HN4 := Lib.hid (HN3b.out.keep hb4)
  have HR4 := Lib.hid (HR3b.out.below hb4)
  have HB4 := Lib.hid (ext_trans HB3b.out hb4)
  clear hb4 HN3b HR3b HB3b
  go_wp2_with fail
  refine (sums_any gx _ _ _ _ 1 w4 HN4.out).mono ?_
  rintro e w' ⟨rfl, rfl⟩
  go_wp2_with fail
  refine (bytes_any gx Ax [97, 98, 99] 3 cx rfl _ _ _ _ w4 HR4.out (by decide) HN4.out).mono ?_
  rintro e w5 ⟨v, rfl, ho5⟩
  have HB5 := Lib.hid (ext_trans HB4.out ho5.bel)
  obtain ⟨A5, c5, rfl, hc5, hm5, hr5, _⟩ := ho5.slice
  have hcv := run_str_of_bytes (P := Try.prog) (src := 32) (dst := 9) (e := 5) 3 c5 rfl Try.underlying32 Try.underlying5 Try.underlying9 hr5
  have HCV := Lib.hid hcv
  clear hcv ho5 hne HN4 HR4 HB4
  go_wp2_with fail
  rw [HCV.out]
  simp only [Result.andThen]
  rw [Oper.upon_value]
  clear HCV hr5
  by_cases hs : 20000 < b.length
  · have hsI : (20000 : Int) < (b.length : Int) := by omega
    go_wp2_with fail
    go_ret
    exact ⟨rfl, HB5.out⟩
  have hsI : ¬ (20000 : Int) < (b.length : Int) := by omega
  have hdI : decide ((20000 : Int) < (b.length : Int)) = false := by rw [decide_eq_false_iff_not]; exact hsI
  have R5 := Lib.hid (H0.out.below HB5.out)
  have hst := Own8.startN w5 w5 w5.heap.size (Below.refl _ _) (Nat.le_refl _)
  have l1 : ([] : List UInt8).length + b.length ≤ 140737488355328 := by simp; omega
  clear hm5
  go_wp2_with (at_builtin; refine wpList_append_bytes rfl _ _ rfl b rfl rfl (R5.out.alloc _) hst l1 ?_; intro v6 w6 o6 g6)
  obtain ⟨A6, n6, c6, rfl, hn6, hc6, hm6, hr6, hb6⟩ := o6.sliceN
  have hn6' : n6 = b.length := by rw [hn6]; simp
  rw [List.nil_append] at hr6
  have HR6 := Lib.hid hr6
  have HO6 := Lib.hid o6
  have Hn6 := Lib.hid hn6'
  have HB6 := Lib.hid hb6
  have HBW6 := Lib.hid (ext_trans HB5.out o6.bel)
  have hz6 := o6.sz
  have hm20 : b.length ≤ 140737488355328 := by omega
  clear hst l1 o6 g6 hn6 hn6' hr6 hb6
  refine (of_any A6 b n6 c6 Hn6.out w6 HR6.out hm20).mono ?_
  rintro e w7 ⟨gy, Ay, cy, rfl, hN7, hr7, hy7, hcy, hcy2, hb7, hgy⟩
  have HN7 := Lib.hid (show NamedK w7 gy (.slice Ay b.length cy) (shaL b) 0 from hN7)
  have HR7 := Lib.hid hr7
  have HY7 := Lib.hid hy7
  have R7 := Lib.hid (R5.out.below (HO6.out.bel.trans (hb7.mono hz6)))
  have hO7 := Lib.hid (HO6.out.later hb7)
  have HB7 := Lib.hid (ext_trans HBW6.out hb7)
  have hz7 := hb7.size
  have hly := hN7.lt
  clear hN7 hr7 hy7 hb7 R5 HO6 HR6 HBW6
  go_wp2_with fail
  refine (sum_any A0 b c0 w7 R7.out hm20 k0 m0).mono ?_
  rintro e w8 ⟨rfl, hb8⟩
  obtain ⟨V, hV⟩ : ∃ V, shaL b = V := ⟨_, rfl⟩
  have hVl : V.length = 32 := by rw [← hV]; rfl
  rw [hV] at HN7 ⊢
  obtain ⟨g8, Wa, W5, hg8, hWa, hW5, HTH, HROW, HB9, HS9⟩ := arr_place (w := w8) 23 V hVl
  have HW5 := Lib.hid hW5
  have HI : Hid ((Try.prog.info? 23).map (·.size) = some (b8s V).toArray.size) := Lib.hid (info_of_arr _ hVl info_id)
  have HIL : Hid ((Try.prog.info? 23).map (·.size) = some (b8s V).length) := Lib.hid (by rw [b8s_length, hVl]; exact info_id)
  have HVL := Lib.hid hVl
  have HV := Lib.hid hV
  have hb79 := ext_trans hb8 HB9.out
  have hz8 := hb8.size
  have N9 := Lib.hid (HN7.out.block (hb79.block gy hly))
  have RY9 := Lib.hid (HR7.out.below hb79)
  have R9 := Lib.hid (R7.out.below hb79)
  have O9 := Lib.hid (hO7.out.later hb79)
  have BW9 := Lib.hid (ext_trans HB7.out hb79)
  have hz9 := hb79.size
  have hg8s : W5.heap.size = g8 + 1 := HS9.out
  have HG8 := Lib.hid (show w7.heap.size ≤ g8 by omega)
  have HS9b := Lib.hid hg8s
  clear hW5 hVl hV hb8 hb79 HN7 HR7 R7 hO7 HB7 hz8 hg8s
  go_wp2_with ((with_reducible (refine wpList_store_mid rfl _ _ _ rfl ?_ ?_ ?_ ?_ ?_ ?_ ?_ ?_ ?_)); (exact g8); (exact 0); (exact (b8s V).toArray); (exact rfl); (exact rfl); (exact HTH.out); (exact HI.out); (exact all_oneCell_toArray (b8s_one' _)); rw [HW5.out])
  obtain ⟨row, hrow⟩ : ∃ row, (Value.slice A6 n6 c6).ownBlock = row := ⟨_, rfl⟩
  have HRW : Hid (∀ k, (k < w5.heap.size ∨ w6.heap.size ≤ k) → some k ≠ row) := Lib.hid (fun k hk e => by
    rw [← hrow] at e
    cases A6 with
    | none => cases e
    | some ad =>
      have h2 := HB6.out ad rfl
      have h3 : (Value.slice (some ad) n6 c6).ownBlock = some ad.block := rfl
      rw [h3] at e
      have h4 := Option.some.inj e
      omega)
  have HROW6 := Lib.hid hrow
  have hz5 := HB5.out.size
  clear hrow HTH HW5 hWa HB9 HS9
  have hg0 : W5.grownBy W5 row := World.grownBy.refl _ _
  have ho9 := O9.out.own
  rw [List.nil_append] at ho9
  have HO9 := Lib.hid ho9
  clear ho9 O9
  go_loopg [58] n6 (fun gk_ i wr => ∃ (k : Nat) (zs : List UInt8), k ≤ n6 ∧ gk_ = n6 - k ∧ i = .int .i64 (k : Int) ∧ Hid (wr.ownsRow w5.heap.size 5 1 (.slice A6 n6 c6) b.length (b8s zs)) ∧ Hid (zs.length = b.length) ∧ W5.grownBy wr row)
  case atStart => exact ⟨0, b, by omega, by omega, rfl, HO9, Lib.hid rfl, hg0⟩
  case round =>
    clear HO9 hg0
    obtain ⟨k, zs, hk, rfl, rfl, HO, HZ, hg⟩ := hrel
    by_cases hlt : k < n6
    · have hz := HZ.out
      have hnb := Hn6.out
      obtain ⟨g, cc, he, hcc, _, hg5, hgl⟩ := own_head HO.out (by omega)
      injection he with he1 he2 he3
      subst he1
      obtain ⟨bb, oo, heq, hcell⟩ := (own_rd HO.out).byte k (by omega)
      cases heq
      rw [Nat.zero_add] at hcell
      have hfz := own_free HO.out k
      have hset := own_set HO.out k (by omega) (.int .u8 ((zs[k]'(by omega) + 1).toNat : Int))
      have hb8 : (b8s zs).set k (.int .u8 ((zs[k]'(by omega) + 1).toNat : Int)) = b8s (zs.set k (zs[k]'(by omega) + 1)) := by simp [b8s, List.map_set]
      rw [hb8] at hset
      have HSET := Lib.hid hset
      have hrw : row = some g := HROW6.out.symm
      have hg2 : W5.grownBy (wr.setCell ⟨g, k, none⟩ (.int .u8 ((zs[k]'(by omega) + 1).toNat : Int))) row := by
        rw [hrw] at hg ⊢
        exact grown_trans1 hg (grown_set g k _)
      have HG2 := Lib.hid hg2
      have hval : ∀ x : UInt8, Hid (((x.toNat : Int) + 1) % 256 = ((x + 1).toNat : Int)) := fun x => Lib.hid (by rw [UInt8.toNat_add]; simp)
      have hkI : (k : Int) < (n6 : Int) := by omega
      have hk20 : k < 20001 := by omega
      obtain ⟨x, hx⟩ : ∃ x, zs[k]'(by omega) = x := ⟨_, rfl⟩
      rw [hx] at hcell HSET HG2
      have HVX1 := hval x
      have hzl : (zs.set k (x + 1)).length = b.length := by rw [List.length_set]; exact hz
      have HZL := Lib.hid hzl
      clear hset hb8 hrw hg2 hval hx hg he2 he3 hz hnb hzl
      go_wp2_with fail
      rw [HVX1.out]
      go_roundg (n6 - (k + 1))
      case measure => omega
      case rel => exact ⟨k + 1, _, by omega, rfl, by go_num, HSET, HZL, HG2.out⟩
    · obtain rfl : k = n6 := by omega
      have hmask := HM.out
      obtain ⟨wL, rfl⟩ : ∃ wL : World, wL = wr := ⟨_, rfl⟩
      have NL := Lib.hid (N9.out.block (hg.block gy N9.out.lt (HRW.out gy (.inr hgy))))
      have hkeep : ∀ {A : Option Addr} {cs : List Value}, Rd W5 A cs → (∀ ad, A = some ad → ad.block < w5.heap.size ∨ w6.heap.size ≤ ad.block) → Rd wL A cs := fun h hA => h.grown hg (fun ad e => HRW.out _ (hA ad e))
      have RYL := Lib.hid (hkeep RY9.out (fun ad e => .inr (HY7.out ad e).2))
      have hA0 : ∀ ad, A0 = some ad → b ≠ [] → ad.block < w.heap.size := fun ad e hne => by
        subst e
        exact Rd.lt (b := ad.block) (o := ad.off) (s := ad.spot) H0.out (by rw [b8s_length]; cases b with | nil => exact absurd rfl hne | cons c r => simp)
      have RL := Lib.hid (show Rd wL A0 (b8s b) from by
        by_cases hb0 : b = []
        · rw [hb0]; exact Rd.nil
        · exact hkeep R9.out (fun ad e => .inl (by have := hA0 ad e hb0; omega)))
      have hrowL : wL.heap[g8]? = some (.cells (b8s V).toArray 23 (0, 0)) := (hg.block g8 (Array.getElem?_eq_some_iff.1 HROW.out).1 (HRW.out g8 (.inr (by have := HG8.out; omega)))).trans HROW.out
      have HROWL := Lib.hid hrowL
      have HBL := Lib.hid (show Below w.heap.size w wL from BW9.out.grown hg BW9.out.size (fun j hj => by
        rcases Nat.lt_or_ge j w5.heap.size with h | h
        · exact absurd hj.symm (HRW.out j (.inl h))
        · omega))
      have hgyl : gy < g8 := by have := HG8.out; omega
      clear hkeep hA0 hrowL hg HO HZ N9 RY9 R9 BW9 HROW HM
      go_wp2_with fail
      clear hmask
      have hN0 : NamedK wL gy (.slice Ay b.length cy) V 0 := NL.out
      have hG0 : wL.grownBy wL (some gy) := World.grownBy.refl _ _
      go_loopg [10] M (fun gk_ i wr => ∃ k : Nat, k ≤ M ∧ gk_ = M - k ∧ i = .int .i64 (k : Int) ∧ Hid (NamedK wr gy (.slice Ay b.length cy) V k) ∧ wL.grownBy wr (some gy))
      case atStart => exact ⟨0, by omega, by omega, rfl, Lib.hid hN0, hG0⟩
      case round =>
        clear hN0 hG0 NL
        obtain ⟨k, hk, rfl, rfl, HN, hg⟩ := hrel
        have hry : Rd wr Ay (b8s b) := RYL.out.grown hg (fun ad e h => (HY7.out ad e).1 (Option.some.inj h))
        have hrow8 : wr.heap[g8]? = some (.cells (b8s V).toArray 23 (0, 0)) := (hg.block g8 (Array.getElem?_eq_some_iff.1 HROWL.out).1 (by simp; omega)).trans HROWL.out
        by_cases hlt : k < M
        · have hne := fun w => neq_ids_self V HVL.out w
          have HRY := Lib.hid hry
          have HR8 := Lib.hid hrow8
          clear hry hrow8
          go_wp2_with fail
          refine wp_region_sched (fun w' => w'.rangeAt g8 0 (b8s V)) [(true, 0), (true, 2), (false, 1), (true, 3)] (by kernel_rfl) (by kernel_rfl) rfl (by kernel_rfl) (range_of_row HR8.out) ?_
          (first | (refine wpS_pass _ rfl (by rfl) ?_; simp only [Act.put, List.getElem_toArray, List.getElem_cons_zero, List.getElem_cons_succ, List.setIfInBounds_toArray, List.set_cons_zero, List.set_cons_succ]) | (refine wpS_take _ ?_ rfl (by rfl) ?_ ?_; rotate_left; (focus (intro w' hS'; (try dsimp only at hS'); (repeat (have hS1 := hS'.1; replace hS' := hS'.2)); go_simp; (try with_reducible rfl); done)); simp only [Act.put, List.getElem_toArray, List.getElem_cons_zero, List.getElem_cons_succ, List.setIfInBounds_toArray, List.set_cons_zero, List.set_cons_succ]))
          refine wpS_load _ rfl (by rfl) _ _ rfl _ _ rfl (b8s V) _ (fun w' hS' => hS') Try.underlying23 rfl HIL.out ?_
          simp only [Act.put, List.getElem_toArray, List.getElem_cons_zero, List.getElem_cons_succ, List.setIfInBounds_toArray, List.set_cons_zero, List.set_cons_succ]
          refine wpS_do _ rfl (by rfl) (fun K hK => ?_)
          go_simp
          refine (idK_any gy Ay b V HV.out cy k wr.drew HRY.out.drew (fun ad h => (HY7.out ad h).1) hm20 hcy hcy2 HN.out).mono ?_
          rintro e wa ⟨rfl, hNa, hga⟩
          have hrow9 : wa.heap[g8]? = some (.cells (b8s V).toArray 23 (0, 0)) := (hga.block g8 (Array.getElem?_eq_some_iff.1 HR8.out).1 (by simp; omega)).trans HR8.out
          have hg3 : wL.grownBy wa (some gy) := grown_trans1 (grown_trans1 hg (World.grownBy_drew_self wr gy)) hga
          have HNA := Lib.hid hNa
          refine hK.out _ _ (range_of_row hrow9) (fun hS => ?_)
          clear hK hS hNa hga hrow9 hg HRY HR8
          (repeat (first | (refine wpS_pass _ rfl (by rfl) ?_; simp only [Act.put, List.getElem_toArray, List.getElem_cons_zero, List.getElem_cons_succ, List.setIfInBounds_toArray, List.set_cons_zero, List.set_cons_succ]) | (refine wpS_take _ ?_ rfl (by rfl) ?_ ?_; rotate_left; (focus (intro w' hS'; (try dsimp only at hS'); (repeat (have hS1 := hS'.1; replace hS' := hS'.2)); go_simp; (try with_reducible rfl); done)); simp only [Act.put, List.getElem_toArray, List.getElem_cons_zero, List.getElem_cons_succ, List.setIfInBounds_toArray, List.set_cons_zero, List.set_cons_succ])))
          refine wpS_done ?_
          clear hne
          go_wp2_with fail
          go_roundg (M - (k + 1))
          case measure => omega
          case rel => exact ⟨k + 1, by omega, rfl, by go_num, HNA, hg3⟩
        · obtain rfl : k = M := by omega
          have HRY := Lib.hid hry
          have HR8 := Lib.hid hrow8
          have HLG := Lib.hid hg
          have hlw := HN.out.lt
          clear hry hrow8
          obtain ⟨wN, rfl⟩ : ∃ wN : World, wN = wr := ⟨_, rfl⟩
          go_wp2_with fail
          refine (bytesK_any gy Ay b V cy k wN HRY.out hm20 HN.out).mono ?_
          rintro e wO ⟨v, rfl, hO⟩
          obtain ⟨A11, n11, c11, rfl, hn11, hnc11, hc11, _, _⟩ := hO.sliceN
          have HO0 := Lib.hid hO.own
          have Hn11 := Lib.hid hn11
          have hb0 := hO.bel
          clear hO hn11 hg
          go_wp2_with fail
          have hbN : Below wN.heap.size wN wO := hb0
          have hm11 : ∃ zs : List UInt8, Hid (wO.ownsRow wN.heap.size 5 1 (.slice A11 n11 c11) b.length (b8s zs)) ∧ Hid (zs.length = b.length) := ⟨b, HO0.out, Lib.hid rfl⟩
          have HM11 := Lib.hid hm11
          clear hm11 HO0 hb0
          go_loopg [83] n11 (fun gk_ i wr => ∃ (j : Nat) (zs : List UInt8), j ≤ n11 ∧ gk_ = n11 - j ∧ i = .int .i64 (j : Int) ∧ Hid (wr.ownsRow wN.heap.size 5 1 (.slice A11 n11 c11) b.length (b8s zs)) ∧ Hid (zs.length = b.length) ∧ Below wN.heap.size wN wr)
          case atStart =>
            obtain ⟨zs, h1, h2⟩ := HM11.out
            exact ⟨0, zs, by omega, by omega, rfl, h1, h2, hbN⟩
          case round =>
            clear HM11 hbN
            obtain ⟨j, zs, hj, rfl, rfl, HO, HZ, hbel⟩ := hrel
            by_cases hlt3 : j < n11
            · have hz := HZ.out
              have hnb := Hn11.out
              obtain ⟨g, cc, he, hcc, _, hg5, hgl⟩ := own_head HO.out (by omega)
              injection he with he1 he2 he3
              subst he1
              obtain ⟨bb, oo, heq, hcell⟩ := (own_rd HO.out).byte j (by omega)
              cases heq
              rw [Nat.zero_add] at hcell
              have hfz := own_free HO.out j
              have hset := own_set HO.out j (by omega) (.int .u8 ((zs[j]'(by omega) + 1).toNat : Int))
              have hb8 : (b8s zs).set j (.int .u8 ((zs[j]'(by omega) + 1).toNat : Int)) = b8s (zs.set j (zs[j]'(by omega) + 1)) := by simp [b8s, List.map_set]
              rw [hb8] at hset
              have HSET := Lib.hid hset
              have HG2 := Lib.hid (bel_grown hbel hbel.size (grown_set g j (.int .u8 ((zs[j]'(by omega) + 1).toNat : Int))) hg5)
              have hval : ∀ x : UInt8, Hid (((x.toNat : Int) + 1) % 256 = ((x + 1).toNat : Int)) := fun x => Lib.hid (by rw [UInt8.toNat_add]; simp)
              have hkI : (j : Int) < (n11 : Int) := by omega
              have hk20 : j < 20001 := by omega
              obtain ⟨x, hx⟩ : ∃ x, zs[j]'(by omega) = x := ⟨_, rfl⟩
              rw [hx] at hcell HSET HG2
              have HVX1 := hval x
              have hzl : (zs.set j (x + 1)).length = b.length := by rw [List.length_set]; exact hz
              have HZL := Lib.hid hzl
              clear hset hb8 hval hx he2 he3 hz hnb hzl
              go_wp2_with fail
              rw [HVX1.out]
              go_roundg (n11 - (j + 1))
              case measure => omega
              case rel => exact ⟨j + 1, _, by omega, rfl, by go_num, HSET, HZL, HG2.out⟩
            · obtain rfl : j = n11 := by omega
              have NQ := Lib.hid (HN.out.block (hbel.block gy hlw))
              have RYQ := Lib.hid (HRY.out.below hbel)
              have R8Q := Lib.hid ((hbel.block g8 (Array.getElem?_eq_some_iff.1 HR8.out).1).trans HR8.out)
              have h0q : Rd wN A0 (b8s b) := by
                by_cases hb0 : b = []
                · rw [hb0]; exact Rd.nil
                · refine RL.out.grown HLG.out (fun ad e h => ?_)
                  have h1 : ad.block < w.heap.size := by
                    subst e
                    exact Rd.lt (b := ad.block) (o := ad.off) (s := ad.spot) H0.out (by rw [b8s_length]; cases b with | nil => exact absurd rfl hb0 | cons c r => simp)
                  have := Option.some.inj h
                  have hx5 := HB5.out.size
                  omega
              have R0Q := Lib.hid (h0q.below hbel)
              have HBQ := Lib.hid (show Below w.heap.size w wr from (bel_grown HBL.out HBL.out.size HLG.out (by have hx5 := HB5.out.size; omega)).trans (hbel.mono (by have := HLG.out.size; have := HBL.out.size; omega)))
              have heq := fun w => eq_ids_self V HVL.out w
              have hsk : (sumsK k == min (k : Int) 1) = true := by
                rw [beq_iff_eq]; unfold sumsK; split <;> omega
              have hsk1 : sumsK (k + 1) = 1 := by unfold sumsK; rw [if_neg (by omega)]
              have HSK1 := Lib.hid hsk1
              clear hsk1
              clear hbel HO HZ HN HRY HR8 HLG RL RYL h0q HBL
              obtain ⟨wq, rfl⟩ : ∃ wq : World, wq = wr := ⟨_, rfl⟩
              go_wp2_with fail
              refine wp_region_sched (fun w' => w'.rangeAt g8 0 (b8s V))
                [(true, 0), (true, 2), (true, 3), (false, 1), (true, 4), (true, 5), (true, 6), (true, 8), (false, 7), (true, 9), (true, 10), (true, 11), (true, 12), (false, 13), (true, 14), (true, 15), (true, 16), (true, 17), (true, 19), (false, 18), (false, 20), (true, 21), (true, 22)] (by kernel_rfl) (by kernel_rfl) rfl (by kernel_rfl) (range_of_row R8Q.out) ?_
              (repeat (first | (refine wpS_pass _ rfl (by rfl) ?_; simp only [Act.put, List.getElem_toArray, List.getElem_cons_zero, List.getElem_cons_succ, List.setIfInBounds_toArray, List.set_cons_zero, List.set_cons_succ]) | (refine wpS_take _ ?_ rfl (by rfl) ?_ ?_; rotate_left; (focus (intro w' hS'; (try dsimp only at hS'); (repeat (have hS1 := hS'.1; replace hS' := hS'.2)); go_simp; (try with_reducible rfl); done)); simp only [Act.put, List.getElem_toArray, List.getElem_cons_zero, List.getElem_cons_succ, List.setIfInBounds_toArray, List.set_cons_zero, List.set_cons_succ])))
              refine wpS_do _ rfl (by rfl) (fun K hK => ?_)
              go_simp
              refine (sumsK_any gy _ V k wq.drew NQ.out).mono ?_
              rintro e w' ⟨rfl, rfl⟩
              refine hK.out _ _ (range_of_row R8Q.out) (fun hS => ?_)
              clear hK hS
              (first | (refine wpS_pass _ rfl (by rfl) ?_; simp only [Act.put, List.getElem_toArray, List.getElem_cons_zero, List.getElem_cons_succ, List.setIfInBounds_toArray, List.set_cons_zero, List.set_cons_succ]) | (refine wpS_take _ ?_ rfl (by rfl) ?_ ?_; rotate_left; (focus (intro w' hS'; (try dsimp only at hS'); (repeat (have hS1 := hS'.1; replace hS' := hS'.2)); go_simp; (try with_reducible rfl); done)); simp only [Act.put, List.getElem_toArray, List.getElem_cons_zero, List.getElem_cons_succ, List.setIfInBounds_toArray, List.set_cons_zero, List.set_cons_succ]))
              (first | (refine wpS_pass _ rfl (by rfl) ?_; simp only [Act.put, List.getElem_toArray, List.getElem_cons_zero, List.getElem_cons_succ, List.setIfInBounds_toArray, List.set_cons_zero, List.set_cons_succ]) | (refine wpS_take _ ?_ rfl (by rfl) ?_ ?_; rotate_left; (focus (intro w' hS'; (try dsimp only at hS'); (repeat (have hS1 := hS'.1; replace hS' := hS'.2)); go_simp; (try with_reducible rfl); done)); simp only [Act.put, List.getElem_toArray, List.getElem_cons_zero, List.getElem_cons_succ, List.setIfInBounds_toArray, List.set_cons_zero, List.set_cons_succ]))
              (first | (refine wpS_pass _ rfl (by rfl) ?_; simp only [Act.put, List.getElem_toArray, List.getElem_cons_zero, List.getElem_cons_succ, List.setIfInBounds_toArray, List.set_cons_zero, List.set_cons_succ]) | (refine wpS_take _ ?_ rfl (by rfl) ?_ ?_; rotate_left; (focus (intro w' hS'; (try dsimp only at hS'); (repeat (have hS1 := hS'.1; replace hS' := hS'.2)); go_simp; (try with_reducible rfl); done)); simp only [Act.put, List.getElem_toArray, List.getElem_cons_zero, List.getElem_cons_succ, List.setIfInBounds_toArray, List.set_cons_zero, List.set_cons_succ]))
              clear hsk
              refine wpS_load _ rfl (by rfl) _ _ rfl _ _ rfl (b8s V) _ (fun w' hS' => hS') Try.underlying23 rfl HIL.out ?_
              simp only [Act.put, List.getElem_toArray, List.getElem_cons_zero, List.getElem_cons_succ, List.setIfInBounds_toArray, List.set_cons_zero, List.set_cons_succ]
              refine wpS_do _ rfl (by rfl) (fun K hK => ?_)
              go_simp
              refine (idK_any gy Ay b V HV.out cy k wq.drew RYQ.out.drew (fun ad h => (HY7.out ad h).1) hm20 hcy hcy2 NQ.out).mono ?_
              rintro e wa ⟨rfl, hNa, hga⟩
              have hg1 : wq.grownBy wa (some gy) := grown_trans1 (World.grownBy_drew_self wq gy) hga
              have hrow9 : wa.heap[g8]? = some (.cells (b8s V).toArray 23 (0, 0)) := (hga.block g8 (Array.getElem?_eq_some_iff.1 R8Q.out).1 (by simp; omega)).trans R8Q.out
              have NA := Lib.hid hNa
              have R8A := Lib.hid hrow9
              have RYA := Lib.hid (RYQ.out.grown hg1 (fun ad e h => (HY7.out ad e).1 (Option.some.inj h)))
              have R0A := Lib.hid (show Rd wa A0 (b8s b) from by
                by_cases hb0 : b = []
                · rw [hb0]; exact Rd.nil
                · refine R0Q.out.grown hg1 (fun ad e h => ?_)
                  have h1 : ad.block < w.heap.size := by
                    subst e
                    exact Rd.lt (b := ad.block) (o := ad.off) (s := ad.spot) H0.out (by rw [b8s_length]; cases b with | nil => exact absurd rfl hb0 | cons c r => simp)
                  have := Option.some.inj h
                  have hx5 := HB5.out.size
                  omega)
              have HBA := Lib.hid (bel_grown HBQ.out HBQ.out.size hg1 (by have hx5 := HB5.out.size; omega))
              refine hK.out _ _ (range_of_row R8A.out) (fun hS => ?_)
              clear hK hS hNa hga hrow9 hg1 NQ RYQ R8Q R0Q HBQ
              (repeat (first | (refine wpS_pass _ rfl (by rfl) ?_; simp only [Act.put, List.getElem_toArray, List.getElem_cons_zero, List.getElem_cons_succ, List.setIfInBounds_toArray, List.set_cons_zero, List.set_cons_succ]) | (refine wpS_take _ ?_ rfl (by rfl) ?_ ?_; rotate_left; (focus (intro w' hS'; (try dsimp only at hS'); (repeat (have hS1 := hS'.1; replace hS' := hS'.2)); go_simp; (try with_reducible rfl); done)); simp only [Act.put, List.getElem_toArray, List.getElem_cons_zero, List.getElem_cons_succ, List.setIfInBounds_toArray, List.set_cons_zero, List.set_cons_succ])))
              refine wpS_do _ rfl (by rfl) (fun K hK => ?_)
              go_simp
              refine (sumsK_any gy _ V (k + 1) wa NA.out).mono ?_
              rw [HSK1.out]
              rintro e w' ⟨rfl, rfl⟩
              refine hK.out _ _ (range_of_row R8A.out) (fun hS => ?_)
              clear hK hS
              (repeat (first | (refine wpS_pass _ rfl (by rfl) ?_; simp only [Act.put, List.getElem_toArray, List.getElem_cons_zero, List.getElem_cons_succ, List.setIfInBounds_toArray, List.set_cons_zero, List.set_cons_succ]) | (refine wpS_take _ ?_ rfl (by rfl) ?_ ?_; rotate_left; (focus (intro w' hS'; (try dsimp only at hS'); (repeat (have hS1 := hS'.1; replace hS' := hS'.2)); go_simp; (try with_reducible rfl); done)); simp only [Act.put, List.getElem_toArray, List.getElem_cons_zero, List.getElem_cons_succ, List.setIfInBounds_toArray, List.set_cons_zero, List.set_cons_succ])))
              refine wpS_do _ rfl (by rfl) (fun K hK => ?_)
              go_simp
              refine (bytesK_any gy Ay b V cy (k + 1) wa RYA.out hm20 NA.out).mono ?_
              rintro e wc ⟨v, rfl, hOc⟩
              have hbc := hOc.bel
              obtain ⟨A13, n13, c13, rfl, hn13, _, _, hr13, _⟩ := hOc.sliceN
              have hr0 := R0A.out.below hbc
              refine hK.out _ _ (range_of_row ((hbc.block g8 (Array.getElem?_eq_some_iff.1 R8A.out).1).trans R8A.out)) (fun hS => ?_)
              have HR13 := Lib.hid hr13
              have HR0 := Lib.hid hr0
              have H13 := Lib.hid hn13
              have HBC := Lib.hid hbc
              clear hK hS hOc hr13 hr0 hn13 hbc
              refine wpS_do _ rfl (by rfl) (fun K hK => ?_)
              go_simp
              refine (same_n true A13 A0 b b c13 c0 wc HR13.out HR0.out n13 b.length H13.out rfl (by omega) (by omega) (by simp)).mono ?_
              rintro e wd ⟨rfl, hbd⟩
              refine hK.out _ _ (range_of_row ((hbd.block g8 (Array.getElem?_eq_some_iff.1 ((HBC.out.block g8 (Array.getElem?_eq_some_iff.1 R8A.out).1).trans R8A.out)).1).trans ((HBC.out.block g8 (Array.getElem?_eq_some_iff.1 R8A.out).1).trans R8A.out))) (fun hS => ?_)
              clear hK hS
              (repeat (first | (refine wpS_pass _ rfl (by rfl) ?_; simp only [Act.put, List.getElem_toArray, List.getElem_cons_zero, List.getElem_cons_succ, List.setIfInBounds_toArray, List.set_cons_zero, List.set_cons_succ]) | (refine wpS_take _ ?_ rfl (by rfl) ?_ ?_; rotate_left; (focus (intro w' hS'; (try dsimp only at hS'); (repeat (have hS1 := hS'.1; replace hS' := hS'.2)); go_simp; (try with_reducible rfl); done)); simp only [Act.put, List.getElem_toArray, List.getElem_cons_zero, List.getElem_cons_succ, List.setIfInBounds_toArray, List.set_cons_zero, List.set_cons_succ])))
              refine wpS_done ?_
              clear heq
              go_wp2_with fail
              go_ret
              exact ⟨rfl, ext_trans HBA.out (ext_trans HBC.out hbd)⟩
end Go.Proofs.Ytkiggfahcakdeaa
