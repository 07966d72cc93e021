
/- The document's Write. (Printed by wip/genL14.py.) -/

import Derived.Test.YtfjfidhhmidflaaLet13

namespace Go.Proofs.Ytfjfidhhmidflaa

set_option linter.unusedVariables false

set_option linter.unusedSimpArgs false

open Go.RowKit

theorem rtext_s (s : ByteArray) (w : World) (hs : s.size ≤ 1099511627776) : Calls Try.prog 44 #[.string s] w fun e w' => Wr w w' e (textB s.data.toList) := by
  refine (rtext_any s w (by omega)).mono ?_
  rintro e w' ⟨v, rfl, h⟩
  exact h.wr
theorem rid_s (id : List UInt8) (w : World) (hid : id.length = 32) : Calls Try.prog 45 #[.agg (b8s id).toArray] w fun e w' => Wr w w' e id := by
  refine (rid_any id w hid).mono ?_
  rintro e w' ⟨v, rfl, h⟩
  exact h.wr
theorem rfour_s (u : Nat) (w : World) (hu : u < 4294967296) : Calls Try.prog 47 #[.int .u32 (u : Int)] w fun e w' => Wr w w' e (fourB u) := by
  refine (rfour_any u w hu).mono ?_
  rintro e w' ⟨v, rfl, h⟩
  exact h.wr

set_option maxRecDepth 100000 in
set_option maxHeartbeats 8000000 in
theorem rwrite_ok1 (l : Lt) (p : LtP) (w : World) (hin : LtIn w l p) (hok : rightL l = true) (hk : l.kind = 1) :
    Calls Try.prog 17 #[l.val p] w fun e w' => Wr w w' e (writeB l) := by
  obtain ⟨W1, hW1⟩ : ∃ W, w.alloc (.cells (l.cells p).toArray 37) = W := ⟨_, rfl⟩
  obtain ⟨r1, b1, s1⟩ := new_row hW1
  obtain ⟨g, hg⟩ : ∃ g, w.heap.size = g := ⟨_, rfl⟩
  rw [hg] at r1
  have HGS : Hid (g < W1.heap.size) := Lib.hid (Array.getElem?_eq_some_iff.1 r1).1
  have HR1 := Lib.hid r1
  have HB1 := Lib.hid b1
  have HIN := Lib.hid (hin.below b1)
  have HLN := Lib.hid hin.len
  have HF : Hid (∀ W, Below W1.heap.size W1 W → W.heap[g]? = some (.cells (l.cells p).toArray 37 (0, 0))) := Lib.hid (fun W h => (h.block g HGS.out).trans HR1.out)
  have HBW : Hid (∀ W, Below W1.heap.size W1 W → Below w.heap.size w W) := Lib.hid (fun W h => HB1.out.trans (h.mono (by rw [hg]; exact Nat.le_of_lt HGS.out)))
  unfold Lt.val
  clear b1 s1 hin
  have HOK := Lib.hid hok
  have HKK := Lib.hid hk
  obtain ⟨x0, x1, x2, x3, _⟩ := ltRow_of r1 HLN.out
  have HS0 := Lib.hid (And.intro x0 (And.intro x1 (And.intro x2 (And.intro x3 (Below.refl W1.heap.size W1).drew))))
  have HSC : Hid (∀ W, Below W1.heap.size W1 W → W.cell? ⟨g, 0, none⟩ = some (.int .i64 l.kind) ∧ W.cell? ⟨g, 1, none⟩ = some (.int .i64 l.from_) ∧ W.cell? ⟨g, 2, none⟩ = some (.int .i64 l.to_) ∧ W.cell? ⟨g, 3, none⟩ = some (.int .i64 l.session) ∧ Below W1.heap.size W1 W) := Lib.hid (fun W h => by
    obtain ⟨a0, a1, a2, a3, _⟩ := ltRow_of (HF.out W h) HLN.out
    exact ⟨a0, a1, a2, a3, h⟩)
  clear hok hk r1 x0 x1 x2 x3
  go_enter Try.func17, Try.ntmps17
  go_wp2_with fail
  clear hW1 hg
  refine wp_region_sched (fun w' => w'.cell? ⟨g, 0, none⟩ = some (.int .i64 l.kind) ∧ w'.cell? ⟨g, 1, none⟩ = some (.int .i64 l.from_) ∧ w'.cell? ⟨g, 2, none⟩ = some (.int .i64 l.to_) ∧ w'.cell? ⟨g, 3, none⟩ = some (.int .i64 l.session) ∧ Below W1.heap.size W1 w') [(true, 1), (true, 2), (true, 4), (true, 5), (true, 7), (true, 8), (true, 10), (true, 11), (false, 0), (false, 3), (false, 6), (false, 9), (false, 12), (true, 13)] (by kernel_rfl) (by kernel_rfl) rfl (by kernel_rfl) HS0.out ?_
  (repeat (first | (refine wpS_pass _ rfl (by rfl) ?_; simp only [Act.put, List.getElem_toArray, List.getElem_cons_zero, List.getElem_cons_succ, List.setIfInBounds_toArray, List.set_cons_zero, List.set_cons_succ]) | (refine wpS_take _ ?_ rfl (by rfl) ?_ ?_; rotate_left; (focus (intro w' hS'; (try dsimp only at hS'); (repeat (have hS1 := hS'.1; replace hS' := hS'.2)); go_simp; (try with_reducible rfl); done)); simp only [Act.put, List.getElem_toArray, List.getElem_cons_zero, List.getElem_cons_succ, List.setIfInBounds_toArray, List.set_cons_zero, List.set_cons_succ])))
  refine wpS_do _ rfl (by rfl) (fun K hK => ?_)
  go_simp
  have HBE : Hid (Below W1.heap.size W1 (W1.drew.alloc (.cells #[] 5))) := Lib.hid ((Below.refl _ _).drew.alloc (Nat.le_refl _) _)
  have HSE : Hid (Sl (W1.drew.alloc (.cells #[] 5)) (.slice (some ⟨W1.heap.size, 0, none⟩) 0 0) []) := Lib.hid ⟨_, _, _, rfl, rfl, Nat.le_refl _, by unfold maxLen; omega, Rd.nil⟩
  refine hK.out _ _ (HSC.out _ HBE.out) (fun hS => ?_)
  clear hK hS
  refine wpS_do _ rfl (by rfl) (fun K hK => ?_)
  go_simp
  refine (rnum_s _ _ l.kind _ HSE.out (by simp)).mono ?_
  rintro e w2 ⟨v2, rfl, hs2, hb2⟩
  have HB2 := Lib.hid (ext_trans HBE.out hb2)
  have HS2 := Lib.hid hs2
  refine hK.out _ _ (HSC.out _ HB2.out) (fun hS => ?_)
  clear hK hS hs2 hb2
  refine wpS_do _ rfl (by rfl) (fun K hK => ?_)
  go_simp
  refine (rnum_s _ _ l.from_ _ HS2.out (by have h1 := (numB_len l.kind).2; simp only [List.length_append, List.length_nil]; omega)).mono ?_
  rintro e w3 ⟨v3, rfl, hs3, hb3⟩
  have HB3 := Lib.hid (ext_trans HB2.out hb3)
  have HS3 := Lib.hid hs3
  refine hK.out _ _ (HSC.out _ HB3.out) (fun hS => ?_)
  clear hK hS hs3 hb3
  refine wpS_do _ rfl (by rfl) (fun K hK => ?_)
  go_simp
  refine (rnum_s _ _ l.to_ _ HS3.out (by have h1 := (numB_len l.kind).2; have h2 := (numB_len l.from_).2; simp only [List.length_append, List.length_nil]; omega)).mono ?_
  rintro e w4 ⟨v4, rfl, hs4, hb4⟩
  have HB4 := Lib.hid (ext_trans HB3.out hb4)
  have HS4 := Lib.hid hs4
  refine hK.out _ _ (HSC.out _ HB4.out) (fun hS => ?_)
  clear hK hS hs4 hb4
  refine wpS_do _ rfl (by rfl) (fun K hK => ?_)
  go_simp
  refine (rnum_s _ _ l.session _ HS4.out (by have h1 := (numB_len l.kind).2; have h2 := (numB_len l.from_).2; have h3 := (numB_len l.to_).2; simp only [List.length_append, List.length_nil]; omega)).mono ?_
  rintro e wr ⟨v5, rfl, hs5, hb5⟩
  have HBQ := Lib.hid (ext_trans HB4.out hb5)
  have HSH : Hid (Sl wr v5 (headW l)) := Lib.hid (by unfold headW; simpa [List.append_assoc] using hs5)
  refine hK.out _ _ (HSC.out _ HBQ.out) (fun hS => ?_)
  clear hK hS hs5 hb5 HS0 HBE HSE HB2 HS2 HB3 HS3 HB4 HS4
  (repeat (first | (refine wpS_pass _ rfl (by rfl) ?_; simp only [Act.put, List.getElem_toArray, List.getElem_cons_zero, List.getElem_cons_succ, List.setIfInBounds_toArray, List.set_cons_zero, List.set_cons_succ]) | (refine wpS_take _ ?_ rfl (by rfl) ?_ ?_; rotate_left; (focus (intro w' hS'; (try dsimp only at hS'); (repeat (have hS1 := hS'.1; replace hS' := hS'.2)); go_simp; (try with_reducible rfl); done)); simp only [Act.put, List.getElem_toArray, List.getElem_cons_zero, List.getElem_cons_succ, List.setIfInBounds_toArray, List.set_cons_zero, List.set_cons_succ])))
  refine wpS_done ?_
  have HINQ := Lib.hid (HIN.out.below HBQ.out)
  obtain ⟨y0, _, _, _, y4, y5, y6, y7, y8, y9, yp⟩ := ltRow_of (HF.out _ HBQ.out) HLN.out
  have HYP := Lib.hid yp
  clear yp
  have d1 : (l.kind == 2) = false := by rw [HKK.out]; rfl
  have d2 : (l.kind == 3) = false := by rw [HKK.out]; rfl
  have d3 : (l.kind == 4) = false := by rw [HKK.out]; rfl
  have HSZ : Hid (Sl wr _ (inW l)) := Lib.hid (by have h := HSH.out; unfold inW; rw [bodyW_1 (by have := HKK.out; omega) (by have := HKK.out; omega) (by have := HKK.out; omega), List.append_nil]; exact h)
  have HBZ := HBQ
  go_wp2_with fail
  refine (rsum_s _ _ wr HSZ.out).mono ?_
  rintro e wz1 ⟨rfl, rfl⟩
  go_wp2_with fail
  refine (rfour_s _ wr (crc_lt _)).mono ?_
  rintro e wz2 ⟨vz, rfl, hsz, hbz⟩
  have HSX := Lib.hid (HSZ.out.below hbz)
  have HSY := Lib.hid hsz
  have HBY := Lib.hid (ext_trans HBZ.out hbz)
  clear hsz hbz
  go_wp2_with fail
  refine (join_s _ _ _ _ wz2 HSX.out HSY.out (by have hf : (fourB (crc (inW l)).toNat).length = 4 := rfl; rw [hf]; unfold inW; rw [bodyW_1 (by have := HKK.out; omega) (by have := HKK.out; omega) (by have := HKK.out; omega), List.append_nil]; have := headW_len l; omega)).mono ?_
  rintro e wz3 ⟨vy, rfl, hsy, hby⟩
  go_wp2_with fail
  go_ret
  exact ⟨vy, rfl, hsy, HBW.out _ (ext_trans HBY.out hby)⟩


set_option maxRecDepth 100000 in
set_option maxHeartbeats 8000000 in
theorem rwrite_ok2 (l : Lt) (p : LtP) (w : World) (hin : LtIn w l p) (hok : rightL l = true) (hk : l.kind = 2) :
    Calls Try.prog 17 #[l.val p] w fun e w' => Wr w w' e (writeB l) := by
  obtain ⟨W1, hW1⟩ : ∃ W, w.alloc (.cells (l.cells p).toArray 37) = W := ⟨_, rfl⟩
  obtain ⟨r1, b1, s1⟩ := new_row hW1
  obtain ⟨g, hg⟩ : ∃ g, w.heap.size = g := ⟨_, rfl⟩
  rw [hg] at r1
  have HGS : Hid (g < W1.heap.size) := Lib.hid (Array.getElem?_eq_some_iff.1 r1).1
  have HR1 := Lib.hid r1
  have HB1 := Lib.hid b1
  have HIN := Lib.hid (hin.below b1)
  have HLN := Lib.hid hin.len
  have HF : Hid (∀ W, Below W1.heap.size W1 W → W.heap[g]? = some (.cells (l.cells p).toArray 37 (0, 0))) := Lib.hid (fun W h => (h.block g HGS.out).trans HR1.out)
  have HBW : Hid (∀ W, Below W1.heap.size W1 W → Below w.heap.size w W) := Lib.hid (fun W h => HB1.out.trans (h.mono (by rw [hg]; exact Nat.le_of_lt HGS.out)))
  unfold Lt.val
  clear b1 s1 hin
  have HOK := Lib.hid hok
  have HKK := Lib.hid hk
  obtain ⟨x0, x1, x2, x3, _⟩ := ltRow_of r1 HLN.out
  have HS0 := Lib.hid (And.intro x0 (And.intro x1 (And.intro x2 (And.intro x3 (Below.refl W1.heap.size W1).drew))))
  have HSC : Hid (∀ W, Below W1.heap.size W1 W → W.cell? ⟨g, 0, none⟩ = some (.int .i64 l.kind) ∧ W.cell? ⟨g, 1, none⟩ = some (.int .i64 l.from_) ∧ W.cell? ⟨g, 2, none⟩ = some (.int .i64 l.to_) ∧ W.cell? ⟨g, 3, none⟩ = some (.int .i64 l.session) ∧ Below W1.heap.size W1 W) := Lib.hid (fun W h => by
    obtain ⟨a0, a1, a2, a3, _⟩ := ltRow_of (HF.out W h) HLN.out
    exact ⟨a0, a1, a2, a3, h⟩)
  clear hok hk r1 x0 x1 x2 x3
  go_enter Try.func17, Try.ntmps17
  go_wp2_with fail
  clear hW1 hg
  refine wp_region_sched (fun w' => w'.cell? ⟨g, 0, none⟩ = some (.int .i64 l.kind) ∧ w'.cell? ⟨g, 1, none⟩ = some (.int .i64 l.from_) ∧ w'.cell? ⟨g, 2, none⟩ = some (.int .i64 l.to_) ∧ w'.cell? ⟨g, 3, none⟩ = some (.int .i64 l.session) ∧ Below W1.heap.size W1 w') [(true, 1), (true, 2), (true, 4), (true, 5), (true, 7), (true, 8), (true, 10), (true, 11), (false, 0), (false, 3), (false, 6), (false, 9), (false, 12), (true, 13)] (by kernel_rfl) (by kernel_rfl) rfl (by kernel_rfl) HS0.out ?_
  (repeat (first | (refine wpS_pass _ rfl (by rfl) ?_; simp only [Act.put, List.getElem_toArray, List.getElem_cons_zero, List.getElem_cons_succ, List.setIfInBounds_toArray, List.set_cons_zero, List.set_cons_succ]) | (refine wpS_take _ ?_ rfl (by rfl) ?_ ?_; rotate_left; (focus (intro w' hS'; (try dsimp only at hS'); (repeat (have hS1 := hS'.1; replace hS' := hS'.2)); go_simp; (try with_reducible rfl); done)); simp only [Act.put, List.getElem_toArray, List.getElem_cons_zero, List.getElem_cons_succ, List.setIfInBounds_toArray, List.set_cons_zero, List.set_cons_succ])))
  refine wpS_do _ rfl (by rfl) (fun K hK => ?_)
  go_simp
  have HBE : Hid (Below W1.heap.size W1 (W1.drew.alloc (.cells #[] 5))) := Lib.hid ((Below.refl _ _).drew.alloc (Nat.le_refl _) _)
  have HSE : Hid (Sl (W1.drew.alloc (.cells #[] 5)) (.slice (some ⟨W1.heap.size, 0, none⟩) 0 0) []) := Lib.hid ⟨_, _, _, rfl, rfl, Nat.le_refl _, by unfold maxLen; omega, Rd.nil⟩
  refine hK.out _ _ (HSC.out _ HBE.out) (fun hS => ?_)
  clear hK hS
  refine wpS_do _ rfl (by rfl) (fun K hK => ?_)
  go_simp
  refine (rnum_s _ _ l.kind _ HSE.out (by simp)).mono ?_
  rintro e w2 ⟨v2, rfl, hs2, hb2⟩
  have HB2 := Lib.hid (ext_trans HBE.out hb2)
  have HS2 := Lib.hid hs2
  refine hK.out _ _ (HSC.out _ HB2.out) (fun hS => ?_)
  clear hK hS hs2 hb2
  refine wpS_do _ rfl (by rfl) (fun K hK => ?_)
  go_simp
  refine (rnum_s _ _ l.from_ _ HS2.out (by have h1 := (numB_len l.kind).2; simp only [List.length_append, List.length_nil]; omega)).mono ?_
  rintro e w3 ⟨v3, rfl, hs3, hb3⟩
  have HB3 := Lib.hid (ext_trans HB2.out hb3)
  have HS3 := Lib.hid hs3
  refine hK.out _ _ (HSC.out _ HB3.out) (fun hS => ?_)
  clear hK hS hs3 hb3
  refine wpS_do _ rfl (by rfl) (fun K hK => ?_)
  go_simp
  refine (rnum_s _ _ l.to_ _ HS3.out (by have h1 := (numB_len l.kind).2; have h2 := (numB_len l.from_).2; simp only [List.length_append, List.length_nil]; omega)).mono ?_
  rintro e w4 ⟨v4, rfl, hs4, hb4⟩
  have HB4 := Lib.hid (ext_trans HB3.out hb4)
  have HS4 := Lib.hid hs4
  refine hK.out _ _ (HSC.out _ HB4.out) (fun hS => ?_)
  clear hK hS hs4 hb4
  refine wpS_do _ rfl (by rfl) (fun K hK => ?_)
  go_simp
  refine (rnum_s _ _ l.session _ HS4.out (by have h1 := (numB_len l.kind).2; have h2 := (numB_len l.from_).2; have h3 := (numB_len l.to_).2; simp only [List.length_append, List.length_nil]; omega)).mono ?_
  rintro e wr ⟨v5, rfl, hs5, hb5⟩
  have HBQ := Lib.hid (ext_trans HB4.out hb5)
  have HSH : Hid (Sl wr v5 (headW l)) := Lib.hid (by unfold headW; simpa [List.append_assoc] using hs5)
  refine hK.out _ _ (HSC.out _ HBQ.out) (fun hS => ?_)
  clear hK hS hs5 hb5 HS0 HBE HSE HB2 HS2 HB3 HS3 HB4 HS4
  (repeat (first | (refine wpS_pass _ rfl (by rfl) ?_; simp only [Act.put, List.getElem_toArray, List.getElem_cons_zero, List.getElem_cons_succ, List.setIfInBounds_toArray, List.set_cons_zero, List.set_cons_succ]) | (refine wpS_take _ ?_ rfl (by rfl) ?_ ?_; rotate_left; (focus (intro w' hS'; (try dsimp only at hS'); (repeat (have hS1 := hS'.1; replace hS' := hS'.2)); go_simp; (try with_reducible rfl); done)); simp only [Act.put, List.getElem_toArray, List.getElem_cons_zero, List.getElem_cons_succ, List.setIfInBounds_toArray, List.set_cons_zero, List.set_cons_succ])))
  refine wpS_done ?_
  have HINQ := Lib.hid (HIN.out.below HBQ.out)
  obtain ⟨y0, _, _, _, y4, y5, y6, y7, y8, y9, yp⟩ := ltRow_of (HF.out _ HBQ.out) HLN.out
  have HYP := Lib.hid yp
  clear yp
  have d1 : (l.kind == 2) = true := by rw [HKK.out]; rfl
  have HRI := Lib.hid (right_refs HOK.out HKK.out)
  clear y5 y6 y7 y8 y9
  go_wp2_with fail
  refine (rnum_s _ _ (l.refs.length : Int) wr HSH.out (by have := headW_len l; omega)).mono ?_
  rintro e w7 ⟨v7, rfl, hs7, hb7⟩
  have HB7 := Lib.hid (ext_trans HBQ.out hb7)
  have HS7 : Hid (Sl w7 v7 (headW l ++ (numB (clampN (l.refs.length : Int)) ++ (l.refs.take 0).flatMap refB))) := Lib.hid (by simpa using hs7)
  clear hs7 hb7 y4 y0 d1
  have hl1 := HINQ.out.rr.2.1
  have hl2 := HINQ.out.rr.2.2
  have HRK : Hid (∀ r ∈ l.refs, r.name.size ≤ 60 ∧ r.id.length = 32) := Lib.hid (fun r hr => by
    obtain ⟨i, hi, rfl⟩ := List.getElem_of_mem hr
    exact ⟨nameS_size (refsAll_get HRI.out.1 i hi).1, (HINQ.out.rok _ hr).1⟩)
  have HNL := Lib.hid (numB_len (l.refs.length : Int)).2
  go_wp2_with fail
  go_loopg [3, 4] (l.refs.length * 1) (fun gk_ s3 s wr => ∃ (k : Nat), k ≤ l.refs.length ∧ gk_ = l.refs.length - k ∧ s = .int .i64 (k : Int) ∧ Hid (Sl wr s3 (headW l ++ (numB (clampN (l.refs.length : Int)) ++ (l.refs.take k).flatMap refB))) ∧ Hid (Below W1.heap.size W1 wr))
  case atStart => exact ⟨0, by omega, by omega, rfl, HS7, HB7⟩
  case round =>
  clear HS7 HB7 HSH HBQ HINQ
  obtain ⟨k, hk, rfl, rfl, HS, HBQ⟩ := hrel
  obtain ⟨_, _, _, _, y4, _⟩ := ltRow_of (HF.out _ HBQ.out) HLN.out
  by_cases hlt : k < l.refs.length
  · have HINQ := Lib.hid (HIN.out.below HBQ.out)
    have HO := Lib.hid HINQ.out.rok
    have hpos : 0 < (rfc l.refs).length := by rw [rfc_length HO.out]; omega
    have hrd := HINQ.out.rr.1
    obtain ⟨b, off, hA, _⟩ := hrd.all hpos
    rw [hA] at hrd y4
    have RS := rd_ref hrd HO.out k hlt
    have hso := rOk_get HO.out k hlt
    have hst := refB_take hlt
    obtain ⟨s, hs⟩ : ∃ s, l.refs[k] = s := ⟨_, rfl⟩
    have hsz := HRK.out _ (List.getElem_mem hlt)
    rw [hs] at RS hso hst hsz
    have HST := Lib.hid hst
    have HSO := Lib.hid hso
    have HSZ1 := Lib.hid hsz.1
    have HIW := Lib.hid (info_arr32 s.id hso.1)
    have GL := Lib.hid (hrd.lt hpos)
    have HC0 : Hid (∀ w', Below wr.heap.size wr w' → w'.cell? ⟨b, off + k * 33, none⟩ = some (.string s.name)) := Lib.hid (fun w' hb => cell_below (ref_cell0 RS) GL.out hb)
    have HC1 := Lib.hid (ref_range1 RS)
    have HLE := Lib.hid (refB_flat_len HRK.out k)
    have HLR := Lib.hid HRI.out.2
    have i1 : (k : Int) < (l.refs.length : Int) := by omega
    have i2 : (l.refs.length : Int) ≤ (p.rc : Int) := by omega
    have HGW := Lib.hid (Nat.lt_of_lt_of_le HGS.out HBQ.out.size)
    have HSK : Hid (∀ W, Below wr.heap.size wr W → W.cell? ⟨g, 4, none⟩ = some (.slice (some ⟨b, off, none⟩) l.refs.length p.rc) ∧ Below wr.heap.size wr W) := Lib.hid (fun W h => ⟨cell_below y4 HGW.out h, h⟩)
    clear hrd hpos hs hst hso hsz hA RS
    go_wp2_with fail
    clear y4
    refine wp_region_sched (fun w' => w'.cell? ⟨g, 4, none⟩ = some (.slice (some ⟨b, off, none⟩) l.refs.length p.rc) ∧ Below wr.heap.size wr w') [(true, 0), (true, 1), (true, 2), (true, 3), (true, 4), (true, 5), (true, 6), (true, 8), (true, 9), (true, 10), (true, 11), (true, 12), (true, 13), (false, 7), (false, 14), (false, 15), (false, 16), (true, 17)] (by kernel_rfl) (by kernel_rfl) rfl (by kernel_rfl) (HSK.out _ (Below.refl _ _).drew) ?_
    (first | (refine wpS_pass _ rfl (by rfl) ?_; simp only [Act.put, List.getElem_toArray, List.getElem_cons_zero, List.getElem_cons_succ, List.setIfInBounds_toArray, List.set_cons_zero, List.set_cons_succ]) | (refine wpS_take _ ?_ rfl (by rfl) ?_ ?_; rotate_left; (focus (intro w' hS'; (try dsimp only at hS'); (repeat (have hS1 := hS'.1; replace hS' := hS'.2)); go_simp; (try with_reducible rfl); done)); simp only [Act.put, List.getElem_toArray, List.getElem_cons_zero, List.getElem_cons_succ, List.setIfInBounds_toArray, List.set_cons_zero, List.set_cons_succ]))
    (first | (refine wpS_pass _ rfl (by rfl) ?_; simp only [Act.put, List.getElem_toArray, List.getElem_cons_zero, List.getElem_cons_succ, List.setIfInBounds_toArray, List.set_cons_zero, List.set_cons_succ]) | (refine wpS_take _ ?_ rfl (by rfl) ?_ ?_; rotate_left; (focus (intro w' hS'; (try dsimp only at hS'); (repeat (have hS1 := hS'.1; replace hS' := hS'.2)); go_simp; (try with_reducible rfl); done)); simp only [Act.put, List.getElem_toArray, List.getElem_cons_zero, List.getElem_cons_succ, List.setIfInBounds_toArray, List.set_cons_zero, List.set_cons_succ]))
    (first | (refine wpS_pass _ rfl (by rfl) ?_; simp only [Act.put, List.getElem_toArray, List.getElem_cons_zero, List.getElem_cons_succ, List.setIfInBounds_toArray, List.set_cons_zero, List.set_cons_succ]) | (refine wpS_take _ ?_ rfl (by rfl) ?_ ?_; rotate_left; (focus (intro w' hS'; (try dsimp only at hS'); (repeat (have hS1 := hS'.1; replace hS' := hS'.2)); go_simp; (try with_reducible rfl); done)); simp only [Act.put, List.getElem_toArray, List.getElem_cons_zero, List.getElem_cons_succ, List.setIfInBounds_toArray, List.set_cons_zero, List.set_cons_succ]))
    (first | (refine wpS_pass _ rfl (by rfl) ?_; simp only [Act.put, List.getElem_toArray, List.getElem_cons_zero, List.getElem_cons_succ, List.setIfInBounds_toArray, List.set_cons_zero, List.set_cons_succ]) | (refine wpS_take _ ?_ rfl (by rfl) ?_ ?_; rotate_left; (focus (intro w' hS'; (try dsimp only at hS'); (repeat (have hS1 := hS'.1; replace hS' := hS'.2)); go_simp; (try with_reducible rfl); done)); simp only [Act.put, List.getElem_toArray, List.getElem_cons_zero, List.getElem_cons_succ, List.setIfInBounds_toArray, List.set_cons_zero, List.set_cons_succ]))
    (first | (refine wpS_pass _ rfl (by rfl) ?_; simp only [Act.put, List.getElem_toArray, List.getElem_cons_zero, List.getElem_cons_succ, List.setIfInBounds_toArray, List.set_cons_zero, List.set_cons_succ]) | (refine wpS_take _ ?_ rfl (by rfl) ?_ ?_; rotate_left; (focus (intro w' hS'; (try dsimp only at hS'); (repeat (have hS1 := hS'.1; replace hS' := hS'.2)); go_simp; (try with_reducible rfl); done)); simp only [Act.put, List.getElem_toArray, List.getElem_cons_zero, List.getElem_cons_succ, List.setIfInBounds_toArray, List.set_cons_zero, List.set_cons_succ]))
    (first | (refine wpS_pass _ rfl (by rfl) ?_; simp only [Act.put, List.getElem_toArray, List.getElem_cons_zero, List.getElem_cons_succ, List.setIfInBounds_toArray, List.set_cons_zero, List.set_cons_succ]) | (refine wpS_take _ ?_ rfl (by rfl) ?_ ?_; rotate_left; (focus (intro w' hS'; (try dsimp only at hS'); (repeat (have hS1 := hS'.1; replace hS' := hS'.2)); go_simp; (try with_reducible rfl); done)); simp only [Act.put, List.getElem_toArray, List.getElem_cons_zero, List.getElem_cons_succ, List.setIfInBounds_toArray, List.set_cons_zero, List.set_cons_succ]))
    refine wpS_take _ (.string s.name) rfl (by rfl) (fun w' hS' => by have hq := HC0.out w' hS'.2; go_simp) ?_
    simp only [Act.put, List.getElem_toArray, List.getElem_cons_zero, List.getElem_cons_succ, List.setIfInBounds_toArray, List.set_cons_zero, List.set_cons_succ]
    (first | (refine wpS_pass _ rfl (by rfl) ?_; simp only [Act.put, List.getElem_toArray, List.getElem_cons_zero, List.getElem_cons_succ, List.setIfInBounds_toArray, List.set_cons_zero, List.set_cons_succ]) | (refine wpS_take _ ?_ rfl (by rfl) ?_ ?_; rotate_left; (focus (intro w' hS'; (try dsimp only at hS'); (repeat (have hS1 := hS'.1; replace hS' := hS'.2)); go_simp; (try with_reducible rfl); done)); simp only [Act.put, List.getElem_toArray, List.getElem_cons_zero, List.getElem_cons_succ, List.setIfInBounds_toArray, List.set_cons_zero, List.set_cons_succ]))
    (first | (refine wpS_pass _ rfl (by rfl) ?_; simp only [Act.put, List.getElem_toArray, List.getElem_cons_zero, List.getElem_cons_succ, List.setIfInBounds_toArray, List.set_cons_zero, List.set_cons_succ]) | (refine wpS_take _ ?_ rfl (by rfl) ?_ ?_; rotate_left; (focus (intro w' hS'; (try dsimp only at hS'); (repeat (have hS1 := hS'.1; replace hS' := hS'.2)); go_simp; (try with_reducible rfl); done)); simp only [Act.put, List.getElem_toArray, List.getElem_cons_zero, List.getElem_cons_succ, List.setIfInBounds_toArray, List.set_cons_zero, List.set_cons_succ]))
    (first | (refine wpS_pass _ rfl (by rfl) ?_; simp only [Act.put, List.getElem_toArray, List.getElem_cons_zero, List.getElem_cons_succ, List.setIfInBounds_toArray, List.set_cons_zero, List.set_cons_succ]) | (refine wpS_take _ ?_ rfl (by rfl) ?_ ?_; rotate_left; (focus (intro w' hS'; (try dsimp only at hS'); (repeat (have hS1 := hS'.1; replace hS' := hS'.2)); go_simp; (try with_reducible rfl); done)); simp only [Act.put, List.getElem_toArray, List.getElem_cons_zero, List.getElem_cons_succ, List.setIfInBounds_toArray, List.set_cons_zero, List.set_cons_succ]))
    (first | (refine wpS_pass _ rfl (by rfl) ?_; simp only [Act.put, List.getElem_toArray, List.getElem_cons_zero, List.getElem_cons_succ, List.setIfInBounds_toArray, List.set_cons_zero, List.set_cons_succ]) | (refine wpS_take _ ?_ rfl (by rfl) ?_ ?_; rotate_left; (focus (intro w' hS'; (try dsimp only at hS'); (repeat (have hS1 := hS'.1; replace hS' := hS'.2)); go_simp; (try with_reducible rfl); done)); simp only [Act.put, List.getElem_toArray, List.getElem_cons_zero, List.getElem_cons_succ, List.setIfInBounds_toArray, List.set_cons_zero, List.set_cons_succ]))
    (first | (refine wpS_pass _ rfl (by rfl) ?_; simp only [Act.put, List.getElem_toArray, List.getElem_cons_zero, List.getElem_cons_succ, List.setIfInBounds_toArray, List.set_cons_zero, List.set_cons_succ]) | (refine wpS_take _ ?_ rfl (by rfl) ?_ ?_; rotate_left; (focus (intro w' hS'; (try dsimp only at hS'); (repeat (have hS1 := hS'.1; replace hS' := hS'.2)); go_simp; (try with_reducible rfl); done)); simp only [Act.put, List.getElem_toArray, List.getElem_cons_zero, List.getElem_cons_succ, List.setIfInBounds_toArray, List.set_cons_zero, List.set_cons_succ]))
    refine wpS_load _ rfl (by rfl) _ _ rfl b (off + k * 33 + 1) rfl (b8s s.id) _ (fun w' hS' => range_below HC1.out GL.out hS'.2) Try.underlying24 rfl HIW.out ?_
    simp only [Act.put, List.getElem_toArray, List.getElem_cons_zero, List.getElem_cons_succ, List.setIfInBounds_toArray, List.set_cons_zero, List.set_cons_succ]
    refine wpS_do _ rfl (by rfl) (fun K hK => ?_)
    go_simp
    refine (rtext_s s.name _ (by have := HSZ1.out; omega)).mono ?_
    rintro e w6 ⟨v6, rfl, hs6, hb6⟩
    have HB6 : Hid (Below wr.heap.size wr w6) := Lib.hid ((Below.refl _ _).drew.trans hb6)
    have HS6 := Lib.hid hs6
    refine hK.out _ _ (HSK.out _ HB6.out) (fun hS => ?_)
    clear hK hS hs6 hb6
    refine wpS_do _ rfl (by rfl) (fun K hK => ?_)
    go_simp
    refine (rid_s s.id w6 HSO.out.1).mono ?_
    rintro e w8 ⟨v8, rfl, hs8, hb8⟩
    have HB8 : Hid (Below wr.heap.size wr w8) := Lib.hid (ext_trans HB6.out hb8)
    have HS8 := Lib.hid hs8
    have HS68 := Lib.hid (HS6.out.below hb8)
    refine hK.out _ _ (HSK.out _ HB8.out) (fun hS => ?_)
    clear hK hS hs8 hb8
    refine wpS_do _ rfl (by rfl) (fun K hK => ?_)
    go_simp
    refine (join_s _ _ _ _ w8 HS68.out HS8.out (by have h5 := textB_len s.name.data.toList; have h6 := HSZ1.out; have h7 := HSO.out.1; rw [size_toList] at h5; omega)).mono ?_
    rintro e w9 ⟨v9, rfl, hs9, hb9⟩
    have HB9 : Hid (Below wr.heap.size wr w9) := Lib.hid (ext_trans HB8.out hb9)
    have HS9 := Lib.hid hs9
    have HS09 := Lib.hid (HS.out.below HB9.out)
    refine hK.out _ _ (HSK.out _ HB9.out) (fun hS => ?_)
    clear hK hS hs9 hb9
    refine wpS_do _ rfl (by rfl) (fun K hK => ?_)
    go_simp
    refine (join_s _ _ _ _ w9 HS09.out HS9.out (by have h1 := HLE.out; have h2 := HNL.out; have h3 := headW_len l; have h4 := HLR.out; have h5 := textB_len s.name.data.toList; have h6 := HSZ1.out; have h7 := HSO.out.1; rw [size_toList] at h5; simp only [List.length_append]; omega)).mono ?_
    rintro e w10 ⟨v10, rfl, hs10, hb10⟩
    have HB10 : Hid (Below wr.heap.size wr w10) := Lib.hid (ext_trans HB9.out hb10)
    have HS10 : Hid (Sl w10 v10 (headW l ++ (numB (clampN (l.refs.length : Int)) ++ (l.refs.take (k + 1)).flatMap refB))) := Lib.hid (by rw [HST.out, show refB s = textB s.name.data.toList ++ s.id from rfl]; simpa [List.append_assoc] using hs10)
    refine hK.out _ _ (HSK.out _ HB10.out) (fun hS => ?_)
    clear hK hS hs10 hb10
    (repeat (first | (refine wpS_pass _ rfl (by rfl) ?_; simp only [Act.put, List.getElem_toArray, List.getElem_cons_zero, List.getElem_cons_succ, List.setIfInBounds_toArray, List.set_cons_zero, List.set_cons_succ]) | (refine wpS_take _ ?_ rfl (by rfl) ?_ ?_; rotate_left; (focus (intro w' hS'; (try dsimp only at hS'); (repeat (have hS1 := hS'.1; replace hS' := hS'.2)); go_simp; (try with_reducible rfl); done)); simp only [Act.put, List.getElem_toArray, List.getElem_cons_zero, List.getElem_cons_succ, List.setIfInBounds_toArray, List.set_cons_zero, List.set_cons_succ])))
    refine wpS_done ?_
    go_wp2_with fail
    go_roundg (l.refs.length - (k + 1))
    case measure => omega
    case rel => exact ⟨k + 1, by omega, rfl, by first | rfl | exact congrArg (Value.int .i64) (by omega) | go_num, HS10, Lib.hid (ext_trans HBQ.out HB10.out)⟩
  obtain rfl : k = l.refs.length := by omega
  have HSZ : Hid (Sl wr _ (inW l)) := Lib.hid (by have h := HS.out; rw [List.take_length] at h; unfold inW; rw [bodyW_2 HKK.out]; unfold refsB; exact h)
  have HBZ := HBQ
  have HLE := Lib.hid (refB_flat_len HRK.out l.refs.length)
  go_wp2_with fail
  refine (rsum_s _ _ wr HSZ.out).mono ?_
  rintro e wz1 ⟨rfl, rfl⟩
  go_wp2_with fail
  refine (rfour_s _ wr (crc_lt _)).mono ?_
  rintro e wz2 ⟨vz, rfl, hsz, hbz⟩
  have HSX := Lib.hid (HSZ.out.below hbz)
  have HSY := Lib.hid hsz
  have HBY := Lib.hid (ext_trans HBZ.out hbz)
  clear hsz hbz
  go_wp2_with fail
  refine (join_s _ _ _ _ wz2 HSX.out HSY.out (by have hf : (fourB (crc (inW l)).toNat).length = 4 := rfl; rw [hf]; have h1 := HLE.out; have h2 := HNL.out; have h3 := headW_len l; have h4 := HRI.out.2; rw [List.take_length] at h1; unfold inW; rw [bodyW_2 HKK.out]; unfold refsB; simp only [List.length_append]; omega)).mono ?_
  rintro e wz3 ⟨vy, rfl, hsy, hby⟩
  go_wp2_with fail
  go_ret
  exact ⟨vy, rfl, hsy, HBW.out _ (ext_trans HBY.out hby)⟩


set_option maxRecDepth 100000 in
set_option maxHeartbeats 8000000 in
theorem rwrite_ok3 (l : Lt) (p : LtP) (w : World) (hin : LtIn w l p) (hok : rightL l = true) (hk : l.kind = 3) :
    Calls Try.prog 17 #[l.val p] w fun e w' => Wr w w' e (writeB l) := by
  obtain ⟨W1, hW1⟩ : ∃ W, w.alloc (.cells (l.cells p).toArray 37) = W := ⟨_, rfl⟩
  obtain ⟨r1, b1, s1⟩ := new_row hW1
  obtain ⟨g, hg⟩ : ∃ g, w.heap.size = g := ⟨_, rfl⟩
  rw [hg] at r1
  have HGS : Hid (g < W1.heap.size) := Lib.hid (Array.getElem?_eq_some_iff.1 r1).1
  have HR1 := Lib.hid r1
  have HB1 := Lib.hid b1
  have HIN := Lib.hid (hin.below b1)
  have HLN := Lib.hid hin.len
  have HF : Hid (∀ W, Below W1.heap.size W1 W → W.heap[g]? = some (.cells (l.cells p).toArray 37 (0, 0))) := Lib.hid (fun W h => (h.block g HGS.out).trans HR1.out)
  have HBW : Hid (∀ W, Below W1.heap.size W1 W → Below w.heap.size w W) := Lib.hid (fun W h => HB1.out.trans (h.mono (by rw [hg]; exact Nat.le_of_lt HGS.out)))
  unfold Lt.val
  clear b1 s1 hin
  have HOK := Lib.hid hok
  have HKK := Lib.hid hk
  obtain ⟨x0, x1, x2, x3, _⟩ := ltRow_of r1 HLN.out
  have HS0 := Lib.hid (And.intro x0 (And.intro x1 (And.intro x2 (And.intro x3 (Below.refl W1.heap.size W1).drew))))
  have HSC : Hid (∀ W, Below W1.heap.size W1 W → W.cell? ⟨g, 0, none⟩ = some (.int .i64 l.kind) ∧ W.cell? ⟨g, 1, none⟩ = some (.int .i64 l.from_) ∧ W.cell? ⟨g, 2, none⟩ = some (.int .i64 l.to_) ∧ W.cell? ⟨g, 3, none⟩ = some (.int .i64 l.session) ∧ Below W1.heap.size W1 W) := Lib.hid (fun W h => by
    obtain ⟨a0, a1, a2, a3, _⟩ := ltRow_of (HF.out W h) HLN.out
    exact ⟨a0, a1, a2, a3, h⟩)
  clear hok hk r1 x0 x1 x2 x3
  go_enter Try.func17, Try.ntmps17
  go_wp2_with fail
  clear hW1 hg
  refine wp_region_sched (fun w' => w'.cell? ⟨g, 0, none⟩ = some (.int .i64 l.kind) ∧ w'.cell? ⟨g, 1, none⟩ = some (.int .i64 l.from_) ∧ w'.cell? ⟨g, 2, none⟩ = some (.int .i64 l.to_) ∧ w'.cell? ⟨g, 3, none⟩ = some (.int .i64 l.session) ∧ Below W1.heap.size W1 w') [(true, 1), (true, 2), (true, 4), (true, 5), (true, 7), (true, 8), (true, 10), (true, 11), (false, 0), (false, 3), (false, 6), (false, 9), (false, 12), (true, 13)] (by kernel_rfl) (by kernel_rfl) rfl (by kernel_rfl) HS0.out ?_
  (repeat (first | (refine wpS_pass _ rfl (by rfl) ?_; simp only [Act.put, List.getElem_toArray, List.getElem_cons_zero, List.getElem_cons_succ, List.setIfInBounds_toArray, List.set_cons_zero, List.set_cons_succ]) | (refine wpS_take _ ?_ rfl (by rfl) ?_ ?_; rotate_left; (focus (intro w' hS'; (try dsimp only at hS'); (repeat (have hS1 := hS'.1; replace hS' := hS'.2)); go_simp; (try with_reducible rfl); done)); simp only [Act.put, List.getElem_toArray, List.getElem_cons_zero, List.getElem_cons_succ, List.setIfInBounds_toArray, List.set_cons_zero, List.set_cons_succ])))
  refine wpS_do _ rfl (by rfl) (fun K hK => ?_)
  go_simp
  have HBE : Hid (Below W1.heap.size W1 (W1.drew.alloc (.cells #[] 5))) := Lib.hid ((Below.refl _ _).drew.alloc (Nat.le_refl _) _)
  have HSE : Hid (Sl (W1.drew.alloc (.cells #[] 5)) (.slice (some ⟨W1.heap.size, 0, none⟩) 0 0) []) := Lib.hid ⟨_, _, _, rfl, rfl, Nat.le_refl _, by unfold maxLen; omega, Rd.nil⟩
  refine hK.out _ _ (HSC.out _ HBE.out) (fun hS => ?_)
  clear hK hS
  refine wpS_do _ rfl (by rfl) (fun K hK => ?_)
  go_simp
  refine (rnum_s _ _ l.kind _ HSE.out (by simp)).mono ?_
  rintro e w2 ⟨v2, rfl, hs2, hb2⟩
  have HB2 := Lib.hid (ext_trans HBE.out hb2)
  have HS2 := Lib.hid hs2
  refine hK.out _ _ (HSC.out _ HB2.out) (fun hS => ?_)
  clear hK hS hs2 hb2
  refine wpS_do _ rfl (by rfl) (fun K hK => ?_)
  go_simp
  refine (rnum_s _ _ l.from_ _ HS2.out (by have h1 := (numB_len l.kind).2; simp only [List.length_append, List.length_nil]; omega)).mono ?_
  rintro e w3 ⟨v3, rfl, hs3, hb3⟩
  have HB3 := Lib.hid (ext_trans HB2.out hb3)
  have HS3 := Lib.hid hs3
  refine hK.out _ _ (HSC.out _ HB3.out) (fun hS => ?_)
  clear hK hS hs3 hb3
  refine wpS_do _ rfl (by rfl) (fun K hK => ?_)
  go_simp
  refine (rnum_s _ _ l.to_ _ HS3.out (by have h1 := (numB_len l.kind).2; have h2 := (numB_len l.from_).2; simp only [List.length_append, List.length_nil]; omega)).mono ?_
  rintro e w4 ⟨v4, rfl, hs4, hb4⟩
  have HB4 := Lib.hid (ext_trans HB3.out hb4)
  have HS4 := Lib.hid hs4
  refine hK.out _ _ (HSC.out _ HB4.out) (fun hS => ?_)
  clear hK hS hs4 hb4
  refine wpS_do _ rfl (by rfl) (fun K hK => ?_)
  go_simp
  refine (rnum_s _ _ l.session _ HS4.out (by have h1 := (numB_len l.kind).2; have h2 := (numB_len l.from_).2; have h3 := (numB_len l.to_).2; simp only [List.length_append, List.length_nil]; omega)).mono ?_
  rintro e wr ⟨v5, rfl, hs5, hb5⟩
  have HBQ := Lib.hid (ext_trans HB4.out hb5)
  have HSH : Hid (Sl wr v5 (headW l)) := Lib.hid (by unfold headW; simpa [List.append_assoc] using hs5)
  refine hK.out _ _ (HSC.out _ HBQ.out) (fun hS => ?_)
  clear hK hS hs5 hb5 HS0 HBE HSE HB2 HS2 HB3 HS3 HB4 HS4
  (repeat (first | (refine wpS_pass _ rfl (by rfl) ?_; simp only [Act.put, List.getElem_toArray, List.getElem_cons_zero, List.getElem_cons_succ, List.setIfInBounds_toArray, List.set_cons_zero, List.set_cons_succ]) | (refine wpS_take _ ?_ rfl (by rfl) ?_ ?_; rotate_left; (focus (intro w' hS'; (try dsimp only at hS'); (repeat (have hS1 := hS'.1; replace hS' := hS'.2)); go_simp; (try with_reducible rfl); done)); simp only [Act.put, List.getElem_toArray, List.getElem_cons_zero, List.getElem_cons_succ, List.setIfInBounds_toArray, List.set_cons_zero, List.set_cons_succ])))
  refine wpS_done ?_
  have HINQ := Lib.hid (HIN.out.below HBQ.out)
  obtain ⟨y0, _, _, _, y4, y5, y6, y7, y8, y9, yp⟩ := ltRow_of (HF.out _ HBQ.out) HLN.out
  have HYP := Lib.hid yp
  clear yp
  have d1 : (l.kind == 2) = false := by rw [HKK.out]; rfl
  have d2 : (l.kind == 3) = true := by rw [HKK.out]; rfl
  have HRI := Lib.hid (right_ids HOK.out HKK.out)
  have HW3 : Hid ((idsB l.wants).length ≤ 4000) := Lib.hid (by
    have h1 := (numB_len (l.wants.length : Int)).2
    have h2 := flat_len HINQ.out.wok l.wants.length
    rw [List.take_length] at h2
    have h3 := HRI.out.2.1
    unfold idsB
    simp only [List.length_append]
    omega)
  have HV3 : Hid ((idsB l.haves).length ≤ 8000) := Lib.hid (by
    have h1 := (numB_len (l.haves.length : Int)).2
    have h2 := flat_len HINQ.out.hok l.haves.length
    rw [List.take_length] at h2
    have h3 := HRI.out.2.2.1
    unfold idsB
    simp only [List.length_append]
    omega)
  have HY := Lib.hid (And.intro y5 (And.intro y6 y7))
  clear y4 y5 y6 y7 y8 y9
  go_wp2_with fail
  clear d1 d2
  refine wp_region_sched (fun w' => w'.cell? ⟨g, 5, none⟩ = some (.slice p.wA l.wants.length p.wc) ∧ w'.cell? ⟨g, 6, none⟩ = some (.slice p.hA l.haves.length p.hc) ∧ w'.cell? ⟨g, 7, none⟩ = some (.int .i64 l.off)) [(true, 0), (true, 1), (true, 2), (true, 4), (true, 5), (true, 7), (true, 8), (false, 3), (false, 6), (false, 9), (true, 10)] (by kernel_rfl) (by kernel_rfl) rfl (by kernel_rfl) HY.out ?_
  (repeat (first | (refine wpS_pass _ rfl (by rfl) ?_; simp only [Act.put, List.getElem_toArray, List.getElem_cons_zero, List.getElem_cons_succ, List.setIfInBounds_toArray, List.set_cons_zero, List.set_cons_succ]) | (refine wpS_take _ ?_ rfl (by rfl) ?_ ?_; rotate_left; (focus (intro w' hS'; (try dsimp only at hS'); (repeat (have hS1 := hS'.1; replace hS' := hS'.2)); go_simp; (try with_reducible rfl); done)); simp only [Act.put, List.getElem_toArray, List.getElem_cons_zero, List.getElem_cons_succ, List.setIfInBounds_toArray, List.set_cons_zero, List.set_cons_succ])))
  have HSK : Hid (∀ W, Below W1.heap.size W1 W → W.cell? ⟨g, 5, none⟩ = some (.slice p.wA l.wants.length p.wc) ∧ W.cell? ⟨g, 6, none⟩ = some (.slice p.hA l.haves.length p.hc) ∧ W.cell? ⟨g, 7, none⟩ = some (.int .i64 l.off)) := Lib.hid (fun W h => by
    obtain ⟨_, _, _, _, _, a5, a6, a7, _⟩ := ltRow_of (HF.out W h) HLN.out
    exact ⟨a5, a6, a7⟩)
  refine wpS_do _ rfl (by rfl) (fun K hK => ?_)
  go_simp
  refine (rids_any _ _ p.wA l.wants p.wc _ (HSH.out.below (Below.refl _ _).drew) (by have := headW_len l; omega) HINQ.out.wr.1.drew HINQ.out.wok HINQ.out.wr.2.1 HINQ.out.wr.2.2 (by have := HRI.out.2.1; omega)).mono ?_
  rintro e w6 ⟨v6, rfl, hs6, hb6⟩
  have HB6 : Hid (Below W1.heap.size W1 w6) := Lib.hid (ext_trans HBQ.out ((Below.refl _ _).drew.trans hb6))
  have HS6 := Lib.hid hs6
  refine hK.out _ _ (HSK.out _ HB6.out) (fun hS => ?_)
  clear hK hS hs6 hb6
  have HIN6 := Lib.hid (HIN.out.below HB6.out)
  refine wpS_do _ rfl (by rfl) (fun K hK => ?_)
  go_simp
  refine (rids_any _ _ p.hA l.haves p.hc _ HS6.out (by have h1 := headW_len l; have h2 := HW3.out; have h3 := HV3.out; have h4 := (numB_len l.off).2; simp only [List.length_append]; omega) HIN6.out.hr.1 HIN6.out.hok HIN6.out.hr.2.1 HIN6.out.hr.2.2 (by have := HRI.out.2.2.1; omega)).mono ?_
  rintro e w7 ⟨v7, rfl, hs7, hb7⟩
  have HB7 : Hid (Below W1.heap.size W1 w7) := Lib.hid (ext_trans HB6.out hb7)
  have HS7 := Lib.hid hs7
  refine hK.out _ _ (HSK.out _ HB7.out) (fun hS => ?_)
  clear hK hS hs7 hb7
  refine wpS_do _ rfl (by rfl) (fun K hK => ?_)
  go_simp
  refine (rnum_s _ _ l.off _ HS7.out (by have h1 := headW_len l; have h2 := HW3.out; have h3 := HV3.out; have h4 := (numB_len l.off).2; simp only [List.length_append]; omega)).mono ?_
  rintro e w8 ⟨v8, rfl, hs8, hb8⟩
  have HBZ : Hid (Below W1.heap.size W1 w8) := Lib.hid (ext_trans HB7.out hb8)
  have HSZ : Hid (Sl w8 v8 (inW l)) := Lib.hid (by unfold inW; rw [bodyW_3 HKK.out]; simpa [List.append_assoc] using hs8)
  refine hK.out _ _ (HSK.out _ HBZ.out) (fun hS => ?_)
  clear hK hS hs8 hb8
  (repeat (first | (refine wpS_pass _ rfl (by rfl) ?_; simp only [Act.put, List.getElem_toArray, List.getElem_cons_zero, List.getElem_cons_succ, List.setIfInBounds_toArray, List.set_cons_zero, List.set_cons_succ]) | (refine wpS_take _ ?_ rfl (by rfl) ?_ ?_; rotate_left; (focus (intro w' hS'; (try dsimp only at hS'); (repeat (have hS1 := hS'.1; replace hS' := hS'.2)); go_simp; (try with_reducible rfl); done)); simp only [Act.put, List.getElem_toArray, List.getElem_cons_zero, List.getElem_cons_succ, List.setIfInBounds_toArray, List.set_cons_zero, List.set_cons_succ])))
  refine wpS_done ?_
  go_wp2_with fail
  refine (rsum_s _ _ w8 HSZ.out).mono ?_
  rintro e wz1 ⟨rfl, rfl⟩
  go_wp2_with fail
  refine (rfour_s _ w8 (crc_lt _)).mono ?_
  rintro e wz2 ⟨vz, rfl, hsz, hbz⟩
  have HSX := Lib.hid (HSZ.out.below hbz)
  have HSY := Lib.hid hsz
  have HBY := Lib.hid (ext_trans HBZ.out hbz)
  clear hsz hbz
  go_wp2_with fail
  refine (join_s _ _ _ _ wz2 HSX.out HSY.out (by have hf : (fourB (crc (inW l)).toNat).length = 4 := rfl; rw [hf]; have h1 := headW_len l; have h2 := HW3.out; have h3 := HV3.out; have h4 := (numB_len l.off).2; unfold inW; rw [bodyW_3 HKK.out]; simp only [List.length_append]; omega)).mono ?_
  rintro e wz3 ⟨vy, rfl, hsy, hby⟩
  go_wp2_with fail
  go_ret
  exact ⟨vy, rfl, hsy, HBW.out _ (ext_trans HBY.out hby)⟩


set_option maxRecDepth 100000 in
set_option maxHeartbeats 8000000 in
theorem rwrite_ok4 (l : Lt) (p : LtP) (w : World) (hin : LtIn w l p) (hok : rightL l = true) (hk : l.kind = 4) :
    Calls Try.prog 17 #[l.val p] w fun e w' => Wr w w' e (writeB l) := by
  obtain ⟨W1, hW1⟩ : ∃ W, w.alloc (.cells (l.cells p).toArray 37) = W := ⟨_, rfl⟩
  obtain ⟨r1, b1, s1⟩ := new_row hW1
  obtain ⟨g, hg⟩ : ∃ g, w.heap.size = g := ⟨_, rfl⟩
  rw [hg] at r1
  have HGS : Hid (g < W1.heap.size) := Lib.hid (Array.getElem?_eq_some_iff.1 r1).1
  have HR1 := Lib.hid r1
  have HB1 := Lib.hid b1
  have HIN := Lib.hid (hin.below b1)
  have HLN := Lib.hid hin.len
  have HF : Hid (∀ W, Below W1.heap.size W1 W → W.heap[g]? = some (.cells (l.cells p).toArray 37 (0, 0))) := Lib.hid (fun W h => (h.block g HGS.out).trans HR1.out)
  have HBW : Hid (∀ W, Below W1.heap.size W1 W → Below w.heap.size w W) := Lib.hid (fun W h => HB1.out.trans (h.mono (by rw [hg]; exact Nat.le_of_lt HGS.out)))
  unfold Lt.val
  clear b1 s1 hin
  have HOK := Lib.hid hok
  have HKK := Lib.hid hk
  obtain ⟨x0, x1, x2, x3, _⟩ := ltRow_of r1 HLN.out
  have HS0 := Lib.hid (And.intro x0 (And.intro x1 (And.intro x2 (And.intro x3 (Below.refl W1.heap.size W1).drew))))
  have HSC : Hid (∀ W, Below W1.heap.size W1 W → W.cell? ⟨g, 0, none⟩ = some (.int .i64 l.kind) ∧ W.cell? ⟨g, 1, none⟩ = some (.int .i64 l.from_) ∧ W.cell? ⟨g, 2, none⟩ = some (.int .i64 l.to_) ∧ W.cell? ⟨g, 3, none⟩ = some (.int .i64 l.session) ∧ Below W1.heap.size W1 W) := Lib.hid (fun W h => by
    obtain ⟨a0, a1, a2, a3, _⟩ := ltRow_of (HF.out W h) HLN.out
    exact ⟨a0, a1, a2, a3, h⟩)
  clear hok hk r1 x0 x1 x2 x3
  go_enter Try.func17, Try.ntmps17
  go_wp2_with fail
  clear hW1 hg
  refine wp_region_sched (fun w' => w'.cell? ⟨g, 0, none⟩ = some (.int .i64 l.kind) ∧ w'.cell? ⟨g, 1, none⟩ = some (.int .i64 l.from_) ∧ w'.cell? ⟨g, 2, none⟩ = some (.int .i64 l.to_) ∧ w'.cell? ⟨g, 3, none⟩ = some (.int .i64 l.session) ∧ Below W1.heap.size W1 w') [(true, 1), (true, 2), (true, 4), (true, 5), (true, 7), (true, 8), (true, 10), (true, 11), (false, 0), (false, 3), (false, 6), (false, 9), (false, 12), (true, 13)] (by kernel_rfl) (by kernel_rfl) rfl (by kernel_rfl) HS0.out ?_
  (repeat (first | (refine wpS_pass _ rfl (by rfl) ?_; simp only [Act.put, List.getElem_toArray, List.getElem_cons_zero, List.getElem_cons_succ, List.setIfInBounds_toArray, List.set_cons_zero, List.set_cons_succ]) | (refine wpS_take _ ?_ rfl (by rfl) ?_ ?_; rotate_left; (focus (intro w' hS'; (try dsimp only at hS'); (repeat (have hS1 := hS'.1; replace hS' := hS'.2)); go_simp; (try with_reducible rfl); done)); simp only [Act.put, List.getElem_toArray, List.getElem_cons_zero, List.getElem_cons_succ, List.setIfInBounds_toArray, List.set_cons_zero, List.set_cons_succ])))
  refine wpS_do _ rfl (by rfl) (fun K hK => ?_)
  go_simp
  have HBE : Hid (Below W1.heap.size W1 (W1.drew.alloc (.cells #[] 5))) := Lib.hid ((Below.refl _ _).drew.alloc (Nat.le_refl _) _)
  have HSE : Hid (Sl (W1.drew.alloc (.cells #[] 5)) (.slice (some ⟨W1.heap.size, 0, none⟩) 0 0) []) := Lib.hid ⟨_, _, _, rfl, rfl, Nat.le_refl _, by unfold maxLen; omega, Rd.nil⟩
  refine hK.out _ _ (HSC.out _ HBE.out) (fun hS => ?_)
  clear hK hS
  refine wpS_do _ rfl (by rfl) (fun K hK => ?_)
  go_simp
  refine (rnum_s _ _ l.kind _ HSE.out (by simp)).mono ?_
  rintro e w2 ⟨v2, rfl, hs2, hb2⟩
  have HB2 := Lib.hid (ext_trans HBE.out hb2)
  have HS2 := Lib.hid hs2
  refine hK.out _ _ (HSC.out _ HB2.out) (fun hS => ?_)
  clear hK hS hs2 hb2
  refine wpS_do _ rfl (by rfl) (fun K hK => ?_)
  go_simp
  refine (rnum_s _ _ l.from_ _ HS2.out (by have h1 := (numB_len l.kind).2; simp only [List.length_append, List.length_nil]; omega)).mono ?_
  rintro e w3 ⟨v3, rfl, hs3, hb3⟩
  have HB3 := Lib.hid (ext_trans HB2.out hb3)
  have HS3 := Lib.hid hs3
  refine hK.out _ _ (HSC.out _ HB3.out) (fun hS => ?_)
  clear hK hS hs3 hb3
  refine wpS_do _ rfl (by rfl) (fun K hK => ?_)
  go_simp
  refine (rnum_s _ _ l.to_ _ HS3.out (by have h1 := (numB_len l.kind).2; have h2 := (numB_len l.from_).2; simp only [List.length_append, List.length_nil]; omega)).mono ?_
  rintro e w4 ⟨v4, rfl, hs4, hb4⟩
  have HB4 := Lib.hid (ext_trans HB3.out hb4)
  have HS4 := Lib.hid hs4
  refine hK.out _ _ (HSC.out _ HB4.out) (fun hS => ?_)
  clear hK hS hs4 hb4
  refine wpS_do _ rfl (by rfl) (fun K hK => ?_)
  go_simp
  refine (rnum_s _ _ l.session _ HS4.out (by have h1 := (numB_len l.kind).2; have h2 := (numB_len l.from_).2; have h3 := (numB_len l.to_).2; simp only [List.length_append, List.length_nil]; omega)).mono ?_
  rintro e wr ⟨v5, rfl, hs5, hb5⟩
  have HBQ := Lib.hid (ext_trans HB4.out hb5)
  have HSH : Hid (Sl wr v5 (headW l)) := Lib.hid (by unfold headW; simpa [List.append_assoc] using hs5)
  refine hK.out _ _ (HSC.out _ HBQ.out) (fun hS => ?_)
  clear hK hS hs5 hb5 HS0 HBE HSE HB2 HS2 HB3 HS3 HB4 HS4
  (repeat (first | (refine wpS_pass _ rfl (by rfl) ?_; simp only [Act.put, List.getElem_toArray, List.getElem_cons_zero, List.getElem_cons_succ, List.setIfInBounds_toArray, List.set_cons_zero, List.set_cons_succ]) | (refine wpS_take _ ?_ rfl (by rfl) ?_ ?_; rotate_left; (focus (intro w' hS'; (try dsimp only at hS'); (repeat (have hS1 := hS'.1; replace hS' := hS'.2)); go_simp; (try with_reducible rfl); done)); simp only [Act.put, List.getElem_toArray, List.getElem_cons_zero, List.getElem_cons_succ, List.setIfInBounds_toArray, List.set_cons_zero, List.set_cons_succ])))
  refine wpS_done ?_
  have HINQ := Lib.hid (HIN.out.below HBQ.out)
  obtain ⟨y0, _, _, _, y4, y5, y6, y7, y8, y9, yp⟩ := ltRow_of (HF.out _ HBQ.out) HLN.out
  have HYP := Lib.hid yp
  clear yp
  have d1 : (l.kind == 2) = false := by rw [HKK.out]; rfl
  have d2 : (l.kind == 3) = false := by rw [HKK.out]; rfl
  have d3 : (l.kind == 4) = true := by rw [HKK.out]; rfl
  have HRI := Lib.hid (right_part HOK.out HKK.out)
  have HIW := Lib.hid (info_arr32 l.pack HLN.out)
  have HSK : Hid (∀ W, Below wr.heap.size wr W → W.cell? ⟨g, 7, none⟩ = some (.int .i64 l.off) ∧ W.cell? ⟨g, 8, none⟩ = some (.int .i64 l.total) ∧ Below wr.heap.size wr W) := Lib.hid (fun W h => by
    obtain ⟨_, _, _, _, _, _, _, a7, a8, a9, _⟩ := ltRow_of (HF.out W (ext_trans HBQ.out h)) HLN.out
    exact ⟨a7, a8, h⟩)
  clear y4 y5 y6 y7 y8 y9
  go_wp2_with fail
  clear d1 d2 d3
  refine wp_region_sched (fun w' => w'.cell? ⟨g, 7, none⟩ = some (.int .i64 l.off) ∧ w'.cell? ⟨g, 8, none⟩ = some (.int .i64 l.total) ∧ Below wr.heap.size wr w') [(true, 0), (true, 1), (true, 2), (true, 5), (true, 6), (true, 8), (true, 9), (false, 3), (false, 4), (false, 7), (false, 10), (true, 11)] (by kernel_rfl) (by kernel_rfl) rfl (by kernel_rfl) (HSK.out _ (Below.refl _ _).drew) ?_
  (first | (refine wpS_pass _ rfl (by rfl) ?_; simp only [Act.put, List.getElem_toArray, List.getElem_cons_zero, List.getElem_cons_succ, List.setIfInBounds_toArray, List.set_cons_zero, List.set_cons_succ]) | (refine wpS_take _ ?_ rfl (by rfl) ?_ ?_; rotate_left; (focus (intro w' hS'; (try dsimp only at hS'); (repeat (have hS1 := hS'.1; replace hS' := hS'.2)); go_simp; (try with_reducible rfl); done)); simp only [Act.put, List.getElem_toArray, List.getElem_cons_zero, List.getElem_cons_succ, List.setIfInBounds_toArray, List.set_cons_zero, List.set_cons_succ]))
  (first | (refine wpS_pass _ rfl (by rfl) ?_; simp only [Act.put, List.getElem_toArray, List.getElem_cons_zero, List.getElem_cons_succ, List.setIfInBounds_toArray, List.set_cons_zero, List.set_cons_succ]) | (refine wpS_take _ ?_ rfl (by rfl) ?_ ?_; rotate_left; (focus (intro w' hS'; (try dsimp only at hS'); (repeat (have hS1 := hS'.1; replace hS' := hS'.2)); go_simp; (try with_reducible rfl); done)); simp only [Act.put, List.getElem_toArray, List.getElem_cons_zero, List.getElem_cons_succ, List.setIfInBounds_toArray, List.set_cons_zero, List.set_cons_succ]))
  refine wpS_load _ rfl (by rfl) _ _ rfl g 9 rfl (b8s l.pack) _ (fun w' hS' => (ltRow_of (HF.out w' (ext_trans HBQ.out hS'.2.2)) HLN.out).2.2.2.2.2.2.2.2.2.2) Try.underlying24 rfl HIW.out ?_
  simp only [Act.put, List.getElem_toArray, List.getElem_cons_zero, List.getElem_cons_succ, List.setIfInBounds_toArray, List.set_cons_zero, List.set_cons_succ]
  (repeat (first | (refine wpS_pass _ rfl (by rfl) ?_; simp only [Act.put, List.getElem_toArray, List.getElem_cons_zero, List.getElem_cons_succ, List.setIfInBounds_toArray, List.set_cons_zero, List.set_cons_succ]) | (refine wpS_take _ ?_ rfl (by rfl) ?_ ?_; rotate_left; (focus (intro w' hS'; (try dsimp only at hS'); (repeat (have hS1 := hS'.1; replace hS' := hS'.2)); go_simp; (try with_reducible rfl); done)); simp only [Act.put, List.getElem_toArray, List.getElem_cons_zero, List.getElem_cons_succ, List.setIfInBounds_toArray, List.set_cons_zero, List.set_cons_succ])))
  refine wpS_do _ rfl (by rfl) (fun K hK => ?_)
  go_simp
  refine (rid_s l.pack _ HLN.out).mono ?_
  rintro e w5 ⟨v5', rfl, hs5, hb5⟩
  have HB5 : Hid (Below wr.heap.size wr w5) := Lib.hid ((Below.refl _ _).drew.trans hb5)
  have HS5 := Lib.hid hs5
  have HS05 := Lib.hid (HSH.out.below HB5.out)
  refine hK.out _ _ (HSK.out _ HB5.out) (fun hS => ?_)
  clear hK hS hs5 hb5
  refine wpS_do _ rfl (by rfl) (fun K hK => ?_)
  go_simp
  refine (join_s _ _ _ _ w5 HS05.out HS5.out (by have h1 := headW_len l; have h2 := HLN.out; have h3 := (numB_len l.off).2; have h4 := (numB_len l.total).2; have h5 := textB_len l.data; have h6 := HRI.out.2.2.2.2.2; omega)).mono ?_
  rintro e w6 ⟨v6, rfl, hs6, hb6⟩
  have HB6 : Hid (Below wr.heap.size wr w6) := Lib.hid (ext_trans HB5.out hb6)
  have HS6 := Lib.hid hs6
  refine hK.out _ _ (HSK.out _ HB6.out) (fun hS => ?_)
  clear hK hS hs6 hb6
  refine wpS_do _ rfl (by rfl) (fun K hK => ?_)
  go_simp
  refine (rnum_s _ _ l.off _ HS6.out (by have h1 := headW_len l; have h2 := HLN.out; have h3 := (numB_len l.off).2; have h4 := (numB_len l.total).2; have h5 := textB_len l.data; have h6 := HRI.out.2.2.2.2.2; simp only [List.length_append]; omega)).mono ?_
  rintro e w7 ⟨v7, rfl, hs7, hb7⟩
  have HB7 : Hid (Below wr.heap.size wr w7) := Lib.hid (ext_trans HB6.out hb7)
  have HS7 := Lib.hid hs7
  refine hK.out _ _ (HSK.out _ HB7.out) (fun hS => ?_)
  clear hK hS hs7 hb7
  refine wpS_do _ rfl (by rfl) (fun K hK => ?_)
  go_simp
  refine (rnum_s _ _ l.total _ HS7.out (by have h1 := headW_len l; have h2 := HLN.out; have h3 := (numB_len l.off).2; have h4 := (numB_len l.total).2; have h5 := textB_len l.data; have h6 := HRI.out.2.2.2.2.2; simp only [List.length_append]; omega)).mono ?_
  rintro e w8 ⟨v8, rfl, hs8, hb8⟩
  have HB8 : Hid (Below wr.heap.size wr w8) := Lib.hid (ext_trans HB7.out hb8)
  have HS8 := Lib.hid hs8
  refine hK.out _ _ (HSK.out _ HB8.out) (fun hS => ?_)
  clear hK hS hs8 hb8
  (repeat (first | (refine wpS_pass _ rfl (by rfl) ?_; simp only [Act.put, List.getElem_toArray, List.getElem_cons_zero, List.getElem_cons_succ, List.setIfInBounds_toArray, List.set_cons_zero, List.set_cons_succ]) | (refine wpS_take _ ?_ rfl (by rfl) ?_ ?_; rotate_left; (focus (intro w' hS'; (try dsimp only at hS'); (repeat (have hS1 := hS'.1; replace hS' := hS'.2)); go_simp; (try with_reducible rfl); done)); simp only [Act.put, List.getElem_toArray, List.getElem_cons_zero, List.getElem_cons_succ, List.setIfInBounds_toArray, List.set_cons_zero, List.set_cons_succ])))
  refine wpS_done ?_
  have HBX := Lib.hid (ext_trans HBQ.out HB8.out)
  obtain ⟨_, _, _, _, _, _, _, _, _, z9, _⟩ := ltRow_of (HF.out _ HBX.out) HLN.out
  have hcv : (convert 26 9 (.slice p.dA l.data.length p.dc)).run Try.prog w8 = .ok (.string ⟨l.data.toArray⟩) w8 := run_str_of_bytes _ _ rfl Try.underlying26 Try.underlying5 Try.underlying9 (HIN.out.below HBX.out).dr.1
  go_wp2_with fail
  refine (rtext_s ⟨l.data.toArray⟩ w8 (by have h1 := headW_len l; have h2 := HLN.out; have h3 := (numB_len l.off).2; have h4 := (numB_len l.total).2; have h5 := textB_len l.data; have h6 := HRI.out.2.2.2.2.2; show l.data.toArray.size ≤ _; rw [List.size_toArray]; omega)).mono ?_
  rintro e w9 ⟨v9, rfl, hs9, hb9⟩
  have HB9 : Hid (Below W1.heap.size W1 w9) := Lib.hid (ext_trans HBX.out hb9)
  have HS9 := Lib.hid hs9
  have HS89 := Lib.hid (HS8.out.below hb9)
  clear hs9 hb9 z9 hcv
  go_wp2_with fail
  refine (join_s _ _ _ _ w9 HS89.out HS9.out (by have h1 := headW_len l; have h2 := HLN.out; have h3 := (numB_len l.off).2; have h4 := (numB_len l.total).2; have h5 := textB_len l.data; have h6 := HRI.out.2.2.2.2.2; simp only [List.length_append]; omega)).mono ?_
  rintro e w10 ⟨v10, rfl, hs10, hb10⟩
  have HBZ : Hid (Below W1.heap.size W1 w10) := Lib.hid (ext_trans HB9.out hb10)
  have HSZ : Hid (Sl w10 v10 (inW l)) := Lib.hid (by unfold inW; rw [bodyW_4 HKK.out]; simpa [List.append_assoc] using hs10)
  clear hs10 hb10
  go_wp2_with fail
  refine (rsum_s _ _ w10 HSZ.out).mono ?_
  rintro e wz1 ⟨rfl, rfl⟩
  go_wp2_with fail
  refine (rfour_s _ w10 (crc_lt _)).mono ?_
  rintro e wz2 ⟨vz, rfl, hsz, hbz⟩
  have HSX := Lib.hid (HSZ.out.below hbz)
  have HSY := Lib.hid hsz
  have HBY := Lib.hid (ext_trans HBZ.out hbz)
  clear hsz hbz
  go_wp2_with fail
  refine (join_s _ _ _ _ wz2 HSX.out HSY.out (by have hf : (fourB (crc (inW l)).toNat).length = 4 := rfl; rw [hf]; have h1 := headW_len l; have h2 := HLN.out; have h3 := (numB_len l.off).2; have h4 := (numB_len l.total).2; have h5 := textB_len l.data; have h6 := HRI.out.2.2.2.2.2; unfold inW; rw [bodyW_4 HKK.out]; simp only [List.length_append]; omega)).mono ?_
  rintro e wz3 ⟨vy, rfl, hsy, hby⟩
  go_wp2_with fail
  go_ret
  exact ⟨vy, rfl, hsy, HBW.out _ (ext_trans HBY.out hby)⟩


/-- the document's Write, of every right letter -/
theorem rwrite_ok (l : Lt) (p : LtP) (w : World) (hin : LtIn w l p) (hok : rightL l = true) :
    Calls Try.prog 17 #[l.val p] w fun e w' => Wr w w' e (writeB l) := by
  rcases right_kind hok with h | h | h | h
  · exact rwrite_ok1 l p w hin hok h
  · exact rwrite_ok2 l p w hin hok h
  · exact rwrite_ok3 l p w hin hok h
  · exact rwrite_ok4 l p w hin hok h
end Go.Proofs.Ytfjfidhhmidflaa
