
/- Refs: Do that is made. -/

import Derived.Test.YtelbofikcpchiaaGreatRf14

namespace Go.Proofs.YtelbofikcpchiaaGreat

set_option linter.unusedVariables false

set_option linter.unusedSimpArgs false

set_option linter.unusedSectionVars false

open Go.RowKit

theorem ups_nil {us : List UpM} (h : upsC us = []) : us = [] := by
  cases us with
  | nil => rfl
  | cons u r => simp [upsC, upC] at h
/-- a slice that no call on the disk or the refs turns -/
def SafeA (A : Option Addr) (us : List UpM) (F : Nat → Prop) : Prop := upsC us ≠ [] → ∀ a, A = some a → ¬ F a.block
theorem safe_keep {w w' : World} {A : Option Addr} {us : List UpM} {F : Nat → Prop} (h : Rd w A (upsC us)) (hs : SafeA A us F) (hf : Frm F w w') : Rd w' A (upsC us) := by
  by_cases he : upsC us = []
  · rw [he]; exact Rd.nil
  · exact h.keep fun ad hA hl => hf.block _ hl (hs he ad hA)

set_option maxRecDepth 100000 in
set_option maxHeartbeats 8000000 in
theorem do_made {N gr g K L : Nat} {w : World} {m m1 m2 : DM} {d : DA} {r : RfM} {q : QA} (h : DR N w g m d gr r q) (hf : Fit K L m) (hK : K < 999990) (hL : L ≤ 1000000000000) (hk : RfOk r) (hs : r.stuck = false)
    (A : Option Addr) (n c : Nat) (t : TxM) (hn : t.us.length = n) (ht : TxOk t) (hr : Rd w A (upsC t.us)) (hA : SafeA A t.us fun b => foot g d b ∨ footR gr q b) (hz : checkR r t = 0) (he : emptyT t = false)
    (hpl : (payloadB t).length ≤ 1000000000) (hal : r.all.length ≤ 1000000 ∧ r.log.length ≤ 1000000)
    (he1 : appendM m refsB (recordB t) = (m1, 0)) (he2 : syncM m1 refsB = (m2, 0)) :
    Calls Tryz.prog 10 #[.pointer (some ⟨gr, 0, none⟩), .agg (txC A n c t).toArray] w fun e w' => e = .returned (.int .i64 0) ∧ ∃ d' q', DR N w' g m2 d' gr (makeR r t) q' ∧ Fit K (L + (recordB t).length) m2 ∧ Frm (fun b => foot g d b ∨ footR gr q b) w w' ∧ (∀ b, foot g d' b ∨ footR gr q' b → (foot g d b ∨ footR gr q b) ∨ w.heap.size ≤ b) := by
  obtain ⟨g1, hg⟩ : ∃ g, w.heap.size = g := ⟨_, rfl⟩
  have hNw : N ≤ w.heap.size := h.disk.size
  obtain ⟨W1, hW1⟩ : ∃ W, w.alloc (.cells (txC A n c t).toArray 28) = W := ⟨_, rfl⟩
  obtain ⟨r1, b1, s1⟩ := new_row hW1
  rw [hg] at r1
  have HB1 := Lib.hid b1
  have HR1 := Lib.hid r1
  have HRG := Lib.hid (range_of_row r1)
  have HIL := Lib.hid (info_txl (A := A) (n := n) (c := c) ht.al)
  have HIA := Lib.hid (info_txa (A := A) (n := n) (c := c) ht.al)
  have HCK := Lib.hid (check_any (h.refs.below b1) hk A n c t hn ht (hr.below b1))
  have HEM : Hid (∀ W, _) := Lib.hid (fun W => empty_any A n c t hn (by have := ht.ul; omega) ht.al W)
  have HRC : Hid (∀ W, Rd W A (upsC t.us) → _) := Lib.hid (fun W (hw : Rd W A (upsC t.us)) => record_any A n c t hn ht W hw (by omega))
  have HMK : Hid (∀ W, RfIn N W gr g r q → Rd W A (upsC t.us) → N ≤ W.heap.size → _) := Lib.hid (fun W (h1 : RfIn N W gr g r q) (h2 : Rd W A (upsC t.us)) (h3 : N ≤ W.heap.size) => make_any h1 hk A n c t hn ht h2 (fun e a ha => fun hfo => hA e a ha (.inr hfo)) hal h3)
  rw [hz] at HCK
  have hrl : (recordB t).length ≤ 1000000100 := by
    unfold recordB
    have := numB_length ((payloadB t).length : Int)
    have h4 : (fourB (crc (payloadB t)).toNat).length = 4 := rfl
    simp only [List.length_append]
    omega
  obtain ⟨lt, hlt⟩ : ∃ l, txC A n c t = l := ⟨_, rfl⟩
  obtain ⟨rb, hrb⟩ : ∃ l, recordB t = l := ⟨_, rfl⟩
  rw [hlt, he] at HEM
  rw [hlt] at hW1 HRG HIL HCK HIA HR1 HRC HMK ⊢
  rw [hrb] at HRC he1 hrl ⊢
  have HH := Lib.hid h
  have HF := Lib.hid hf
  have HKR := Lib.hid hk
  have HRD := Lib.hid hr
  have HSA := Lib.hid hA
  have HE1 := Lib.hid he1
  have HE2 := Lib.hid he2
  have HST := Lib.hid hs
  have HNW := Lib.hid hNw
  have HG1 := Lib.hid hg
  clear h hf hk hn ht b1 s1 r1 hlt hr hz he hA he1 he2 hrb hs hNw
  go_enter Tryz.func10, Tryz.ntmps10
  go_wp2_with (first
    | ((with_reducible (refine wpList_load_cells 28 _ g1 0 (lt) HRG.out Tryz.underlying28 rfl HIL.out ?_ rfl ?_ ?_)); (exact rfl); (exact rfl)))
  refine HCK.out.mono ?_
  rintro e w2 ⟨rfl, hb2⟩
  have HB2 := Lib.hid (HB1.out.trans (hb2.mono HB1.out.size))
  have HR2 := Lib.hid ((hb2.block _ (Array.getElem?_eq_some_iff.1 HR1.out).1).trans HR1.out)
  clear hb2 hW1
  go_wp2_with ((with_reducible (refine wpList_load_row_w _ _ rfl _ rfl _ _ _ _ HR2.out Tryz.underlying28 rfl HIA.out ?_ ?_)); (focus (rfl)))
  refine (HEM.out w2).mono ?_
  rintro e w3 ⟨rfl, hb3⟩
  have HB3 := Lib.hid (HB2.out.trans (hb3.mono HB2.out.size))
  have HR3 := Lib.hid ((hb3.block _ (Array.getElem?_eq_some_iff.1 HR2.out).1).trans HR2.out)
  clear hb3
  have HD3 := Lib.hid (HH.out.below HB3.out)
  have HRD3 := Lib.hid (HRD.out.below HB3.out)
  have c36 : w3.cell? ⟨gr, 36, none⟩ = some (.bool false) := by
    have h1 := (HD3.out.refs.tail HKR.out.al).2
    rw [HST.out] at h1
    exact h1
  have cp3 : w3.cell? ⟨gr, 0, none⟩ = some (.pointer (some ⟨g, 0, none⟩)) := HD3.out.refs.cells.1
  have HRG3 := Lib.hid (range_of_row HR3.out)
  have HL3 := Lib.hid (Array.getElem?_eq_some_iff.1 HR3.out).1
  have HGL3 := Lib.hid (HD3.out.refs.foot_lt (.inl rfl))
  go_wp2_with fail
  refine wp_region_sched (fun w' => w'.cell? ⟨gr, 0, none⟩ = some (.pointer (some ⟨g, 0, none⟩)) ∧ w'.rangeAt g1 0 lt)
    [(true, 0), (true, 1), (true, 2), (true, 3), (true, 4), (false, 5), (false, 6), (true, 7)] (by kernel_rfl) (by kernel_rfl) rfl (by kernel_rfl) ⟨cp3, HRG3.out⟩ ?_
  (first | (refine wpS_pass _ rfl (by rfl) ?_; simp only [Act.put, List.getElem_toArray, List.getElem_cons_zero, List.getElem_cons_succ, List.setIfInBounds_toArray, List.set_cons_zero, List.set_cons_succ]) | (refine wpS_take _ ?_ rfl (by rfl) ?_ ?_; rotate_left; (focus (intro w' hS'; (try dsimp only at hS'); (repeat (have hS1 := hS'.1; replace hS' := hS'.2)); go_simp; (try with_reducible rfl); done)); simp only [Act.put, List.getElem_toArray, List.getElem_cons_zero, List.getElem_cons_succ, List.setIfInBounds_toArray, List.set_cons_zero, List.set_cons_succ]))
  (first | (refine wpS_pass _ rfl (by rfl) ?_; simp only [Act.put, List.getElem_toArray, List.getElem_cons_zero, List.getElem_cons_succ, List.setIfInBounds_toArray, List.set_cons_zero, List.set_cons_succ]) | (refine wpS_take _ ?_ rfl (by rfl) ?_ ?_; rotate_left; (focus (intro w' hS'; (try dsimp only at hS'); (repeat (have hS1 := hS'.1; replace hS' := hS'.2)); go_simp; (try with_reducible rfl); done)); simp only [Act.put, List.getElem_toArray, List.getElem_cons_zero, List.getElem_cons_succ, List.setIfInBounds_toArray, List.set_cons_zero, List.set_cons_succ]))
  (first | (refine wpS_pass _ rfl (by rfl) ?_; simp only [Act.put, List.getElem_toArray, List.getElem_cons_zero, List.getElem_cons_succ, List.setIfInBounds_toArray, List.set_cons_zero, List.set_cons_succ]) | (refine wpS_take _ ?_ rfl (by rfl) ?_ ?_; rotate_left; (focus (intro w' hS'; (try dsimp only at hS'); (repeat (have hS1 := hS'.1; replace hS' := hS'.2)); go_simp; (try with_reducible rfl); done)); simp only [Act.put, List.getElem_toArray, List.getElem_cons_zero, List.getElem_cons_succ, List.setIfInBounds_toArray, List.set_cons_zero, List.set_cons_succ]))
  (first | (refine wpS_pass _ rfl (by rfl) ?_; simp only [Act.put, List.getElem_toArray, List.getElem_cons_zero, List.getElem_cons_succ, List.setIfInBounds_toArray, List.set_cons_zero, List.set_cons_succ]) | (refine wpS_take _ ?_ rfl (by rfl) ?_ ?_; rotate_left; (focus (intro w' hS'; (try dsimp only at hS'); (repeat (have hS1 := hS'.1; replace hS' := hS'.2)); go_simp; (try with_reducible rfl); done)); simp only [Act.put, List.getElem_toArray, List.getElem_cons_zero, List.getElem_cons_succ, List.setIfInBounds_toArray, List.set_cons_zero, List.set_cons_succ]))
  refine wpS_load _ rfl (by rfl) 28 _ rfl g1 0 rfl lt _ (fun w' hS => hS.2) Tryz.underlying28 rfl HIL.out ?_
  simp only [Act.put, List.getElem_toArray, List.getElem_cons_zero, List.getElem_cons_succ, List.setIfInBounds_toArray, List.set_cons_zero, List.set_cons_succ]
  refine wpS_do _ rfl (by rfl) (fun KK hKK => ?_)
  go_simp
  refine (HRC.out _ HRD3.out.drew).mono ?_
  rintro e w4 ⟨v4, rfl, ho4⟩
  have hb4 : Below w3.heap.size w3 w4 := (Below.refl _ _).drew.trans ho4.bel
  refine hKK.out _ _ ⟨cell_below cp3 HGL3.out hb4, range_below HRG3.out HL3.out hb4⟩ (fun hS => ?_)
  clear hKK hS
  have HD4 := Lib.hid (HD3.out.below hb4)
  have HRD4 := Lib.hid (HRD3.out.below hb4)
  have HB4 := Lib.hid (HB3.out.trans (hb4.mono HB3.out.size))
  have HR4 := Lib.hid ((hb4.block _ (Array.getElem?_eq_some_iff.1 HR3.out).1).trans HR3.out)
  obtain ⟨A4, c4, rfl, _, _, hrd4, hA4⟩ := ho4.slice
  have HRD4' := Lib.hid hrd4
  have HA4 : Hid (rb ≠ [] → ∀ a, A4 = some a → ¬ foot g d a.block) := Lib.hid (fun _ a ha hfo => by
    have h1 := (hA4 a ha).1
    have h2 := HD3.out.disk.foot_lt hfo
    have h3 : w3.drew.heap.size = w3.heap.size := rfl
    omega)
  clear ho4 hb4 hrd4 hA4
  refine wpS_do _ rfl (by rfl) (fun KK hKK => ?_)
  go_simp
  refine (append_st (S := ⟨#[114, 101, 102, 115]⟩) HD4.out.disk HF.out (by omega) (by omega) (by decide) rfl HRD4'.out HA4.out (by omega) HE1.out).mono ?_
  rintro e w5 ⟨rfl, d1, ha5, hf5⟩
  have HA5 := Lib.hid ha5
  have HF5 := Lib.hid hf5
  have HD5 := Lib.hid (HD4.out.aft ha5)
  have HNG : Hid (∀ b, foot g d b → b < g1) := Lib.hid (fun b hb => by rw [← HG1.out]; exact HH.out.disk.foot_lt hb)
  have HR5 := Lib.hid ((ha5.frm.block g1 (Array.getElem?_eq_some_iff.1 HR4.out).1 (fun e => by have := HNG.out _ e; omega)).trans HR4.out)
  refine hKK.out _ _ ⟨HD5.out.refs.cells.1, range_of_row HR5.out⟩ (fun hS => ?_)
  clear hKK hS ha5 hf5 cp3 c36
  (first | (refine wpS_pass _ rfl (by rfl) ?_; simp only [Act.put, List.getElem_toArray, List.getElem_cons_zero, List.getElem_cons_succ, List.setIfInBounds_toArray, List.set_cons_zero, List.set_cons_succ]) | (refine wpS_take _ ?_ rfl (by rfl) ?_ ?_; rotate_left; (focus (intro w' hS'; (try dsimp only at hS'); (repeat (have hS1 := hS'.1; replace hS' := hS'.2)); go_simp; (try with_reducible rfl); done)); simp only [Act.put, List.getElem_toArray, List.getElem_cons_zero, List.getElem_cons_succ, List.setIfInBounds_toArray, List.set_cons_zero, List.set_cons_succ]))
  refine wpS_done ?_
  have cp5 : w5.cell? ⟨gr, 0, none⟩ = some (.pointer (some ⟨g, 0, none⟩)) := HD5.out.refs.cells.1
  go_wp2_with fail
  clear cp5
  refine (sync_st (S := ⟨#[114, 101, 102, 115]⟩) HD5.out.disk HF5.out (by omega) (by omega) (by decide) HE2.out).mono ?_
  rintro e w6 ⟨rfl, d2, ha6, hf6⟩
  have HA6 := Lib.hid ha6
  have HF6 := Lib.hid hf6
  have HD6 := Lib.hid (HD5.out.aft ha6)
  have HNG1 : Hid (¬ foot g d1 g1) := Lib.hid (fun e => by
    rcases HA5.out.ext _ e with h1 | h1
    · have := HNG.out _ h1; omega
    · have := (Array.getElem?_eq_some_iff.1 HR4.out).1
      omega)
  have HR6 := Lib.hid ((ha6.frm.block g1 (Array.getElem?_eq_some_iff.1 HR5.out).1 HNG1.out).trans HR5.out)
  have HRG6 := Lib.hid (range_of_row HR6.out)
  have HAF : Hid (Frm (foot g d) w4 w6) := Lib.hid (HA5.out.frm.trans ha6.frm HA5.out.ext)
  have HRD6 := Lib.hid (safe_keep HRD4.out (fun e a ha hfo => HSA.out e a ha (.inl hfo)) HAF.out)
  have HMK6 := Lib.hid (HMK.out w6 HD6.out.refs HRD6.out HD6.out.disk.size)
  clear ha6 hf6
  go_wp2_with (first
    | ((with_reducible (refine wpList_load_cells 28 _ g1 0 (lt) HRG6.out Tryz.underlying28 rfl HIL.out ?_ rfl ?_ ?_)); (exact rfl); (exact rfl)))
  refine HMK6.out.mono ?_
  rintro e w7 ⟨rfl, lv', hri, hfr, hlv⟩
  have HRI := Lib.hid hri
  have HFR := Lib.hid hfr
  have HLV := Lib.hid hlv
  clear hri hfr hlv
  go_wp2_with fail
  go_ret
  refine ⟨rfl, d2, ⟨q.mb, lv'⟩, ⟨HD6.out.disk.keep (fun b hb => HFR.out.block b (HD6.out.disk.foot_lt hb) (fun hR => HD6.out.apart b hR hb)), HRI.out, ?_⟩, HF6.out, ?_, ?_⟩
  · intro b hb hfo
    rcases hb with h1 | h1 | h1
    · exact HD6.out.apart b (.inl h1) hfo
    · exact HD6.out.apart b (.inr (.inl h1)) hfo
    · rcases HLV.out b h1.symm with h2 | h2
      · exact HD6.out.apart b h2 hfo
      · have := HD6.out.disk.foot_lt hfo
        omega
  · exact ((Frm.of_below HB4.out).trans HAF.out (fun i hi => .inl (.inl hi))).trans HFR.out (fun i hi => .inl (.inr hi))
  · intro b hb
    have s4 := HB4.out.size
    have s6 := HAF.out.size
    have s5 := HA5.out.frm.size
    rcases hb with hb | h1 | h1 | h1
    · rcases HA6.out.ext b hb with h2 | h2
      · rcases HA5.out.ext b h2 with h3 | h3
        · exact .inl (.inl h3)
        · exact .inr (by omega)
      · exact .inr (by omega)
    · exact .inl (.inr (.inl h1))
    · exact .inl (.inr (.inr (.inl h1)))
    · rcases HLV.out b h1.symm with h2 | h2
      · exact .inl (.inr h2)
      · exact .inr (by omega)
end Go.Proofs.YtelbofikcpchiaaGreat
