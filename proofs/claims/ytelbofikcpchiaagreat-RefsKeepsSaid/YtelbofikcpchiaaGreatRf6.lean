
/- Refs: check. -/

import Derived.Test.YtelbofikcpchiaaGreatRf5

namespace Go.Proofs.YtelbofikcpchiaaGreat

set_option linter.unusedVariables false

set_option linter.unusedSimpArgs false

set_option linter.unusedSectionVars false

open Go.RowKit

/-! ### keys that were met -/

theorem findA_del {α : Type} (ns : AL α) (s k : List UInt8) : findA (delA ns s) k = if k = s then none else findA ns k := by
  unfold findA delA
  induction ns with
  | nil => simp
  | cons p r ih =>
    by_cases hp : p.1 = s
    · rw [List.filter_cons_of_neg (by simp [hp])]
      rw [ih]
      by_cases hk : k = s
      · rw [if_pos hk, if_pos hk]
      · rw [if_neg hk, if_neg hk, List.find?_cons]
        rw [show (p.1 == k) = false by rw [beq_eq_false_iff_ne, hp]; exact fun e => hk e.symm]
    · rw [List.filter_cons_of_pos (by simp [hp])]
      rw [List.find?_cons]
      by_cases hpk : p.1 = k
      · rw [show (p.1 == k) = true by rw [beq_iff_eq]; exact hpk]
        rw [if_neg (by rw [← hpk]; exact hp), List.find?_cons, show (p.1 == k) = true by rw [beq_iff_eq]; exact hpk]
      · rw [show (p.1 == k) = false by rw [beq_eq_false_iff_ne]; exact hpk]
        rw [ih]
        by_cases hk : k = s
        · rw [if_pos hk, if_pos hk]
        · rw [if_neg hk, if_neg hk, List.find?_cons, show (p.1 == k) = false by rw [beq_eq_false_iff_ne]; exact hpk]
theorem findA_ins {α : Type} {ns : AL α} {x : List UInt8 × α} (hx : ∀ p ∈ ns, p.1 ≠ x.1) (k : List UInt8) : findA (insA x ns) k = if k = x.1 then some x.2 else findA ns k := by
  unfold findA
  induction ns with
  | nil =>
    by_cases hk : k = x.1
    · rw [if_pos hk]; simp [insA, hk]
    · rw [if_neg hk]
      simp only [insA, List.find?_cons, show (x.1 == k) = false by rw [beq_eq_false_iff_ne]; exact fun e => hk e.symm]
  | cons p r ih =>
    simp only [insA]
    split
    · rw [List.find?_cons]
      by_cases hk : k = x.1
      · rw [if_pos hk, show (x.1 == k) = true by rw [beq_iff_eq]; exact hk.symm]
        rfl
      · rw [if_neg hk, show (x.1 == k) = false by rw [beq_eq_false_iff_ne]; exact fun e => hk e.symm]
    · rw [List.find?_cons, List.find?_cons]
      have hp := hx p (by simp)
      by_cases hpk : p.1 = k
      · rw [show (p.1 == k) = true by rw [beq_iff_eq]; exact hpk, if_neg (by rw [← hpk]; exact hp)]
      · rw [show (p.1 == k) = false by rw [beq_eq_false_iff_ne]; exact hpk]
        exact ih (fun q hq => hx q (by simp [hq]))
theorem findA_put {α : Type} (ns : AL α) (s : List UInt8) (f : α) (k : List UInt8) : findA (putA ns s f) k = if k = s then some f else findA ns k := by
  unfold putA
  rw [findA_ins (fun p hp => (delA_mem.1 hp).2), findA_del]
  by_cases hk : k = s
  · rw [if_pos hk, if_pos hk]
  · rw [if_neg hk, if_neg hk, if_neg hk]
def metA (l : List (List UInt8)) : AL Unit := l.foldl (fun a s => putA a s ()) []
theorem metA_snoc (l : List (List UInt8)) (s : List UInt8) : metA (l ++ [s]) = putA (metA l) s () := by simp [metA]
theorem metG_len (l : List (List UInt8)) : ∀ a : AL Unit, (l.foldl (fun a s => putA a s ()) a).length ≤ a.length + l.length := by
  induction l with
  | nil => intro a; simp
  | cons s l ih =>
    intro a
    have h1 := ih (putA a s ())
    have h2 := putA_length a s ()
    rw [List.foldl_cons, List.length_cons]
    omega
theorem metA_len (l : List (List UInt8)) : (metA l).length ≤ l.length := by
  have := metG_len l []
  simpa [metA] using this
theorem metG_find (l : List (List UInt8)) (k : List UInt8) : ∀ a : AL Unit, findA (l.foldl (fun a s => putA a s ()) a) k = if k ∈ l then some () else findA a k := by
  induction l with
  | nil => intro a; simp
  | cons s l ih =>
    intro a
    rw [List.foldl_cons, ih, findA_put]
    by_cases hk : k ∈ l
    · rw [if_pos hk, if_pos (List.mem_cons_of_mem _ hk)]
    · rw [if_neg hk]
      by_cases hs : k = s
      · rw [if_pos hs, if_pos (by rw [hs]; exact List.mem_cons_self)]
      · rw [if_neg hs, if_neg (by simp [hs, hk])]
theorem metA_find (l : List (List UInt8)) (k : List UInt8) : findA (metA l) k = if k ∈ l then some () else none := metG_find l k []
def metD : Unit → DataW Unit := fun _ => boolD true
theorem mlook_any {w : World} {b n : Nat} {l : List (List UInt8)} (h : w.ownsMap Tryz.prog 9 boolR b n (mapA metD (metA l))) (S : ByteArray) (hs : S.size ≤ maxLen) :
    (Instr.lookup 144 (.map (some b)) (.string S) false).run Tryz.prog w = .ok (.bool (decide (S.data.toList ∈ l))) w := by
  obtain ⟨v, ps, hr, hR⟩ := h.lookup keyed_str Tryz.underlying144 (z := .bool false) (by kernel_rfl) (zd := boolD false) (zp := []) rfl (key := .string S) (kl := .string S.data.toList) (WideMaps.keyOf_string_mk Tryz.underlying9 hs)
  have hv : v = .bool (decide (S.data.toList ∈ l)) := by
    rw [mapA_at, metA_find] at hR
    by_cases hm : S.data.toList ∈ l
    · rw [if_pos hm] at hR
      rw [decide_eq_true hm]
      exact boolR_inv hR
    · rw [if_neg hm] at hR
      rw [decide_eq_false hm]
      exact boolR_inv hR
  rw [hr, hv]
theorem exec_lookup {P : Program} {a : Act} {o : Oper} {w : World} (T : TypeId) (x y : Operand) (ho : o.op = .lookup T x y false) (X Y V : Value) (hx : a.eval x = X) (hy : a.eval y = Y) (h : (Instr.lookup T X Y false).run P w = .ok V w) : (execOp a.eval o).run P w = .ok (.value V) w := by
  simp [execOp, ho, hx, hy, h]

def upZ : List Value := .string ⟨#[]⟩ :: b8s (List.replicate 64 0)
theorem upZ_eq : Tryz.zeroCells31 = upZ.toArray := by kernel_rfl
theorem upZ_len : upZ.length = 65 := rfl
/-- a row is written whole -/
theorem put_rowR {w : World} {g : Nat} {old new : List Value} {t : TypeId} (h : w.heap[g]? = some (.cells old.toArray t (0, 0))) (hl : new.length = old.length) :
    ∃ W, w.setCells g 0 new.toArray.toList = W ∧ Hid (w.there g 0 new.toArray.size) ∧ Hid (W.heap[g]? = some (.cells new.toArray t (0, 0))) ∧ Hid (w.grownBy W (some g)) := by
  have hs : new.toArray.size = old.toArray.size := by simp [hl]
  exact ⟨_, rfl, Lib.hid (by rw [hs]; exact there_of_row h), Lib.hid (row_setAll h hl.symm), Lib.hid (setCells_grown _ _ _ _)⟩
/-- a walk stops here -/
def Stop (p : Prop) : Prop := p
theorem Stop.out {p : Prop} (h : Stop p) : p := h
theorem Stop.mk {p : Prop} (h : p) : Stop p := h
theorem chkUs_step {all : AL (List UInt8)} {met : List (List UInt8)} {us : List UpM} {i : Nat} (hi : i < us.length) :
    chkUs all met (us.drop i) = if chkU all met us[i] = 0 then chkUs all (met ++ [us[i].name]) (us.drop (i + 1)) else chkU all met us[i] := by
  rw [List.drop_eq_getElem_cons hi]
  rfl

set_option maxRecDepth 100000 in
set_option maxHeartbeats 8000000 in
theorem check_any {N gr g : Nat} {w : World} {r : RfM} {q : QA} (h : RfIn N w gr g r q) (hk : RfOk r) (A : Option Addr) (n c : Nat) (t : TxM) (hn : t.us.length = n) (ht : TxOk t) (hr : Rd w A (upsC t.us)) :
    Calls Tryz.prog 30 #[.pointer (some ⟨gr, 0, none⟩), .agg (txC A n c t).toArray] w fun e w' => e = .returned (.int .i64 (checkR r t)) ∧ Below w.heap.size w w' := by
  have H := Lib.hid h
  have HKR := Lib.hid hk
  have HN := Lib.hid hn
  have HT := Lib.hid ht
  have HR := Lib.hid hr
  have hnl : n ≤ 1000000 := by have := ht.ul; omega
  obtain ⟨g1, hg⟩ : ∃ g, w.heap.size = g := ⟨_, rfl⟩
  have HG1 := Lib.hid hg
  obtain ⟨W1, hW1⟩ : ∃ W, w.alloc (.cells (txC A n c t).toArray 28) = W := ⟨_, rfl⟩
  obtain ⟨r1, b1, s1⟩ := new_row hW1
  rw [hg] at r1
  have R1 := Lib.hid r1
  have HB1 := Lib.hid b1
  obtain ⟨X, hX, hXs⟩ : ∃ X : ByteArray, strV t.head = .string X ∧ X.data.toList = t.head := ⟨_, rfl, rfl⟩
  have HX := Lib.hid hX
  have HXS := Lib.hid hXs
  obtain ⟨lt, hlt⟩ : ∃ l, txC A n c t = l := ⟨_, rfl⟩
  rw [hlt] at hW1 ⊢
  have c0 : W1.cell? ⟨g1, 0, none⟩ = some (.slice A n c) := (tx_cells r1).1
  obtain ⟨z, hz⟩ : ∃ z, checkR r t = z := ⟨_, rfl⟩
  have HZ := Lib.hid hz
  rw [hz]
  clear h hk hn ht hr b1 s1 r1 hX hXs hlt hz
  by_cases h64 : 64 < n
  · have i1 : (64 : Int) < (n : Int) := by omega
    obtain rfl : z = 3 := by rw [← HZ.out]; unfold checkR; rw [HN.out, if_pos h64]
    go_enter Tryz.func30, Tryz.ntmps30
    go_wp2_with fail
    go_ret
    exact ⟨rfl, by first | exact HB1.out | (rw [← hg]; exact HB1.out)⟩
  have i1 : ¬ ((64 : Int) < (n : Int)) := by omega
  have HZ2 : Hid (z = if chkUs r.all [] t.us ≠ 0 then chkUs r.all [] t.us else if t.head ≠ [] ∧ branchB t.head = false then 100 else 0) := Lib.hid (by rw [← HZ.out]; unfold checkR; rw [HN.out, if_neg h64])
  have hmm := @run_makeMap Tryz.prog
  obtain ⟨mb, hmb⟩ : ∃ x, W1.heap.size = x := ⟨_, rfl⟩
  obtain ⟨W2, hW2⟩ : ∃ W, W1.alloc (.map #[] 0) = W := ⟨_, rfl⟩
  have hb2 : Below W1.heap.size W1 W2 := by rw [← hW2]; exact (Below.refl _ _).alloc (Nat.le_refl _) _
  have HB2 := Lib.hid hb2
  have HMB := Lib.hid hmb
  have HM2 : Hid (W2.ownsMap Tryz.prog 9 boolR mb 0 (mapA metD (metA []))) := Lib.hid (by rw [← hW2, ← hmb]; exact World.ownsMap_made W1 _ _ _)
  have c2 : W2.cell? ⟨g1, 0, none⟩ = some (.slice A n c) := cell_below c0 (World.block_lt_of_cell? W1 _ c0) hb2
  have HR2 : Hid (∀ W, Below W1.heap.size W1 W → Rd W A (upsC t.us) ∧ RfIn N W gr g r q ∧ W.heap[g1]? = some (.cells (txC A n c t).toArray 28 (0, 0))) := Lib.hid (fun W hb => by
    have hbw := HB1.out.trans (hb.mono HB1.out.size)
    exact ⟨HR.out.below hbw, H.out.below hbw, (hb.block _ (Array.getElem?_eq_some_iff.1 R1.out).1).trans R1.out⟩)
  clear hb2
  go_enter Tryz.func30, Tryz.ntmps30
  go_wp2_with fail
  try rw [hg]
  try rw [hmb]
  clear hW1 hW2 c0 c2 hmb hmm
  go_loopg [16] (n * 1) (fun gk_ iv wr => ∃ (i : Nat) (met : List (List UInt8)), i ≤ n ∧ gk_ = n - i ∧ iv = .int .i64 (i : Int) ∧ Hid (met.length = i) ∧ Hid (Below W1.heap.size W1 wr) ∧ Hid (wr.ownsMap Tryz.prog 9 boolR mb i (mapA metD (metA met))) ∧ Hid (chkUs r.all met (t.us.drop i) = chkUs r.all [] t.us))
  case atStart => exact ⟨0, [], by omega, by omega, rfl, Lib.hid rfl, HB2, HM2, Lib.hid rfl⟩
  case round =>
  clear HB2 HM2
  obtain ⟨i, met, hi, rfl, rfl, HML, HB, HM, HC⟩ := hrel
  by_cases hlt : i < n
  · have j1 : (i : Int) < (n : Int) := by omega
    have hil : i < t.us.length := by rw [HN.out]; exact hlt
    obtain ⟨u, hu⟩ : ∃ u, t.us[i] = u := ⟨_, rfl⟩
    have HOK : Hid (upOk u) := Lib.hid (HT.out.us u (by rw [← hu]; exact List.getElem_mem hil))
    have hrd := (HR2.out _ HB.out).1
    obtain ⟨b, o, hA, _⟩ := hrd.all (by rw [upsC_len HT.out.us, HN.out]; omega)
    rw [hA] at hrd
    have hrow := rd_flat (f := upC) (m := 65) hrd (fun x hx => upC_len (HT.out.us x hx)) i hil
    rw [hu] at hrow
    have HST : Hid (chkUs r.all met (t.us.drop i) = if chkU r.all met u = 0 then chkUs r.all (met ++ [u.name]) (t.us.drop (i + 1)) else chkU r.all met u) := Lib.hid (by rw [chkUs_step hil, hu])
    have HRW := Lib.hid hrow
    have HA := Lib.hid hA
    rw [hA]
    have HIL := Lib.hid (info_upl HOK.out)
    have HIA := Lib.hid (info_upa HOK.out)
    have HOC : Hid ((upC u).toArray.all (·.oneCell') = true) := Lib.hid (all_oneCell_toArray (upC_one u))
    obtain ⟨gu, hgu⟩ : ∃ x, wr.heap.size = x := ⟨_, rfl⟩
    obtain ⟨WA, hWA⟩ : ∃ W, wr.alloc (.cells Tryz.zeroCells31 31) = W := ⟨_, rfl⟩
    obtain ⟨rA, bA, sA⟩ := new_row hWA
    rw [hgu, upZ_eq] at rA
    obtain ⟨WB, hWB, TB, RB, GB⟩ := put_rowR (new := upC u) rA (by rw [upC_len HOK.out]; rfl)
    have HWB := Lib.hid hWB
    have BB : Hid (Below wr.heap.size wr WB) := Lib.hid (bel_grown bA bA.size GB.out (by omega))
    have BB1 : Hid (Below W1.heap.size W1 WB) := Lib.hid (HB.out.trans (BB.out.mono HB.out.size))
    have HMU : Hid (WB.ownsMap Tryz.prog 9 boolR mb i (mapA metD (metA met))) := Lib.hid (by
      obtain ⟨es, clock, h1, h2⟩ := HM.out
      exact ⟨es, clock, (BB.out.block _ HM.out.lt).trans h1, h2⟩)
    obtain ⟨Y, hY, hYs⟩ : ∃ Y : ByteArray, strV u.name = .string Y ∧ Y.data.toList = u.name := ⟨_, rfl, rfl⟩
    have hYm : Y.size ≤ 140737488355328 := by
      have h1 := size_toList Y
      rw [hYs] at h1
      have := HOK.out.2.2
      omega
    have HYS := Lib.hid hYs
    have HUC : Hid (∀ W : World, W.heap[gu]? = some (.cells (upC u).toArray 31 (0, 0)) → W.cell? ⟨gu, 0, none⟩ = some (.string Y) ∧ W.rangeAt gu 1 (b8s u.old) ∧ W.rangeAt gu 33 (b8s u.new)) := Lib.hid (fun W hw => by
      have h1 := up_cells hw HOK.out
      rw [hY] at h1
      exact h1)
    have cu0 : WB.cell? ⟨gu, 0, none⟩ = some (.string Y) := (HUC.out _ RB.out).1
    have HVD := Lib.hid (valid_any Y (by omega) WB)
    rw [hYs] at HVD
    obtain ⟨la, hla⟩ : ∃ l, upC u = l := ⟨_, rfl⟩
    rw [hla] at HRW HIL HIA HOC HWB TB
    clear hil hu hrd hA hrow rA bA sA hWB hY hYs hla
    obtain ⟨vb, hvb⟩ : ∃ vb, validB u.name = vb := ⟨_, rfl⟩
    have HVB := Lib.hid hvb
    rw [hvb] at HVD
    clear hvb
    cases vb with
    | false =>
      have HF : Hid (z = 100) := Lib.hid (by
        have h1 : chkU r.all met u = 100 := by unfold chkU; rw [if_pos HVB.out]
        have h2 := HC.out
        rw [HST.out, h1, if_neg (by decide)] at h2
        rw [HZ2.out, ← h2, if_pos (by decide)])
      go_wp2_with (first
        | ((with_reducible (refine wpList_load_cells 31 _ b (o + i * 65) (la) HRW.out Tryz.underlying31 rfl HIL.out ?_ rfl ?_ ?_)); (exact rfl); (exact rfl))
        | ((with_reducible (refine wpList_store_mid rfl _ _ _ rfl ?_ ?_ ?_ ?_ ?_ ?_ ?_ ?_ ?_)); (exact gu); (exact 0); (exact (la).toArray); (exact rfl); (exact rfl); (exact TB.out); (exact HIA.out); (exact HOC.out); rw [HWB.out]))
      refine HVD.out.mono ?_
      rintro e w3 ⟨rfl, hb3⟩
      have B3 : Hid (Below W1.heap.size W1 w3) := Lib.hid (BB1.out.trans (hb3.mono BB1.out.size))
      clear hb3
      go_wp2_with fail
      go_ret
      exact ⟨by rw [HF.out]; rfl, by first | exact HB1.out.trans (B3.out.mono HB1.out.size) | (rw [← hg]; exact HB1.out.trans (B3.out.mono HB1.out.size))⟩
    | true =>
      obtain ⟨mq, hmq⟩ : ∃ mq, decide (u.name ∈ met) = mq := ⟨_, rfl⟩
      have HMQ := Lib.hid hmq
      have HLK : Hid (∀ W, Below WB.heap.size WB W → (Instr.lookup 144 (.map (some mb)) (.string Y) false).run Tryz.prog W = .ok (.bool mq) W) := Lib.hid (fun W hb => by
        have h1 : W.ownsMap Tryz.prog 9 boolR mb i (mapA metD (metA met)) := by
          obtain ⟨es, clock, h1, h2⟩ := HMU.out
          exact ⟨es, clock, (hb.block _ HMU.out.lt).trans h1, h2⟩
        have h2 := mlook_any h1 Y (by unfold maxLen; omega)
        rw [HYS.out, hmq] at h2
        exact h2)
      clear hmq
      cases mq with
      | true =>
        have HF : Hid (z = 5) := Lib.hid (by
          have h1 : chkU r.all met u = 5 := by unfold chkU; rw [if_neg (by rw [HVB.out]; decide), if_pos (of_decide_eq_true HMQ.out)]
          have h2 := HC.out
          rw [HST.out, h1, if_neg (by decide)] at h2
          rw [HZ2.out, ← h2, if_pos (by decide)])
        go_wp2_with (first
          | ((with_reducible (refine wpList_load_cells 31 _ b (o + i * 65) (la) HRW.out Tryz.underlying31 rfl HIL.out ?_ rfl ?_ ?_)); (exact rfl); (exact rfl))
          | ((with_reducible (refine wpList_store_mid rfl _ _ _ rfl ?_ ?_ ?_ ?_ ?_ ?_ ?_ ?_ ?_)); (exact gu); (exact 0); (exact (la).toArray); (exact rfl); (exact rfl); (exact TB.out); (exact HIA.out); (exact HOC.out); rw [HWB.out]))
        refine HVD.out.mono ?_
        rintro e w3 ⟨rfl, hb3⟩
        have B3 : Hid (Below W1.heap.size W1 w3) := Lib.hid (BB1.out.trans (hb3.mono BB1.out.size))
        have hlk := HLK.out w3 hb3
        have cu3 : w3.cell? ⟨gu, 0, none⟩ = some (.string Y) := cell_below cu0 (World.block_lt_of_cell? WB _ cu0) hb3
        clear hb3
        go_wp2_with fail
        go_ret
        exact ⟨by rw [HF.out]; rfl, by first | exact HB1.out.trans (B3.out.mono HB1.out.size) | (rw [← hg]; exact HB1.out.trans (B3.out.mono HB1.out.size))⟩
      | false =>
        obtain ⟨id, hid⟩ : ∃ id, getA r.all u.name = id := ⟨_, rfl⟩
        have hidl : id.length = 32 := by rw [← hid]; exact getA_len HKR.out.ids _
        obtain ⟨ne, hne⟩ : ∃ ne, (!decide (id = u.old)) = ne := ⟨_, rfl⟩
        have HNE := Lib.hid hne
        have HID := Lib.hid hid
        have HIDL := Lib.hid (info_idl u.old HOK.out.1)
        obtain ⟨lo, hlo⟩ : ∃ l, b8s u.old = l := ⟨_, rfl⟩
        have HLO := Lib.hid hlo
        have HNQ : Hid (∀ w : World, (binOp .neq 24 (.agg (b8s id).toArray) (.agg lo.toArray)).run Tryz.prog w = .ok (.bool ne) w) := Lib.hid (fun w => by have h1 := id_neq id u.old hidl HOK.out.1 w; rw [hne, hlo] at h1; exact h1)
        rw [hlo] at HIDL
        clear hid hidl hlo hne
        cases ne with
        | true =>
          have HF : Hid (z = 101) := Lib.hid (by
            have h0 : id ≠ u.old := by
              intro e
              have h9 := HNE.out
              rw [e] at h9
              simp at h9
            have h1 : chkU r.all met u = 101 := by unfold chkU; rw [if_neg (by rw [HVB.out]; decide), if_neg (of_decide_eq_false HMQ.out), if_pos (by rw [HID.out]; exact h0)]
            have h2 := HC.out
            rw [HST.out, h1, if_neg (by decide)] at h2
            rw [HZ2.out, ← h2, if_pos (by decide)])
          go_wp2_with (first
            | ((with_reducible (refine wpList_load_cells 31 _ b (o + i * 65) (la) HRW.out Tryz.underlying31 rfl HIL.out ?_ rfl ?_ ?_)); (exact rfl); (exact rfl))
            | ((with_reducible (refine wpList_store_mid rfl _ _ _ rfl ?_ ?_ ?_ ?_ ?_ ?_ ?_ ?_ ?_)); (exact gu); (exact 0); (exact (la).toArray); (exact rfl); (exact rfl); (exact TB.out); (exact HIA.out); (exact HOC.out); rw [HWB.out]))
          refine HVD.out.mono ?_
          rintro e w3 ⟨rfl, hb3⟩
          have B3 : Hid (Below W1.heap.size W1 w3) := Lib.hid (BB1.out.trans (hb3.mono BB1.out.size))
          have hlk := HLK.out w3 hb3
          have R3u : Hid (w3.heap[gu]? = some (.cells (upC u).toArray 31 (0, 0))) := Lib.hid ((hb3.block _ (Array.getElem?_eq_some_iff.1 RB.out).1).trans RB.out)
          have HMU3 : Hid (w3.drew.ownsMap Tryz.prog 9 boolR mb i (mapA metD (metA met))) := Lib.hid (by
            obtain ⟨es, clock, h1, h2⟩ := HMU.out
            exact ⟨es, clock, (hb3.block _ HMU.out.lt).trans h1, h2⟩)
          have cu3 : w3.cell? ⟨gu, 0, none⟩ = some (.string Y) := (HUC.out _ R3u.out).1
          have HU1 : Hid (w3.rangeAt gu 1 lo) := Lib.hid (by have h1 := (HUC.out _ R3u.out).2.1; rw [HLO.out] at h1; exact h1)
          have hrf := (HR2.out _ B3.out).2.1
          have cr1 : w3.cell? ⟨gr, 1, none⟩ = some (.map (some q.mb)) := hrf.cells.2.1
          have HRM : Hid (Hid (w3.ownsMap Tryz.prog 9 idR q.mb r.all.length (mapA idD r.all))) := Lib.hid (Lib.hid hrf.map)
          clear hb3 hrf
          go_wp2_with fail
          refine wp_region_sched (fun w' => w'.cell? ⟨gr, 1, none⟩ = some (.map (some q.mb)) ∧ w'.cell? ⟨gu, 0, none⟩ = some (.string Y) ∧ w'.rangeAt gu 1 lo ∧ Hid (w'.ownsMap Tryz.prog 9 idR q.mb r.all.length (mapA idD r.all))) [(true, 0), (true, 1), (true, 2), (true, 3), (true, 4), (true, 5), (true, 6), (true, 7), (true, 8), (true, 9), (true, 10)] (by kernel_rfl) (by kernel_rfl) rfl (by kernel_rfl) ⟨cr1, cu3, HU1.out, HRM.out⟩ ?_
          (first | (refine wpS_pass _ rfl (by rfl) ?_; simp only [Act.put, List.getElem_toArray, List.getElem_cons_zero, List.getElem_cons_succ, List.setIfInBounds_toArray, List.set_cons_zero, List.set_cons_succ]) | (refine wpS_take _ ?_ rfl (by rfl) ?_ ?_; rotate_left; (focus (intro w' hS'; (try dsimp only at hS'); (repeat (have hS1 := hS'.1; replace hS' := hS'.2)); go_simp; (try with_reducible rfl); done)); simp only [Act.put, List.getElem_toArray, List.getElem_cons_zero, List.getElem_cons_succ, List.setIfInBounds_toArray, List.set_cons_zero, List.set_cons_succ]))
          (first | (refine wpS_pass _ rfl (by rfl) ?_; simp only [Act.put, List.getElem_toArray, List.getElem_cons_zero, List.getElem_cons_succ, List.setIfInBounds_toArray, List.set_cons_zero, List.set_cons_succ]) | (refine wpS_take _ ?_ rfl (by rfl) ?_ ?_; rotate_left; (focus (intro w' hS'; (try dsimp only at hS'); (repeat (have hS1 := hS'.1; replace hS' := hS'.2)); go_simp; (try with_reducible rfl); done)); simp only [Act.put, List.getElem_toArray, List.getElem_cons_zero, List.getElem_cons_succ, List.setIfInBounds_toArray, List.set_cons_zero, List.set_cons_succ]))
          (first | (refine wpS_pass _ rfl (by rfl) ?_; simp only [Act.put, List.getElem_toArray, List.getElem_cons_zero, List.getElem_cons_succ, List.setIfInBounds_toArray, List.set_cons_zero, List.set_cons_succ]) | (refine wpS_take _ ?_ rfl (by rfl) ?_ ?_; rotate_left; (focus (intro w' hS'; (try dsimp only at hS'); (repeat (have hS1 := hS'.1; replace hS' := hS'.2)); go_simp; (try with_reducible rfl); done)); simp only [Act.put, List.getElem_toArray, List.getElem_cons_zero, List.getElem_cons_succ, List.setIfInBounds_toArray, List.set_cons_zero, List.set_cons_succ]))
          (first | (refine wpS_pass _ rfl (by rfl) ?_; simp only [Act.put, List.getElem_toArray, List.getElem_cons_zero, List.getElem_cons_succ, List.setIfInBounds_toArray, List.set_cons_zero, List.set_cons_succ]) | (refine wpS_take _ ?_ rfl (by rfl) ?_ ?_; rotate_left; (focus (intro w' hS'; (try dsimp only at hS'); (repeat (have hS1 := hS'.1; replace hS' := hS'.2)); go_simp; (try with_reducible rfl); done)); simp only [Act.put, List.getElem_toArray, List.getElem_cons_zero, List.getElem_cons_succ, List.setIfInBounds_toArray, List.set_cons_zero, List.set_cons_succ]))
          (first | (refine wpS_pass _ rfl (by rfl) ?_; simp only [Act.put, List.getElem_toArray, List.getElem_cons_zero, List.getElem_cons_succ, List.setIfInBounds_toArray, List.set_cons_zero, List.set_cons_succ]) | (refine wpS_take _ ?_ rfl (by rfl) ?_ ?_; rotate_left; (focus (intro w' hS'; (try dsimp only at hS'); (repeat (have hS1 := hS'.1; replace hS' := hS'.2)); go_simp; (try with_reducible rfl); done)); simp only [Act.put, List.getElem_toArray, List.getElem_cons_zero, List.getElem_cons_succ, List.setIfInBounds_toArray, List.set_cons_zero, List.set_cons_succ]))
          (first | (refine wpS_pass _ rfl (by rfl) ?_; simp only [Act.put, List.getElem_toArray, List.getElem_cons_zero, List.getElem_cons_succ, List.setIfInBounds_toArray, List.set_cons_zero, List.set_cons_succ]) | (refine wpS_take _ ?_ rfl (by rfl) ?_ ?_; rotate_left; (focus (intro w' hS'; (try dsimp only at hS'); (repeat (have hS1 := hS'.1; replace hS' := hS'.2)); go_simp; (try with_reducible rfl); done)); simp only [Act.put, List.getElem_toArray, List.getElem_cons_zero, List.getElem_cons_succ, List.setIfInBounds_toArray, List.set_cons_zero, List.set_cons_succ]))
          refine wpS_take _ (.agg (b8s id).toArray) rfl (by rfl) (fun w' hS' => exec_lookup _ _ _ rfl _ _ _ rfl rfl (by have h1 := rlook_any hS'.2.2.2.out Y (by unfold maxLen; omega); rw [HYS.out, HID.out] at h1; exact h1)) ?_
          simp only [Act.put, List.getElem_toArray, List.getElem_cons_zero, List.getElem_cons_succ, List.setIfInBounds_toArray, List.set_cons_zero, List.set_cons_succ]
          (first | (refine wpS_pass _ rfl (by rfl) ?_; simp only [Act.put, List.getElem_toArray, List.getElem_cons_zero, List.getElem_cons_succ, List.setIfInBounds_toArray, List.set_cons_zero, List.set_cons_succ]) | (refine wpS_take _ ?_ rfl (by rfl) ?_ ?_; rotate_left; (focus (intro w' hS'; (try dsimp only at hS'); (repeat (have hS1 := hS'.1; replace hS' := hS'.2)); go_simp; (try with_reducible rfl); done)); simp only [Act.put, List.getElem_toArray, List.getElem_cons_zero, List.getElem_cons_succ, List.setIfInBounds_toArray, List.set_cons_zero, List.set_cons_succ]))
          refine wpS_load _ rfl (by rfl) 24 _ rfl gu 1 rfl lo _ (fun w' hS => hS.2.2.1) Tryz.underlying24 rfl HIDL.out ?_
          simp only [Act.put, List.getElem_toArray, List.getElem_cons_zero, List.getElem_cons_succ, List.setIfInBounds_toArray, List.set_cons_zero, List.set_cons_succ]
          refine wpS_take _ (.bool true) rfl (by rfl) (fun w' hS' => exec_bin _ _ _ _ _ rfl _ _ _ rfl rfl (run_eqGuard_agg w' _ _ _ _ _ _ id_guard) (HNQ.out w')) ?_
          simp only [Act.put, List.getElem_toArray, List.getElem_cons_zero, List.getElem_cons_succ, List.setIfInBounds_toArray, List.set_cons_zero, List.set_cons_succ]
          (first | (refine wpS_pass _ rfl (by rfl) ?_; simp only [Act.put, List.getElem_toArray, List.getElem_cons_zero, List.getElem_cons_succ, List.setIfInBounds_toArray, List.set_cons_zero, List.set_cons_succ]) | (refine wpS_take _ ?_ rfl (by rfl) ?_ ?_; rotate_left; (focus (intro w' hS'; (try dsimp only at hS'); (repeat (have hS1 := hS'.1; replace hS' := hS'.2)); go_simp; (try with_reducible rfl); done)); simp only [Act.put, List.getElem_toArray, List.getElem_cons_zero, List.getElem_cons_succ, List.setIfInBounds_toArray, List.set_cons_zero, List.set_cons_succ]))
          refine wpS_done ?_
          go_wp2_with fail
          go_ret
          exact ⟨by rw [HF.out]; rfl, by first | exact HB1.out.trans (B3.out.drew.mono HB1.out.size) | (rw [← hg]; exact HB1.out.trans (B3.out.drew.mono HB1.out.size))⟩
        | false =>
          have HS : Hid (chkUs r.all (met ++ [u.name]) (t.us.drop (i + 1)) = chkUs r.all [] t.us) := Lib.hid (by
            have h0 : id = u.old := by
              have h9 := HNE.out
              simpa using h9
            have h1 : chkU r.all met u = 0 := by unfold chkU; rw [if_neg (by rw [HVB.out]; decide), if_neg (of_decide_eq_false HMQ.out), if_neg (by rw [HID.out, h0]; simp)]
            have h2 := HC.out
            rw [HST.out, if_pos h1] at h2
            exact h2)
          have HKY := Lib.hid (WideMaps.keyOf_string_mk (P := Tryz.prog) Tryz.underlying9 (s := Y) (by unfold maxLen; omega))
          go_wp2_with (first
            | ((with_reducible (refine wpList_load_cells 31 _ b (o + i * 65) (la) HRW.out Tryz.underlying31 rfl HIL.out ?_ rfl ?_ ?_)); (exact rfl); (exact rfl))
            | ((with_reducible (refine wpList_store_mid rfl _ _ _ rfl ?_ ?_ ?_ ?_ ?_ ?_ ?_ ?_ ?_)); (exact gu); (exact 0); (exact (la).toArray); (exact rfl); (exact rfl); (exact TB.out); (exact HIA.out); (exact HOC.out); rw [HWB.out]))
          refine HVD.out.mono ?_
          rintro e w3 ⟨rfl, hb3⟩
          have B3 : Hid (Below W1.heap.size W1 w3) := Lib.hid (BB1.out.trans (hb3.mono BB1.out.size))
          have hlk := HLK.out w3 hb3
          have R3u : Hid (w3.heap[gu]? = some (.cells (upC u).toArray 31 (0, 0))) := Lib.hid ((hb3.block _ (Array.getElem?_eq_some_iff.1 RB.out).1).trans RB.out)
          have HMU3 : Hid (w3.drew.ownsMap Tryz.prog 9 boolR mb i (mapA metD (metA met))) := Lib.hid (by
            obtain ⟨es, clock, h1, h2⟩ := HMU.out
            exact ⟨es, clock, (hb3.block _ HMU.out.lt).trans h1, h2⟩)
          have cu3 : w3.cell? ⟨gu, 0, none⟩ = some (.string Y) := (HUC.out _ R3u.out).1
          have HU1 : Hid (w3.rangeAt gu 1 lo) := Lib.hid (by have h1 := (HUC.out _ R3u.out).2.1; rw [HLO.out] at h1; exact h1)
          have hrf := (HR2.out _ B3.out).2.1
          have cr1 : w3.cell? ⟨gr, 1, none⟩ = some (.map (some q.mb)) := hrf.cells.2.1
          have HRM : Hid (Hid (w3.ownsMap Tryz.prog 9 idR q.mb r.all.length (mapA idD r.all))) := Lib.hid (Lib.hid hrf.map)
          clear hb3 hrf
          go_wp2_with fail
          refine wp_region_sched (fun w' => w'.cell? ⟨gr, 1, none⟩ = some (.map (some q.mb)) ∧ w'.cell? ⟨gu, 0, none⟩ = some (.string Y) ∧ w'.rangeAt gu 1 lo ∧ Hid (w'.ownsMap Tryz.prog 9 idR q.mb r.all.length (mapA idD r.all))) [(true, 0), (true, 1), (true, 2), (true, 3), (true, 4), (true, 5), (true, 6), (true, 7), (true, 8), (true, 9), (true, 10)] (by kernel_rfl) (by kernel_rfl) rfl (by kernel_rfl) ⟨cr1, cu3, HU1.out, HRM.out⟩ ?_
          (first | (refine wpS_pass _ rfl (by rfl) ?_; simp only [Act.put, List.getElem_toArray, List.getElem_cons_zero, List.getElem_cons_succ, List.setIfInBounds_toArray, List.set_cons_zero, List.set_cons_succ]) | (refine wpS_take _ ?_ rfl (by rfl) ?_ ?_; rotate_left; (focus (intro w' hS'; (try dsimp only at hS'); (repeat (have hS1 := hS'.1; replace hS' := hS'.2)); go_simp; (try with_reducible rfl); done)); simp only [Act.put, List.getElem_toArray, List.getElem_cons_zero, List.getElem_cons_succ, List.setIfInBounds_toArray, List.set_cons_zero, List.set_cons_succ]))
          (first | (refine wpS_pass _ rfl (by rfl) ?_; simp only [Act.put, List.getElem_toArray, List.getElem_cons_zero, List.getElem_cons_succ, List.setIfInBounds_toArray, List.set_cons_zero, List.set_cons_succ]) | (refine wpS_take _ ?_ rfl (by rfl) ?_ ?_; rotate_left; (focus (intro w' hS'; (try dsimp only at hS'); (repeat (have hS1 := hS'.1; replace hS' := hS'.2)); go_simp; (try with_reducible rfl); done)); simp only [Act.put, List.getElem_toArray, List.getElem_cons_zero, List.getElem_cons_succ, List.setIfInBounds_toArray, List.set_cons_zero, List.set_cons_succ]))
          (first | (refine wpS_pass _ rfl (by rfl) ?_; simp only [Act.put, List.getElem_toArray, List.getElem_cons_zero, List.getElem_cons_succ, List.setIfInBounds_toArray, List.set_cons_zero, List.set_cons_succ]) | (refine wpS_take _ ?_ rfl (by rfl) ?_ ?_; rotate_left; (focus (intro w' hS'; (try dsimp only at hS'); (repeat (have hS1 := hS'.1; replace hS' := hS'.2)); go_simp; (try with_reducible rfl); done)); simp only [Act.put, List.getElem_toArray, List.getElem_cons_zero, List.getElem_cons_succ, List.setIfInBounds_toArray, List.set_cons_zero, List.set_cons_succ]))
          (first | (refine wpS_pass _ rfl (by rfl) ?_; simp only [Act.put, List.getElem_toArray, List.getElem_cons_zero, List.getElem_cons_succ, List.setIfInBounds_toArray, List.set_cons_zero, List.set_cons_succ]) | (refine wpS_take _ ?_ rfl (by rfl) ?_ ?_; rotate_left; (focus (intro w' hS'; (try dsimp only at hS'); (repeat (have hS1 := hS'.1; replace hS' := hS'.2)); go_simp; (try with_reducible rfl); done)); simp only [Act.put, List.getElem_toArray, List.getElem_cons_zero, List.getElem_cons_succ, List.setIfInBounds_toArray, List.set_cons_zero, List.set_cons_succ]))
          (first | (refine wpS_pass _ rfl (by rfl) ?_; simp only [Act.put, List.getElem_toArray, List.getElem_cons_zero, List.getElem_cons_succ, List.setIfInBounds_toArray, List.set_cons_zero, List.set_cons_succ]) | (refine wpS_take _ ?_ rfl (by rfl) ?_ ?_; rotate_left; (focus (intro w' hS'; (try dsimp only at hS'); (repeat (have hS1 := hS'.1; replace hS' := hS'.2)); go_simp; (try with_reducible rfl); done)); simp only [Act.put, List.getElem_toArray, List.getElem_cons_zero, List.getElem_cons_succ, List.setIfInBounds_toArray, List.set_cons_zero, List.set_cons_succ]))
          (first | (refine wpS_pass _ rfl (by rfl) ?_; simp only [Act.put, List.getElem_toArray, List.getElem_cons_zero, List.getElem_cons_succ, List.setIfInBounds_toArray, List.set_cons_zero, List.set_cons_succ]) | (refine wpS_take _ ?_ rfl (by rfl) ?_ ?_; rotate_left; (focus (intro w' hS'; (try dsimp only at hS'); (repeat (have hS1 := hS'.1; replace hS' := hS'.2)); go_simp; (try with_reducible rfl); done)); simp only [Act.put, List.getElem_toArray, List.getElem_cons_zero, List.getElem_cons_succ, List.setIfInBounds_toArray, List.set_cons_zero, List.set_cons_succ]))
          refine wpS_take _ (.agg (b8s id).toArray) rfl (by rfl) (fun w' hS' => exec_lookup _ _ _ rfl _ _ _ rfl rfl (by have h1 := rlook_any hS'.2.2.2.out Y (by unfold maxLen; omega); rw [HYS.out, HID.out] at h1; exact h1)) ?_
          simp only [Act.put, List.getElem_toArray, List.getElem_cons_zero, List.getElem_cons_succ, List.setIfInBounds_toArray, List.set_cons_zero, List.set_cons_succ]
          (first | (refine wpS_pass _ rfl (by rfl) ?_; simp only [Act.put, List.getElem_toArray, List.getElem_cons_zero, List.getElem_cons_succ, List.setIfInBounds_toArray, List.set_cons_zero, List.set_cons_succ]) | (refine wpS_take _ ?_ rfl (by rfl) ?_ ?_; rotate_left; (focus (intro w' hS'; (try dsimp only at hS'); (repeat (have hS1 := hS'.1; replace hS' := hS'.2)); go_simp; (try with_reducible rfl); done)); simp only [Act.put, List.getElem_toArray, List.getElem_cons_zero, List.getElem_cons_succ, List.setIfInBounds_toArray, List.set_cons_zero, List.set_cons_succ]))
          refine wpS_load _ rfl (by rfl) 24 _ rfl gu 1 rfl lo _ (fun w' hS => hS.2.2.1) Tryz.underlying24 rfl HIDL.out ?_
          simp only [Act.put, List.getElem_toArray, List.getElem_cons_zero, List.getElem_cons_succ, List.setIfInBounds_toArray, List.set_cons_zero, List.set_cons_succ]
          refine wpS_take _ (.bool false) rfl (by rfl) (fun w' hS' => exec_bin _ _ _ _ _ rfl _ _ _ rfl rfl (run_eqGuard_agg w' _ _ _ _ _ _ id_guard) (HNQ.out w')) ?_
          simp only [Act.put, List.getElem_toArray, List.getElem_cons_zero, List.getElem_cons_succ, List.setIfInBounds_toArray, List.set_cons_zero, List.set_cons_succ]
          (first | (refine wpS_pass _ rfl (by rfl) ?_; simp only [Act.put, List.getElem_toArray, List.getElem_cons_zero, List.getElem_cons_succ, List.setIfInBounds_toArray, List.set_cons_zero, List.set_cons_succ]) | (refine wpS_take _ ?_ rfl (by rfl) ?_ ?_; rotate_left; (focus (intro w' hS'; (try dsimp only at hS'); (repeat (have hS1 := hS'.1; replace hS' := hS'.2)); go_simp; (try with_reducible rfl); done)); simp only [Act.put, List.getElem_toArray, List.getElem_cons_zero, List.getElem_cons_succ, List.setIfInBounds_toArray, List.set_cons_zero, List.set_cons_succ]))
          refine wpS_done ?_
          go_wp2_with (at_mapUpdate; refine wpList_mapUpdate_in _ rfl _ _ _ 144 rfl 9 4 keyed_str Tryz.underlying144 boolR mb i _ rfl HMU3.out (by unfold maxLen; omega) _ _ _ rfl rfl HKY.out (boolD true) [] rfl ?_; intro w5 ho5 hm5; have HO5 := Lib.hid ho5; have HM5 := Lib.hid hm5.grown; clear ho5 hm5)
          rw [← HA.out]
          clear hlk cu3 cr1 cu0
          go_roundg (n - (i + 1))
          case measure => omega
          case rel => exact ⟨i + 1, met ++ [u.name], by omega, rfl, by first | rfl | exact congrArg (Value.int .i64) (by omega) | go_num, Lib.hid (by rw [List.length_append, HML.out]; rfl), Lib.hid (bel_grown B3.out.drew B3.out.size HM5.out (by have := HMB.out; omega)), Lib.hid (by
            have h1 := HO5.out
            rw [HYS.out] at h1
            have h2 := mapA_put metD (metA met) u.name ()
            rw [metA_snoc, ← h2]
            exact h1), HS⟩
  · obtain rfl : i = n := by omega
    have HCZ : Hid (z = if t.head ≠ [] ∧ branchB t.head = false then 100 else 0) := Lib.hid (by
      have h1 := HC.out
      rw [List.drop_eq_nil_of_le (by rw [HN.out]; exact Nat.le_refl _)] at h1
      have h2 : chkUs r.all [] t.us = 0 := h1.symm
      rw [HZ2.out, h2, if_neg (by simp)])
    have hrow := (HR2.out _ HB.out).2.2
    have c1 : wr.cell? ⟨g1, 1, none⟩ = some (.string X) := by rw [← HX.out]; exact (tx_cells hrow).2.1
    have hXm : X.size ≤ 140737488355328 := by
      have h1 := size_toList X
      rw [HXS.out] at h1
      have := HT.out.hd
      omega
    clear hrow
    by_cases hh : t.head = []
    · have hem : X.toList.isEmpty = true := by rw [tl_data, HXS.out, hh]; rfl
      have HF : Hid (z = 0) := Lib.hid (by rw [HCZ.out, if_neg (by simp [hh])])
      clear hh
      go_wp2_with fail
      go_ret
      exact ⟨by rw [HF.out]; rfl, by first | exact HB1.out.trans (HB.out.mono HB1.out.size) | (rw [← hg]; exact HB1.out.trans (HB.out.mono HB1.out.size))⟩
    · have hem : X.toList.isEmpty = false := by rw [tl_data, HXS.out, List.isEmpty_eq_false_iff]; exact hh
      have HBR := Lib.hid (branch_any X (by omega) wr)
      rw [HXS.out] at HBR
      obtain ⟨bb, hbb⟩ : ∃ bb, branchB t.head = bb := ⟨_, rfl⟩
      have HBB := Lib.hid hbb
      have HHD := Lib.hid hh
      rw [hbb] at HBR
      clear hbb hh
      cases bb with
      | true =>
        have HF : Hid (z = 0) := Lib.hid (by rw [HCZ.out, if_neg (by simp [HBB.out])])
        go_wp2_with fail
        refine HBR.out.mono ?_
        rintro e w5 ⟨rfl, hb5⟩
        have B5 : Hid (Below w.heap.size w w5) := Lib.hid (HB1.out.trans ((HB.out.trans (hb5.mono HB.out.size)).mono HB1.out.size))
        clear hb5
        go_wp2_with fail
        go_ret
        exact ⟨by rw [HF.out]; rfl, by first | exact B5.out | (rw [← hg]; exact B5.out)⟩
      | false =>
        have HF : Hid (z = 100) := Lib.hid (by rw [HCZ.out, if_pos ⟨HHD.out, HBB.out⟩])
        go_wp2_with fail
        refine HBR.out.mono ?_
        rintro e w5 ⟨rfl, hb5⟩
        have B5 : Hid (Below w.heap.size w w5) := Lib.hid (HB1.out.trans ((HB.out.trans (hb5.mono HB.out.size)).mono HB1.out.size))
        clear hb5
        go_wp2_with fail
        go_ret
        exact ⟨by rw [HF.out]; rfl, by first | exact B5.out | (rw [← hg]; exact B5.out)⟩
end Go.Proofs.YtelbofikcpchiaaGreat
