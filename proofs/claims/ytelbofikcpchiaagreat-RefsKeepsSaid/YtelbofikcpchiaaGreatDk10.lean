
/- A disk's Crash. (Printed by wip/genDk10.py.) -/

import Derived.Test.YtelbofikcpchiaaGreatDk9

namespace Go.Proofs.YtelbofikcpchiaaGreat

set_option linter.unusedVariables false

set_option linter.unusedSimpArgs false

set_option linter.unusedSectionVars false

open Go.RowKit

/-- the block of a code that has a number -/
def findBlk (n : Nat) : Code → Option Code
  | .block k c => if k = n then some (.block k c) else findBlk n c
  | .loop c => findBlk n c
  | .scope c => findBlk n c
  | .seq a b => match findBlk n a with
    | some c => some c
    | none => findBlk n b
  | .cond _ a b => match findBlk n a with
    | some c => some c
    | none => findBlk n b
  | _ => none
noncomputable def crBlk (n : Nat) : Code := ((Tryz.f25.body.bind (findBlk n)).getD .skip)

/-- where a turn's pointer leads -/
def turnP (bs : List Nat) (t : TM) : Option Addr := if t.to_ = [] then none else some ⟨bs.getD t.f 0, 0, none⟩
theorem turnC_form (bs : List Nat) (t : TM) : turnC bs t = [.string ⟨t.fr.toArray⟩, .string ⟨t.to_.toArray⟩, .pointer (turnP bs t)] := by
  unfold turnC turnP ptrV strV
  split <;> rfl
theorem rd_turn {w : World} {b off : Nat} {bs : List Nat} {ts : List TM} (hr : Rd w (some ⟨b, off, none⟩) (turnsC bs ts)) (i : Nat) (hi : i < ts.length) : w.rangeAt b (off + i * 3) (turnC bs ts[i]) := rd_flat hr (fun _ _ => rfl) i hi
theorem toArray_data (l : List UInt8) : (⟨l.toArray⟩ : ByteArray).data.toList = l := by simp
theorem toArray_size (l : List UInt8) : (⟨l.toArray⟩ : ByteArray).size = l.length := rfl

set_option maxRecDepth 1000000 in
set_option maxHeartbeats 8000000 in
theorem cr_turns {u1 u2 u3 u4 u5 u6 u7 u8 u9 u10 u11 u12 u13 u14 u15 u16 u17 u18 u19 u20 u21 u22 u23 u24 u25 u26 u27 u28 u29 u30 u34 u35 u36 u37 u38 u39 u40 u41 u42 u43 u44 u45 u46 u47 u48 u49 u50 u51 u52 u53 u54 u55 u56 u57 u58 u59 u60 u61 u62 u63 u64 u65 u66 u67 u68 u69 u70 u71 u72 u73 u74 u75 u76 u77 u78 u79 u80 u81 u82 u83 u84 u85 u86 u87 u88 u89 u90 u91 u92 u93 u94 u95 u96 u97 u98 u99 u100 u101 u102 u103 u104 u105 u106 u107 u108 u109 u110 u111 u112 u113 : Value} (N g : Nat) (m : DM) (d : DA) (hB : Bnd m) (At : Option Addr) (k ct n0 : Nat) (HTV : Hid (d.tv = .slice At n0 ct)) (hk : k ≤ m.turns.length) (hkm : k ≤ 1000000) (wr : World) (HD : Hid (DiskIn N wr g m d)) (Q : Exit → Act → World → Prop)
    (hexit : ∀ (x7 x33 x34 x35 x36 x37 x38 x39 x40 x41 x42 x43 : Value) (wx : World), Hid (Aft N g wr wx { m with sure := (m.turns.take k).foldl doN m.sure } d d) → Q .normal ⟨#[.pointer (some ⟨g, 0, none⟩), u1, u2, u3, u4, u5, u6, x7, u8, u9, u10, u11, u12, u13, u14, u15, u16, u17, u18, u19, u20, u21, u22, u23, u24, u25, u26, u27, u28, u29, u30, .slice At k ct, .int .i64 (k : Int), x33, x34, x35, x36, x37, x38, x39, x40, x41, x42, x43, u44, u45, u46, u47, u48, u49, u50, u51, u52, u53, u54, u55, u56, u57, u58, u59, u60, u61, u62, u63, u64, u65, u66, u67, u68, u69, u70, u71, u72, u73, u74, u75, u76, u77, u78, u79, u80, u81, u82, u83, u84, u85, u86, u87, u88, u89, u90, u91, u92, u93, u94, u95, u96, u97, u98, u99, u100, u101, u102, u103, u104, u105, u106, u107, u108, u109, u110, u111, u112, u113], []⟩ wx) :
    Code.wp Tryz.prog (crBlk 0) Q ⟨#[.pointer (some ⟨g, 0, none⟩), u1, u2, u3, u4, u5, u6, u7, u8, u9, u10, u11, u12, u13, u14, u15, u16, u17, u18, u19, u20, u21, u22, u23, u24, u25, u26, u27, u28, u29, u30, .slice At k ct, .int .i64 (k : Int), .int .i64 0, u34, u35, u36, u37, u38, u39, u40, u41, u42, u43, u44, u45, u46, u47, u48, u49, u50, u51, u52, u53, u54, u55, u56, u57, u58, u59, u60, u61, u62, u63, u64, u65, u66, u67, u68, u69, u70, u71, u72, u73, u74, u75, u76, u77, u78, u79, u80, u81, u82, u83, u84, u85, u86, u87, u88, u89, u90, u91, u92, u93, u94, u95, u96, u97, u98, u99, u100, u101, u102, u103, u104, u105, u106, u107, u108, u109, u110, u111, u112, u113], []⟩ wr := by
  have HEX := Lib.hid hexit
  clear hexit
  conv => arg 2; whnf
  obtain ⟨w0, hw0⟩ : ∃ x, x = wr := ⟨_, rfl⟩
  subst hw0
  go_wp2_with fail
  go_loopg [33] (k * 1) (fun gk_ iv wr => ∃ (j : Nat), j ≤ k ∧ gk_ = k - j ∧ iv = .int .i64 (j : Int) ∧ Hid (Aft N g w0 wr { m with sure := (m.turns.take j).foldl doN m.sure } d d) ∧ Hid (((m.turns.take j).foldl doN m.sure).length ≤ m.sure.length + j))
  case atStart => exact ⟨0, by omega, by omega, rfl, Lib.hid (Aft.refl HD.out), Lib.hid (by simp)⟩
  case round =>
  obtain ⟨j, hj, rfl, rfl, HA, HLS⟩ := hrel
  by_cases hlt : j < k
  · have i1 : (j : Int) < (k : Int) := by omega
    have hlt' : j < m.turns.length := by omega
    obtain ⟨t, ht⟩ : ∃ t, m.turns[j] = t := ⟨_, rfl⟩
    obtain ⟨sm, hsm⟩ : ∃ sm, (m.turns.take j).foldl doN m.sure = sm := ⟨_, rfl⟩
    rw [hsm] at HA HLS
    have HNX : Hid ((m.turns.take (j + 1)).foldl doN m.sure = doN sm t) := Lib.hid (by rw [List.take_succ_eq_append_getElem hlt', List.foldl_append, hsm, ht]; rfl)
    have htl := hB.tl t (by rw [← ht]; exact List.getElem_mem hlt')
    have hown := HA.out.disk.turns
    have hrd : Rd wr At (turnsC d.bs m.turns) := by
      rw [HTV.out] at hown
      exact own_rd hown
    obtain ⟨gt, ot, hAt, _⟩ := hrd.all (by rw [turnsC_len]; omega)
    rw [hAt] at hrd
    have hrow := rd_turn hrd j hlt'
    rw [ht, turnC_form] at hrow
    have HAT := Lib.hid hAt
    have HROW := Lib.hid hrow
    have HTL := Lib.hid htl
    obtain ⟨tb, htb⟩ : ∃ tb, wr.heap.size = tb := ⟨_, rfl⟩
    obtain ⟨W5, hW5⟩ : ∃ W, wr.alloc (.cells #[.string ⟨t.fr.toArray⟩, .string ⟨t.to_.toArray⟩, .pointer (turnP d.bs t)] 114) = W := ⟨_, rfl⟩
    obtain ⟨r5, b5, s5⟩ := new_row hW5
    rw [htb] at r5
    have HR5 := Lib.hid r5
    have A5 := Lib.hid (HA.out.trans (Aft.below HA.out.disk b5))
    have HFT : Hid (∀ b, foot g d b → b < tb) := Lib.hid (fun b hb => by have := HA.out.disk.foot_lt hb; omega)
    have HTB := Lib.hid htb
    have hc1 : W5.cell? ⟨g, 1, none⟩ = some (.map (some d.sb)) := A5.out.disk.cells.2.1
    obtain ⟨S, hS⟩ : ∃ S : ByteArray, (⟨t.fr.toArray⟩ : ByteArray) = S := ⟨_, rfl⟩
    obtain ⟨T, hT⟩ : ∃ T : ByteArray, (⟨t.to_.toArray⟩ : ByteArray) = T := ⟨_, rfl⟩
    obtain ⟨p, hp⟩ : ∃ p, turnP d.bs t = p := ⟨_, rfl⟩
    have hSs : S.data.toList = t.fr := by rw [← hS]
    have hTs : T.data.toList = t.to_ := by rw [← hT]
    have HDO : Hid (∀ w', w'.ownsMap Tryz.prog 9 ptrR d.sb sm.length (namesD d.bs sm) → Calls Tryz.prog 62 #[.map (some d.sb), .agg #[.string S, .string T, .pointer p]] w' fun e w'' => e = .returned (.tuple #[]) ∧ w''.ownsMap Tryz.prog 9 ptrR d.sb (doN sm t).length (namesD d.bs (doN sm t)) ∧ w'.grownBy w'' (some d.sb)) := Lib.hid (fun w' ho => by
      have := do_any d.sb sm.length d.bs sm S T p t.f w' ho (by have := HLS.out; have := hB.sure; unfold maxLen; omega) (by rw [← hS, toArray_size]; unfold maxLen; omega) (by rw [← hT, toArray_size]; unfold maxLen; omega) (fun e => by rw [← hp]; unfold turnP; rw [if_neg (by rw [← hTs]; exact e)])
      rw [hSs, hTs] at this
      exact this)
    have HLN : Hid ((doN sm t).length ≤ sm.length + 1) := Lib.hid (by
      unfold doN
      dsimp only
      have h1 := delN_length sm t.fr
      split
      · split
        · omega
        · omega
      · split
        · exact putN_length _ _ _
        · have := putN_length (delN sm t.fr) t.to_ t.f; omega)
    rw [hS, hT, hp] at HROW HR5 hW5
    rw [hAt]
    clear hsm hown hrd hAt hrow htl r5 b5 s5 htb hS hT hp hSs hTs ht
    go_wp2_with ((with_reducible (refine wpList_load_cells 114 _ gt (ot + j * 3) ([.string S, .string T, .pointer p]) HROW.out Tryz.underlying114 rfl info_turn3 ?_ rfl ?_ ?_)); (exact rfl); (exact rfl))
    rw [HTB.out]
    refine wp_region_sched (fun w' => w'.cell? ⟨g, 1, none⟩ = some (.map (some d.sb)) ∧ w'.rangeAt tb 0 [.string S, .string T, .pointer p]) [(true, 0), (true, 1), (true, 2), (true, 3), (true, 4), (false, 5)] (by kernel_rfl) (by kernel_rfl) rfl (by kernel_rfl) ⟨hc1, range_of_row (cs := [.string S, .string T, .pointer p]) HR5.out⟩ ?_
    (first | (refine wpS_pass _ rfl (by rfl) ?_; simp only [Act.put, List.getElem_toArray, List.getElem_cons_zero, List.getElem_cons_succ, List.setIfInBounds_toArray, List.set_cons_zero, List.set_cons_succ]) | (refine wpS_take _ ?_ rfl (by rfl) ?_ ?_; rotate_left; (focus (intro w' hS'; (try dsimp only at hS'); (repeat (have hS1 := hS'.1; replace hS' := hS'.2)); go_simp; (try with_reducible rfl); done)); simp only [Act.put, List.getElem_toArray, List.getElem_cons_zero, List.getElem_cons_succ, List.setIfInBounds_toArray, List.set_cons_zero, List.set_cons_succ]))
    (first | (refine wpS_pass _ rfl (by rfl) ?_; simp only [Act.put, List.getElem_toArray, List.getElem_cons_zero, List.getElem_cons_succ, List.setIfInBounds_toArray, List.set_cons_zero, List.set_cons_succ]) | (refine wpS_take _ ?_ rfl (by rfl) ?_ ?_; rotate_left; (focus (intro w' hS'; (try dsimp only at hS'); (repeat (have hS1 := hS'.1; replace hS' := hS'.2)); go_simp; (try with_reducible rfl); done)); simp only [Act.put, List.getElem_toArray, List.getElem_cons_zero, List.getElem_cons_succ, List.setIfInBounds_toArray, List.set_cons_zero, List.set_cons_succ]))
    (first | (refine wpS_pass _ rfl (by rfl) ?_; simp only [Act.put, List.getElem_toArray, List.getElem_cons_zero, List.getElem_cons_succ, List.setIfInBounds_toArray, List.set_cons_zero, List.set_cons_succ]) | (refine wpS_take _ ?_ rfl (by rfl) ?_ ?_; rotate_left; (focus (intro w' hS'; (try dsimp only at hS'); (repeat (have hS1 := hS'.1; replace hS' := hS'.2)); go_simp; (try with_reducible rfl); done)); simp only [Act.put, List.getElem_toArray, List.getElem_cons_zero, List.getElem_cons_succ, List.setIfInBounds_toArray, List.set_cons_zero, List.set_cons_succ]))
    (first | (refine wpS_pass _ rfl (by rfl) ?_; simp only [Act.put, List.getElem_toArray, List.getElem_cons_zero, List.getElem_cons_succ, List.setIfInBounds_toArray, List.set_cons_zero, List.set_cons_succ]) | (refine wpS_take _ ?_ rfl (by rfl) ?_ ?_; rotate_left; (focus (intro w' hS'; (try dsimp only at hS'); (repeat (have hS1 := hS'.1; replace hS' := hS'.2)); go_simp; (try with_reducible rfl); done)); simp only [Act.put, List.getElem_toArray, List.getElem_cons_zero, List.getElem_cons_succ, List.setIfInBounds_toArray, List.set_cons_zero, List.set_cons_succ]))
    refine wpS_load _ rfl (by rfl) 114 _ rfl tb 0 rfl [.string S, .string T, .pointer p] _ (fun w' hS => hS.2) Tryz.underlying114 rfl info_turn3 ?_
    simp only [Act.put, List.getElem_toArray, List.getElem_cons_zero, List.getElem_cons_succ, List.setIfInBounds_toArray, List.set_cons_zero, List.set_cons_succ]
    refine wpS_do _ rfl (by rfl) (fun K hK => ?_)
    go_simp
    have hO5 : W5.drew.ownsMap Tryz.prog 9 ptrR d.sb sm.length (namesD d.bs sm) := A5.out.disk.sure
    refine (HDO.out W5.drew hO5).mono ?_
    rintro e w6 ⟨rfl, ho6, hg6⟩
    dsimp only
    have hg6' : W5.grownBy w6 (some d.sb) := ⟨hg6.os, hg6.tape, hg6.output, hg6.size, hg6.block⟩
    have D6 := A5.out.disk.sureSet _ hg6' ho6
    have A6 : Hid (Aft N g w0 w6 { m with sure := doN sm t } d d) := Lib.hid (A5.out.trans (Aft.mk D6 (grown_frm hg6' (.inr (.inr (.inl rfl)))) (fun b hb => .inl hb)))
    have HR6 : Hid (w6.heap[tb]? = some (.cells #[.string S, .string T, .pointer p] 114 (0, 0))) := Lib.hid ((hg6'.block tb (Array.getElem?_eq_some_iff.1 HR5.out).1 (fun e => by have := HFT.out d.sb (.inr (.inr (.inl rfl))); have := Option.some.inj e; omega)).trans HR5.out)
    refine hK.out _ _ ⟨A6.out.disk.cells.2.1, range_of_row (cs := [.string S, .string T, .pointer p]) HR6.out⟩ (fun hS' => ?_)
    clear hS' hK ho6 hg6 hg6' hO5 hc1 D6
    refine wpS_done ?_
    clear hW5
    go_wp2_with fail
    rw [← HAT.out]
    go_roundg (k - (j + 1))
    case measure => omega
    case rel => exact ⟨j + 1, by omega, rfl, by first | rfl | exact congrArg (Value.int .i64) (by omega) | go_num, Lib.hid (by rw [HNX.out]; exact A6.out), Lib.hid (by rw [HNX.out]; have h1 := HLN.out; have h2 := HLS.out; omega)⟩
  · obtain rfl : j = k := by omega
    go_wp2_with fail
    exact HEX.out _ _ _ _ _ _ _ _ _ _ _ _ _ HA
end Go.Proofs.YtelbofikcpchiaaGreat
