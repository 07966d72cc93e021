
/- Refs: split of what is no whole record. -/

import Derived.Test.YtelbofikcpchiaaGreatRf11

namespace Go.Proofs.YtelbofikcpchiaaGreat

set_option linter.unusedVariables false

set_option linter.unusedSimpArgs false

set_option linter.unusedSectionVars false

open Go.RowKit

section

variable {P : Program}

theorem results_row_two {fn : Func} {u v p : Tmp} {ty : TypeId} (h : fn.results = #[.cell p ty, .tmp u, .tmp v]) (tmps : Array Value) (w : World) (g : Nat) (t : TypeId) (cs : Array Value) (fr : Nat × Nat) (d : TypeDesc)
    (hp : tmps.getD p undef = .pointer (some ⟨g, 0, none⟩)) (hg : w.heap[g]? = some (.cells cs t fr))
    (hu : P.underlying ty = some d) (hd : (match d with | .struct _ | .array _ _ => true | _ => false) = true) (hi : (P.info? ty).map (·.size) = some cs.size) :
    (results fn tmps).run P w = .ok (.tuple #[.agg cs, tmps.getD u undef, tmps.getD v undef]) w := by
  have hp' : tmps[p]?.getD undef = .pointer (some ⟨g, 0, none⟩) := by simpa using hp
  simp [results, h, hp', asAddr, run_loadVar_row w g t ty cs fr d hg hu hd hi]
end

/-- no turn -/
def t0 : TxM := ⟨[], [], Z32⟩
def cutS (bs : List UInt8) : Prop := (getFour (getNum (some bs) 1048576).2).2.isSome = false ∨ leftS (getFour (getNum (some bs) 1048576).2).2 < (getNum (some bs) 1048576).1
set_option maxRecDepth 100000 in
set_option maxHeartbeats 8000000 in
theorem split_cut (A : Option Addr) (n c : Nat) (bs : List UInt8) (hn : n = bs.length) (w : World) (hr : Rd w A (b8s bs)) (hm : bs.length ≤ 140737488355328) (hs : (getFour (getNum (some bs) 1048576).2).2.isSome = false) :
    Calls Tryz.prog 29 #[.slice A n c] w fun e w' => e = .returned (.tuple #[.agg (txC none 0 0 t0).toArray, .int .i64 0, .bool false]) ∧ Below w.heap.size w w' := by
  obtain ⟨g, hg⟩ : ∃ g, w.heap.size = g := ⟨_, rfl⟩
  obtain ⟨lz, hlz⟩ : ∃ l, txC none 0 0 t0 = l := ⟨_, rfl⟩
  have hlz' : lz.toArray = #[Value.slice none 0 0, Value.string ⟨#[]⟩, Value.int .u8 0, Value.int .u8 0, Value.int .u8 0, Value.int .u8 0, Value.int .u8 0, Value.int .u8 0, Value.int .u8 0, Value.int .u8 0, Value.int .u8 0, Value.int .u8 0, Value.int .u8 0, Value.int .u8 0, Value.int .u8 0, Value.int .u8 0, Value.int .u8 0, Value.int .u8 0, Value.int .u8 0, Value.int .u8 0, Value.int .u8 0, Value.int .u8 0, Value.int .u8 0, Value.int .u8 0, Value.int .u8 0, Value.int .u8 0, Value.int .u8 0, Value.int .u8 0, Value.int .u8 0, Value.int .u8 0, Value.int .u8 0, Value.int .u8 0, Value.int .u8 0, Value.int .u8 0] := by rw [← hlz]; rfl
  obtain ⟨W1, hW1⟩ : ∃ W, w.alloc (.cells #[Value.slice none 0 0, Value.string ⟨#[]⟩, Value.int .u8 0, Value.int .u8 0, Value.int .u8 0, Value.int .u8 0, Value.int .u8 0, Value.int .u8 0, Value.int .u8 0, Value.int .u8 0, Value.int .u8 0, Value.int .u8 0, Value.int .u8 0, Value.int .u8 0, Value.int .u8 0, Value.int .u8 0, Value.int .u8 0, Value.int .u8 0, Value.int .u8 0, Value.int .u8 0, Value.int .u8 0, Value.int .u8 0, Value.int .u8 0, Value.int .u8 0, Value.int .u8 0, Value.int .u8 0, Value.int .u8 0, Value.int .u8 0, Value.int .u8 0, Value.int .u8 0, Value.int .u8 0, Value.int .u8 0, Value.int .u8 0, Value.int .u8 0] 28) = W := ⟨_, rfl⟩
  obtain ⟨r1, b1, s1⟩ := new_row hW1
  rw [hg, ← hlz'] at r1
  have HB1 := Lib.hid b1
  have R1 := Lib.hid r1
  have HIL : Hid ((Tryz.prog.info? 28).map (·.size) = some lz.length) := Lib.hid (by rw [← hlz]; exact info_txl rfl)
  have HIA : Hid ((Tryz.prog.info? 28).map (·.size) = some lz.toArray.size) := Lib.hid (by rw [← hlz]; exact info_txa rfl)
  have HOC : Hid (lz.toArray.all (·.oneCell') = true) := Lib.hid (all_oneCell_toArray (by rw [← hlz]; exact txC_one _ _ _ _))
  have HRD := Lib.hid (read_any A bs n c W1 hn (hr.below b1) hm)
  have HS := Lib.hid hs
  rw [hlz]
  have HLZ := Lib.hid hlz'
  clear hlz hlz' r1 b1 s1 hr hs hn
  go_enter Tryz.func29, Tryz.ntmps29
  go_wp2_with fail
  refine HRD.out.mono ?_
  rintro e w2 ⟨gd, rfl, hge, hb2, hm2⟩
  have HB2 := Lib.hid hb2
  have HM2 := Lib.hid hm2
  have HGE := Lib.hid hge
  clear hge hb2 hm2 hW1
  go_wp2_with fail
  refine (rdnum_any gd _ 1048576 w2 HM2.out).mono ?_
  rintro e w3 ⟨rfl, hm3, hg3⟩
  have HB3 := Lib.hid (bel_grown HB2.out HB2.out.size hg3 HGE.out)
  have HM3 := Lib.hid hm3
  clear hm3 hg3
  go_wp2_with fail
  refine (rdfour_any gd _ w3 HM3.out).mono ?_
  rintro e w4 ⟨rfl, hm4, hg4⟩
  have HB4 := Lib.hid (bel_grown HB3.out HB3.out.size hg4 HGE.out)
  have HM4 := Lib.hid hm4
  clear hm4 hg4
  go_wp2_with fail
  refine (good_any gd _ w4 HM4.out).mono ?_
  rintro e w5 ⟨rfl, rfl⟩
  rw [HS.out]
  have r4 := (HB4.out.block _ (Array.getElem?_eq_some_iff.1 R1.out).1).trans R1.out
  obtain ⟨WB, hWB, TB, RB, GB⟩ := put_rowR (new := lz) r4 rfl
  have HWB := Lib.hid hWB
  have HBB : Hid (Below w.heap.size w WB) := Lib.hid (bel_grown (HB1.out.trans (HB4.out.mono HB1.out.size)) (Nat.le_trans HB1.out.size HB4.out.size) GB.out (by omega))
  clear hWB r4
  go_wp2_with (first
    | (rw [← HLZ.out]; ((with_reducible (refine wpList_store_mid rfl _ _ _ rfl ?_ ?_ ?_ ?_ ?_ ?_ ?_ ?_ ?_)); (exact g); (exact 0); (exact (lz).toArray); (exact rfl); (exact rfl); (exact TB.out); (exact HIA.out); (exact HOC.out); rw [HWB.out])))
  refine bodyPost_ret (results_row_two rfl _ _ _ _ _ _ _ rfl RB.out Tryz.underlying28 rfl HIA.out) rfl ?_
  exact ⟨rfl, by first | exact HBB.out | (rw [← hg]; exact HBB.out)⟩
end Go.Proofs.YtelbofikcpchiaaGreat
