
/- stamp.get; a reader that is kept while an operation's row is written. -/

import Derived.Test.YtabkgoandfpclaaEncReadK

import Derived.Test.YtabkgoandfpclaaOp3

namespace Go.Proofs.Ytabkgoandfpclaa

set_option linter.unusedVariables false

set_option linter.unusedSimpArgs false

open Go.RowKit

theorem grown_new {w w1 w2 : World} {r g : Nat} (h : w.grownBy w1 (some r)) (hg : w.heap.size ≤ g) (k : w1.grownBy w2 (some g)) : w.grownBy w2 (some r) :=
  ⟨k.os.trans h.os, k.tape.trans h.tape, k.output.trans h.output, Nat.le_trans h.size k.size, fun i hi hne => (k.block i (Nat.lt_of_lt_of_le hi h.size) (fun e => by have := Option.some.inj e; omega)).trans (h.block i hi hne)⟩
theorem results_row1 {P : Program} {fn : Func} {p : Tmp} {ty : TypeId} (h : fn.results = #[.cell p ty]) (tmps : Array Value) (w : World) (g : Nat) (t : TypeId) (cs : Array Value) (fr : Nat × Nat) (d : TypeDesc)
    (hp : tmps.getD p undef = .pointer (some ⟨g, 0, none⟩)) (hg : w.heap[g]? = some (.cells cs t fr))
    (hu : P.underlying ty = some d) (hd : (match d with | .struct _ | .array _ _ => true | _ => false) = true) (hi : (P.info? ty).map (·.size) = some cs.size) :
    (results fn tmps).run P w = .ok (.agg cs) w := by
  have hp' : tmps[p]?.getD undef = .pointer (some ⟨g, 0, none⟩) := by simpa using hp
  simp [results, h, hp', asAddr, run_loadVar_row w g t ty cs fr d hg hu hd hi]

/-- a stamp that is read -/
def getS (st : St) : Stm × St := (⟨((getNum st 1099511627776).1 : Int), ((getNum (getNum st 1099511627776).2 65536).1 : Int)⟩, (getNum (getNum st 1099511627776).2 65536).2)

set_option maxRecDepth 100000 in
set_option maxHeartbeats 1000000 in
theorem gets_any (K r : Nat) (st : St) (w : World) (h : RdrK w r K st) (hKw : K ≤ w.heap.size) :
    Calls Try.prog 53 #[.pointer (some ⟨r, 0, none⟩)] w fun e w' => e = .returned (getS st).1.val ∧ RdrK w' r K (getS st).2 ∧ w.grownBy w' (some r) := by
  obtain ⟨W1, hW1⟩ : ∃ W1, w.alloc (.cells #[.int .i64 0, .int .i64 0] 23) = W1 := ⟨_, rfl⟩
  have hrow : W1.heap[w.heap.size]? = some (.cells #[.int .i64 0, .int .i64 0] 23 (0, 0)) := by rw [← hW1]; exact heap_alloc_new w _
  have hb1 : Below w.heap.size w W1 := by rw [← hW1]; exact (Below.refl _ _).alloc (Nat.le_refl _) _
  have hrl := h.m.lt
  obtain ⟨g, hg⟩ : ∃ g, w.heap.size = g := ⟨_, rfl⟩
  have HG := Lib.hid hg
  have HRW : Hid (W1.heap[g]? = some (.cells #[.int .i64 0, .int .i64 0] 23 (0, 0))) := Lib.hid (by rw [← hg]; exact hrow)
  have HM := Lib.hid (h.below hb1)
  have HNE : Hid (g ≠ r) := Lib.hid (by omega)
  have HGR : Hid (w.grownBy W1 (some r)) := Lib.hid (grown_of_below hb1)
  rw [hg] at hrow
  clear hrow hb1 h hrl
  go_enter Try.func53, Try.ntmps53
  go_wp2_with fail
  clear hW1
  refine (rdnum_k K r st _ W1 HM.out).mono ?_
  rintro e w2 ⟨rfl, hm2, hg2⟩
  obtain ⟨n1, hn1⟩ : ∃ n, (getNum st 1099511627776).1 = n := ⟨_, rfl⟩
  obtain ⟨s1, hs1⟩ : ∃ s, (getNum st 1099511627776).2 = s := ⟨_, rfl⟩
  rw [hn1]
  rw [hs1] at hm2
  have HM2 := Lib.hid hm2
  have HR2 := Lib.hid ((hg2.block _ (Array.getElem?_eq_some_iff.1 HRW.out).1 (fun e => HNE.out (Option.some.inj e))).trans HRW.out)
  have HG2 := Lib.hid (grown_trans1 HGR.out hg2)
  clear hm2 hg2
  go_wp2_with fail
  refine (rdnum_k K r s1 _ w2 HM2.out).mono ?_
  rintro e w3 ⟨rfl, hm3, hg3⟩
  obtain ⟨n2, hn2⟩ : ∃ n, (getNum s1 65536).1 = n := ⟨_, rfl⟩
  obtain ⟨s2, hs2⟩ : ∃ s, (getNum s1 65536).2 = s := ⟨_, rfl⟩
  rw [hn2]
  rw [hs2] at hm3
  have hr3 := (hg3.block _ (Array.getElem?_eq_some_iff.1 HR2.out).1 (fun e => HNE.out (Option.some.inj e))).trans HR2.out
  have t0 : w3.cell? ⟨g, 0, none⟩ = some (.int .i64 0) := by rw [row_cell hr3]; rfl
  have t1 : w3.cell? ⟨g, 1, none⟩ = some (.int .i64 0) := by rw [row_cell hr3]; rfl
  have y0 := row_free hr3 0
  have y1 := row_free hr3 1
  have HM3 := Lib.hid hm3
  have HR3 := Lib.hid hr3
  have HG3 := Lib.hid (grown_trans1 HG2.out hg3)
  have HE : Hid (getS st = (⟨(n1 : Int), (n2 : Int)⟩, s2)) := Lib.hid (by unfold getS; rw [hs1, hn2, hs2, hn1])
  clear hm3 hg3 hr3 hn1 hs1 hn2 hs2
  go_wp2_with fail
  have hrr := row_set2 HR3.out (.int .i64 n1) (.int .i64 n2)
  refine bodyPost_ret (results_row1 rfl _ _ _ _ _ _ _ rfl hrr Try.underlying23 rfl info_stm) rfl ?_
  rw [HE.out]
  refine ⟨rfl, ?_, ?_⟩
  · exact HM3.out.far (fun e => HNE.out e.symm) (by rw [← HG.out]; exact hKw) (grown_trans1 (grown_set g 0 _) (grown_set g 1 _))
  · refine grown_new (g := g) HG3.out ?_ ?_
    · rw [HG.out]; exact Nat.le_refl _
    · exact grown_trans1 (grown_set g 0 _) (grown_set g 1 _)
end Go.Proofs.Ytabkgoandfpclaa
