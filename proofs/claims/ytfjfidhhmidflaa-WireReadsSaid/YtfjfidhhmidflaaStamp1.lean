
/- Stamps: their order, whether they are right; the document's. -/

import Derived.Test.YtfjfidhhmidflaaRowK

import Derived.Test.YtfjfidhhmidflaaSched

import Derived.Test.YtfjfidhhmidflaaIds

import Derived.Deep.CutBlock

import Derived.Deep.DeepCutAuto

namespace Go.Proofs.Ytfjfidhhmidflaa

set_option linter.unusedVariables false

set_option linter.unusedSimpArgs false

open Go.RowKit

structure Stm where
  t : Int
  r : Int
deriving DecidableEq
def Stm.val (s : Stm) : Value := .agg #[.int .i64 s.t, .int .i64 s.r]
/-- within the kinds' bounds -/
def Stm.wf (s : Stm) : Prop := (-9223372036854775808 ≤ s.t ∧ s.t ≤ 9223372036854775807) ∧ (-9223372036854775808 ≤ s.r ∧ s.r ≤ 9223372036854775807)
def cmpI (a b : Int) : Int := if a < b then -1 else if b < a then 1 else 0
def cmpS (a b : Stm) : Int := if cmpI a.t b.t = 0 then cmpI a.r b.r else cmpI a.t b.t
def rightB (s : Stm) : Bool := decide (1 ≤ s.t) && decide (s.t ≤ 1099511627776) && decide (1 ≤ s.r) && decide (s.r ≤ 65536)
def fixedB (s : Stm) : Bool := decide (s.t = 0) && (decide (s.r = 0) || decide (s.r = 1))

theorem ret_i {k : IntKind} {a b : Int} (h : a = b) : Ending.returned (.int k a) = .returned (.int k b) := by rw [h]

end Go.Proofs.Ytfjfidhhmidflaa
