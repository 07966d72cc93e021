/- Slices of slices of bytes that came in. -/
import Derived.Test.YtelbofikcpchiaaGreatOpen
import Derived.Test.YtelbofikcpchiaaGreatFrame
import Derived.Test.YtelbofikcpchiaaGreatQA
import Derived.Deep.Slices
import Derived.ChangeSame
namespace Go.Proofs.YtelbofikcpchiaaGreat
set_option maxRecDepth 100000
open Go.ChangeShapes Go.WideShapes Go.ChangeAt Go.RowKit
structure PV where
 A : Option Addr
 c : Nat
 bs : List UInt8
def PV.v (p : PV) : Value := .slice p.A p.bs.length p.c
def PV.ok (w : World) (p : PV) : Prop := Rd w p.A (b8s p.bs) ∧ p.bs.length ≤ p.c ∧ p.c ≤ 9223372036854775807
set_option linter.unusedSectionVars false
section
variable {H : Type} {enc : TypeId × Value → H} {w : World} {base : Nat} {sp : Nat → Bool} {held : Bool}
end
end Go.Proofs.YtelbofikcpchiaaGreat
