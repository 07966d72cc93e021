/-
  No cell of these rows narrows 'for every input' (looked for: loops, veiled, ifaces, maps, wideKeys, modest, calm, conditions, laid).
  DERIVED. THE GIVEN ROWS OF THIS SEAT. 8 by the template 'for every input the law returns true; each argument reads behind the call as it read before'; 0 by the template 'total and deterministic' (their statements: YtabkgoandfpclaaTotals.lean).
  GIVEN WITH THE SEED: the statements are not yours to turn. If you find one false, say at which input.
  Laid BY PROGRAM, IN A SANDBOX (cutbox-rows.mjs): the forced cells as the released guide's own fill.sh prints them over the translation 2d03ce0d36ea1ebb… (all of the seat's roots in one cut). By AI agents, Wed Nov 11 2026. No macro, syntax, notation, axiom, sorry.
-/
import Derived.Test.YtabkgoandfpclaaChecked
import GoSem.Claim
import GoSem.ClaimJoined
import GoSem.ClaimMapViews
import Derived.JoinedTies
import Derived.KernelRfl
namespace Go.Proofs.Ytabkgoandfpclaa
/- THE CELL 'sum', in the pinned program and in every row, IS THE sha256 OF THE DUMP (.gsa) THAT YtabkgoandfpclaaProg.lean LOADS. Nothing in Lean hashes anything: it is a label: what it is worth is what the hold of that sum in a sandbox is worth. -/
noncomputable def Try.pinned : Pinned := { name := "ytabkgoandfpclaa", sum := "2d03ce0d36ea1ebbd1ecf3f9e6d42aa23e6122955c8f7322c959cb13a5ebab87", checked := Try.checked }
namespace Rows
def none {H : Type} : Left H := { results := [], args := [] }

/-- 'pollardlaw03.StampOrders': WHATEVER THE INPUT: true; the input reads as it did. -/
def stampOrdersSpec : ChangeSpec := { name := "stampOrders", fn := fun _ => fun
  | [d1, d2, d3] => { results := [.lit (.bool true)], args := [d1, d2, d3] }
  | _ => none }
def stampOrdersRow : OpenClaim := { program := "ytabkgoandfpclaa", sum := "2d03ce0d36ea1ebbd1ecf3f9e6d42aa23e6122955c8f7322c959cb13a5ebab87", func := "pollard/pollardlaw03.StampOrders", spec := "stampOrders", inPlace := ["internal/bytealg.IndexByteString", "internal/bytealg.IndexString"], named := ["internal/bytealg.MaxLen"], apart := false }
def StampOrdersSaid : Prop := stampOrdersRow.holds Try.pinned (OpenSpec.ofChange stampOrdersSpec)

/-- ITS FALSE NEIGHBOUR: 'it returns false'. Refute it at one input. -/
def stampOrdersWrong : ChangeSpec := { name := "stampOrders", fn := fun _ => fun
  | [d1, d2, d3] => { results := [.lit (.bool false)], args := [d1, d2, d3] }
  | _ => none }
def StampOrdersWrongFalsely : Prop := stampOrdersRow.holds Try.pinned (OpenSpec.ofChange stampOrdersWrong)

/-- 'pollardlaw03.StampGood': WHATEVER THE INPUT: true; the input reads as it did. -/
def stampGoodSpec : ChangeSpec := { name := "stampGood", fn := fun _ => fun
  | [d1, d2] => { results := [.lit (.bool true)], args := [d1, d2] }
  | _ => none }
def stampGoodRow : OpenClaim := { program := "ytabkgoandfpclaa", sum := "2d03ce0d36ea1ebbd1ecf3f9e6d42aa23e6122955c8f7322c959cb13a5ebab87", func := "pollard/pollardlaw03.StampGood", spec := "stampGood", inPlace := ["internal/bytealg.IndexByteString", "internal/bytealg.IndexString"], named := ["internal/bytealg.MaxLen"], apart := false }
def StampGoodSaid : Prop := stampGoodRow.holds Try.pinned (OpenSpec.ofChange stampGoodSpec)

/-- ITS FALSE NEIGHBOUR: 'it returns false'. Refute it at one input. -/
def stampGoodWrong : ChangeSpec := { name := "stampGood", fn := fun _ => fun
  | [d1, d2] => { results := [.lit (.bool false)], args := [d1, d2] }
  | _ => none }
def StampGoodWrongFalsely : Prop := stampGoodRow.holds Try.pinned (OpenSpec.ofChange stampGoodWrong)

/-- 'pollardlaw03.StampWrites': WHATEVER THE INPUT: true; the input reads as it did. -/
def stampWritesSpec : ChangeSpec := { name := "stampWrites", fn := fun _ => fun
  | [d1, d2] => { results := [.lit (.bool true)], args := [d1, d2] }
  | _ => none }
def stampWritesRow : OpenClaim := { program := "ytabkgoandfpclaa", sum := "2d03ce0d36ea1ebbd1ecf3f9e6d42aa23e6122955c8f7322c959cb13a5ebab87", func := "pollard/pollardlaw03.StampWrites", spec := "stampWrites", inPlace := ["internal/bytealg.IndexByteString", "internal/bytealg.IndexString"], named := ["internal/bytealg.MaxLen"], apart := false }
def StampWritesSaid : Prop := stampWritesRow.holds Try.pinned (OpenSpec.ofChange stampWritesSpec)

/-- ITS FALSE NEIGHBOUR: 'it returns false'. Refute it at one input. -/
def stampWritesWrong : ChangeSpec := { name := "stampWrites", fn := fun _ => fun
  | [d1, d2] => { results := [.lit (.bool false)], args := [d1, d2] }
  | _ => none }
def StampWritesWrongFalsely : Prop := stampWritesRow.holds Try.pinned (OpenSpec.ofChange stampWritesWrong)

/-- 'pollardlaw03.StampTurns': WHATEVER THE INPUT: true; the input reads as it did. -/
def stampTurnsSpec : ChangeSpec := { name := "stampTurns", fn := fun _ => fun
  | [d1, d2, d3] => { results := [.lit (.bool true)], args := [d1, d2, d3] }
  | _ => none }
def stampTurnsRow : OpenClaim := { program := "ytabkgoandfpclaa", sum := "2d03ce0d36ea1ebbd1ecf3f9e6d42aa23e6122955c8f7322c959cb13a5ebab87", func := "pollard/pollardlaw03.StampTurns", spec := "stampTurns", inPlace := ["internal/bytealg.IndexByteString", "internal/bytealg.IndexString"], named := ["internal/bytealg.MaxLen"], apart := false }
def StampTurnsSaid : Prop := stampTurnsRow.holds Try.pinned (OpenSpec.ofChange stampTurnsSpec)

/-- ITS FALSE NEIGHBOUR: 'it returns false'. Refute it at one input. -/
def stampTurnsWrong : ChangeSpec := { name := "stampTurns", fn := fun _ => fun
  | [d1, d2, d3] => { results := [.lit (.bool false)], args := [d1, d2, d3] }
  | _ => none }
def StampTurnsWrongFalsely : Prop := stampTurnsRow.holds Try.pinned (OpenSpec.ofChange stampTurnsWrong)

/-- 'pollardlaw03.StampBounds': WHATEVER THE INPUT: true; the input reads as it did. -/
def stampBoundsSpec : ChangeSpec := { name := "stampBounds", fn := fun _ => fun
  | [d1, d2, d3] => { results := [.lit (.bool true)], args := [d1, d2, d3] }
  | _ => none }
def stampBoundsRow : OpenClaim := { program := "ytabkgoandfpclaa", sum := "2d03ce0d36ea1ebbd1ecf3f9e6d42aa23e6122955c8f7322c959cb13a5ebab87", func := "pollard/pollardlaw03.StampBounds", spec := "stampBounds", inPlace := ["internal/bytealg.IndexByteString", "internal/bytealg.IndexString"], named := ["internal/bytealg.MaxLen"], apart := false }
def StampBoundsSaid : Prop := stampBoundsRow.holds Try.pinned (OpenSpec.ofChange stampBoundsSpec)

/-- ITS FALSE NEIGHBOUR: 'it returns false'. Refute it at one input. -/
def stampBoundsWrong : ChangeSpec := { name := "stampBounds", fn := fun _ => fun
  | [d1, d2, d3] => { results := [.lit (.bool false)], args := [d1, d2, d3] }
  | _ => none }
def StampBoundsWrongFalsely : Prop := stampBoundsRow.holds Try.pinned (OpenSpec.ofChange stampBoundsWrong)

/-- 'pollardlaw03.StampReads': WHATEVER THE INPUT: true; the input reads as it did. -/
def stampReadsSpec : ChangeSpec := { name := "stampReads", fn := fun _ => fun
  | [d] => { results := [.lit (.bool true)], args := [d] }
  | _ => none }
def stampReadsRow : OpenClaim := { program := "ytabkgoandfpclaa", sum := "2d03ce0d36ea1ebbd1ecf3f9e6d42aa23e6122955c8f7322c959cb13a5ebab87", func := "pollard/pollardlaw03.StampReads", spec := "stampReads", inPlace := ["internal/bytealg.IndexByteString", "internal/bytealg.IndexString"], named := ["internal/bytealg.MaxLen"], apart := false }
def StampReadsSaid : Prop := stampReadsRow.holds Try.pinned (OpenSpec.ofChange stampReadsSpec)

/-- ITS FALSE NEIGHBOUR: 'it returns false'. Refute it at one input. -/
def stampReadsWrong : ChangeSpec := { name := "stampReads", fn := fun _ => fun
  | [d] => { results := [.lit (.bool false)], args := [d] }
  | _ => none }
def StampReadsWrongFalsely : Prop := stampReadsRow.holds Try.pinned (OpenSpec.ofChange stampReadsWrong)

/-- 'pollardlaw03.StampSorts': WHATEVER THE INPUT: true; the input reads as it did. -/
def stampSortsSpec : ChangeSpec := { name := "stampSorts", fn := fun _ => fun
  | [d] => { results := [.lit (.bool true)], args := [d] }
  | _ => none }
def stampSortsRow : OpenClaim := { program := "ytabkgoandfpclaa", sum := "2d03ce0d36ea1ebbd1ecf3f9e6d42aa23e6122955c8f7322c959cb13a5ebab87", func := "pollard/pollardlaw03.StampSorts", spec := "stampSorts", inPlace := ["internal/bytealg.IndexByteString", "internal/bytealg.IndexString"], unfollowed := true, recurses := true, named := ["internal/bytealg.MaxLen"], apart := false }
def StampSortsSaid : Prop := stampSortsRow.holds Try.pinned (OpenSpec.ofChange stampSortsSpec)

/-- ITS FALSE NEIGHBOUR: 'it returns false'. Refute it at one input. -/
def stampSortsWrong : ChangeSpec := { name := "stampSorts", fn := fun _ => fun
  | [d] => { results := [.lit (.bool false)], args := [d] }
  | _ => none }
def StampSortsWrongFalsely : Prop := stampSortsRow.holds Try.pinned (OpenSpec.ofChange stampSortsWrong)

/-- 'pollardlaw03.StampSets': WHATEVER THE INPUT: true; the input reads as it did. -/
def stampSetsSpec : ChangeSpec := { name := "stampSets", fn := fun _ => fun
  | [d1, d2] => { results := [.lit (.bool true)], args := [d1, d2] }
  | _ => none }
def stampSetsRow : OpenClaim := { program := "ytabkgoandfpclaa", sum := "2d03ce0d36ea1ebbd1ecf3f9e6d42aa23e6122955c8f7322c959cb13a5ebab87", func := "pollard/pollardlaw03.StampSets", spec := "stampSets", inPlace := ["internal/bytealg.IndexByteString", "internal/bytealg.IndexString"], unfollowed := true, recurses := true, named := ["internal/bytealg.MaxLen"], apart := false }
def StampSetsSaid : Prop := stampSetsRow.holds Try.pinned (OpenSpec.ofChange stampSetsSpec)

/-- ITS FALSE NEIGHBOUR: 'it returns false'. Refute it at one input. -/
def stampSetsWrong : ChangeSpec := { name := "stampSets", fn := fun _ => fun
  | [d1, d2] => { results := [.lit (.bool false)], args := [d1, d2] }
  | _ => none }
def StampSetsWrongFalsely : Prop := stampSetsRow.holds Try.pinned (OpenSpec.ofChange stampSetsWrong)

/- THE SECOND FORM. 'bulk': how many values and letters a reading holds, each counted each time it is reached (what is shared counts as often as it is met; a slice's spare places count too). A statement '..UptoSaid' is the law's where the arguments, and the package variables that the reading takes, are together of bulk at most 1048576: NARROWER than '..Said'. Prove '..Said' where nothing that the law and all that it calls make is longer than what came in: it says more and counts as full. Else prove '..UptoSaid'. A law counts once. -/
mutual
def uptoBulk {H : Type} : DataW H → Nat
  | .lit (.string bytes) => bytes.length + 1
  | .lit _ => 1
  | .nil => 1
  | .ptr d => uptoBulk d + 1
  | .slice elems spare => uptoBulkAll elems + uptoBulkAll spare + 1
  | .agg parts => uptoBulkAll parts + 1
  | .iface _ d => uptoBulk d + 1
  | .map entries => uptoBulkEntries entries + 1
  | .held _ => 1
def uptoBulkAll {H : Type} : List (DataW H) → Nat
  | [] => 0
  | d :: r => uptoBulk d + uptoBulkAll r
def uptoBulkEntries {H : Type} : List (Lit × DataW H) → Nat
  | [] => 0
  | x :: r => uptoBulkEntry x + uptoBulkEntries r
def uptoBulkEntry {H : Type} : Lit × DataW H → Nat
  | (.string bytes, d) => bytes.length + uptoBulk d + 1
  | (_, d) => uptoBulk d + 1
 end
def uptoSmall : (H : Type) → List (DataW H) → Bool := fun _ ds => decide (uptoBulkAll ds ≤ 1048576)
def OpenSpec.upto (s : _root_.Go.ChangeSpec) : _root_.Go.OpenSpec := { _root_.Go.OpenSpec.ofChange s with cond := some uptoSmall }

/-- 'pollardlaw03.StampOrders', WHERE WHAT IT READS IS OF BULK AT MOST 1048576: true; the input reads as it did. -/
def stampOrdersUptoRow : OpenClaim := { program := "ytabkgoandfpclaa", sum := "2d03ce0d36ea1ebbd1ecf3f9e6d42aa23e6122955c8f7322c959cb13a5ebab87", func := "pollard/pollardlaw03.StampOrders", spec := "stampOrders", inPlace := ["internal/bytealg.IndexByteString", "internal/bytealg.IndexString"], named := ["internal/bytealg.MaxLen"], apart := false, narrowed := true }
def StampOrdersUptoSaid : Prop := stampOrdersUptoRow.holds Try.pinned (OpenSpec.upto stampOrdersSpec)

/-- 'pollardlaw03.StampGood', WHERE WHAT IT READS IS OF BULK AT MOST 1048576: true; the input reads as it did. -/
def stampGoodUptoRow : OpenClaim := { program := "ytabkgoandfpclaa", sum := "2d03ce0d36ea1ebbd1ecf3f9e6d42aa23e6122955c8f7322c959cb13a5ebab87", func := "pollard/pollardlaw03.StampGood", spec := "stampGood", inPlace := ["internal/bytealg.IndexByteString", "internal/bytealg.IndexString"], named := ["internal/bytealg.MaxLen"], apart := false, narrowed := true }
def StampGoodUptoSaid : Prop := stampGoodUptoRow.holds Try.pinned (OpenSpec.upto stampGoodSpec)

/-- 'pollardlaw03.StampWrites', WHERE WHAT IT READS IS OF BULK AT MOST 1048576: true; the input reads as it did. -/
def stampWritesUptoRow : OpenClaim := { program := "ytabkgoandfpclaa", sum := "2d03ce0d36ea1ebbd1ecf3f9e6d42aa23e6122955c8f7322c959cb13a5ebab87", func := "pollard/pollardlaw03.StampWrites", spec := "stampWrites", inPlace := ["internal/bytealg.IndexByteString", "internal/bytealg.IndexString"], named := ["internal/bytealg.MaxLen"], apart := false, narrowed := true }
def StampWritesUptoSaid : Prop := stampWritesUptoRow.holds Try.pinned (OpenSpec.upto stampWritesSpec)

/-- 'pollardlaw03.StampTurns', WHERE WHAT IT READS IS OF BULK AT MOST 1048576: true; the input reads as it did. -/
def stampTurnsUptoRow : OpenClaim := { program := "ytabkgoandfpclaa", sum := "2d03ce0d36ea1ebbd1ecf3f9e6d42aa23e6122955c8f7322c959cb13a5ebab87", func := "pollard/pollardlaw03.StampTurns", spec := "stampTurns", inPlace := ["internal/bytealg.IndexByteString", "internal/bytealg.IndexString"], named := ["internal/bytealg.MaxLen"], apart := false, narrowed := true }
def StampTurnsUptoSaid : Prop := stampTurnsUptoRow.holds Try.pinned (OpenSpec.upto stampTurnsSpec)

/-- 'pollardlaw03.StampBounds', WHERE WHAT IT READS IS OF BULK AT MOST 1048576: true; the input reads as it did. -/
def stampBoundsUptoRow : OpenClaim := { program := "ytabkgoandfpclaa", sum := "2d03ce0d36ea1ebbd1ecf3f9e6d42aa23e6122955c8f7322c959cb13a5ebab87", func := "pollard/pollardlaw03.StampBounds", spec := "stampBounds", inPlace := ["internal/bytealg.IndexByteString", "internal/bytealg.IndexString"], named := ["internal/bytealg.MaxLen"], apart := false, narrowed := true }
def StampBoundsUptoSaid : Prop := stampBoundsUptoRow.holds Try.pinned (OpenSpec.upto stampBoundsSpec)

/-- 'pollardlaw03.StampReads', WHERE WHAT IT READS IS OF BULK AT MOST 1048576: true; the input reads as it did. -/
def stampReadsUptoRow : OpenClaim := { program := "ytabkgoandfpclaa", sum := "2d03ce0d36ea1ebbd1ecf3f9e6d42aa23e6122955c8f7322c959cb13a5ebab87", func := "pollard/pollardlaw03.StampReads", spec := "stampReads", inPlace := ["internal/bytealg.IndexByteString", "internal/bytealg.IndexString"], named := ["internal/bytealg.MaxLen"], apart := false, narrowed := true }
def StampReadsUptoSaid : Prop := stampReadsUptoRow.holds Try.pinned (OpenSpec.upto stampReadsSpec)

/-- 'pollardlaw03.StampSorts', WHERE WHAT IT READS IS OF BULK AT MOST 1048576: true; the input reads as it did. -/
def stampSortsUptoRow : OpenClaim := { program := "ytabkgoandfpclaa", sum := "2d03ce0d36ea1ebbd1ecf3f9e6d42aa23e6122955c8f7322c959cb13a5ebab87", func := "pollard/pollardlaw03.StampSorts", spec := "stampSorts", inPlace := ["internal/bytealg.IndexByteString", "internal/bytealg.IndexString"], unfollowed := true, recurses := true, named := ["internal/bytealg.MaxLen"], apart := false, narrowed := true }
def StampSortsUptoSaid : Prop := stampSortsUptoRow.holds Try.pinned (OpenSpec.upto stampSortsSpec)

/-- 'pollardlaw03.StampSets', WHERE WHAT IT READS IS OF BULK AT MOST 1048576: true; the input reads as it did. -/
def stampSetsUptoRow : OpenClaim := { program := "ytabkgoandfpclaa", sum := "2d03ce0d36ea1ebbd1ecf3f9e6d42aa23e6122955c8f7322c959cb13a5ebab87", func := "pollard/pollardlaw03.StampSets", spec := "stampSets", inPlace := ["internal/bytealg.IndexByteString", "internal/bytealg.IndexString"], unfollowed := true, recurses := true, named := ["internal/bytealg.MaxLen"], apart := false, narrowed := true }
def StampSetsUptoSaid : Prop := stampSetsUptoRow.holds Try.pinned (OpenSpec.upto stampSetsSpec)

end Rows
end Go.Proofs.Ytabkgoandfpclaa
