/-
  No cell of these rows narrows 'for every input' (looked for: loops, veiled, ifaces, maps, wideKeys, modest, calm, conditions, laid).
  DERIVED. THE GIVEN ROWS OF THIS SEAT. 6 by the template 'for every input the law returns true; each argument reads behind the call as it read before'; 0 by the template 'total and deterministic' (their statements: YtpmifpblamjclaaTotals.lean).
  GIVEN WITH THE SEED: the statements are not yours to turn. If you find one false, say at which input.
  Laid BY PROGRAM, IN A SANDBOX (cutbox-rows.mjs): the forced cells as the released guide's own fill.sh prints them over the translation acaccd4e395ba6f2… (all of the seat's roots in one cut). By AI agents, Wed Nov 11 2026. No macro, syntax, notation, axiom, sorry.
-/
import Derived.Test.YtpmifpblamjclaaChecked
import GoSem.Claim
import GoSem.ClaimJoined
import GoSem.ClaimMapViews
import Derived.JoinedTies
import Derived.KernelRfl
namespace Go.Proofs.Ytpmifpblamjclaa
/- THE CELL 'sum', in the pinned program and in every row, IS THE sha256 OF THE DUMP (.gsa) THAT YtpmifpblamjclaaProg.lean LOADS. Nothing in Lean hashes anything: it is a label: what it is worth is what the hold of that sum in a sandbox is worth. -/
noncomputable def Try.pinned : Pinned := { name := "ytpmifpblamjclaa", sum := "acaccd4e395ba6f223a3dd4624421e3761328686779d2e815f53a8c89823d842", checked := Try.checked }
namespace Rows
def none {H : Type} : Left H := { results := [], args := [] }

/-- 'pollardlaw05.DiskTurns': WHATEVER THE INPUT: true; the input reads as it did. -/
def diskTurnsSpec : ChangeSpec := { name := "diskTurns", fn := fun _ => fun
  | [d1, d2, d3] => { results := [.lit (.bool true)], args := [d1, d2, d3] }
  | _ => none }
def diskTurnsRow : OpenClaim := { program := "ytpmifpblamjclaa", sum := "acaccd4e395ba6f223a3dd4624421e3761328686779d2e815f53a8c89823d842", func := "pollard/pollardlaw05.DiskTurns", spec := "diskTurns", inPlace := ["maps.clone"], unfollowed := true, recurses := true, apart := false }
def DiskTurnsSaid : Prop := diskTurnsRow.holds Try.pinned (OpenSpec.ofChange diskTurnsSpec)

/-- ITS FALSE NEIGHBOUR: 'it returns false'. Refute it at one input. -/
def diskTurnsWrong : ChangeSpec := { name := "diskTurns", fn := fun _ => fun
  | [d1, d2, d3] => { results := [.lit (.bool false)], args := [d1, d2, d3] }
  | _ => none }
def DiskTurnsWrongFalsely : Prop := diskTurnsRow.holds Try.pinned (OpenSpec.ofChange diskTurnsWrong)

/-- 'pollardlaw05.DiskMoves': WHATEVER THE INPUT: true; the input reads as it did. -/
def diskMovesSpec : ChangeSpec := { name := "diskMoves", fn := fun _ => fun
  | [d1, d2, d3, d4] => { results := [.lit (.bool true)], args := [d1, d2, d3, d4] }
  | _ => none }
def diskMovesRow : OpenClaim := { program := "ytpmifpblamjclaa", sum := "acaccd4e395ba6f223a3dd4624421e3761328686779d2e815f53a8c89823d842", func := "pollard/pollardlaw05.DiskMoves", spec := "diskMoves", inPlace := ["maps.clone"], unfollowed := true, recurses := true, apart := false }
def DiskMovesSaid : Prop := diskMovesRow.holds Try.pinned (OpenSpec.ofChange diskMovesSpec)

/-- ITS FALSE NEIGHBOUR: 'it returns false'. Refute it at one input. -/
def diskMovesWrong : ChangeSpec := { name := "diskMoves", fn := fun _ => fun
  | [d1, d2, d3, d4] => { results := [.lit (.bool false)], args := [d1, d2, d3, d4] }
  | _ => none }
def DiskMovesWrongFalsely : Prop := diskMovesRow.holds Try.pinned (OpenSpec.ofChange diskMovesWrong)

/-- 'pollardlaw05.DiskKeeps': WHATEVER THE INPUT: true; the input reads as it did. -/
def diskKeepsSpec : ChangeSpec := { name := "diskKeeps", fn := fun _ => fun
  | [d1, d2, d3, d4, d5] => { results := [.lit (.bool true)], args := [d1, d2, d3, d4, d5] }
  | _ => none }
def diskKeepsRow : OpenClaim := { program := "ytpmifpblamjclaa", sum := "acaccd4e395ba6f223a3dd4624421e3761328686779d2e815f53a8c89823d842", func := "pollard/pollardlaw05.DiskKeeps", spec := "diskKeeps", inPlace := ["maps.clone"], unfollowed := true, recurses := true, apart := false }
def DiskKeepsSaid : Prop := diskKeepsRow.holds Try.pinned (OpenSpec.ofChange diskKeepsSpec)

/-- ITS FALSE NEIGHBOUR: 'it returns false'. Refute it at one input. -/
def diskKeepsWrong : ChangeSpec := { name := "diskKeeps", fn := fun _ => fun
  | [d1, d2, d3, d4, d5] => { results := [.lit (.bool false)], args := [d1, d2, d3, d4, d5] }
  | _ => none }
def DiskKeepsWrongFalsely : Prop := diskKeepsRow.holds Try.pinned (OpenSpec.ofChange diskKeepsWrong)

/-- 'pollardlaw05.DiskRoom': WHATEVER THE INPUT: true; the input reads as it did. -/
def diskRoomSpec : ChangeSpec := { name := "diskRoom", fn := fun _ => fun
  | [d1, d2] => { results := [.lit (.bool true)], args := [d1, d2] }
  | _ => none }
def diskRoomRow : OpenClaim := { program := "ytpmifpblamjclaa", sum := "acaccd4e395ba6f223a3dd4624421e3761328686779d2e815f53a8c89823d842", func := "pollard/pollardlaw05.DiskRoom", spec := "diskRoom", inPlace := ["maps.clone"], unfollowed := true, recurses := true, apart := false }
def DiskRoomSaid : Prop := diskRoomRow.holds Try.pinned (OpenSpec.ofChange diskRoomSpec)

/-- ITS FALSE NEIGHBOUR: 'it returns false'. Refute it at one input. -/
def diskRoomWrong : ChangeSpec := { name := "diskRoom", fn := fun _ => fun
  | [d1, d2] => { results := [.lit (.bool false)], args := [d1, d2] }
  | _ => none }
def DiskRoomWrongFalsely : Prop := diskRoomRow.holds Try.pinned (OpenSpec.ofChange diskRoomWrong)

/-- 'pollardlaw05.DiskPlays': WHATEVER THE INPUT: true; the input reads as it did. -/
def diskPlaysSpec : ChangeSpec := { name := "diskPlays", fn := fun _ => fun
  | [d1, d2, d3] => { results := [.lit (.bool true)], args := [d1, d2, d3] }
  | _ => none }
def diskPlaysRow : OpenClaim := { program := "ytpmifpblamjclaa", sum := "acaccd4e395ba6f223a3dd4624421e3761328686779d2e815f53a8c89823d842", func := "pollard/pollardlaw05.DiskPlays", spec := "diskPlays", inPlace := ["maps.clone"], unfollowed := true, recurses := true, apart := false }
def DiskPlaysSaid : Prop := diskPlaysRow.holds Try.pinned (OpenSpec.ofChange diskPlaysSpec)

/-- ITS FALSE NEIGHBOUR: 'it returns false'. Refute it at one input. -/
def diskPlaysWrong : ChangeSpec := { name := "diskPlays", fn := fun _ => fun
  | [d1, d2, d3] => { results := [.lit (.bool false)], args := [d1, d2, d3] }
  | _ => none }
def DiskPlaysWrongFalsely : Prop := diskPlaysRow.holds Try.pinned (OpenSpec.ofChange diskPlaysWrong)

/-- 'pollardlaw05.DiskSteps': WHATEVER THE INPUT: true; the input reads as it did. -/
def diskStepsSpec : ChangeSpec := { name := "diskSteps", fn := fun _ => fun
  | [d1, d2] => { results := [.lit (.bool true)], args := [d1, d2] }
  | _ => none }
def diskStepsRow : OpenClaim := { program := "ytpmifpblamjclaa", sum := "acaccd4e395ba6f223a3dd4624421e3761328686779d2e815f53a8c89823d842", func := "pollard/pollardlaw05.DiskSteps", spec := "diskSteps", inPlace := ["maps.clone"], unfollowed := true, recurses := true, apart := false }
def DiskStepsSaid : Prop := diskStepsRow.holds Try.pinned (OpenSpec.ofChange diskStepsSpec)

/-- ITS FALSE NEIGHBOUR: 'it returns false'. Refute it at one input. -/
def diskStepsWrong : ChangeSpec := { name := "diskSteps", fn := fun _ => fun
  | [d1, d2] => { results := [.lit (.bool false)], args := [d1, d2] }
  | _ => none }
def DiskStepsWrongFalsely : Prop := diskStepsRow.holds Try.pinned (OpenSpec.ofChange diskStepsWrong)

/- THE SECOND FORM. 'bulk': how many values and letters a reading holds, each counted each time it is reached (what is shared counts as often as it is met; a slice's spare places count too). A statement '..UptoSaid' is the law's where the arguments, and the package variables that the reading takes, are together of bulk at most 1048576: NARROWER than '..Said'. Prove '..Said' where nothing that the law and all that it calls make is longer than what came in: it says more and counts as full. Else prove '..UptoSaid'. A law counts once. -/
mutual
def uptoBulk {H : Type} : DataW H → Nat
  | .lit (.string bytes) => bytes.length + 1
  | .lit _ => 1
  | .nil => 1
  | .ptr d => uptoBulk d + 1
  | .slice elems spare => uptoBulkAll elems + uptoBulkAll spare + 1
  | .agg parts => uptoBulkAll parts + 1
  | .iface _ d => uptoBulk d + 1
  | .map entries => uptoBulkEntries entries + 1
  | .held _ => 1
def uptoBulkAll {H : Type} : List (DataW H) → Nat
  | [] => 0
  | d :: r => uptoBulk d + uptoBulkAll r
def uptoBulkEntries {H : Type} : List (Lit × DataW H) → Nat
  | [] => 0
  | x :: r => uptoBulkEntry x + uptoBulkEntries r
def uptoBulkEntry {H : Type} : Lit × DataW H → Nat
  | (.string bytes, d) => bytes.length + uptoBulk d + 1
  | (_, d) => uptoBulk d + 1
 end
def uptoSmall : (H : Type) → List (DataW H) → Bool := fun _ ds => decide (uptoBulkAll ds ≤ 1048576)
def OpenSpec.upto (s : _root_.Go.ChangeSpec) : _root_.Go.OpenSpec := { _root_.Go.OpenSpec.ofChange s with cond := some uptoSmall }

/-- 'pollardlaw05.DiskTurns', WHERE WHAT IT READS IS OF BULK AT MOST 1048576: true; the input reads as it did. -/
def diskTurnsUptoRow : OpenClaim := { program := "ytpmifpblamjclaa", sum := "acaccd4e395ba6f223a3dd4624421e3761328686779d2e815f53a8c89823d842", func := "pollard/pollardlaw05.DiskTurns", spec := "diskTurns", inPlace := ["maps.clone"], unfollowed := true, recurses := true, apart := false, narrowed := true }
def DiskTurnsUptoSaid : Prop := diskTurnsUptoRow.holds Try.pinned (OpenSpec.upto diskTurnsSpec)

/-- 'pollardlaw05.DiskMoves', WHERE WHAT IT READS IS OF BULK AT MOST 1048576: true; the input reads as it did. -/
def diskMovesUptoRow : OpenClaim := { program := "ytpmifpblamjclaa", sum := "acaccd4e395ba6f223a3dd4624421e3761328686779d2e815f53a8c89823d842", func := "pollard/pollardlaw05.DiskMoves", spec := "diskMoves", inPlace := ["maps.clone"], unfollowed := true, recurses := true, apart := false, narrowed := true }
def DiskMovesUptoSaid : Prop := diskMovesUptoRow.holds Try.pinned (OpenSpec.upto diskMovesSpec)

/-- 'pollardlaw05.DiskKeeps', WHERE WHAT IT READS IS OF BULK AT MOST 1048576: true; the input reads as it did. -/
def diskKeepsUptoRow : OpenClaim := { program := "ytpmifpblamjclaa", sum := "acaccd4e395ba6f223a3dd4624421e3761328686779d2e815f53a8c89823d842", func := "pollard/pollardlaw05.DiskKeeps", spec := "diskKeeps", inPlace := ["maps.clone"], unfollowed := true, recurses := true, apart := false, narrowed := true }
def DiskKeepsUptoSaid : Prop := diskKeepsUptoRow.holds Try.pinned (OpenSpec.upto diskKeepsSpec)

/-- 'pollardlaw05.DiskRoom', WHERE WHAT IT READS IS OF BULK AT MOST 1048576: true; the input reads as it did. -/
def diskRoomUptoRow : OpenClaim := { program := "ytpmifpblamjclaa", sum := "acaccd4e395ba6f223a3dd4624421e3761328686779d2e815f53a8c89823d842", func := "pollard/pollardlaw05.DiskRoom", spec := "diskRoom", inPlace := ["maps.clone"], unfollowed := true, recurses := true, apart := false, narrowed := true }
def DiskRoomUptoSaid : Prop := diskRoomUptoRow.holds Try.pinned (OpenSpec.upto diskRoomSpec)

/-- 'pollardlaw05.DiskPlays', WHERE WHAT IT READS IS OF BULK AT MOST 1048576: true; the input reads as it did. -/
def diskPlaysUptoRow : OpenClaim := { program := "ytpmifpblamjclaa", sum := "acaccd4e395ba6f223a3dd4624421e3761328686779d2e815f53a8c89823d842", func := "pollard/pollardlaw05.DiskPlays", spec := "diskPlays", inPlace := ["maps.clone"], unfollowed := true, recurses := true, apart := false, narrowed := true }
def DiskPlaysUptoSaid : Prop := diskPlaysUptoRow.holds Try.pinned (OpenSpec.upto diskPlaysSpec)

/-- 'pollardlaw05.DiskSteps', WHERE WHAT IT READS IS OF BULK AT MOST 1048576: true; the input reads as it did. -/
def diskStepsUptoRow : OpenClaim := { program := "ytpmifpblamjclaa", sum := "acaccd4e395ba6f223a3dd4624421e3761328686779d2e815f53a8c89823d842", func := "pollard/pollardlaw05.DiskSteps", spec := "diskSteps", inPlace := ["maps.clone"], unfollowed := true, recurses := true, apart := false, narrowed := true }
def DiskStepsUptoSaid : Prop := diskStepsUptoRow.holds Try.pinned (OpenSpec.upto diskStepsSpec)

end Rows
end Go.Proofs.Ytpmifpblamjclaa
