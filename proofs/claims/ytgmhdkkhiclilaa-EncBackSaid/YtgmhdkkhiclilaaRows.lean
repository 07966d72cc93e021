/-
  No cell of these rows narrows 'for every input' (looked for: loops, veiled, ifaces, maps, wideKeys, modest, calm, conditions, laid).
  DERIVED. THE GIVEN ROWS OF THIS SEAT. 7 by the template 'for every input the law returns true; each argument reads behind the call as it read before'; 0 by the template 'total and deterministic' (their statements: YtgmhdkkhiclilaaTotals.lean).
  GIVEN WITH THE SEED: the statements are not yours to turn. If you find one false, say at which input.
  Laid BY PROGRAM, IN A SANDBOX (cutbox-rows.mjs): the forced cells as the released guide's own fill.sh prints them over the translation aef477c0b1537488… (all of the seat's roots in one cut). By AI agents, Wed Nov 11 2026. No macro, syntax, notation, axiom, sorry.
-/
import Derived.Test.YtgmhdkkhiclilaaChecked
import GoSem.Claim
import GoSem.ClaimJoined
import GoSem.ClaimMapViews
import Derived.JoinedTies
import Derived.KernelRfl
namespace Go.Proofs.Ytgmhdkkhiclilaa
/- THE CELL 'sum', in the pinned program and in every row, IS THE sha256 OF THE DUMP (.gsa) THAT YtgmhdkkhiclilaaProg.lean LOADS. Nothing in Lean hashes anything: it is a label: what it is worth is what the hold of that sum in a sandbox is worth. -/
noncomputable def Try.pinned : Pinned := { name := "ytgmhdkkhiclilaa", sum := "aef477c0b1537488bd3209b8f481b13428f89b9d8fc63f5dd97b33e1ed880a02", checked := Try.checked }
namespace Rows
def none {H : Type} : Left H := { results := [], args := [] }

/-- 'pollardlaw02.EncSums': WHATEVER THE INPUT: true; the input reads as it did. -/
def encSumsSpec : ChangeSpec := { name := "encSums", fn := fun _ => fun
  | [d] => { results := [.lit (.bool true)], args := [d] }
  | _ => none }
def encSumsRow : OpenClaim := { program := "ytgmhdkkhiclilaa", sum := "aef477c0b1537488bd3209b8f481b13428f89b9d8fc63f5dd97b33e1ed880a02", func := "pollard/pollardlaw02.EncSums", spec := "encSums", apart := false }
def EncSumsSaid : Prop := encSumsRow.holds Try.pinned (OpenSpec.ofChange encSumsSpec)

/-- ITS FALSE NEIGHBOUR: 'it returns false'. Refute it at one input. -/
def encSumsWrong : ChangeSpec := { name := "encSums", fn := fun _ => fun
  | [d] => { results := [.lit (.bool false)], args := [d] }
  | _ => none }
def EncSumsWrongFalsely : Prop := encSumsRow.holds Try.pinned (OpenSpec.ofChange encSumsWrong)

/-- 'pollardlaw02.EncTurns': WHATEVER THE INPUT: true; the input reads as it did. -/
def encTurnsSpec : ChangeSpec := { name := "encTurns", fn := fun _ => fun
  | [d1, d2, d3, d4] => { results := [.lit (.bool true)], args := [d1, d2, d3, d4] }
  | _ => none }
def encTurnsRow : OpenClaim := { program := "ytgmhdkkhiclilaa", sum := "aef477c0b1537488bd3209b8f481b13428f89b9d8fc63f5dd97b33e1ed880a02", func := "pollard/pollardlaw02.EncTurns", spec := "encTurns", apart := false }
def EncTurnsSaid : Prop := encTurnsRow.holds Try.pinned (OpenSpec.ofChange encTurnsSpec)

/-- ITS FALSE NEIGHBOUR: 'it returns false'. Refute it at one input. -/
def encTurnsWrong : ChangeSpec := { name := "encTurns", fn := fun _ => fun
  | [d1, d2, d3, d4] => { results := [.lit (.bool false)], args := [d1, d2, d3, d4] }
  | _ => none }
def EncTurnsWrongFalsely : Prop := encTurnsRow.holds Try.pinned (OpenSpec.ofChange encTurnsWrong)

/-- 'pollardlaw02.EncOrder': WHATEVER THE INPUT: true; the input reads as it did. -/
def encOrderSpec : ChangeSpec := { name := "encOrder", fn := fun _ => fun
  | [d1, d2] => { results := [.lit (.bool true)], args := [d1, d2] }
  | _ => none }
def encOrderRow : OpenClaim := { program := "ytgmhdkkhiclilaa", sum := "aef477c0b1537488bd3209b8f481b13428f89b9d8fc63f5dd97b33e1ed880a02", func := "pollard/pollardlaw02.EncOrder", spec := "encOrder", apart := false }
def EncOrderSaid : Prop := encOrderRow.holds Try.pinned (OpenSpec.ofChange encOrderSpec)

/-- ITS FALSE NEIGHBOUR: 'it returns false'. Refute it at one input. -/
def encOrderWrong : ChangeSpec := { name := "encOrder", fn := fun _ => fun
  | [d1, d2] => { results := [.lit (.bool false)], args := [d1, d2] }
  | _ => none }
def EncOrderWrongFalsely : Prop := encOrderRow.holds Try.pinned (OpenSpec.ofChange encOrderWrong)

/-- 'pollardlaw02.EncWrites': WHATEVER THE INPUT: true; the input reads as it did. -/
def encWritesSpec : ChangeSpec := { name := "encWrites", fn := fun _ => fun
  | [d1, d2, d3, d4, d5] => { results := [.lit (.bool true)], args := [d1, d2, d3, d4, d5] }
  | _ => none }
def encWritesRow : OpenClaim := { program := "ytgmhdkkhiclilaa", sum := "aef477c0b1537488bd3209b8f481b13428f89b9d8fc63f5dd97b33e1ed880a02", func := "pollard/pollardlaw02.EncWrites", spec := "encWrites", apart := false }
def EncWritesSaid : Prop := encWritesRow.holds Try.pinned (OpenSpec.ofChange encWritesSpec)

/-- ITS FALSE NEIGHBOUR: 'it returns false'. Refute it at one input. -/
def encWritesWrong : ChangeSpec := { name := "encWrites", fn := fun _ => fun
  | [d1, d2, d3, d4, d5] => { results := [.lit (.bool false)], args := [d1, d2, d3, d4, d5] }
  | _ => none }
def EncWritesWrongFalsely : Prop := encWritesRow.holds Try.pinned (OpenSpec.ofChange encWritesWrong)

/-- 'pollardlaw02.EncReads': WHATEVER THE INPUT: true; the input reads as it did. -/
def encReadsSpec : ChangeSpec := { name := "encReads", fn := fun _ => fun
  | [d1, d2, d3] => { results := [.lit (.bool true)], args := [d1, d2, d3] }
  | _ => none }
def encReadsRow : OpenClaim := { program := "ytgmhdkkhiclilaa", sum := "aef477c0b1537488bd3209b8f481b13428f89b9d8fc63f5dd97b33e1ed880a02", func := "pollard/pollardlaw02.EncReads", spec := "encReads", apart := false }
def EncReadsSaid : Prop := encReadsRow.holds Try.pinned (OpenSpec.ofChange encReadsSpec)

/-- ITS FALSE NEIGHBOUR: 'it returns false'. Refute it at one input. -/
def encReadsWrong : ChangeSpec := { name := "encReads", fn := fun _ => fun
  | [d1, d2, d3] => { results := [.lit (.bool false)], args := [d1, d2, d3] }
  | _ => none }
def EncReadsWrongFalsely : Prop := encReadsRow.holds Try.pinned (OpenSpec.ofChange encReadsWrong)

/-- 'pollardlaw02.EncFails': WHATEVER THE INPUT: true; the input reads as it did. -/
def encFailsSpec : ChangeSpec := { name := "encFails", fn := fun _ => fun
  | [d1, d2, d3] => { results := [.lit (.bool true)], args := [d1, d2, d3] }
  | _ => none }
def encFailsRow : OpenClaim := { program := "ytgmhdkkhiclilaa", sum := "aef477c0b1537488bd3209b8f481b13428f89b9d8fc63f5dd97b33e1ed880a02", func := "pollard/pollardlaw02.EncFails", spec := "encFails", apart := false }
def EncFailsSaid : Prop := encFailsRow.holds Try.pinned (OpenSpec.ofChange encFailsSpec)

/-- ITS FALSE NEIGHBOUR: 'it returns false'. Refute it at one input. -/
def encFailsWrong : ChangeSpec := { name := "encFails", fn := fun _ => fun
  | [d1, d2, d3] => { results := [.lit (.bool false)], args := [d1, d2, d3] }
  | _ => none }
def EncFailsWrongFalsely : Prop := encFailsRow.holds Try.pinned (OpenSpec.ofChange encFailsWrong)

/-- 'pollardlaw02.EncBack': WHATEVER THE INPUT: true; the input reads as it did. -/
def encBackSpec : ChangeSpec := { name := "encBack", fn := fun _ => fun
  | [d1, d2, d3] => { results := [.lit (.bool true)], args := [d1, d2, d3] }
  | _ => none }
def encBackRow : OpenClaim := { program := "ytgmhdkkhiclilaa", sum := "aef477c0b1537488bd3209b8f481b13428f89b9d8fc63f5dd97b33e1ed880a02", func := "pollard/pollardlaw02.EncBack", spec := "encBack", apart := false }
def EncBackSaid : Prop := encBackRow.holds Try.pinned (OpenSpec.ofChange encBackSpec)

/-- ITS FALSE NEIGHBOUR: 'it returns false'. Refute it at one input. -/
def encBackWrong : ChangeSpec := { name := "encBack", fn := fun _ => fun
  | [d1, d2, d3] => { results := [.lit (.bool false)], args := [d1, d2, d3] }
  | _ => none }
def EncBackWrongFalsely : Prop := encBackRow.holds Try.pinned (OpenSpec.ofChange encBackWrong)

/- THE SECOND FORM. 'bulk': how many values and letters a reading holds, each counted each time it is reached (what is shared counts as often as it is met; a slice's spare places count too). A statement '..UptoSaid' is the law's where the arguments, and the package variables that the reading takes, are together of bulk at most 1048576: NARROWER than '..Said'. Prove '..Said' where nothing that the law and all that it calls make is longer than what came in: it says more and counts as full. Else prove '..UptoSaid'. A law counts once. -/
mutual
def uptoBulk {H : Type} : DataW H → Nat
  | .lit (.string bytes) => bytes.length + 1
  | .lit _ => 1
  | .nil => 1
  | .ptr d => uptoBulk d + 1
  | .slice elems spare => uptoBulkAll elems + uptoBulkAll spare + 1
  | .agg parts => uptoBulkAll parts + 1
  | .iface _ d => uptoBulk d + 1
  | .map entries => uptoBulkEntries entries + 1
  | .held _ => 1
def uptoBulkAll {H : Type} : List (DataW H) → Nat
  | [] => 0
  | d :: r => uptoBulk d + uptoBulkAll r
def uptoBulkEntries {H : Type} : List (Lit × DataW H) → Nat
  | [] => 0
  | x :: r => uptoBulkEntry x + uptoBulkEntries r
def uptoBulkEntry {H : Type} : Lit × DataW H → Nat
  | (.string bytes, d) => bytes.length + uptoBulk d + 1
  | (_, d) => uptoBulk d + 1
 end
def uptoSmall : (H : Type) → List (DataW H) → Bool := fun _ ds => decide (uptoBulkAll ds ≤ 1048576)
def OpenSpec.upto (s : _root_.Go.ChangeSpec) : _root_.Go.OpenSpec := { _root_.Go.OpenSpec.ofChange s with cond := some uptoSmall }

/-- 'pollardlaw02.EncSums', WHERE WHAT IT READS IS OF BULK AT MOST 1048576: true; the input reads as it did. -/
def encSumsUptoRow : OpenClaim := { program := "ytgmhdkkhiclilaa", sum := "aef477c0b1537488bd3209b8f481b13428f89b9d8fc63f5dd97b33e1ed880a02", func := "pollard/pollardlaw02.EncSums", spec := "encSums", apart := false, narrowed := true }
def EncSumsUptoSaid : Prop := encSumsUptoRow.holds Try.pinned (OpenSpec.upto encSumsSpec)

/-- 'pollardlaw02.EncTurns', WHERE WHAT IT READS IS OF BULK AT MOST 1048576: true; the input reads as it did. -/
def encTurnsUptoRow : OpenClaim := { program := "ytgmhdkkhiclilaa", sum := "aef477c0b1537488bd3209b8f481b13428f89b9d8fc63f5dd97b33e1ed880a02", func := "pollard/pollardlaw02.EncTurns", spec := "encTurns", apart := false, narrowed := true }
def EncTurnsUptoSaid : Prop := encTurnsUptoRow.holds Try.pinned (OpenSpec.upto encTurnsSpec)

/-- 'pollardlaw02.EncOrder', WHERE WHAT IT READS IS OF BULK AT MOST 1048576: true; the input reads as it did. -/
def encOrderUptoRow : OpenClaim := { program := "ytgmhdkkhiclilaa", sum := "aef477c0b1537488bd3209b8f481b13428f89b9d8fc63f5dd97b33e1ed880a02", func := "pollard/pollardlaw02.EncOrder", spec := "encOrder", apart := false, narrowed := true }
def EncOrderUptoSaid : Prop := encOrderUptoRow.holds Try.pinned (OpenSpec.upto encOrderSpec)

/-- 'pollardlaw02.EncWrites', WHERE WHAT IT READS IS OF BULK AT MOST 1048576: true; the input reads as it did. -/
def encWritesUptoRow : OpenClaim := { program := "ytgmhdkkhiclilaa", sum := "aef477c0b1537488bd3209b8f481b13428f89b9d8fc63f5dd97b33e1ed880a02", func := "pollard/pollardlaw02.EncWrites", spec := "encWrites", apart := false, narrowed := true }
def EncWritesUptoSaid : Prop := encWritesUptoRow.holds Try.pinned (OpenSpec.upto encWritesSpec)

/-- 'pollardlaw02.EncReads', WHERE WHAT IT READS IS OF BULK AT MOST 1048576: true; the input reads as it did. -/
def encReadsUptoRow : OpenClaim := { program := "ytgmhdkkhiclilaa", sum := "aef477c0b1537488bd3209b8f481b13428f89b9d8fc63f5dd97b33e1ed880a02", func := "pollard/pollardlaw02.EncReads", spec := "encReads", apart := false, narrowed := true }
def EncReadsUptoSaid : Prop := encReadsUptoRow.holds Try.pinned (OpenSpec.upto encReadsSpec)

/-- 'pollardlaw02.EncFails', WHERE WHAT IT READS IS OF BULK AT MOST 1048576: true; the input reads as it did. -/
def encFailsUptoRow : OpenClaim := { program := "ytgmhdkkhiclilaa", sum := "aef477c0b1537488bd3209b8f481b13428f89b9d8fc63f5dd97b33e1ed880a02", func := "pollard/pollardlaw02.EncFails", spec := "encFails", apart := false, narrowed := true }
def EncFailsUptoSaid : Prop := encFailsUptoRow.holds Try.pinned (OpenSpec.upto encFailsSpec)

/-- 'pollardlaw02.EncBack', WHERE WHAT IT READS IS OF BULK AT MOST 1048576: true; the input reads as it did. -/
def encBackUptoRow : OpenClaim := { program := "ytgmhdkkhiclilaa", sum := "aef477c0b1537488bd3209b8f481b13428f89b9d8fc63f5dd97b33e1ed880a02", func := "pollard/pollardlaw02.EncBack", spec := "encBack", apart := false, narrowed := true }
def EncBackUptoSaid : Prop := encBackUptoRow.holds Try.pinned (OpenSpec.upto encBackSpec)

end Rows
end Go.Proofs.Ytgmhdkkhiclilaa
