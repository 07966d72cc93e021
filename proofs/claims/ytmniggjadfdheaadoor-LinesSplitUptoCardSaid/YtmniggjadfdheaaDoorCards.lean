/-
  DERIVED. GIVEN WITH THE SEED: THE CARDS: each row of YtmniggjadfdheaaDoorRows.lean that lists a variable, with what it lists TIED to the program's text (the seventh form; the later family's looks); each row that meets fmt, with fmt's text TOLD by the authors' own Lean function (tested against real Go, not proved from fmt's source: count such statements apart). THE CARD IS WHAT COUNTS. Prove the row's statement (the work); the ties are given (YtmniggjadfdheaaDoorTie.lean); close each card by the builder's one call (the guide's Derived/Test/ToyasCard.lean, 'card_holds'). Laid BY PROGRAM, IN A SANDBOX (cutbox-door.mjs). By AI agents, Wed Nov 11 2026. No macro, syntax, notation, axiom, sorry.
-/
import Derived.Test.YtmniggjadfdheaaDoorRows
import GoSem.ClaimSeven
namespace Go.Proofs.YtmniggjadfdheaaDoor
namespace Rows

/-- THE TIED CARD OF 'pollardlaw16.LinesDiff'. -/
def linesDiffCard : Claim7 := { stood := { row := linesDiffRow, standIns := [], harness := (true, "5038a75739483502cdefe7ab429dcc16981e2cb0e3fc0cb85022776878b4c249"), looks := false }, kinds := [], alts := [], laidByText := true, laidKinds := [.data, .pinned], laidTests := true, laidLooks := .later }
def LinesDiffCardSaid : Prop := Claim7.holds Tryd.pinned (.plain (OpenSpec.ofChange linesDiffSpec)) linesDiffCard

/-- THE TIED CARD OF 'pollardlaw16.LinesPatch'. -/
def linesPatchCard : Claim7 := { stood := { row := linesPatchRow, standIns := [], harness := (true, "5038a75739483502cdefe7ab429dcc16981e2cb0e3fc0cb85022776878b4c249"), looks := false }, kinds := [], alts := [], laidByText := true, laidKinds := [.data, .pinned], laidTests := true, laidLooks := .later }
def LinesPatchCardSaid : Prop := Claim7.holds Tryd.pinned (.plain (OpenSpec.ofChange linesPatchSpec)) linesPatchCard

/-- THE TIED CARD OF 'pollardlaw16.LinesBack'. -/
def linesBackCard : Claim7 := { stood := { row := linesBackRow, standIns := [], harness := (true, "5038a75739483502cdefe7ab429dcc16981e2cb0e3fc0cb85022776878b4c249"), looks := false }, kinds := [], alts := [], laidByText := true, laidKinds := [.data, .pinned], laidTests := true, laidLooks := .later }
def LinesBackCardSaid : Prop := Claim7.holds Tryd.pinned (.plain (OpenSpec.ofChange linesBackSpec)) linesBackCard

/-- THE TIED CARD OF 'pollardlaw16.LinesParts'. -/
def linesPartsCard : Claim7 := { stood := { row := linesPartsRow, standIns := [], harness := (true, "5038a75739483502cdefe7ab429dcc16981e2cb0e3fc0cb85022776878b4c249"), looks := false }, kinds := [], alts := [], laidByText := true, laidKinds := [.data, .pinned], laidTests := true, laidLooks := .later }
def LinesPartsCardSaid : Prop := Claim7.holds Tryd.pinned (.plain (OpenSpec.ofChange linesPartsSpec)) linesPartsCard

/-- THE TIED CARD OF 'pollardlaw16.LinesTexts'. -/
def linesTextsCard : Claim7 := { stood := { row := linesTextsRow, standIns := [], harness := (true, "5038a75739483502cdefe7ab429dcc16981e2cb0e3fc0cb85022776878b4c249"), looks := false }, kinds := [], alts := [], laidByText := true, laidKinds := [.data, .pinned], laidTests := true, laidLooks := .later }
def LinesTextsCardSaid : Prop := Claim7.holds Tryd.pinned (.plain (OpenSpec.ofChange linesTextsSpec)) linesTextsCard

/-- THE TIED CARD OF 'pollardlaw16.LinesSplit'. -/
def linesSplitCard : Claim7 := { stood := { row := linesSplitRow, standIns := [], harness := (true, "5038a75739483502cdefe7ab429dcc16981e2cb0e3fc0cb85022776878b4c249"), looks := false }, kinds := [], alts := [], laidByText := true, laidKinds := [.data, .pinned], laidTests := true, laidLooks := .later }
def LinesSplitCardSaid : Prop := Claim7.holds Tryd.pinned (.plain (OpenSpec.ofChange linesSplitSpec)) linesSplitCard

/-- THE SECOND FORM's CARD OF 'pollardlaw16.LinesDiff'. -/
def linesDiffUptoCard : Claim7 := { stood := { row := linesDiffUptoRow, standIns := [], harness := (true, "5038a75739483502cdefe7ab429dcc16981e2cb0e3fc0cb85022776878b4c249"), looks := false }, kinds := [], alts := [], laidByText := true, laidKinds := [.data, .pinned], laidTests := true, laidLooks := .later }
def LinesDiffUptoCardSaid : Prop := Claim7.holds Tryd.pinned (.plain (OpenSpec.upto linesDiffSpec)) linesDiffUptoCard

/-- THE SECOND FORM's CARD OF 'pollardlaw16.LinesPatch'. -/
def linesPatchUptoCard : Claim7 := { stood := { row := linesPatchUptoRow, standIns := [], harness := (true, "5038a75739483502cdefe7ab429dcc16981e2cb0e3fc0cb85022776878b4c249"), looks := false }, kinds := [], alts := [], laidByText := true, laidKinds := [.data, .pinned], laidTests := true, laidLooks := .later }
def LinesPatchUptoCardSaid : Prop := Claim7.holds Tryd.pinned (.plain (OpenSpec.upto linesPatchSpec)) linesPatchUptoCard

/-- THE SECOND FORM's CARD OF 'pollardlaw16.LinesBack'. -/
def linesBackUptoCard : Claim7 := { stood := { row := linesBackUptoRow, standIns := [], harness := (true, "5038a75739483502cdefe7ab429dcc16981e2cb0e3fc0cb85022776878b4c249"), looks := false }, kinds := [], alts := [], laidByText := true, laidKinds := [.data, .pinned], laidTests := true, laidLooks := .later }
def LinesBackUptoCardSaid : Prop := Claim7.holds Tryd.pinned (.plain (OpenSpec.upto linesBackSpec)) linesBackUptoCard

/-- THE SECOND FORM's CARD OF 'pollardlaw16.LinesParts'. -/
def linesPartsUptoCard : Claim7 := { stood := { row := linesPartsUptoRow, standIns := [], harness := (true, "5038a75739483502cdefe7ab429dcc16981e2cb0e3fc0cb85022776878b4c249"), looks := false }, kinds := [], alts := [], laidByText := true, laidKinds := [.data, .pinned], laidTests := true, laidLooks := .later }
def LinesPartsUptoCardSaid : Prop := Claim7.holds Tryd.pinned (.plain (OpenSpec.upto linesPartsSpec)) linesPartsUptoCard

/-- THE SECOND FORM's CARD OF 'pollardlaw16.LinesTexts'. -/
def linesTextsUptoCard : Claim7 := { stood := { row := linesTextsUptoRow, standIns := [], harness := (true, "5038a75739483502cdefe7ab429dcc16981e2cb0e3fc0cb85022776878b4c249"), looks := false }, kinds := [], alts := [], laidByText := true, laidKinds := [.data, .pinned], laidTests := true, laidLooks := .later }
def LinesTextsUptoCardSaid : Prop := Claim7.holds Tryd.pinned (.plain (OpenSpec.upto linesTextsSpec)) linesTextsUptoCard

/-- THE SECOND FORM's CARD OF 'pollardlaw16.LinesSplit'. -/
def linesSplitUptoCard : Claim7 := { stood := { row := linesSplitUptoRow, standIns := [], harness := (true, "5038a75739483502cdefe7ab429dcc16981e2cb0e3fc0cb85022776878b4c249"), looks := false }, kinds := [], alts := [], laidByText := true, laidKinds := [.data, .pinned], laidTests := true, laidLooks := .later }
def LinesSplitUptoCardSaid : Prop := Claim7.holds Tryd.pinned (.plain (OpenSpec.upto linesSplitSpec)) linesSplitUptoCard
end Rows
end Go.Proofs.YtmniggjadfdheaaDoor
