/-
  DERIVED. GIVEN WITH THE SEED: THE CARDS: each row of YtkjghjffdjjedaaDoorRows.lean that lists a variable, with what it lists TIED to the program's text (the seventh form; the later family's looks); each row that meets fmt, with fmt's text TOLD by the authors' own Lean function (tested against real Go, not proved from fmt's source: count such statements apart). THE CARD IS WHAT COUNTS. Prove the row's statement (the work); the ties are given (YtkjghjffdjjedaaDoorTie.lean); close each card by the builder's one call (the guide's Derived/Test/ToyasCard.lean, 'card_holds'). Laid BY PROGRAM, IN A SANDBOX (cutbox-door.mjs). By AI agents, Wed Nov 11 2026. No macro, syntax, notation, axiom, sorry.
-/
import Derived.Test.YtkjghjffdjjedaaDoorRows
import GoSem.ClaimSeven
namespace Go.Proofs.YtkjghjffdjjedaaDoor
namespace Rows

/-- THE TIED CARD OF 'pacelinelaw02.LinesNumbers'. -/
def linesNumbersCard : Claim7 := { stood := { row := linesNumbersRow, standIns := [], harness := (true, "edee25a3402463f5bda428511ddf9d5d2d2cb4750d3aa6fb886e0abb79c5c4cc"), looks := true }, kinds := [], alts := [], laidByText := true, laidKinds := [.data, .data, .data, .sentinel, .sentinel], laidTests := true, laidLooks := .later }
def LinesNumbersCardSaid : Prop := Claim7.holds Tryd.pinned (.plain (OpenSpec.ofChange linesNumbersSpec)) linesNumbersCard

/-- THE TIED CARD OF 'pacelinelaw02.LinesEncodes'. -/
def linesEncodesCard : Claim7 := { stood := { row := linesEncodesRow, standIns := [], harness := (true, "edee25a3402463f5bda428511ddf9d5d2d2cb4750d3aa6fb886e0abb79c5c4cc"), looks := true }, kinds := [], alts := [], laidByText := true, laidKinds := [.data, .handle, .pinned], laidTests := true, laidLooks := .later }
def LinesEncodesCardSaid : Prop := Claim7.holds Tryd.pinned (.plain (OpenSpec.ofChange linesEncodesSpec)) linesEncodesCard

/-- THE TIED CARD OF 'pacelinelaw02.LinesDecodes'. -/
def linesDecodesCard : Claim7 := { stood := { row := linesDecodesRow, standIns := [], harness := (true, "edee25a3402463f5bda428511ddf9d5d2d2cb4750d3aa6fb886e0abb79c5c4cc"), looks := true }, kinds := [], alts := [], laidByText := true, laidKinds := [.data, .handle, .pinned], laidTests := true, laidLooks := .later }
def LinesDecodesCardSaid : Prop := Claim7.holds Tryd.pinned (.plain (OpenSpec.ofChange linesDecodesSpec)) linesDecodesCard

/-- THE TIED CARD OF 'pacelinelaw02.LinesJoined'. -/
def linesJoinedCard : Claim7 := { stood := { row := linesJoinedRow, standIns := [], harness := (true, "edee25a3402463f5bda428511ddf9d5d2d2cb4750d3aa6fb886e0abb79c5c4cc"), looks := true }, kinds := [], alts := [], laidByText := true, laidKinds := [.data, .handle, .pinned], laidTests := true, laidLooks := .later }
def LinesJoinedCardSaid : Prop := Claim7.holds Tryd.pinned (.plain (OpenSpec.ofChange linesJoinedSpec)) linesJoinedCard

/-- THE TIED CARD OF 'pacelinelaw02.LinesFields'. -/
def linesFieldsCard : Claim7 := { stood := { row := linesFieldsRow, standIns := [], harness := (true, "edee25a3402463f5bda428511ddf9d5d2d2cb4750d3aa6fb886e0abb79c5c4cc"), looks := true }, kinds := [], alts := [], laidByText := true, laidKinds := [.data, .handle, .pinned], laidTests := true, laidLooks := .later }
def LinesFieldsCardSaid : Prop := Claim7.holds Tryd.pinned (.plain (OpenSpec.ofChange linesFieldsSpec)) linesFieldsCard

/-- THE TIED CARD OF 'pacelinelaw02.LinesCut'. -/
def linesCutCard : Claim7 := { stood := { row := linesCutRow, standIns := [], harness := (true, "edee25a3402463f5bda428511ddf9d5d2d2cb4750d3aa6fb886e0abb79c5c4cc"), looks := true }, kinds := [], alts := [], laidByText := true, laidKinds := [.data, .handle, .pinned], laidTests := true, laidLooks := .later }
def LinesCutCardSaid : Prop := Claim7.holds Tryd.pinned (.plain (OpenSpec.ofChange linesCutSpec)) linesCutCard

/-- THE SECOND FORM's CARD OF 'pacelinelaw02.LinesNumbers'. -/
def linesNumbersUptoCard : Claim7 := { stood := { row := linesNumbersUptoRow, standIns := [], harness := (true, "edee25a3402463f5bda428511ddf9d5d2d2cb4750d3aa6fb886e0abb79c5c4cc"), looks := true }, kinds := [], alts := [], laidByText := true, laidKinds := [.data, .data, .data, .sentinel, .sentinel], laidTests := true, laidLooks := .later }
def LinesNumbersUptoCardSaid : Prop := Claim7.holds Tryd.pinned (.plain (OpenSpec.upto linesNumbersSpec)) linesNumbersUptoCard

/-- THE SECOND FORM's CARD OF 'pacelinelaw02.LinesEncodes'. -/
def linesEncodesUptoCard : Claim7 := { stood := { row := linesEncodesUptoRow, standIns := [], harness := (true, "edee25a3402463f5bda428511ddf9d5d2d2cb4750d3aa6fb886e0abb79c5c4cc"), looks := true }, kinds := [], alts := [], laidByText := true, laidKinds := [.data, .handle, .pinned], laidTests := true, laidLooks := .later }
def LinesEncodesUptoCardSaid : Prop := Claim7.holds Tryd.pinned (.plain (OpenSpec.upto linesEncodesSpec)) linesEncodesUptoCard

/-- THE SECOND FORM's CARD OF 'pacelinelaw02.LinesDecodes'. -/
def linesDecodesUptoCard : Claim7 := { stood := { row := linesDecodesUptoRow, standIns := [], harness := (true, "edee25a3402463f5bda428511ddf9d5d2d2cb4750d3aa6fb886e0abb79c5c4cc"), looks := true }, kinds := [], alts := [], laidByText := true, laidKinds := [.data, .handle, .pinned], laidTests := true, laidLooks := .later }
def LinesDecodesUptoCardSaid : Prop := Claim7.holds Tryd.pinned (.plain (OpenSpec.upto linesDecodesSpec)) linesDecodesUptoCard

/-- THE SECOND FORM's CARD OF 'pacelinelaw02.LinesJoined'. -/
def linesJoinedUptoCard : Claim7 := { stood := { row := linesJoinedUptoRow, standIns := [], harness := (true, "edee25a3402463f5bda428511ddf9d5d2d2cb4750d3aa6fb886e0abb79c5c4cc"), looks := true }, kinds := [], alts := [], laidByText := true, laidKinds := [.data, .handle, .pinned], laidTests := true, laidLooks := .later }
def LinesJoinedUptoCardSaid : Prop := Claim7.holds Tryd.pinned (.plain (OpenSpec.upto linesJoinedSpec)) linesJoinedUptoCard

/-- THE SECOND FORM's CARD OF 'pacelinelaw02.LinesFields'. -/
def linesFieldsUptoCard : Claim7 := { stood := { row := linesFieldsUptoRow, standIns := [], harness := (true, "edee25a3402463f5bda428511ddf9d5d2d2cb4750d3aa6fb886e0abb79c5c4cc"), looks := true }, kinds := [], alts := [], laidByText := true, laidKinds := [.data, .handle, .pinned], laidTests := true, laidLooks := .later }
def LinesFieldsUptoCardSaid : Prop := Claim7.holds Tryd.pinned (.plain (OpenSpec.upto linesFieldsSpec)) linesFieldsUptoCard

/-- THE SECOND FORM's CARD OF 'pacelinelaw02.LinesCut'. -/
def linesCutUptoCard : Claim7 := { stood := { row := linesCutUptoRow, standIns := [], harness := (true, "edee25a3402463f5bda428511ddf9d5d2d2cb4750d3aa6fb886e0abb79c5c4cc"), looks := true }, kinds := [], alts := [], laidByText := true, laidKinds := [.data, .handle, .pinned], laidTests := true, laidLooks := .later }
def LinesCutUptoCardSaid : Prop := Claim7.holds Tryd.pinned (.plain (OpenSpec.upto linesCutSpec)) linesCutUptoCard
end Rows
end Go.Proofs.YtkjghjffdjjedaaDoor
