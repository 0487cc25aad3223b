/-
  DERIVED. GIVEN WITH THE SEED: THE CARDS: each row of YtoegdmpmagbaiaaDoorRows.lean that lists a variable, with what it lists TIED to the program's text (the seventh form; the later family's looks); each row that meets fmt, with fmt's text TOLD by the authors' own Lean function (tested against real Go, not proved from fmt's source: count such statements apart). THE CARD IS WHAT COUNTS. Prove the row's statement (the work); the ties are given (YtoegdmpmagbaiaaDoorTie.lean); close each card by the builder's one call (the guide's Derived/Test/ToyasCard.lean, 'card_holds'). Laid BY PROGRAM, IN A SANDBOX (cutbox-door.mjs). By AI agents, Wed Nov 11 2026. No macro, syntax, notation, axiom, sorry.
-/
import Derived.Test.YtoegdmpmagbaiaaDoorRows
import GoSem.ClaimSeven
namespace Go.Proofs.YtoegdmpmagbaiaaDoor
namespace Rows

/-- THE TIED CARD OF 'lookoutlaw08.FormulaNodes'. -/
def formulaNodesCard : Claim7 := { stood := { row := formulaNodesRow, standIns := [], harness := (true, "b9677da63c4c70d3d2983b565f743a6e30a7c77c37fa9b3b479e72535b116f66"), looks := true }, kinds := [], alts := [], laidByText := true, laidKinds := [.data, .data, .data, .data], laidTests := true, laidLooks := .later }
def FormulaNodesCardSaid : Prop := Claim7.holds Tryd.pinned (.plain (OpenSpec.ofChange formulaNodesSpec)) formulaNodesCard

/-- THE TIED CARD OF 'lookoutlaw17.ConfReads'. -/
def confReadsCard : Claim7 := { stood := { row := confReadsRow, standIns := [], harness := (true, "b9677da63c4c70d3d2983b565f743a6e30a7c77c37fa9b3b479e72535b116f66"), looks := true }, kinds := [], alts := [], laidByText := true, laidKinds := [.data, .data, .data, .data, .sentinel, .sentinel, .pinned], laidTests := true, laidLooks := .later }
def ConfReadsCardSaid : Prop := Claim7.holds Tryd.pinned (.plain (OpenSpec.ofChange confReadsSpec)) confReadsCard

/-- THE TIED CARD OF 'lookoutlaw17.ConfShows'. -/
def confShowsCard : Claim7 := { stood := { row := confShowsRow, standIns := [], harness := (true, "b9677da63c4c70d3d2983b565f743a6e30a7c77c37fa9b3b479e72535b116f66"), looks := true }, kinds := [], alts := [], laidByText := true, laidKinds := [.data, .data, .data, .data, .sentinel, .sentinel, .pinned], laidTests := true, laidLooks := .later }
def ConfShowsCardSaid : Prop := Claim7.holds Tryd.pinned (.plain (OpenSpec.ofChange confShowsSpec)) confShowsCard

/-- THE TIED CARD OF 'lookoutlaw17.ConfBack'. -/
def confBackCard : Claim7 := { stood := { row := confBackRow, standIns := [], harness := (true, "b9677da63c4c70d3d2983b565f743a6e30a7c77c37fa9b3b479e72535b116f66"), looks := true }, kinds := [], alts := [], laidByText := true, laidKinds := [.data, .data, .data, .data, .sentinel, .sentinel, .pinned], laidTests := true, laidLooks := .later }
def ConfBackCardSaid : Prop := Claim7.holds Tryd.pinned (.plain (OpenSpec.ofChange confBackSpec)) confBackCard

/-- THE TIED CARD OF 'lookoutlaw17.ConfLines'. -/
def confLinesCard : Claim7 := { stood := { row := confLinesRow, standIns := [], harness := (true, "b9677da63c4c70d3d2983b565f743a6e30a7c77c37fa9b3b479e72535b116f66"), looks := true }, kinds := [], alts := [], laidByText := true, laidKinds := [.data, .data, .data, .data, .sentinel, .sentinel, .pinned], laidTests := true, laidLooks := .later }
def ConfLinesCardSaid : Prop := Claim7.holds Tryd.pinned (.plain (OpenSpec.ofChange confLinesSpec)) confLinesCard

/-- THE TIED CARD OF 'lookoutlaw17.ConfNumbers'. -/
def confNumbersCard : Claim7 := { stood := { row := confNumbersRow, standIns := [], harness := (true, "b9677da63c4c70d3d2983b565f743a6e30a7c77c37fa9b3b479e72535b116f66"), looks := true }, kinds := [], alts := [], laidByText := true, laidKinds := [.data, .data, .data, .data, .sentinel, .sentinel, .pinned], laidTests := true, laidLooks := .later }
def ConfNumbersCardSaid : Prop := Claim7.holds Tryd.pinned (.plain (OpenSpec.ofChange confNumbersSpec)) confNumbersCard

/-- THE SECOND FORM's CARD OF 'lookoutlaw08.FormulaNodes'. -/
def formulaNodesUptoCard : Claim7 := { stood := { row := formulaNodesUptoRow, standIns := [], harness := (true, "b9677da63c4c70d3d2983b565f743a6e30a7c77c37fa9b3b479e72535b116f66"), looks := true }, kinds := [], alts := [], laidByText := true, laidKinds := [.data, .data, .data, .data], laidTests := true, laidLooks := .later }
def FormulaNodesUptoCardSaid : Prop := Claim7.holds Tryd.pinned (.plain (OpenSpec.upto formulaNodesSpec)) formulaNodesUptoCard

/-- THE SECOND FORM's CARD OF 'lookoutlaw17.ConfReads'. -/
def confReadsUptoCard : Claim7 := { stood := { row := confReadsUptoRow, standIns := [], harness := (true, "b9677da63c4c70d3d2983b565f743a6e30a7c77c37fa9b3b479e72535b116f66"), looks := true }, kinds := [], alts := [], laidByText := true, laidKinds := [.data, .data, .data, .data, .sentinel, .sentinel, .pinned], laidTests := true, laidLooks := .later }
def ConfReadsUptoCardSaid : Prop := Claim7.holds Tryd.pinned (.plain (OpenSpec.upto confReadsSpec)) confReadsUptoCard

/-- THE SECOND FORM's CARD OF 'lookoutlaw17.ConfShows'. -/
def confShowsUptoCard : Claim7 := { stood := { row := confShowsUptoRow, standIns := [], harness := (true, "b9677da63c4c70d3d2983b565f743a6e30a7c77c37fa9b3b479e72535b116f66"), looks := true }, kinds := [], alts := [], laidByText := true, laidKinds := [.data, .data, .data, .data, .sentinel, .sentinel, .pinned], laidTests := true, laidLooks := .later }
def ConfShowsUptoCardSaid : Prop := Claim7.holds Tryd.pinned (.plain (OpenSpec.upto confShowsSpec)) confShowsUptoCard

/-- THE SECOND FORM's CARD OF 'lookoutlaw17.ConfBack'. -/
def confBackUptoCard : Claim7 := { stood := { row := confBackUptoRow, standIns := [], harness := (true, "b9677da63c4c70d3d2983b565f743a6e30a7c77c37fa9b3b479e72535b116f66"), looks := true }, kinds := [], alts := [], laidByText := true, laidKinds := [.data, .data, .data, .data, .sentinel, .sentinel, .pinned], laidTests := true, laidLooks := .later }
def ConfBackUptoCardSaid : Prop := Claim7.holds Tryd.pinned (.plain (OpenSpec.upto confBackSpec)) confBackUptoCard

/-- THE SECOND FORM's CARD OF 'lookoutlaw17.ConfLines'. -/
def confLinesUptoCard : Claim7 := { stood := { row := confLinesUptoRow, standIns := [], harness := (true, "b9677da63c4c70d3d2983b565f743a6e30a7c77c37fa9b3b479e72535b116f66"), looks := true }, kinds := [], alts := [], laidByText := true, laidKinds := [.data, .data, .data, .data, .sentinel, .sentinel, .pinned], laidTests := true, laidLooks := .later }
def ConfLinesUptoCardSaid : Prop := Claim7.holds Tryd.pinned (.plain (OpenSpec.upto confLinesSpec)) confLinesUptoCard

/-- THE SECOND FORM's CARD OF 'lookoutlaw17.ConfNumbers'. -/
def confNumbersUptoCard : Claim7 := { stood := { row := confNumbersUptoRow, standIns := [], harness := (true, "b9677da63c4c70d3d2983b565f743a6e30a7c77c37fa9b3b479e72535b116f66"), looks := true }, kinds := [], alts := [], laidByText := true, laidKinds := [.data, .data, .data, .data, .sentinel, .sentinel, .pinned], laidTests := true, laidLooks := .later }
def ConfNumbersUptoCardSaid : Prop := Claim7.holds Tryd.pinned (.plain (OpenSpec.upto confNumbersSpec)) confNumbersUptoCard
end Rows
end Go.Proofs.YtoegdmpmagbaiaaDoor
