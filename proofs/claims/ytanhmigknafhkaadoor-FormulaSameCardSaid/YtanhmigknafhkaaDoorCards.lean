/-
  DERIVED. GIVEN WITH THE SEED: THE CARDS: each row of YtanhmigknafhkaaDoorRows.lean that lists a variable, with what it lists TIED to the program's text (the seventh form; the later family's looks); each row that meets fmt, with fmt's text TOLD by the authors' own Lean function (tested against real Go, not proved from fmt's source: count such statements apart). THE CARD IS WHAT COUNTS. Prove the row's statement (the work); the ties are given (YtanhmigknafhkaaDoorTie.lean); close each card by the builder's one call (the guide's Derived/Test/ToyasCard.lean, 'card_holds'). Laid BY PROGRAM, IN A SANDBOX (cutbox-door.mjs). By AI agents, Wed Nov 11 2026. No macro, syntax, notation, axiom, sorry.
-/
import Derived.Test.YtanhmigknafhkaaDoorRows
import GoSem.ClaimSeven
namespace Go.Proofs.YtanhmigknafhkaaDoor
namespace Rows

/-- THE TIED CARD OF 'lookoutlaw08.FormulaSame'. -/
def formulaSameCard : Claim7 := { stood := { row := formulaSameRow, standIns := [], harness := (true, "0a8177dcfcd0da4aa4f2018c8c018a652bfb7fa69d43adaaa21341e33b936f00"), looks := true }, kinds := [], alts := [], laidByText := true, laidKinds := [.data, .data, .data, .data], laidTests := true, laidLooks := .later }
def FormulaSameCardSaid : Prop := Claim7.holds Tryd.pinned (.plain (OpenSpec.ofChange formulaSameSpec)) formulaSameCard

/-- THE TIED CARD OF 'lookoutlaw08.FormulaNodes'. -/
def formulaNodesCard : Claim7 := { stood := { row := formulaNodesRow, standIns := [], harness := (true, "0a8177dcfcd0da4aa4f2018c8c018a652bfb7fa69d43adaaa21341e33b936f00"), looks := true }, kinds := [], alts := [], laidByText := true, laidKinds := [.data, .data, .data, .data], laidTests := true, laidLooks := .later }
def FormulaNodesCardSaid : Prop := Claim7.holds Tryd.pinned (.plain (OpenSpec.ofChange formulaNodesSpec)) formulaNodesCard

/-- THE TIED CARD OF 'lookoutlaw10.ParseReads'. -/
def parseReadsCard : Claim7 := { stood := { row := parseReadsRow, standIns := [], harness := (true, "0a8177dcfcd0da4aa4f2018c8c018a652bfb7fa69d43adaaa21341e33b936f00"), looks := true }, kinds := [], alts := [], laidByText := true, laidKinds := [.data, .data, .data, .sentinel, .sentinel, .data], laidTests := true, laidLooks := .later }
def ParseReadsCardSaid : Prop := Claim7.holds Tryd.pinned (.plain (OpenSpec.ofChange parseReadsSpec)) parseReadsCard

/-- THE TIED CARD OF 'lookoutlaw10.ParseBlanks'. -/
def parseBlanksCard : Claim7 := { stood := { row := parseBlanksRow, standIns := [], harness := (true, "0a8177dcfcd0da4aa4f2018c8c018a652bfb7fa69d43adaaa21341e33b936f00"), looks := true }, kinds := [], alts := [], laidByText := true, laidKinds := [.data, .data, .data, .sentinel, .sentinel, .data], laidTests := true, laidLooks := .later }
def ParseBlanksCardSaid : Prop := Claim7.holds Tryd.pinned (.plain (OpenSpec.ofChange parseBlanksSpec)) parseBlanksCard

/-- THE TIED CARD OF 'lookoutlaw10.ParseParens'. -/
def parseParensCard : Claim7 := { stood := { row := parseParensRow, standIns := [], harness := (true, "0a8177dcfcd0da4aa4f2018c8c018a652bfb7fa69d43adaaa21341e33b936f00"), looks := true }, kinds := [], alts := [], laidByText := true, laidKinds := [.data, .data, .data, .sentinel, .sentinel, .data], laidTests := true, laidLooks := .later }
def ParseParensCardSaid : Prop := Claim7.holds Tryd.pinned (.plain (OpenSpec.ofChange parseParensSpec)) parseParensCard

/-- THE TIED CARD OF 'lookoutlaw10.ParseJoins'. -/
def parseJoinsCard : Claim7 := { stood := { row := parseJoinsRow, standIns := [], harness := (true, "0a8177dcfcd0da4aa4f2018c8c018a652bfb7fa69d43adaaa21341e33b936f00"), looks := true }, kinds := [], alts := [], laidByText := true, laidKinds := [.data, .data, .data, .sentinel, .sentinel, .data], laidTests := true, laidLooks := .later }
def ParseJoinsCardSaid : Prop := Claim7.holds Tryd.pinned (.plain (OpenSpec.ofChange parseJoinsSpec)) parseJoinsCard

/-- THE TIED CARD OF 'lookoutlaw10.ParseBack'. -/
def parseBackCard : Claim7 := { stood := { row := parseBackRow, standIns := [], harness := (true, "0a8177dcfcd0da4aa4f2018c8c018a652bfb7fa69d43adaaa21341e33b936f00"), looks := true }, kinds := [], alts := [], laidByText := true, laidKinds := [.data, .data, .data, .sentinel, .sentinel, .data], laidTests := true, laidLooks := .later }
def ParseBackCardSaid : Prop := Claim7.holds Tryd.pinned (.plain (OpenSpec.ofChange parseBackSpec)) parseBackCard

/-- THE TIED CARD OF 'lookoutlaw10.ParseShown'. -/
def parseShownCard : Claim7 := { stood := { row := parseShownRow, standIns := [], harness := (true, "0a8177dcfcd0da4aa4f2018c8c018a652bfb7fa69d43adaaa21341e33b936f00"), looks := true }, kinds := [], alts := [], laidByText := true, laidKinds := [.data, .data, .data, .sentinel, .sentinel, .data], laidTests := true, laidLooks := .later }
def ParseShownCardSaid : Prop := Claim7.holds Tryd.pinned (.plain (OpenSpec.ofChange parseShownSpec)) parseShownCard

/-- THE SECOND FORM's CARD OF 'lookoutlaw08.FormulaSame'. -/
def formulaSameUptoCard : Claim7 := { stood := { row := formulaSameUptoRow, standIns := [], harness := (true, "0a8177dcfcd0da4aa4f2018c8c018a652bfb7fa69d43adaaa21341e33b936f00"), looks := true }, kinds := [], alts := [], laidByText := true, laidKinds := [.data, .data, .data, .data], laidTests := true, laidLooks := .later }
def FormulaSameUptoCardSaid : Prop := Claim7.holds Tryd.pinned (.plain (OpenSpec.upto formulaSameSpec)) formulaSameUptoCard

/-- THE SECOND FORM's CARD OF 'lookoutlaw08.FormulaNodes'. -/
def formulaNodesUptoCard : Claim7 := { stood := { row := formulaNodesUptoRow, standIns := [], harness := (true, "0a8177dcfcd0da4aa4f2018c8c018a652bfb7fa69d43adaaa21341e33b936f00"), looks := true }, kinds := [], alts := [], laidByText := true, laidKinds := [.data, .data, .data, .data], laidTests := true, laidLooks := .later }
def FormulaNodesUptoCardSaid : Prop := Claim7.holds Tryd.pinned (.plain (OpenSpec.upto formulaNodesSpec)) formulaNodesUptoCard

/-- THE SECOND FORM's CARD OF 'lookoutlaw10.ParseReads'. -/
def parseReadsUptoCard : Claim7 := { stood := { row := parseReadsUptoRow, standIns := [], harness := (true, "0a8177dcfcd0da4aa4f2018c8c018a652bfb7fa69d43adaaa21341e33b936f00"), looks := true }, kinds := [], alts := [], laidByText := true, laidKinds := [.data, .data, .data, .sentinel, .sentinel, .data], laidTests := true, laidLooks := .later }
def ParseReadsUptoCardSaid : Prop := Claim7.holds Tryd.pinned (.plain (OpenSpec.upto parseReadsSpec)) parseReadsUptoCard

/-- THE SECOND FORM's CARD OF 'lookoutlaw10.ParseBlanks'. -/
def parseBlanksUptoCard : Claim7 := { stood := { row := parseBlanksUptoRow, standIns := [], harness := (true, "0a8177dcfcd0da4aa4f2018c8c018a652bfb7fa69d43adaaa21341e33b936f00"), looks := true }, kinds := [], alts := [], laidByText := true, laidKinds := [.data, .data, .data, .sentinel, .sentinel, .data], laidTests := true, laidLooks := .later }
def ParseBlanksUptoCardSaid : Prop := Claim7.holds Tryd.pinned (.plain (OpenSpec.upto parseBlanksSpec)) parseBlanksUptoCard

/-- THE SECOND FORM's CARD OF 'lookoutlaw10.ParseParens'. -/
def parseParensUptoCard : Claim7 := { stood := { row := parseParensUptoRow, standIns := [], harness := (true, "0a8177dcfcd0da4aa4f2018c8c018a652bfb7fa69d43adaaa21341e33b936f00"), looks := true }, kinds := [], alts := [], laidByText := true, laidKinds := [.data, .data, .data, .sentinel, .sentinel, .data], laidTests := true, laidLooks := .later }
def ParseParensUptoCardSaid : Prop := Claim7.holds Tryd.pinned (.plain (OpenSpec.upto parseParensSpec)) parseParensUptoCard

/-- THE SECOND FORM's CARD OF 'lookoutlaw10.ParseJoins'. -/
def parseJoinsUptoCard : Claim7 := { stood := { row := parseJoinsUptoRow, standIns := [], harness := (true, "0a8177dcfcd0da4aa4f2018c8c018a652bfb7fa69d43adaaa21341e33b936f00"), looks := true }, kinds := [], alts := [], laidByText := true, laidKinds := [.data, .data, .data, .sentinel, .sentinel, .data], laidTests := true, laidLooks := .later }
def ParseJoinsUptoCardSaid : Prop := Claim7.holds Tryd.pinned (.plain (OpenSpec.upto parseJoinsSpec)) parseJoinsUptoCard

/-- THE SECOND FORM's CARD OF 'lookoutlaw10.ParseBack'. -/
def parseBackUptoCard : Claim7 := { stood := { row := parseBackUptoRow, standIns := [], harness := (true, "0a8177dcfcd0da4aa4f2018c8c018a652bfb7fa69d43adaaa21341e33b936f00"), looks := true }, kinds := [], alts := [], laidByText := true, laidKinds := [.data, .data, .data, .sentinel, .sentinel, .data], laidTests := true, laidLooks := .later }
def ParseBackUptoCardSaid : Prop := Claim7.holds Tryd.pinned (.plain (OpenSpec.upto parseBackSpec)) parseBackUptoCard

/-- THE SECOND FORM's CARD OF 'lookoutlaw10.ParseShown'. -/
def parseShownUptoCard : Claim7 := { stood := { row := parseShownUptoRow, standIns := [], harness := (true, "0a8177dcfcd0da4aa4f2018c8c018a652bfb7fa69d43adaaa21341e33b936f00"), looks := true }, kinds := [], alts := [], laidByText := true, laidKinds := [.data, .data, .data, .sentinel, .sentinel, .data], laidTests := true, laidLooks := .later }
def ParseShownUptoCardSaid : Prop := Claim7.holds Tryd.pinned (.plain (OpenSpec.upto parseShownSpec)) parseShownUptoCard
end Rows
end Go.Proofs.YtanhmigknafhkaaDoor
