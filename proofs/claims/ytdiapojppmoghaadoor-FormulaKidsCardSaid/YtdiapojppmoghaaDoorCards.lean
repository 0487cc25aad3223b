/-
  DERIVED. GIVEN WITH THE SEED: THE CARDS: each row of YtdiapojppmoghaaDoorRows.lean that lists a variable, with what it lists TIED to the program's text (the seventh form; the later family's looks); each row that meets fmt, with fmt's text TOLD by the authors' own Lean function (tested against real Go, not proved from fmt's source: count such statements apart). THE CARD IS WHAT COUNTS. Prove the row's statement (the work); the ties are given (YtdiapojppmoghaaDoorTie.lean); close each card by the builder's one call (the guide's Derived/Test/ToyasCard.lean, 'card_holds'). Laid BY PROGRAM, IN A SANDBOX (cutbox-door.mjs). By AI agents, Wed Nov 11 2026. No macro, syntax, notation, axiom, sorry.
-/
import Derived.Test.YtdiapojppmoghaaDoorRows
import GoSem.ClaimSeven
namespace Go.Proofs.YtdiapojppmoghaaDoor
namespace Rows

/-- THE TIED CARD OF 'lookoutlaw08.FormulaChecks'. -/
def formulaChecksCard : Claim7 := { stood := { row := formulaChecksRow, standIns := [], harness := (true, "ffe5dd79df9ff7f9fa4dfd7bf7962e72d533a092830c6adbd9968f26d9ce23bc"), looks := false }, kinds := [], alts := [], laidByText := true, laidKinds := [.data, .data, .data, .data], laidTests := true, laidLooks := .later }
def FormulaChecksCardSaid : Prop := Claim7.holds Tryd.pinned (.plain (OpenSpec.ofChange formulaChecksSpec)) formulaChecksCard

/-- THE TIED CARD OF 'lookoutlaw08.FormulaShows'. -/
def formulaShowsCard : Claim7 := { stood := { row := formulaShowsRow, standIns := [], harness := (true, "ffe5dd79df9ff7f9fa4dfd7bf7962e72d533a092830c6adbd9968f26d9ce23bc"), looks := false }, kinds := [], alts := [], laidByText := true, laidKinds := [.data, .data, .data, .data], laidTests := true, laidLooks := .later }
def FormulaShowsCardSaid : Prop := Claim7.holds Tryd.pinned (.plain (OpenSpec.ofChange formulaShowsSpec)) formulaShowsCard

/-- THE TIED CARD OF 'lookoutlaw08.FormulaSame'. -/
def formulaSameCard : Claim7 := { stood := { row := formulaSameRow, standIns := [], harness := (true, "ffe5dd79df9ff7f9fa4dfd7bf7962e72d533a092830c6adbd9968f26d9ce23bc"), looks := false }, kinds := [], alts := [], laidByText := true, laidKinds := [.data, .data, .data, .data], laidTests := true, laidLooks := .later }
def FormulaSameCardSaid : Prop := Claim7.holds Tryd.pinned (.plain (OpenSpec.ofChange formulaSameSpec)) formulaSameCard

/-- THE TIED CARD OF 'lookoutlaw08.FormulaKids'. -/
def formulaKidsCard : Claim7 := { stood := { row := formulaKidsRow, standIns := [], harness := (true, "ffe5dd79df9ff7f9fa4dfd7bf7962e72d533a092830c6adbd9968f26d9ce23bc"), looks := false }, kinds := [], alts := [], laidByText := true, laidKinds := [.data, .data, .data, .data], laidTests := true, laidLooks := .later }
def FormulaKidsCardSaid : Prop := Claim7.holds Tryd.pinned (.plain (OpenSpec.ofChange formulaKidsSpec)) formulaKidsCard

/-- THE TIED CARD OF 'lookoutlaw08.FormulaNodes'. -/
def formulaNodesCard : Claim7 := { stood := { row := formulaNodesRow, standIns := [], harness := (true, "ffe5dd79df9ff7f9fa4dfd7bf7962e72d533a092830c6adbd9968f26d9ce23bc"), looks := false }, kinds := [], alts := [], laidByText := true, laidKinds := [.data, .data, .data, .data], laidTests := true, laidLooks := .later }
def FormulaNodesCardSaid : Prop := Claim7.holds Tryd.pinned (.plain (OpenSpec.ofChange formulaNodesSpec)) formulaNodesCard

/-- THE SECOND FORM's CARD OF 'lookoutlaw08.FormulaChecks'. -/
def formulaChecksUptoCard : Claim7 := { stood := { row := formulaChecksUptoRow, standIns := [], harness := (true, "ffe5dd79df9ff7f9fa4dfd7bf7962e72d533a092830c6adbd9968f26d9ce23bc"), looks := false }, kinds := [], alts := [], laidByText := true, laidKinds := [.data, .data, .data, .data], laidTests := true, laidLooks := .later }
def FormulaChecksUptoCardSaid : Prop := Claim7.holds Tryd.pinned (.plain (OpenSpec.upto formulaChecksSpec)) formulaChecksUptoCard

/-- THE SECOND FORM's CARD OF 'lookoutlaw08.FormulaShows'. -/
def formulaShowsUptoCard : Claim7 := { stood := { row := formulaShowsUptoRow, standIns := [], harness := (true, "ffe5dd79df9ff7f9fa4dfd7bf7962e72d533a092830c6adbd9968f26d9ce23bc"), looks := false }, kinds := [], alts := [], laidByText := true, laidKinds := [.data, .data, .data, .data], laidTests := true, laidLooks := .later }
def FormulaShowsUptoCardSaid : Prop := Claim7.holds Tryd.pinned (.plain (OpenSpec.upto formulaShowsSpec)) formulaShowsUptoCard

/-- THE SECOND FORM's CARD OF 'lookoutlaw08.FormulaSame'. -/
def formulaSameUptoCard : Claim7 := { stood := { row := formulaSameUptoRow, standIns := [], harness := (true, "ffe5dd79df9ff7f9fa4dfd7bf7962e72d533a092830c6adbd9968f26d9ce23bc"), looks := false }, kinds := [], alts := [], laidByText := true, laidKinds := [.data, .data, .data, .data], laidTests := true, laidLooks := .later }
def FormulaSameUptoCardSaid : Prop := Claim7.holds Tryd.pinned (.plain (OpenSpec.upto formulaSameSpec)) formulaSameUptoCard

/-- THE SECOND FORM's CARD OF 'lookoutlaw08.FormulaKids'. -/
def formulaKidsUptoCard : Claim7 := { stood := { row := formulaKidsUptoRow, standIns := [], harness := (true, "ffe5dd79df9ff7f9fa4dfd7bf7962e72d533a092830c6adbd9968f26d9ce23bc"), looks := false }, kinds := [], alts := [], laidByText := true, laidKinds := [.data, .data, .data, .data], laidTests := true, laidLooks := .later }
def FormulaKidsUptoCardSaid : Prop := Claim7.holds Tryd.pinned (.plain (OpenSpec.upto formulaKidsSpec)) formulaKidsUptoCard

/-- THE SECOND FORM's CARD OF 'lookoutlaw08.FormulaNodes'. -/
def formulaNodesUptoCard : Claim7 := { stood := { row := formulaNodesUptoRow, standIns := [], harness := (true, "ffe5dd79df9ff7f9fa4dfd7bf7962e72d533a092830c6adbd9968f26d9ce23bc"), looks := false }, kinds := [], alts := [], laidByText := true, laidKinds := [.data, .data, .data, .data], laidTests := true, laidLooks := .later }
def FormulaNodesUptoCardSaid : Prop := Claim7.holds Tryd.pinned (.plain (OpenSpec.upto formulaNodesSpec)) formulaNodesUptoCard
end Rows
end Go.Proofs.YtdiapojppmoghaaDoor
