/-
  DERIVED. GIVEN WITH THE SEED: THE CARDS: each row of YtkmicfjcikilhaaDoorRows.lean that lists a variable, with what it lists TIED to the program's text (the seventh form; the later family's looks); each row that meets fmt, with fmt's text TOLD by the authors' own Lean function (tested against real Go, not proved from fmt's source: count such statements apart). THE CARD IS WHAT COUNTS. Prove the row's statement (the work); the ties are given (YtkmicfjcikilhaaDoorTie.lean); close each card by the builder's one call (the guide's Derived/Test/ToyasCard.lean, 'card_holds'). Laid BY PROGRAM, IN A SANDBOX (cutbox-door.mjs). By AI agents, Wed Nov 11 2026. No macro, syntax, notation, axiom, sorry.
-/
import Derived.Test.YtkmicfjcikilhaaDoorRows
import GoSem.ClaimSeven
namespace Go.Proofs.YtkmicfjcikilhaaDoor
namespace Rows

/-- THE TIED CARD OF 'lookoutlaw15.ThreeRows'. -/
def threeRowsCard : Claim7 := { stood := { row := threeRowsRow, standIns := [], harness := (true, "80d70ccfab68465697476b2079b993017b1c283859092195ae200dbc245b2947"), looks := false }, kinds := [], alts := [], laidByText := true, laidKinds := [.data, .data, .data, .data], laidTests := true, laidLooks := .later }
def ThreeRowsCardSaid : Prop := Claim7.holds Tryd.pinned (.plain (OpenSpec.ofChange threeRowsSpec)) threeRowsCard

/-- THE TIED CARD OF 'lookoutlaw15.ThreeLast'. -/
def threeLastCard : Claim7 := { stood := { row := threeLastRow, standIns := [], harness := (true, "80d70ccfab68465697476b2079b993017b1c283859092195ae200dbc245b2947"), looks := false }, kinds := [], alts := [], laidByText := true, laidKinds := [.data, .data, .data, .data], laidTests := true, laidLooks := .later }
def ThreeLastCardSaid : Prop := Claim7.holds Tryd.pinned (.plain (OpenSpec.ofChange threeLastSpec)) threeLastCard

/-- THE TIED CARD OF 'lookoutlaw15.ThreeWhole'. -/
def threeWholeCard : Claim7 := { stood := { row := threeWholeRow, standIns := [], harness := (true, "80d70ccfab68465697476b2079b993017b1c283859092195ae200dbc245b2947"), looks := false }, kinds := [], alts := [], laidByText := true, laidKinds := [.data, .data, .data, .data], laidTests := true, laidLooks := .later }
def ThreeWholeCardSaid : Prop := Claim7.holds Tryd.pinned (.plain (OpenSpec.ofChange threeWholeSpec)) threeWholeCard

/-- THE TIED CARD OF 'lookoutlaw15.ThreeGrows'. -/
def threeGrowsCard : Claim7 := { stood := { row := threeGrowsRow, standIns := [], harness := (true, "80d70ccfab68465697476b2079b993017b1c283859092195ae200dbc245b2947"), looks := false }, kinds := [], alts := [], laidByText := true, laidKinds := [.data, .data, .data, .data], laidTests := true, laidLooks := .later }
def ThreeGrowsCardSaid : Prop := Claim7.holds Tryd.pinned (.plain (OpenSpec.ofChange threeGrowsSpec)) threeGrowsCard

/-- THE TIED CARD OF 'lookoutlaw08.FormulaNodes'. -/
def formulaNodesCard : Claim7 := { stood := { row := formulaNodesRow, standIns := [], harness := (true, "80d70ccfab68465697476b2079b993017b1c283859092195ae200dbc245b2947"), looks := false }, kinds := [], alts := [], laidByText := true, laidKinds := [.data, .data, .data, .data], laidTests := true, laidLooks := .later }
def FormulaNodesCardSaid : Prop := Claim7.holds Tryd.pinned (.plain (OpenSpec.ofChange formulaNodesSpec)) formulaNodesCard

/-- THE SECOND FORM's CARD OF 'lookoutlaw15.ThreeRows'. -/
def threeRowsUptoCard : Claim7 := { stood := { row := threeRowsUptoRow, standIns := [], harness := (true, "80d70ccfab68465697476b2079b993017b1c283859092195ae200dbc245b2947"), looks := false }, kinds := [], alts := [], laidByText := true, laidKinds := [.data, .data, .data, .data], laidTests := true, laidLooks := .later }
def ThreeRowsUptoCardSaid : Prop := Claim7.holds Tryd.pinned (.plain (OpenSpec.upto threeRowsSpec)) threeRowsUptoCard

/-- THE SECOND FORM's CARD OF 'lookoutlaw15.ThreeLast'. -/
def threeLastUptoCard : Claim7 := { stood := { row := threeLastUptoRow, standIns := [], harness := (true, "80d70ccfab68465697476b2079b993017b1c283859092195ae200dbc245b2947"), looks := false }, kinds := [], alts := [], laidByText := true, laidKinds := [.data, .data, .data, .data], laidTests := true, laidLooks := .later }
def ThreeLastUptoCardSaid : Prop := Claim7.holds Tryd.pinned (.plain (OpenSpec.upto threeLastSpec)) threeLastUptoCard

/-- THE SECOND FORM's CARD OF 'lookoutlaw15.ThreeWhole'. -/
def threeWholeUptoCard : Claim7 := { stood := { row := threeWholeUptoRow, standIns := [], harness := (true, "80d70ccfab68465697476b2079b993017b1c283859092195ae200dbc245b2947"), looks := false }, kinds := [], alts := [], laidByText := true, laidKinds := [.data, .data, .data, .data], laidTests := true, laidLooks := .later }
def ThreeWholeUptoCardSaid : Prop := Claim7.holds Tryd.pinned (.plain (OpenSpec.upto threeWholeSpec)) threeWholeUptoCard

/-- THE SECOND FORM's CARD OF 'lookoutlaw15.ThreeGrows'. -/
def threeGrowsUptoCard : Claim7 := { stood := { row := threeGrowsUptoRow, standIns := [], harness := (true, "80d70ccfab68465697476b2079b993017b1c283859092195ae200dbc245b2947"), looks := false }, kinds := [], alts := [], laidByText := true, laidKinds := [.data, .data, .data, .data], laidTests := true, laidLooks := .later }
def ThreeGrowsUptoCardSaid : Prop := Claim7.holds Tryd.pinned (.plain (OpenSpec.upto threeGrowsSpec)) threeGrowsUptoCard

/-- THE SECOND FORM's CARD OF 'lookoutlaw08.FormulaNodes'. -/
def formulaNodesUptoCard : Claim7 := { stood := { row := formulaNodesUptoRow, standIns := [], harness := (true, "80d70ccfab68465697476b2079b993017b1c283859092195ae200dbc245b2947"), looks := false }, kinds := [], alts := [], laidByText := true, laidKinds := [.data, .data, .data, .data], laidTests := true, laidLooks := .later }
def FormulaNodesUptoCardSaid : Prop := Claim7.holds Tryd.pinned (.plain (OpenSpec.upto formulaNodesSpec)) formulaNodesUptoCard
end Rows
end Go.Proofs.YtkmicfjcikilhaaDoor
