/-
  DERIVED. GIVEN WITH THE SEED: THE CARDS: each row of YtidhlfcmjpnhgaaGreatDoorRows.lean that lists a variable, with what it lists TIED to the program's text (the seventh form; the later family's looks); each row that meets fmt, with fmt's text TOLD by the authors' own Lean function (tested against real Go, not proved from fmt's source: count such statements apart). THE CARD IS WHAT COUNTS. Prove the row's statement (the work); the ties are given (YtidhlfcmjpnhgaaGreatDoorTie.lean); close each card by the builder's one call (the guide's Derived/Test/ToyasCard.lean, 'card_holds'). Laid BY PROGRAM, IN A SANDBOX (cutbox-door.mjs). By AI agents, Wed Nov 11 2026. No macro, syntax, notation, axiom, sorry.
-/
import Derived.Test.YtidhlfcmjpnhgaaGreatDoorRows
import GoSem.ClaimSeven
namespace Go.Proofs.YtidhlfcmjpnhgaaGreatDoor
namespace Rows

/-- THE TIED CARD OF 'lookoutlaw27.ScriptReads'. -/
def scriptReadsCard : Claim7 := { stood := { row := scriptReadsRow, standIns := [], harness := (true, "65d3924f9354497b6e26f6a1a3ce47f2df51ed8aa1a37e8f6f55d7c85ac7eb9b"), looks := true }, kinds := [], alts := [], laidByText := true, laidKinds := [.data, .data, .data, .data, .data, .sentinel, .sentinel, .pinned], laidTests := true, laidLooks := .later }
def ScriptReadsCardSaid : Prop := Claim7.holds Tryz.pinned (.plain (OpenSpec.ofChange scriptReadsSpec)) scriptReadsCard

/-- THE TIED CARD OF 'lookoutlaw27.ScriptLines'. -/
def scriptLinesCard : Claim7 := { stood := { row := scriptLinesRow, standIns := [], harness := (true, "65d3924f9354497b6e26f6a1a3ce47f2df51ed8aa1a37e8f6f55d7c85ac7eb9b"), looks := true }, kinds := [], alts := [], laidByText := true, laidKinds := [.data, .data, .data, .data, .data, .sentinel, .sentinel, .pinned], laidTests := true, laidLooks := .later }
def ScriptLinesCardSaid : Prop := Claim7.holds Tryz.pinned (.plain (OpenSpec.ofChange scriptLinesSpec)) scriptLinesCard

/-- THE TIED CARD OF 'lookoutlaw27.ScriptSays'. -/
def scriptSaysCard : Claim7 := { stood := { row := scriptSaysRow, standIns := [], harness := (true, "65d3924f9354497b6e26f6a1a3ce47f2df51ed8aa1a37e8f6f55d7c85ac7eb9b"), looks := true }, kinds := [], alts := [], laidByText := true, laidKinds := [.data, .data, .data, .data, .data, .sentinel, .sentinel, .pinned], laidTests := true, laidLooks := .later }
def ScriptSaysCardSaid : Prop := Claim7.holds Tryz.pinned (.plain (OpenSpec.ofChange scriptSaysSpec)) scriptSaysCard

/-- THE SECOND FORM's CARD OF 'lookoutlaw27.ScriptReads'. -/
def scriptReadsUptoCard : Claim7 := { stood := { row := scriptReadsUptoRow, standIns := [], harness := (true, "65d3924f9354497b6e26f6a1a3ce47f2df51ed8aa1a37e8f6f55d7c85ac7eb9b"), looks := true }, kinds := [], alts := [], laidByText := true, laidKinds := [.data, .data, .data, .data, .data, .sentinel, .sentinel, .pinned], laidTests := true, laidLooks := .later }
def ScriptReadsUptoCardSaid : Prop := Claim7.holds Tryz.pinned (.plain (OpenSpec.upto scriptReadsSpec)) scriptReadsUptoCard

/-- THE SECOND FORM's CARD OF 'lookoutlaw27.ScriptLines'. -/
def scriptLinesUptoCard : Claim7 := { stood := { row := scriptLinesUptoRow, standIns := [], harness := (true, "65d3924f9354497b6e26f6a1a3ce47f2df51ed8aa1a37e8f6f55d7c85ac7eb9b"), looks := true }, kinds := [], alts := [], laidByText := true, laidKinds := [.data, .data, .data, .data, .data, .sentinel, .sentinel, .pinned], laidTests := true, laidLooks := .later }
def ScriptLinesUptoCardSaid : Prop := Claim7.holds Tryz.pinned (.plain (OpenSpec.upto scriptLinesSpec)) scriptLinesUptoCard

/-- THE SECOND FORM's CARD OF 'lookoutlaw27.ScriptSays'. -/
def scriptSaysUptoCard : Claim7 := { stood := { row := scriptSaysUptoRow, standIns := [], harness := (true, "65d3924f9354497b6e26f6a1a3ce47f2df51ed8aa1a37e8f6f55d7c85ac7eb9b"), looks := true }, kinds := [], alts := [], laidByText := true, laidKinds := [.data, .data, .data, .data, .data, .sentinel, .sentinel, .pinned], laidTests := true, laidLooks := .later }
def ScriptSaysUptoCardSaid : Prop := Claim7.holds Tryz.pinned (.plain (OpenSpec.upto scriptSaysSpec)) scriptSaysUptoCard
end Rows
end Go.Proofs.YtidhlfcmjpnhgaaGreatDoor
