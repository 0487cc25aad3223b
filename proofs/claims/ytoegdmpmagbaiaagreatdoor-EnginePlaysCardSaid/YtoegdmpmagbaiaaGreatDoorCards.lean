/-
  DERIVED. GIVEN WITH THE SEED: THE CARDS: each row of YtoegdmpmagbaiaaGreatDoorRows.lean that lists a variable, with what it lists TIED to the program's text (the seventh form; the later family's looks); each row that meets fmt, with fmt's text TOLD by the authors' own Lean function (tested against real Go, not proved from fmt's source: count such statements apart). THE CARD IS WHAT COUNTS. Prove the row's statement (the work); the ties are given (YtoegdmpmagbaiaaGreatDoorTie.lean); close each card by the builder's one call (the guide's Derived/Test/ToyasCard.lean, 'card_holds'). Laid BY PROGRAM, IN A SANDBOX (cutbox-door.mjs). By AI agents, Wed Nov 11 2026. No macro, syntax, notation, axiom, sorry.
-/
import Derived.Test.YtoegdmpmagbaiaaGreatDoorRows
import GoSem.ClaimSeven
namespace Go.Proofs.YtoegdmpmagbaiaaGreatDoor
namespace Rows

/-- THE TIED CARD OF 'lookoutlaw23.EnginePlays'. -/
def enginePlaysCard : Claim7 := { stood := { row := enginePlaysRow, standIns := [], harness := (true, "b79dc21cb0fcd9b1df65f18e805d500b3f2b5d8f9201210d8e0d5c08ee3bcfe1"), looks := false }, kinds := [], alts := [], laidByText := true, laidKinds := [.data, .data, .data, .data], laidTests := true, laidLooks := .later }
def EnginePlaysCardSaid : Prop := Claim7.holds Tryz.pinned (.plain (OpenSpec.ofChange enginePlaysSpec)) enginePlaysCard

/-- THE TIED CARD OF 'lookoutlaw23.EngineFinal'. -/
def engineFinalCard : Claim7 := { stood := { row := engineFinalRow, standIns := [], harness := (true, "b79dc21cb0fcd9b1df65f18e805d500b3f2b5d8f9201210d8e0d5c08ee3bcfe1"), looks := false }, kinds := [], alts := [], laidByText := true, laidKinds := [.data, .data, .data, .data], laidTests := true, laidLooks := .later }
def EngineFinalCardSaid : Prop := Claim7.holds Tryz.pinned (.plain (OpenSpec.ofChange engineFinalSpec)) engineFinalCard

/-- THE TIED CARD OF 'lookoutlaw23.EngineLate'. -/
def engineLateCard : Claim7 := { stood := { row := engineLateRow, standIns := [], harness := (true, "b79dc21cb0fcd9b1df65f18e805d500b3f2b5d8f9201210d8e0d5c08ee3bcfe1"), looks := false }, kinds := [], alts := [], laidByText := true, laidKinds := [.data, .data, .data, .data], laidTests := true, laidLooks := .later }
def EngineLateCardSaid : Prop := Claim7.holds Tryz.pinned (.plain (OpenSpec.ofChange engineLateSpec)) engineLateCard

/-- THE TIED CARD OF 'lookoutlaw23.EngineAll'. -/
def engineAllCard : Claim7 := { stood := { row := engineAllRow, standIns := [], harness := (true, "b79dc21cb0fcd9b1df65f18e805d500b3f2b5d8f9201210d8e0d5c08ee3bcfe1"), looks := false }, kinds := [], alts := [], laidByText := true, laidKinds := [.data, .data, .data, .data], laidTests := true, laidLooks := .later }
def EngineAllCardSaid : Prop := Claim7.holds Tryz.pinned (.plain (OpenSpec.ofChange engineAllSpec)) engineAllCard

/-- THE TIED CARD OF 'lookoutlaw23.EngineDue'. -/
def engineDueCard : Claim7 := { stood := { row := engineDueRow, standIns := [], harness := (true, "b79dc21cb0fcd9b1df65f18e805d500b3f2b5d8f9201210d8e0d5c08ee3bcfe1"), looks := false }, kinds := [], alts := [], laidByText := true, laidKinds := [.data, .data, .data, .data], laidTests := true, laidLooks := .later }
def EngineDueCardSaid : Prop := Claim7.holds Tryz.pinned (.plain (OpenSpec.ofChange engineDueSpec)) engineDueCard

/-- THE SECOND FORM's CARD OF 'lookoutlaw23.EnginePlays'. -/
def enginePlaysUptoCard : Claim7 := { stood := { row := enginePlaysUptoRow, standIns := [], harness := (true, "b79dc21cb0fcd9b1df65f18e805d500b3f2b5d8f9201210d8e0d5c08ee3bcfe1"), looks := false }, kinds := [], alts := [], laidByText := true, laidKinds := [.data, .data, .data, .data], laidTests := true, laidLooks := .later }
def EnginePlaysUptoCardSaid : Prop := Claim7.holds Tryz.pinned (.plain (OpenSpec.upto enginePlaysSpec)) enginePlaysUptoCard

/-- THE SECOND FORM's CARD OF 'lookoutlaw23.EngineFinal'. -/
def engineFinalUptoCard : Claim7 := { stood := { row := engineFinalUptoRow, standIns := [], harness := (true, "b79dc21cb0fcd9b1df65f18e805d500b3f2b5d8f9201210d8e0d5c08ee3bcfe1"), looks := false }, kinds := [], alts := [], laidByText := true, laidKinds := [.data, .data, .data, .data], laidTests := true, laidLooks := .later }
def EngineFinalUptoCardSaid : Prop := Claim7.holds Tryz.pinned (.plain (OpenSpec.upto engineFinalSpec)) engineFinalUptoCard

/-- THE SECOND FORM's CARD OF 'lookoutlaw23.EngineLate'. -/
def engineLateUptoCard : Claim7 := { stood := { row := engineLateUptoRow, standIns := [], harness := (true, "b79dc21cb0fcd9b1df65f18e805d500b3f2b5d8f9201210d8e0d5c08ee3bcfe1"), looks := false }, kinds := [], alts := [], laidByText := true, laidKinds := [.data, .data, .data, .data], laidTests := true, laidLooks := .later }
def EngineLateUptoCardSaid : Prop := Claim7.holds Tryz.pinned (.plain (OpenSpec.upto engineLateSpec)) engineLateUptoCard

/-- THE SECOND FORM's CARD OF 'lookoutlaw23.EngineAll'. -/
def engineAllUptoCard : Claim7 := { stood := { row := engineAllUptoRow, standIns := [], harness := (true, "b79dc21cb0fcd9b1df65f18e805d500b3f2b5d8f9201210d8e0d5c08ee3bcfe1"), looks := false }, kinds := [], alts := [], laidByText := true, laidKinds := [.data, .data, .data, .data], laidTests := true, laidLooks := .later }
def EngineAllUptoCardSaid : Prop := Claim7.holds Tryz.pinned (.plain (OpenSpec.upto engineAllSpec)) engineAllUptoCard

/-- THE SECOND FORM's CARD OF 'lookoutlaw23.EngineDue'. -/
def engineDueUptoCard : Claim7 := { stood := { row := engineDueUptoRow, standIns := [], harness := (true, "b79dc21cb0fcd9b1df65f18e805d500b3f2b5d8f9201210d8e0d5c08ee3bcfe1"), looks := false }, kinds := [], alts := [], laidByText := true, laidKinds := [.data, .data, .data, .data], laidTests := true, laidLooks := .later }
def EngineDueUptoCardSaid : Prop := Claim7.holds Tryz.pinned (.plain (OpenSpec.upto engineDueSpec)) engineDueUptoCard
end Rows
end Go.Proofs.YtoegdmpmagbaiaaGreatDoor
