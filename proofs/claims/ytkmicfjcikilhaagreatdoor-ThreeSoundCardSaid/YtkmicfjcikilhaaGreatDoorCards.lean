/-
  DERIVED. GIVEN WITH THE SEED: THE CARDS: each row of YtkmicfjcikilhaaGreatDoorRows.lean that lists a variable, with what it lists TIED to the program's text (the seventh form; the later family's looks); each row that meets fmt, with fmt's text TOLD by the authors' own Lean function (tested against real Go, not proved from fmt's source: count such statements apart). THE CARD IS WHAT COUNTS. Prove the row's statement (the work); the ties are given (YtkmicfjcikilhaaGreatDoorTie.lean); close each card by the builder's one call (the guide's Derived/Test/ToyasCard.lean, 'card_holds'). Laid BY PROGRAM, IN A SANDBOX (cutbox-door.mjs). By AI agents, Wed Nov 11 2026. No macro, syntax, notation, axiom, sorry.
-/
import Derived.Test.YtkmicfjcikilhaaGreatDoorRows
import GoSem.ClaimSeven
namespace Go.Proofs.YtkmicfjcikilhaaGreatDoor
namespace Rows

/-- THE TIED CARD OF 'lookoutlaw15.ThreeSound'. -/
def threeSoundCard : Claim7 := { stood := { row := threeSoundRow, standIns := [], harness := (true, "e51ea457b1d4835e931b25d7ab282356f793c51aecd34519bc1a6ee2f412c3be"), looks := false }, kinds := [], alts := [], laidByText := true, laidKinds := [.data, .data, .data, .data], laidTests := true, laidLooks := .later }
def ThreeSoundCardSaid : Prop := Claim7.holds Tryz.pinned (.plain (OpenSpec.ofChange threeSoundSpec)) threeSoundCard

/-- THE SECOND FORM's CARD OF 'lookoutlaw15.ThreeSound'. -/
def threeSoundUptoCard : Claim7 := { stood := { row := threeSoundUptoRow, standIns := [], harness := (true, "e51ea457b1d4835e931b25d7ab282356f793c51aecd34519bc1a6ee2f412c3be"), looks := false }, kinds := [], alts := [], laidByText := true, laidKinds := [.data, .data, .data, .data], laidTests := true, laidLooks := .later }
def ThreeSoundUptoCardSaid : Prop := Claim7.holds Tryz.pinned (.plain (OpenSpec.upto threeSoundSpec)) threeSoundUptoCard
end Rows
end Go.Proofs.YtkmicfjcikilhaaGreatDoor
