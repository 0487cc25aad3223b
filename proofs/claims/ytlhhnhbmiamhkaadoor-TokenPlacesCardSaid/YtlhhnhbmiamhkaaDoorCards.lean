/-
  DERIVED. GIVEN WITH THE SEED: THE CARDS: each row of YtlhhnhbmiamhkaaDoorRows.lean that lists a variable, with what it lists TIED to the program's text (the seventh form; the later family's looks); each row that meets fmt, with fmt's text TOLD by the authors' own Lean function (tested against real Go, not proved from fmt's source: count such statements apart). THE CARD IS WHAT COUNTS. Prove the row's statement (the work); the ties are given (YtlhhnhbmiamhkaaDoorTie.lean); close each card by the builder's one call (the guide's Derived/Test/ToyasCard.lean, 'card_holds'). Laid BY PROGRAM, IN A SANDBOX (cutbox-door.mjs). By AI agents, Wed Nov 11 2026. No macro, syntax, notation, axiom, sorry.
-/
import Derived.Test.YtlhhnhbmiamhkaaDoorRows
import GoSem.ClaimSeven
namespace Go.Proofs.YtlhhnhbmiamhkaaDoor
namespace Rows

/-- THE TIED CARD OF 'lookoutlaw09.TokenReads'. -/
def tokenReadsCard : Claim7 := { stood := { row := tokenReadsRow, standIns := [], harness := (true, "21e176cae73ee8e6f907d52409640c67b9a1a2f7f0611cde78efe5ffd68a7bf1"), looks := true }, kinds := [], alts := [], laidByText := true, laidKinds := [.data, .data, .data, .sentinel, .sentinel], laidTests := true, laidLooks := .later }
def TokenReadsCardSaid : Prop := Claim7.holds Tryd.pinned (.plain (OpenSpec.ofChange tokenReadsSpec)) tokenReadsCard

/-- THE TIED CARD OF 'lookoutlaw09.TokenPlaces'. -/
def tokenPlacesCard : Claim7 := { stood := { row := tokenPlacesRow, standIns := [], harness := (true, "21e176cae73ee8e6f907d52409640c67b9a1a2f7f0611cde78efe5ffd68a7bf1"), looks := true }, kinds := [], alts := [], laidByText := true, laidKinds := [.data, .data, .data, .sentinel, .sentinel], laidTests := true, laidLooks := .later }
def TokenPlacesCardSaid : Prop := Claim7.holds Tryd.pinned (.plain (OpenSpec.ofChange tokenPlacesSpec)) tokenPlacesCard

/-- THE TIED CARD OF 'lookoutlaw09.TokenTwo'. -/
def tokenTwoCard : Claim7 := { stood := { row := tokenTwoRow, standIns := [], harness := (true, "21e176cae73ee8e6f907d52409640c67b9a1a2f7f0611cde78efe5ffd68a7bf1"), looks := true }, kinds := [], alts := [], laidByText := true, laidKinds := [.data, .data, .data, .sentinel, .sentinel], laidTests := true, laidLooks := .later }
def TokenTwoCardSaid : Prop := Claim7.holds Tryd.pinned (.plain (OpenSpec.ofChange tokenTwoSpec)) tokenTwoCard

/-- THE TIED CARD OF 'lookoutlaw09.TokenNumbers'. -/
def tokenNumbersCard : Claim7 := { stood := { row := tokenNumbersRow, standIns := [], harness := (true, "21e176cae73ee8e6f907d52409640c67b9a1a2f7f0611cde78efe5ffd68a7bf1"), looks := true }, kinds := [], alts := [], laidByText := true, laidKinds := [.data, .data, .data, .sentinel, .sentinel], laidTests := true, laidLooks := .later }
def TokenNumbersCardSaid : Prop := Claim7.holds Tryd.pinned (.plain (OpenSpec.ofChange tokenNumbersSpec)) tokenNumbersCard

/-- THE TIED CARD OF 'lookoutlaw09.TokenAlone'. -/
def tokenAloneCard : Claim7 := { stood := { row := tokenAloneRow, standIns := [], harness := (true, "21e176cae73ee8e6f907d52409640c67b9a1a2f7f0611cde78efe5ffd68a7bf1"), looks := true }, kinds := [], alts := [], laidByText := true, laidKinds := [.data, .data, .data, .sentinel, .sentinel], laidTests := true, laidLooks := .later }
def TokenAloneCardSaid : Prop := Claim7.holds Tryd.pinned (.plain (OpenSpec.ofChange tokenAloneSpec)) tokenAloneCard

/-- THE SECOND FORM's CARD OF 'lookoutlaw09.TokenReads'. -/
def tokenReadsUptoCard : Claim7 := { stood := { row := tokenReadsUptoRow, standIns := [], harness := (true, "21e176cae73ee8e6f907d52409640c67b9a1a2f7f0611cde78efe5ffd68a7bf1"), looks := true }, kinds := [], alts := [], laidByText := true, laidKinds := [.data, .data, .data, .sentinel, .sentinel], laidTests := true, laidLooks := .later }
def TokenReadsUptoCardSaid : Prop := Claim7.holds Tryd.pinned (.plain (OpenSpec.upto tokenReadsSpec)) tokenReadsUptoCard

/-- THE SECOND FORM's CARD OF 'lookoutlaw09.TokenPlaces'. -/
def tokenPlacesUptoCard : Claim7 := { stood := { row := tokenPlacesUptoRow, standIns := [], harness := (true, "21e176cae73ee8e6f907d52409640c67b9a1a2f7f0611cde78efe5ffd68a7bf1"), looks := true }, kinds := [], alts := [], laidByText := true, laidKinds := [.data, .data, .data, .sentinel, .sentinel], laidTests := true, laidLooks := .later }
def TokenPlacesUptoCardSaid : Prop := Claim7.holds Tryd.pinned (.plain (OpenSpec.upto tokenPlacesSpec)) tokenPlacesUptoCard

/-- THE SECOND FORM's CARD OF 'lookoutlaw09.TokenTwo'. -/
def tokenTwoUptoCard : Claim7 := { stood := { row := tokenTwoUptoRow, standIns := [], harness := (true, "21e176cae73ee8e6f907d52409640c67b9a1a2f7f0611cde78efe5ffd68a7bf1"), looks := true }, kinds := [], alts := [], laidByText := true, laidKinds := [.data, .data, .data, .sentinel, .sentinel], laidTests := true, laidLooks := .later }
def TokenTwoUptoCardSaid : Prop := Claim7.holds Tryd.pinned (.plain (OpenSpec.upto tokenTwoSpec)) tokenTwoUptoCard

/-- THE SECOND FORM's CARD OF 'lookoutlaw09.TokenNumbers'. -/
def tokenNumbersUptoCard : Claim7 := { stood := { row := tokenNumbersUptoRow, standIns := [], harness := (true, "21e176cae73ee8e6f907d52409640c67b9a1a2f7f0611cde78efe5ffd68a7bf1"), looks := true }, kinds := [], alts := [], laidByText := true, laidKinds := [.data, .data, .data, .sentinel, .sentinel], laidTests := true, laidLooks := .later }
def TokenNumbersUptoCardSaid : Prop := Claim7.holds Tryd.pinned (.plain (OpenSpec.upto tokenNumbersSpec)) tokenNumbersUptoCard

/-- THE SECOND FORM's CARD OF 'lookoutlaw09.TokenAlone'. -/
def tokenAloneUptoCard : Claim7 := { stood := { row := tokenAloneUptoRow, standIns := [], harness := (true, "21e176cae73ee8e6f907d52409640c67b9a1a2f7f0611cde78efe5ffd68a7bf1"), looks := true }, kinds := [], alts := [], laidByText := true, laidKinds := [.data, .data, .data, .sentinel, .sentinel], laidTests := true, laidLooks := .later }
def TokenAloneUptoCardSaid : Prop := Claim7.holds Tryd.pinned (.plain (OpenSpec.upto tokenAloneSpec)) tokenAloneUptoCard
end Rows
end Go.Proofs.YtlhhnhbmiamhkaaDoor
