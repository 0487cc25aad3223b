/-
  DERIVED. GIVEN WITH THE SEED: THE PROGRAM's TIES (one call each: nine closed facts by the kernel) AND EACH ROW's TIE, after the 31st guide's Derived/Test/Toyas{Tie, Card}.lean. No idea stands in it: it is a product of the set-up. Laid BY PROGRAM, IN A SANDBOX (cutbox-door.mjs). By AI agents, Wed Nov 11 2026. No macro, syntax, notation, axiom, sorry.
-/
import Derived.Test.YtoegdmpmagbaiaaGreatDoorRows
import Derived.LaidByTextLater
import Derived.SevenTiedAt
import Derived.LaidSub
import Derived.LaidOnce
namespace Go.Proofs.YtoegdmpmagbaiaaGreatDoor
open Go
set_option maxRecDepth 100000
theorem seatTie1 : Tryz.prog.laidByTextLater [("lookout/formula.shapes", Rows.laid_lookout_formula_shapes), ("lookout/three.not", Rows.laid_lookout_three_not), ("lookout/three.and", Rows.laid_lookout_three_and), ("lookout/three.iff", Rows.laid_lookout_three_iff)] [.data, .data, .data, .data] true :=
  Program.laidByTextLater_by_one 56 8 53 (by kernel_rfl) (by kernel_rfl) (by kernel_rfl) (by kernel_rfl) (by kernel_rfl) (by kernel_rfl) (fun _ _ => by kernel_rfl)
theorem noOwnUnsafe : Tryz.pinned.checked.prog.headLifts.contains "ownunsafe" = false := by kernel_rfl
theorem tie : Tryz.prog.laidByTextLater [("lookout/formula.shapes", Rows.laid_lookout_formula_shapes), ("lookout/three.not", Rows.laid_lookout_three_not), ("lookout/three.and", Rows.laid_lookout_three_and), ("lookout/three.iff", Rows.laid_lookout_three_iff)] [.data, .data, .data, .data] true :=
  Program.laidByTextLater.sub seatTie1 ["lookout/formula.shapes", "lookout/three.not", "lookout/three.and", "lookout/three.iff"] (by kernel_rfl) (by kernel_rfl)
theorem enginePlays_row_tie : Rows.enginePlaysRow.laidByTextAt .later Tryz.pinned [.data, .data, .data, .data] true :=
  OpenClaim.laidByTextAt_later rfl rfl tie noOwnUnsafe
theorem engineFinal_row_tie : Rows.engineFinalRow.laidByTextAt .later Tryz.pinned [.data, .data, .data, .data] true :=
  OpenClaim.laidByTextAt_later rfl rfl tie noOwnUnsafe
theorem engineLate_row_tie : Rows.engineLateRow.laidByTextAt .later Tryz.pinned [.data, .data, .data, .data] true :=
  OpenClaim.laidByTextAt_later rfl rfl tie noOwnUnsafe
theorem engineAll_row_tie : Rows.engineAllRow.laidByTextAt .later Tryz.pinned [.data, .data, .data, .data] true :=
  OpenClaim.laidByTextAt_later rfl rfl tie noOwnUnsafe
theorem engineDue_row_tie : Rows.engineDueRow.laidByTextAt .later Tryz.pinned [.data, .data, .data, .data] true :=
  OpenClaim.laidByTextAt_later rfl rfl tie noOwnUnsafe
theorem enginePlaysUpto_row_tie : Rows.enginePlaysUptoRow.laidByTextAt .later Tryz.pinned [.data, .data, .data, .data] true :=
  OpenClaim.laidByTextAt_later rfl rfl tie noOwnUnsafe
theorem engineFinalUpto_row_tie : Rows.engineFinalUptoRow.laidByTextAt .later Tryz.pinned [.data, .data, .data, .data] true :=
  OpenClaim.laidByTextAt_later rfl rfl tie noOwnUnsafe
theorem engineLateUpto_row_tie : Rows.engineLateUptoRow.laidByTextAt .later Tryz.pinned [.data, .data, .data, .data] true :=
  OpenClaim.laidByTextAt_later rfl rfl tie noOwnUnsafe
theorem engineAllUpto_row_tie : Rows.engineAllUptoRow.laidByTextAt .later Tryz.pinned [.data, .data, .data, .data] true :=
  OpenClaim.laidByTextAt_later rfl rfl tie noOwnUnsafe
theorem engineDueUpto_row_tie : Rows.engineDueUptoRow.laidByTextAt .later Tryz.pinned [.data, .data, .data, .data] true :=
  OpenClaim.laidByTextAt_later rfl rfl tie noOwnUnsafe
end Go.Proofs.YtoegdmpmagbaiaaGreatDoor
