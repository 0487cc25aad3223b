/-
  No cell of these rows narrows 'for every input' (looked for: loops, veiled, ifaces, maps, wideKeys, modest, calm, conditions, laid).
  DERIVED. THE GIVEN ROWS OF THIS SEAT. 4 by the template 'for every input the law returns true; each argument reads behind the call as it read before'; 0 by the template 'total and deterministic' (their statements: YtegidffoonkpnaaTotals.lean).
  GIVEN WITH THE SEED: the statements are not yours to turn. If you find one false, say at which input.
  Laid BY PROGRAM, IN A SANDBOX (cutbox-rows.mjs): the forced cells as the released guide's own fill.sh prints them over the translation 9258d29e6327ef8b… (all of the seat's roots in one cut). By AI agents, Wed Nov 11 2026. No macro, syntax, notation, axiom, sorry.
-/
import Derived.Test.YtegidffoonkpnaaChecked
import GoSem.Claim
import GoSem.ClaimJoined
import GoSem.ClaimMapViews
import Derived.JoinedTies
import Derived.KernelRfl
namespace Go.Proofs.Ytegidffoonkpnaa
/- THE CELL 'sum', in the pinned program and in every row, IS THE sha256 OF THE DUMP (.gsa) THAT YtegidffoonkpnaaProg.lean LOADS. Nothing in Lean hashes anything: it is a label: what it is worth is what the hold of that sum in a sandbox is worth. -/
noncomputable def Try.pinned : Pinned := { name := "ytegidffoonkpnaa", sum := "9258d29e6327ef8b6d513a8b075ce8d5a02da556f5de32fb3c6a608652e5e95b", checked := Try.checked }
namespace Rows
def none {H : Type} : Left H := { results := [], args := [] }

/-- 'lookoutlaw21.DetectPlays': WHATEVER THE INPUT: true; the input reads as it did. -/
def detectPlaysSpec : ChangeSpec := { name := "detectPlays", fn := fun _ => fun
  | [d1, d2, d3] => { results := [.lit (.bool true)], args := [d1, d2, d3] }
  | _ => none }
def detectPlaysRow : OpenClaim := { program := "ytegidffoonkpnaa", sum := "9258d29e6327ef8b6d513a8b075ce8d5a02da556f5de32fb3c6a608652e5e95b", func := "lookout/lookoutlaw21.DetectPlays", spec := "detectPlays", unfollowed := true, recurses := true, apart := false }
def DetectPlaysSaid : Prop := detectPlaysRow.holds Try.pinned (OpenSpec.ofChange detectPlaysSpec)

/-- ITS FALSE NEIGHBOUR: 'it returns false'. Refute it at one input. -/
def detectPlaysWrong : ChangeSpec := { name := "detectPlays", fn := fun _ => fun
  | [d1, d2, d3] => { results := [.lit (.bool false)], args := [d1, d2, d3] }
  | _ => none }
def DetectPlaysWrongFalsely : Prop := detectPlaysRow.holds Try.pinned (OpenSpec.ofChange detectPlaysWrong)

/-- 'lookoutlaw21.DetectTimes': WHATEVER THE INPUT: true; the input reads as it did. -/
def detectTimesSpec : ChangeSpec := { name := "detectTimes", fn := fun _ => fun
  | [d1, d2, d3] => { results := [.lit (.bool true)], args := [d1, d2, d3] }
  | _ => none }
def detectTimesRow : OpenClaim := { program := "ytegidffoonkpnaa", sum := "9258d29e6327ef8b6d513a8b075ce8d5a02da556f5de32fb3c6a608652e5e95b", func := "lookout/lookoutlaw21.DetectTimes", spec := "detectTimes", unfollowed := true, recurses := true, apart := false }
def DetectTimesSaid : Prop := detectTimesRow.holds Try.pinned (OpenSpec.ofChange detectTimesSpec)

/-- ITS FALSE NEIGHBOUR: 'it returns false'. Refute it at one input. -/
def detectTimesWrong : ChangeSpec := { name := "detectTimes", fn := fun _ => fun
  | [d1, d2, d3] => { results := [.lit (.bool false)], args := [d1, d2, d3] }
  | _ => none }
def DetectTimesWrongFalsely : Prop := detectTimesRow.holds Try.pinned (OpenSpec.ofChange detectTimesWrong)

/-- 'lookoutlaw21.DetectPieces': WHATEVER THE INPUT: true; the input reads as it did. -/
def detectPiecesSpec : ChangeSpec := { name := "detectPieces", fn := fun _ => fun
  | [d1, d2, d3, d4, d5] => { results := [.lit (.bool true)], args := [d1, d2, d3, d4, d5] }
  | _ => none }
def detectPiecesRow : OpenClaim := { program := "ytegidffoonkpnaa", sum := "9258d29e6327ef8b6d513a8b075ce8d5a02da556f5de32fb3c6a608652e5e95b", func := "lookout/lookoutlaw21.DetectPieces", spec := "detectPieces", unfollowed := true, recurses := true, apart := false }
def DetectPiecesSaid : Prop := detectPiecesRow.holds Try.pinned (OpenSpec.ofChange detectPiecesSpec)

/-- ITS FALSE NEIGHBOUR: 'it returns false'. Refute it at one input. -/
def detectPiecesWrong : ChangeSpec := { name := "detectPieces", fn := fun _ => fun
  | [d1, d2, d3, d4, d5] => { results := [.lit (.bool false)], args := [d1, d2, d3, d4, d5] }
  | _ => none }
def DetectPiecesWrongFalsely : Prop := detectPiecesRow.holds Try.pinned (OpenSpec.ofChange detectPiecesWrong)

/-- 'lookoutlaw21.DetectIdle': WHATEVER THE INPUT: true; the input reads as it did. -/
def detectIdleSpec : ChangeSpec := { name := "detectIdle", fn := fun _ => fun
  | [d1, d2, d3] => { results := [.lit (.bool true)], args := [d1, d2, d3] }
  | _ => none }
def detectIdleRow : OpenClaim := { program := "ytegidffoonkpnaa", sum := "9258d29e6327ef8b6d513a8b075ce8d5a02da556f5de32fb3c6a608652e5e95b", func := "lookout/lookoutlaw21.DetectIdle", spec := "detectIdle", unfollowed := true, recurses := true, apart := false }
def DetectIdleSaid : Prop := detectIdleRow.holds Try.pinned (OpenSpec.ofChange detectIdleSpec)

/-- ITS FALSE NEIGHBOUR: 'it returns false'. Refute it at one input. -/
def detectIdleWrong : ChangeSpec := { name := "detectIdle", fn := fun _ => fun
  | [d1, d2, d3] => { results := [.lit (.bool false)], args := [d1, d2, d3] }
  | _ => none }
def DetectIdleWrongFalsely : Prop := detectIdleRow.holds Try.pinned (OpenSpec.ofChange detectIdleWrong)

/- THE SECOND FORM. 'bulk': how many values and letters a reading holds, each counted each time it is reached (what is shared counts as often as it is met; a slice's spare places count too). A statement '..UptoSaid' is the law's where the arguments, and the package variables that the reading takes, are together of bulk at most 1048576: NARROWER than '..Said'. Prove '..Said' where nothing that the law and all that it calls make is longer than what came in: it says more and counts as full. Else prove '..UptoSaid'. A law counts once. -/
mutual
def uptoBulk {H : Type} : DataW H → Nat
  | .lit (.string bytes) => bytes.length + 1
  | .lit _ => 1
  | .nil => 1
  | .ptr d => uptoBulk d + 1
  | .slice elems spare => uptoBulkAll elems + uptoBulkAll spare + 1
  | .agg parts => uptoBulkAll parts + 1
  | .iface _ d => uptoBulk d + 1
  | .map entries => uptoBulkEntries entries + 1
  | .held _ => 1
def uptoBulkAll {H : Type} : List (DataW H) → Nat
  | [] => 0
  | d :: r => uptoBulk d + uptoBulkAll r
def uptoBulkEntries {H : Type} : List (Lit × DataW H) → Nat
  | [] => 0
  | x :: r => uptoBulkEntry x + uptoBulkEntries r
def uptoBulkEntry {H : Type} : Lit × DataW H → Nat
  | (.string bytes, d) => bytes.length + uptoBulk d + 1
  | (_, d) => uptoBulk d + 1
 end
def uptoSmall : (H : Type) → List (DataW H) → Bool := fun _ ds => decide (uptoBulkAll ds ≤ 1048576)
def OpenSpec.upto (s : _root_.Go.ChangeSpec) : _root_.Go.OpenSpec := { _root_.Go.OpenSpec.ofChange s with cond := some uptoSmall }

/-- 'lookoutlaw21.DetectPlays', WHERE WHAT IT READS IS OF BULK AT MOST 1048576: true; the input reads as it did. -/
def detectPlaysUptoRow : OpenClaim := { program := "ytegidffoonkpnaa", sum := "9258d29e6327ef8b6d513a8b075ce8d5a02da556f5de32fb3c6a608652e5e95b", func := "lookout/lookoutlaw21.DetectPlays", spec := "detectPlays", unfollowed := true, recurses := true, apart := false, narrowed := true }
def DetectPlaysUptoSaid : Prop := detectPlaysUptoRow.holds Try.pinned (OpenSpec.upto detectPlaysSpec)

/-- 'lookoutlaw21.DetectTimes', WHERE WHAT IT READS IS OF BULK AT MOST 1048576: true; the input reads as it did. -/
def detectTimesUptoRow : OpenClaim := { program := "ytegidffoonkpnaa", sum := "9258d29e6327ef8b6d513a8b075ce8d5a02da556f5de32fb3c6a608652e5e95b", func := "lookout/lookoutlaw21.DetectTimes", spec := "detectTimes", unfollowed := true, recurses := true, apart := false, narrowed := true }
def DetectTimesUptoSaid : Prop := detectTimesUptoRow.holds Try.pinned (OpenSpec.upto detectTimesSpec)

/-- 'lookoutlaw21.DetectPieces', WHERE WHAT IT READS IS OF BULK AT MOST 1048576: true; the input reads as it did. -/
def detectPiecesUptoRow : OpenClaim := { program := "ytegidffoonkpnaa", sum := "9258d29e6327ef8b6d513a8b075ce8d5a02da556f5de32fb3c6a608652e5e95b", func := "lookout/lookoutlaw21.DetectPieces", spec := "detectPieces", unfollowed := true, recurses := true, apart := false, narrowed := true }
def DetectPiecesUptoSaid : Prop := detectPiecesUptoRow.holds Try.pinned (OpenSpec.upto detectPiecesSpec)

/-- 'lookoutlaw21.DetectIdle', WHERE WHAT IT READS IS OF BULK AT MOST 1048576: true; the input reads as it did. -/
def detectIdleUptoRow : OpenClaim := { program := "ytegidffoonkpnaa", sum := "9258d29e6327ef8b6d513a8b075ce8d5a02da556f5de32fb3c6a608652e5e95b", func := "lookout/lookoutlaw21.DetectIdle", spec := "detectIdle", unfollowed := true, recurses := true, apart := false, narrowed := true }
def DetectIdleUptoSaid : Prop := detectIdleUptoRow.holds Try.pinned (OpenSpec.upto detectIdleSpec)

end Rows
end Go.Proofs.Ytegidffoonkpnaa
