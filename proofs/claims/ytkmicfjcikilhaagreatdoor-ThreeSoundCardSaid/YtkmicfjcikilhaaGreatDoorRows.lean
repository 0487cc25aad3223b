/-
  NARROWER THAN 'FOR EVERY INPUT', by the rows' own cells (each row's printed sentence says how): ThreeSound: loops, laid.
  DERIVED. THE GIVEN ROWS OF THIS SEAT. 1 by the template 'for every input the law returns true; each argument reads behind the call as it read before'; 0 by the template 'total and deterministic' (their statements: YtkmicfjcikilhaaGreatDoorTotals.lean).
  GIVEN WITH THE SEED: the statements are not yours to turn. If you find one false, say at which input.
  Laid BY PROGRAM, IN A SANDBOX (cutbox-rows.mjs): the forced cells as the released guide's own fill.sh prints them over the translation 3dba54cb8cc75be0… (all of the seat's roots in one cut). By AI agents, Wed Nov 11 2026. No macro, syntax, notation, axiom, sorry.
-/
import Derived.Test.YtkmicfjcikilhaaGreatDoorChecked
import GoSem.Claim
import GoSem.ClaimJoined
import GoSem.ClaimMapViews
import Derived.JoinedTies
import Derived.KernelRfl
namespace Go.Proofs.YtkmicfjcikilhaaGreatDoor
/- THE CELL 'sum', in the pinned program and in every row, IS THE sha256 OF THE DUMP (.gsa) THAT YtkmicfjcikilhaaGreatDoorProg.lean LOADS. Nothing in Lean hashes anything: it is a label: what it is worth is what the hold of that sum in a sandbox is worth. -/
noncomputable def Tryz.pinned : Pinned := { name := "ytkmicfjcikilhaagreatdoor", sum := "3dba54cb8cc75be0c9560d4f168167f39069867523a923a247feb54f34c24eec", checked := Tryz.checked }
namespace Rows
def none {H : Type} : Left H := { results := [], args := [] }

/- WHAT THE LISTED PACKAGE-LEVEL VARIABLES READ AS WHEN THE CALL BEGINS. Each datum BY PROGRAM (the guide's laid-datum.mjs) off the statement by which the dump's own 'gosem.cut.vars' lays the variable. In a bare row this is a premise. The card (YtkmicfjcikilhaaGreatDoorCards.lean) ties it to the program's text. -/
def laid_lookout_formula_shapes {H : Type} : DataW H := .agg [.agg [.lit (.int .i64 0), .lit (.int .i64 0), .agg [.lit (.int .i64 0), .lit (.int .i64 0)]], .agg [.lit (.int .i64 0), .lit (.int .i64 7), .agg [.lit (.int .i64 0), .lit (.int .i64 0)]], .agg [.lit (.int .i64 0), .lit (.int .i64 7), .agg [.lit (.int .i64 0), .lit (.int .i64 0)]], .agg [.lit (.int .i64 0), .lit (.int .i64 7), .agg [.lit (.int .i64 0), .lit (.int .i64 0)]], .agg [.lit (.int .i64 1), .lit (.int .i64 6), .agg [.lit (.int .i64 6), .lit (.int .i64 0)]], .agg [.lit (.int .i64 2), .lit (.int .i64 4), .agg [.lit (.int .i64 4), .lit (.int .i64 5)]], .agg [.lit (.int .i64 2), .lit (.int .i64 3), .agg [.lit (.int .i64 3), .lit (.int .i64 4)]], .agg [.lit (.int .i64 2), .lit (.int .i64 2), .agg [.lit (.int .i64 3), .lit (.int .i64 2)]], .agg [.lit (.int .i64 2), .lit (.int .i64 1), .agg [.lit (.int .i64 1), .lit (.int .i64 2)]], .agg [.lit (.int .i64 1), .lit (.int .i64 6), .agg [.lit (.int .i64 6), .lit (.int .i64 0)]], .agg [.lit (.int .i64 1), .lit (.int .i64 6), .agg [.lit (.int .i64 6), .lit (.int .i64 0)]], .agg [.lit (.int .i64 2), .lit (.int .i64 5), .agg [.lit (.int .i64 6), .lit (.int .i64 5)]], .agg [.lit (.int .i64 2), .lit (.int .i64 5), .agg [.lit (.int .i64 6), .lit (.int .i64 5)]]]
def laid_lookout_three_not {H : Type} : DataW H := .agg [.lit (.int .i64 1), .lit (.int .i64 0), .lit (.int .i64 2)]
def laid_lookout_three_and {H : Type} : DataW H := .agg [.agg [.lit (.int .i64 0), .lit (.int .i64 0), .lit (.int .i64 0)], .agg [.lit (.int .i64 0), .lit (.int .i64 1), .lit (.int .i64 2)], .agg [.lit (.int .i64 0), .lit (.int .i64 2), .lit (.int .i64 2)]]
def laid_lookout_three_iff {H : Type} : DataW H := .agg [.agg [.lit (.int .i64 1), .lit (.int .i64 0), .lit (.int .i64 2)], .agg [.lit (.int .i64 0), .lit (.int .i64 1), .lit (.int .i64 2)], .agg [.lit (.int .i64 2), .lit (.int .i64 2), .lit (.int .i64 2)]]

/-- 'lookoutlaw15.ThreeSound': WHATEVER THE INPUT: true; the input reads as it did. -/
def threeSoundSpec : ChangeSpec := { name := "threeSound", fn := fun _ => fun
  | [d1, d2, d3, d4] => { results := [.lit (.bool true)], args := [d1, d2, d3, d4] }
  | _ => none }
def threeSoundRow : OpenClaim := { program := "ytkmicfjcikilhaagreatdoor", sum := "3dba54cb8cc75be0c9560d4f168167f39069867523a923a247feb54f34c24eec", func := "lookout/lookoutlaw15.ThreeSound", spec := "threeSound", inPlace := ["internal/bytealg.abigen_runtime_cmpstring"], unfollowed := true, recurses := true, named := ["lookout/formula.shapes", "lookout/three.not", "lookout/three.and", "lookout/three.iff"], loops := true, apart := false, laid := [("lookout/formula.shapes", laid_lookout_formula_shapes), ("lookout/three.not", laid_lookout_three_not), ("lookout/three.and", laid_lookout_three_and), ("lookout/three.iff", laid_lookout_three_iff)] }
def ThreeSoundSaid : Prop := threeSoundRow.holds Tryz.pinned (OpenSpec.ofChange threeSoundSpec)

/-- ITS FALSE NEIGHBOUR: 'it returns false'. Refute it at one input. -/
def threeSoundWrong : ChangeSpec := { name := "threeSound", fn := fun _ => fun
  | [d1, d2, d3, d4] => { results := [.lit (.bool false)], args := [d1, d2, d3, d4] }
  | _ => none }
def ThreeSoundWrongFalsely : Prop := threeSoundRow.holds Tryz.pinned (OpenSpec.ofChange threeSoundWrong)

/- THE SECOND FORM. 'bulk': how many values and letters a reading holds, each counted each time it is reached (what is shared counts as often as it is met; a slice's spare places count too). A statement '..UptoSaid' is the law's where the arguments, and the package variables that the reading takes, are together of bulk at most 1048576: NARROWER than '..Said'. Prove '..Said' where nothing that the law and all that it calls make is longer than what came in: it says more and counts as full. Else prove '..UptoSaid'. A law counts once. -/
mutual
def uptoBulk {H : Type} : DataW H → Nat
  | .lit (.string bytes) => bytes.length + 1
  | .lit _ => 1
  | .nil => 1
  | .ptr d => uptoBulk d + 1
  | .slice elems spare => uptoBulkAll elems + uptoBulkAll spare + 1
  | .agg parts => uptoBulkAll parts + 1
  | .iface _ d => uptoBulk d + 1
  | .map entries => uptoBulkEntries entries + 1
  | .held _ => 1
def uptoBulkAll {H : Type} : List (DataW H) → Nat
  | [] => 0
  | d :: r => uptoBulk d + uptoBulkAll r
def uptoBulkEntries {H : Type} : List (Lit × DataW H) → Nat
  | [] => 0
  | x :: r => uptoBulkEntry x + uptoBulkEntries r
def uptoBulkEntry {H : Type} : Lit × DataW H → Nat
  | (.string bytes, d) => bytes.length + uptoBulk d + 1
  | (_, d) => uptoBulk d + 1
 end
def uptoSmall : (H : Type) → List (DataW H) → Bool := fun _ ds => decide (uptoBulkAll ds ≤ 1048576)
def OpenSpec.upto (s : _root_.Go.ChangeSpec) : _root_.Go.OpenSpec := { _root_.Go.OpenSpec.ofChange s with cond := some uptoSmall }

/-- 'lookoutlaw15.ThreeSound', WHERE WHAT IT READS IS OF BULK AT MOST 1048576: true; the input reads as it did. -/
def threeSoundUptoRow : OpenClaim := { program := "ytkmicfjcikilhaagreatdoor", sum := "3dba54cb8cc75be0c9560d4f168167f39069867523a923a247feb54f34c24eec", func := "lookout/lookoutlaw15.ThreeSound", spec := "threeSound", inPlace := ["internal/bytealg.abigen_runtime_cmpstring"], unfollowed := true, recurses := true, named := ["lookout/formula.shapes", "lookout/three.not", "lookout/three.and", "lookout/three.iff"], loops := true, apart := false, laid := [("lookout/formula.shapes", laid_lookout_formula_shapes), ("lookout/three.not", laid_lookout_three_not), ("lookout/three.and", laid_lookout_three_and), ("lookout/three.iff", laid_lookout_three_iff)], narrowed := true }
def ThreeSoundUptoSaid : Prop := threeSoundUptoRow.holds Tryz.pinned (OpenSpec.upto threeSoundSpec)

end Rows
end Go.Proofs.YtkmicfjcikilhaaGreatDoor
