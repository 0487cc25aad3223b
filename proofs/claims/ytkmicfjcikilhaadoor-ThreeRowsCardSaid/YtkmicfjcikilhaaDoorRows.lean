/-
  NARROWER THAN 'FOR EVERY INPUT', by the rows' own cells (each row's printed sentence says how): ThreeRows: loops, laid · ThreeLast: loops, laid · ThreeWhole: loops, laid · ThreeGrows: loops, laid · FormulaNodes: loops, laid.
  DERIVED. THE GIVEN ROWS OF THIS SEAT. 5 by the template 'for every input the law returns true; each argument reads behind the call as it read before'; 0 by the template 'total and deterministic' (their statements: YtkmicfjcikilhaaDoorTotals.lean).
  GIVEN WITH THE SEED: the statements are not yours to turn. If you find one false, say at which input.
  Laid BY PROGRAM, IN A SANDBOX (cutbox-rows.mjs): the forced cells as the released guide's own fill.sh prints them over the translation e1641fd6c092c4da… (all of the seat's roots in one cut). By AI agents, Wed Nov 11 2026. No macro, syntax, notation, axiom, sorry.
-/
import Derived.Test.YtkmicfjcikilhaaDoorChecked
import GoSem.Claim
import GoSem.ClaimJoined
import GoSem.ClaimMapViews
import Derived.JoinedTies
import Derived.KernelRfl
namespace Go.Proofs.YtkmicfjcikilhaaDoor
/- THE CELL 'sum', in the pinned program and in every row, IS THE sha256 OF THE DUMP (.gsa) THAT YtkmicfjcikilhaaDoorProg.lean LOADS. Nothing in Lean hashes anything: it is a label: what it is worth is what the hold of that sum in a sandbox is worth. -/
noncomputable def Tryd.pinned : Pinned := { name := "ytkmicfjcikilhaadoor", sum := "e1641fd6c092c4dad747d8f7d3b69bd6299eaeccecb830d8da37d35afc8ccab3", checked := Tryd.checked }
namespace Rows
def none {H : Type} : Left H := { results := [], args := [] }

/- WHAT THE LISTED PACKAGE-LEVEL VARIABLES READ AS WHEN THE CALL BEGINS. Each datum BY PROGRAM (the guide's laid-datum.mjs) off the statement by which the dump's own 'gosem.cut.vars' lays the variable. In a bare row this is a premise. The card (YtkmicfjcikilhaaDoorCards.lean) ties it to the program's text. -/
def laid_lookout_formula_shapes {H : Type} : DataW H := .agg [.agg [.lit (.int .i64 0), .lit (.int .i64 0), .agg [.lit (.int .i64 0), .lit (.int .i64 0)]], .agg [.lit (.int .i64 0), .lit (.int .i64 7), .agg [.lit (.int .i64 0), .lit (.int .i64 0)]], .agg [.lit (.int .i64 0), .lit (.int .i64 7), .agg [.lit (.int .i64 0), .lit (.int .i64 0)]], .agg [.lit (.int .i64 0), .lit (.int .i64 7), .agg [.lit (.int .i64 0), .lit (.int .i64 0)]], .agg [.lit (.int .i64 1), .lit (.int .i64 6), .agg [.lit (.int .i64 6), .lit (.int .i64 0)]], .agg [.lit (.int .i64 2), .lit (.int .i64 4), .agg [.lit (.int .i64 4), .lit (.int .i64 5)]], .agg [.lit (.int .i64 2), .lit (.int .i64 3), .agg [.lit (.int .i64 3), .lit (.int .i64 4)]], .agg [.lit (.int .i64 2), .lit (.int .i64 2), .agg [.lit (.int .i64 3), .lit (.int .i64 2)]], .agg [.lit (.int .i64 2), .lit (.int .i64 1), .agg [.lit (.int .i64 1), .lit (.int .i64 2)]], .agg [.lit (.int .i64 1), .lit (.int .i64 6), .agg [.lit (.int .i64 6), .lit (.int .i64 0)]], .agg [.lit (.int .i64 1), .lit (.int .i64 6), .agg [.lit (.int .i64 6), .lit (.int .i64 0)]], .agg [.lit (.int .i64 2), .lit (.int .i64 5), .agg [.lit (.int .i64 6), .lit (.int .i64 5)]], .agg [.lit (.int .i64 2), .lit (.int .i64 5), .agg [.lit (.int .i64 6), .lit (.int .i64 5)]]]
def laid_lookout_three_not {H : Type} : DataW H := .agg [.lit (.int .i64 1), .lit (.int .i64 0), .lit (.int .i64 2)]
def laid_lookout_three_and {H : Type} : DataW H := .agg [.agg [.lit (.int .i64 0), .lit (.int .i64 0), .lit (.int .i64 0)], .agg [.lit (.int .i64 0), .lit (.int .i64 1), .lit (.int .i64 2)], .agg [.lit (.int .i64 0), .lit (.int .i64 2), .lit (.int .i64 2)]]
def laid_lookout_three_iff {H : Type} : DataW H := .agg [.agg [.lit (.int .i64 1), .lit (.int .i64 0), .lit (.int .i64 2)], .agg [.lit (.int .i64 0), .lit (.int .i64 1), .lit (.int .i64 2)], .agg [.lit (.int .i64 2), .lit (.int .i64 2), .lit (.int .i64 2)]]
def laid_math_bits_deBruijn32tab {H : Type} : DataW H := .agg [.lit (.int .u8 0), .lit (.int .u8 1), .lit (.int .u8 28), .lit (.int .u8 2), .lit (.int .u8 29), .lit (.int .u8 14), .lit (.int .u8 24), .lit (.int .u8 3), .lit (.int .u8 30), .lit (.int .u8 22), .lit (.int .u8 20), .lit (.int .u8 15), .lit (.int .u8 25), .lit (.int .u8 17), .lit (.int .u8 4), .lit (.int .u8 8), .lit (.int .u8 31), .lit (.int .u8 27), .lit (.int .u8 13), .lit (.int .u8 23), .lit (.int .u8 21), .lit (.int .u8 19), .lit (.int .u8 16), .lit (.int .u8 7), .lit (.int .u8 26), .lit (.int .u8 12), .lit (.int .u8 18), .lit (.int .u8 6), .lit (.int .u8 11), .lit (.int .u8 5), .lit (.int .u8 10), .lit (.int .u8 9)]
def laid_math_bits_deBruijn64tab {H : Type} : DataW H := .agg [.lit (.int .u8 0), .lit (.int .u8 1), .lit (.int .u8 56), .lit (.int .u8 2), .lit (.int .u8 57), .lit (.int .u8 49), .lit (.int .u8 28), .lit (.int .u8 3), .lit (.int .u8 61), .lit (.int .u8 58), .lit (.int .u8 42), .lit (.int .u8 50), .lit (.int .u8 38), .lit (.int .u8 29), .lit (.int .u8 17), .lit (.int .u8 4), .lit (.int .u8 62), .lit (.int .u8 47), .lit (.int .u8 59), .lit (.int .u8 36), .lit (.int .u8 45), .lit (.int .u8 43), .lit (.int .u8 51), .lit (.int .u8 22), .lit (.int .u8 53), .lit (.int .u8 39), .lit (.int .u8 33), .lit (.int .u8 30), .lit (.int .u8 24), .lit (.int .u8 18), .lit (.int .u8 12), .lit (.int .u8 5), .lit (.int .u8 63), .lit (.int .u8 55), .lit (.int .u8 48), .lit (.int .u8 27), .lit (.int .u8 60), .lit (.int .u8 41), .lit (.int .u8 37), .lit (.int .u8 16), .lit (.int .u8 46), .lit (.int .u8 35), .lit (.int .u8 44), .lit (.int .u8 21), .lit (.int .u8 52), .lit (.int .u8 32), .lit (.int .u8 23), .lit (.int .u8 11), .lit (.int .u8 54), .lit (.int .u8 26), .lit (.int .u8 40), .lit (.int .u8 15), .lit (.int .u8 34), .lit (.int .u8 20), .lit (.int .u8 31), .lit (.int .u8 10), .lit (.int .u8 25), .lit (.int .u8 14), .lit (.int .u8 19), .lit (.int .u8 9), .lit (.int .u8 13), .lit (.int .u8 8), .lit (.int .u8 7), .lit (.int .u8 6)]
def laid_internal_strconv_uint64pow10 {H : Type} : DataW H := .agg [.lit (.int .u64 1), .lit (.int .u64 10), .lit (.int .u64 100), .lit (.int .u64 1000), .lit (.int .u64 10000), .lit (.int .u64 100000), .lit (.int .u64 1000000), .lit (.int .u64 10000000), .lit (.int .u64 100000000), .lit (.int .u64 1000000000), .lit (.int .u64 10000000000), .lit (.int .u64 100000000000), .lit (.int .u64 1000000000000), .lit (.int .u64 10000000000000), .lit (.int .u64 100000000000000), .lit (.int .u64 1000000000000000), .lit (.int .u64 10000000000000000), .lit (.int .u64 100000000000000000), .lit (.int .u64 1000000000000000000), .lit (.int .u64 10000000000000000000)]

/-- 'lookoutlaw15.ThreeRows': WHATEVER THE INPUT: true; the input reads as it did. -/
def threeRowsSpec : ChangeSpec := { name := "threeRows", fn := fun _ => fun
  | [d1, d2, d3] => { results := [.lit (.bool true)], args := [d1, d2, d3] }
  | _ => none }
def threeRowsRow : OpenClaim := { program := "ytkmicfjcikilhaadoor", sum := "e1641fd6c092c4dad747d8f7d3b69bd6299eaeccecb830d8da37d35afc8ccab3", func := "lookout/lookoutlaw15.ThreeRows", spec := "threeRows", inPlace := ["internal/bytealg.abigen_runtime_cmpstring"], unfollowed := true, recurses := true, named := ["lookout/formula.shapes", "lookout/three.not", "lookout/three.and", "lookout/three.iff"], loops := true, apart := false, laid := [("lookout/formula.shapes", laid_lookout_formula_shapes), ("lookout/three.not", laid_lookout_three_not), ("lookout/three.and", laid_lookout_three_and), ("lookout/three.iff", laid_lookout_three_iff)] }
def ThreeRowsSaid : Prop := threeRowsRow.holds Tryd.pinned (OpenSpec.ofChange threeRowsSpec)

/-- ITS FALSE NEIGHBOUR: 'it returns false'. Refute it at one input. -/
def threeRowsWrong : ChangeSpec := { name := "threeRows", fn := fun _ => fun
  | [d1, d2, d3] => { results := [.lit (.bool false)], args := [d1, d2, d3] }
  | _ => none }
def ThreeRowsWrongFalsely : Prop := threeRowsRow.holds Tryd.pinned (OpenSpec.ofChange threeRowsWrong)

/-- 'lookoutlaw15.ThreeLast': WHATEVER THE INPUT: true; the input reads as it did. -/
def threeLastSpec : ChangeSpec := { name := "threeLast", fn := fun _ => fun
  | [d1, d2, d3] => { results := [.lit (.bool true)], args := [d1, d2, d3] }
  | _ => none }
def threeLastRow : OpenClaim := { program := "ytkmicfjcikilhaadoor", sum := "e1641fd6c092c4dad747d8f7d3b69bd6299eaeccecb830d8da37d35afc8ccab3", func := "lookout/lookoutlaw15.ThreeLast", spec := "threeLast", inPlace := ["internal/bytealg.abigen_runtime_cmpstring"], unfollowed := true, recurses := true, named := ["lookout/formula.shapes", "lookout/three.not", "lookout/three.and", "lookout/three.iff"], loops := true, apart := false, laid := [("lookout/formula.shapes", laid_lookout_formula_shapes), ("lookout/three.not", laid_lookout_three_not), ("lookout/three.and", laid_lookout_three_and), ("lookout/three.iff", laid_lookout_three_iff)] }
def ThreeLastSaid : Prop := threeLastRow.holds Tryd.pinned (OpenSpec.ofChange threeLastSpec)

/-- ITS FALSE NEIGHBOUR: 'it returns false'. Refute it at one input. -/
def threeLastWrong : ChangeSpec := { name := "threeLast", fn := fun _ => fun
  | [d1, d2, d3] => { results := [.lit (.bool false)], args := [d1, d2, d3] }
  | _ => none }
def ThreeLastWrongFalsely : Prop := threeLastRow.holds Tryd.pinned (OpenSpec.ofChange threeLastWrong)

/-- 'lookoutlaw15.ThreeWhole': WHATEVER THE INPUT: true; the input reads as it did. -/
def threeWholeSpec : ChangeSpec := { name := "threeWhole", fn := fun _ => fun
  | [d1, d2, d3] => { results := [.lit (.bool true)], args := [d1, d2, d3] }
  | _ => none }
def threeWholeRow : OpenClaim := { program := "ytkmicfjcikilhaadoor", sum := "e1641fd6c092c4dad747d8f7d3b69bd6299eaeccecb830d8da37d35afc8ccab3", func := "lookout/lookoutlaw15.ThreeWhole", spec := "threeWhole", inPlace := ["internal/bytealg.abigen_runtime_cmpstring"], unfollowed := true, recurses := true, named := ["lookout/formula.shapes", "lookout/three.not", "lookout/three.and", "lookout/three.iff"], loops := true, apart := false, laid := [("lookout/formula.shapes", laid_lookout_formula_shapes), ("lookout/three.not", laid_lookout_three_not), ("lookout/three.and", laid_lookout_three_and), ("lookout/three.iff", laid_lookout_three_iff)] }
def ThreeWholeSaid : Prop := threeWholeRow.holds Tryd.pinned (OpenSpec.ofChange threeWholeSpec)

/-- ITS FALSE NEIGHBOUR: 'it returns false'. Refute it at one input. -/
def threeWholeWrong : ChangeSpec := { name := "threeWhole", fn := fun _ => fun
  | [d1, d2, d3] => { results := [.lit (.bool false)], args := [d1, d2, d3] }
  | _ => none }
def ThreeWholeWrongFalsely : Prop := threeWholeRow.holds Tryd.pinned (OpenSpec.ofChange threeWholeWrong)

/-- 'lookoutlaw15.ThreeGrows': WHATEVER THE INPUT: true; the input reads as it did. -/
def threeGrowsSpec : ChangeSpec := { name := "threeGrows", fn := fun _ => fun
  | [d1, d2, d3, d4, d5] => { results := [.lit (.bool true)], args := [d1, d2, d3, d4, d5] }
  | _ => none }
def threeGrowsRow : OpenClaim := { program := "ytkmicfjcikilhaadoor", sum := "e1641fd6c092c4dad747d8f7d3b69bd6299eaeccecb830d8da37d35afc8ccab3", func := "lookout/lookoutlaw15.ThreeGrows", spec := "threeGrows", inPlace := ["internal/bytealg.abigen_runtime_cmpstring"], unfollowed := true, recurses := true, named := ["lookout/formula.shapes", "lookout/three.not", "lookout/three.and", "lookout/three.iff"], loops := true, apart := false, laid := [("lookout/formula.shapes", laid_lookout_formula_shapes), ("lookout/three.not", laid_lookout_three_not), ("lookout/three.and", laid_lookout_three_and), ("lookout/three.iff", laid_lookout_three_iff)] }
def ThreeGrowsSaid : Prop := threeGrowsRow.holds Tryd.pinned (OpenSpec.ofChange threeGrowsSpec)

/-- ITS FALSE NEIGHBOUR: 'it returns false'. Refute it at one input. -/
def threeGrowsWrong : ChangeSpec := { name := "threeGrows", fn := fun _ => fun
  | [d1, d2, d3, d4, d5] => { results := [.lit (.bool false)], args := [d1, d2, d3, d4, d5] }
  | _ => none }
def ThreeGrowsWrongFalsely : Prop := threeGrowsRow.holds Tryd.pinned (OpenSpec.ofChange threeGrowsWrong)

/-- 'lookoutlaw08.FormulaNodes': WHATEVER THE INPUT: true; the input reads as it did. -/
def formulaNodesSpec : ChangeSpec := { name := "formulaNodes", fn := fun _ => fun
  | [d1, d2] => { results := [.lit (.bool true)], args := [d1, d2] }
  | _ => none }
def formulaNodesRow : OpenClaim := { program := "ytkmicfjcikilhaadoor", sum := "e1641fd6c092c4dad747d8f7d3b69bd6299eaeccecb830d8da37d35afc8ccab3", func := "lookout/lookoutlaw08.FormulaNodes", spec := "formulaNodes", inPlace := ["internal/abi.NoEscape"], unfollowed := true, recurses := true, named := ["lookout/formula.shapes", "internal/strconv.uint64pow10", "math/bits.deBruijn32tab", "math/bits.deBruijn64tab"], loops := true, apart := false, laid := [("math/bits.deBruijn32tab", laid_math_bits_deBruijn32tab), ("math/bits.deBruijn64tab", laid_math_bits_deBruijn64tab), ("internal/strconv.uint64pow10", laid_internal_strconv_uint64pow10), ("lookout/formula.shapes", laid_lookout_formula_shapes)] }
def FormulaNodesSaid : Prop := formulaNodesRow.holds Tryd.pinned (OpenSpec.ofChange formulaNodesSpec)

/-- ITS FALSE NEIGHBOUR: 'it returns false'. Refute it at one input. -/
def formulaNodesWrong : ChangeSpec := { name := "formulaNodes", fn := fun _ => fun
  | [d1, d2] => { results := [.lit (.bool false)], args := [d1, d2] }
  | _ => none }
def FormulaNodesWrongFalsely : Prop := formulaNodesRow.holds Tryd.pinned (OpenSpec.ofChange formulaNodesWrong)

/- THE SECOND FORM. 'bulk': how many values and letters a reading holds, each counted each time it is reached (what is shared counts as often as it is met; a slice's spare places count too). A statement '..UptoSaid' is the law's where the arguments, and the package variables that the reading takes, are together of bulk at most 1048576: NARROWER than '..Said'. Prove '..Said' where nothing that the law and all that it calls make is longer than what came in: it says more and counts as full. Else prove '..UptoSaid'. A law counts once. -/
mutual
def uptoBulk {H : Type} : DataW H → Nat
  | .lit (.string bytes) => bytes.length + 1
  | .lit _ => 1
  | .nil => 1
  | .ptr d => uptoBulk d + 1
  | .slice elems spare => uptoBulkAll elems + uptoBulkAll spare + 1
  | .agg parts => uptoBulkAll parts + 1
  | .iface _ d => uptoBulk d + 1
  | .map entries => uptoBulkEntries entries + 1
  | .held _ => 1
def uptoBulkAll {H : Type} : List (DataW H) → Nat
  | [] => 0
  | d :: r => uptoBulk d + uptoBulkAll r
def uptoBulkEntries {H : Type} : List (Lit × DataW H) → Nat
  | [] => 0
  | x :: r => uptoBulkEntry x + uptoBulkEntries r
def uptoBulkEntry {H : Type} : Lit × DataW H → Nat
  | (.string bytes, d) => bytes.length + uptoBulk d + 1
  | (_, d) => uptoBulk d + 1
 end
def uptoSmall : (H : Type) → List (DataW H) → Bool := fun _ ds => decide (uptoBulkAll ds ≤ 1048576)
def OpenSpec.upto (s : _root_.Go.ChangeSpec) : _root_.Go.OpenSpec := { _root_.Go.OpenSpec.ofChange s with cond := some uptoSmall }

/-- 'lookoutlaw15.ThreeRows', WHERE WHAT IT READS IS OF BULK AT MOST 1048576: true; the input reads as it did. -/
def threeRowsUptoRow : OpenClaim := { program := "ytkmicfjcikilhaadoor", sum := "e1641fd6c092c4dad747d8f7d3b69bd6299eaeccecb830d8da37d35afc8ccab3", func := "lookout/lookoutlaw15.ThreeRows", spec := "threeRows", inPlace := ["internal/bytealg.abigen_runtime_cmpstring"], unfollowed := true, recurses := true, named := ["lookout/formula.shapes", "lookout/three.not", "lookout/three.and", "lookout/three.iff"], loops := true, apart := false, laid := [("lookout/formula.shapes", laid_lookout_formula_shapes), ("lookout/three.not", laid_lookout_three_not), ("lookout/three.and", laid_lookout_three_and), ("lookout/three.iff", laid_lookout_three_iff)], narrowed := true }
def ThreeRowsUptoSaid : Prop := threeRowsUptoRow.holds Tryd.pinned (OpenSpec.upto threeRowsSpec)

/-- 'lookoutlaw15.ThreeLast', WHERE WHAT IT READS IS OF BULK AT MOST 1048576: true; the input reads as it did. -/
def threeLastUptoRow : OpenClaim := { program := "ytkmicfjcikilhaadoor", sum := "e1641fd6c092c4dad747d8f7d3b69bd6299eaeccecb830d8da37d35afc8ccab3", func := "lookout/lookoutlaw15.ThreeLast", spec := "threeLast", inPlace := ["internal/bytealg.abigen_runtime_cmpstring"], unfollowed := true, recurses := true, named := ["lookout/formula.shapes", "lookout/three.not", "lookout/three.and", "lookout/three.iff"], loops := true, apart := false, laid := [("lookout/formula.shapes", laid_lookout_formula_shapes), ("lookout/three.not", laid_lookout_three_not), ("lookout/three.and", laid_lookout_three_and), ("lookout/three.iff", laid_lookout_three_iff)], narrowed := true }
def ThreeLastUptoSaid : Prop := threeLastUptoRow.holds Tryd.pinned (OpenSpec.upto threeLastSpec)

/-- 'lookoutlaw15.ThreeWhole', WHERE WHAT IT READS IS OF BULK AT MOST 1048576: true; the input reads as it did. -/
def threeWholeUptoRow : OpenClaim := { program := "ytkmicfjcikilhaadoor", sum := "e1641fd6c092c4dad747d8f7d3b69bd6299eaeccecb830d8da37d35afc8ccab3", func := "lookout/lookoutlaw15.ThreeWhole", spec := "threeWhole", inPlace := ["internal/bytealg.abigen_runtime_cmpstring"], unfollowed := true, recurses := true, named := ["lookout/formula.shapes", "lookout/three.not", "lookout/three.and", "lookout/three.iff"], loops := true, apart := false, laid := [("lookout/formula.shapes", laid_lookout_formula_shapes), ("lookout/three.not", laid_lookout_three_not), ("lookout/three.and", laid_lookout_three_and), ("lookout/three.iff", laid_lookout_three_iff)], narrowed := true }
def ThreeWholeUptoSaid : Prop := threeWholeUptoRow.holds Tryd.pinned (OpenSpec.upto threeWholeSpec)

/-- 'lookoutlaw15.ThreeGrows', WHERE WHAT IT READS IS OF BULK AT MOST 1048576: true; the input reads as it did. -/
def threeGrowsUptoRow : OpenClaim := { program := "ytkmicfjcikilhaadoor", sum := "e1641fd6c092c4dad747d8f7d3b69bd6299eaeccecb830d8da37d35afc8ccab3", func := "lookout/lookoutlaw15.ThreeGrows", spec := "threeGrows", inPlace := ["internal/bytealg.abigen_runtime_cmpstring"], unfollowed := true, recurses := true, named := ["lookout/formula.shapes", "lookout/three.not", "lookout/three.and", "lookout/three.iff"], loops := true, apart := false, laid := [("lookout/formula.shapes", laid_lookout_formula_shapes), ("lookout/three.not", laid_lookout_three_not), ("lookout/three.and", laid_lookout_three_and), ("lookout/three.iff", laid_lookout_three_iff)], narrowed := true }
def ThreeGrowsUptoSaid : Prop := threeGrowsUptoRow.holds Tryd.pinned (OpenSpec.upto threeGrowsSpec)

/-- 'lookoutlaw08.FormulaNodes', WHERE WHAT IT READS IS OF BULK AT MOST 1048576: true; the input reads as it did. -/
def formulaNodesUptoRow : OpenClaim := { program := "ytkmicfjcikilhaadoor", sum := "e1641fd6c092c4dad747d8f7d3b69bd6299eaeccecb830d8da37d35afc8ccab3", func := "lookout/lookoutlaw08.FormulaNodes", spec := "formulaNodes", inPlace := ["internal/abi.NoEscape"], unfollowed := true, recurses := true, named := ["lookout/formula.shapes", "internal/strconv.uint64pow10", "math/bits.deBruijn32tab", "math/bits.deBruijn64tab"], loops := true, apart := false, laid := [("math/bits.deBruijn32tab", laid_math_bits_deBruijn32tab), ("math/bits.deBruijn64tab", laid_math_bits_deBruijn64tab), ("internal/strconv.uint64pow10", laid_internal_strconv_uint64pow10), ("lookout/formula.shapes", laid_lookout_formula_shapes)], narrowed := true }
def FormulaNodesUptoSaid : Prop := formulaNodesUptoRow.holds Tryd.pinned (OpenSpec.upto formulaNodesSpec)

end Rows
end Go.Proofs.YtkmicfjcikilhaaDoor
