/-
  NARROWER THAN 'FOR EVERY INPUT', by the rows' own cells (each row's printed sentence says how): EnginePlays: loops, laid · EngineFinal: loops, laid · EngineLate: loops, laid · EngineAll: loops, laid · EngineDue: loops, laid.
  DERIVED. THE GIVEN ROWS OF THIS SEAT. 5 by the template 'for every input the law returns true; each argument reads behind the call as it read before'; 0 by the template 'total and deterministic' (their statements: YtoegdmpmagbaiaaGreatDoorTotals.lean).
  GIVEN WITH THE SEED: the statements are not yours to turn. If you find one false, say at which input.
  Laid BY PROGRAM, IN A SANDBOX (cutbox-rows.mjs): the forced cells as the released guide's own fill.sh prints them over the translation 616ae16205048702… (all of the seat's roots in one cut). By AI agents, Wed Nov 11 2026. No macro, syntax, notation, axiom, sorry.
-/
import Derived.Test.YtoegdmpmagbaiaaGreatDoorChecked
import GoSem.Claim
import GoSem.ClaimJoined
import GoSem.ClaimMapViews
import Derived.JoinedTies
import Derived.KernelRfl
namespace Go.Proofs.YtoegdmpmagbaiaaGreatDoor
/- THE CELL 'sum', in the pinned program and in every row, IS THE sha256 OF THE DUMP (.gsa) THAT YtoegdmpmagbaiaaGreatDoorProg.lean LOADS. Nothing in Lean hashes anything: it is a label: what it is worth is what the hold of that sum in a sandbox is worth. -/
noncomputable def Tryz.pinned : Pinned := { name := "ytoegdmpmagbaiaagreatdoor", sum := "616ae16205048702e54b575021f1445e2d8a29c683226951758a54eb3cd423d2", checked := Tryz.checked }
namespace Rows
def none {H : Type} : Left H := { results := [], args := [] }

/- WHAT THE LISTED PACKAGE-LEVEL VARIABLES READ AS WHEN THE CALL BEGINS. Each datum BY PROGRAM (the guide's laid-datum.mjs) off the statement by which the dump's own 'gosem.cut.vars' lays the variable. In a bare row this is a premise. The card (YtoegdmpmagbaiaaGreatDoorCards.lean) ties it to the program's text. -/
def laid_lookout_formula_shapes {H : Type} : DataW H := .agg [.agg [.lit (.int .i64 0), .lit (.int .i64 0), .agg [.lit (.int .i64 0), .lit (.int .i64 0)]], .agg [.lit (.int .i64 0), .lit (.int .i64 7), .agg [.lit (.int .i64 0), .lit (.int .i64 0)]], .agg [.lit (.int .i64 0), .lit (.int .i64 7), .agg [.lit (.int .i64 0), .lit (.int .i64 0)]], .agg [.lit (.int .i64 0), .lit (.int .i64 7), .agg [.lit (.int .i64 0), .lit (.int .i64 0)]], .agg [.lit (.int .i64 1), .lit (.int .i64 6), .agg [.lit (.int .i64 6), .lit (.int .i64 0)]], .agg [.lit (.int .i64 2), .lit (.int .i64 4), .agg [.lit (.int .i64 4), .lit (.int .i64 5)]], .agg [.lit (.int .i64 2), .lit (.int .i64 3), .agg [.lit (.int .i64 3), .lit (.int .i64 4)]], .agg [.lit (.int .i64 2), .lit (.int .i64 2), .agg [.lit (.int .i64 3), .lit (.int .i64 2)]], .agg [.lit (.int .i64 2), .lit (.int .i64 1), .agg [.lit (.int .i64 1), .lit (.int .i64 2)]], .agg [.lit (.int .i64 1), .lit (.int .i64 6), .agg [.lit (.int .i64 6), .lit (.int .i64 0)]], .agg [.lit (.int .i64 1), .lit (.int .i64 6), .agg [.lit (.int .i64 6), .lit (.int .i64 0)]], .agg [.lit (.int .i64 2), .lit (.int .i64 5), .agg [.lit (.int .i64 6), .lit (.int .i64 5)]], .agg [.lit (.int .i64 2), .lit (.int .i64 5), .agg [.lit (.int .i64 6), .lit (.int .i64 5)]]]
def laid_lookout_three_not {H : Type} : DataW H := .agg [.lit (.int .i64 1), .lit (.int .i64 0), .lit (.int .i64 2)]
def laid_lookout_three_and {H : Type} : DataW H := .agg [.agg [.lit (.int .i64 0), .lit (.int .i64 0), .lit (.int .i64 0)], .agg [.lit (.int .i64 0), .lit (.int .i64 1), .lit (.int .i64 2)], .agg [.lit (.int .i64 0), .lit (.int .i64 2), .lit (.int .i64 2)]]
def laid_lookout_three_iff {H : Type} : DataW H := .agg [.agg [.lit (.int .i64 1), .lit (.int .i64 0), .lit (.int .i64 2)], .agg [.lit (.int .i64 0), .lit (.int .i64 1), .lit (.int .i64 2)], .agg [.lit (.int .i64 2), .lit (.int .i64 2), .lit (.int .i64 2)]]

/-- 'lookoutlaw23.EnginePlays': WHATEVER THE INPUT: true; the input reads as it did. -/
def enginePlaysSpec : ChangeSpec := { name := "enginePlays", fn := fun _ => fun
  | [d1, d2] => { results := [.lit (.bool true)], args := [d1, d2] }
  | _ => none }
def enginePlaysRow : OpenClaim := { program := "ytoegdmpmagbaiaagreatdoor", sum := "616ae16205048702e54b575021f1445e2d8a29c683226951758a54eb3cd423d2", func := "lookout/lookoutlaw23.EnginePlays", spec := "enginePlays", inPlace := ["internal/bytealg.abigen_runtime_cmpstring", "slices.overlaps[int64]"], unfollowed := true, recurses := true, named := ["lookout/formula.shapes", "lookout/three.not", "lookout/three.and", "lookout/three.iff"], loops := true, plainKeys := false, apart := false, laid := [("lookout/formula.shapes", laid_lookout_formula_shapes), ("lookout/three.not", laid_lookout_three_not), ("lookout/three.and", laid_lookout_three_and), ("lookout/three.iff", laid_lookout_three_iff)] }
def EnginePlaysSaid : Prop := enginePlaysRow.holds Tryz.pinned (OpenSpec.ofChange enginePlaysSpec)

/-- ITS FALSE NEIGHBOUR: 'it returns false'. Refute it at one input. -/
def enginePlaysWrong : ChangeSpec := { name := "enginePlays", fn := fun _ => fun
  | [d1, d2] => { results := [.lit (.bool false)], args := [d1, d2] }
  | _ => none }
def EnginePlaysWrongFalsely : Prop := enginePlaysRow.holds Tryz.pinned (OpenSpec.ofChange enginePlaysWrong)

/-- 'lookoutlaw23.EngineFinal': WHATEVER THE INPUT: true; the input reads as it did. -/
def engineFinalSpec : ChangeSpec := { name := "engineFinal", fn := fun _ => fun
  | [d1, d2] => { results := [.lit (.bool true)], args := [d1, d2] }
  | _ => none }
def engineFinalRow : OpenClaim := { program := "ytoegdmpmagbaiaagreatdoor", sum := "616ae16205048702e54b575021f1445e2d8a29c683226951758a54eb3cd423d2", func := "lookout/lookoutlaw23.EngineFinal", spec := "engineFinal", inPlace := ["internal/bytealg.abigen_runtime_cmpstring", "slices.overlaps[int64]"], unfollowed := true, recurses := true, named := ["lookout/formula.shapes", "lookout/three.not", "lookout/three.and", "lookout/three.iff"], loops := true, plainKeys := false, apart := false, laid := [("lookout/formula.shapes", laid_lookout_formula_shapes), ("lookout/three.not", laid_lookout_three_not), ("lookout/three.and", laid_lookout_three_and), ("lookout/three.iff", laid_lookout_three_iff)] }
def EngineFinalSaid : Prop := engineFinalRow.holds Tryz.pinned (OpenSpec.ofChange engineFinalSpec)

/-- ITS FALSE NEIGHBOUR: 'it returns false'. Refute it at one input. -/
def engineFinalWrong : ChangeSpec := { name := "engineFinal", fn := fun _ => fun
  | [d1, d2] => { results := [.lit (.bool false)], args := [d1, d2] }
  | _ => none }
def EngineFinalWrongFalsely : Prop := engineFinalRow.holds Tryz.pinned (OpenSpec.ofChange engineFinalWrong)

/-- 'lookoutlaw23.EngineLate': WHATEVER THE INPUT: true; the input reads as it did. -/
def engineLateSpec : ChangeSpec := { name := "engineLate", fn := fun _ => fun
  | [d1, d2] => { results := [.lit (.bool true)], args := [d1, d2] }
  | _ => none }
def engineLateRow : OpenClaim := { program := "ytoegdmpmagbaiaagreatdoor", sum := "616ae16205048702e54b575021f1445e2d8a29c683226951758a54eb3cd423d2", func := "lookout/lookoutlaw23.EngineLate", spec := "engineLate", inPlace := ["internal/bytealg.abigen_runtime_cmpstring", "slices.overlaps[int64]"], unfollowed := true, recurses := true, named := ["lookout/formula.shapes", "lookout/three.not", "lookout/three.and", "lookout/three.iff"], loops := true, plainKeys := false, apart := false, laid := [("lookout/formula.shapes", laid_lookout_formula_shapes), ("lookout/three.not", laid_lookout_three_not), ("lookout/three.and", laid_lookout_three_and), ("lookout/three.iff", laid_lookout_three_iff)] }
def EngineLateSaid : Prop := engineLateRow.holds Tryz.pinned (OpenSpec.ofChange engineLateSpec)

/-- ITS FALSE NEIGHBOUR: 'it returns false'. Refute it at one input. -/
def engineLateWrong : ChangeSpec := { name := "engineLate", fn := fun _ => fun
  | [d1, d2] => { results := [.lit (.bool false)], args := [d1, d2] }
  | _ => none }
def EngineLateWrongFalsely : Prop := engineLateRow.holds Tryz.pinned (OpenSpec.ofChange engineLateWrong)

/-- 'lookoutlaw23.EngineAll': WHATEVER THE INPUT: true; the input reads as it did. -/
def engineAllSpec : ChangeSpec := { name := "engineAll", fn := fun _ => fun
  | [d1, d2] => { results := [.lit (.bool true)], args := [d1, d2] }
  | _ => none }
def engineAllRow : OpenClaim := { program := "ytoegdmpmagbaiaagreatdoor", sum := "616ae16205048702e54b575021f1445e2d8a29c683226951758a54eb3cd423d2", func := "lookout/lookoutlaw23.EngineAll", spec := "engineAll", inPlace := ["internal/bytealg.abigen_runtime_cmpstring", "slices.overlaps[int64]"], unfollowed := true, recurses := true, named := ["lookout/formula.shapes", "lookout/three.not", "lookout/three.and", "lookout/three.iff"], loops := true, plainKeys := false, apart := false, laid := [("lookout/formula.shapes", laid_lookout_formula_shapes), ("lookout/three.not", laid_lookout_three_not), ("lookout/three.and", laid_lookout_three_and), ("lookout/three.iff", laid_lookout_three_iff)] }
def EngineAllSaid : Prop := engineAllRow.holds Tryz.pinned (OpenSpec.ofChange engineAllSpec)

/-- ITS FALSE NEIGHBOUR: 'it returns false'. Refute it at one input. -/
def engineAllWrong : ChangeSpec := { name := "engineAll", fn := fun _ => fun
  | [d1, d2] => { results := [.lit (.bool false)], args := [d1, d2] }
  | _ => none }
def EngineAllWrongFalsely : Prop := engineAllRow.holds Tryz.pinned (OpenSpec.ofChange engineAllWrong)

/-- 'lookoutlaw23.EngineDue': WHATEVER THE INPUT: true; the input reads as it did. -/
def engineDueSpec : ChangeSpec := { name := "engineDue", fn := fun _ => fun
  | [d1, d2] => { results := [.lit (.bool true)], args := [d1, d2] }
  | _ => none }
def engineDueRow : OpenClaim := { program := "ytoegdmpmagbaiaagreatdoor", sum := "616ae16205048702e54b575021f1445e2d8a29c683226951758a54eb3cd423d2", func := "lookout/lookoutlaw23.EngineDue", spec := "engineDue", inPlace := ["internal/bytealg.abigen_runtime_cmpstring", "slices.overlaps[int64]"], unfollowed := true, recurses := true, named := ["lookout/formula.shapes", "lookout/three.not", "lookout/three.and", "lookout/three.iff"], loops := true, plainKeys := false, apart := false, laid := [("lookout/formula.shapes", laid_lookout_formula_shapes), ("lookout/three.not", laid_lookout_three_not), ("lookout/three.and", laid_lookout_three_and), ("lookout/three.iff", laid_lookout_three_iff)] }
def EngineDueSaid : Prop := engineDueRow.holds Tryz.pinned (OpenSpec.ofChange engineDueSpec)

/-- ITS FALSE NEIGHBOUR: 'it returns false'. Refute it at one input. -/
def engineDueWrong : ChangeSpec := { name := "engineDue", fn := fun _ => fun
  | [d1, d2] => { results := [.lit (.bool false)], args := [d1, d2] }
  | _ => none }
def EngineDueWrongFalsely : Prop := engineDueRow.holds Tryz.pinned (OpenSpec.ofChange engineDueWrong)

/- THE SECOND FORM. 'bulk': how many values and letters a reading holds, each counted each time it is reached (what is shared counts as often as it is met; a slice's spare places count too). A statement '..UptoSaid' is the law's where the arguments, and the package variables that the reading takes, are together of bulk at most 1048576: NARROWER than '..Said'. Prove '..Said' where nothing that the law and all that it calls make is longer than what came in: it says more and counts as full. Else prove '..UptoSaid'. A law counts once. -/
mutual
def uptoBulk {H : Type} : DataW H → Nat
  | .lit (.string bytes) => bytes.length + 1
  | .lit _ => 1
  | .nil => 1
  | .ptr d => uptoBulk d + 1
  | .slice elems spare => uptoBulkAll elems + uptoBulkAll spare + 1
  | .agg parts => uptoBulkAll parts + 1
  | .iface _ d => uptoBulk d + 1
  | .map entries => uptoBulkEntries entries + 1
  | .held _ => 1
def uptoBulkAll {H : Type} : List (DataW H) → Nat
  | [] => 0
  | d :: r => uptoBulk d + uptoBulkAll r
def uptoBulkEntries {H : Type} : List (Lit × DataW H) → Nat
  | [] => 0
  | x :: r => uptoBulkEntry x + uptoBulkEntries r
def uptoBulkEntry {H : Type} : Lit × DataW H → Nat
  | (.string bytes, d) => bytes.length + uptoBulk d + 1
  | (_, d) => uptoBulk d + 1
 end
def uptoSmall : (H : Type) → List (DataW H) → Bool := fun _ ds => decide (uptoBulkAll ds ≤ 1048576)
def OpenSpec.upto (s : _root_.Go.ChangeSpec) : _root_.Go.OpenSpec := { _root_.Go.OpenSpec.ofChange s with cond := some uptoSmall }

/-- 'lookoutlaw23.EnginePlays', WHERE WHAT IT READS IS OF BULK AT MOST 1048576: true; the input reads as it did. -/
def enginePlaysUptoRow : OpenClaim := { program := "ytoegdmpmagbaiaagreatdoor", sum := "616ae16205048702e54b575021f1445e2d8a29c683226951758a54eb3cd423d2", func := "lookout/lookoutlaw23.EnginePlays", spec := "enginePlays", inPlace := ["internal/bytealg.abigen_runtime_cmpstring", "slices.overlaps[int64]"], unfollowed := true, recurses := true, named := ["lookout/formula.shapes", "lookout/three.not", "lookout/three.and", "lookout/three.iff"], loops := true, plainKeys := false, apart := false, laid := [("lookout/formula.shapes", laid_lookout_formula_shapes), ("lookout/three.not", laid_lookout_three_not), ("lookout/three.and", laid_lookout_three_and), ("lookout/three.iff", laid_lookout_three_iff)], narrowed := true }
def EnginePlaysUptoSaid : Prop := enginePlaysUptoRow.holds Tryz.pinned (OpenSpec.upto enginePlaysSpec)

/-- 'lookoutlaw23.EngineFinal', WHERE WHAT IT READS IS OF BULK AT MOST 1048576: true; the input reads as it did. -/
def engineFinalUptoRow : OpenClaim := { program := "ytoegdmpmagbaiaagreatdoor", sum := "616ae16205048702e54b575021f1445e2d8a29c683226951758a54eb3cd423d2", func := "lookout/lookoutlaw23.EngineFinal", spec := "engineFinal", inPlace := ["internal/bytealg.abigen_runtime_cmpstring", "slices.overlaps[int64]"], unfollowed := true, recurses := true, named := ["lookout/formula.shapes", "lookout/three.not", "lookout/three.and", "lookout/three.iff"], loops := true, plainKeys := false, apart := false, laid := [("lookout/formula.shapes", laid_lookout_formula_shapes), ("lookout/three.not", laid_lookout_three_not), ("lookout/three.and", laid_lookout_three_and), ("lookout/three.iff", laid_lookout_three_iff)], narrowed := true }
def EngineFinalUptoSaid : Prop := engineFinalUptoRow.holds Tryz.pinned (OpenSpec.upto engineFinalSpec)

/-- 'lookoutlaw23.EngineLate', WHERE WHAT IT READS IS OF BULK AT MOST 1048576: true; the input reads as it did. -/
def engineLateUptoRow : OpenClaim := { program := "ytoegdmpmagbaiaagreatdoor", sum := "616ae16205048702e54b575021f1445e2d8a29c683226951758a54eb3cd423d2", func := "lookout/lookoutlaw23.EngineLate", spec := "engineLate", inPlace := ["internal/bytealg.abigen_runtime_cmpstring", "slices.overlaps[int64]"], unfollowed := true, recurses := true, named := ["lookout/formula.shapes", "lookout/three.not", "lookout/three.and", "lookout/three.iff"], loops := true, plainKeys := false, apart := false, laid := [("lookout/formula.shapes", laid_lookout_formula_shapes), ("lookout/three.not", laid_lookout_three_not), ("lookout/three.and", laid_lookout_three_and), ("lookout/three.iff", laid_lookout_three_iff)], narrowed := true }
def EngineLateUptoSaid : Prop := engineLateUptoRow.holds Tryz.pinned (OpenSpec.upto engineLateSpec)

/-- 'lookoutlaw23.EngineAll', WHERE WHAT IT READS IS OF BULK AT MOST 1048576: true; the input reads as it did. -/
def engineAllUptoRow : OpenClaim := { program := "ytoegdmpmagbaiaagreatdoor", sum := "616ae16205048702e54b575021f1445e2d8a29c683226951758a54eb3cd423d2", func := "lookout/lookoutlaw23.EngineAll", spec := "engineAll", inPlace := ["internal/bytealg.abigen_runtime_cmpstring", "slices.overlaps[int64]"], unfollowed := true, recurses := true, named := ["lookout/formula.shapes", "lookout/three.not", "lookout/three.and", "lookout/three.iff"], loops := true, plainKeys := false, apart := false, laid := [("lookout/formula.shapes", laid_lookout_formula_shapes), ("lookout/three.not", laid_lookout_three_not), ("lookout/three.and", laid_lookout_three_and), ("lookout/three.iff", laid_lookout_three_iff)], narrowed := true }
def EngineAllUptoSaid : Prop := engineAllUptoRow.holds Tryz.pinned (OpenSpec.upto engineAllSpec)

/-- 'lookoutlaw23.EngineDue', WHERE WHAT IT READS IS OF BULK AT MOST 1048576: true; the input reads as it did. -/
def engineDueUptoRow : OpenClaim := { program := "ytoegdmpmagbaiaagreatdoor", sum := "616ae16205048702e54b575021f1445e2d8a29c683226951758a54eb3cd423d2", func := "lookout/lookoutlaw23.EngineDue", spec := "engineDue", inPlace := ["internal/bytealg.abigen_runtime_cmpstring", "slices.overlaps[int64]"], unfollowed := true, recurses := true, named := ["lookout/formula.shapes", "lookout/three.not", "lookout/three.and", "lookout/three.iff"], loops := true, plainKeys := false, apart := false, laid := [("lookout/formula.shapes", laid_lookout_formula_shapes), ("lookout/three.not", laid_lookout_three_not), ("lookout/three.and", laid_lookout_three_and), ("lookout/three.iff", laid_lookout_three_iff)], narrowed := true }
def EngineDueUptoSaid : Prop := engineDueUptoRow.holds Tryz.pinned (OpenSpec.upto engineDueSpec)

end Rows
end Go.Proofs.YtoegdmpmagbaiaaGreatDoor
