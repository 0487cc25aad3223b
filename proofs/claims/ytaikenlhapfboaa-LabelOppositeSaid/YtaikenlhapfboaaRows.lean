/-
  No cell of these rows narrows 'for every input' (looked for: loops, veiled, ifaces, maps, wideKeys, modest, calm, conditions, laid).
  DERIVED. THE GIVEN ROWS OF THIS SEAT. 6 by the template 'for every input the law returns true; each argument reads behind the call as it read before'; 0 by the template 'total and deterministic' (their statements: YtaikenlhapfboaaTotals.lean).
  GIVEN WITH THE SEED: the statements are not yours to turn. If you find one false, say at which input.
  Laid BY PROGRAM, IN A SANDBOX (cutbox-rows.mjs): the forced cells as the released guide's own fill.sh prints them over the translation ae331f7bbcdc5441… (all of the seat's roots in one cut). By AI agents, Wed Nov 11 2026. No macro, syntax, notation, axiom, sorry.
-/
import Derived.Test.YtaikenlhapfboaaChecked
import GoSem.Claim
import GoSem.ClaimJoined
import GoSem.ClaimMapViews
import Derived.JoinedTies
import Derived.KernelRfl
namespace Go.Proofs.Ytaikenlhapfboaa
/- THE CELL 'sum', in the pinned program and in every row, IS THE sha256 OF THE DUMP (.gsa) THAT YtaikenlhapfboaaProg.lean LOADS. Nothing in Lean hashes anything: it is a label: what it is worth is what the hold of that sum in a sandbox is worth. -/
noncomputable def Try.pinned : Pinned := { name := "ytaikenlhapfboaa", sum := "ae331f7bbcdc5441a4c0cde05b6057d25ffb84d6f4671c935830a42de51503ca", checked := Try.checked }
namespace Rows
def none {H : Type} : Left H := { results := [], args := [] }

/-- 'lookoutlaw05.LabelNames': WHATEVER THE INPUT: true; the input reads as it did. -/
def labelNamesSpec : ChangeSpec := { name := "labelNames", fn := fun _ => fun
  | [d] => { results := [.lit (.bool true)], args := [d] }
  | _ => none }
def labelNamesRow : OpenClaim := { program := "ytaikenlhapfboaa", sum := "ae331f7bbcdc5441a4c0cde05b6057d25ffb84d6f4671c935830a42de51503ca", func := "lookout/lookoutlaw05.LabelNames", spec := "labelNames", inPlace := ["internal/bytealg.abigen_runtime_cmpstring"], unfollowed := true, recurses := true, apart := false }
def LabelNamesSaid : Prop := labelNamesRow.holds Try.pinned (OpenSpec.ofChange labelNamesSpec)

/-- ITS FALSE NEIGHBOUR: 'it returns false'. Refute it at one input. -/
def labelNamesWrong : ChangeSpec := { name := "labelNames", fn := fun _ => fun
  | [d] => { results := [.lit (.bool false)], args := [d] }
  | _ => none }
def LabelNamesWrongFalsely : Prop := labelNamesRow.holds Try.pinned (OpenSpec.ofChange labelNamesWrong)

/-- 'lookoutlaw05.LabelHolds': WHATEVER THE INPUT: true; the input reads as it did. -/
def labelHoldsSpec : ChangeSpec := { name := "labelHolds", fn := fun _ => fun
  | [d1, d2] => { results := [.lit (.bool true)], args := [d1, d2] }
  | _ => none }
def labelHoldsRow : OpenClaim := { program := "ytaikenlhapfboaa", sum := "ae331f7bbcdc5441a4c0cde05b6057d25ffb84d6f4671c935830a42de51503ca", func := "lookout/lookoutlaw05.LabelHolds", spec := "labelHolds", inPlace := ["internal/bytealg.abigen_runtime_cmpstring"], unfollowed := true, recurses := true, apart := false }
def LabelHoldsSaid : Prop := labelHoldsRow.holds Try.pinned (OpenSpec.ofChange labelHoldsSpec)

/-- ITS FALSE NEIGHBOUR: 'it returns false'. Refute it at one input. -/
def labelHoldsWrong : ChangeSpec := { name := "labelHolds", fn := fun _ => fun
  | [d1, d2] => { results := [.lit (.bool false)], args := [d1, d2] }
  | _ => none }
def LabelHoldsWrongFalsely : Prop := labelHoldsRow.holds Try.pinned (OpenSpec.ofChange labelHoldsWrong)

/-- 'lookoutlaw05.LabelOpposite': WHATEVER THE INPUT: true; the input reads as it did. -/
def labelOppositeSpec : ChangeSpec := { name := "labelOpposite", fn := fun _ => fun
  | [d1, d2, d3] => { results := [.lit (.bool true)], args := [d1, d2, d3] }
  | _ => none }
def labelOppositeRow : OpenClaim := { program := "ytaikenlhapfboaa", sum := "ae331f7bbcdc5441a4c0cde05b6057d25ffb84d6f4671c935830a42de51503ca", func := "lookout/lookoutlaw05.LabelOpposite", spec := "labelOpposite", inPlace := ["internal/bytealg.abigen_runtime_cmpstring"], unfollowed := true, recurses := true, apart := false }
def LabelOppositeSaid : Prop := labelOppositeRow.holds Try.pinned (OpenSpec.ofChange labelOppositeSpec)

/-- ITS FALSE NEIGHBOUR: 'it returns false'. Refute it at one input. -/
def labelOppositeWrong : ChangeSpec := { name := "labelOpposite", fn := fun _ => fun
  | [d1, d2, d3] => { results := [.lit (.bool false)], args := [d1, d2, d3] }
  | _ => none }
def LabelOppositeWrongFalsely : Prop := labelOppositeRow.holds Try.pinned (OpenSpec.ofChange labelOppositeWrong)

/-- 'lookoutlaw05.LabelOf': WHATEVER THE INPUT: true; the input reads as it did. -/
def labelOfSpec : ChangeSpec := { name := "labelOf", fn := fun _ => fun
  | [d1, d2] => { results := [.lit (.bool true)], args := [d1, d2] }
  | _ => none }
def labelOfRow : OpenClaim := { program := "ytaikenlhapfboaa", sum := "ae331f7bbcdc5441a4c0cde05b6057d25ffb84d6f4671c935830a42de51503ca", func := "lookout/lookoutlaw05.LabelOf", spec := "labelOf", inPlace := ["internal/bytealg.abigen_runtime_cmpstring"], unfollowed := true, recurses := true, apart := false }
def LabelOfSaid : Prop := labelOfRow.holds Try.pinned (OpenSpec.ofChange labelOfSpec)

/-- ITS FALSE NEIGHBOUR: 'it returns false'. Refute it at one input. -/
def labelOfWrong : ChangeSpec := { name := "labelOf", fn := fun _ => fun
  | [d1, d2] => { results := [.lit (.bool false)], args := [d1, d2] }
  | _ => none }
def LabelOfWrongFalsely : Prop := labelOfRow.holds Try.pinned (OpenSpec.ofChange labelOfWrong)

/-- 'lookoutlaw05.LabelUnion': WHATEVER THE INPUT: true; the input reads as it did. -/
def labelUnionSpec : ChangeSpec := { name := "labelUnion", fn := fun _ => fun
  | [d1, d2, d3] => { results := [.lit (.bool true)], args := [d1, d2, d3] }
  | _ => none }
def labelUnionRow : OpenClaim := { program := "ytaikenlhapfboaa", sum := "ae331f7bbcdc5441a4c0cde05b6057d25ffb84d6f4671c935830a42de51503ca", func := "lookout/lookoutlaw05.LabelUnion", spec := "labelUnion", inPlace := ["internal/bytealg.abigen_runtime_cmpstring"], unfollowed := true, recurses := true, apart := false }
def LabelUnionSaid : Prop := labelUnionRow.holds Try.pinned (OpenSpec.ofChange labelUnionSpec)

/-- ITS FALSE NEIGHBOUR: 'it returns false'. Refute it at one input. -/
def labelUnionWrong : ChangeSpec := { name := "labelUnion", fn := fun _ => fun
  | [d1, d2, d3] => { results := [.lit (.bool false)], args := [d1, d2, d3] }
  | _ => none }
def LabelUnionWrongFalsely : Prop := labelUnionRow.holds Try.pinned (OpenSpec.ofChange labelUnionWrong)

/-- 'lookoutlaw05.LabelGrows': WHATEVER THE INPUT: true; the input reads as it did. -/
def labelGrowsSpec : ChangeSpec := { name := "labelGrows", fn := fun _ => fun
  | [d1, d2, d3] => { results := [.lit (.bool true)], args := [d1, d2, d3] }
  | _ => none }
def labelGrowsRow : OpenClaim := { program := "ytaikenlhapfboaa", sum := "ae331f7bbcdc5441a4c0cde05b6057d25ffb84d6f4671c935830a42de51503ca", func := "lookout/lookoutlaw05.LabelGrows", spec := "labelGrows", inPlace := ["internal/bytealg.abigen_runtime_cmpstring"], unfollowed := true, recurses := true, apart := false }
def LabelGrowsSaid : Prop := labelGrowsRow.holds Try.pinned (OpenSpec.ofChange labelGrowsSpec)

/-- ITS FALSE NEIGHBOUR: 'it returns false'. Refute it at one input. -/
def labelGrowsWrong : ChangeSpec := { name := "labelGrows", fn := fun _ => fun
  | [d1, d2, d3] => { results := [.lit (.bool false)], args := [d1, d2, d3] }
  | _ => none }
def LabelGrowsWrongFalsely : Prop := labelGrowsRow.holds Try.pinned (OpenSpec.ofChange labelGrowsWrong)

/- THE SECOND FORM. 'bulk': how many values and letters a reading holds, each counted each time it is reached (what is shared counts as often as it is met; a slice's spare places count too). A statement '..UptoSaid' is the law's where the arguments, and the package variables that the reading takes, are together of bulk at most 1048576: NARROWER than '..Said'. Prove '..Said' where nothing that the law and all that it calls make is longer than what came in: it says more and counts as full. Else prove '..UptoSaid'. A law counts once. -/
mutual
def uptoBulk {H : Type} : DataW H → Nat
  | .lit (.string bytes) => bytes.length + 1
  | .lit _ => 1
  | .nil => 1
  | .ptr d => uptoBulk d + 1
  | .slice elems spare => uptoBulkAll elems + uptoBulkAll spare + 1
  | .agg parts => uptoBulkAll parts + 1
  | .iface _ d => uptoBulk d + 1
  | .map entries => uptoBulkEntries entries + 1
  | .held _ => 1
def uptoBulkAll {H : Type} : List (DataW H) → Nat
  | [] => 0
  | d :: r => uptoBulk d + uptoBulkAll r
def uptoBulkEntries {H : Type} : List (Lit × DataW H) → Nat
  | [] => 0
  | x :: r => uptoBulkEntry x + uptoBulkEntries r
def uptoBulkEntry {H : Type} : Lit × DataW H → Nat
  | (.string bytes, d) => bytes.length + uptoBulk d + 1
  | (_, d) => uptoBulk d + 1
 end
def uptoSmall : (H : Type) → List (DataW H) → Bool := fun _ ds => decide (uptoBulkAll ds ≤ 1048576)
def OpenSpec.upto (s : _root_.Go.ChangeSpec) : _root_.Go.OpenSpec := { _root_.Go.OpenSpec.ofChange s with cond := some uptoSmall }

/-- 'lookoutlaw05.LabelNames', WHERE WHAT IT READS IS OF BULK AT MOST 1048576: true; the input reads as it did. -/
def labelNamesUptoRow : OpenClaim := { program := "ytaikenlhapfboaa", sum := "ae331f7bbcdc5441a4c0cde05b6057d25ffb84d6f4671c935830a42de51503ca", func := "lookout/lookoutlaw05.LabelNames", spec := "labelNames", inPlace := ["internal/bytealg.abigen_runtime_cmpstring"], unfollowed := true, recurses := true, apart := false, narrowed := true }
def LabelNamesUptoSaid : Prop := labelNamesUptoRow.holds Try.pinned (OpenSpec.upto labelNamesSpec)

/-- 'lookoutlaw05.LabelHolds', WHERE WHAT IT READS IS OF BULK AT MOST 1048576: true; the input reads as it did. -/
def labelHoldsUptoRow : OpenClaim := { program := "ytaikenlhapfboaa", sum := "ae331f7bbcdc5441a4c0cde05b6057d25ffb84d6f4671c935830a42de51503ca", func := "lookout/lookoutlaw05.LabelHolds", spec := "labelHolds", inPlace := ["internal/bytealg.abigen_runtime_cmpstring"], unfollowed := true, recurses := true, apart := false, narrowed := true }
def LabelHoldsUptoSaid : Prop := labelHoldsUptoRow.holds Try.pinned (OpenSpec.upto labelHoldsSpec)

/-- 'lookoutlaw05.LabelOpposite', WHERE WHAT IT READS IS OF BULK AT MOST 1048576: true; the input reads as it did. -/
def labelOppositeUptoRow : OpenClaim := { program := "ytaikenlhapfboaa", sum := "ae331f7bbcdc5441a4c0cde05b6057d25ffb84d6f4671c935830a42de51503ca", func := "lookout/lookoutlaw05.LabelOpposite", spec := "labelOpposite", inPlace := ["internal/bytealg.abigen_runtime_cmpstring"], unfollowed := true, recurses := true, apart := false, narrowed := true }
def LabelOppositeUptoSaid : Prop := labelOppositeUptoRow.holds Try.pinned (OpenSpec.upto labelOppositeSpec)

/-- 'lookoutlaw05.LabelOf', WHERE WHAT IT READS IS OF BULK AT MOST 1048576: true; the input reads as it did. -/
def labelOfUptoRow : OpenClaim := { program := "ytaikenlhapfboaa", sum := "ae331f7bbcdc5441a4c0cde05b6057d25ffb84d6f4671c935830a42de51503ca", func := "lookout/lookoutlaw05.LabelOf", spec := "labelOf", inPlace := ["internal/bytealg.abigen_runtime_cmpstring"], unfollowed := true, recurses := true, apart := false, narrowed := true }
def LabelOfUptoSaid : Prop := labelOfUptoRow.holds Try.pinned (OpenSpec.upto labelOfSpec)

/-- 'lookoutlaw05.LabelUnion', WHERE WHAT IT READS IS OF BULK AT MOST 1048576: true; the input reads as it did. -/
def labelUnionUptoRow : OpenClaim := { program := "ytaikenlhapfboaa", sum := "ae331f7bbcdc5441a4c0cde05b6057d25ffb84d6f4671c935830a42de51503ca", func := "lookout/lookoutlaw05.LabelUnion", spec := "labelUnion", inPlace := ["internal/bytealg.abigen_runtime_cmpstring"], unfollowed := true, recurses := true, apart := false, narrowed := true }
def LabelUnionUptoSaid : Prop := labelUnionUptoRow.holds Try.pinned (OpenSpec.upto labelUnionSpec)

/-- 'lookoutlaw05.LabelGrows', WHERE WHAT IT READS IS OF BULK AT MOST 1048576: true; the input reads as it did. -/
def labelGrowsUptoRow : OpenClaim := { program := "ytaikenlhapfboaa", sum := "ae331f7bbcdc5441a4c0cde05b6057d25ffb84d6f4671c935830a42de51503ca", func := "lookout/lookoutlaw05.LabelGrows", spec := "labelGrows", inPlace := ["internal/bytealg.abigen_runtime_cmpstring"], unfollowed := true, recurses := true, apart := false, narrowed := true }
def LabelGrowsUptoSaid : Prop := labelGrowsUptoRow.holds Try.pinned (OpenSpec.upto labelGrowsSpec)

end Rows
end Go.Proofs.Ytaikenlhapfboaa
