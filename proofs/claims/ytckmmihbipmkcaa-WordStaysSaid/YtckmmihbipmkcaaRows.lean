/-
  No cell of these rows narrows 'for every input' (looked for: loops, veiled, ifaces, maps, wideKeys, modest, calm, conditions, laid).
  DERIVED. THE GIVEN ROWS OF THIS SEAT. 5 by the template 'for every input the law returns true; each argument reads behind the call as it read before'; 0 by the template 'total and deterministic' (their statements: YtckmmihbipmkcaaTotals.lean).
  GIVEN WITH THE SEED: the statements are not yours to turn. If you find one false, say at which input.
  Laid BY PROGRAM, IN A SANDBOX (cutbox-rows.mjs): the forced cells as the released guide's own fill.sh prints them over the translation 41af070fced013bc… (all of the seat's roots in one cut). By AI agents, Wed Nov 11 2026. No macro, syntax, notation, axiom, sorry.
-/
import Derived.Test.YtckmmihbipmkcaaChecked
import GoSem.Claim
import GoSem.ClaimJoined
import GoSem.ClaimMapViews
import Derived.JoinedTies
import Derived.KernelRfl
namespace Go.Proofs.Ytckmmihbipmkcaa
/- THE CELL 'sum', in the pinned program and in every row, IS THE sha256 OF THE DUMP (.gsa) THAT YtckmmihbipmkcaaProg.lean LOADS. Nothing in Lean hashes anything: it is a label: what it is worth is what the hold of that sum in a sandbox is worth. -/
noncomputable def Try.pinned : Pinned := { name := "ytckmmihbipmkcaa", sum := "41af070fced013bc8d17d3be9af07ee4c478c10b7e1afedfa2cc14c0d7cf48a9", checked := Try.checked }
namespace Rows
def none {H : Type} : Left H := { results := [], args := [] }

/-- 'lookoutlaw12.WordPuts': WHATEVER THE INPUT: true; the input reads as it did. -/
def wordPutsSpec : ChangeSpec := { name := "wordPuts", fn := fun _ => fun
  | [d] => { results := [.lit (.bool true)], args := [d] }
  | _ => none }
def wordPutsRow : OpenClaim := { program := "ytckmmihbipmkcaa", sum := "41af070fced013bc8d17d3be9af07ee4c478c10b7e1afedfa2cc14c0d7cf48a9", func := "lookout/lookoutlaw12.WordPuts", spec := "wordPuts", inPlace := ["internal/bytealg.abigen_runtime_cmpstring"], unfollowed := true, recurses := true, apart := false }
def WordPutsSaid : Prop := wordPutsRow.holds Try.pinned (OpenSpec.ofChange wordPutsSpec)

/-- ITS FALSE NEIGHBOUR: 'it returns false'. Refute it at one input. -/
def wordPutsWrong : ChangeSpec := { name := "wordPuts", fn := fun _ => fun
  | [d] => { results := [.lit (.bool false)], args := [d] }
  | _ => none }
def WordPutsWrongFalsely : Prop := wordPutsRow.holds Try.pinned (OpenSpec.ofChange wordPutsWrong)

/-- 'lookoutlaw12.WordRaw': WHATEVER THE INPUT: true; the input reads as it did. -/
def wordRawSpec : ChangeSpec := { name := "wordRaw", fn := fun _ => fun
  | [d1, d2, d3, d4] => { results := [.lit (.bool true)], args := [d1, d2, d3, d4] }
  | _ => none }
def wordRawRow : OpenClaim := { program := "ytckmmihbipmkcaa", sum := "41af070fced013bc8d17d3be9af07ee4c478c10b7e1afedfa2cc14c0d7cf48a9", func := "lookout/lookoutlaw12.WordRaw", spec := "wordRaw", inPlace := ["internal/bytealg.abigen_runtime_cmpstring"], unfollowed := true, recurses := true, apart := false }
def WordRawSaid : Prop := wordRawRow.holds Try.pinned (OpenSpec.ofChange wordRawSpec)

/-- ITS FALSE NEIGHBOUR: 'it returns false'. Refute it at one input. -/
def wordRawWrong : ChangeSpec := { name := "wordRaw", fn := fun _ => fun
  | [d1, d2, d3, d4] => { results := [.lit (.bool false)], args := [d1, d2, d3, d4] }
  | _ => none }
def WordRawWrongFalsely : Prop := wordRawRow.holds Try.pinned (OpenSpec.ofChange wordRawWrong)

/-- 'lookoutlaw12.WordOrder': WHATEVER THE INPUT: true; the input reads as it did. -/
def wordOrderSpec : ChangeSpec := { name := "wordOrder", fn := fun _ => fun
  | [d1, d2] => { results := [.lit (.bool true)], args := [d1, d2] }
  | _ => none }
def wordOrderRow : OpenClaim := { program := "ytckmmihbipmkcaa", sum := "41af070fced013bc8d17d3be9af07ee4c478c10b7e1afedfa2cc14c0d7cf48a9", func := "lookout/lookoutlaw12.WordOrder", spec := "wordOrder", inPlace := ["internal/bytealg.abigen_runtime_cmpstring"], unfollowed := true, recurses := true, apart := false }
def WordOrderSaid : Prop := wordOrderRow.holds Try.pinned (OpenSpec.ofChange wordOrderSpec)

/-- ITS FALSE NEIGHBOUR: 'it returns false'. Refute it at one input. -/
def wordOrderWrong : ChangeSpec := { name := "wordOrder", fn := fun _ => fun
  | [d1, d2] => { results := [.lit (.bool false)], args := [d1, d2] }
  | _ => none }
def WordOrderWrongFalsely : Prop := wordOrderRow.holds Try.pinned (OpenSpec.ofChange wordOrderWrong)

/-- 'lookoutlaw12.WordFrom': WHATEVER THE INPUT: true; the input reads as it did. -/
def wordFromSpec : ChangeSpec := { name := "wordFrom", fn := fun _ => fun
  | [d1, d2] => { results := [.lit (.bool true)], args := [d1, d2] }
  | _ => none }
def wordFromRow : OpenClaim := { program := "ytckmmihbipmkcaa", sum := "41af070fced013bc8d17d3be9af07ee4c478c10b7e1afedfa2cc14c0d7cf48a9", func := "lookout/lookoutlaw12.WordFrom", spec := "wordFrom", inPlace := ["internal/bytealg.abigen_runtime_cmpstring"], unfollowed := true, recurses := true, apart := false }
def WordFromSaid : Prop := wordFromRow.holds Try.pinned (OpenSpec.ofChange wordFromSpec)

/-- ITS FALSE NEIGHBOUR: 'it returns false'. Refute it at one input. -/
def wordFromWrong : ChangeSpec := { name := "wordFrom", fn := fun _ => fun
  | [d1, d2] => { results := [.lit (.bool false)], args := [d1, d2] }
  | _ => none }
def WordFromWrongFalsely : Prop := wordFromRow.holds Try.pinned (OpenSpec.ofChange wordFromWrong)

/-- 'lookoutlaw12.WordStays': WHATEVER THE INPUT: true; the input reads as it did. -/
def wordStaysSpec : ChangeSpec := { name := "wordStays", fn := fun _ => fun
  | [d1, d2, d3] => { results := [.lit (.bool true)], args := [d1, d2, d3] }
  | _ => none }
def wordStaysRow : OpenClaim := { program := "ytckmmihbipmkcaa", sum := "41af070fced013bc8d17d3be9af07ee4c478c10b7e1afedfa2cc14c0d7cf48a9", func := "lookout/lookoutlaw12.WordStays", spec := "wordStays", inPlace := ["internal/bytealg.abigen_runtime_cmpstring"], unfollowed := true, recurses := true, apart := false }
def WordStaysSaid : Prop := wordStaysRow.holds Try.pinned (OpenSpec.ofChange wordStaysSpec)

/-- ITS FALSE NEIGHBOUR: 'it returns false'. Refute it at one input. -/
def wordStaysWrong : ChangeSpec := { name := "wordStays", fn := fun _ => fun
  | [d1, d2, d3] => { results := [.lit (.bool false)], args := [d1, d2, d3] }
  | _ => none }
def WordStaysWrongFalsely : Prop := wordStaysRow.holds Try.pinned (OpenSpec.ofChange wordStaysWrong)

/- THE SECOND FORM. 'bulk': how many values and letters a reading holds, each counted each time it is reached (what is shared counts as often as it is met; a slice's spare places count too). A statement '..UptoSaid' is the law's where the arguments, and the package variables that the reading takes, are together of bulk at most 1048576: NARROWER than '..Said'. Prove '..Said' where nothing that the law and all that it calls make is longer than what came in: it says more and counts as full. Else prove '..UptoSaid'. A law counts once. -/
mutual
def uptoBulk {H : Type} : DataW H → Nat
  | .lit (.string bytes) => bytes.length + 1
  | .lit _ => 1
  | .nil => 1
  | .ptr d => uptoBulk d + 1
  | .slice elems spare => uptoBulkAll elems + uptoBulkAll spare + 1
  | .agg parts => uptoBulkAll parts + 1
  | .iface _ d => uptoBulk d + 1
  | .map entries => uptoBulkEntries entries + 1
  | .held _ => 1
def uptoBulkAll {H : Type} : List (DataW H) → Nat
  | [] => 0
  | d :: r => uptoBulk d + uptoBulkAll r
def uptoBulkEntries {H : Type} : List (Lit × DataW H) → Nat
  | [] => 0
  | x :: r => uptoBulkEntry x + uptoBulkEntries r
def uptoBulkEntry {H : Type} : Lit × DataW H → Nat
  | (.string bytes, d) => bytes.length + uptoBulk d + 1
  | (_, d) => uptoBulk d + 1
 end
def uptoSmall : (H : Type) → List (DataW H) → Bool := fun _ ds => decide (uptoBulkAll ds ≤ 1048576)
def OpenSpec.upto (s : _root_.Go.ChangeSpec) : _root_.Go.OpenSpec := { _root_.Go.OpenSpec.ofChange s with cond := some uptoSmall }

/-- 'lookoutlaw12.WordPuts', WHERE WHAT IT READS IS OF BULK AT MOST 1048576: true; the input reads as it did. -/
def wordPutsUptoRow : OpenClaim := { program := "ytckmmihbipmkcaa", sum := "41af070fced013bc8d17d3be9af07ee4c478c10b7e1afedfa2cc14c0d7cf48a9", func := "lookout/lookoutlaw12.WordPuts", spec := "wordPuts", inPlace := ["internal/bytealg.abigen_runtime_cmpstring"], unfollowed := true, recurses := true, apart := false, narrowed := true }
def WordPutsUptoSaid : Prop := wordPutsUptoRow.holds Try.pinned (OpenSpec.upto wordPutsSpec)

/-- 'lookoutlaw12.WordRaw', WHERE WHAT IT READS IS OF BULK AT MOST 1048576: true; the input reads as it did. -/
def wordRawUptoRow : OpenClaim := { program := "ytckmmihbipmkcaa", sum := "41af070fced013bc8d17d3be9af07ee4c478c10b7e1afedfa2cc14c0d7cf48a9", func := "lookout/lookoutlaw12.WordRaw", spec := "wordRaw", inPlace := ["internal/bytealg.abigen_runtime_cmpstring"], unfollowed := true, recurses := true, apart := false, narrowed := true }
def WordRawUptoSaid : Prop := wordRawUptoRow.holds Try.pinned (OpenSpec.upto wordRawSpec)

/-- 'lookoutlaw12.WordOrder', WHERE WHAT IT READS IS OF BULK AT MOST 1048576: true; the input reads as it did. -/
def wordOrderUptoRow : OpenClaim := { program := "ytckmmihbipmkcaa", sum := "41af070fced013bc8d17d3be9af07ee4c478c10b7e1afedfa2cc14c0d7cf48a9", func := "lookout/lookoutlaw12.WordOrder", spec := "wordOrder", inPlace := ["internal/bytealg.abigen_runtime_cmpstring"], unfollowed := true, recurses := true, apart := false, narrowed := true }
def WordOrderUptoSaid : Prop := wordOrderUptoRow.holds Try.pinned (OpenSpec.upto wordOrderSpec)

/-- 'lookoutlaw12.WordFrom', WHERE WHAT IT READS IS OF BULK AT MOST 1048576: true; the input reads as it did. -/
def wordFromUptoRow : OpenClaim := { program := "ytckmmihbipmkcaa", sum := "41af070fced013bc8d17d3be9af07ee4c478c10b7e1afedfa2cc14c0d7cf48a9", func := "lookout/lookoutlaw12.WordFrom", spec := "wordFrom", inPlace := ["internal/bytealg.abigen_runtime_cmpstring"], unfollowed := true, recurses := true, apart := false, narrowed := true }
def WordFromUptoSaid : Prop := wordFromUptoRow.holds Try.pinned (OpenSpec.upto wordFromSpec)

/-- 'lookoutlaw12.WordStays', WHERE WHAT IT READS IS OF BULK AT MOST 1048576: true; the input reads as it did. -/
def wordStaysUptoRow : OpenClaim := { program := "ytckmmihbipmkcaa", sum := "41af070fced013bc8d17d3be9af07ee4c478c10b7e1afedfa2cc14c0d7cf48a9", func := "lookout/lookoutlaw12.WordStays", spec := "wordStays", inPlace := ["internal/bytealg.abigen_runtime_cmpstring"], unfollowed := true, recurses := true, apart := false, narrowed := true }
def WordStaysUptoSaid : Prop := wordStaysUptoRow.holds Try.pinned (OpenSpec.upto wordStaysSpec)

end Rows
end Go.Proofs.Ytckmmihbipmkcaa
