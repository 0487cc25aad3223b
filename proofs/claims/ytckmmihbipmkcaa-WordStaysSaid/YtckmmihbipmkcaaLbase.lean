/- How a value stands to an atom's, how two propositions stand. -/
import Derived.Test.YtckmmihbipmkcaaLname
import Derived.Test.YtckmmihbipmkcaaOpen
namespace Go.Proofs.Ytckmmihbipmkcaa
open Go.RowKit

structure PP where
  name : ByteArray
  value : Int
def pcs (p : PP) : List Value := [.string p.name, .int .i64 p.value]
theorem pcs_len (p : PP) : (pcs p).length = 2 := rfl

def meets (v op x : Int) : Bool :=
  if op = 0 then true else if op = 1 then v == x else if op = 2 then v != x else if op = 3 then decide (v < x) else if op = 4 then decide (v ≤ x) else if op = 5 then decide (x < v) else if op = 6 then decide (x ≤ v) else false


end Go.Proofs.Ytckmmihbipmkcaa
