/- ThreeLast: under the last moment as the mark all is known, as it holds; what a formula becomes is known as the formula is. -/
import Derived.Test.YtoegdmpmagbaiaaGreatDoorKT
import Derived.Test.YtoegdmpmagbaiaaGreatDoorQH27
import Derived.Test.YtoegdmpmagbaiaaGreatDoorKE
namespace Go.Proofs.YtoegdmpmagbaiaaGreatDoor
open Go.RowKit Go.Lib
def IMN (w w':World)(e:Ending)(l:List Int)(n:Nat):Prop:=∃A c,e=.returned (.slice A n c)∧Sl w' 1 A n c (l.map ivI)∧Fr Nob w w'
def BMN (w w':World)(e:Ending)(l:List Bool)(n:Nat):Prop:=∃A c,e=.returned (.slice A n c)∧Sl w' 1 A n c (l.map ivB)∧Fr Nob w w'
theorem BMade.n {w w':World}{e:Ending}{l:List Bool}{n:Nat}(h:BMade w w' e l)(hl:l.length=n):BMN w w' e l n:=by subst hl;exact h
end Go.Proofs.YtoegdmpmagbaiaaGreatDoor
