/- ThreeLast: under the last moment as the mark all is known, as it holds; what a formula becomes is known as the formula is. -/
import Derived.Test.YtoegdmpmagbaiaaGreatDoorKT
import Derived.Test.YtoegdmpmagbaiaaGreatDoorQH27
import Derived.Test.YtoegdmpmagbaiaaGreatDoorKE
namespace Go.Proofs.YtoegdmpmagbaiaaGreatDoor
open Go.RowKit Go.Lib

end Go.Proofs.YtoegdmpmagbaiaaGreatDoor
