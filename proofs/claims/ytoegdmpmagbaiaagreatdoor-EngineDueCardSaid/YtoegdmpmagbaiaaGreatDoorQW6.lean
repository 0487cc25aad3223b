/- Words: the model's word with one more event. -/
import Derived.Test.YtoegdmpmagbaiaaGreatDoorKQS
namespace Go.Proofs.YtoegdmpmagbaiaaGreatDoor
open Go.RowKit Go.Sort Go.Lib

end Go.Proofs.YtoegdmpmagbaiaaGreatDoor
