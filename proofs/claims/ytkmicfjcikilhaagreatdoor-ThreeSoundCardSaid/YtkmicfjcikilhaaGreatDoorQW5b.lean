/- The model's union, in new memory. -/
import Derived.Test.YtkmicfjcikilhaaGreatDoorQW5
namespace Go.Proofs.YtkmicfjcikilhaaGreatDoor
open Go.RowKit Go.Sort Go.Lib

end Go.Proofs.YtkmicfjcikilhaaGreatDoor
