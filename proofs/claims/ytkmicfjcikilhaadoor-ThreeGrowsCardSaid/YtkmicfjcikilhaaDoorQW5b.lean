/- The model's union, in new memory. -/
import Derived.Test.YtkmicfjcikilhaaDoorQW5
namespace Go.Proofs.YtkmicfjcikilhaaDoor
open Go.RowKit Go.Sort Go.Lib

end Go.Proofs.YtkmicfjcikilhaaDoor
