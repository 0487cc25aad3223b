/- FormulaChecks, FormulaShows. -/
import Derived.Test.YtoegdmpmagbaiaaDoorFawake
import Derived.Test.YtoegdmpmagbaiaaDoorFfew
import Derived.Lib.QuietBelow
namespace Go.Proofs.YtoegdmpmagbaiaaDoor
open Go.RowKit Go.Shelf Go.Sort

end Go.Proofs.YtoegdmpmagbaiaaDoor
