/- The powers' table, as the parse rows list it. -/
import Derived.Test.YtanhmigknafhkaaDoorPlaid
import Derived.Test.YtanhmigknafhkaaDoorFshow3
namespace Go.Proofs.YtanhmigknafhkaaDoor
open Go.ChangeShapes Go.WideShapes Go.ChangeAt Go.ChangeMaps Go.RowKit

theorem tb_data : Rows.laid_internal_strconv_uint64pow10 = Lib.tabData (H := Unit) .u64 Lib.pow10Tab := by kernel_rfl
theorem tb_type : (Tryd.prog.globals[1]?).map (·.type) = some 149 := by kernel_rfl
theorem tb_of_laid {w : World} (h : laidMetH Tryd.prog laids w) : TbVar w := by
  rw [MakeChecks.laidMetH_plain _ _ _ (by kernel_rfl)] at h
  have h2 := h.tail.tail
  rw [tb_data] at h2
  exact Lib.tabIs_of_head tb_name tb_type Tryd.underlying149 Tryd.underlying133 (by kernel_rfl) (by kernel_rfl) h2
end Go.Proofs.YtanhmigknafhkaaDoor
