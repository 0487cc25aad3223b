/- What the rows' listed variables, and the world's shape, give the laws of configurations. -/
import Derived.Test.YtoegdmpmagbaiaaDoorVclose
import Derived.LaidMore
import Derived.MakeChecks
import Derived.LaidHandle
import Derived.Stop.LaidErr
import Derived.Stop.Joined
import Derived.OpenShut
import Derived.Lib.LaidTab
import Derived.Lay
namespace Go.Proofs.YtoegdmpmagbaiaaDoor
open Go.ChangeShapes Go.WideShapes Go.ChangeAt Go.ChangeMaps Go.RowKit

def laids : List (String × DataW Unit) := [("math/bits.deBruijn32tab", Rows.laid_math_bits_deBruijn32tab), ("math/bits.deBruijn64tab", Rows.laid_math_bits_deBruijn64tab), ("internal/strconv.uint64pow10", Rows.laid_internal_strconv_uint64pow10), ("unicode/utf8.acceptRanges", Rows.laid_unicode_utf8_acceptRanges), ("strconv.ErrRange", Rows.laid_strconv_ErrRange), ("strconv.ErrSyntax", Rows.laid_strconv_ErrSyntax), ("unicode/utf8.first", Rows.laid_unicode_utf8_first)]
theorem gER : Tryd.prog.globalNamed "strconv.ErrRange" = some 6 := by kernel_rfl
theorem gERType : (Tryd.prog.globals[6]?).map (·.type) = some 97 := by kernel_rfl
theorem cellsES : Tryd.prog.cellsOf 186 = 1 := by kernel_rfl
theorem cellsS : Tryd.prog.cellsOf 9 = 1 := by kernel_rfl
theorem star : "*" ++ "errors.errorString" = "*errors.errorString" := by decide
theorem rowES (u : TypeId) (h : Tryd.prog.typeName? 3 u = some "*errors.errorString") : u = 184 :=
  typeName_ptr_named (nm := "errors.errorString") (by rw [star]; kernel_rfl) (by kernel_rfl) (by decide) u (by rw [star]; exact h)
theorem err_of_laid {w : World} (h : laidMetH Tryd.prog laids w) : ErrVar w := by
  rw [MakeChecks.laidMetH_plain _ _ _ (by kernel_rfl)] at h
  obtain ⟨a0, s0, hv0, -, -, -⟩ := laid_sentinel h.tail.tail.tail.tail gER gERType Tryd.underlying97 rowES Tryd.underlying184 Tryd.underlying186 rfl rfl Tryd.underlying9 cellsES cellsS
  exact ⟨_, _, by have h0 := World.var?_cell gER hv0 0; simpa using h0⟩
theorem tb_data : Rows.laid_internal_strconv_uint64pow10 = Lib.tabData (H := Unit) .u64 Lib.pow10Tab := by kernel_rfl
theorem tb_type : (Tryd.prog.globals[1]?).map (·.type) = some 161 := by kernel_rfl
theorem tb_of_laid {w : World} (h : laidMetH Tryd.prog laids w) : TbVar w := by
  rw [MakeChecks.laidMetH_plain _ _ _ (by kernel_rfl)] at h
  have h2 := h.tail.tail
  rw [tb_data] at h2
  exact Lib.tabIs_of_head tb_name tb_type Tryd.underlying161 Tryd.underlying104 (by kernel_rfl) (by kernel_rfl) h2
theorem mx_of_shape {w : World} (h : w.ShapedOpen Tryd.prog) : MaxVar w :=
  cell_of_shapedOpen_int (g := 2) (t := 3) (zero := #[.int .i64 0]) (k := .i64) h (of_decide_eq_true (by kernel_rfl)) (by kernel_rfl) rfl (by kernel_rfl) (by kernel_rfl) Tryd.underlying3
theorem cv_of {w : World} (hL : laidMetH Tryd.prog laids w) (hs : w.ShapedOpen Tryd.prog) : CV w := ⟨err_of_laid hL, mx_of_shape hs, tb_of_laid hL⟩
theorem all_met (os : Os) (args : Array Value) : laidMetH Tryd.prog laids ((World.laidAll Tryd.prog os laids).forCall (fun _ _ => 0) ⟨#[], args, []⟩).memory := by
  rw [MakeChecks.laidMetH_plain _ _ _ (by kernel_rfl)]
  exact laidMet_laidAll _ (by kernel_rfl) (by kernel_rfl)
theorem all_shaped (os : Os) (args : Array Value) : ((World.laidAll Tryd.prog os laids).forCall (fun _ _ => 0) ⟨#[], args, []⟩).Shaped Tryd.prog := World.shaped_of_ZipB (by kernel_rfl) (by kernel_rfl)
end Go.Proofs.YtoegdmpmagbaiaaDoor
