/- What the rows' listed variables, and the world's shape, give the laws of scripts; a message as it comes in. -/
import Derived.Test.YtidhlfcmjpnhgaaGreatDoorQYawake
import Derived.Test.YtidhlfcmjpnhgaaGreatDoorQVand
import Derived.LaidMore
import Derived.MakeChecks
import Derived.LaidHandle
import Derived.Stop.LaidErr
import Derived.Stop.Joined
import Derived.OpenShut
import Derived.Lib.LaidTab
import Derived.Lay
namespace Go.Proofs.YtidhlfcmjpnhgaaGreatDoor
open Go.ChangeShapes Go.WideShapes Go.ChangeAt Go.ChangeMaps Go.RowKit

def laids : List (String × DataW Unit) := [("lookout/crc.turns", Rows.laid_lookout_crc_turns), ("math/bits.deBruijn32tab", Rows.laid_math_bits_deBruijn32tab), ("math/bits.deBruijn64tab", Rows.laid_math_bits_deBruijn64tab), ("internal/strconv.uint64pow10", Rows.laid_internal_strconv_uint64pow10), ("unicode/utf8.acceptRanges", Rows.laid_unicode_utf8_acceptRanges), ("strconv.ErrRange", Rows.laid_strconv_ErrRange), ("strconv.ErrSyntax", Rows.laid_strconv_ErrSyntax), ("unicode/utf8.first", Rows.laid_unicode_utf8_first)]
theorem gER : Tryz.prog.globalNamed "strconv.ErrRange" = some 5 := by kernel_rfl
theorem gERType : (Tryz.prog.globals[5]?).map (·.type) = some 114 := by kernel_rfl
theorem cellsES : Tryz.prog.cellsOf 184 = 1 := by kernel_rfl
theorem cellsS : Tryz.prog.cellsOf 9 = 1 := by kernel_rfl
theorem star : "*" ++ "errors.errorString" = "*errors.errorString" := by decide
theorem rowES (u : TypeId) (h : Tryz.prog.typeName? 3 u = some "*errors.errorString") : u = 182 :=
  typeName_ptr_named (nm := "errors.errorString") (by rw [star]; kernel_rfl) (by kernel_rfl) (by decide) u (by rw [star]; exact h)
theorem err_of_laid {w : World} (h : laidMetH Tryz.prog laids w) : ErrVar w := by
  rw [MakeChecks.laidMetH_plain _ _ _ (by kernel_rfl)] at h
  obtain ⟨a0, s0, hv0, -, -, -⟩ := laid_sentinel h.tail.tail.tail.tail.tail gER gERType Tryz.underlying114 rowES Tryz.underlying182 Tryz.underlying184 rfl rfl Tryz.underlying9 cellsES cellsS
  exact ⟨_, _, by have h0 := World.var?_cell gER hv0 0; simpa using h0⟩
theorem tn_data : Rows.laid_lookout_crc_turns = Lib.tabData (H := Unit) .u32 (turnsR.map fun n : Nat => (n : Int)) := by kernel_rfl
theorem tn_name : Tryz.prog.globalNamed "lookout/crc.turns" = some 1 := by kernel_rfl
theorem tn_type : (Tryz.prog.globals[1]?).map (·.type) = some 160 := by kernel_rfl
theorem tn_of_laid {w : World} (h : laidMetH Tryz.prog laids w) : TnVar w := by
  rw [MakeChecks.laidMetH_plain _ _ _ (by kernel_rfl)] at h
  unfold laids at h
  rw [tn_data] at h
  have h2 := Lib.tabIs_of_head tn_name tn_type Tryz.underlying160 Tryz.underlying103 (by kernel_rfl) (by kernel_rfl) h
  intro i hi
  have h3 := h2.cell tn_name i (by rw [List.length_map]; exact hi)
  rw [h3]
  congr 2
  have hl : turnsR.length = 16 := rfl
  simp [List.getD_eq_getElem?_getD, hl, hi]
theorem mx_of_shape {w : World} (h : w.ShapedOpen Tryz.prog) : MaxVar w :=
  cell_of_shapedOpen_int (g := 0) (t := 3) (zero := #[.int .i64 0]) (k := .i64) h (of_decide_eq_true (by kernel_rfl)) (by kernel_rfl) rfl (by kernel_rfl) (by kernel_rfl) Tryz.underlying3
theorem sv_of {w : World} (hL : laidMetH Tryz.prog laids w) (hs : w.ShapedOpen Tryz.prog) : SV w := ⟨err_of_laid hL, mx_of_shape hs, tn_of_laid hL⟩
theorem all_met (os : Os) (args : Array Value) : laidMetH Tryz.prog laids ((World.laidAll Tryz.prog os laids).forCall (fun _ _ => 0) ⟨#[], args, []⟩).memory := by
  rw [MakeChecks.laidMetH_plain _ _ _ (by kernel_rfl)]
  exact laidMet_laidAll _ (by kernel_rfl) (by kernel_rfl)
theorem all_shaped (os : Os) (args : Array Value) : ((World.laidAll Tryz.prog os laids).forCall (fun _ _ => 0) ⟨#[], args, []⟩).Shaped Tryz.prog := World.shaped_of_ZipB (by kernel_rfl) (by kernel_rfl)
end Go.Proofs.YtidhlfcmjpnhgaaGreatDoor
