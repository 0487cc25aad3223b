/- What the rows' listed variables give the token laws. -/
import Derived.Test.YtlhhnhbmiamhkaaDoorTlaw5
import Derived.Test.YtlhhnhbmiamhkaaDoorTlaw4
import Derived.Test.YtlhhnhbmiamhkaaDoorTlaw3
import Derived.Test.YtlhhnhbmiamhkaaDoorTlaw2
import Derived.Test.YtlhhnhbmiamhkaaDoorClose
import Derived.LaidMore
import Derived.MakeChecks
import Derived.LaidHandle
import Derived.Stop.LaidErr
import Derived.Stop.Joined
import Derived.OpenShut
namespace Go.Proofs.YtlhhnhbmiamhkaaDoor
open Go.ChangeShapes Go.WideShapes Go.ChangeAt Go.ChangeMaps Go.RowKit

def laids : List (String × DataW Unit) := [("math/bits.deBruijn32tab", Rows.laid_math_bits_deBruijn32tab), ("math/bits.deBruijn64tab", Rows.laid_math_bits_deBruijn64tab), ("internal/strconv.uint64pow10", Rows.laid_internal_strconv_uint64pow10), ("strconv.ErrRange", Rows.laid_strconv_ErrRange), ("strconv.ErrSyntax", Rows.laid_strconv_ErrSyntax)]
theorem gER : Tryd.prog.globalNamed "strconv.ErrRange" = some 1 := by kernel_rfl
theorem gERType : (Tryd.prog.globals[1]?).map (·.type) = some 55 := by kernel_rfl
theorem cellsES : Tryd.prog.cellsOf 76 = 1 := by kernel_rfl
theorem cellsS : Tryd.prog.cellsOf 9 = 1 := by kernel_rfl
theorem star : "*" ++ "errors.errorString" = "*errors.errorString" := by decide
theorem rowES (u : TypeId) (h : Tryd.prog.typeName? 3 u = some "*errors.errorString") : u = 74 :=
  typeName_ptr_named (nm := "errors.errorString") (by rw [star]; kernel_rfl) (by kernel_rfl) (by decide) u (by rw [star]; exact h)
theorem err_of_laid {w : World} (h : laidMetH Tryd.prog laids w) : ErrVar w := by
  rw [MakeChecks.laidMetH_plain _ _ _ (by kernel_rfl)] at h
  obtain ⟨a0, s0, hv0, -, -, -⟩ := laid_sentinel h.tail.tail.tail gER gERType Tryd.underlying55 rowES Tryd.underlying74 Tryd.underlying76 rfl rfl Tryd.underlying9 cellsES cellsS
  exact ⟨_, _, by have h0 := World.var?_cell gER hv0 0; simpa using h0⟩
theorem door_met (os : Os) (args : Array Value) : laidMetH Tryd.prog laids ((World.doorLaid Tryd.prog 400 os).forCall (fun _ _ => 0) ⟨#[], args, []⟩).memory :=
  laidMetH_of_parts3 (fuel := 8) (laidMet_of_run' 8 (by kernel_rfl) (by kernel_rfl)) (by kernel_rfl) (by kernel_rfl)
theorem law_TokenTwo' (w : World) (s t : ByteArray) (n : Int) (hn : 0 ≤ n) (hv : ErrVar w) : Calls Tryd.prog 5 #[.string s, .string t, .int .u8 n] w fun e w' => e = .returned (.bool true) ∧ Fr Nob w w' := by
  obtain ⟨k, rfl⟩ : ∃ k : Nat, n = k := ⟨n.toNat, by omega⟩
  exact law_TokenTwo w s t k hv
theorem law_TokenAlone' (w : World) (s : ByteArray) (n : Int) (hn : 0 ≤ n) (h2 : n ≤ 255) (hv : ErrVar w) : Calls Tryd.prog 7 #[.string s, .int .u8 n] w fun e w' => e = .returned (.bool true) ∧ Fr Nob w w' := by
  obtain ⟨k, rfl⟩ : ∃ k : Nat, n = k := ⟨n.toNat, by omega⟩
  exact law_TokenAlone w s k (by omega) hv
end Go.Proofs.YtlhhnhbmiamhkaaDoor
