/- LabelGrows is proved: for every input the law returns true, and each argument reads as it did. No condition. -/
import Derived.Test.YtaikenlhapfboaaLlaws2
import Derived.Test.YtaikenlhapfboaaLclose
namespace Go.Proofs.Ytaikenlhapfboaa
open Go.ChangeShapes Go.WideShapes Go.ChangeAt Go.ChangeMaps Go.RowKit

theorem grows_contract (H : Type) (enc : TypeId × Value → H) (W : World) (base : Nat) (args : Array Value) (ds gs : List (DataW H)) (before : List MemPlace)
    (hval : ∀ (j : Nat) t v, Try.f8.params[j]? = some t → args[j]? = some v → Value.okWide Try.prog W .any base t v)
    (hW : DataW.Whole enc Try.prog Try.f8.params.toList Rows.labelGrowsSpec.vars false W args.toList ds gs before) :
    Calls Try.prog 8 args W fun e W' => ∃ v, e = .returned v ∧ Rows.labelGrowsSpec.post enc Try.prog Try.f8 false true false false W args v W' := by
  have hW' := hW
  obtain ⟨p, q, hA0, hV, rfl, hfz, hnd⟩ := hW
  have hA : DataW.TrodAll enc Try.prog W 0 (fun _ => true) true Try.f8.params.toList args.toList ds p := hA0
  rw [Try.params8] at hA hval
  obtain ⟨v0, v1, v2, d0, d1, d2, p0, p1, p2, rfl, rfl, rfl, h0, h1, h2⟩ := trodAll_three hA
  obtain ⟨A, cap, a, rfl, hsa, hoka⟩ := open_props (hval 0 24 v0 rfl rfl) h0
  obtain ⟨B, capb, b, rfl, hsb, hokb⟩ := open_props (hval 1 24 v1 rfl rfl) h1
  obtain ⟨x, rfl, hat⟩ := open_atom (hval 2 26 v2 rfl rfl) h2
  obtain ⟨rfl, rfl⟩ := trodVars_none hV
  clear hA0
  refine (law_Grows W A cap a B capb b x.name x.op x.value hsa hsb).mono fun e W' ⟨he, hb⟩ => ?_
  exact ⟨_, he, law_post laid_out (by kernel_rfl) rfl (by kernel_rfl) Try.underlying4 hW' rfl rfl rfl hb.below⟩

set_option maxRecDepth 100000 in
theorem grows_lifted (os : Os) (started : os.Started) (H : Type) (enc : TypeId × Value → H) :
    ReturnsInHanded {} Try.checked os 8 .any (Rows.labelGrowsSpec.pre6 enc Try.prog Try.f8 Rows.labelGrowsRow.domain false) (Rows.labelGrowsSpec.post enc Try.prog Try.f8 false true false false) := by
  refine returnsInHanded_of_change (C := Try.checked) own_knob started (by kernel_rfl) Try.func8
    (ChangeSpec.witness6 (enc := enc) (C := Try.checked) false ⟨#[], #[.slice none 0 0, .slice none 0 0, .agg #[.string ByteArray.empty, .int .i64 0, .int .i64 0]], []⟩ 8 (by kernel_rfl) (by kernel_rfl) (by kernel_rfl) (by kernel_rfl)) ?_
  intro W base args ds gs before hval hW _ _
  exact grows_contract H enc W base args ds gs before hval hW

theorem grows_holds : Rows.LabelGrowsSaid :=
  OpenClaim.holds_of_wide 8 Try.f8 rfl rfl rfl rfl rfl rfl rfl ⟨rfl, rfl, rfl, rfl, rfl⟩ rfl rfl rfl rfl rfl (by kernel_rfl) Try.func8 (by kernel_rfl)
    (of_decide_eq_true (by kernel_rfl)) (by unfold Func.isWrapper; first | (rw [if_pos (by decide +kernel)]; kernel_rfl) | (rw [if_neg (by decide +kernel)]; exact ⟨rfl, rfl⟩))
    (fun os started H enc _ => grows_lifted os started H enc)
end Go.Proofs.Ytaikenlhapfboaa
