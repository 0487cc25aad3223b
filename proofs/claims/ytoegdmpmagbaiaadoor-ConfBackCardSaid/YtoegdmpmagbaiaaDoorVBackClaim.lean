/- ConfBack: what is shown is read as it was; what is read checks, and shown and read again it is the same: the law answers true and leaves its arguments. No condition beyond the row's own. -/
import Derived.Test.YtoegdmpmagbaiaaDoorVlaid
import Derived.Test.YtoegdmpmagbaiaaDoorV32
import Derived.Test.YtoegdmpmagbaiaaDoorCards
import Derived.Test.YtoegdmpmagbaiaaDoorTie
import Derived.SevenTiedAt
namespace Go.Proofs.YtoegdmpmagbaiaaDoor
open Go.ChangeShapes Go.WideShapes Go.ChangeAt Go.ChangeMaps Go.RowKit

set_option maxRecDepth 100000 in
theorem back_contract (H : Type) (enc : TypeId × Value → H) (W : World) (base : Nat) (args : Array Value) (ds gs : List (DataW H)) (before : List MemPlace)
    (hval : ∀ (j : Nat) t v, Tryd.f6.params[j]? = some t → args[j]? = some v → Value.okWide Tryd.prog W .any base t v)
    (hW : DataW.Whole enc Tryd.prog Tryd.f6.params.toList Rows.confBackSpec.vars false W args.toList ds gs before) (hL : laidMetH Tryd.prog laids W) (hS : W.ShapedOpen Tryd.prog) (hsz0 : (DataW.weightsEach Tryd.prog (Tryd.f6.params.toList ++ Rows.confBackSpec.plain.varTypes Tryd.prog) (ds ++ gs)).all (· ≤ reachBytes) = true) :
    Calls Tryd.prog 6 args W fun e W' => ∃ v, e = .returned v ∧ Rows.confBackSpec.post enc Tryd.prog Tryd.f6 false true false false W args v W' := by
  have hW' := hW
  obtain ⟨p, q, hA0, hV, rfl, hfz, hnd⟩ := hW
  have hA : DataW.TrodAll enc Tryd.prog W 0 (fun _ => true) true Tryd.f6.params.toList args.toList ds p := hA0
  rw [Tryd.params6] at hA hval hsz0
  obtain ⟨v0, v1, d0, d1, p0, p1, rfl, rfl, rfl, h0, h1⟩ := trodAll_two hA
  obtain ⟨c, A, cap, rfl, hs, ht, hp⟩ := open_conf (hval 0 43 v0 rfl rfl) h0
  obtain ⟨s, rfl, rfl, rfl, hb⟩ := open_string Tryd.underlying9 (hval 1 9 v1 rfl rfl) h1
  obtain ⟨rfl, rfl⟩ := trodVars_none hV
  clear hA0
  refine (law_ConfBack W c A cap s hs (cv_of hL hS)).mono fun e W' ⟨he, hb⟩ => ?_
  exact ⟨_, he, law_post laid_out (by kernel_rfl) rfl (by kernel_rfl) Tryd.underlying4 hW' rfl rfl rfl hb.below⟩

set_option maxRecDepth 100000 in
theorem back_lifted (os : Os) (started : os.Started) (H : Type) (enc : TypeId × Value → H) :
    ReturnsInHanded {} Tryd.checked os 6 .any (fun w args => (Rows.confBackSpec.pre enc Tryd.prog Tryd.f6 [] false w args ∧ laidMetH Tryd.prog laids w) ∧ sizedMet enc Tryd.prog Tryd.f6 (OpenSpec.ofChange Rows.confBackSpec) false w args)
      (Rows.confBackSpec.post enc Tryd.prog Tryd.f6 false true false false) := by
  refine handed_and_shaped (C := Tryd.checked) (X := fun w _ => laidMetH Tryd.prog laids w) (fun _ _ _ hh h => h.of_heap hh) own_knob started (by kernel_rfl) Tryd.func6
    (ChangeSpec.witness_shaped (enc := enc) (C := Tryd.checked) (os := os) (X := fun w _ => laidMetH Tryd.prog laids w) false (World.laidAll Tryd.prog os laids) #[.agg #[.int .i64 0, .int .i64 0, .bool false, .slice none 0 0, .int .i64 0, .int .i64 0, .int .i64 0], .string ByteArray.empty] 8 (World.laidAll_os _ _ _) (all_shaped os _) (by kernel_rfl) (by kernel_rfl) (by kernel_rfl) (all_met os _)) ?_
  intro W base args ds gs before hval hW _ hsz hL hS _
  exact back_contract H enc W base args ds gs before hval hW hL hS hsz

theorem back_row : Rows.ConfBackSaid :=
  OpenClaim.holds_of_wide 6 Tryd.f6 rfl rfl rfl rfl rfl rfl rfl ⟨rfl, rfl, rfl, rfl, rfl⟩ rfl rfl rfl rfl rfl (by kernel_rfl) Tryd.func6 (by kernel_rfl)
    (of_decide_eq_true (by kernel_rfl)) (by unfold Func.isWrapper; first | (rw [if_pos (by decide +kernel)]; kernel_rfl) | (rw [if_neg (by decide +kernel)]; exact ⟨rfl, rfl⟩))
    (fun os started H enc _ => back_lifted os started H enc)

theorem back_holds : Rows.ConfBackCardSaid :=
  Claim7.holds_tied_plain_at .later [] [.data, .data, .data, .data, .sentinel, .sentinel, .pinned] true (true, "b9677da63c4c70d3d2983b565f743a6e30a7c77c37fa9b3b479e72535b116f66") true
    back_row (fun _ h => by cases h) (by kernel_rfl) (fun _ h => by cases h) confBack_row_tie rfl ⟨rfl, rfl⟩ (by kernel_rfl) rfl
    (fun f fn hf hfn => by
      obtain rfl : f = 6 := Option.some.inj ((show Tryd.prog.funcNamed "lookout/lookoutlaw17.ConfBack" = some 6 by kernel_rfl).symm.trans hf) |>.symm
      obtain rfl : fn = Tryd.f6 := (Option.some.inj (Tryd.func6.symm.trans hfn)).symm
      exact ⟨by kernel_rfl, fun j t ht => by
        have hall : (Tryd.f6.params.toList.all fun u => !Tryd.prog.wantsStandIn u) = true := by kernel_rfl
        have hm : t ∈ Tryd.f6.params.toList := by simpa using Array.mem_of_getElem? ht
        exact (show Tryd.prog.wantsStandIn t = false by simpa using List.all_eq_true.1 hall t hm)⟩)
    (by kernel_rfl)
end Go.Proofs.YtoegdmpmagbaiaaDoor
