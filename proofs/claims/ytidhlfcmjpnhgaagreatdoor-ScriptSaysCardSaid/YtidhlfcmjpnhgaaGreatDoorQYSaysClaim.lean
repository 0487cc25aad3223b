/- ScriptSays: an event that may be, as a line, is read as its frame, whatever its numbers; a source that there can't be is refused: the law answers true and leaves its arguments. No condition beyond the row's own. -/
import Derived.Test.YtidhlfcmjpnhgaaGreatDoorQYlaid
import Derived.Test.YtidhlfcmjpnhgaaGreatDoorQYclose
import Derived.Test.YtidhlfcmjpnhgaaGreatDoorQYsays
import Derived.Test.YtidhlfcmjpnhgaaGreatDoorCards
import Derived.Test.YtidhlfcmjpnhgaaGreatDoorTie
import Derived.SevenTiedAt
namespace Go.Proofs.YtidhlfcmjpnhgaaGreatDoor
open Go.ChangeShapes Go.WideShapes Go.ChangeAt Go.ChangeMaps Go.RowKit

set_option maxRecDepth 100000 in
theorem ssays_contract (H : Type) (enc : TypeId × Value → H) (W : World) (base : Nat) (args : Array Value) (ds gs : List (DataW H)) (before : List MemPlace)
    (hval : ∀ (j : Nat) t v, Tryz.f5.params[j]? = some t → args[j]? = some v → Value.okWide Tryz.prog W .any base t v)
    (hW : DataW.Whole enc Tryz.prog Tryz.f5.params.toList Rows.scriptSaysSpec.vars false W args.toList ds gs before) (hL : laidMetH Tryz.prog laids W) (hS : W.ShapedOpen Tryz.prog) (hsz0 : (DataW.weightsEach Tryz.prog (Tryz.f5.params.toList ++ Rows.scriptSaysSpec.plain.varTypes Tryz.prog) (ds ++ gs)).all (· ≤ reachBytes) = true) :
    Calls Tryz.prog 5 args W fun e W' => ∃ v, e = .returned v ∧ Rows.scriptSaysSpec.post enc Tryz.prog Tryz.f5 false true false false W args v W' := by
  have hW' := hW
  obtain ⟨p, q, hA0, hV, rfl, hfz, hnd⟩ := hW
  have hA : DataW.TrodAll enc Tryz.prog W 0 (fun _ => true) true Tryz.f5.params.toList args.toList ds p := hA0
  rw [Tryz.params5] at hA hval hsz0
  obtain ⟨v0, v1, d0, d1, p0, p1, rfl, rfl, rfl, h0, h1⟩ := trodAll_two hA
  obtain ⟨m, A, cap, rfl, hs, hq, ht, hv⟩ := open_message (hval 0 39 v0 rfl rfl) h0
  obtain ⟨src, rfl, rfl, rfl, hsrc⟩ := open_int Tryz.underlying5 (hval 1 5 v1 rfl rfl) h1
  obtain ⟨rfl, rfl⟩ := trodVars_none hV
  clear hA0
  refine (law_ScriptSaysI W m A cap src hs hq ht hv (wf_u8 hsrc) (sv_of hL hS)).mono fun e W' ⟨he, hb⟩ => ?_
  exact ⟨_, he, law_post laid_out (by kernel_rfl) rfl (by kernel_rfl) Tryz.underlying4 hW' rfl rfl rfl hb.below⟩

set_option maxRecDepth 100000 in
theorem ssays_lifted (os : Os) (started : os.Started) (H : Type) (enc : TypeId × Value → H) :
    ReturnsInHanded {} Tryz.checked os 5 .any (fun w args => (Rows.scriptSaysSpec.pre enc Tryz.prog Tryz.f5 [] false w args ∧ laidMetH Tryz.prog laids w) ∧ sizedMet enc Tryz.prog Tryz.f5 (OpenSpec.ofChange Rows.scriptSaysSpec) false w args)
      (Rows.scriptSaysSpec.post enc Tryz.prog Tryz.f5 false true false false) := by
  refine handed_and_shaped (C := Tryz.checked) (X := fun w _ => laidMetH Tryz.prog laids w) (fun _ _ _ hh h => h.of_heap hh) own_knob started (by kernel_rfl) Tryz.func5
    (ChangeSpec.witness_shaped (enc := enc) (C := Tryz.checked) (os := os) (X := fun w _ => laidMetH Tryz.prog laids w) false (World.laidAll Tryz.prog os laids) #[.agg #[.int .u8 0, .int .u64 0, .int .i64 0, .slice none 0 0], .int .u8 0] 8 (World.laidAll_os _ _ _) (all_shaped os _) (by kernel_rfl) (by kernel_rfl) (by kernel_rfl) (all_met os _)) ?_
  intro W base args ds gs before hval hW _ hsz hL hS _
  exact ssays_contract H enc W base args ds gs before hval hW hL hS hsz

theorem ssays_row : Rows.ScriptSaysSaid :=
  OpenClaim.holds_of_wide 5 Tryz.f5 rfl rfl rfl rfl rfl rfl rfl ⟨rfl, rfl, rfl, rfl, rfl⟩ rfl rfl rfl rfl rfl (by kernel_rfl) Tryz.func5 (by kernel_rfl)
    (of_decide_eq_true (by kernel_rfl)) (by unfold Func.isWrapper; first | (rw [if_pos (by decide +kernel)]; kernel_rfl) | (rw [if_neg (by decide +kernel)]; exact ⟨rfl, rfl⟩))
    (fun os started H enc _ => ssays_lifted os started H enc)

theorem ssays_holds : Rows.ScriptSaysCardSaid :=
  Claim7.holds_tied_plain_at .later [] [.data, .data, .data, .data, .data, .sentinel, .sentinel, .pinned] true (true, "65d3924f9354497b6e26f6a1a3ce47f2df51ed8aa1a37e8f6f55d7c85ac7eb9b") true
    ssays_row (fun _ h => by cases h) (by kernel_rfl) (fun _ h => by cases h) scriptSays_row_tie rfl ⟨rfl, rfl⟩ (by kernel_rfl) rfl
    (fun f fn hf hfn => by
      obtain rfl : f = 5 := Option.some.inj ((show Tryz.prog.funcNamed "lookout/lookoutlaw27.ScriptSays" = some 5 by kernel_rfl).symm.trans hf) |>.symm
      obtain rfl : fn = Tryz.f5 := (Option.some.inj (Tryz.func5.symm.trans hfn)).symm
      exact ⟨by kernel_rfl, fun j t ht => by
        have hall : (Tryz.f5.params.toList.all fun u => !Tryz.prog.wantsStandIn u) = true := by kernel_rfl
        have hm : t ∈ Tryz.f5.params.toList := by simpa using Array.mem_of_getElem? ht
        exact (show Tryz.prog.wantsStandIn t = false by simpa using List.all_eq_true.1 hall t hm)⟩)
    (by kernel_rfl)
end Go.Proofs.YtidhlfcmjpnhgaaGreatDoor
