/- ThreeSound: what is known at a point holds there or doesn't, whatever later events come: the law answers true and leaves its argument. No condition beyond the row's own. -/
import Derived.Test.YtkmicfjcikilhaaGreatDoorKV
import Derived.Test.YtkmicfjcikilhaaGreatDoorQHevclose
import Derived.Test.YtkmicfjcikilhaaGreatDoorQH38
import Derived.Test.YtkmicfjcikilhaaGreatDoorCards
import Derived.Test.YtkmicfjcikilhaaGreatDoorTie
import Derived.SevenTiedAt
namespace Go.Proofs.YtkmicfjcikilhaaGreatDoor
open Go.ChangeShapes Go.WideShapes Go.ChangeAt Go.ChangeMaps Go.RowKit

set_option maxRecDepth 100000 in
theorem tsound_contract (H : Type) (enc : TypeId × Value → H) (W : World) (base : Nat) (args : Array Value) (ds gs : List (DataW H)) (before : List MemPlace)
    (hval : ∀ (j : Nat) t v, Tryz.f3.params[j]? = some t → args[j]? = some v → Value.okWide Tryz.prog W .any base t v)
    (hW : DataW.Whole enc Tryz.prog Tryz.f3.params.toList Rows.threeSoundSpec.vars false W args.toList ds gs before) (hL : laidMetH Tryz.prog laids W) :
    Calls Tryz.prog 3 args W fun e W' => ∃ v, e = .returned v ∧ Rows.threeSoundSpec.post enc Tryz.prog Tryz.f3 false true false false W args v W' := by
  have hW' := hW
  obtain ⟨p, q, hA0, hV, rfl, hfz, hnd⟩ := hW
  have hA : DataW.TrodAll enc Tryz.prog W 0 (fun _ => true) true Tryz.f3.params.toList args.toList ds p := hA0
  rw [Tryz.params3] at hA hval
  obtain ⟨v0, v1, v2, v3, d0, d1, d2, d3, p0, p1, p2, p3, rfl, rfl, rfl, h0, h1, h2, h3⟩ := trodAll_four hA
  obtain ⟨x, A, c, ks, rfl, hx, hk, hs⟩ := open_formula (hval 0 28 v0 rfl rfl) h0
  obtain ⟨B, d, ps, rfl, hw, h63⟩ := open_points63 (hval 1 29 v1 rfl rfl) h1
  obtain ⟨mark, rfl, rfl, rfl, hm⟩ := open_int Tryz.underlying2 (hval 2 2 v2 rfl rfl) h2
  obtain ⟨E, f, es, rfl, he, he63⟩ := open_events63 (hval 3 30 v3 rfl rfl) h3
  obtain ⟨rfl, rfl⟩ := trodVars_none hV
  clear hA0
  refine (law_ThreeSound W x A c ks hs (sh_of_laid hL) (th_of_laid hL) B d ps hw h63 mark (wf_i64 hm).2 E f es he he63).mono fun e W' ⟨he, hb⟩ => ?_
  exact ⟨_, he, law_post laid_out (by kernel_rfl) rfl (by kernel_rfl) Tryz.underlying4 hW' rfl rfl rfl hb.below⟩

set_option maxRecDepth 100000 in
theorem tsound_lifted (os : Os) (started : os.Started) (H : Type) (enc : TypeId × Value → H) :
    ReturnsInHanded {} Tryz.checked os 3 .any (fun w args => (Rows.threeSoundSpec.pre enc Tryz.prog Tryz.f3 [] false w args ∧ laidMetH Tryz.prog laids w) ∧ sizedMet enc Tryz.prog Tryz.f3 (OpenSpec.ofChange Rows.threeSoundSpec) false w args)
      (Rows.threeSoundSpec.post enc Tryz.prog Tryz.f3 false true false false) := by
  refine returnsInHanded_of_change_and (C := Tryz.checked) (X := fun w _ => laidMetH Tryz.prog laids w) (fun _ _ _ hh h => h.of_heap hh) own_knob started (by kernel_rfl) Tryz.func3
    (ChangeSpec.witness_shaped (enc := enc) (C := Tryz.checked) (os := os) (X := fun w _ => laidMetH Tryz.prog laids w) false (World.doorLaid Tryz.prog 400 os) #[.agg #[.int .i64 0, .string ByteArray.empty, .int .i64 0, .int .i64 0, .int .i64 0, .int .i64 0, .slice none 0 0], .slice none 0 0, .int .i64 0, .slice none 0 0] 8 rfl (World.shaped_of_RefB (by kernel_rfl) (by kernel_rfl)) (by kernel_rfl) (by kernel_rfl) (by kernel_rfl) (door_met os _)) ?_
  intro W base args ds gs before hval hW _ _ hL _
  exact tsound_contract H enc W base args ds gs before hval hW hL

theorem tsound_row : Rows.ThreeSoundSaid :=
  OpenClaim.holds_of_wide 3 Tryz.f3 rfl rfl rfl rfl rfl rfl rfl ⟨rfl, rfl, rfl, rfl, rfl⟩ rfl rfl rfl rfl rfl (by kernel_rfl) Tryz.func3 (by kernel_rfl)
    (of_decide_eq_true (by kernel_rfl)) (by unfold Func.isWrapper; first | (rw [if_pos (by decide +kernel)]; kernel_rfl) | (rw [if_neg (by decide +kernel)]; exact ⟨rfl, rfl⟩))
    (fun os started H enc _ => tsound_lifted os started H enc)

theorem tsound_holds : Rows.ThreeSoundCardSaid :=
  Claim7.holds_tied_plain_at .later [] [.data, .data, .data, .data] true (true, "e51ea457b1d4835e931b25d7ab282356f793c51aecd34519bc1a6ee2f412c3be") false
    tsound_row (fun _ h => by cases h) (by kernel_rfl) (fun _ h => by cases h) threeSound_row_tie rfl ⟨rfl, rfl⟩ (by kernel_rfl) rfl
    (fun f fn hf hfn => by
      obtain rfl : f = 3 := Option.some.inj ((show Tryz.prog.funcNamed "lookout/lookoutlaw15.ThreeSound" = some 3 by kernel_rfl).symm.trans hf) |>.symm
      obtain rfl : fn = Tryz.f3 := (Option.some.inj (Tryz.func3.symm.trans hfn)).symm
      exact ⟨by kernel_rfl, fun j t ht => by
        have hall : (Tryz.f3.params.toList.all fun u => !Tryz.prog.wantsStandIn u) = true := by kernel_rfl
        have hm : t ∈ Tryz.f3.params.toList := by simpa using Array.mem_of_getElem? ht
        exact (show Tryz.prog.wantsStandIn t = false by simpa using List.all_eq_true.1 hall t hm)⟩)
    (by kernel_rfl)
end Go.Proofs.YtkmicfjcikilhaaGreatDoor
