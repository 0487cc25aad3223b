/- ThreeGrows: what is known stays so under a later mark, and with later events: the law answers true and leaves its argument. No condition beyond the row's own. -/
import Derived.Test.YtkmicfjcikilhaaDoorKV
import Derived.Test.YtkmicfjcikilhaaDoorQHevclose
import Derived.Test.YtkmicfjcikilhaaDoorQH37
import Derived.Test.YtkmicfjcikilhaaDoorCards
import Derived.Test.YtkmicfjcikilhaaDoorTie
import Derived.SevenTiedAt
namespace Go.Proofs.YtkmicfjcikilhaaDoor
open Go.ChangeShapes Go.WideShapes Go.ChangeAt Go.ChangeMaps Go.RowKit

set_option maxRecDepth 100000 in
theorem tgrows_contract (H : Type) (enc : TypeId × Value → H) (W : World) (base : Nat) (args : Array Value) (ds gs : List (DataW H)) (before : List MemPlace)
    (hval : ∀ (j : Nat) t v, Tryd.f6.params[j]? = some t → args[j]? = some v → Value.okWide Tryd.prog W .any base t v)
    (hW : DataW.Whole enc Tryd.prog Tryd.f6.params.toList Rows.threeGrowsSpec.vars false W args.toList ds gs before) (hL : laidMetH Tryd.prog laids W) :
    Calls Tryd.prog 6 args W fun e W' => ∃ v, e = .returned v ∧ Rows.threeGrowsSpec.post enc Tryd.prog Tryd.f6 false true false false W args v W' := by
  have hW' := hW
  obtain ⟨p, q, hA0, hV, rfl, hfz, hnd⟩ := hW
  have hA : DataW.TrodAll enc Tryd.prog W 0 (fun _ => true) true Tryd.f6.params.toList args.toList ds p := hA0
  rw [Tryd.params6] at hA hval
  obtain ⟨v0, v1, v2, v3, v4, d0, d1, d2, d3, d4, p0, p1, p2, p3, p4, rfl, rfl, rfl, h0, h1, h2, h3, h4⟩ := trodAll_five hA
  obtain ⟨x, A, c, ks, rfl, hx, hk, hs⟩ := open_formula (hval 0 28 v0 rfl rfl) h0
  obtain ⟨B, d, ps, rfl, hw, h63⟩ := open_points63 (hval 1 29 v1 rfl rfl) h1
  obtain ⟨mark, rfl, rfl, rfl, hm⟩ := open_int Tryd.underlying2 (hval 2 2 v2 rfl rfl) h2
  obtain ⟨later, rfl, rfl, rfl, hl⟩ := open_int Tryd.underlying2 (hval 3 2 v3 rfl rfl) h3
  obtain ⟨E, f, es, rfl, he, he63⟩ := open_events63 (hval 4 56 v4 rfl rfl) h4
  obtain ⟨rfl, rfl⟩ := trodVars_none hV
  clear hA0
  refine (law_ThreeGrows W x A c ks hs (sh_of_laid hL) (th_of_laid hL) B d ps hw h63 mark later E f es he he63).mono fun e W' ⟨he, hb⟩ => ?_
  exact ⟨_, he, law_post laid_out (by kernel_rfl) rfl (by kernel_rfl) Tryd.underlying4 hW' rfl rfl rfl hb.below⟩

set_option maxRecDepth 100000 in
theorem tgrows_lifted (os : Os) (started : os.Started) (H : Type) (enc : TypeId × Value → H) :
    ReturnsInHanded {} Tryd.checked os 6 .any (fun w args => (Rows.threeGrowsSpec.pre enc Tryd.prog Tryd.f6 [] false w args ∧ laidMetH Tryd.prog laids w) ∧ sizedMet enc Tryd.prog Tryd.f6 (OpenSpec.ofChange Rows.threeGrowsSpec) false w args)
      (Rows.threeGrowsSpec.post enc Tryd.prog Tryd.f6 false true false false) := by
  refine returnsInHanded_of_change_and (C := Tryd.checked) (X := fun w _ => laidMetH Tryd.prog laids w) (fun _ _ _ hh h => h.of_heap hh) own_knob started (by kernel_rfl) Tryd.func6
    (ChangeSpec.witness_shaped (enc := enc) (C := Tryd.checked) (os := os) (X := fun w _ => laidMetH Tryd.prog laids w) false (World.doorLaid Tryd.prog 400 os) #[.agg #[.int .i64 0, .string ByteArray.empty, .int .i64 0, .int .i64 0, .int .i64 0, .int .i64 0, .slice none 0 0], .slice none 0 0, .int .i64 0, .int .i64 0, .slice none 0 0] 8 rfl (World.shaped_of_RefB (by kernel_rfl) (by kernel_rfl)) (by kernel_rfl) (by kernel_rfl) (by kernel_rfl) (door_met os _)) ?_
  intro W base args ds gs before hval hW _ _ hL _
  exact tgrows_contract H enc W base args ds gs before hval hW hL

theorem tgrows_row : Rows.ThreeGrowsSaid :=
  OpenClaim.holds_of_wide 6 Tryd.f6 rfl rfl rfl rfl rfl rfl rfl ⟨rfl, rfl, rfl, rfl, rfl⟩ rfl rfl rfl rfl rfl (by kernel_rfl) Tryd.func6 (by kernel_rfl)
    (of_decide_eq_true (by kernel_rfl)) (by unfold Func.isWrapper; first | (rw [if_pos (by decide +kernel)]; kernel_rfl) | (rw [if_neg (by decide +kernel)]; exact ⟨rfl, rfl⟩))
    (fun os started H enc _ => tgrows_lifted os started H enc)

theorem tgrows_holds : Rows.ThreeGrowsCardSaid :=
  Claim7.holds_tied_plain_at .later [] [.data, .data, .data, .data] true (true, "80d70ccfab68465697476b2079b993017b1c283859092195ae200dbc245b2947") false
    tgrows_row (fun _ h => by cases h) (by kernel_rfl) (fun _ h => by cases h) threeGrows_row_tie rfl ⟨rfl, rfl⟩ (by kernel_rfl) rfl
    (fun f fn hf hfn => by
      obtain rfl : f = 6 := Option.some.inj ((show Tryd.prog.funcNamed "lookout/lookoutlaw15.ThreeGrows" = some 6 by kernel_rfl).symm.trans hf) |>.symm
      obtain rfl : fn = Tryd.f6 := (Option.some.inj (Tryd.func6.symm.trans hfn)).symm
      exact ⟨by kernel_rfl, fun j t ht => by
        have hall : (Tryd.f6.params.toList.all fun u => !Tryd.prog.wantsStandIn u) = true := by kernel_rfl
        have hm : t ∈ Tryd.f6.params.toList := by simpa using Array.mem_of_getElem? ht
        exact (show Tryd.prog.wantsStandIn t = false by simpa using List.all_eq_true.1 hall t hm)⟩)
    (by kernel_rfl)
end Go.Proofs.YtkmicfjcikilhaaDoor
