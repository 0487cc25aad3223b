/- EnginePlays: whatever events come, however the mark goes on, and whenever verdicts are asked for, each answer, the live points, the mark and the last moment are the document's, step by step: the law answers true and leaves its argument. No condition beyond the row's own. -/
import Derived.Test.YtoegdmpmagbaiaaGreatDoorKV
import Derived.Test.YtoegdmpmagbaiaaGreatDoorQE34
import Derived.Test.YtoegdmpmagbaiaaGreatDoorCards
import Derived.Test.YtoegdmpmagbaiaaGreatDoorTie
import Derived.SevenTiedAt
set_option maxRecDepth 100000
namespace Go.Proofs.YtoegdmpmagbaiaaGreatDoor
open Go.ChangeShapes Go.WideShapes Go.ChangeAt Go.ChangeMaps Go.RowKit
theorem Fx (H:Type)(enc:TypeId×Value→H)(W:World)(base:Nat)(args:Array Value)(ds gs:List (DataW H))(before:List MemPlace)
 (hval:∀(j:Nat) t v,Tryz.f3.params[j]?=some t→args[j]?=some v→Value.okWide Tryz.prog W .any base t v)
 (hW:DataW.Whole enc Tryz.prog Tryz.f3.params.toList Rows.enginePlaysSpec.vars false W args.toList ds gs before)(hL:laidMetH Tryz.prog Gp W):
 Calls Tryz.prog 3 args W fun e W'=>∃v,e=.returned v∧Rows.enginePlaysSpec.post enc Tryz.prog Tryz.f3 false true false false W args v W':=by
 have hW':=hW;obtain ⟨p,q,hA0,hV,rfl,hfz,hnd⟩:=hW;have hA:DataW.TrodAll enc Tryz.prog W 0 (fun _=>true) true Tryz.f3.params.toList args.toList ds p:=hA0;rw [Tryz.params3] at hA hval;obtain ⟨v0,v1,d0,d1,p0,p1,rfl,rfl,rfl,h0,h1⟩:=trodAll_two hA;obtain ⟨x,A,c,ks,rfl,hx,hk,hs⟩:=open_formula (hval 0 28 v0 rfl rfl) h0;obtain ⟨B,d,al,rfl,ha,h63⟩:=open_acts (hval 1 29 v1 rfl rfl) h1;obtain ⟨rfl,rfl⟩:=trodVars_none hV;clear hA0;refine (Fu W x A c ks hs hx hk (sh_of_laid hL) (th_of_laid hL) B d al ha (fun a h=>⟨(h63 a h).1.2,(h63 a h).2.2⟩)).mono fun e W' ⟨he,hb⟩=>?_;exact ⟨_,he,law_post laid_out (by kernel_rfl) rfl (by kernel_rfl) Tryz.underlying4 hW' rfl rfl rfl hb.below⟩
theorem eplays_lifted (os:Os)(started:os.Started)(H:Type)(enc:TypeId×Value→H):
 ReturnsInHanded {} Tryz.checked os 3 .any (fun w args=>(Rows.enginePlaysSpec.pre enc Tryz.prog Tryz.f3 [] false w args∧laidMetH Tryz.prog Gp w)∧sizedMet enc Tryz.prog Tryz.f3 (OpenSpec.ofChange Rows.enginePlaysSpec) false w args)
  (Rows.enginePlaysSpec.post enc Tryz.prog Tryz.f3 false true false false):=by
 refine returnsInHanded_of_change_and (C:=Tryz.checked) (X:=fun w _=>laidMetH Tryz.prog Gp w) (fun _ _ _ hh h=>h.of_heap hh) own_knob started (by kernel_rfl) Tryz.func3
  (ChangeSpec.witness_shaped (enc:=enc) (C:=Tryz.checked) (os:=os) (X:=fun w _=>laidMetH Tryz.prog Gp w) false (World.doorLaid Tryz.prog 400 os) #[.agg #[.int .i64 0,.string ByteArray.empty,.int .i64 0,.int .i64 0,.int .i64 0,.int .i64 0,.slice none 0 0],.slice none 0 0] 8 rfl (World.shaped_of_RefB (by kernel_rfl) (by kernel_rfl)) (by kernel_rfl) (by kernel_rfl) (by kernel_rfl) (door_met os _)) ?_;intro W base args ds gs before hval hW _ _ hL _;exact Fx H enc W base args ds gs before hval hW hL
theorem eplays_row:Rows.EnginePlaysSaid:=
 OpenClaim.holds_of_wide 3 Tryz.f3 rfl rfl rfl rfl rfl rfl rfl ⟨rfl,rfl,rfl,rfl,rfl⟩ rfl rfl rfl rfl rfl (by kernel_rfl) Tryz.func3 (by kernel_rfl)
  (of_decide_eq_true (by kernel_rfl)) (by unfold Func.isWrapper;first|(rw [if_pos (by decide+kernel)];kernel_rfl)|(rw [if_neg (by decide+kernel)];exact⟨rfl,rfl⟩))
  (fun os started H enc _=>eplays_lifted os started H enc)
theorem eplays_holds:Rows.EnginePlaysCardSaid:=
 Claim7.holds_tied_plain_at .later [] [.data,.data,.data,.data] true (true, "b79dc21cb0fcd9b1df65f18e805d500b3f2b5d8f9201210d8e0d5c08ee3bcfe1" ) false
  eplays_row (fun _ h=>by cases h) (by kernel_rfl) (fun _ h=>by cases h) enginePlays_row_tie rfl ⟨rfl,rfl⟩ (by kernel_rfl) rfl
  (fun f fn hf hfn=>by
    obtain rfl:f=3:=Option.some.inj ((show Tryz.prog.funcNamed "lookout/lookoutlaw23.EnginePlays" =some 3 by kernel_rfl).symm.trans hf)|>.symm;obtain rfl:fn=Tryz.f3:=(Option.some.inj (Tryz.func3.symm.trans hfn)).symm
    exact⟨by kernel_rfl,fun j t ht=>by
     have hall:(Tryz.f3.params.toList.all fun u=>!Tryz.prog.wantsStandIn u)=true:=by kernel_rfl
     have hm:t∈Tryz.f3.params.toList:=by simpa using Array.mem_of_getElem? ht
     exact(show Tryz.prog.wantsStandIn t=false by simpa using List.all_eq_true.1 hall t hm)⟩)
  (by kernel_rfl)
end Go.Proofs.YtoegdmpmagbaiaaGreatDoor
