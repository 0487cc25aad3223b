/- three's nodes: Un. -/
import Derived.Test.YtoegdmpmagbaiaaGreatDoorKS
set_option maxHeartbeats 8000000
set_option maxRecDepth 100000
namespace Go.Proofs.YtoegdmpmagbaiaaGreatDoor
open Go.RowKit Go.Lib
def UnC (W0:World)(W:List Pt)(mark lo hi:Int)(i j:Nat)(xs ys:List Int)(b:Bool)(av:Value)(wx:World):Prop:=∃a,av=.bool a∧UnI W mark lo hi i j (j+1) xs ys b a∧Fr Nob W0 wx
theorem UnI.pass0 {W:List Pt}{mark lo hi:Int}{i j:Nat}{x y:List Int}{b a:Bool}(h:UnI W mark lo hi i j j x y b a)(hij:i≤j)(hr:InR W lo hi i j)(hy:xAt y j=0):UnI W mark lo hi i j (j+1) x y b a:=by
 have:=h.pass hij hr (fun e=>by rw[hy] at e;exact absurd e.1 (by decide));rwa [hy,decide_eq_true rfl,Bool.and_true] at this
theorem UnI.pass1 {W:List Pt}{mark lo hi:Int}{i j:Nat}{x y:List Int}{b a:Bool}(h:UnI W mark lo hi i j j x y b a)(hij:i≤j)(hr:InR W lo hi i j)(hy:xAt y j≠0)(hn:¬(xAt y j=1∧b=true∧(j=i∨tAt W j-1≤mark))):UnI W mark lo hi i j (j+1) x y b false:=by
 have:=h.pass hij hr hn;rwa [decide_eq_false hy,Bool.and_false] at this
theorem UnI.next1 {W:List Pt}{mark lo hi:Int}{i j:Nat}{x y:List Int}{b a:Bool}(h:UnI W mark lo hi i j (j+1) x y b a)(hij:i≤j)(hx:xAt x j=1):UnI W mark lo hi i (j+1) (j+1) x y b a:=by
 have:=h.next hij (by rw[hx];decide);rwa [hx,decide_eq_true rfl,Bool.and_true] at this
theorem UnI.next2 {W:List Pt}{mark lo hi:Int}{i j:Nat}{x y:List Int}{b a:Bool}(h:UnI W mark lo hi i j (j+1) x y b a)(hij:i≤j)(hx:xAt x j≠0)(h1:xAt x j≠1):UnI W mark lo hi i (j+1) (j+1) x y false a:=by
 have:=h.next hij hx;rwa [decide_eq_false h1,Bool.and_false] at this
theorem th_un (w:World)(A:Option Addr)(c:Nat)(ps:List Pn)(h:WSl w A c ps)(hW:Ay (pts ps))(i:Nat)(hi':i<ps.length)(mark lo hi:Int)(X:Option Addr)(cx:Nat)(xs:List Int)(hx:Sl w 1 X xs.length cx (xs.map ivI))(hxl:xs.length=ps.length)(htri:∀j,Tri (xAt xs j))
 (Y:Option Addr)(cy:Nat)(ys:List Int)(hy:Sl w 1 Y ys.length cy (ys.map ivI))(hyl:ys.length=ps.length)(htri2:∀j,Tri (xAt ys j))(hlo:0≤lo)(hfew:ps.length≤1000):
 Calls Tryz.prog 124 #[.agg #[.slice A ps.length c,.int .i64 mark],.int .i64 i,.agg #[.int .i64 lo,.int .i64 hi],.slice X xs.length cx,.slice Y ys.length cy] w fun e w'=>e=.returned (.int .i64 (unK (pts ps) mark lo hi i xs ys))∧Fr Nob w w':=by
 have HL:=AA h;have HX:=AA hx;have HY:=AA hy;have HW:=AA hW;have HT:=AA htri;have HT2:=AA htri2;have HXL:=AA hxl;have HYL:=AA hyl;have HN:=AA (fun W (hf:Fr Nob w W) far=>th_none W A c ps (h.pure hf) i hi' mark lo hi far (hW.lo i (by rw[AC];exact hi')) (hW.hi i (by rw[AC];exact hi')) hlo);rw [hxl,hyl];clear h hx hW htri hxl hy htri2 hyl;go_enter Tryz.func124,Tryz.ntmps124;go_upto_region 1 with fail;obtain ⟨W0,hW0⟩:∃W0,(w.alloc (.cells #[.slice A ps.length c,.int .i64 mark] 137)).alloc (.cells #[.int .i64 lo,.int .i64 hi] 25)=W0:=⟨_,rfl⟩;have HK0:=AA (show Blk W0 w.heap.size 137 #[.slice A ps.length c,.int .i64 mark] by rw[←hW0];exact(Blk.new _ _ _).alloc _);have HS0:=AA (show Blk W0 (w.heap.size+1) 25 #[.int .i64 lo,.int .i64 hi] by rw[←hW0];exact Blk.new_eq (by simp));have HF0:=AA (show Fr Nob w W0 by rw[←hW0];exact((Fr.refl _ _).alloc _).alloc _);rw [hW0];clear hW0;have sc:=HS0.out.cell;have sl:=HS0.out.lt;go_wp2_with fail;go_step3;go_wp2_with fail;go_step3;go_wp2_with fail;clear sc sl;go_loopw [11,12,13,14] (fun fv bv av jv wr=>∃(j:Nat) (b a:Bool),i≤j∧j≤ps.length∧fv=.int .i64 hi∧jv=.int .i64 j∧bv=.bool b∧av=.bool a∧Hid (UnI (pts ps) mark lo hi i j j xs ys b a)∧Hid (Fr Nob W0 wr)) (fun _ _ _ jv _=>ps.length-(intOf jv).toNat);case atStart=>exact⟨i,true,true,Nat.le_refl _,by omega,rfl,rfl,rfl,rfl,AA UnI.zero,AA (Fr.refl _ _)⟩
 case round=>
  obtain⟨j,b,a,hij,hjn,rfl,rfl,rfl,rfl,hun,hfr⟩:=hrel;have HKr:=AA (HK0.out.fr hfr.out (fun e=>e));have HSr:=AA (HS0.out.fr hfr.out (fun e=>e));have kc:=HKr.out.cell;have kl:=HKr.out.lt;have sc:=HSr.out.cell;have sl:=HSr.out.lt;by_cases hlt:j<ps.length
  ·have hI:(j:Int)<ps.length:=by omega
   have hI3:0≤(j:Int):=by omega
   have hJ:(i:Int)<ps.length:=by omega
   have hJ3:0≤(i:Int):=by omega
   obtain⟨q,off,hA,hb,d0,_⟩:=(HL.out.pure (HF0.out.call hfr.out (fun _ h _=>h))).at_ hlt;obtain ⟨q2,off2,hA2,_,e0,_⟩:=(HL.out.pure (HF0.out.call hfr.out (fun _ h _=>h))).at_ hi';rw [hA] at hA2;obtain ⟨rfl,rfl⟩:q=q2∧off=off2:=by simpa using hA2
   clear hA2;obtain ⟨bx,ofx,hX,hbx,x0⟩:=Bg (HX.out.pure (HF0.out.call hfr.out (fun _ h _=>h))) (k:=j) (by rw[HXL.out];exact hlt);obtain ⟨b_y,ofy,hY,hby,y0⟩:=Bg (HY.out.pure (HF0.out.call hfr.out (fun _ h _=>h))) (k:=j) (by rw[HYL.out];exact hlt);rw [←Ar hlt] at d0;rw [←Ar hi'] at e0;have htj:=HW.out.hi j (by rw[AC];exact hlt);have htj0:=HW.out.lo j (by rw[AC];exact hlt);have hti0:=HW.out.lo i (by rw[AC];exact hi');have hti:=HW.out.hi i (by rw[AC];exact hi');have htij:=HW.out.le hij (by rw[AC];exact hlt);unfold AO at htj hti;obtain ⟨d,hd⟩:∃d,d=tAt (pts ps) j-tAt (pts ps) i:=⟨_,rfl⟩;have hwr1:=CR (x:=tAt (pts ps) j-1) (by omega) (by omega);have hwr2:=CR (x:=d-1) (by omega) (by omega);have hw642:wrap64 (d-1)=d-1:=by unfold wrap64;omega
   have hw641:wrap64 (tAt (pts ps) j-1)=tAt (pts ps) j-1:=by unfold wrap64;omega
   have hw64:wrap64 (tAt (pts ps) j-tAt (pts ps) i)=d:=by unfold wrap64;omega
   have HD:=AA hd;have hvx:=HT.out j;have hvy:=HT2.out j;obtain ⟨v,hv⟩:∃v,v=xAt xs j:=⟨_,rfl⟩;obtain ⟨u,hu⟩:∃u,u=xAt ys j:=⟨_,rfl⟩;rw [←hv] at x0 hvx;rw [←hu] at y0 hvy;have HV:=AA hv;have HU:=AA hu;obtain ⟨hb_,hhb⟩:∃r,r=(decide (lo≤d)&&decide (d≤hi)):=⟨_,rfl⟩;have HHAS:=AA (fun W=>Em W lo hi d);rw [←hhb] at HHAS;have HB:=AA hhb;clear hd hv hu htj htj0 hti0 hti htij hhb;subst hA hX hY;by_cases hdh:hi<d
   ·go_wp2_with fail;go_quiet (fail)
    have HE:=AA (show unK (pts ps) mark lo hi i xs ys=if(a&&shutB (tAt (pts ps) i) lo (min (min hi (AO-tAt (pts ps) i)) hi) mark)=true then 0 else 2 by
     rw[UnI.end1 HW.out hun.out (.inr (by rw[←HD.out];exact hdh)) (by rw[AC];omega) hij,show min (min hi (AO-tAt (pts ps) i)) hi=min hi (AO-tAt (pts ps) i) by omega]);clear hun;cases a
    ·have HE2:=AA (HE.out.trans (if_neg (by simp)));clear HE HN;go_wp2_with fail;(try rw[Exit.noGoto_ret]);go_ret;rw [HE2.out];exact ⟨rfl,HF0.out.call (hfr.out.drewN _) (fun _ h _=>h)⟩
    ·rw[Bool.true_and] at HE;have HN':=AA (fun W (hf:Fr Nob w W)=>HN.out W hf (hi));clear HN;generalize shutB (tAt (pts ps) i) lo (min (min hi (AO-tAt (pts ps) i)) (hi)) mark=r at*;cases r
     ·have HE2:=AA (HE.out.trans (if_neg (by simp)));clear HE;go_wp2_with (first|((go_at_call 154);(with_reducible refine(HN'.out _ (HF0.out.call (hfr.out.drewN _) (fun _ h _=>h))).mono ?_);rintro e w1 ⟨rfl,hf1⟩)|fail);(try rw[Exit.noGoto_ret]);go_ret;rw [HE2.out];exact ⟨rfl,(HF0.out.call (hfr.out.drewN _) (fun _ h _=>h)).call hf1 (fun _ h _=>h)⟩
     ·have HE2:=AA (HE.out.trans (if_pos rfl));clear HE;go_wp2_with (first|((go_at_call 154);(with_reducible refine(HN'.out _ (HF0.out.call (hfr.out.drewN _) (fun _ h _=>h))).mono ?_);rintro e w1 ⟨rfl,hf1⟩)|fail);(try rw[Exit.noGoto_ret]);go_ret;rw [HE2.out];exact ⟨rfl,(HF0.out.call (hfr.out.drewN _) (fun _ h _=>h)).call hf1 (fun _ h _=>h)⟩
   ·have hdh2:d≤hi:=by omega
    have HIN:=AA (show hb_=true↔InR (pts ps) lo hi i j by rw[HB.out,Bool.and_eq_true,decide_eq_true_eq,decide_eq_true_eq,HD.out];rfl);go_wp2_with fail;go_quiet (fail);go_upto_if 45 with(first|((go_at_call 132);(with_reducible refine(HHAS.out _).mono ?_);rintro e w1 ⟨rfl,hf1⟩;replace y0:=hf1.cell y0 (fun e=>e);replace d0:=hf1.cell d0 (fun e=>e);have hby1:=Nat.lt_of_lt_of_le hby hf1.size;have hb1:=Nat.lt_of_lt_of_le hb hf1.size;have HK1:=AA ((HKr.out.drewN _).fr hf1 (fun e=>e));have kc1:=HK1.out.cell;have kl1:=HK1.out.lt;have HFW:=AA (((Fr.refl Nob wr).drewN _).call hf1 (fun _ h _=>h)))|fail);go_cut [13] (fun av wx=>UnC wr (pts ps) mark lo hi i j xs ys b av wx)
    case first=>
     cases hb_
     ·go_wp2_with fail;go_meet;exact ⟨a,rfl,hun.out.skip (fun e=>by cases HIN.out.2 e),HFW.out⟩
     ·have HJN:=AA (HIN.out.1 rfl);clear HIN;rcases hvy with rfl|rfl|rfl
      ·cases a<;>cases b
       all_goals
        go_wp2_with fail;go_quiet (fail);go_wp2_with fail;go_meet;exact ⟨_,rfl,hun.out.pass0 hij HJN.out HU.out.symm,HFW.out.drewN _⟩
      ·cases b
       ·cases a
        all_goals
         go_wp2_with fail;go_quiet (fail);go_wp2_with fail;go_meet;exact ⟨_,rfl,hun.out.pass1 hij HJN.out (by rw[←HU.out];decide) (fun e=>by cases e.2.1),HFW.out.drewN _⟩
       ·by_cases hji:j=i
        ·have hjb:((j:Int)==i)=true:=by simp[hji]
         have HJI:=AA hji;clear hji;go_wp2_with fail;go_quiet (fail);go_wp2_with fail;(try rw[Exit.noGoto_ret]);go_ret;rw [hun.out.found hij (by rw[AC];exact hlt) HJN.out HU.out.symm rfl (.inl HJI.out)];exact ⟨rfl,HF0.out.call (hfr.out.call (HFW.out.drewN _) (fun _ h _=>h)) (fun _ h _=>h)⟩
        ·have hjb:((j:Int)==i)=false:=by simp;omega
         have HJN2:=AA hji;clear hji;have hjd:decide ((j:Int)=i)=false:=by have:=HJN2.out;simp;omega
         by_cases htm:tAt (pts ps) j-1≤mark
         ·go_wp2_with fail;go_quiet (fail);go_wp2_with fail;(try rw[Exit.noGoto_ret]);go_ret;rw [hun.out.found hij (by rw[AC];exact hlt) HJN.out HU.out.symm rfl (.inr htm)];exact ⟨rfl,HF0.out.call (hfr.out.call (HFW.out.drewN _) (fun _ h _=>h)) (fun _ h _=>h)⟩
         ·have htm':mark<tAt (pts ps) j-1:=by omega
          cases a
          all_goals
           go_wp2_with fail;go_quiet (fail);go_wp2_with fail;go_meet;exact ⟨_,rfl,hun.out.pass1 hij HJN.out (by rw[←HU.out];decide) (fun e=>by rcases e.2.2 with e|e;exact HJN2.out e;omega),HFW.out.drewN _⟩
      ·cases a<;>cases b
       all_goals
        go_wp2_with fail;go_quiet (fail);go_wp2_with fail;go_meet;exact ⟨_,rfl,hun.out.pass1 hij HJN.out (by rw[←HU.out];decide) (fun e=>by rw[←HU.out] at e;exact absurd e.1 (by decide)),HFW.out.drewN _⟩
    case rest=>
     obtain⟨a,rfl,hun2,hfr2⟩:=hcut;clear hun HIN HHAS HU y0 kc kl sc sl d0 e0;have HUN:=AA hun2;have HFR2:=AA (hfr.out.call hfr2 (fun _ h _=>h));replace x0:=hfr2.cell x0 (fun e=>e);replace hbx:=Nat.lt_of_lt_of_le hbx hfr2.size;have HKc:=AA (HKr.out.fr hfr2 (fun e=>e));have kc:=HKc.out.cell;have kl:=HKc.out.lt;have HSc:=AA (HSr.out.fr hfr2 (fun e=>e));have sc:=HSc.out.cell;have sl:=HSc.out.lt;clear hun2 hfr2;rcases hvx with rfl|rfl|rfl
     ·have HE:=AA (show unK (pts ps) mark lo hi i xs ys=if(a&&shutB (tAt (pts ps) i) lo (min (min hi (AO-tAt (pts ps) i)) (d-1)) mark)=true then 0 else 2 by
       rw[UnI.end2 HW.out HUN.out hij (by rw[AC];exact hlt) HV.out.symm,show tAt (pts ps) j-1-tAt (pts ps) i=d-1 by have:=HD.out;omega]);clear HUN;cases b
      ·skip;cases a
       ·have HE2:=AA (HE.out.trans (if_neg (by simp)));clear HE HN;go_wp2_with fail;(try rw[Exit.noGoto_ret]);go_ret;rw [HE2.out];exact ⟨rfl,HF0.out.call HFR2.out (fun _ h _=>h)⟩
       ·rw[Bool.true_and] at HE;have HN':=AA (fun W (hf:Fr Nob w W)=>HN.out W hf (d-1));clear HN;generalize shutB (tAt (pts ps) i) lo (min (min hi (AO-tAt (pts ps) i)) (d-1)) mark=r at*;cases r
        ·have HE2:=AA (HE.out.trans (if_neg (by simp)));clear HE;go_wp2_with (first|((go_at_call 154);(with_reducible refine(HN'.out _ (HF0.out.call HFR2.out (fun _ h _=>h))).mono ?_);rintro e w1 ⟨rfl,hf1⟩)|fail);(try rw[Exit.noGoto_ret]);go_ret;rw [HE2.out];exact ⟨rfl,(HF0.out.call HFR2.out (fun _ h _=>h)).call hf1 (fun _ h _=>h)⟩
        ·have HE2:=AA (HE.out.trans (if_pos rfl));clear HE;go_wp2_with (first|((go_at_call 154);(with_reducible refine(HN'.out _ (HF0.out.call HFR2.out (fun _ h _=>h))).mono ?_);rintro e w1 ⟨rfl,hf1⟩)|fail);(try rw[Exit.noGoto_ret]);go_ret;rw [HE2.out];exact ⟨rfl,(HF0.out.call HFR2.out (fun _ h _=>h)).call hf1 (fun _ h _=>h)⟩
      ·skip;cases a
       ·have HE2:=AA (HE.out.trans (if_neg (by simp)));clear HE HN;go_wp2_with fail;(try rw[Exit.noGoto_ret]);go_ret;rw [HE2.out];exact ⟨rfl,HF0.out.call HFR2.out (fun _ h _=>h)⟩
       ·rw[Bool.true_and] at HE;have HN':=AA (fun W (hf:Fr Nob w W)=>HN.out W hf (d-1));clear HN;generalize shutB (tAt (pts ps) i) lo (min (min hi (AO-tAt (pts ps) i)) (d-1)) mark=r at*;cases r
        ·have HE2:=AA (HE.out.trans (if_neg (by simp)));clear HE;go_wp2_with (first|((go_at_call 154);(with_reducible refine(HN'.out _ (HF0.out.call HFR2.out (fun _ h _=>h))).mono ?_);rintro e w1 ⟨rfl,hf1⟩)|fail);(try rw[Exit.noGoto_ret]);go_ret;rw [HE2.out];exact ⟨rfl,(HF0.out.call HFR2.out (fun _ h _=>h)).call hf1 (fun _ h _=>h)⟩
        ·have HE2:=AA (HE.out.trans (if_pos rfl));clear HE;go_wp2_with (first|((go_at_call 154);(with_reducible refine(HN'.out _ (HF0.out.call HFR2.out (fun _ h _=>h))).mono ?_);rintro e w1 ⟨rfl,hf1⟩)|fail);(try rw[Exit.noGoto_ret]);go_ret;rw [HE2.out];exact ⟨rfl,(HF0.out.call HFR2.out (fun _ h _=>h)).call hf1 (fun _ h _=>h)⟩
     ·clear HN;cases b
      all_goals
       go_wp2_with fail;go_roundw;case rel=>exact⟨j+1,_,a,by omega,by omega,rfl,by go_num,rfl,rfl,AA (HUN.out.next1 hij HV.out.symm),HFR2⟩
       case measure=>simp[intOf];omega
     ·clear HN;cases b
      all_goals
       go_wp2_with fail;go_roundw;case rel=>exact⟨j+1,_,a,by omega,by omega,rfl,by go_num,rfl,rfl,AA (HUN.out.next2 hij (by rw[←HV.out];decide) (by rw[←HV.out];decide)),HFR2⟩
       case measure=>simp[intOf];omega
  ·skip
   have HE:=AA (show unK (pts ps) mark lo hi i xs ys=if(a&&shutB (tAt (pts ps) i) lo (min (min hi (AO-tAt (pts ps) i)) hi) mark)=true then 0 else 2 by
    rw[UnI.end1 HW.out hun.out (.inl (by rw[AC];omega)) (by rw[AC];omega) hij,show min (min hi (AO-tAt (pts ps) i)) hi=min hi (AO-tAt (pts ps) i) by omega]);clear hun;cases a
   ·have HE2:=AA (HE.out.trans (if_neg (by simp)));clear HE HN;go_wp2_with fail;(try rw[Exit.noGoto_ret]);go_ret;rw [HE2.out];exact ⟨rfl,HF0.out.call hfr.out (fun _ h _=>h)⟩
   ·rw[Bool.true_and] at HE;have HN':=AA (fun W (hf:Fr Nob w W)=>HN.out W hf (hi));clear HN;generalize shutB (tAt (pts ps) i) lo (min (min hi (AO-tAt (pts ps) i)) (hi)) mark=r at*;cases r
    ·have HE2:=AA (HE.out.trans (if_neg (by simp)));clear HE;go_wp2_with (first|((go_at_call 154);(with_reducible refine(HN'.out _ (HF0.out.call hfr.out (fun _ h _=>h))).mono ?_);rintro e w1 ⟨rfl,hf1⟩)|fail);(try rw[Exit.noGoto_ret]);go_ret;rw [HE2.out];exact ⟨rfl,(HF0.out.call hfr.out (fun _ h _=>h)).call hf1 (fun _ h _=>h)⟩
    ·have HE2:=AA (HE.out.trans (if_pos rfl));clear HE;go_wp2_with (first|((go_at_call 154);(with_reducible refine(HN'.out _ (HF0.out.call hfr.out (fun _ h _=>h))).mono ?_);rintro e w1 ⟨rfl,hf1⟩)|fail);(try rw[Exit.noGoto_ret]);go_ret;rw [HE2.out];exact ⟨rfl,(HF0.out.call hfr.out (fun _ h _=>h)).call hf1 (fun _ h _=>h)⟩
def notK (v:Int):Int:=if v=2 then 2 else 1-v
def andK (v u:Int):Int:=if v=0∨u=0 then 0 else if v=1∧u=1 then 1 else 2
def iffK (v u:Int):Int:=if v=2∨u=2 then 2 else if v=u then 1 else 0
structure Cj (w:World):Prop where
 not:∀v,Tri v→w.cell? ⟨0,v.toNat,none⟩=some (.int .i64 (notK v))
 and:∀v u,Tri v→Tri u→w.cell? ⟨1,v.toNat*3+u.toNat,none⟩=some (.int .i64 (andK v u))
 iff:∀v u,Tri v→Tri u→w.cell? ⟨2,v.toNat*3+u.toNat,none⟩=some (.int .i64 (iffK v u))
theorem Cj.fr {w w':World}(h:Cj w)(hf:Fr Nob w w'):Cj w':=
 ⟨fun v a=>hf.cell (h.not v a) (fun e=>e),fun v u a b=>hf.cell (h.and v u a b) (fun e=>e),fun v u a b=>hf.cell (h.iff v u a b) (fun e=>e)⟩
theorem th_at (w:World)(A:Option Addr)(c:Nat)(ps:List Pn)(h:WSl w A c ps)(hW:Ay (pts ps))(hv:Cj w)(i:Nat)(hi':i<ps.length)(mark:Int)(n:Nd)(NA:Option Addr)(nn nc:Nat)
 (X:Option Addr)(cx:Nat)(xs:List Int)(hx:Sl w 1 X xs.length cx (xs.map ivI))(htri:∀j,Tri (xAt xs j))(Y:Option Addr)(cy:Nat)(ys:List Int)(hy:Sl w 1 Y ys.length cy (ys.map ivI))(htri2:∀j,Tri (xAt ys j))
 (hop:n.op=1∨n.op=2∨n.op=3∨n.op=4∨n.op=5∨n.op=8∨n.op=9∨n.op=11)(hxl:4≤n.op→xs.length=ps.length)(hyl:n.op=5∨n.op=8∨n.op=11→ys.length=ps.length)(hlo:9≤n.op→0≤n.lo)(hfew:ps.length≤1000):
 Calls Tryz.prog 74 #[.agg #[.slice A ps.length c,.int .i64 mark],.int .i64 i,AF n NA nn nc,.slice X xs.length cx,.slice Y ys.length cy] w fun e w'=>e=.returned (.int .i64 (knK (pts ps) mark n i xs ys))∧Fr Nob w w':=by
 obtain⟨r,hr⟩:∃r,r=knK (pts ps) mark n i xs ys:=⟨_,rfl⟩;rw [←hr];obtain ⟨op,nm,cm,va,lo,hi⟩:=n;dsimp only at hop hxl hyl hlo;unfold AF;dsimp only;have hI:(i:Int)<ps.length:=by omega
 have hI3:0≤(i:Int):=by omega
 have HL:=AA h;have HV:=AA hv;rcases hop with rfl|rfl|rfl|rfl|rfl|rfl|rfl|rfl
 ·have HR:=AA (show r=1 by rw[hr];simp[knK]);clear h hx hy hv hr hxl hyl hlo hW;go_enter Tryz.func74,Tryz.ntmps74;go_wp2_with fail;go_ret;rw [HR.out];exact ⟨rfl,((Fr.refl _ _).alloc _).alloc _⟩
 ·have HR:=AA (show r=0 by rw[hr];simp[knK]);clear h hx hy hv hr hxl hyl hlo hW;go_enter Tryz.func74,Tryz.ntmps74;go_wp2_with fail;go_ret;rw [HR.out];exact ⟨rfl,((Fr.refl _ _).alloc _).alloc _⟩
 ·have HP:=AA (h.inn _ (List.getElem_mem hi'));obtain ⟨b,off,hA,hb,d0,d1⟩:=h.at_ hi';have HA:=AA hA;clear hA;have HRR:=AA (show r=if holdsB ps[i].l nm cm va then 1 else if ps[i].t≤mark then 0 else 2 by rw[hr];simp[knK,Ar hi',F0 hi']);generalize ps[i]=p at*;obtain ⟨t,pA,pc,l⟩:=p;dsimp only at d0 d1 HP HRR;obtain ⟨op,hop⟩:∃op:Int,op=3:=⟨_,rfl⟩;have HH:=AA (fun W (hf:Fr Nob w W)=>lab_Holds W pA pc l nm cm va (HP.out.pure hf));clear h hx hy hv hxl hyl hlo hW hr htri htri2 HL HV;go_enter Tryz.func74,Tryz.ntmps74;go_upto_region 1 with fail;rw [←hop];obtain ⟨W0,hW0⟩:∃W0,(w.alloc (.cells #[.slice A ps.length c,.int .i64 mark] 137)).alloc (.cells #[.int .i64 op,.string nm,.int .i64 cm,.int .i64 va,.int .i64 lo,.int .i64 hi,.slice NA nn nc] 28)=W0:=⟨_,rfl⟩;have HK0:=AA (show Blk W0 w.heap.size 137 #[.slice A ps.length c,.int .i64 mark] by rw[←hW0];exact(Blk.new _ _ _).alloc _);have HB0:=AA (show Blk W0 (w.heap.size+1) 28 #[.int .i64 op,.string nm,.int .i64 cm,.int .i64 va,.int .i64 lo,.int .i64 hi,.slice NA nn nc] by rw[←hW0];exact Blk.new_eq (by simp));have HF0:=AA (show Fr Nob w W0 by rw[←hW0];exact((Fr.refl _ _).alloc _).alloc _);rw [hW0];clear hW0;have kc:=HK0.out.cell;have kl:=HK0.out.lt;have bc:=HB0.out.cell;have bl:=HB0.out.lt;subst hop;have hA:=HA.out;subst hA;replace d0:=HF0.out.cell d0 (fun e=>e);replace d1:=HF0.out.cell d1 (fun e=>e);replace hb:=Nat.lt_of_lt_of_le hb HF0.out.size;go_upto_region 6 with fail;obtain ⟨W1,hW1⟩:∃W1,W0.alloc (.cells #[.int .i64 t,.slice pA l.length pc] 78)=W1:=⟨_,rfl⟩;rw [hW1];have HF1:=AA (show Fr Nob W0 W1 by rw[←hW1];exact(Fr.refl _ _).alloc _);have HPB:=AA (show Blk W1 W0.heap.size 78 #[.int .i64 t,.slice pA l.length pc] by rw[←hW1];exact Blk.new _ _ _);have kc1:=(HK0.out.fr HF1.out (fun e=>e)).cell;have kl1:=(HK0.out.fr HF1.out (fun e=>e)).lt;have bc1:=(HB0.out.fr HF1.out (fun e=>e)).cell;have bl1:=(HB0.out.fr HF1.out (fun e=>e)).lt;have pc1:=HPB.out.cell;have pl1:=HPB.out.lt;clear hW1 kc kl bc bl d0 d1;cases hhb:holdsB l nm cm va
  ·rw[hhb] at HRR HH;clear hhb;by_cases htm:t≤mark
   ·have HR:=AA (show r=0 by rw[HRR.out];simp[htm]);clear HRR
    go_wp2_with (first
     |((go_at_call 89);(with_reducible refine(HH.out _ (HF0.out.call HF1.out (fun _ h _=>h))).mono ?_);rintro e w1 ⟨rfl,hf1⟩;have kc2:=((HK0.out.fr HF1.out (fun e=>e)).fr hf1 (fun e=>e)).cell;have kl2:=((HK0.out.fr HF1.out (fun e=>e)).fr hf1 (fun e=>e)).lt;have pc2:=(HPB.out.fr hf1 (fun e=>e)).cell;have pl2:=(HPB.out.fr hf1 (fun e=>e)).lt)
     |fail);go_ret;rw [HR.out];exact ⟨rfl,(HF0.out.call HF1.out (fun _ h _=>h)).call hf1 (fun _ h _=>h)⟩
   ·have HR:=AA (show r=2 by rw[HRR.out];simp[htm]);have htm':mark<t:=by omega
    clear HRR
    go_wp2_with (first
     |((go_at_call 89);(with_reducible refine(HH.out _ (HF0.out.call HF1.out (fun _ h _=>h))).mono ?_);rintro e w1 ⟨rfl,hf1⟩;have kc2:=((HK0.out.fr HF1.out (fun e=>e)).fr hf1 (fun e=>e)).cell;have kl2:=((HK0.out.fr HF1.out (fun e=>e)).fr hf1 (fun e=>e)).lt;have pc2:=(HPB.out.fr hf1 (fun e=>e)).cell;have pl2:=(HPB.out.fr hf1 (fun e=>e)).lt)
     |fail);go_ret;rw [HR.out];exact ⟨rfl,(HF0.out.call HF1.out (fun _ h _=>h)).call hf1 (fun _ h _=>h)⟩
  ·have HR:=AA (show r=1 by rw[HRR.out,hhb];rfl);rw [hhb] at HH;clear HRR hhb
   go_wp2_with (first
    |((go_at_call 89);(with_reducible refine(HH.out _ (HF0.out.call HF1.out (fun _ h _=>h))).mono ?_);rintro e w1 ⟨rfl,hf1⟩;have kc2:=((HK0.out.fr HF1.out (fun e=>e)).fr hf1 (fun e=>e)).cell;have kl2:=((HK0.out.fr HF1.out (fun e=>e)).fr hf1 (fun e=>e)).lt;have pc2:=(HPB.out.fr hf1 (fun e=>e)).cell;have pl2:=(HPB.out.fr hf1 (fun e=>e)).lt)
    |fail);go_ret;rw [HR.out];exact ⟨rfl,(HF0.out.call HF1.out (fun _ h _=>h)).call hf1 (fun _ h _=>h)⟩
 ·have hl:=hxl (by decide);obtain ⟨bx,ofx,rfl,hbx,x0⟩:=Bg hx (k:=i) (by rw[hl];exact hi');have hvx:=htri i;obtain ⟨op,hop⟩:∃op:Int,op=4:=⟨_,rfl⟩;rw [hl];clear h hx hy hv hxl hyl hlo hW hl;go_enter Tryz.func74,Tryz.ntmps74;go_upto_region 1 with fail;rw [←hop];obtain ⟨W0,hW0⟩:∃W0,(w.alloc (.cells #[.slice A ps.length c,.int .i64 mark] 137)).alloc (.cells #[.int .i64 op,.string nm,.int .i64 cm,.int .i64 va,.int .i64 lo,.int .i64 hi,.slice NA nn nc] 28)=W0:=⟨_,rfl⟩;have HK0:=AA (show Blk W0 w.heap.size 137 #[.slice A ps.length c,.int .i64 mark] by rw[←hW0];exact(Blk.new _ _ _).alloc _);have HB0:=AA (show Blk W0 (w.heap.size+1) 28 #[.int .i64 op,.string nm,.int .i64 cm,.int .i64 va,.int .i64 lo,.int .i64 hi,.slice NA nn nc] by rw[←hW0];exact Blk.new_eq (by simp));have HF0:=AA (show Fr Nob w W0 by rw[←hW0];exact((Fr.refl _ _).alloc _).alloc _);rw [hW0];clear hW0;have kc:=HK0.out.cell;have kl:=HK0.out.lt;have bc:=HB0.out.cell;have bl:=HB0.out.lt;subst hop;replace x0:=HF0.out.cell x0 (fun e=>e);replace hbx:=Nat.lt_of_lt_of_le hbx HF0.out.size;have HVW:=AA (HV.out.fr HF0.out);rcases hvx with hxv|hxv|hxv
  ·rw[hxv] at x0;have g0:W0.cell? ⟨0,0,none⟩=some (.int .i64 1):=HVW.out.not 0 (.inl rfl);have HR:=AA (show r=1 by rw[hr];simp[knK,hxv]);clear hr;go_wp2_with fail;(try go_quiet (fail));(try go_wp2_with fail);go_ret;rw [HR.out]
   first
    |exact⟨rfl,HF0.out⟩
    |exact⟨rfl,HF0.out.drewN _⟩
  ·rw[hxv] at x0;have g0:W0.cell? ⟨0,1,none⟩=some (.int .i64 0):=HVW.out.not 1 (.inr (.inl rfl));have HR:=AA (show r=0 by rw[hr];simp[knK,hxv]);clear hr;go_wp2_with fail;(try go_quiet (fail));(try go_wp2_with fail);go_ret;rw [HR.out]
   first
    |exact⟨rfl,HF0.out⟩
    |exact⟨rfl,HF0.out.drewN _⟩
  ·rw[hxv] at x0;have g0:W0.cell? ⟨0,2,none⟩=some (.int .i64 2):=HVW.out.not 2 (.inr (.inr rfl));have HR:=AA (show r=2 by rw[hr];simp[knK,hxv]);clear hr;go_wp2_with fail;(try go_quiet (fail));(try go_wp2_with fail);go_ret;rw [HR.out]
   first
    |exact⟨rfl,HF0.out⟩
    |exact⟨rfl,HF0.out.drewN _⟩
 ·have hl:=hxl (by decide);have hl2:=hyl (by omega);obtain ⟨bx,ofx,rfl,hbx,x0⟩:=Bg hx (k:=i) (by rw[hl];exact hi');obtain ⟨b_y,ofy,rfl,hby,y0⟩:=Bg hy (k:=i) (by rw[hl2];exact hi');have hvx:=htri i;have hvy:=htri2 i;obtain ⟨op,hop⟩:∃op:Int,op=5:=⟨_,rfl⟩;rw [hl,hl2];clear h hx hy hv hxl hyl hlo hW hl hl2;go_enter Tryz.func74,Tryz.ntmps74;go_upto_region 1 with fail;rw [←hop];obtain ⟨W0,hW0⟩:∃W0,(w.alloc (.cells #[.slice A ps.length c,.int .i64 mark] 137)).alloc (.cells #[.int .i64 op,.string nm,.int .i64 cm,.int .i64 va,.int .i64 lo,.int .i64 hi,.slice NA nn nc] 28)=W0:=⟨_,rfl⟩;have HK0:=AA (show Blk W0 w.heap.size 137 #[.slice A ps.length c,.int .i64 mark] by rw[←hW0];exact(Blk.new _ _ _).alloc _);have HB0:=AA (show Blk W0 (w.heap.size+1) 28 #[.int .i64 op,.string nm,.int .i64 cm,.int .i64 va,.int .i64 lo,.int .i64 hi,.slice NA nn nc] by rw[←hW0];exact Blk.new_eq (by simp));have HF0:=AA (show Fr Nob w W0 by rw[←hW0];exact((Fr.refl _ _).alloc _).alloc _);rw [hW0];clear hW0;have kc:=HK0.out.cell;have kl:=HK0.out.lt;have bc:=HB0.out.cell;have bl:=HB0.out.lt;subst hop;replace x0:=HF0.out.cell x0 (fun e=>e);replace y0:=HF0.out.cell y0 (fun e=>e);replace hbx:=Nat.lt_of_lt_of_le hbx HF0.out.size;replace hby:=Nat.lt_of_lt_of_le hby HF0.out.size;have HVW:=AA (HV.out.fr HF0.out);rcases hvx with hxv|hxv|hxv<;>rcases hvy with hyv|hyv|hyv
  ·rw[hxv] at x0;rw [hyv] at y0;have g0:W0.cell? ⟨1,0,none⟩=some (.int .i64 0):=HVW.out.and 0 0 (.inl rfl) (.inl rfl);have HR:=AA (show r=0 by rw[hr];simp[knK,hxv,hyv]);clear hr;go_wp2_with fail;(try go_quiet (fail));(try go_wp2_with fail);go_ret;rw [HR.out]
   first
    |exact⟨rfl,HF0.out⟩
    |exact⟨rfl,HF0.out.drewN _⟩
  ·rw[hxv] at x0;rw [hyv] at y0;have g0:W0.cell? ⟨1,1,none⟩=some (.int .i64 0):=HVW.out.and 0 1 (.inl rfl) (.inr (.inl rfl));have HR:=AA (show r=0 by rw[hr];simp[knK,hxv,hyv]);clear hr;go_wp2_with fail;(try go_quiet (fail));(try go_wp2_with fail);go_ret;rw [HR.out]
   first
    |exact⟨rfl,HF0.out⟩
    |exact⟨rfl,HF0.out.drewN _⟩
  ·rw[hxv] at x0;rw [hyv] at y0;have g0:W0.cell? ⟨1,2,none⟩=some (.int .i64 0):=HVW.out.and 0 2 (.inl rfl) (.inr (.inr rfl));have HR:=AA (show r=0 by rw[hr];simp[knK,hxv,hyv]);clear hr;go_wp2_with fail;(try go_quiet (fail));(try go_wp2_with fail);go_ret;rw [HR.out]
   first
    |exact⟨rfl,HF0.out⟩
    |exact⟨rfl,HF0.out.drewN _⟩
  ·rw[hxv] at x0;rw [hyv] at y0;have g0:W0.cell? ⟨1,3,none⟩=some (.int .i64 0):=HVW.out.and 1 0 (.inr (.inl rfl)) (.inl rfl);have HR:=AA (show r=0 by rw[hr];simp[knK,hxv,hyv]);clear hr;go_wp2_with fail;(try go_quiet (fail));(try go_wp2_with fail);go_ret;rw [HR.out]
   first
    |exact⟨rfl,HF0.out⟩
    |exact⟨rfl,HF0.out.drewN _⟩
  ·rw[hxv] at x0;rw [hyv] at y0;have g0:W0.cell? ⟨1,4,none⟩=some (.int .i64 1):=HVW.out.and 1 1 (.inr (.inl rfl)) (.inr (.inl rfl));have HR:=AA (show r=1 by rw[hr];simp[knK,hxv,hyv]);clear hr;go_wp2_with fail;(try go_quiet (fail));(try go_wp2_with fail);go_ret;rw [HR.out]
   first
    |exact⟨rfl,HF0.out⟩
    |exact⟨rfl,HF0.out.drewN _⟩
  ·rw[hxv] at x0;rw [hyv] at y0;have g0:W0.cell? ⟨1,5,none⟩=some (.int .i64 2):=HVW.out.and 1 2 (.inr (.inl rfl)) (.inr (.inr rfl));have HR:=AA (show r=2 by rw[hr];simp[knK,hxv,hyv]);clear hr;go_wp2_with fail;(try go_quiet (fail));(try go_wp2_with fail);go_ret;rw [HR.out]
   first
    |exact⟨rfl,HF0.out⟩
    |exact⟨rfl,HF0.out.drewN _⟩
  ·rw[hxv] at x0;rw [hyv] at y0;have g0:W0.cell? ⟨1,6,none⟩=some (.int .i64 0):=HVW.out.and 2 0 (.inr (.inr rfl)) (.inl rfl);have HR:=AA (show r=0 by rw[hr];simp[knK,hxv,hyv]);clear hr;go_wp2_with fail;(try go_quiet (fail));(try go_wp2_with fail);go_ret;rw [HR.out]
   first
    |exact⟨rfl,HF0.out⟩
    |exact⟨rfl,HF0.out.drewN _⟩
  ·rw[hxv] at x0;rw [hyv] at y0;have g0:W0.cell? ⟨1,7,none⟩=some (.int .i64 2):=HVW.out.and 2 1 (.inr (.inr rfl)) (.inr (.inl rfl));have HR:=AA (show r=2 by rw[hr];simp[knK,hxv,hyv]);clear hr;go_wp2_with fail;(try go_quiet (fail));(try go_wp2_with fail);go_ret;rw [HR.out]
   first
    |exact⟨rfl,HF0.out⟩
    |exact⟨rfl,HF0.out.drewN _⟩
  ·rw[hxv] at x0;rw [hyv] at y0;have g0:W0.cell? ⟨1,8,none⟩=some (.int .i64 2):=HVW.out.and 2 2 (.inr (.inr rfl)) (.inr (.inr rfl));have HR:=AA (show r=2 by rw[hr];simp[knK,hxv,hyv]);clear hr;go_wp2_with fail;(try go_quiet (fail));(try go_wp2_with fail);go_ret;rw [HR.out]
   first
    |exact⟨rfl,HF0.out⟩
    |exact⟨rfl,HF0.out.drewN _⟩
 ·have hl:=hxl (by decide);have hl2:=hyl (by omega);obtain ⟨bx,ofx,rfl,hbx,x0⟩:=Bg hx (k:=i) (by rw[hl];exact hi');obtain ⟨b_y,ofy,rfl,hby,y0⟩:=Bg hy (k:=i) (by rw[hl2];exact hi');have hvx:=htri i;have hvy:=htri2 i;obtain ⟨op,hop⟩:∃op:Int,op=8:=⟨_,rfl⟩;rw [hl,hl2];clear h hx hy hv hxl hyl hlo hW hl hl2;go_enter Tryz.func74,Tryz.ntmps74;go_upto_region 1 with fail;rw [←hop];obtain ⟨W0,hW0⟩:∃W0,(w.alloc (.cells #[.slice A ps.length c,.int .i64 mark] 137)).alloc (.cells #[.int .i64 op,.string nm,.int .i64 cm,.int .i64 va,.int .i64 lo,.int .i64 hi,.slice NA nn nc] 28)=W0:=⟨_,rfl⟩;have HK0:=AA (show Blk W0 w.heap.size 137 #[.slice A ps.length c,.int .i64 mark] by rw[←hW0];exact(Blk.new _ _ _).alloc _);have HB0:=AA (show Blk W0 (w.heap.size+1) 28 #[.int .i64 op,.string nm,.int .i64 cm,.int .i64 va,.int .i64 lo,.int .i64 hi,.slice NA nn nc] by rw[←hW0];exact Blk.new_eq (by simp));have HF0:=AA (show Fr Nob w W0 by rw[←hW0];exact((Fr.refl _ _).alloc _).alloc _);rw [hW0];clear hW0;have kc:=HK0.out.cell;have kl:=HK0.out.lt;have bc:=HB0.out.cell;have bl:=HB0.out.lt;subst hop;replace x0:=HF0.out.cell x0 (fun e=>e);replace y0:=HF0.out.cell y0 (fun e=>e);replace hbx:=Nat.lt_of_lt_of_le hbx HF0.out.size;replace hby:=Nat.lt_of_lt_of_le hby HF0.out.size;have HVW:=AA (HV.out.fr HF0.out);rcases hvx with hxv|hxv|hxv<;>rcases hvy with hyv|hyv|hyv
  ·rw[hxv] at x0;rw [hyv] at y0;have g0:W0.cell? ⟨2,0,none⟩=some (.int .i64 1):=HVW.out.iff 0 0 (.inl rfl) (.inl rfl);have HR:=AA (show r=1 by rw[hr];simp[knK,hxv,hyv]);clear hr;go_wp2_with fail;(try go_quiet (fail));(try go_wp2_with fail);go_ret;rw [HR.out]
   first
    |exact⟨rfl,HF0.out⟩
    |exact⟨rfl,HF0.out.drewN _⟩
  ·rw[hxv] at x0;rw [hyv] at y0;have g0:W0.cell? ⟨2,1,none⟩=some (.int .i64 0):=HVW.out.iff 0 1 (.inl rfl) (.inr (.inl rfl));have HR:=AA (show r=0 by rw[hr];simp[knK,hxv,hyv]);clear hr;go_wp2_with fail;(try go_quiet (fail));(try go_wp2_with fail);go_ret;rw [HR.out]
   first
    |exact⟨rfl,HF0.out⟩
    |exact⟨rfl,HF0.out.drewN _⟩
  ·rw[hxv] at x0;rw [hyv] at y0;have g0:W0.cell? ⟨2,2,none⟩=some (.int .i64 2):=HVW.out.iff 0 2 (.inl rfl) (.inr (.inr rfl));have HR:=AA (show r=2 by rw[hr];simp[knK,hxv,hyv]);clear hr;go_wp2_with fail;(try go_quiet (fail));(try go_wp2_with fail);go_ret;rw [HR.out]
   first
    |exact⟨rfl,HF0.out⟩
    |exact⟨rfl,HF0.out.drewN _⟩
  ·rw[hxv] at x0;rw [hyv] at y0;have g0:W0.cell? ⟨2,3,none⟩=some (.int .i64 0):=HVW.out.iff 1 0 (.inr (.inl rfl)) (.inl rfl);have HR:=AA (show r=0 by rw[hr];simp[knK,hxv,hyv]);clear hr;go_wp2_with fail;(try go_quiet (fail));(try go_wp2_with fail);go_ret;rw [HR.out]
   first
    |exact⟨rfl,HF0.out⟩
    |exact⟨rfl,HF0.out.drewN _⟩
  ·rw[hxv] at x0;rw [hyv] at y0;have g0:W0.cell? ⟨2,4,none⟩=some (.int .i64 1):=HVW.out.iff 1 1 (.inr (.inl rfl)) (.inr (.inl rfl));have HR:=AA (show r=1 by rw[hr];simp[knK,hxv,hyv]);clear hr;go_wp2_with fail;(try go_quiet (fail));(try go_wp2_with fail);go_ret;rw [HR.out]
   first
    |exact⟨rfl,HF0.out⟩
    |exact⟨rfl,HF0.out.drewN _⟩
  ·rw[hxv] at x0;rw [hyv] at y0;have g0:W0.cell? ⟨2,5,none⟩=some (.int .i64 2):=HVW.out.iff 1 2 (.inr (.inl rfl)) (.inr (.inr rfl));have HR:=AA (show r=2 by rw[hr];simp[knK,hxv,hyv]);clear hr;go_wp2_with fail;(try go_quiet (fail));(try go_wp2_with fail);go_ret;rw [HR.out]
   first
    |exact⟨rfl,HF0.out⟩
    |exact⟨rfl,HF0.out.drewN _⟩
  ·rw[hxv] at x0;rw [hyv] at y0;have g0:W0.cell? ⟨2,6,none⟩=some (.int .i64 2):=HVW.out.iff 2 0 (.inr (.inr rfl)) (.inl rfl);have HR:=AA (show r=2 by rw[hr];simp[knK,hxv,hyv]);clear hr;go_wp2_with fail;(try go_quiet (fail));(try go_wp2_with fail);go_ret;rw [HR.out]
   first
    |exact⟨rfl,HF0.out⟩
    |exact⟨rfl,HF0.out.drewN _⟩
  ·rw[hxv] at x0;rw [hyv] at y0;have g0:W0.cell? ⟨2,7,none⟩=some (.int .i64 2):=HVW.out.iff 2 1 (.inr (.inr rfl)) (.inr (.inl rfl));have HR:=AA (show r=2 by rw[hr];simp[knK,hxv,hyv]);clear hr;go_wp2_with fail;(try go_quiet (fail));(try go_wp2_with fail);go_ret;rw [HR.out]
   first
    |exact⟨rfl,HF0.out⟩
    |exact⟨rfl,HF0.out.drewN _⟩
  ·rw[hxv] at x0;rw [hyv] at y0;have g0:W0.cell? ⟨2,8,none⟩=some (.int .i64 2):=HVW.out.iff 2 2 (.inr (.inr rfl)) (.inr (.inr rfl));have HR:=AA (show r=2 by rw[hr];simp[knK,hxv,hyv]);clear hr;go_wp2_with fail;(try go_quiet (fail));(try go_wp2_with fail);go_ret;rw [HR.out]
   first
    |exact⟨rfl,HF0.out⟩
    |exact⟨rfl,HF0.out.drewN _⟩
 ·have hl:=hxl (by decide);have HEV:=AA (fun W (hf:Fr Nob w W)=>th_ev W A c ps (h.pure hf) hW i hi' mark lo hi X cx xs (hx.pure hf) hl htri (hlo (by decide)) hfew);have HR:=AA (show r=evK (pts ps) mark lo hi i xs by rw[hr];simp[knK]);generalize evK (pts ps) mark lo hi i xs=r2 at*;rw [hl] at HEV ⊢;obtain ⟨op,hop⟩:∃op:Int,op=9:=⟨_,rfl⟩;clear h hx hy hv hxl hyl hlo hW hl hr htri htri2 HL HV;go_enter Tryz.func74,Tryz.ntmps74;go_upto_region 1 with fail;rw [←hop];obtain ⟨W0,hW0⟩:∃W0,(w.alloc (.cells #[.slice A ps.length c,.int .i64 mark] 137)).alloc (.cells #[.int .i64 op,.string nm,.int .i64 cm,.int .i64 va,.int .i64 lo,.int .i64 hi,.slice NA nn nc] 28)=W0:=⟨_,rfl⟩;have HK0:=AA (show Blk W0 w.heap.size 137 #[.slice A ps.length c,.int .i64 mark] by rw[←hW0];exact(Blk.new _ _ _).alloc _);have HB0:=AA (show Blk W0 (w.heap.size+1) 28 #[.int .i64 op,.string nm,.int .i64 cm,.int .i64 va,.int .i64 lo,.int .i64 hi,.slice NA nn nc] by rw[←hW0];exact Blk.new_eq (by simp));have HF0:=AA (show Fr Nob w W0 by rw[←hW0];exact((Fr.refl _ _).alloc _).alloc _);rw [hW0];clear hW0;have kc:=HK0.out.cell;have kl:=HK0.out.lt;have bc:=HB0.out.cell;have bl:=HB0.out.lt;subst hop;go_wp2_with (first|((go_at_call 123);(with_reducible refine(HEV.out _ HF0.out).mono ?_);rintro e w1 ⟨rfl,hf1⟩)|fail);go_ret;rw [HR.out];exact ⟨rfl,HF0.out.call hf1 (fun _ h _=>h)⟩
 ·have hl:=hxl (by decide);have hl2:=hyl (by omega);have HUN:=AA (fun W (hf:Fr Nob w W)=>th_un W A c ps (h.pure hf) hW i hi' mark lo hi X cx xs (hx.pure hf) hl htri Y cy ys (hy.pure hf) hl2 htri2 (hlo (by decide)) hfew);have HR:=AA (show r=unK (pts ps) mark lo hi i xs ys by rw[hr];simp[knK]);generalize unK (pts ps) mark lo hi i xs ys=r2 at*;rw [hl,hl2] at HUN ⊢;obtain ⟨op,hop⟩:∃op:Int,op=11:=⟨_,rfl⟩;clear h hx hy hv hxl hyl hlo hW hl hl2 hr htri htri2 HL HV;go_enter Tryz.func74,Tryz.ntmps74;go_upto_region 1 with fail;rw [←hop];obtain ⟨W0,hW0⟩:∃W0,(w.alloc (.cells #[.slice A ps.length c,.int .i64 mark] 137)).alloc (.cells #[.int .i64 op,.string nm,.int .i64 cm,.int .i64 va,.int .i64 lo,.int .i64 hi,.slice NA nn nc] 28)=W0:=⟨_,rfl⟩;have HK0:=AA (show Blk W0 w.heap.size 137 #[.slice A ps.length c,.int .i64 mark] by rw[←hW0];exact(Blk.new _ _ _).alloc _);have HB0:=AA (show Blk W0 (w.heap.size+1) 28 #[.int .i64 op,.string nm,.int .i64 cm,.int .i64 va,.int .i64 lo,.int .i64 hi,.slice NA nn nc] by rw[←hW0];exact Blk.new_eq (by simp));have HF0:=AA (show Fr Nob w W0 by rw[←hW0];exact((Fr.refl _ _).alloc _).alloc _);rw [hW0];clear hW0;have kc:=HK0.out.cell;have kl:=HK0.out.lt;have bc:=HB0.out.cell;have bl:=HB0.out.lt;subst hop;go_wp2_with (first|((go_at_call 124);(with_reducible refine(HUN.out _ HF0.out).mono ?_);rintro e w1 ⟨rfl,hf1⟩)|fail);go_ret;rw [HR.out];exact ⟨rfl,HF0.out.call hf1 (fun _ h _=>h)⟩
end Go.Proofs.YtoegdmpmagbaiaaGreatDoor
