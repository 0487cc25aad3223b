/- three's nodes: none, Ev. -/
import Derived.Test.YtoegdmpmagbaiaaGreatDoorKR
import Derived.Test.YtoegdmpmagbaiaaGreatDoorKA
import Derived.Deep.DeepCutAuto
import Derived.WalkMore
set_option maxHeartbeats 4000000
set_option maxRecDepth 100000
namespace Go.Proofs.YtoegdmpmagbaiaaGreatDoor
open Go.RowKit Go.Lib
def ivI (v:Int):Value:=.int .i64 v
theorem Bg {w:World}{A:Option Addr}{c:Nat}{L:List Int}{k:Nat}(h:Sl w 1 A L.length c (L.map ivI))(hk:k<L.length):∃b off,A=some ⟨b,off,none⟩∧b<w.heap.size∧w.cell? ⟨b,off+k,none⟩=some (.int .i64 (xAt L k)):=by
 obtain⟨b,off,u,hA,hb,hu,hc⟩:=h.at_ hk;refine ⟨b,off,hA,hb,hc.trans ?_⟩;rw [←hu,List.getElem?_map,List.getElem?_eq_getElem hk];unfold xAt;rw [List.getD_eq_getElem?_getD,List.getElem?_eq_getElem hk];rfl
theorem Ar {ps:List Pn}{k:Nat}(hk:k<ps.length):tAt (pts ps) k=ps[k].t:=by
 unfold tAt pts;rw [List.getD_eq_getElem?_getD,List.getElem?_map,List.getElem?_eq_getElem hk];rfl
theorem F0 {ps:List Pn}{k:Nat}(hk:k<ps.length):pAt (pts ps) k=ps[k].l:=by
 unfold pAt pts;rw [List.getD_eq_getElem?_getD,List.getElem?_map,List.getElem?_eq_getElem hk];rfl
theorem Em (w:World)(lo hi d:Int):Calls Tryz.prog 132 #[.agg #[.int .i64 lo,.int .i64 hi],.int .i64 d] w fun e w'=>e=.returned (.bool (decide (lo≤d)&&decide (d≤hi)))∧Fr Nob w w':=by
 by_cases h1:lo≤d
 ·by_cases h2:d≤hi
  ·skip;have HR:=AA (show (decide (lo≤d)&&decide (d≤hi))=true by simp[h1,h2]);generalize (decide (lo≤d)&&decide (d≤hi))=r at*;go_enter Tryz.func132,Tryz.ntmps132;go_wp2_with fail;go_ret;rw [HR.out];exact ⟨rfl,(Fr.refl _ _).alloc _⟩
  ·have h2':hi<d:=by omega
   have HR:=AA (show (decide (lo≤d)&&decide (d≤hi))=false by simp[h2]);generalize (decide (lo≤d)&&decide (d≤hi))=r at*;go_enter Tryz.func132,Tryz.ntmps132;go_wp2_with fail;go_ret;rw [HR.out];exact ⟨rfl,(Fr.refl _ _).alloc _⟩
 ·have h1':d<lo:=by omega
  have HR:=AA (show (decide (lo≤d)&&decide (d≤hi))=false by simp[h1]);generalize (decide (lo≤d)&&decide (d≤hi))=r at*;go_enter Tryz.func132,Tryz.ntmps132;go_wp2_with fail;go_ret;rw [HR.out];exact ⟨rfl,(Fr.refl _ _).alloc _⟩
theorem CR {x:Int}(h1: -9223372036854775808≤x)(h2:x≤9223372036854775807):IntKind.i64.wrap x=x:=by
 unfold IntKind.wrap;simp[IntKind.bits,IntKind.signed];omega
theorem th_none (w:World)(A:Option Addr)(c:Nat)(ps:List Pn)(h:WSl w A c ps)(i:Nat)(hi':i<ps.length)(mark lo hi far:Int)(ht0:0≤tAt (pts ps) i)(ht1:tAt (pts ps) i≤AO)(hlo:0≤lo):
 Calls Tryz.prog 154 #[.agg #[.slice A ps.length c,.int .i64 mark],.int .i64 i,.agg #[.int .i64 lo,.int .i64 hi],.int .i64 far] w fun e w'=>e=.returned (.bool (shutB (tAt (pts ps) i) lo (min (min hi (AO-tAt (pts ps) i)) far) mark))∧Fr Nob w w':=by
 obtain⟨b,off,rfl,hb,d0,d1⟩:=h.at_ hi';rw [Ar hi'] at ht0 ht1 ⊢;generalize ps[i].t=t at*;clear h d1;have ht1':=ht1;unfold AO at ht1';have hw1:=CR (x:=9223372036854775807-t) (by omega) (by omega);have hI:(i:Int)<ps.length:=by omega
 have hI3:0≤(i:Int):=by omega
 by_cases ha:9223372036854775807-t<hi
 ·by_cases hb2:far<9223372036854775807-t
  ·skip;by_cases h1:far<lo
   ·skip;have HR:=AA (show shutB t lo (min (min hi (AO-t)) far) mark=true by rw[A9];unfold AO;exact .inl (by omega));generalize shutB t lo (min (min hi (AO-t)) far) mark=r at*;go_enter Tryz.func154,Tryz.ntmps154;go_wp2_with fail;go_ret;rw [HR.out];exact ⟨rfl,((Fr.refl _ _).alloc _).alloc _⟩
   ·have h1':lo≤far:=by omega
    have hw2:=CR (x:=t+(far)) (by omega) (by omega);by_cases h2:t+(far)≤mark
    ·skip;have HR:=AA (show shutB t lo (min (min hi (AO-t)) far) mark=true by rw[A9];unfold AO;exact .inr (by omega));generalize shutB t lo (min (min hi (AO-t)) far) mark=r at*;go_enter Tryz.func154,Tryz.ntmps154;go_wp2_with fail;go_ret;rw [HR.out];exact ⟨rfl,((Fr.refl _ _).alloc _).alloc _⟩
    ·have h2':mark<t+(far):=by omega
     have HR:=AA (show shutB t lo (min (min hi (AO-t)) far) mark=false by rw[←Bool.not_eq_true,A9];unfold AO;omega);generalize shutB t lo (min (min hi (AO-t)) far) mark=r at*;go_enter Tryz.func154,Tryz.ntmps154;go_wp2_with fail;go_ret;rw [HR.out];exact ⟨rfl,((Fr.refl _ _).alloc _).alloc _⟩
  ·skip;by_cases h1:9223372036854775807-t<lo
   ·skip;have HR:=AA (show shutB t lo (min (min hi (AO-t)) far) mark=true by rw[A9];unfold AO;exact .inl (by omega));generalize shutB t lo (min (min hi (AO-t)) far) mark=r at*;go_enter Tryz.func154,Tryz.ntmps154;go_wp2_with fail;go_ret;rw [HR.out];exact ⟨rfl,((Fr.refl _ _).alloc _).alloc _⟩
   ·have h1':lo≤9223372036854775807-t:=by omega
    have hw2:=CR (x:=t+(9223372036854775807-t)) (by omega) (by omega);by_cases h2:t+(9223372036854775807-t)≤mark
    ·skip;have HR:=AA (show shutB t lo (min (min hi (AO-t)) far) mark=true by rw[A9];unfold AO;exact .inr (by omega));generalize shutB t lo (min (min hi (AO-t)) far) mark=r at*;go_enter Tryz.func154,Tryz.ntmps154;go_wp2_with fail;go_ret;rw [HR.out];exact ⟨rfl,((Fr.refl _ _).alloc _).alloc _⟩
    ·have h2':mark<t+(9223372036854775807-t):=by omega
     have HR:=AA (show shutB t lo (min (min hi (AO-t)) far) mark=false by rw[←Bool.not_eq_true,A9];unfold AO;omega);generalize shutB t lo (min (min hi (AO-t)) far) mark=r at*;go_enter Tryz.func154,Tryz.ntmps154;go_wp2_with fail;go_ret;rw [HR.out];exact ⟨rfl,((Fr.refl _ _).alloc _).alloc _⟩
 ·by_cases hb2:far<hi
  ·skip;by_cases h1:far<lo
   ·skip;have HR:=AA (show shutB t lo (min (min hi (AO-t)) far) mark=true by rw[A9];unfold AO;exact .inl (by omega));generalize shutB t lo (min (min hi (AO-t)) far) mark=r at*;go_enter Tryz.func154,Tryz.ntmps154;go_wp2_with fail;go_ret;rw [HR.out];exact ⟨rfl,((Fr.refl _ _).alloc _).alloc _⟩
   ·have h1':lo≤far:=by omega
    have hw2:=CR (x:=t+(far)) (by omega) (by omega);by_cases h2:t+(far)≤mark
    ·skip;have HR:=AA (show shutB t lo (min (min hi (AO-t)) far) mark=true by rw[A9];unfold AO;exact .inr (by omega));generalize shutB t lo (min (min hi (AO-t)) far) mark=r at*;go_enter Tryz.func154,Tryz.ntmps154;go_wp2_with fail;go_ret;rw [HR.out];exact ⟨rfl,((Fr.refl _ _).alloc _).alloc _⟩
    ·have h2':mark<t+(far):=by omega
     have HR:=AA (show shutB t lo (min (min hi (AO-t)) far) mark=false by rw[←Bool.not_eq_true,A9];unfold AO;omega);generalize shutB t lo (min (min hi (AO-t)) far) mark=r at*;go_enter Tryz.func154,Tryz.ntmps154;go_wp2_with fail;go_ret;rw [HR.out];exact ⟨rfl,((Fr.refl _ _).alloc _).alloc _⟩
  ·skip;by_cases h1:hi<lo
   ·skip;have HR:=AA (show shutB t lo (min (min hi (AO-t)) far) mark=true by rw[A9];unfold AO;exact .inl (by omega));generalize shutB t lo (min (min hi (AO-t)) far) mark=r at*;go_enter Tryz.func154,Tryz.ntmps154;go_wp2_with fail;go_ret;rw [HR.out];exact ⟨rfl,((Fr.refl _ _).alloc _).alloc _⟩
   ·have h1':lo≤hi:=by omega
    have hw2:=CR (x:=t+(hi)) (by omega) (by omega);by_cases h2:t+(hi)≤mark
    ·skip;have HR:=AA (show shutB t lo (min (min hi (AO-t)) far) mark=true by rw[A9];unfold AO;exact .inr (by omega));generalize shutB t lo (min (min hi (AO-t)) far) mark=r at*;go_enter Tryz.func154,Tryz.ntmps154;go_wp2_with fail;go_ret;rw [HR.out];exact ⟨rfl,((Fr.refl _ _).alloc _).alloc _⟩
    ·have h2':mark<t+(hi):=by omega
     have HR:=AA (show shutB t lo (min (min hi (AO-t)) far) mark=false by rw[←Bool.not_eq_true,A9];unfold AO;omega);generalize shutB t lo (min (min hi (AO-t)) far) mark=r at*;go_enter Tryz.func154,Tryz.ntmps154;go_wp2_with fail;go_ret;rw [HR.out];exact ⟨rfl,((Fr.refl _ _).alloc _).alloc _⟩
theorem th_ev (w:World)(A:Option Addr)(c:Nat)(ps:List Pn)(h:WSl w A c ps)(hW:Ay (pts ps))(i:Nat)(hi':i<ps.length)(mark lo hi:Int)(X:Option Addr)(cx:Nat)(xs:List Int)(hx:Sl w 1 X xs.length cx (xs.map ivI))(hxl:xs.length=ps.length)(htri:∀j,Tri (xAt xs j))(hlo:0≤lo)(hfew:ps.length≤1000):
 Calls Tryz.prog 123 #[.agg #[.slice A ps.length c,.int .i64 mark],.int .i64 i,.agg #[.int .i64 lo,.int .i64 hi],.slice X xs.length cx] w fun e w'=>e=.returned (.int .i64 (evK (pts ps) mark lo hi i xs))∧Fr Nob w w':=by
 have HL:=AA h;have HX:=AA hx;have HW:=AA hW;have HT:=AA htri;have HXL:=AA hxl;have HN:=AA (fun W (hf:Fr Nob w W) far=>th_none W A c ps (h.pure hf) i hi' mark lo hi far (hW.lo i (by rw[AC];exact hi')) (hW.hi i (by rw[AC];exact hi')) hlo);rw [hxl];clear h hx hW htri hxl;go_enter Tryz.func123,Tryz.ntmps123;go_upto_region 1 with fail;obtain ⟨W0,hW0⟩:∃W0,(w.alloc (.cells #[.slice A ps.length c,.int .i64 mark] 137)).alloc (.cells #[.int .i64 lo,.int .i64 hi] 25)=W0:=⟨_,rfl⟩;have HK0:=AA (show Blk W0 w.heap.size 137 #[.slice A ps.length c,.int .i64 mark] by rw[←hW0];exact(Blk.new _ _ _).alloc _);have HS0:=AA (show Blk W0 (w.heap.size+1) 25 #[.int .i64 lo,.int .i64 hi] by rw[←hW0];exact Blk.new_eq (by simp));have HF0:=AA (show Fr Nob w W0 by rw[←hW0];exact((Fr.refl _ _).alloc _).alloc _);rw [hW0];clear hW0;go_wp2_with fail;go_step3;go_wp2_with fail;go_step3;go_wp2_with fail;go_loopw [9,10] (fun av jv wr=>∃(j:Nat) (a:Bool),i≤j∧j≤ps.length∧jv=.int .i64 j∧av=.bool a∧Hid (EvI (pts ps) lo hi i j xs a)∧Hid (Fr Nob W0 wr)) (fun _ jv _=>ps.length-(intOf jv).toNat);case atStart=>exact⟨i,true,Nat.le_refl _,by omega,rfl,rfl,AA EvI.zero,AA (Fr.refl _ _)⟩
 case round=>
  obtain⟨j,a,hij,hjn,rfl,rfl,hev,hfr⟩:=hrel;have HKr:=AA (HK0.out.fr hfr.out (fun e=>e));have HSr:=AA (HS0.out.fr hfr.out (fun e=>e));have kc:=HKr.out.cell;have kl:=HKr.out.lt;have sc:=HSr.out.cell;have sl:=HSr.out.lt;by_cases hlt:j<ps.length
  ·have hI:(j:Int)<ps.length:=by omega
   have hI3:0≤(j:Int):=by omega
   have hJ:(i:Int)<ps.length:=by omega
   have hJ3:0≤(i:Int):=by omega
   obtain⟨b,off,hA,hb,d0,_⟩:=(HL.out.pure (HF0.out.call hfr.out (fun _ h _=>h))).at_ hlt;obtain ⟨b2,off2,hA2,_,e0,_⟩:=(HL.out.pure (HF0.out.call hfr.out (fun _ h _=>h))).at_ hi';rw [hA] at hA2;obtain ⟨rfl,rfl⟩:b=b2∧off=off2:=by simpa using hA2
   clear hA2;obtain ⟨bx,ofx,hX,hbx,x0⟩:=Bg (HX.out.pure (HF0.out.call hfr.out (fun _ h _=>h))) (k:=j) (by rw[HXL.out];exact hlt);rw [←Ar hlt] at d0;rw [←Ar hi'] at e0;have htj:=HW.out.hi j (by rw[AC];exact hlt);have htj0:=HW.out.lo j (by rw[AC];exact hlt);have hti0:=HW.out.lo i (by rw[AC];exact hi');have hti:=HW.out.hi i (by rw[AC];exact hi');unfold AO at htj hti;obtain ⟨d,hd⟩:∃d,d=tAt (pts ps) j-tAt (pts ps) i:=⟨_,rfl⟩;have hw64:wrap64 (tAt (pts ps) j-tAt (pts ps) i)=d:=by unfold wrap64;omega
   have HD:=AA hd;have hvx:=HT.out j;have HVX:=AA (show xAt xs j=xAt xs j from rfl);obtain ⟨v,hv⟩:∃v,v=xAt xs j:=⟨_,rfl⟩;rw [←hv] at x0 hvx;have HV:=AA hv;have HHAS:=AA (fun W=>Em W lo hi d);clear hd hv htj htj0 hti0 hti HVX;subst hA hX;by_cases hdh:hi<d
   ·go_wp2_with fail;go_quiet (fail)
    have HE:=AA (show evK (pts ps) mark lo hi i xs=if(a&&shutB (tAt (pts ps) i) lo (min (min hi (AO-tAt (pts ps) i)) hi) mark)=true then 0 else 2 by
     rw[EvI.end_ (mark:=mark) HW.out hev.out (.inr (by rw[←HD.out];exact hdh)) (by rw[AC];omega),show min (min hi (AO-tAt (pts ps) i)) hi=min hi (AO-tAt (pts ps) i) by omega]);clear hev;cases a
    ·have HE2:=AA (HE.out.trans (if_neg (by simp)));clear HE HN;go_wp2_with fail;(try rw[Exit.noGoto_ret]);go_ret;rw [HE2.out];exact ⟨rfl,HF0.out.call (hfr.out.drewN _) (fun _ h _=>h)⟩
    ·rw[Bool.true_and] at HE;have HN':=AA (fun W (hf:Fr Nob w W)=>HN.out W hf (hi));clear HN;generalize shutB (tAt (pts ps) i) lo (min (min hi (AO-tAt (pts ps) i)) (hi)) mark=r at*;cases r
     ·have HE2:=AA (HE.out.trans (if_neg (by simp)));clear HE;go_wp2_with (first|((go_at_call 154);(with_reducible refine(HN'.out _ (HF0.out.call (hfr.out.drewN _) (fun _ h _=>h))).mono ?_);rintro e w1 ⟨rfl,hf1⟩)|fail);(try rw[Exit.noGoto_ret]);go_ret;rw [HE2.out];exact ⟨rfl,(HF0.out.call (hfr.out.drewN _) (fun _ h _=>h)).call hf1 (fun _ h _=>h)⟩
     ·have HE2:=AA (HE.out.trans (if_pos rfl));clear HE;go_wp2_with (first|((go_at_call 154);(with_reducible refine(HN'.out _ (HF0.out.call (hfr.out.drewN _) (fun _ h _=>h))).mono ?_);rintro e w1 ⟨rfl,hf1⟩)|fail);(try rw[Exit.noGoto_ret]);go_ret;rw [HE2.out];exact ⟨rfl,(HF0.out.call (hfr.out.drewN _) (fun _ h _=>h)).call hf1 (fun _ h _=>h)⟩
   ·have hdh2:d≤hi:=by omega
    clear HN;by_cases hr:lo≤d
    ·have HIN:=AA (show InR (pts ps) lo hi i j from⟨by rw[←HD.out];exact hr,by rw[←HD.out];exact hdh2⟩);rw [show (decide (lo≤d)&&decide (d≤hi))=true by simp[hr,hdh2]] at HHAS;go_wp2_with fail;go_quiet (fail);rcases hvx with rfl|rfl|rfl
     ·skip;go_wp2_with (first|((go_at_call 132);(with_reducible refine(HHAS.out _).mono ?_);rintro e w1 ⟨rfl,hf1⟩;replace x0:=hf1.cell x0 (fun e=>e);have hbx1:=Nat.lt_of_lt_of_le hbx hf1.size)|fail);go_roundw;case rel=>exact⟨j+1,a,by omega,by omega,by go_num,rfl,AA (EvI.none hev.out HV.out.symm),AA ((hfr.out.drewN _).call hf1 (fun _ h _=>h))⟩
      case measure=>simp[intOf];omega
     ·skip;go_wp2_with (first|((go_at_call 132);(with_reducible refine(HHAS.out _).mono ?_);rintro e w1 ⟨rfl,hf1⟩;replace x0:=hf1.cell x0 (fun e=>e);have hbx1:=Nat.lt_of_lt_of_le hbx hf1.size)|fail);(try rw[Exit.noGoto_ret]);go_ret;rw [EvI.found hij (by rw[AC];exact hlt) HIN.out HV.out.symm];exact ⟨rfl,HF0.out.call ((hfr.out.drewN _).call hf1 (fun _ h _=>h)) (fun _ h _=>h)⟩
     ·skip;go_wp2_with (first|((go_at_call 132);(with_reducible refine(HHAS.out _).mono ?_);rintro e w1 ⟨rfl,hf1⟩;replace x0:=hf1.cell x0 (fun e=>e);have hbx1:=Nat.lt_of_lt_of_le hbx hf1.size)|fail);go_roundw;case rel=>exact⟨j+1,false,by omega,by omega,by go_num,rfl,AA (EvI.some hev.out hij HIN.out (by rw[←HV.out];decide) (by rw[←HV.out];decide)),AA ((hfr.out.drewN _).call hf1 (fun _ h _=>h))⟩
      case measure=>simp[intOf];omega
    ·have HIN:=AA (show ¬InR (pts ps) lo hi i j from fun e=>hr (by rw[HD.out];exact e.1));rw [show (decide (lo≤d)&&decide (d≤hi))=false by simp[hr]] at HHAS;go_wp2_with fail;go_quiet (fail);go_wp2_with (first|((go_at_call 132);(with_reducible refine(HHAS.out _).mono ?_);rintro e w1 ⟨rfl,hf1⟩;replace x0:=hf1.cell x0 (fun e=>e);have hbx1:=Nat.lt_of_lt_of_le hbx hf1.size)|fail);go_roundw;case rel=>exact⟨j+1,a,by omega,by omega,by go_num,rfl,AA (EvI.skip hev.out HIN.out),AA ((hfr.out.drewN _).call hf1 (fun _ h _=>h))⟩
     case measure=>simp[intOf];omega
  ·skip
   have HE:=AA (show evK (pts ps) mark lo hi i xs=if(a&&shutB (tAt (pts ps) i) lo (min (min hi (AO-tAt (pts ps) i)) hi) mark)=true then 0 else 2 by
    rw[EvI.end_ (mark:=mark) HW.out hev.out (.inl (by rw[AC];omega)) (by rw[AC];omega),show min (min hi (AO-tAt (pts ps) i)) hi=min hi (AO-tAt (pts ps) i) by omega]);clear hev;cases a
   ·have HE2:=AA (HE.out.trans (if_neg (by simp)));clear HE HN;go_wp2_with fail;(try rw[Exit.noGoto_ret]);go_ret;rw [HE2.out];exact ⟨rfl,HF0.out.call hfr.out (fun _ h _=>h)⟩
   ·rw[Bool.true_and] at HE;have HN':=AA (fun W (hf:Fr Nob w W)=>HN.out W hf (hi));clear HN;generalize shutB (tAt (pts ps) i) lo (min (min hi (AO-tAt (pts ps) i)) (hi)) mark=r at*;cases r
    ·have HE2:=AA (HE.out.trans (if_neg (by simp)));clear HE;go_wp2_with (first|((go_at_call 154);(with_reducible refine(HN'.out _ (HF0.out.call hfr.out (fun _ h _=>h))).mono ?_);rintro e w1 ⟨rfl,hf1⟩)|fail);(try rw[Exit.noGoto_ret]);go_ret;rw [HE2.out];exact ⟨rfl,(HF0.out.call hfr.out (fun _ h _=>h)).call hf1 (fun _ h _=>h)⟩
    ·have HE2:=AA (HE.out.trans (if_pos rfl));clear HE;go_wp2_with (first|((go_at_call 154);(with_reducible refine(HN'.out _ (HF0.out.call hfr.out (fun _ h _=>h))).mono ?_);rintro e w1 ⟨rfl,hf1⟩)|fail);(try rw[Exit.noGoto_ret]);go_ret;rw [HE2.out];exact ⟨rfl,(HF0.out.call hfr.out (fun _ h _=>h)).call hf1 (fun _ h _=>h)⟩
end Go.Proofs.YtoegdmpmagbaiaaGreatDoor
