/- The reference's In, less, shut, ev: what is known of Ev. -/
import Derived.Test.YtoegdmpmagbaiaaGreatDoorKS
set_option maxHeartbeats 16000000
set_option maxRecDepth 100000
namespace Go.Proofs.YtoegdmpmagbaiaaGreatDoor
open Go.RowKit Go.Lib
theorem rf_In (w:World)(x:Nd)(NA:Option Addr)(nn nc:Nat)(A:Option Addr)(c:Nat)(ps:List Pn)(h:WSl w A c ps)(hW:Ay (pts ps))(i j:Nat)(hij:i≤j)(hj:j<ps.length):
 Calls Tryz.prog 156 #[AF x NA nn nc,.slice A ps.length c,.int .i64 i,.int .i64 j] w fun e w'=>e=.returned (.bool (inR (pts ps) x.lo x.hi i j))∧Fr Nob w w':=by
 have hi':i<ps.length:=by omega
 obtain⟨b,off,rfl,hb,d0,_⟩:=h.at_ hj;obtain ⟨b2,off2,hA2,_,e0,_⟩:=h.at_ hi';obtain ⟨rfl,rfl⟩:b=b2∧off=off2:=by simpa using hA2
 rw[←Ar hj] at d0;rw [←Ar hi'] at e0;have htj:=hW.hi j (by rw[AC];exact hj);have htj0:=hW.lo j (by rw[AC];exact hj);have hti:=hW.hi i (by rw[AC];exact hi');have hti0:=hW.lo i (by rw[AC];exact hi');unfold AO at htj hti;have HR0:=AA (show inR (pts ps) x.lo x.hi i j=(decide (x.lo≤tAt (pts ps) j-tAt (pts ps) i)&&decide (tAt (pts ps) j-tAt (pts ps) i≤x.hi)) from rfl);generalize inR (pts ps) x.lo x.hi i j=r at*;generalize tAt (pts ps) j=tj at*;generalize tAt (pts ps) i=ti at*;obtain ⟨op,nm,cm,va,lo,hi⟩:=x;dsimp only at HR0;unfold AF;dsimp only;obtain ⟨dd,hd⟩:∃dd,dd=tj-ti:=⟨_,rfl⟩;have hw64:wrap64 (tj-ti)=dd:=by unfold wrap64;omega
 rw[←hd] at HR0;have hI:(i:Int)<ps.length:=by omega
 have hI3:0≤(i:Int):=by omega
 have hJ:(j:Int)<ps.length:=by omega
 have hJ3:0≤(j:Int):=by omega
 have hIJ:(i:Int)≤j:=by omega
 clear hW h hA2 hd htj htj0 hti hti0;by_cases h1:lo≤dd
 ·by_cases h2:dd≤hi
  ·skip;have HR:=AA (show r=true by rw[HR0.out];simp[h1,h2]);clear HR0;go_enter Tryz.func156,Tryz.ntmps156;go_wp2_with fail;go_quiet (fail);go_wp2_with fail;go_ret;rw [HR.out];exact ⟨rfl,((Fr.refl _ _).alloc _).drewN _⟩
  ·have h2':hi<dd:=by omega
   have h2d:decide (dd≤hi)=false:=by simp;omega
   have HR:=AA (show r=false by rw[HR0.out];simp[h2]);clear HR0;go_enter Tryz.func156,Tryz.ntmps156;go_wp2_with fail;go_quiet (fail);go_wp2_with fail;go_ret;rw [HR.out];exact ⟨rfl,((Fr.refl _ _).alloc _).drewN _⟩
 ·have h1':dd<lo:=by omega
  have HR:=AA (show r=false by rw[HR0.out];simp[h1]);clear HR0;go_enter Tryz.func156,Tryz.ntmps156;go_wp2_with fail;go_quiet (fail);go_wp2_with fail;go_ret;rw [HR.out];exact ⟨rfl,((Fr.refl _ _).alloc _).drewN _⟩
theorem rf_less (w:World)(a b:Int):Calls Tryz.prog 158 #[.int .i64 a,.int .i64 b] w fun e w'=>e=.returned (.int .i64 (min a b))∧w'=w:=by
 by_cases h:a<b
 ·rw[show min a b=a by omega];go_enter Tryz.func158,Tryz.ntmps158;go_wp2_with fail;go_ret;exact ⟨rfl,rfl⟩
 ·have h':b≤a:=by omega
  rw[show min a b=b by omega];go_enter Tryz.func158,Tryz.ntmps158;go_wp2_with fail;go_ret;exact ⟨rfl,rfl⟩
theorem rf_shut (w:World)(t lo hi mark:Int)(h1:0≤t)(h2:t≤AO)(h3: -1≤mark)(h4:mark≤AO):Calls Tryz.prog 157 #[.int .i64 t,.int .i64 lo,.int .i64 hi,.int .i64 mark] w fun e w'=>e=.returned (.bool (shutB t lo hi mark))∧w'=w:=by
 unfold AO at h2 h4;have hw:=CR (x:=mark-t) (by omega) (by omega);clear h1 h2 h3 h4;by_cases h1:hi<lo
 ·skip;have HR:=AA (show shutB t lo hi mark=true by rw[A9];exact .inl h1);generalize shutB t lo hi mark=r at*;go_enter Tryz.func157,Tryz.ntmps157;go_wp2_with fail;go_ret;rw [HR.out];exact ⟨rfl,rfl⟩
 ·have h1':lo≤hi:=by omega
  by_cases h2:hi≤mark-t
  ·skip;have HR:=AA (show shutB t lo hi mark=true by rw[A9];exact .inr h2);generalize shutB t lo hi mark=r at*;go_enter Tryz.func157,Tryz.ntmps157;go_wp2_with fail;go_ret;rw [HR.out];exact ⟨rfl,rfl⟩
  ·have h2':mark-t<hi:=by omega
   have HR:=AA (show shutB t lo hi mark=false by rw[←Bool.not_eq_true,A9];omega);generalize shutB t lo hi mark=r at*;go_enter Tryz.func157,Tryz.ntmps157;go_wp2_with fail;go_ret;rw [HR.out];exact ⟨rfl,rfl⟩
theorem rf_ev (w:World)(A:Option Addr)(c:Nat)(ps:List Pn)(h:WSl w A c ps)(hW:Ay (pts ps))(i:Nat)(hi':i<ps.length)(mark:Int)(hm1: -1≤mark)(hm2:mark≤AO)(x:Nd)(NA:Option Addr)(nn nc:Nat)(X:Option Addr)(cx:Nat)(xs:List Int)(hx:Sl w 1 X xs.length cx (xs.map ivI))(hxl:xs.length=ps.length)(htri:∀j,Tri (xAt xs j))(hfew:ps.length≤1000):
 Calls Tryz.prog 126 #[AF x NA nn nc,.slice A ps.length c,.int .i64 mark,.int .i64 i,.slice X xs.length cx] w fun e w'=>e=.returned (.int .i64 (evK (pts ps) mark x.lo x.hi i xs))∧Fr Nob w w':=by
 have HL:=AA h;have HX:=AA hx;have HW:=AA hW;have HT:=AA htri;have HXL:=AA hxl;have hti:=hW.hi i (by rw[AC];exact hi');have hti0:=hW.lo i (by rw[AC];exact hi');have HIN:=AA (fun W (hf:Fr Nob w W) (j:Nat) (hij:i≤j) (hj:j<ps.length)=>rf_In W x NA nn nc A c ps (h.pure hf) hW i j hij hj);have HSH:=AA (fun W hi2=>rf_shut W (tAt (pts ps) i) x.lo hi2 mark hti0 hti hm1 hm2);rw [hxl];clear h hx hW htri hxl;obtain ⟨op,nm,cm,va,lo,hi⟩:=x;unfold AF at*;dsimp only at*;go_enter Tryz.func126,Tryz.ntmps126;go_upto_region 1 with fail;obtain ⟨W0,hW0⟩:∃W0,w.alloc (.cells #[.int .i64 op,.string nm,.int .i64 cm,.int .i64 va,.int .i64 lo,.int .i64 hi,.slice NA nn nc] 39)=W0:=⟨_,rfl⟩;have HB0:=AA (show Blk W0 w.heap.size 39 #[.int .i64 op,.string nm,.int .i64 cm,.int .i64 va,.int .i64 lo,.int .i64 hi,.slice NA nn nc] by rw[←hW0];exact Blk.new _ _ _);have HF0:=AA (show Fr Nob w W0 by rw[←hW0];exact(Fr.refl _ _).alloc _);rw [hW0];clear hW0;go_wp2_with fail;go_loopw [11,12] (fun av jv wr=>∃(j:Nat) (a:Bool),i≤j∧j≤ps.length∧jv=.int .i64 j∧av=.bool a∧Hid (EvI (pts ps) lo hi i j xs a)∧Hid (Fr Nob W0 wr)) (fun _ jv _=>ps.length-(intOf jv).toNat);case atStart=>exact⟨i,true,Nat.le_refl _,by omega,rfl,rfl,AA EvI.zero,AA (Fr.refl _ _)⟩
 case round=>
  obtain⟨j,a,hij,hjn,rfl,rfl,hev,hfr⟩:=hrel;have HBr:=AA (HB0.out.fr hfr.out (fun e=>e));have bc:=HBr.out.cell;have bl:=HBr.out.lt;have HFw:=AA (HF0.out.call hfr.out (fun _ h _=>h));by_cases hlt:j<ps.length
  ·have hI:(j:Int)<ps.length:=by omega
   have hI3:0≤(j:Int):=by omega
   obtain⟨bx,ofx,hX,hbx,x0⟩:=Bg (HX.out.pure HFw.out) (k:=j) (by rw[HXL.out];exact hlt);have hvx:=HT.out j;obtain ⟨v,hv⟩:∃v,v=xAt xs j:=⟨_,rfl⟩;rw [←hv] at x0 hvx;have HV:=AA hv;have HJN:=AA (HIN.out wr HFw.out j hij hlt);clear hv hti hti0 HIN HSH;subst hX;by_cases hr:InR (pts ps) lo hi i j
   ·have HR:=AA hr;rw [BG.2 hr] at HJN;clear hr;rcases hvx with rfl|rfl|rfl
    ·skip;go_wp2_with (first|((go_at_call 156);(with_reducible refine(HJN.out).mono ?_);rintro e w1 ⟨rfl,hf1⟩;replace x0:=hf1.cell x0 (fun e=>e);have hbx1:=Nat.lt_of_lt_of_le hbx hf1.size)|fail);go_roundw;case rel=>exact⟨j+1,a,by omega,by omega,by go_num,rfl,AA (EvI.none hev.out HV.out.symm),AA (hfr.out.call hf1 (fun _ h _=>h))⟩
     case measure=>simp[intOf];omega
    ·skip;go_wp2_with (first|((go_at_call 156);(with_reducible refine(HJN.out).mono ?_);rintro e w1 ⟨rfl,hf1⟩;replace x0:=hf1.cell x0 (fun e=>e);have hbx1:=Nat.lt_of_lt_of_le hbx hf1.size)|fail);go_ret;rw [EvI.found hij (by rw[AC];exact hlt) HR.out HV.out.symm];exact ⟨rfl,HFw.out.call hf1 (fun _ h _=>h)⟩
    ·skip;go_wp2_with (first|((go_at_call 156);(with_reducible refine(HJN.out).mono ?_);rintro e w1 ⟨rfl,hf1⟩;replace x0:=hf1.cell x0 (fun e=>e);have hbx1:=Nat.lt_of_lt_of_le hbx hf1.size)|fail);go_roundw;case rel=>exact⟨j+1,false,by omega,by omega,by go_num,rfl,AA (EvI.some hev.out hij HR.out (by rw[←HV.out];decide) (by rw[←HV.out];decide)),AA (hfr.out.call hf1 (fun _ h _=>h))⟩
     case measure=>simp[intOf];omega
   ·have HR:=AA hr;rw [show inR (pts ps) lo hi i j=false by rw[←Bool.not_eq_true,BG];exact hr] at HJN;clear hr;go_wp2_with (first|((go_at_call 156);(with_reducible refine(HJN.out).mono ?_);rintro e w1 ⟨rfl,hf1⟩;replace x0:=hf1.cell x0 (fun e=>e);have hbx1:=Nat.lt_of_lt_of_le hbx hf1.size)|fail);go_roundw;case rel=>exact⟨j+1,a,by omega,by omega,by go_num,rfl,AA (EvI.skip hev.out HR.out),AA (hfr.out.call hf1 (fun _ h _=>h))⟩
    case measure=>simp[intOf];omega
  ·have hI:¬(j:Int)<ps.length:=by omega
   have HE:=AA (EvI.end_ (mark:=mark) HW.out hev.out (.inl (by rw[AC];omega)) (by rw[AC];omega));obtain ⟨b,off,hA,hb,d0,_⟩:=(HL.out.pure HFw.out).at_ hi';rw [←Ar hi'] at d0;have hJ:(i:Int)<ps.length:=by omega
   have hJ3:0≤(i:Int):=by omega
   unfold AO at HE hti;subst hA;generalize tAt (pts ps) i=t at*;obtain ⟨q,hq⟩:∃q,q=9223372036854775807-t:=⟨_,rfl⟩;have hw64:wrap64 (9223372036854775807-t)=q:=by unfold wrap64;omega
   rw[←hq] at HE;have HQ2:=AA hq;clear hq hev HIN;cases a
   ·replace HE:=AA (HE.out.trans (if_neg (by simp)));clear HSH;go_wp2_with fail;go_quiet (fail);go_wp2_with fail;go_ret;rw [HE.out];exact ⟨rfl,HFw.out.drewN _⟩
   ·have HSQ:=AA (show shutB t lo (min hi q) mark=shutB t lo (min hi q) mark from rfl);generalize hs:shutB t lo (min hi q) mark=s at HE;replace HSH:=AA (show ∀W,Calls Tryz.prog 157 #[.int .i64 t,.int .i64 lo,.int .i64 (min hi q),.int .i64 mark] W fun e w'=>e=.returned (.bool s)∧w'=W from fun W=>by rw[←hs];exact HSH.out W _);clear hs HSQ;have HLE:=AA (fun W=>(show Calls Tryz.prog 158 #[.int .i64 hi,.int .i64 (9223372036854775807-t)] W fun e w'=>e=.returned (.int .i64 (min hi q))∧w'=W from by rw[←HQ2.out];exact rf_less W hi q));generalize min hi q=mn at*;cases s
    ·replace HE:=AA (HE.out.trans (if_neg (by simp)));go_wp2_with fail
     go_quiet (first
      |(go_at_call 158;with_reducible exact Calls.quiet_of_same (HLE.out _))
      |(go_at_call 157;with_reducible exact Calls.quiet_of_same (HSH.out _)));go_wp2_with fail;go_ret;rw [HE.out];exact ⟨rfl,HFw.out.drewN _⟩
    ·replace HE:=AA (HE.out.trans (if_pos (by simp)));go_wp2_with fail
     go_quiet (first
      |(go_at_call 158;with_reducible exact Calls.quiet_of_same (HLE.out _))
      |(go_at_call 157;with_reducible exact Calls.quiet_of_same (HSH.out _)));go_wp2_with fail;go_ret;rw [HE.out];exact ⟨rfl,HFw.out.drewN _⟩
section
variable {W:List Pt} {mark lo hi:Int} {i j:Nat} {x y:List Int} {a b st:Bool} {hv h0:Int}
structure U1 (W:List Pt) (mark lo hi:Int) (i j:Nat) (x y:List Int) (b:Bool):Prop where
 bef:b=true↔∀k,i≤k→k<j→xAt x k=1
 no:∀k,i≤k→k<j→InR W lo hi i k→xAt y k=1→(∀s,i≤s→s<k→xAt x s=1)→(k=i∨tAt W k-1≤mark)→False
theorem U1.zero:U1 W mark lo hi i i x y true:=⟨⟨fun _ k h1 h2=>absurd h2 (by omega),fun _=>rfl⟩,fun k h1 h2=>absurd h2 (by omega)⟩
theorem U1.next (h:U1 W mark lo hi i j x y b)(hij:i≤j)(hn:¬(InR W lo hi i j∧xAt y j=1∧b=true∧(j=i∨tAt W j-1≤mark)))(c:Bool)(hc:c=true↔xAt x j=1):U1 W mark lo hi i (j+1) x y (b&&c):=by
 refine⟨?_,fun k h1 h2 h3 h4 h5 h6=>?_⟩
 ·rw[Bool.and_eq_true,h.bef,hc];constructor
  ·rintro⟨g,g2⟩ k h1 h2;rcases Nat.lt_succ_iff_lt_or_eq.1 h2 with h7|rfl;·exact g k h1 h7
   ·exact g2
  ·exact fun g=>⟨fun k h1 h2=>g k h1 (by omega),g j hij (Nat.lt_succ_self _)⟩
 ·rcases Nat.lt_succ_iff_lt_or_eq.1 h2 with h7|rfl;·exact h.no k h1 h7 h3 h4 h5 h6
  ·exact hn ⟨h3,h4,h.bef.2 h5,h6⟩
theorem U1.found (h:U1 W mark lo hi i j x y true)(h1:i≤j)(h2:j<W.length)(hr:InR W lo hi i j)(hv:xAt y j=1)(hm:j=i∨tAt W j-1≤mark):unK W mark lo hi i x y=1:=unK_one ⟨j,h1,h2,hr,hv,h.bef.1 rfl,hm⟩
theorem U1.end_ (h:U1 W mark lo hi i j x y b)(hj:j=W.length):¬UnY W mark lo hi i x y:=by
 subst hj;rintro ⟨k,a1,a2,a3,a4,a5,a6⟩;exact h.no k a1 a2 a3 a4 a5 a6
structure U2 (W:List Pt) (lo hi:Int) (i j:Nat) (x y:List Int) (h0 hv:Int) (st a:Bool):Prop where
 go:st=false→(∀k,i≤k→k<j→xAt x k≠0)∧hv=h0
 ha:st=true→∃s,j=s+1∧i≤s∧s<W.length∧(∀k,i≤k→k<s→xAt x k≠0)∧xAt x s=0∧hv=min h0 (tAt W s-1-tAt W i)
 all:a=true↔∀k,i≤k→k<j→InR W lo hi i k→xAt y k=0
theorem U2.zero:U2 W lo hi i i x y h0 h0 false true:=⟨fun _=>⟨fun k h1 h2=>absurd h2 (by omega),rfl⟩,(fun e=>by cases e),⟨fun _ k h1 h2=>absurd h2 (by omega),fun _=>rfl⟩⟩
theorem U2.alln (h:a=true↔∀k,i≤k→k<j→InR W lo hi i k→xAt y k=0)(hij:i≤j)(c:Bool)(hc:c=true↔(InR W lo hi i j→xAt y j=0)):(a&&c)=true↔∀k,i≤k→k<j+1→InR W lo hi i k→xAt y k=0:=by
 rw[Bool.and_eq_true,h,hc];constructor
 ·rintro⟨g,g2⟩ k h1 h2 h3;rcases Nat.lt_succ_iff_lt_or_eq.1 h2 with h7|rfl;·exact g k h1 h7 h3
  ·exact g2 h3
 ·exact fun g=>⟨fun k h1 h2 h3=>g k h1 (by omega) h3,fun h3=>g j hij (Nat.lt_succ_self _) h3⟩
theorem U2.next (h:U2 W lo hi i j x y h0 hv false a)(hij:i≤j)(c:Bool)(hc:c=true↔(InR W lo hi i j→xAt y j=0))(hx:xAt x j≠0):U2 W lo hi i (j+1) x y h0 hv false (a&&c):=by
 refine⟨fun _=>⟨fun k h1 h2=>?_,(h.go rfl).2⟩,(fun e=>by cases e),U2.alln h.all hij c hc⟩;rcases Nat.lt_succ_iff_lt_or_eq.1 h2 with h7|rfl;·exact(h.go rfl).1 k h1 h7
 ·exact hx
theorem U2.stop (h:U2 W lo hi i j x y h0 hv false a)(hij:i≤j)(hj:j<W.length)(c:Bool)(hc:c=true↔(InR W lo hi i j→xAt y j=0))(hx:xAt x j=0):U2 W lo hi i (j+1) x y h0 (min hv (tAt W j-1-tAt W i)) true (a&&c):=
 ⟨(fun e=>by cases e),fun _=>⟨j,rfl,hij,hj,(h.go rfl).1,hx,by rw[(h.go rfl).2]⟩,U2.alln h.all hij c hc⟩
theorem U2.end_ (hW:Ay W)(h:U2 W lo hi i j x y (min hi (AO-tAt W i)) hv st a)(hij:i≤j)(he:st=true∨j=W.length)(hno:¬UnY W mark lo hi i x y):unK W mark lo hi i x y=if(a&&shutB (tAt W i) lo hv mark)=true then 0 else 2:=by
 cases st
 ·obtain⟨h1,h2⟩:=h.go rfl;have hj:j=W.length:=by rcases he with e|e;cases e;exact e
  rw[un_end1 hW h1 h.all (.inl hj) (by omega) hij hno,h2]
 ·obtain⟨s,rfl,h1,h2,h3,h4,h5⟩:=h.ha rfl;rw [un_end2 hW h3 h.all h1 h2 h4 hno,h5]
theorem U2.lt (h:U2 W lo hi i j x y h0 hv false a):hv=h0:=(h.go rfl).2
end
def UnR1 (W0:World)(W:List Pt)(mark lo hi:Int)(i:Nat)(xs ys:List Int)(bv jv:Value)(wr:World):Prop:=∃(j:Nat) (b:Bool),i≤j∧j≤W.length∧jv=.int .i64 j∧bv=.bool b∧Hid (U1 W mark lo hi i j xs ys b)∧Hid (Fr Nob W0 wr)
def UnR2 (W0:World)(W:List Pt)(lo hi h0:Int)(i:Nat)(xs ys:List Int)(hvv av sv jv:Value)(wr:World):Prop:=∃(j:Nat) (a st:Bool) (hv:Int),i≤j∧j≤W.length∧jv=.int .i64 j∧av=.bool a∧sv=.bool st∧hvv=.int .i64 hv∧Hid (U2 W lo hi i j xs ys h0 hv st a)∧Hid (Fr Nob W0 wr)
theorem rf_un (w:World)(A:Option Addr)(c:Nat)(ps:List Pn)(h:WSl w A c ps)(hW:Ay (pts ps))(i:Nat)(hi':i<ps.length)(mark:Int)(hm1: -1≤mark)(hm2:mark≤AO)(x:Nd)(NA:Option Addr)(nn nc:Nat)(X:Option Addr)(cx:Nat)(xs:List Int)(hx:Sl w 1 X xs.length cx (xs.map ivI))(hxl:xs.length=ps.length)(htri:∀j,Tri (xAt xs j))
 (Y:Option Addr)(cy:Nat)(ys:List Int)(hy:Sl w 1 Y ys.length cy (ys.map ivI))(hyl:ys.length=ps.length)(htri2:∀j,Tri (xAt ys j))(hfew:ps.length≤1000):
 Calls Tryz.prog 127 #[AF x NA nn nc,.slice A ps.length c,.int .i64 mark,.int .i64 i,.slice X xs.length cx,.slice Y ys.length cy] w fun e w'=>e=.returned (.int .i64 (unK (pts ps) mark x.lo x.hi i xs ys))∧Fr Nob w w':=by
 have HL:=AA h;have HX:=AA hx;have HY:=AA hy;have HW:=AA hW;have HT:=AA htri;have HT2:=AA htri2;have HXL:=AA hxl;have HYL:=AA hyl;have hti:=hW.hi i (by rw[AC];exact hi');have hti0:=hW.lo i (by rw[AC];exact hi');have HIN:=AA (fun W (hf:Fr Nob w W) (j:Nat) (hij:i≤j) (hj:j<ps.length)=>rf_In W x NA nn nc A c ps (h.pure hf) hW i j hij hj);have HSH:=AA (fun W hi2=>rf_shut W (tAt (pts ps) i) x.lo hi2 mark hti0 hti hm1 hm2);rw [hxl,hyl];clear h hx hy hW htri htri2 hxl hyl hm1 hm2;obtain ⟨op,nm,cm,va,lo,hi⟩:=x;unfold AF at*;dsimp only at*;go_enter Tryz.func127,Tryz.ntmps127;go_upto_region 1 with fail;obtain ⟨W0,hW0⟩:∃W0,w.alloc (.cells #[.int .i64 op,.string nm,.int .i64 cm,.int .i64 va,.int .i64 lo,.int .i64 hi,.slice NA nn nc] 39)=W0:=⟨_,rfl⟩;have HB0:=AA (show Blk W0 w.heap.size 39 #[.int .i64 op,.string nm,.int .i64 cm,.int .i64 va,.int .i64 lo,.int .i64 hi,.slice NA nn nc] by rw[←hW0];exact Blk.new _ _ _);have HF0:=AA (show Fr Nob w W0 by rw[←hW0];exact(Fr.refl _ _).alloc _);rw [hW0];clear hW0;go_wp2_with fail;go_loopw [13,14] (fun bv jv wr=>UnR1 W0 (pts ps) mark lo hi i xs ys bv jv wr) (fun _ jv _=>ps.length-(intOf jv).toNat);case atStart=>exact⟨i,true,Nat.le_refl _,by rw[AC];omega,rfl,rfl,AA U1.zero,AA (Fr.refl _ _)⟩
 case round=>
  obtain⟨j,b,hij,hjn,rfl,rfl,hun,hfr⟩:=hrel;rw [AC] at hjn;have HBr:=AA (HB0.out.fr hfr.out (fun e=>e));have bc:=HBr.out.cell;have bl:=HBr.out.lt;have HFw:=AA (HF0.out.call hfr.out (fun _ h _=>h));by_cases hlt:j<ps.length
  ·have hI:(j:Int)<ps.length:=by omega
   have hI3:0≤(j:Int):=by omega
   obtain⟨q,off,hA,hbq,d0,_⟩:=(HL.out.pure HFw.out).at_ hlt;obtain ⟨bx,ofx,hX,hbx,x0⟩:=Bg (HX.out.pure HFw.out) (k:=j) (by rw[HXL.out];exact hlt);obtain ⟨b_y,ofy,hY,hby,y0⟩:=Bg (HY.out.pure HFw.out) (k:=j) (by rw[HYL.out];exact hlt);rw [←Ar hlt] at d0;have htj:=HW.out.hi j (by rw[AC];exact hlt);have htj0:=HW.out.lo j (by rw[AC];exact hlt);have htij:=HW.out.le hij (by rw[AC];exact hlt);unfold AO at htj;have hwr1:=CR (x:=tAt (pts ps) j-1) (by omega) (by omega);have hvx:=HT.out j;have hvy:=HT2.out j;obtain ⟨v,hv⟩:∃v,v=xAt xs j:=⟨_,rfl⟩;obtain ⟨u,hu⟩:∃u,u=xAt ys j:=⟨_,rfl⟩;rw [←hv] at x0 hvx;rw [←hu] at y0 hvy;have HV:=AA hv;have HU:=AA hu;have HJN:=AA (HIN.out wr HFw.out j hij hlt);clear hv hu htj htj0 htij hti hti0 HIN HSH;subst hA hX hY;by_cases hr:InR (pts ps) lo hi i j
   ·have HR:=AA hr;rw [BG.2 hr] at HJN;clear hr;rcases hvy with rfl|rfl|rfl
    ·skip;rcases hvx with rfl|rfl|rfl
     ·cases b
      all_goals
       go_wp2_with (first|((go_at_call 156);(with_reducible refine(HJN.out).mono ?_);rintro e w1 ⟨rfl,hf1⟩;replace x0:=hf1.cell x0 (fun e=>e);have hbx1:=Nat.lt_of_lt_of_le hbx hf1.size;replace y0:=hf1.cell y0 (fun e=>e);have hby1:=Nat.lt_of_lt_of_le hby hf1.size;replace d0:=hf1.cell d0 (fun e=>e);have hbq1:=Nat.lt_of_lt_of_le hbq hf1.size)|fail);go_roundw;case rel=>exact⟨j+1,_,by omega,by rw[AC];omega,by go_num,rfl,AA (hun.out.next hij (fun e=>by rw[←HU.out] at e;exact absurd e.2.1 (by decide)) false (by rw[←HV.out];decide)),AA (hfr.out.call hf1 (fun _ h _=>h))⟩
       case measure=>simp[intOf];omega
     ·cases b
      all_goals
       go_wp2_with (first|((go_at_call 156);(with_reducible refine(HJN.out).mono ?_);rintro e w1 ⟨rfl,hf1⟩;replace x0:=hf1.cell x0 (fun e=>e);have hbx1:=Nat.lt_of_lt_of_le hbx hf1.size;replace y0:=hf1.cell y0 (fun e=>e);have hby1:=Nat.lt_of_lt_of_le hby hf1.size;replace d0:=hf1.cell d0 (fun e=>e);have hbq1:=Nat.lt_of_lt_of_le hbq hf1.size)|fail);go_roundw;case rel=>exact⟨j+1,_,by omega,by rw[AC];omega,by go_num,rfl,AA (hun.out.next hij (fun e=>by rw[←HU.out] at e;exact absurd e.2.1 (by decide)) true (by rw[←HV.out];decide)),AA (hfr.out.call hf1 (fun _ h _=>h))⟩
       case measure=>simp[intOf];omega
     ·cases b
      all_goals
       go_wp2_with (first|((go_at_call 156);(with_reducible refine(HJN.out).mono ?_);rintro e w1 ⟨rfl,hf1⟩;replace x0:=hf1.cell x0 (fun e=>e);have hbx1:=Nat.lt_of_lt_of_le hbx hf1.size;replace y0:=hf1.cell y0 (fun e=>e);have hby1:=Nat.lt_of_lt_of_le hby hf1.size;replace d0:=hf1.cell d0 (fun e=>e);have hbq1:=Nat.lt_of_lt_of_le hbq hf1.size)|fail);go_roundw;case rel=>exact⟨j+1,_,by omega,by rw[AC];omega,by go_num,rfl,AA (hun.out.next hij (fun e=>by rw[←HU.out] at e;exact absurd e.2.1 (by decide)) false (by rw[←HV.out];decide)),AA (hfr.out.call hf1 (fun _ h _=>h))⟩
       case measure=>simp[intOf];omega
    ·by_cases hji:j=i
     ·have HJI:=AA hji;have hjb:((j:Int)==i)=true:=by simp[hji]
      have hjd:decide ((j:Int)=i)=true:=by simp[hji]
      clear hji;cases b
      ·rcases hvx with rfl|rfl|rfl
       ·skip;go_wp2_with (first|((go_at_call 156);(with_reducible refine(HJN.out).mono ?_);rintro e w1 ⟨rfl,hf1⟩;replace x0:=hf1.cell x0 (fun e=>e);have hbx1:=Nat.lt_of_lt_of_le hbx hf1.size;replace y0:=hf1.cell y0 (fun e=>e);have hby1:=Nat.lt_of_lt_of_le hby hf1.size;replace d0:=hf1.cell d0 (fun e=>e);have hbq1:=Nat.lt_of_lt_of_le hbq hf1.size)|fail);go_roundw;case rel=>exact⟨j+1,_,by omega,by rw[AC];omega,by go_num,rfl,AA (hun.out.next hij (fun e=>by cases e.2.2.1) false (by rw[←HV.out];decide)),AA (hfr.out.call hf1 (fun _ h _=>h))⟩
        case measure=>simp[intOf];omega
       ·skip;go_wp2_with (first|((go_at_call 156);(with_reducible refine(HJN.out).mono ?_);rintro e w1 ⟨rfl,hf1⟩;replace x0:=hf1.cell x0 (fun e=>e);have hbx1:=Nat.lt_of_lt_of_le hbx hf1.size;replace y0:=hf1.cell y0 (fun e=>e);have hby1:=Nat.lt_of_lt_of_le hby hf1.size;replace d0:=hf1.cell d0 (fun e=>e);have hbq1:=Nat.lt_of_lt_of_le hbq hf1.size)|fail);go_roundw;case rel=>exact⟨j+1,_,by omega,by rw[AC];omega,by go_num,rfl,AA (hun.out.next hij (fun e=>by cases e.2.2.1) true (by rw[←HV.out];decide)),AA (hfr.out.call hf1 (fun _ h _=>h))⟩
        case measure=>simp[intOf];omega
       ·skip;go_wp2_with (first|((go_at_call 156);(with_reducible refine(HJN.out).mono ?_);rintro e w1 ⟨rfl,hf1⟩;replace x0:=hf1.cell x0 (fun e=>e);have hbx1:=Nat.lt_of_lt_of_le hbx hf1.size;replace y0:=hf1.cell y0 (fun e=>e);have hby1:=Nat.lt_of_lt_of_le hby hf1.size;replace d0:=hf1.cell d0 (fun e=>e);have hbq1:=Nat.lt_of_lt_of_le hbq hf1.size)|fail);go_roundw;case rel=>exact⟨j+1,_,by omega,by rw[AC];omega,by go_num,rfl,AA (hun.out.next hij (fun e=>by cases e.2.2.1) false (by rw[←HV.out];decide)),AA (hfr.out.call hf1 (fun _ h _=>h))⟩
        case measure=>simp[intOf];omega
      ·skip;go_wp2_with (first|((go_at_call 156);(with_reducible refine(HJN.out).mono ?_);rintro e w1 ⟨rfl,hf1⟩;replace x0:=hf1.cell x0 (fun e=>e);have hbx1:=Nat.lt_of_lt_of_le hbx hf1.size;replace y0:=hf1.cell y0 (fun e=>e);have hby1:=Nat.lt_of_lt_of_le hby hf1.size;replace d0:=hf1.cell d0 (fun e=>e);have hbq1:=Nat.lt_of_lt_of_le hbq hf1.size)|fail);go_ret;rw [hun.out.found hij (by rw[AC];exact hlt) HR.out HU.out.symm (.inl HJI.out)];exact ⟨rfl,HFw.out.call hf1 (fun _ h _=>h)⟩
     ·have HJI:=AA hji;have hjb:((j:Int)==i)=false:=by simp;omega
      have hjd:decide ((j:Int)=i)=false:=by have:=HJI.out;simp;omega
      clear hji;by_cases htm:tAt (pts ps) j-1≤mark
      ·cases b
       ·rcases hvx with rfl|rfl|rfl
        ·skip;go_wp2_with (first|((go_at_call 156);(with_reducible refine(HJN.out).mono ?_);rintro e w1 ⟨rfl,hf1⟩;replace x0:=hf1.cell x0 (fun e=>e);have hbx1:=Nat.lt_of_lt_of_le hbx hf1.size;replace y0:=hf1.cell y0 (fun e=>e);have hby1:=Nat.lt_of_lt_of_le hby hf1.size;replace d0:=hf1.cell d0 (fun e=>e);have hbq1:=Nat.lt_of_lt_of_le hbq hf1.size)|fail);go_roundw;case rel=>exact⟨j+1,_,by omega,by rw[AC];omega,by go_num,rfl,AA (hun.out.next hij (fun e=>by cases e.2.2.1) false (by rw[←HV.out];decide)),AA (hfr.out.call hf1 (fun _ h _=>h))⟩
         case measure=>simp[intOf];omega
        ·skip;go_wp2_with (first|((go_at_call 156);(with_reducible refine(HJN.out).mono ?_);rintro e w1 ⟨rfl,hf1⟩;replace x0:=hf1.cell x0 (fun e=>e);have hbx1:=Nat.lt_of_lt_of_le hbx hf1.size;replace y0:=hf1.cell y0 (fun e=>e);have hby1:=Nat.lt_of_lt_of_le hby hf1.size;replace d0:=hf1.cell d0 (fun e=>e);have hbq1:=Nat.lt_of_lt_of_le hbq hf1.size)|fail);go_roundw;case rel=>exact⟨j+1,_,by omega,by rw[AC];omega,by go_num,rfl,AA (hun.out.next hij (fun e=>by cases e.2.2.1) true (by rw[←HV.out];decide)),AA (hfr.out.call hf1 (fun _ h _=>h))⟩
         case measure=>simp[intOf];omega
        ·skip;go_wp2_with (first|((go_at_call 156);(with_reducible refine(HJN.out).mono ?_);rintro e w1 ⟨rfl,hf1⟩;replace x0:=hf1.cell x0 (fun e=>e);have hbx1:=Nat.lt_of_lt_of_le hbx hf1.size;replace y0:=hf1.cell y0 (fun e=>e);have hby1:=Nat.lt_of_lt_of_le hby hf1.size;replace d0:=hf1.cell d0 (fun e=>e);have hbq1:=Nat.lt_of_lt_of_le hbq hf1.size)|fail);go_roundw;case rel=>exact⟨j+1,_,by omega,by rw[AC];omega,by go_num,rfl,AA (hun.out.next hij (fun e=>by cases e.2.2.1) false (by rw[←HV.out];decide)),AA (hfr.out.call hf1 (fun _ h _=>h))⟩
         case measure=>simp[intOf];omega
       ·skip;go_wp2_with (first|((go_at_call 156);(with_reducible refine(HJN.out).mono ?_);rintro e w1 ⟨rfl,hf1⟩;replace x0:=hf1.cell x0 (fun e=>e);have hbx1:=Nat.lt_of_lt_of_le hbx hf1.size;replace y0:=hf1.cell y0 (fun e=>e);have hby1:=Nat.lt_of_lt_of_le hby hf1.size;replace d0:=hf1.cell d0 (fun e=>e);have hbq1:=Nat.lt_of_lt_of_le hbq hf1.size)|fail);go_ret;rw [hun.out.found hij (by rw[AC];exact hlt) HR.out HU.out.symm (.inr htm)];exact ⟨rfl,HFw.out.call hf1 (fun _ h _=>h)⟩
      ·have htm':mark<tAt (pts ps) j-1:=by omega
       have HTM:=AA htm;clear htm;rcases hvx with rfl|rfl|rfl
       ·cases b
        all_goals
         go_wp2_with (first|((go_at_call 156);(with_reducible refine(HJN.out).mono ?_);rintro e w1 ⟨rfl,hf1⟩;replace x0:=hf1.cell x0 (fun e=>e);have hbx1:=Nat.lt_of_lt_of_le hbx hf1.size;replace y0:=hf1.cell y0 (fun e=>e);have hby1:=Nat.lt_of_lt_of_le hby hf1.size;replace d0:=hf1.cell d0 (fun e=>e);have hbq1:=Nat.lt_of_lt_of_le hbq hf1.size)|fail);go_roundw;case rel=>exact⟨j+1,_,by omega,by rw[AC];omega,by go_num,rfl,AA (hun.out.next hij (fun e=>by rcases e.2.2.2 with e|e;exact HJI.out e;have:=HTM.out;omega) false (by rw[←HV.out];decide)),AA (hfr.out.call hf1 (fun _ h _=>h))⟩
         case measure=>simp[intOf];omega
       ·cases b
        all_goals
         go_wp2_with (first|((go_at_call 156);(with_reducible refine(HJN.out).mono ?_);rintro e w1 ⟨rfl,hf1⟩;replace x0:=hf1.cell x0 (fun e=>e);have hbx1:=Nat.lt_of_lt_of_le hbx hf1.size;replace y0:=hf1.cell y0 (fun e=>e);have hby1:=Nat.lt_of_lt_of_le hby hf1.size;replace d0:=hf1.cell d0 (fun e=>e);have hbq1:=Nat.lt_of_lt_of_le hbq hf1.size)|fail);go_roundw;case rel=>exact⟨j+1,_,by omega,by rw[AC];omega,by go_num,rfl,AA (hun.out.next hij (fun e=>by rcases e.2.2.2 with e|e;exact HJI.out e;have:=HTM.out;omega) true (by rw[←HV.out];decide)),AA (hfr.out.call hf1 (fun _ h _=>h))⟩
         case measure=>simp[intOf];omega
       ·cases b
        all_goals
         go_wp2_with (first|((go_at_call 156);(with_reducible refine(HJN.out).mono ?_);rintro e w1 ⟨rfl,hf1⟩;replace x0:=hf1.cell x0 (fun e=>e);have hbx1:=Nat.lt_of_lt_of_le hbx hf1.size;replace y0:=hf1.cell y0 (fun e=>e);have hby1:=Nat.lt_of_lt_of_le hby hf1.size;replace d0:=hf1.cell d0 (fun e=>e);have hbq1:=Nat.lt_of_lt_of_le hbq hf1.size)|fail);go_roundw;case rel=>exact⟨j+1,_,by omega,by rw[AC];omega,by go_num,rfl,AA (hun.out.next hij (fun e=>by rcases e.2.2.2 with e|e;exact HJI.out e;have:=HTM.out;omega) false (by rw[←HV.out];decide)),AA (hfr.out.call hf1 (fun _ h _=>h))⟩
         case measure=>simp[intOf];omega
    ·skip;rcases hvx with rfl|rfl|rfl
     ·cases b
      all_goals
       go_wp2_with (first|((go_at_call 156);(with_reducible refine(HJN.out).mono ?_);rintro e w1 ⟨rfl,hf1⟩;replace x0:=hf1.cell x0 (fun e=>e);have hbx1:=Nat.lt_of_lt_of_le hbx hf1.size;replace y0:=hf1.cell y0 (fun e=>e);have hby1:=Nat.lt_of_lt_of_le hby hf1.size;replace d0:=hf1.cell d0 (fun e=>e);have hbq1:=Nat.lt_of_lt_of_le hbq hf1.size)|fail);go_roundw;case rel=>exact⟨j+1,_,by omega,by rw[AC];omega,by go_num,rfl,AA (hun.out.next hij (fun e=>by rw[←HU.out] at e;exact absurd e.2.1 (by decide)) false (by rw[←HV.out];decide)),AA (hfr.out.call hf1 (fun _ h _=>h))⟩
       case measure=>simp[intOf];omega
     ·cases b
      all_goals
       go_wp2_with (first|((go_at_call 156);(with_reducible refine(HJN.out).mono ?_);rintro e w1 ⟨rfl,hf1⟩;replace x0:=hf1.cell x0 (fun e=>e);have hbx1:=Nat.lt_of_lt_of_le hbx hf1.size;replace y0:=hf1.cell y0 (fun e=>e);have hby1:=Nat.lt_of_lt_of_le hby hf1.size;replace d0:=hf1.cell d0 (fun e=>e);have hbq1:=Nat.lt_of_lt_of_le hbq hf1.size)|fail);go_roundw;case rel=>exact⟨j+1,_,by omega,by rw[AC];omega,by go_num,rfl,AA (hun.out.next hij (fun e=>by rw[←HU.out] at e;exact absurd e.2.1 (by decide)) true (by rw[←HV.out];decide)),AA (hfr.out.call hf1 (fun _ h _=>h))⟩
       case measure=>simp[intOf];omega
     ·cases b
      all_goals
       go_wp2_with (first|((go_at_call 156);(with_reducible refine(HJN.out).mono ?_);rintro e w1 ⟨rfl,hf1⟩;replace x0:=hf1.cell x0 (fun e=>e);have hbx1:=Nat.lt_of_lt_of_le hbx hf1.size;replace y0:=hf1.cell y0 (fun e=>e);have hby1:=Nat.lt_of_lt_of_le hby hf1.size;replace d0:=hf1.cell d0 (fun e=>e);have hbq1:=Nat.lt_of_lt_of_le hbq hf1.size)|fail);go_roundw;case rel=>exact⟨j+1,_,by omega,by rw[AC];omega,by go_num,rfl,AA (hun.out.next hij (fun e=>by rw[←HU.out] at e;exact absurd e.2.1 (by decide)) false (by rw[←HV.out];decide)),AA (hfr.out.call hf1 (fun _ h _=>h))⟩
       case measure=>simp[intOf];omega
   ·have HR:=AA hr;rw [show inR (pts ps) lo hi i j=false by rw[←Bool.not_eq_true,BG];exact hr] at HJN;clear hr;rcases hvx with rfl|rfl|rfl
    ·cases b
     all_goals
      go_wp2_with (first|((go_at_call 156);(with_reducible refine(HJN.out).mono ?_);rintro e w1 ⟨rfl,hf1⟩;replace x0:=hf1.cell x0 (fun e=>e);have hbx1:=Nat.lt_of_lt_of_le hbx hf1.size;replace y0:=hf1.cell y0 (fun e=>e);have hby1:=Nat.lt_of_lt_of_le hby hf1.size;replace d0:=hf1.cell d0 (fun e=>e);have hbq1:=Nat.lt_of_lt_of_le hbq hf1.size)|fail);go_roundw;case rel=>exact⟨j+1,_,by omega,by rw[AC];omega,by go_num,rfl,AA (hun.out.next hij (fun e=>HR.out e.1) false (by rw[←HV.out];decide)),AA (hfr.out.call hf1 (fun _ h _=>h))⟩
      case measure=>simp[intOf];omega
    ·cases b
     all_goals
      go_wp2_with (first|((go_at_call 156);(with_reducible refine(HJN.out).mono ?_);rintro e w1 ⟨rfl,hf1⟩;replace x0:=hf1.cell x0 (fun e=>e);have hbx1:=Nat.lt_of_lt_of_le hbx hf1.size;replace y0:=hf1.cell y0 (fun e=>e);have hby1:=Nat.lt_of_lt_of_le hby hf1.size;replace d0:=hf1.cell d0 (fun e=>e);have hbq1:=Nat.lt_of_lt_of_le hbq hf1.size)|fail);go_roundw;case rel=>exact⟨j+1,_,by omega,by rw[AC];omega,by go_num,rfl,AA (hun.out.next hij (fun e=>HR.out e.1) true (by rw[←HV.out];decide)),AA (hfr.out.call hf1 (fun _ h _=>h))⟩
      case measure=>simp[intOf];omega
    ·cases b
     all_goals
      go_wp2_with (first|((go_at_call 156);(with_reducible refine(HJN.out).mono ?_);rintro e w1 ⟨rfl,hf1⟩;replace x0:=hf1.cell x0 (fun e=>e);have hbx1:=Nat.lt_of_lt_of_le hbx hf1.size;replace y0:=hf1.cell y0 (fun e=>e);have hby1:=Nat.lt_of_lt_of_le hby hf1.size;replace d0:=hf1.cell d0 (fun e=>e);have hbq1:=Nat.lt_of_lt_of_le hbq hf1.size)|fail);go_roundw;case rel=>exact⟨j+1,_,by omega,by rw[AC];omega,by go_num,rfl,AA (hun.out.next hij (fun e=>HR.out e.1) false (by rw[←HV.out];decide)),AA (hfr.out.call hf1 (fun _ h _=>h))⟩
      case measure=>simp[intOf];omega
  ·have hI:¬(j:Int)<ps.length:=by omega
   have HNO:=AA (hun.out.end_ (by rw[AC];omega));have HFR:=AA hfr.out;obtain ⟨q,off,hA,hbq,d0,_⟩:=(HL.out.pure HFw.out).at_ hi';rw [←Ar hi'] at d0;have hJ:(i:Int)<ps.length:=by omega
   have hJ3:0≤(i:Int):=by omega
   obtain⟨t,ht⟩:∃t,t=tAt (pts ps) i:=⟨_,rfl⟩;rw [←ht] at d0 HSH hti hti0;have HTI:=AA ht;obtain ⟨h0,hq⟩:∃q,q=9223372036854775807-t:=⟨_,rfl⟩;have hw64:wrap64 (9223372036854775807-t)=h0:=by unfold wrap64 AO at*;omega
   have HQ:=AA (show min hi (AO-tAt (pts ps) i)=min hi h0 by rw[←ht,hq];rfl);have hti1:=hti;unfold AO at hti1;have HLE0:=AA (fun W=>(show Calls Tryz.prog 158 #[.int .i64 hi,.int .i64 (9223372036854775807-t)] W fun e w'=>e=.returned (.int .i64 (min hi h0))∧w'=W from by rw[←hq];exact rf_less W hi h0));have HLE:=AA (fun W a b=>rf_less W a b);subst hA;clear ht hq hun hfr hI bc bl;have bc:=HBr.out.cell;have bl:=HBr.out.lt;go_wp2_with fail;go_quiet ((go_at_call 158;with_reducible exact Calls.quiet_of_same (HLE0.out _)));go_wp2_with fail;clear d0 hbq bc bl hw64 HLE0;go_loopw [15,16,17,18] (fun hvv av sv jv wx=>UnR2 W0 (pts ps) lo hi (min hi h0) i xs ys hvv av sv jv wx) (fun _ _ _ jv _=>ps.length-(intOf jv).toNat);case atStart=>exact⟨i,true,false,min hi h0,Nat.le_refl _,by rw[AC];omega,rfl,rfl,rfl,rfl,AA U2.zero,AA (HFR.out.drewN _)⟩
   case round=>
    clear HBr HFw HFR hij hjn hlt;obtain ⟨j,a,st,hv,hij,hjn,rfl,rfl,rfl,rfl,hun,hfr⟩:=hrel;rw [AC] at hjn;have HBr:=AA (HB0.out.fr hfr.out (fun e=>e));have bc:=HBr.out.cell;have bl:=HBr.out.lt;have HFw:=AA (HF0.out.call hfr.out (fun _ h _=>h));obtain ⟨q2,off2,hA2,hbi,e0,_⟩:=(HL.out.pure HFw.out).at_ hi';obtain ⟨rfl,rfl⟩:q=q2∧off=off2:=by simpa using hA2
    rw[←Ar hi',←HTI.out] at e0;clear hA2;by_cases hgo:j<ps.length∧st=false
    ·obtain⟨hlt,rfl⟩:=hgo;have hI:(j:Int)<ps.length:=by omega
     have hI3:0≤(j:Int):=by omega
     obtain⟨q3,off3,hA3,hbq,d0,_⟩:=(HL.out.pure HFw.out).at_ hlt;obtain ⟨rfl,rfl⟩:q=q3∧off=off3:=by simpa using hA3
     clear hA3;obtain ⟨bx,ofx,hX,hbx,x0⟩:=Bg (HX.out.pure HFw.out) (k:=j) (by rw[HXL.out];exact hlt);obtain ⟨b_y,ofy,hY,hby,y0⟩:=Bg (HY.out.pure HFw.out) (k:=j) (by rw[HYL.out];exact hlt);rw [←Ar hlt] at d0;have htj:=HW.out.hi j (by rw[AC];exact hlt);have htj0:=HW.out.lo j (by rw[AC];exact hlt);unfold AO at htj;obtain ⟨tj,htjd⟩:∃tj,tj=tAt (pts ps) j:=⟨_,rfl⟩;rw [←htjd] at d0 htj htj0;have HTJ:=AA htjd;have hw1:wrap64 (tj-1)=tj-1:=by unfold wrap64;omega
     have hw2:wrap64 (tj-1-t)=tj-1-t:=by unfold wrap64;omega
     have hvx:=HT.out j;have hvy:=HT2.out j;obtain ⟨v,hvv⟩:∃v,v=xAt xs j:=⟨_,rfl⟩;obtain ⟨u,hu⟩:∃u,u=xAt ys j:=⟨_,rfl⟩;rw [←hvv] at x0 hvx;rw [←hu] at y0 hvy;have HV:=AA hvv;have HU:=AA hu;have HJN:=AA (HIN.out wr HFw.out j hij hlt);clear hvv hu htj htj0 HIN HSH htjd hti hti0 hti1;subst hX hY;by_cases hr:InR (pts ps) lo hi i j
     ·have HR:=AA hr;rw [BG.2 hr] at HJN;clear hr;rcases hvy with rfl|rfl|rfl
      ·skip;rcases hvx with rfl|rfl|rfl
       ·cases a
        all_goals
         go_wp2_with (first|((go_at_call 156);(with_reducible refine(HJN.out).mono ?_);rintro e w1 ⟨rfl,hf1⟩;replace x0:=hf1.cell x0 (fun e=>e);have hbx1:=Nat.lt_of_lt_of_le hbx hf1.size;replace y0:=hf1.cell y0 (fun e=>e);have hby1:=Nat.lt_of_lt_of_le hby hf1.size;replace d0:=hf1.cell d0 (fun e=>e);replace e0:=hf1.cell e0 (fun e=>e);have hbq1:=Nat.lt_of_lt_of_le hbq hf1.size)|fail);go_quiet ((go_at_call 158;with_reducible exact Calls.quiet_of_same (HLE.out _ _ _)));go_wp2_with fail;go_roundw;case rel=>exact⟨j+1,_,true,_,by omega,by rw[AC];omega,by go_num,rfl,rfl,rfl,AA (by rw[HTJ.out,HTI.out];exact hun.out.stop hij (by rw[AC];exact hlt) true ⟨fun _ _=>HU.out.symm,fun _=>rfl⟩ HV.out.symm),AA ((hfr.out.call hf1 (fun _ h _=>h)).drewN _)⟩
         case measure=>simp[intOf];omega
       ·cases a
        all_goals
         go_wp2_with (first|((go_at_call 156);(with_reducible refine(HJN.out).mono ?_);rintro e w1 ⟨rfl,hf1⟩;replace x0:=hf1.cell x0 (fun e=>e);have hbx1:=Nat.lt_of_lt_of_le hbx hf1.size;replace y0:=hf1.cell y0 (fun e=>e);have hby1:=Nat.lt_of_lt_of_le hby hf1.size;replace d0:=hf1.cell d0 (fun e=>e);replace e0:=hf1.cell e0 (fun e=>e);have hbq1:=Nat.lt_of_lt_of_le hbq hf1.size)|fail);go_roundw;case rel=>exact⟨j+1,_,false,_,by omega,by rw[AC];omega,by go_num,rfl,rfl,rfl,AA (hun.out.next hij true ⟨fun _ _=>HU.out.symm,fun _=>rfl⟩ (by rw[←HV.out];decide)),AA (hfr.out.call hf1 (fun _ h _=>h))⟩
         case measure=>simp[intOf];omega
       ·cases a
        all_goals
         go_wp2_with (first|((go_at_call 156);(with_reducible refine(HJN.out).mono ?_);rintro e w1 ⟨rfl,hf1⟩;replace x0:=hf1.cell x0 (fun e=>e);have hbx1:=Nat.lt_of_lt_of_le hbx hf1.size;replace y0:=hf1.cell y0 (fun e=>e);have hby1:=Nat.lt_of_lt_of_le hby hf1.size;replace d0:=hf1.cell d0 (fun e=>e);replace e0:=hf1.cell e0 (fun e=>e);have hbq1:=Nat.lt_of_lt_of_le hbq hf1.size)|fail);go_roundw;case rel=>exact⟨j+1,_,false,_,by omega,by rw[AC];omega,by go_num,rfl,rfl,rfl,AA (hun.out.next hij true ⟨fun _ _=>HU.out.symm,fun _=>rfl⟩ (by rw[←HV.out];decide)),AA (hfr.out.call hf1 (fun _ h _=>h))⟩
         case measure=>simp[intOf];omega
      ·skip;rcases hvx with rfl|rfl|rfl
       ·cases a
        all_goals
         go_wp2_with (first|((go_at_call 156);(with_reducible refine(HJN.out).mono ?_);rintro e w1 ⟨rfl,hf1⟩;replace x0:=hf1.cell x0 (fun e=>e);have hbx1:=Nat.lt_of_lt_of_le hbx hf1.size;replace y0:=hf1.cell y0 (fun e=>e);have hby1:=Nat.lt_of_lt_of_le hby hf1.size;replace d0:=hf1.cell d0 (fun e=>e);replace e0:=hf1.cell e0 (fun e=>e);have hbq1:=Nat.lt_of_lt_of_le hbq hf1.size)|fail);go_quiet ((go_at_call 158;with_reducible exact Calls.quiet_of_same (HLE.out _ _ _)));go_wp2_with fail;go_roundw;case rel=>exact⟨j+1,_,true,_,by omega,by rw[AC];omega,by go_num,rfl,rfl,rfl,AA (by rw[HTJ.out,HTI.out];exact hun.out.stop hij (by rw[AC];exact hlt) false ⟨(fun e=>by cases e),fun e=>by have:=e HR.out;rw[←HU.out] at this;cases this⟩ HV.out.symm),AA ((hfr.out.call hf1 (fun _ h _=>h)).drewN _)⟩
         case measure=>simp[intOf];omega
       ·cases a
        all_goals
         go_wp2_with (first|((go_at_call 156);(with_reducible refine(HJN.out).mono ?_);rintro e w1 ⟨rfl,hf1⟩;replace x0:=hf1.cell x0 (fun e=>e);have hbx1:=Nat.lt_of_lt_of_le hbx hf1.size;replace y0:=hf1.cell y0 (fun e=>e);have hby1:=Nat.lt_of_lt_of_le hby hf1.size;replace d0:=hf1.cell d0 (fun e=>e);replace e0:=hf1.cell e0 (fun e=>e);have hbq1:=Nat.lt_of_lt_of_le hbq hf1.size)|fail);go_roundw;case rel=>exact⟨j+1,_,false,_,by omega,by rw[AC];omega,by go_num,rfl,rfl,rfl,AA (hun.out.next hij false ⟨(fun e=>by cases e),fun e=>by have:=e HR.out;rw[←HU.out] at this;cases this⟩ (by rw[←HV.out];decide)),AA (hfr.out.call hf1 (fun _ h _=>h))⟩
         case measure=>simp[intOf];omega
       ·cases a
        all_goals
         go_wp2_with (first|((go_at_call 156);(with_reducible refine(HJN.out).mono ?_);rintro e w1 ⟨rfl,hf1⟩;replace x0:=hf1.cell x0 (fun e=>e);have hbx1:=Nat.lt_of_lt_of_le hbx hf1.size;replace y0:=hf1.cell y0 (fun e=>e);have hby1:=Nat.lt_of_lt_of_le hby hf1.size;replace d0:=hf1.cell d0 (fun e=>e);replace e0:=hf1.cell e0 (fun e=>e);have hbq1:=Nat.lt_of_lt_of_le hbq hf1.size)|fail);go_roundw;case rel=>exact⟨j+1,_,false,_,by omega,by rw[AC];omega,by go_num,rfl,rfl,rfl,AA (hun.out.next hij false ⟨(fun e=>by cases e),fun e=>by have:=e HR.out;rw[←HU.out] at this;cases this⟩ (by rw[←HV.out];decide)),AA (hfr.out.call hf1 (fun _ h _=>h))⟩
         case measure=>simp[intOf];omega
      ·skip;rcases hvx with rfl|rfl|rfl
       ·cases a
        all_goals
         go_wp2_with (first|((go_at_call 156);(with_reducible refine(HJN.out).mono ?_);rintro e w1 ⟨rfl,hf1⟩;replace x0:=hf1.cell x0 (fun e=>e);have hbx1:=Nat.lt_of_lt_of_le hbx hf1.size;replace y0:=hf1.cell y0 (fun e=>e);have hby1:=Nat.lt_of_lt_of_le hby hf1.size;replace d0:=hf1.cell d0 (fun e=>e);replace e0:=hf1.cell e0 (fun e=>e);have hbq1:=Nat.lt_of_lt_of_le hbq hf1.size)|fail);go_quiet ((go_at_call 158;with_reducible exact Calls.quiet_of_same (HLE.out _ _ _)));go_wp2_with fail;go_roundw;case rel=>exact⟨j+1,_,true,_,by omega,by rw[AC];omega,by go_num,rfl,rfl,rfl,AA (by rw[HTJ.out,HTI.out];exact hun.out.stop hij (by rw[AC];exact hlt) false ⟨(fun e=>by cases e),fun e=>by have:=e HR.out;rw[←HU.out] at this;cases this⟩ HV.out.symm),AA ((hfr.out.call hf1 (fun _ h _=>h)).drewN _)⟩
         case measure=>simp[intOf];omega
       ·cases a
        all_goals
         go_wp2_with (first|((go_at_call 156);(with_reducible refine(HJN.out).mono ?_);rintro e w1 ⟨rfl,hf1⟩;replace x0:=hf1.cell x0 (fun e=>e);have hbx1:=Nat.lt_of_lt_of_le hbx hf1.size;replace y0:=hf1.cell y0 (fun e=>e);have hby1:=Nat.lt_of_lt_of_le hby hf1.size;replace d0:=hf1.cell d0 (fun e=>e);replace e0:=hf1.cell e0 (fun e=>e);have hbq1:=Nat.lt_of_lt_of_le hbq hf1.size)|fail);go_roundw;case rel=>exact⟨j+1,_,false,_,by omega,by rw[AC];omega,by go_num,rfl,rfl,rfl,AA (hun.out.next hij false ⟨(fun e=>by cases e),fun e=>by have:=e HR.out;rw[←HU.out] at this;cases this⟩ (by rw[←HV.out];decide)),AA (hfr.out.call hf1 (fun _ h _=>h))⟩
         case measure=>simp[intOf];omega
       ·cases a
        all_goals
         go_wp2_with (first|((go_at_call 156);(with_reducible refine(HJN.out).mono ?_);rintro e w1 ⟨rfl,hf1⟩;replace x0:=hf1.cell x0 (fun e=>e);have hbx1:=Nat.lt_of_lt_of_le hbx hf1.size;replace y0:=hf1.cell y0 (fun e=>e);have hby1:=Nat.lt_of_lt_of_le hby hf1.size;replace d0:=hf1.cell d0 (fun e=>e);replace e0:=hf1.cell e0 (fun e=>e);have hbq1:=Nat.lt_of_lt_of_le hbq hf1.size)|fail);go_roundw;case rel=>exact⟨j+1,_,false,_,by omega,by rw[AC];omega,by go_num,rfl,rfl,rfl,AA (hun.out.next hij false ⟨(fun e=>by cases e),fun e=>by have:=e HR.out;rw[←HU.out] at this;cases this⟩ (by rw[←HV.out];decide)),AA (hfr.out.call hf1 (fun _ h _=>h))⟩
         case measure=>simp[intOf];omega
     ·have HR:=AA hr;rw [show inR (pts ps) lo hi i j=false by rw[←Bool.not_eq_true,BG];exact hr] at HJN;clear hr;rcases hvx with rfl|rfl|rfl
      ·cases a
       all_goals
        go_wp2_with (first|((go_at_call 156);(with_reducible refine(HJN.out).mono ?_);rintro e w1 ⟨rfl,hf1⟩;replace x0:=hf1.cell x0 (fun e=>e);have hbx1:=Nat.lt_of_lt_of_le hbx hf1.size;replace y0:=hf1.cell y0 (fun e=>e);have hby1:=Nat.lt_of_lt_of_le hby hf1.size;replace d0:=hf1.cell d0 (fun e=>e);replace e0:=hf1.cell e0 (fun e=>e);have hbq1:=Nat.lt_of_lt_of_le hbq hf1.size)|fail);go_quiet ((go_at_call 158;with_reducible exact Calls.quiet_of_same (HLE.out _ _ _)));go_wp2_with fail;go_roundw;case rel=>exact⟨j+1,_,true,_,by omega,by rw[AC];omega,by go_num,rfl,rfl,rfl,AA (by rw[HTJ.out,HTI.out];exact hun.out.stop hij (by rw[AC];exact hlt) true ⟨fun _ e=>absurd e HR.out,fun _=>rfl⟩ HV.out.symm),AA ((hfr.out.call hf1 (fun _ h _=>h)).drewN _)⟩
        case measure=>simp[intOf];omega
      ·cases a
       all_goals
        go_wp2_with (first|((go_at_call 156);(with_reducible refine(HJN.out).mono ?_);rintro e w1 ⟨rfl,hf1⟩;replace x0:=hf1.cell x0 (fun e=>e);have hbx1:=Nat.lt_of_lt_of_le hbx hf1.size;replace y0:=hf1.cell y0 (fun e=>e);have hby1:=Nat.lt_of_lt_of_le hby hf1.size;replace d0:=hf1.cell d0 (fun e=>e);replace e0:=hf1.cell e0 (fun e=>e);have hbq1:=Nat.lt_of_lt_of_le hbq hf1.size)|fail);go_roundw;case rel=>exact⟨j+1,_,false,_,by omega,by rw[AC];omega,by go_num,rfl,rfl,rfl,AA (hun.out.next hij true ⟨fun _ e=>absurd e HR.out,fun _=>rfl⟩ (by rw[←HV.out];decide)),AA (hfr.out.call hf1 (fun _ h _=>h))⟩
        case measure=>simp[intOf];omega
      ·cases a
       all_goals
        go_wp2_with (first|((go_at_call 156);(with_reducible refine(HJN.out).mono ?_);rintro e w1 ⟨rfl,hf1⟩;replace x0:=hf1.cell x0 (fun e=>e);have hbx1:=Nat.lt_of_lt_of_le hbx hf1.size;replace y0:=hf1.cell y0 (fun e=>e);have hby1:=Nat.lt_of_lt_of_le hby hf1.size;replace d0:=hf1.cell d0 (fun e=>e);replace e0:=hf1.cell e0 (fun e=>e);have hbq1:=Nat.lt_of_lt_of_le hbq hf1.size)|fail);go_roundw;case rel=>exact⟨j+1,_,false,_,by omega,by rw[AC];omega,by go_num,rfl,rfl,rfl,AA (hun.out.next hij true ⟨fun _ e=>absurd e HR.out,fun _=>rfl⟩ (by rw[←HV.out];decide)),AA (hfr.out.call hf1 (fun _ h _=>h))⟩
        case measure=>simp[intOf];omega
    ·have HUN:=hun.out;rw [show min hi h0=min hi (AO-tAt (pts ps) i) from HQ.out.symm] at HUN
     have hend:st=true∨j=(pts ps).length:=by
      rw[AC];cases st
      ·by_cases h:j<ps.length;·exact absurd ⟨h,rfl⟩ hgo
       ·right;omega
      ·left;rfl
     have HE:=AA (HUN.end_ (mark:=mark) HW.out hij hend HNO.out);rw [←HTI.out] at HE;clear hun HUN HIN hend;have HSQ:=AA (fun W=>HSH.out W hv);clear HSH hti hti0 hti1;generalize shutB t lo hv mark=s at*;by_cases hlt:j<ps.length
     ·obtain rfl:st=true:=by
       cases st;·exact absurd ⟨hlt,rfl⟩ hgo
       ·rfl
      have hI:(j:Int)<ps.length:=by omega
      clear hgo;cases a
      ·replace HE:=AA (HE.out.trans (if_neg (by simp)));go_wp2_with fail;go_quiet (fail);go_wp2_with fail;go_ret;rw [HE.out];exact ⟨rfl,HFw.out.drewN _⟩
      ·cases s
       ·replace HE:=AA (HE.out.trans (if_neg (by simp)));go_wp2_with fail;go_quiet ((go_at_call 157;with_reducible exact Calls.quiet_of_same (HSQ.out _)));go_wp2_with fail;go_ret;rw [HE.out];exact ⟨rfl,HFw.out.drewN _⟩
       ·replace HE:=AA (HE.out.trans (if_pos (by simp)));go_wp2_with fail;go_quiet ((go_at_call 157;with_reducible exact Calls.quiet_of_same (HSQ.out _)));go_wp2_with fail;go_ret;rw [HE.out];exact ⟨rfl,HFw.out.drewN _⟩
     ·have hI:¬(j:Int)<ps.length:=by omega
      clear hgo;cases st
      all_goals
       cases a
       ·replace HE:=AA (HE.out.trans (if_neg (by simp)));go_wp2_with fail;go_quiet (fail);go_wp2_with fail;go_ret;rw [HE.out];exact ⟨rfl,HFw.out.drewN _⟩
       ·cases s
        ·replace HE:=AA (HE.out.trans (if_neg (by simp)));go_wp2_with fail;go_quiet ((go_at_call 157;with_reducible exact Calls.quiet_of_same (HSQ.out _)));go_wp2_with fail;go_ret;rw [HE.out];exact ⟨rfl,HFw.out.drewN _⟩
        ·replace HE:=AA (HE.out.trans (if_pos (by simp)));go_wp2_with fail;go_quiet ((go_at_call 157;with_reducible exact Calls.quiet_of_same (HSQ.out _)));go_wp2_with fail;go_ret;rw [HE.out];exact ⟨rfl,HFw.out.drewN _⟩
end Go.Proofs.YtoegdmpmagbaiaaGreatDoor
