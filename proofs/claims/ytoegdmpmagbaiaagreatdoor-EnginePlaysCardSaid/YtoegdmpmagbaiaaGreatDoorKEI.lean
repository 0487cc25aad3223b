/- horizon: how far a formula looks ahead. -/
import Derived.Test.YtoegdmpmagbaiaaGreatDoorKSS
import Derived.Test.YtoegdmpmagbaiaaGreatDoorQFcheck
import Derived.Test.YtoegdmpmagbaiaaGreatDoorQH32
set_option maxHeartbeats 8000000
set_option maxRecDepth 100000
namespace Go.Proofs.YtoegdmpmagbaiaaGreatDoor
open Go.RowKit Go.Lib
def BS (a b:Int):Int×Bool:=
 if 9223372036854775807<a+b then(9223372036854775807,true)
 else if a+b< -9223372036854775808 then(-9223372036854775808,true) else(a+b,false)
theorem sadd_I64 (a b:Int):I64 (BS a b).1:=by
 unfold BS I64;split;·simp
 ·split;·simp
  ·simp;omega
theorem sadd_hi {a b:Int}(ha:I64 a)(hb:I64 b)(h:0<b)(h':wrap64 (a+b)<a):BS a b=(9223372036854775807,true):=by
 unfold I64 at ha hb;unfold wrap64 at h';unfold BS;rw[if_pos (by omega)]
theorem sadd_lo {a b:Int}(ha:I64 a)(hb:I64 b)(h:b<0)(h':a<wrap64 (a+b)):BS a b=(-9223372036854775808,true):=by
 unfold I64 at ha hb;unfold wrap64 at h';unfold BS;rw[if_neg (by omega),if_pos (by omega)]
theorem sadd_mid {a b:Int}(ha:I64 a)(hb:I64 b)(h:0<b→a≤wrap64 (a+b))(h':b<0→wrap64 (a+b)≤a):BS a b=(wrap64 (a+b),false):=by
 unfold I64 at ha hb;unfold wrap64 at h h';unfold wrap64 BS;rw [if_neg (by omega),if_neg (by omega)];congr 1;omega
theorem sat_Add (w:World)(a b:Int)(ha:I64 a)(hb:I64 b):
 Calls Tryz.prog 33 #[.int .i64 a,.int .i64 b] w fun e w'=>e=.returned (.tuple #[.int .i64 (BS a b).1,.bool (BS a b).2])∧w=w':=by
 have Ha:=AA ha;have Hb:=AA hb;clear ha hb;go_enter Tryz.func33,Tryz.ntmps33;go_wp2;all_goals go_ret2
 all_goals refine⟨?_,rfl⟩
 all_goals first
  |(rw [sadd_hi Ha.out Hb.out (by assumption) (by assumption)];rfl)
  |(rw [sadd_lo Ha.out Hb.out (by assumption) (by assumption)];rfl)
  |(rw [sadd_mid Ha.out Hb.out (by intros;first|assumption|omega) (by intros;first|assumption|omega)];rfl)
theorem hz_spans (w:World)(x:Nd)(A:Option Addr)(n c:Nat)(hop:x.op≤12):Calls Tryz.prog 109 #[AF x A n c] w fun e w'=>e=.returned (.bool (decide (9≤x.op)))∧Fr Nob w w':=by
 obtain⟨r,hr⟩:∃r,r=decide (9≤x.op):=⟨_,rfl⟩;rw [←hr];obtain ⟨op,nm,cm,va,lo,hi⟩:=x;dsimp only at hop hr;unfold AF;dsimp only;by_cases h9:9≤op
 ·have HR:=AA (show r=true by rw[hr];simpa using h9);have ho:op=9∨op=10∨op=11∨op=12:=by omega
  clear hr h9 hop;rcases ho with rfl|rfl|rfl|rfl
  all_goals
   go_enter Tryz.func109,Tryz.ntmps109;go_wp2_with fail;go_ret;rw [HR.out];exact ⟨rfl,(Fr.refl _ _).alloc _⟩
 ·have HR:=AA (show r=false by rw[hr];simpa using h9);have e1:(op==9)=false:=by simp;omega
  have e2:(op==10)=false:=by simp;omega
  have e3:(op==11)=false:=by simp;omega
  have e4:(op==12)=false:=by simp;omega
  clear hr h9 hop;go_enter Tryz.func109,Tryz.ntmps109;go_wp2_with fail;go_ret;rw [HR.out];exact ⟨rfl,(Fr.refl _ _).alloc _⟩
def HzN (n:Nd):Prop:=HiN n∧I64 n.hi∧n.op≤12
def D9:Tr→Int×Bool→Int×Bool
 |.nil,s=>s
 |.cons y j r,s=>D9 r (max s.1 (if 9≤y.op then(BS (D9 j (0,false)).1 y.hi).1 else(D9 j (0,false)).1),s.2||(if 9≤y.op then(D9 j (0,false)).2||(BS (D9 j (0,false)).1 y.hi).2 else(D9 j (0,false)).2))
def C2 (s:S1):Int×Bool:=(if 9≤s.1.op then(BS (D9 s.2 (0,false)).1 s.1.hi).1 else(D9 s.2 (0,false)).1,if 9≤s.1.op then(D9 s.2 (0,false)).2||(BS (D9 s.2 (0,false)).1 s.1.hi).2 else(D9 s.2 (0,false)).2)
theorem farL_cons (y:Nd)(j r:Tr)(s:Int×Bool):D9 (.cons y j r) s=D9 r (max s.1 (C2 (y,j)).1,s.2||(C2 (y,j)).2):=rfl
def FarR (x:Nd)(t:Tr)(w:World)(e:Ending)(w':World):Prop:=∃h c,e=.returned (.tuple #[.int .i64 h,.bool c])∧(c=false→h=far1 (x,t))∧I64 h∧0≤h∧C2 (x,t)=(h,c)∧Fr Nob w w'
def HzI (t:Tr)(r:Tr)(most:Int)(cut:Bool):Prop:=(cut=false→max most (D2 r)=D2 t)∧0≤most∧I64 most∧D9 r (most,cut)=D9 t (0,false)
theorem get_len:∀(f:Fo),f.get f.len=.nil
 |.nil=>rfl
 |.cons _ _ _ _ r=>by simpa[Fo.get,Fo.len] using get_len r
theorem G3 {Q:Nd→Prop}:∀{f:Fo} {k:Nat} {y:Nd} {B:Option Addr} {d:Nat} {js rs:Fo},f.tr.allN Q→f.get k=.cons y B d js rs→Q y∧js.tr.allN Q
 |.nil,_,_,_,_,_,_,_,h=>by simp[Fo.get] at h
 |.cons x A c ks r,0,_,_,_,_,_,h0,h=>by
  simp only[Fo.get,Fo.cons.injEq] at h;obtain ⟨rfl,rfl,rfl,rfl,rfl⟩:=h;exact ⟨h0.1,h0.2.1⟩
 |.cons x A c ks r,k+1,_,_,_,_,_,h0,h=>G3 (f:=r) (k:=k) h0.2.2 (by simpa[Fo.get] using h)
theorem HzI.step {t r:Tr}{y:Nd}{j:Tr}{most h:Int}{cut c:Bool}(hi:HzI t (.cons y j r) most cut)(hc:c=false→h=far1 (y,j))(h0:0≤h)(h64:I64 h)(hE:C2 (y,j)=(h,c)):HzI t r (max most h) (cut||c):=by
 obtain⟨a,b,d,f⟩:=hi;rw [farL_cons,hE] at f;unfold I64 at*;refine ⟨fun e=>?_,by omega,⟨by omega,by omega⟩,f⟩;rw [Bool.or_eq_false_iff] at e;have h1:=a e.1;rw [maxF_cons,←hc e.2] at h1;omega
theorem hz_far:∀(n:Nat) (w:World) (x:Nd) (A:Option Addr) (c:Nat) (ks:Fo) (N:Nat),ks.tr.size≤n→n≤100000→Au N w A c ks→HzN x→ks.tr.allN HzN→
 Calls Tryz.prog 64 #[AF x A ks.len c] w (FarR x ks.tr w):=by
 intro n
 induction n using Nat.strongRecOn with
 |_ n ih=>
  intro w x A c ks N hsz hn hs hx hk;have IH:=AA ih;have HS:=AA hs;have HK:=AA hk;have HX:=AA hx;have HSP:=AA (fun W=>hz_spans W x A ks.len c hx.2.2);have HSZ:=AA hsz;have hln:ks.len≤100000:=by have:=ks.len_size;omega
  clear ih hs hx hk hsz;unfold AF at*;go_enter Tryz.func64,Tryz.ntmps64;go_upto_region 1 with fail;obtain ⟨W0,hW0⟩:∃W0,w.alloc (.cells #[.int .i64 x.op,.string x.name,.int .i64 x.cmp,.int .i64 x.val,.int .i64 x.lo,.int .i64 x.hi,.slice A ks.len c] 28)=W0:=⟨_,rfl⟩;have HB0:=AA (show Blk W0 w.heap.size 28 #[.int .i64 x.op,.string x.name,.int .i64 x.cmp,.int .i64 x.val,.int .i64 x.lo,.int .i64 x.hi,.slice A ks.len c] by rw[←hW0];exact Blk.new _ _ _);have HF0:=AA (show Fr Nob w W0 by rw[←hW0];exact(Fr.refl _ _).alloc _);rw [hW0];clear hW0;have xc:=HB0.out.cell;have xl:=HB0.out.lt;go_wp2_with fail;clear xc xl;go_loopw [4,5,15] (fun mv cv iv wr=>∃(k:Nat) (m:Int) (cu:Bool),k≤ks.len∧iv=.int .i64 k∧mv=.int .i64 m∧cv=.bool cu∧Hid (HzI ks.tr (ks.get k).tr m cu)∧Hid (Fr Nob W0 wr)) (fun _ _ iv _=>ks.len-(intOf iv).toNat);case atStart=>exact⟨0,0,false,Nat.zero_le _,rfl,rfl,rfl,AA ⟨fun _=>by rw[Fo.get_zero];have:=maxF_pos ks.tr;omega,Int.le_refl _,(show I64 0 from⟨by decide,by decide⟩),by rw[Fo.get_zero]⟩,AA (Fr.refl _ _)⟩
  case round=>
   obtain⟨k,m,cu,hk,rfl,rfl,rfl,hi,hfr⟩:=hrel;by_cases hlt:k<ks.len
   ·have hI:(k:Int)<ks.len:=by omega
    have hI3:0≤(k:Int):=by omega
    obtain⟨b,off,y,B,d,js,rs,K⟩:=(HS.out.fr (HF0.out.call hfr.out (fun _ h _=>h))).kid hlt;obtain ⟨d0,d1,d2,d3,d4,d5,d6⟩:=K.nd;obtain rfl:=K.slice;have hlt2:=K.lt;have hg:=K.get;have hg2:=Fo.get_succ hg;have hjs:=K.size;have hq:=G3 HK.out hg;have hi':=hi.out;rw [hg] at hi';have HI:=AA (show HzI ks.tr (.cons y js.tr (ks.get (k+1)).tr) m cu by rw[hg2];exact hi');have HC:=AA (fun W (hf:Fr Nob wr W)=>IH.out js.tr.size (by have:=HSZ.out;omega) W y B d js N (Nat.le_refl _) (by have:=HSZ.out;omega) (K.sl.fr hf) hq.1 hq.2);obtain ⟨⟨y0,y1,y2,y3,y4,y5⟩,hy⟩:∃z,z=y:=⟨y,rfl⟩;subst hy;dsimp only at d0 d1 d2 d3 d4 d5;clear K hg hg2 hjs hq hi' hi
    go_wp2_with (first
     |((go_at_call 64);(with_reducible refine(HC.out _ ((Fr.refl _ _).alloc _)).mono ?_);rintro e w1 ⟨h,cc,rfl,hc,h64,h0,hE,hf1⟩;have HN:=AA (HI.out.step hc h0 h64 hE);have HF1:=AA (hfr.out.call (((Fr.refl Nob wr).alloc _).call hf1 (fun _ h _=>h)) (fun _ h _=>h));clear hc h64 h0 hE hf1)
     |fail)
    all_goals
     go_roundw
     case rel=>
      first
       |exact⟨k+1,_,_,by omega,by go_num,rfl,rfl,AA (by have:=HN.out;rw[show (cu||cc)=true by simp[*]] at this;exact this),HF1⟩
       |exact⟨k+1,_,_,by omega,by go_num,rfl,rfl,AA (by have:=HN.out;rw[show (cu||cc)=cc by simp[*]] at this;exact this),HF1⟩
     case measure=>simp[intOf];omega
   ·have hke:k=ks.len:=by omega
    have hi':=hi.out;rw [hke,get_len] at hi';have HM:=AA (show cu=false→m=D2 ks.tr from fun e=>by have:=hi'.1 e;have h0:=hi'.2.1;have e0:D2 (Fo.nil).tr=0:=rfl;rw[e0] at this;omega);have HM0:=AA (show 0≤m∧I64 m from⟨hi'.2.1,hi'.2.2.1⟩);have HFL:=AA (show D9 ks.tr (0,false)=(m,cu) from hi'.2.2.2.symm);have HBr:=AA (HB0.out.fr hfr.out (fun e=>e));have xc:=HBr.out.cell;have xl:=HBr.out.lt;have hlt3:¬(k:Int)<ks.len:=by omega
    have HADD:=AA (fun W=>sat_Add W m x.hi HM0.out.2 HX.out.2.1);clear hi hi' hke;by_cases h9:9≤x.op
    ·have HFR:=AA (show far1 (x,ks.tr)=D2 ks.tr+x.hi by unfold far1;rw[if_pos h9]);have HX9:=AA (HX.out.1 h9);rw [show decide (9≤x.op)=true by simpa using h9] at HSP
     have HSE:=AA (show I64 (BS m x.hi).1∧0≤(BS m x.hi).1∧((BS m x.hi).2=false→(BS m x.hi).1=m+x.hi) by
      have h0:=HM0.out.1;have h1:=HX9.out;refine ⟨sadd_I64 _ _,?_,?_⟩
      ·unfold BS;split;·decide
       ·split;·exfalso;omega
        ·show 0≤m+x.hi;omega
      ·unfold BS;split;·intro e;cases e
       ·split;·intro e;cases e
        ·intro _;rfl);have HE1:=AA (show C2 (x,ks.tr)=((BS m x.hi).1,cu||(BS m x.hi).2) by unfold C2;dsimp only;rw[if_pos h9,if_pos h9,HFL.out]);clear h9;generalize (BS m x.hi).1=sv at*;generalize (BS m x.hi).2=sc at*;cases cu
     all_goals
      go_wp2_with (first
       |((go_at_call 109);(with_reducible refine(HSP.out _).mono ?_);rintro e w1 ⟨rfl,hf1⟩;have HB1:=AA (HBr.out.fr hf1 (fun e=>e));have xc1:=HB1.out.cell;have xl1:=HB1.out.lt)
       |((go_at_call 33);(with_reducible refine(HADD.out _).mono ?_);rintro e w2 ⟨rfl,rfl⟩)
       |fail);go_ret2;refine ⟨_,_,rfl,?_,HSE.out.1,HSE.out.2.1,by simpa using HE1.out,(HF0.out.call hfr.out (fun _ h _=>h)).call hf1 (fun _ h _=>h)⟩;intro e
      first
       |(cases e;done)
       |(rw [HSE.out.2.2 e,HFR.out,HM.out (by first|rfl|trivial)])
    ·have HFR:=AA (show far1 (x,ks.tr)=D2 ks.tr by unfold far1;rw[if_neg h9];exact Int.add_zero _);rw [show decide (9≤x.op)=false by simpa using h9] at HSP;have HE1:=AA (show C2 (x,ks.tr)=(m,cu) by unfold C2;dsimp only;rw[if_neg h9,if_neg h9,HFL.out]);clear h9 HADD
     go_wp2_with (first
      |((go_at_call 109);(with_reducible refine(HSP.out _).mono ?_);rintro e w1 ⟨rfl,hf1⟩)
      |fail);go_ret2;exact ⟨_,_,rfl,fun e=>by rw[HFR.out];exact HM.out e,HM0.out.2,HM0.out.1,HE1.out,(HF0.out.call hfr.out (fun _ h _=>h)).call hf1 (fun _ h _=>h)⟩
theorem F9:∀{t:Tr},t.good→t.ok→t.allN HzN
 |.nil,_,_=>trivial
 |.cons x k r,⟨h1,h2,h3⟩,⟨o1,o2,o3⟩=>⟨⟨fun h9=>by have:=GG h1 h9;omega,o1.hi,(Co h1).2.1⟩,F9 h2 o2,F9 h3 o3⟩
def errH (x:Nd)(t:Tr):Int:=if checkT x t≠0 then checkT x t else if(C2 (x,t)).2 then 25 else 0
def HzOfE (x:Nd)(t:Tr)(w:World)(e:Ending)(w':World):Prop:=∃h,e=.returned (.tuple #[.int .i64 h,.int .i64 (errH x t)])∧(errH x t=0→firstW ((Tr.cons x t .nil).nodes 1)=0∧h=far1 (x,t)∧I64 h∧0≤h)∧(errH x t≠0→h=0)∧Fr Nob w w'
theorem hz_OfE (w:World)(x:Nd)(A:Option Addr)(c:Nat)(ks:Fo)(hs:Au w.heap.size w A c ks)(hsz:ks.tr.size≤100000)(hv:BR w)(hx:NdOk x)(hk:ks.tr.ok)(hnm:∀y∈(Tr.cons x ks.tr .nil).nodes 1,y.1.name.size≤9223372036854775807):
 Calls Tryz.prog 31 #[AF x A ks.len c] w (HzOfE x ks.tr w):=by
 have HCK:=AA (fun W (hf:Fr Nob w W)=>prg_Check W x A c ks ((hs.fr hf).mono hf.size) hsz (hv.fr hf) hnm);by_cases h0:checkT x ks.tr=0
 ·have hg:firstW ((Tr.cons x ks.tr .nil).nodes 1)=0:=by
   unfold checkT at h0;split at h0;·omega
   ·split at h0;·omega
    ·exact h0
  obtain⟨g1,g2⟩:=(Bi x ks.tr).1 hg;have hq:=F9 (t:=.cons x ks.tr .nil) ⟨g1,g2,trivial⟩ ⟨hx,hk,trivial⟩;have HFA:=AA (fun W (hf:Fr Nob w W)=>hz_far ks.tr.size W x A c ks w.heap.size (Nat.le_refl _) hsz (hs.fr hf) hq.1 hq.2.1);have HG:=AA hg;rw [h0] at HCK;have HER:=AA (show errH x ks.tr=if(C2 (x,ks.tr)).2 then 25 else 0 by unfold errH;rw[if_neg (by simpa using h0)]);clear hs hsz hv hx hk hnm h0 hg g1 g2 hq;unfold AF at*;go_enter Tryz.func31,Tryz.ntmps31;have HB0:=AA (show Blk (w.alloc (.cells #[.int .i64 x.op,.string x.name,.int .i64 x.cmp,.int .i64 x.val,.int .i64 x.lo,.int .i64 x.hi,.slice A ks.len c] 28)) w.heap.size 28 _ from Blk.new _ _ _)
  go_upto_region 5 with(first
   |((go_at_call 63);(with_reducible refine(HCK.out _ ((Fr.refl _ _).alloc _)).mono ?_);rintro e w1 ⟨rfl,hf1⟩;have HF1:=AA (((Fr.refl Nob w).alloc _).call hf1 (fun _ h _=>h));have HX1:=AA (HB0.out.fr hf1 (fun e=>e));have xc:=HX1.out.cell;have xl:=HX1.out.lt;clear hf1)
   |((go_at_call 64);(with_reducible refine(HFA.out _ HF1.out).mono ?_);rintro e w2 ⟨h,cc,rfl,hc,h64,h0,hE,hf2⟩;have HE:=AA hE;have HC:=AA hc;have H64:=AA h64;have H0:=AA h0;have HF2:=AA (HF1.out.call hf2 (fun _ h _=>h));clear hc h64 h0 hE hf2)
   |fail);cases cc
  ·have he:=HER.out;rw [HE.out] at he;have HE0:=AA (show errH x ks.tr=0 from he);clear he;go_wp2_with fail;go_ret2;exact ⟨_,by rw[HE0.out];rfl,fun _=>⟨HG.out,HC.out (by first|rfl|trivial),H64.out,H0.out⟩,fun e=>absurd HE0.out e,HF2.out⟩
  ·have he:=HER.out;rw [HE.out] at he;have HE0:=AA (show errH x ks.tr=25 from he);clear he;go_wp2_with fail;go_ret2;exact ⟨_,by rw[HE0.out];rfl,fun e=>by rw[HE0.out] at e;exact absurd e (by decide),fun _=>rfl,HF2.out⟩
 ·have h1:(checkT x ks.tr !=0)=true:=by simpa using h0
  have HN:=AA h0;have HER:=AA (show errH x ks.tr=checkT x ks.tr by unfold errH;rw[if_pos h0]);clear hs hsz hv hx hk hnm h0;generalize checkT x ks.tr=er at*;unfold AF at*;go_enter Tryz.func31,Tryz.ntmps31
  go_wp2_with (first
   |((go_at_call 63);(with_reducible refine(HCK.out _ ((Fr.refl _ _).alloc _)).mono ?_);rintro e w1 ⟨rfl,hf1⟩;have HF1:=AA (((Fr.refl Nob w).alloc _).call hf1 (fun _ h _=>h));clear hf1)
   |fail);go_ret2;exact ⟨_,by rw[HER.out];rfl,fun e=>absurd (HER.out.symm.trans e) HN.out,fun _=>rfl,HF1.out⟩
end Go.Proofs.YtoegdmpmagbaiaaGreatDoor
