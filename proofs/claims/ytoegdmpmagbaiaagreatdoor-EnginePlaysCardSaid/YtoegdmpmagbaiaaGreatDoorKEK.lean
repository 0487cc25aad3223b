/- The document's saturated sum (ref02.Add), where sadd stands in H33. -/
import Derived.Test.YtoegdmpmagbaiaaGreatDoorKEI
import Derived.Test.YtoegdmpmagbaiaaGreatDoorKD
import Derived.Test.YtoegdmpmagbaiaaGreatDoorKR
import Derived.Test.YtoegdmpmagbaiaaGreatDoorKU
import Derived.Test.YtoegdmpmagbaiaaGreatDoorKX
set_option maxHeartbeats 16000000
set_option maxRecDepth 100000
namespace Go.Proofs.YtoegdmpmagbaiaaGreatDoor
open Go.RowKit
theorem tdm (a:Int):a.tdiv 4294967296*4294967296+a.tmod 4294967296=a∧(0≤a→0≤a.tmod 4294967296)∧(a<0→a.tmod 4294967296≤0)∧a.tmod 4294967296<4294967296∧-4294967296<a.tmod 4294967296:=by
 refine⟨by rw[Int.mul_comm];exact Int.mul_tdiv_add_tmod a 4294967296,fun h=>Int.tmod_nonneg _ h,fun h=>?_,Int.tmod_lt_of_pos a (by omega),Int.lt_tmod_of_pos a (by omega)⟩;have h1:0≤(-a).tmod 4294967296:=Int.tmod_nonneg _ (by omega);rw [Int.neg_tmod] at h1;omega
theorem ref_highs (w:World)(a:Int)(ha:I64 a):
 Calls Tryz.prog 147 #[.int .i64 a] w fun e w'=>e=.returned (.int .i64 (a/4294967296))∧w=w':=by
 unfold I64 at ha;go_enter Tryz.func147,Tryz.ntmps147;go_wp2;all_goals go_ret
 all_goals refine⟨Gc ?_,rfl⟩
 all_goals have ht:=tdm a
 all_goals try unfold wrap64
 all_goals omega
theorem ref_low (w:World)(a:Int)(_ha:I64 a):
 Calls Tryz.prog 148 #[.int .i64 a] w fun e w'=>e=.returned (.int .i64 (a%4294967296))∧w=w':=by
 go_enter Tryz.func148,Tryz.ntmps148;go_wp2;all_goals go_ret
 all_goals refine⟨Gc ?_,rfl⟩
 all_goals have ht:=tdm a
 all_goals try unfold wrap64
 all_goals omega
def B7 (h l:Int):Int×Bool:=BS (h*4294967296) l
theorem ref_whole (w:World)(h l:Int)(h1: -4294967296≤h)(h2:h≤4294967296)(l1:0≤l)(l2:l<8589934592):
 Calls Tryz.prog 146 #[.int .i64 h,.int .i64 l] w fun e w'=>e=.returned (.tuple #[.int .i64 (B7 h l).1,.bool (B7 h l).2])∧w=w':=by
 by_cases hl:l<4294967296
 ·by_cases c1:2147483647<h
  ·have HF:Hid (B7 h l=(9223372036854775807,true)):=by unfold B7 BS;(first|rw[if_pos (by omega)]|(rw [if_neg (by omega),if_pos (by omega)])|(rw [if_neg (by omega),if_neg (by omega)]));(first|exact rfl|(congr 1;omega))
   go_enter Tryz.func146,Tryz.ntmps146;go_wp2;go_rounds 1;go_wp2;go_rounds 2;go_wp2;go_ret2;exact ⟨by rw[HF.out];rfl,rfl⟩
  by_cases c2:h< -2147483648
  ·have HF:Hid (B7 h l=(-9223372036854775808,true)):=by unfold B7 BS;(first|rw[if_pos (by omega)]|(rw [if_neg (by omega),if_pos (by omega)])|(rw [if_neg (by omega),if_neg (by omega)]));(first|exact rfl|(congr 1;omega))
   go_enter Tryz.func146,Tryz.ntmps146;go_wp2;go_rounds 1;go_wp2;go_rounds 2;go_wp2;go_ret2;exact ⟨by rw[HF.out];rfl,rfl⟩
  ·have HF:Hid (B7 h l=(h*4294967296+l,false)):=by unfold B7 BS;(first|rw[if_pos (by omega)]|(rw [if_neg (by omega),if_pos (by omega)])|(rw [if_neg (by omega),if_neg (by omega)]));(first|exact rfl|(congr 1;omega))
   go_enter Tryz.func146,Tryz.ntmps146;go_wp2;go_rounds 1;go_wp2;go_rounds 2;go_wp2;go_ret2;exact ⟨by rw[HF.out];rfl,rfl⟩
 ·by_cases c1:2147483647<h+1
  ·have HF:Hid (B7 h l=(9223372036854775807,true)):=by unfold B7 BS;(first|rw[if_pos (by omega)]|(rw [if_neg (by omega),if_pos (by omega)])|(rw [if_neg (by omega),if_neg (by omega)]));(first|exact rfl|(congr 1;omega))
   go_enter Tryz.func146,Tryz.ntmps146;go_wp2;go_rounds 1;go_wp2;go_rounds 2;go_wp2;go_ret2;exact ⟨by rw[HF.out];rfl,rfl⟩
  by_cases c2:h+1< -2147483648
  ·have HF:Hid (B7 h l=(-9223372036854775808,true)):=by unfold B7 BS;(first|rw[if_pos (by omega)]|(rw [if_neg (by omega),if_pos (by omega)])|(rw [if_neg (by omega),if_neg (by omega)]));(first|exact rfl|(congr 1;omega))
   go_enter Tryz.func146,Tryz.ntmps146;go_wp2;go_rounds 1;go_wp2;go_rounds 2;go_wp2;go_ret2;exact ⟨by rw[HF.out];rfl,rfl⟩
  ·have HF:Hid (B7 h l=((h+1)*4294967296+(l-4294967296),false)):=by unfold B7 BS;(first|rw[if_pos (by omega)]|(rw [if_neg (by omega),if_pos (by omega)])|(rw [if_neg (by omega),if_neg (by omega)]));(first|exact rfl|(congr 1;omega))
   go_enter Tryz.func146,Tryz.ntmps146;go_wp2;go_rounds 1;go_wp2;go_rounds 2;go_wp2;go_ret2;exact ⟨by rw[HF.out];rfl,rfl⟩
theorem rwhole_eq (a b:Int):B7 (a/4294967296+b/4294967296) (a%4294967296+b%4294967296)=BS a b:=by
 unfold B7;have e:(a/4294967296+b/4294967296)*4294967296+(a%4294967296+b%4294967296)=a+b:=by omega
 unfold BS;rw [e]
theorem ref_Add (w:World)(a b:Int)(ha:I64 a)(hb:I64 b):
 Calls Tryz.prog 114 #[.int .i64 a,.int .i64 b] w fun e w'=>e=.returned (.tuple #[.int .i64 (BS a b).1,.bool (BS a b).2])∧w=w':=by
 have Ha:=AA ha;have Hb:=AA hb;unfold I64 at ha hb;have a1: -2147483648≤a/4294967296:=by omega
 have a2:a/4294967296≤2147483647:=by omega
 have b1: -2147483648≤b/4294967296:=by omega
 have b2:b/4294967296≤2147483647:=by omega
 have a3:0≤a%4294967296:=by omega
 have a4:a%4294967296<4294967296:=by omega
 have b3:0≤b%4294967296:=by omega
 have b4:b%4294967296<4294967296:=by omega
 clear ha hb;go_enter Tryz.func114,Tryz.ntmps114;go_wp2_with fail;refine (ref_highs _ _ Ha.out).mono ?_;rintro e w' ⟨rfl,rfl⟩;go_wp2_with fail;refine (ref_highs _ _ Hb.out).mono ?_;rintro e w' ⟨rfl,rfl⟩;go_wp2_with fail;refine (ref_low _ _ Ha.out).mono ?_;rintro e w' ⟨rfl,rfl⟩;go_wp2_with fail;refine (ref_low _ _ Hb.out).mono ?_;rintro e w' ⟨rfl,rfl⟩;go_wp2_with fail;refine (ref_whole _ _ _ (by omega) (by omega) (by omega) (by omega)).mono ?_;rintro e w' ⟨rfl,rfl⟩;go_wp2_with fail;go_ret2;exact ⟨by rw[rwhole_eq];rfl,rfl⟩
end Go.Proofs.YtoegdmpmagbaiaaGreatDoor
namespace Go.Proofs.YtoegdmpmagbaiaaGreatDoor
open Go.RowKit Go.Lib
theorem r11_Far:∀(n:Nat) (w:World) (x:Nd) (A:Option Addr) (c:Nat) (ks:Fo) (N:Nat),ks.tr.size≤n→n≤100000→Au N w A c ks→HzN x→ks.tr.allN HzN→
 Calls Tryz.prog 68 #[AF x A ks.len c] w (FarR x ks.tr w):=by
 intro n
 induction n using Nat.strongRecOn with
 |_ n ih=>
  intro w x A c ks N hsz hn hs hx hk;have IH:=AA ih;have HS:=AA hs;have HK:=AA hk;have HX:=AA hx;have HSZ:=AA hsz;have hln:ks.len≤100000:=by have:=ks.len_size;omega
  clear ih hs hx hk hsz;unfold AF at*;go_enter Tryz.func68,Tryz.ntmps68;go_upto_region 1 with fail;obtain ⟨W0,hW0⟩:∃W0,w.alloc (.cells #[.int .i64 x.op,.string x.name,.int .i64 x.cmp,.int .i64 x.val,.int .i64 x.lo,.int .i64 x.hi,.slice A ks.len c] 39)=W0:=⟨_,rfl⟩;have HB0:=AA (show Blk W0 w.heap.size 39 #[.int .i64 x.op,.string x.name,.int .i64 x.cmp,.int .i64 x.val,.int .i64 x.lo,.int .i64 x.hi,.slice A ks.len c] by rw[←hW0];exact Blk.new _ _ _);have HF0:=AA (show Fr Nob w W0 by rw[←hW0];exact(Fr.refl _ _).alloc _);rw [hW0];clear hW0;go_wp2_with fail;go_loopw [4,5,6] (fun mv cv iv wr=>∃(k:Nat) (m:Int) (cu:Bool),k≤ks.len∧iv=.int .i64 k∧mv=.int .i64 m∧cv=.bool cu∧Hid (HzI ks.tr (ks.get k).tr m cu)∧Hid (Fr Nob W0 wr)) (fun _ _ iv _=>ks.len-(intOf iv).toNat);case atStart=>exact⟨0,0,false,Nat.zero_le _,rfl,rfl,rfl,AA ⟨fun _=>by rw[Fo.get_zero];have:=maxF_pos ks.tr;omega,Int.le_refl _,(show I64 0 from⟨by decide,by decide⟩),by rw[Fo.get_zero]⟩,AA (Fr.refl _ _)⟩
  case round=>
   obtain⟨k,m,cu,hk,rfl,rfl,rfl,hi,hfr⟩:=hrel;have HBr:=AA (HB0.out.fr hfr.out (fun e=>e));have xc:=HBr.out.cell;have xl:=HBr.out.lt;by_cases hlt:k<ks.len
   ·have hI:(k:Int)<ks.len:=by omega
    have hI3:0≤(k:Int):=by omega
    obtain⟨b,off,y,B,d,js,rs,K⟩:=(HS.out.fr (HF0.out.call hfr.out (fun _ h _=>h))).kid hlt;obtain ⟨d0,d1,d2,d3,d4,d5,d6⟩:=K.nd;obtain rfl:=K.slice;have hlt2:=K.lt;have hg:=K.get;have hg2:=Fo.get_succ hg;have hjs:=K.size;have hq:=G3 HK.out hg;have hi':=hi.out;rw [hg] at hi';have HI:=AA (show HzI ks.tr (.cons y js.tr (ks.get (k+1)).tr) m cu by rw[hg2];exact hi');have HC:=AA (fun W (hf:Fr Nob wr W)=>IH.out js.tr.size (by have:=HSZ.out;omega) W y B d js N (Nat.le_refl _) (by have:=HSZ.out;omega) (K.sl.fr hf) hq.1 hq.2);obtain ⟨⟨y0,y1,y2,y3,y4,y5⟩,hy⟩:∃z,z=y:=⟨y,rfl⟩;subst hy;dsimp only at d0 d1 d2 d3 d4 d5;clear K hg hg2 hjs hq hi' hi
    go_upto_region 7 with(first
     |((go_at_call 68);(with_reducible refine(HC.out _ (Fr.refl _ _)).mono ?_);rintro e w1 ⟨h,cc,rfl,hc,h64,h0,hE,hf1⟩;have HN:=AA (HI.out.step hc h0 h64 hE);have HF1:=AA (hfr.out.call hf1 (fun _ h _=>h));clear hc h64 h0 hE hf1)
     |fail);by_cases hmh:m<h
    ·have HN2:=AA (show HzI ks.tr (ks.get (k+1)).tr h (cu||cc) by have:=HN.out;rwa[show max m h=h by omega] at this);have hmb:decide (m<h)=true:=by simpa using hmh
     clear HN xc xl;cases cu
     all_goals
      go_wp2_with fail;go_roundw
      case rel=>
       first
        |exact⟨k+1,_,_,by omega,by go_num,rfl,rfl,AA (by simpa using HN2.out),HF1⟩
      case measure=>simp[intOf];omega
    ·have HN2:=AA (show HzI ks.tr (ks.get (k+1)).tr m (cu||cc) by have:=HN.out;rwa[show max m h=m by omega] at this);have hmb:decide (m<h)=false:=by simpa using hmh
     clear HN xc xl hmh;cases cu
     all_goals
      go_wp2_with fail;go_roundw
      case rel=>
       first
        |exact⟨k+1,_,_,by omega,by go_num,rfl,rfl,AA (by simpa using HN2.out),HF1⟩
      case measure=>simp[intOf];omega
   ·have hke:k=ks.len:=by omega
    have hi':=hi.out;rw [hke,get_len] at hi';have HM:=AA (show cu=false→m=D2 ks.tr from fun e=>by have:=hi'.1 e;have h0:=hi'.2.1;have e0:D2 (Fo.nil).tr=0:=rfl;rw[e0] at this;omega);have HM0:=AA (show 0≤m∧I64 m from⟨hi'.2.1,hi'.2.2.1⟩);have HFL:=AA (show D9 ks.tr (0,false)=(m,cu) from hi'.2.2.2.symm);have hlt3:¬(k:Int)<ks.len:=by omega
    have HADD:=AA (fun W=>ref_Add W m x.hi HM0.out.2 HX.out.2.1);clear hi hi' hke;by_cases h9:9≤x.op
    ·have HFR:=AA (show far1 (x,ks.tr)=D2 ks.tr+x.hi by unfold far1;rw[if_pos h9]);have HX9:=AA (HX.out.1 h9)
     have HSE:=AA (show I64 (BS m x.hi).1∧0≤(BS m x.hi).1∧((BS m x.hi).2=false→(BS m x.hi).1=m+x.hi) by
      have h0:=HM0.out.1;have h1:=HX9.out;refine ⟨sadd_I64 _ _,?_,?_⟩
      ·unfold BS;split;·decide
       ·split;·exfalso;omega
        ·show 0≤m+x.hi;omega
      ·unfold BS;split;·intro e;cases e
       ·split;·intro e;cases e
        ·intro _;rfl);have HE1:=AA (show C2 (x,ks.tr)=((BS m x.hi).1,cu||(BS m x.hi).2) by unfold C2;dsimp only;rw[if_pos h9,if_pos h9,HFL.out]);generalize (BS m x.hi).1=sv at*;generalize (BS m x.hi).2=sc at*;cases cu
     all_goals
      go_wp2_with (first
       |((go_at_call 114);(with_reducible refine(HADD.out _).mono ?_);rintro e w2 ⟨rfl,rfl⟩)
       |fail);go_ret2;refine ⟨_,_,rfl,?_,HSE.out.1,HSE.out.2.1,by simpa using HE1.out,HF0.out.call hfr.out (fun _ h _=>h)⟩;intro e
      first
       |(cases e;done)
       |(rw [HSE.out.2.2 e,HFR.out,HM.out (by first|rfl|trivial)])
    ·have HFR:=AA (show far1 (x,ks.tr)=D2 ks.tr by unfold far1;rw[if_neg h9];exact Int.add_zero _);have HE1:=AA (show C2 (x,ks.tr)=(m,cu) by unfold C2;dsimp only;rw[if_neg h9,if_neg h9,HFL.out]);have h9b:decide (9≤x.op)=false:=by simpa using h9
     clear h9 HADD;go_wp2_with fail;go_ret2;exact ⟨_,_,rfl,fun e=>by rw[HFR.out];exact HM.out e,HM0.out.2,HM0.out.1,HE1.out,HF0.out.call hfr.out (fun _ h _=>h)⟩
theorem r11_Of (w:World)(x:Nd)(A:Option Addr)(c:Nat)(ks:Fo)(hs:Au w.heap.size w A c ks)(hsz:ks.tr.size≤100000)(hx:NdOk x)(hk:ks.tr.ok)(hnm:∀y∈(Tr.cons x ks.tr .nil).nodes 1,y.1.name.size≤9223372036854775807):
 Calls Tryz.prog 39 #[AF x A ks.len c] w (HzOfE x ks.tr w):=by
 have HCK:=AA (fun W (hf:Fr Nob w W)=>ref_Check w.heap.size W x A c ks hsz (hs.fr hf) hnm);by_cases h0:checkT x ks.tr=0
 ·have hg:firstW ((Tr.cons x ks.tr .nil).nodes 1)=0:=by
   unfold checkT at h0;split at h0;·omega
   ·split at h0;·omega
    ·exact h0
  obtain⟨g1,g2⟩:=(Bi x ks.tr).1 hg;have hq:=F9 (t:=.cons x ks.tr .nil) ⟨g1,g2,trivial⟩ ⟨hx,hk,trivial⟩;have HFA:=AA (fun W (hf:Fr Nob w W)=>r11_Far ks.tr.size W x A c ks w.heap.size (Nat.le_refl _) hsz (hs.fr hf) hq.1 hq.2.1);have HG:=AA hg;rw [h0] at HCK;have HER:=AA (show errH x ks.tr=if(C2 (x,ks.tr)).2 then 25 else 0 by unfold errH;rw[if_neg (by simpa using h0)]);clear hs hsz hx hk hnm h0 hg g1 g2 hq;unfold AF at*;go_enter Tryz.func39,Tryz.ntmps39;have HB0:=AA (show Blk (w.alloc (.cells #[.int .i64 x.op,.string x.name,.int .i64 x.cmp,.int .i64 x.val,.int .i64 x.lo,.int .i64 x.hi,.slice A ks.len c] 39)) w.heap.size 39 _ from Blk.new _ _ _)
  go_upto_region 5 with(first
   |((go_at_call 67);(with_reducible refine(HCK.out _ ((Fr.refl _ _).alloc _)).mono ?_);rintro e w1 ⟨rfl,hf1⟩;have HF1:=AA (((Fr.refl Nob w).alloc _).call hf1 (fun _ h _=>h));have HX1:=AA (HB0.out.fr hf1 (fun e=>e));have xc:=HX1.out.cell;have xl:=HX1.out.lt;clear hf1)
   |((go_at_call 68);(with_reducible refine(HFA.out _ HF1.out).mono ?_);rintro e w2 ⟨h,cc,rfl,hc,h64,h0,hE,hf2⟩;have HE:=AA hE;have HC:=AA hc;have H64:=AA h64;have H0:=AA h0;have HF2:=AA (HF1.out.call hf2 (fun _ h _=>h));clear hc h64 h0 hE hf2)
   |fail);cases cc
  ·have he:=HER.out;rw [HE.out] at he;have HE0:=AA (show errH x ks.tr=0 from he);clear he;go_wp2_with fail;go_ret2;exact ⟨_,by rw[HE0.out];rfl,fun _=>⟨HG.out,HC.out (by first|rfl|trivial),H64.out,H0.out⟩,fun e=>absurd HE0.out e,HF2.out⟩
  ·have he:=HER.out;rw [HE.out] at he;have HE0:=AA (show errH x ks.tr=25 from he);clear he;go_wp2_with fail;go_ret2;exact ⟨_,by rw[HE0.out];rfl,fun e=>by rw[HE0.out] at e;exact absurd e (by decide),fun _=>rfl,HF2.out⟩
 ·have h1:(checkT x ks.tr !=0)=true:=by simpa using h0
  have HN:=AA h0;have HER:=AA (show errH x ks.tr=checkT x ks.tr by unfold errH;rw[if_pos h0]);clear hs hsz hx hk hnm h0;generalize checkT x ks.tr=er at*;unfold AF at*;go_enter Tryz.func39,Tryz.ntmps39
  go_wp2_with (first
   |((go_at_call 67);(with_reducible refine(HCK.out _ ((Fr.refl _ _).alloc _)).mono ?_);rintro e w1 ⟨rfl,hf1⟩;have HF1:=AA (((Fr.refl Nob w).alloc _).call hf1 (fun _ h _=>h));clear hf1)
   |fail);go_ret2;exact ⟨_,by rw[HER.out];rfl,fun e=>absurd (HER.out.symm.trans e) HN.out,fun _=>rfl,HF1.out⟩
theorem FZ {i j:Nat}(h:i≤j):BH i (j+1)=BH i j++[j]:=by
 unfold BH;rw [List.range_succ,List.filter_append];congr 1;simp [h]
theorem Fa (i:Nat):BH i i=[]:=by
 unfold BH;rw [List.filter_eq_nil_iff];intro k hk;rw [List.mem_range] at hk;simp;omega
def ahB (x:List Bool)(i j:Nat):Bool:=(BH i j).any fun k=>bAt x k
def shB (x:List Bool)(i j:Nat):Bool:=(BH i j).all fun k=>bAt x k
theorem FF (x:List Bool)(i:Nat):ahB x i i=false:=by unfold ahB;rw[Fa];rfl
theorem Ej (x:List Bool)(i:Nat):shB x i i=true:=by unfold shB;rw[Fa];rfl
theorem FH (x:List Bool){i j:Nat}(h:i≤j):ahB x i (j+1)=(ahB x i j||bAt x j):=by unfold ahB;rw[FZ h,List.any_append];simp
theorem El (x:List Bool){i j:Nat}(h:i≤j):shB x i (j+1)=(shB x i j&&bAt x j):=by unfold shB;rw[FZ h,List.all_append];simp
def hitB (W:List Pt)(n:Nd)(i:Nat)(x y:List Bool)(j:Nat):Bool:=
 if n.op=9 then inR W n.lo n.hi i j&&bAt x j
 else if n.op=10 then inR W n.lo n.hi i j&&!(bAt x j)
 else if n.op=11 then inR W n.lo n.hi i j&&bAt y j&&shB x i j
 else inR W n.lo n.hi i j&&!(bAt y j)&&!(ahB x i j)
theorem knT_scan (W:List Pt)(n:Nd)(i:Nat)(x y:List Bool)(h9:9≤n.op)(h12:n.op≤12):
 knT W n i x y=if(BH i W.length).any (hitB W n i x y) then decide (n.op=9∨n.op=11) else decide (n.op=10∨n.op=12):=by
 unfold knT;rw [if_neg (by omega),if_neg (by omega),if_neg (by omega),if_neg (by omega),if_neg (by omega),if_neg (by omega),if_neg (by omega),if_neg (by omega)];by_cases e9:n.op=9
 ·rw[if_pos e9];have e:hitB W n i x y=fun j=>inR W n.lo n.hi i j&&(bAt x j==true):=by funext j;unfold hitB;rw[if_pos e9];simp
  rw[e];unfold someB;rw [e9];split<;>simp_all
 ·rw[if_neg e9];by_cases e10:n.op=10
  ·rw[if_pos e10];have e:hitB W n i x y=fun j=>inR W n.lo n.hi i j&&(bAt x j==false):=by funext j;unfold hitB;rw[if_neg e9,if_pos e10];simp
   rw[e];unfold someB;rw [e10];split<;>simp_all
  ·rw[if_neg e10];by_cases e11:n.op=11
   ·rw[if_pos e11];have e:hitB W n i x y=fun j=>inR W n.lo n.hi i j&&bAt y j&&(BH i j).all fun k=>bAt x k:=by funext j;unfold hitB shB;rw[if_neg e9,if_neg e10,if_pos e11]
    rw[e];unfold untB;rw [e11];split<;>simp_all
   ·rw[if_neg e11];have e12:n.op=12:=by omega
    have e:∀j,hitB W n i x y j=!(!(inR W n.lo n.hi i j)||bAt y j||(BH i j).any fun k=>bAt x k):=fun j=>by
     unfold hitB ahB;rw [if_neg e9,if_neg e10,if_neg e11];cases inR W n.lo n.hi i j<;>cases bAt y j<;>simp
    have e2:relB W n.lo n.hi i x y=!((BH i W.length).any (hitB W n i x y)):=by
     unfold relB;rw [show hitB W n i x y=fun j=>!(!(inR W n.lo n.hi i j)||bAt y j||(BH i j).any fun k=>bAt x k) from funext e,List.not_any_eq_all_not];simp
    rw[e2,e12];cases (BH i W.length).any (hitB W n i x y)<;>rfl
def CB (W:List Pt)(n:Nd)(i:Nat)(x y:List Bool)(j:Nat):Prop:=(BH i j).any (hitB W n i x y)=false
theorem CB.zero (W:List Pt)(n:Nd)(i:Nat)(x y:List Bool):CB W n i x y i:=by unfold CB;rw[Fa];rfl
theorem CB.succ {W:List Pt}{n:Nd}{i j:Nat}{x y:List Bool}(h:CB W n i x y j)(hij:i≤j)(hj:hitB W n i x y j=false):CB W n i x y (j+1):=by
 unfold CB at*;rw [FZ hij,List.any_append,h];simp [hj]
theorem CB.end_ {W:List Pt}{n:Nd}{i:Nat}{x y:List Bool}(h:CB W n i x y W.length)(h9:9≤n.op)(h12:n.op≤12):knT W n i x y=decide (n.op=10∨n.op=12):=by
 rw[knT_scan W n i x y h9 h12,h];rfl
theorem F8 {W:List Pt}{n:Nd}{i j:Nat}{x y:List Bool}(hij:i≤j)(hj:j<W.length)(hh:hitB W n i x y j=true)(h9:9≤n.op)(h12:n.op≤12):knT W n i x y=decide (n.op=9∨n.op=11):=by
 rw[knT_scan W n i x y h9 h12,if_pos (List.any_eq_true.2 ⟨j,Ai.2 ⟨hij,hj⟩,hh⟩)]
theorem r13_some (w:World)(A:Option Addr)(c:Nat)(ps:List Pn)(h:WSl w A c ps)(hW:Ay (pts ps))(i:Nat)(hi':i<ps.length)(n:Nd)(NA:Option Addr)(nn nc:Nat)
 (X:Option Addr)(cx:Nat)(xs:List Bool)(hx:Sl w 1 X xs.length cx (xs.map ivB))(ys:List Bool)(Y:Value)
 (hop:n.op=9∨n.op=10)(hxl:xs.length=ps.length)(hfew:ps.length≤1000):
 Calls Tryz.prog 128 #[AF n NA nn nc,.slice A ps.length c,.int .i64 i,.slice X xs.length cx,Y] w fun e w'=>e=.returned (.bool (knT (pts ps) n i xs ys))∧Fr Nob w w':=by
 obtain⟨r,hr⟩:∃r,r=knT (pts ps) n i xs ys:=⟨_,rfl⟩;rw [←hr];have hI:(i:Int)<ps.length:=by omega
 have hI3:0≤(i:Int):=by omega
 have HL:=AA h;have HX:=AA hx;have HRI:=AA hW;have HXL:=AA hxl;have hy:=trivial;obtain ⟨op,nm,cm,va,lo,hi⟩:=n;dsimp only at hop;unfold AF at*;dsimp only at*;rw [hxl];clear hxl;rcases hop with rfl|rfl
 ·skip;have HR9:=AA (show ∀j,i≤j→j< (pts ps).length→hitB (pts ps) ⟨9,nm,cm,va,lo,hi⟩ i xs ys j=true→r=decide ((9:Int)=9∨(9:Int)=11) from fun j h1 h2 h3=>by rw[hr];exact F8 h1 h2 h3 (show (9:Int)≤9 by decide) (show (9:Int)≤12 by decide));have HRE:=AA (show CB (pts ps) ⟨9,nm,cm,va,lo,hi⟩ i xs ys (pts ps).length→r=decide ((9:Int)=10∨(9:Int)=12) from fun h1=>by rw[hr];exact h1.end_ (show (9:Int)≤9 by decide) (show (9:Int)≤12 by decide));rw [AC] at HR9 HRE;have HHIT:=AA (show ∀j,hitB (pts ps) ⟨9,nm,cm,va,lo,hi⟩ i xs ys j=(inR (pts ps) lo hi i j&&bAt xs j) from fun j=>by simp[hitB]);have HNZ:=AA (CB.zero (pts ps) ⟨9,nm,cm,va,lo,hi⟩ i xs ys);clear hr h hx hy hW;go_enter Tryz.func128,Tryz.ntmps128;go_upto_region 1 with fail;obtain ⟨W0,hW0⟩:∃W0,w.alloc (.cells #[.int .i64 9,.string nm,.int .i64 cm,.int .i64 va,.int .i64 lo,.int .i64 hi,.slice NA nn nc] 39)=W0:=⟨_,rfl⟩;have HB0:=AA (show Blk W0 w.heap.size 39 #[.int .i64 9,.string nm,.int .i64 cm,.int .i64 va,.int .i64 lo,.int .i64 hi,.slice NA nn nc] by rw[←hW0];exact Blk.new _ _ _);have HF0:=AA (show Fr Nob w W0 by rw[←hW0];exact(Fr.refl _ _).alloc _);rw [hW0];clear hW0;have bc:=HB0.out.cell;have bl:=HB0.out.lt;go_wp2_with fail;clear bc bl;go_loopw [11,12,13] (fun av sv jv wr=>∃j:Nat,i≤j∧j≤ps.length∧jv=.int .i64 j∧av=.bool (ahB xs i j)∧sv=.bool (shB xs i j)∧Hid (CB (pts ps) ⟨9,nm,cm,va,lo,hi⟩ i xs ys j)∧Hid (Fr Nob W0 wr)) (fun _ _ jv _=>ps.length-(intOf jv).toNat);case atStart=>exact⟨i,Nat.le_refl _,Nat.le_of_lt hi',rfl,by rw[FF],by rw[Ej],HNZ,AA (Fr.refl _ _)⟩
  case round=>
   obtain⟨j,hij,hj,rfl,rfl,rfl,HNH,hfr⟩:=hrel;have HBr:=AA (HB0.out.fr hfr.out (fun e=>e));have HFw:=AA (HF0.out.call hfr.out (fun _ h _=>h));have bc:=HBr.out.cell;have bl:=HBr.out.lt;by_cases hlt:j<ps.length
   ·have hJ:(j:Int)<ps.length:=by omega
    have hJ3:0≤(j:Int):=by omega
    have HIN:=AA (fun W (hf:Fr Nob wr W)=>(show Calls Tryz.prog 156 #[.agg #[.int .i64 9,.string nm,.int .i64 cm,.int .i64 va,.int .i64 lo,.int .i64 hi,.slice NA nn nc],.slice A ps.length c,.int .i64 i,.int .i64 j] W fun e w'=>e=.returned (.bool (inR (pts ps) lo hi i j))∧Fr Nob W w' from rf_In W ⟨9,nm,cm,va,lo,hi⟩ NA nn nc A c ps ((HL.out.pure HFw.out).pure hf) HRI.out i j hij hlt));obtain ⟨bx,ofx,hXe,hbx,x0⟩:=Ak (HX.out.pure HFw.out) (k:=j) (by rw[HXL.out];exact hlt);subst hXe;have HHJ:=AA (HHIT.out j);have HRJ:=AA (HR9.out j hij hlt);have HNS:=AA (fun hf=>HNH.out.succ hij hf);have HA1:=AA (FH xs hij);have HS1:=AA (El xs hij);clear HR9 HRE HHIT HNZ;generalize inR (pts ps) lo hi i j=ri at*;generalize bAt xs j=xa at*;generalize bAt ys j=ya at*;generalize ahB xs i j=ah at*;generalize shB xs i j=sh at*;generalize hitB (pts ps) ⟨9,nm,cm,va,lo,hi⟩ i xs ys j=hb at*;cases ri<;>cases xa<;>cases ah<;>cases sh
    all_goals
     have hhb:=HHJ.out;simp at hhb;subst hhb;have ha1:=HA1.out;have hs1:=HS1.out;simp at ha1 hs1;replace HA1:=AA ha1;replace HS1:=AA hs1;clear ha1 hs1 HHJ
     go_wp2_with (first
      |((go_at_call 156);(with_reducible refine(HIN.out _ (Fr.refl _ _)).mono ?_);rintro e w1 ⟨rfl,hf1⟩;have HF1:=AA (hfr.out.call hf1 (fun _ h _=>h));have bc1:=(HBr.out.fr hf1 (fun e=>e)).cell;have bl1:=(HBr.out.fr hf1 (fun e=>e)).lt;have x1:=hf1.cell x0 (fun e=>e);have hbx1:=Nat.lt_of_lt_of_le hbx hf1.size;clear hf1)
      |fail)
     first
      |(go_roundw;case rel=>exact⟨j+1,by omega,by omega,by go_num,by rw[HA1.out],by rw[HS1.out],AA (HNS.out (by simp)),HF1⟩
        case measure=>simp[intOf];omega)
      |(go_ret;rw [HRJ.out (by simp)];refine ⟨by simp,HF0.out.call HF1.out (fun _ h _=>h)⟩)
   ·have hje:j=ps.length:=by omega
    subst hje;have HR:=AA (HRE.out HNH.out);have hlt3:¬(ps.length:Int)<ps.length:=by omega
    clear HR9 HRE;go_wp2_with fail;go_ret;rw [HR.out];exact ⟨by simp,HFw.out⟩
 ·skip;have HR9:=AA (show ∀j,i≤j→j< (pts ps).length→hitB (pts ps) ⟨10,nm,cm,va,lo,hi⟩ i xs ys j=true→r=decide ((10:Int)=9∨(10:Int)=11) from fun j h1 h2 h3=>by rw[hr];exact F8 h1 h2 h3 (show (9:Int)≤10 by decide) (show (10:Int)≤12 by decide));have HRE:=AA (show CB (pts ps) ⟨10,nm,cm,va,lo,hi⟩ i xs ys (pts ps).length→r=decide ((10:Int)=10∨(10:Int)=12) from fun h1=>by rw[hr];exact h1.end_ (show (9:Int)≤10 by decide) (show (10:Int)≤12 by decide));rw [AC] at HR9 HRE;have HHIT:=AA (show ∀j,hitB (pts ps) ⟨10,nm,cm,va,lo,hi⟩ i xs ys j=(inR (pts ps) lo hi i j&&!(bAt xs j)) from fun j=>by simp[hitB]);have HNZ:=AA (CB.zero (pts ps) ⟨10,nm,cm,va,lo,hi⟩ i xs ys);clear hr h hx hy hW;go_enter Tryz.func128,Tryz.ntmps128;go_upto_region 1 with fail;obtain ⟨W0,hW0⟩:∃W0,w.alloc (.cells #[.int .i64 10,.string nm,.int .i64 cm,.int .i64 va,.int .i64 lo,.int .i64 hi,.slice NA nn nc] 39)=W0:=⟨_,rfl⟩;have HB0:=AA (show Blk W0 w.heap.size 39 #[.int .i64 10,.string nm,.int .i64 cm,.int .i64 va,.int .i64 lo,.int .i64 hi,.slice NA nn nc] by rw[←hW0];exact Blk.new _ _ _);have HF0:=AA (show Fr Nob w W0 by rw[←hW0];exact(Fr.refl _ _).alloc _);rw [hW0];clear hW0;have bc:=HB0.out.cell;have bl:=HB0.out.lt;go_wp2_with fail;clear bc bl;go_loopw [11,12,13] (fun av sv jv wr=>∃j:Nat,i≤j∧j≤ps.length∧jv=.int .i64 j∧av=.bool (ahB xs i j)∧sv=.bool (shB xs i j)∧Hid (CB (pts ps) ⟨10,nm,cm,va,lo,hi⟩ i xs ys j)∧Hid (Fr Nob W0 wr)) (fun _ _ jv _=>ps.length-(intOf jv).toNat);case atStart=>exact⟨i,Nat.le_refl _,Nat.le_of_lt hi',rfl,by rw[FF],by rw[Ej],HNZ,AA (Fr.refl _ _)⟩
  case round=>
   obtain⟨j,hij,hj,rfl,rfl,rfl,HNH,hfr⟩:=hrel;have HBr:=AA (HB0.out.fr hfr.out (fun e=>e));have HFw:=AA (HF0.out.call hfr.out (fun _ h _=>h));have bc:=HBr.out.cell;have bl:=HBr.out.lt;by_cases hlt:j<ps.length
   ·have hJ:(j:Int)<ps.length:=by omega
    have hJ3:0≤(j:Int):=by omega
    have HIN:=AA (fun W (hf:Fr Nob wr W)=>(show Calls Tryz.prog 156 #[.agg #[.int .i64 10,.string nm,.int .i64 cm,.int .i64 va,.int .i64 lo,.int .i64 hi,.slice NA nn nc],.slice A ps.length c,.int .i64 i,.int .i64 j] W fun e w'=>e=.returned (.bool (inR (pts ps) lo hi i j))∧Fr Nob W w' from rf_In W ⟨10,nm,cm,va,lo,hi⟩ NA nn nc A c ps ((HL.out.pure HFw.out).pure hf) HRI.out i j hij hlt));obtain ⟨bx,ofx,hXe,hbx,x0⟩:=Ak (HX.out.pure HFw.out) (k:=j) (by rw[HXL.out];exact hlt);subst hXe;have HHJ:=AA (HHIT.out j);have HRJ:=AA (HR9.out j hij hlt);have HNS:=AA (fun hf=>HNH.out.succ hij hf);have HA1:=AA (FH xs hij);have HS1:=AA (El xs hij);clear HR9 HRE HHIT HNZ;generalize inR (pts ps) lo hi i j=ri at*;generalize bAt xs j=xa at*;generalize bAt ys j=ya at*;generalize ahB xs i j=ah at*;generalize shB xs i j=sh at*;generalize hitB (pts ps) ⟨10,nm,cm,va,lo,hi⟩ i xs ys j=hb at*;cases ri<;>cases xa<;>cases ah<;>cases sh
    all_goals
     have hhb:=HHJ.out;simp at hhb;subst hhb;have ha1:=HA1.out;have hs1:=HS1.out;simp at ha1 hs1;replace HA1:=AA ha1;replace HS1:=AA hs1;clear ha1 hs1 HHJ
     go_wp2_with (first
      |((go_at_call 156);(with_reducible refine(HIN.out _ (Fr.refl _ _)).mono ?_);rintro e w1 ⟨rfl,hf1⟩;have HF1:=AA (hfr.out.call hf1 (fun _ h _=>h));have bc1:=(HBr.out.fr hf1 (fun e=>e)).cell;have bl1:=(HBr.out.fr hf1 (fun e=>e)).lt;have x1:=hf1.cell x0 (fun e=>e);have hbx1:=Nat.lt_of_lt_of_le hbx hf1.size;clear hf1)
      |fail)
     first
      |(go_roundw;case rel=>exact⟨j+1,by omega,by omega,by go_num,by rw[HA1.out],by rw[HS1.out],AA (HNS.out (by simp)),HF1⟩
        case measure=>simp[intOf];omega)
      |(go_ret;rw [HRJ.out (by simp)];refine ⟨by simp,HF0.out.call HF1.out (fun _ h _=>h)⟩)
   ·have hje:j=ps.length:=by omega
    subst hje;have HR:=AA (HRE.out HNH.out);have hlt3:¬(ps.length:Int)<ps.length:=by omega
    clear HR9 HRE;go_wp2_with fail;go_ret;rw [HR.out];exact ⟨by simp,HFw.out⟩
end Go.Proofs.YtoegdmpmagbaiaaGreatDoor
