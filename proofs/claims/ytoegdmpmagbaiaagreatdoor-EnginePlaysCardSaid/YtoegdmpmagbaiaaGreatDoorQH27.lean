/- truth.Row: whether a formula holds at each point of a word. -/
import Derived.Test.YtoegdmpmagbaiaaGreatDoorKU
import Derived.Test.YtoegdmpmagbaiaaGreatDoorQH18
import Derived.Test.YtoegdmpmagbaiaaGreatDoorKQ
import Derived.Deep.CutBlock
set_option maxHeartbeats 16000000
set_option maxRecDepth 100000
namespace Go.Proofs.YtoegdmpmagbaiaaGreatDoor
open Go.RowKit Go.Lib
def BMade (w w':World)(e:Ending)(l:List Bool):Prop:=∃A c,e=.returned (.slice A l.length c)∧Sl w' 1 A l.length c (l.map ivB)∧Fr Nob w w'
theorem FP:∀{f:Fo},f.tr.good→∀y∈f.pre,wrongN y.x y.ks.tr.len=0
 |.nil,_,y,hy=>by simp[Fo.pre] at hy
 |.cons x A c ks r,⟨g1,g2,g3⟩,y,hy=>by
  rw[Fo.pre,List.mem_cons,List.mem_append] at hy;rcases hy with rfl|hy|hy;·exact g1
  ·exact FP g2 y hy
  ·exact FP g3 y hy
theorem rise_ofT {ps:List Pn}(h:AU (pts ps)=true)(h63:∀p∈ps,p.t≤AO):Ay (pts ps):=by
 have ht:∀i,(hi:i< (pts ps).length)→tAt (pts ps) i=(pts ps)[i].1:=fun i hi=>by
  unfold tAt;rw[List.getD_eq_getElem?_getD,List.getElem?_eq_getElem hi];rfl
 refine⟨fun i j hij hj=>?_,fun i hi=>?_,fun i hi=>?_⟩;·rw[ht i (by omega),ht j hj];exact Cm h hij hj
 ·have:=DI h hi;rw [ht i hi];unfold Df at this;simp only[Bool.and_eq_true,Bool.not_eq_true',decide_eq_false_iff_not] at this;omega
 ·have hi':i<ps.length:=by rwa[AC] at hi
  rw[Ar hi'];exact h63 _ (List.getElem_mem _)
def rowBA (x:Nd)(t:Tr)(W:List Pt):List Bool:=if firstW ((Tr.cons x t .nil).nodes 1)=0∧AU W=true then rowTS W (x,t) else[]
def RwRB (N0:Nat)(W:List Pt)(W1:World)(S0:List FN)(n i:Nat)(mv:Value)(wr:World):Prop:=∃AM cM M,mv=.slice AM (List.length M) cM∧Ff ivB 4 74 N0 wr ((stS (n-i) S0).map fun y=>rowTS W y.s) AM cM M∧Fr Nob W1 wr
def G9 (Wa:World)(g:Nat)(row:List Bool)(k:Nat)(wq:World):Prop:=∃cur:Array Value,Blk wq g 4 cur∧cur.size=row.length∧(∀j,j<k→cur[j]?=(row.map ivB)[j]?)∧Fr Nob Wa wq
theorem G9.next {Wa wq w1:World}{g k:Nat}{row:List Bool}{v:Bool}(h:G9 Wa g row k wq)(hf:Fr Nob wq w1)(hv:(row.map ivB)[k]?=some (.bool v))(hg:Wa.heap.size≤g):G9 Wa g row (k+1) (w1.setCell ⟨g,k,none⟩ (.bool v)):=by
 obtain⟨cur,hb,hs,hc,hfr⟩:=h;refine ⟨_,(hb.fr hf (fun e=>e)).set k _,by simpa using hs,fun j hj=>?_,(hfr.call hf (fun _ h _=>h)).setCell (fun e=>by simp only at e;omega) _⟩;rw [Array.getElem?_setIfInBounds];by_cases hjk:k=j
 ·subst hjk;have hk:k<row.length:=by have:=(List.getElem?_eq_some_iff.1 hv).1;simpa using this
  rw[if_pos rfl,if_pos (by omega),hv]
 ·rw[if_neg hjk];exact hc j (by omega)
theorem G9.done {Wa wq:World}{g k:Nat}{row:List Bool}(h:G9 Wa g row k wq)(hk:k=row.length):Blk wq g 4 (row.map ivB).toArray∧Fr Nob Wa wq:=by
 obtain⟨cur,hb,hs,hc,hfr⟩:=h
 have e:cur=(row.map ivB).toArray:=by
  apply Array.ext_getElem?;intro j;by_cases hj:j<k;·rw[hc j hj];simp
  ·rw[Array.getElem?_eq_none (by omega),Array.getElem?_eq_none (by simp;omega)]
 exact⟨e▸hb,hfr⟩
theorem rv_slB {w:World}{g:Nat}{x:List Bool}(h:Blk w g 4 (x.map ivB).toArray)(hm:x.length≤1000):Sl w 1 (some ⟨g,0,none⟩) x.length x.length (x.map ivB):=by
 have:=Sl.new1 h 1 x.length (by simp) (by unfold maxLen;omega);simpa using this
theorem el_rb:BP Tryz.prog 111 74 1 24:=BP.mk (z:=.slice none 0 0) Tryz.underlying111 (by kernel_rfl) rfl (by decide)
theorem el_b1:BP Tryz.prog 74 4 1 1:=BP.mk (z:=.bool false) Tryz.underlying74 (by kernel_rfl) rfl (by decide)
theorem Ev {w:World}{base e:Nat}{A:Option Addr}{n c:Nat}{S T:List (RV Bool)}{y:RV Bool}(h:w.ownsRow base e 1 (.slice A n c) n ((S++y::T).flatMap rvc))(hA:∃a,A=some a):∃g,A=some ⟨g,0,none⟩∧base≤g∧g<w.heap.size∧w.cell? ⟨g,S.length,none⟩=some (.slice (some ⟨y.g,0,none⟩) y.x.length y.x.length)∧n≤c:=by
 obtain⟨g,cur,post,rfl,hb,hblk,hc,hn1,hmx,hs⟩:=Cb h hA;refine ⟨g,rfl,hb,hblk.lt,?_,hn1⟩;rw [hblk.cell,←Array.getElem?_toList,hc,List.flatMap_append,List.append_assoc,List.getElem?_append_right (by rw[Ad rvc 1 EI];omega),Ad rvc 1 EI,Nat.mul_one,Nat.sub_self,List.flatMap_cons];rfl
theorem FL (W:List Pt)(t:Tr):∀r∈CJ W t,r.length=W.length:=by
 induction t with
 |nil=>intro r hr;cases hr
 |cons n k r _ ih=>
  intro x hx;rw [CJ,List.mem_cons] at hx;rcases hx with rfl|hx;·exact GW _ _ _ _
  ·exact ih x hx
def SwIB (wr:World)(len kn:Nat)(rows:List (List Bool))(gn:Nat)(cs:Array Value)(xv yv:Value)(wx:World):Prop:=∃(X:Option Addr) (cX:Nat) (xs:List Bool) (Y:Option Addr) (cY:Nat) (ys:List Bool),xv=.slice X xs.length cX∧yv=.slice Y ys.length cY∧Sl wx 1 X xs.length cX (xs.map ivB)∧Sl wx 1 Y ys.length cY (ys.map ivB)∧rows.getD 0 []=xs∧rows.getD 1 []=ys∧(0<kn→xs.length=len)∧(1<kn→ys.length=len)∧Fr Nob wr wx∧Blk wx gn 28 cs
theorem tr_Row (w:World)(x:Nd)(B:Option Addr)(d:Nat)(ks:Fo)(hs:Au w.heap.size w B d ks)(hsz:ks.tr.size≤16000)(hv:BR w)(hnm:∀y∈(Tr.cons x ks.tr .nil).nodes 1,y.1.name.size≤9223372036854775807)(A:Option Addr)(c:Nat)(ps:List Pn)(h:WSl w A c ps)(hnw:NmW ps)(h63:∀p∈ps,p.t≤AO)(hfew:ps.length≤1000):
 Calls Tryz.prog 27 #[AF x B ks.len d,.slice A ps.length c] w fun e w'=>BMade w w' e (rowBA x ks.tr (pts ps)):=by
 have HSD:=AA (fun W (hf:Fr Nob w W)=>FO W x B d ks ((hs.fr hf).mono hf.size) (by omega) (hv.fr hf) hnm);have HRT:=AA (fun W (hf:Fr Nob w W)=>Eg W A c ps (h.pure hf) hnw hfew);obtain ⟨row,hrow⟩:∃r,r=rowBA x ks.tr (pts ps):=⟨_,rfl⟩;rw [←hrow];have HROW:=AA hrow;clear hrow;by_cases hg:firstW ((Tr.cons x ks.tr .nil).nodes 1)=0
 ·by_cases hr:AU (pts ps)=true
  ·have HR:=AA (show row=rowTS (pts ps) (x,ks.tr) by rw[HROW.out];unfold rowBA;rw[if_pos ⟨hg,hr⟩]);have HW:=AA (rise_ofT hr h63);obtain ⟨hg1,hg2⟩:=(Bi x ks.tr).1 hg;have HUP:=AA (fun W (hf:Fr Nob w W)=>th_upward W x B d ks (Au.toP ((hs.fr hf).mono hf.size)) (by omega));have HWS:=AA h;rw [hg] at HSD;rw [hr] at HRT;rw [HR.out];obtain ⟨root,hroot⟩:∃r,r=(⟨x,B,d,ks⟩:FN):=⟨_,rfl⟩;obtain ⟨S0,hS0⟩:∃S0,S0=[root]:=⟨_,rfl⟩;have HRS0:=AA (show root.s=(x,ks.tr) by rw[hroot];rfl)
   have HGD:=AA (show ∀y∈Af S0,wrongN y.x y.ks.tr.len=0 from fun y hy=>by
    rw[hS0,hroot] at hy;simp only[Af,List.append_nil,List.mem_cons] at hy;rcases hy with rfl|hy;·exact hg1
    ·exact FP (f:=ks) hg2 y hy);have hlen:(Af S0).length=ks.tr.size+1:=by rw[hS0,hroot];simp[Af,Fo.pre_len]
   rw[←hroot,←hS0] at HUP;have hn1:(Af S0).length≤20001:=by omega
   have hn0:0< (Af S0).length:=by omega
   have HS0:=AA hS0;clear hs hv hnm hnw h63 hg1 hg2 h hg hr HROW hsz HR hlen hroot hS0;unfold AF at*;go_enter Tryz.func27,Tryz.ntmps27;have HB0:=AA (show Blk (w.alloc (.cells #[.int .i64 x.op,.string x.name,.int .i64 x.cmp,.int .i64 x.val,.int .i64 x.lo,.int .i64 x.hi,.slice B ks.len d] 28)) w.heap.size 28 _ from Blk.new _ _ _)
   go_upto_region 5 with(first
    |((go_at_call 53);(with_reducible refine(HSD.out _ ((Fr.refl _ _).alloc _)).mono ?_);rintro e w1 ⟨rfl,hf1⟩;have HF1:=AA (((Fr.refl Nob w).alloc _).call hf1 (fun _ h _=>h));have HX1:=AA (HB0.out.fr hf1 (fun e=>e));clear hf1)
    |((go_at_call 49);(with_reducible refine(HRT.out _ HF1.out).mono ?_);rintro e w2 ⟨rfl,hf2⟩;have HF2:=AA (HF1.out.call hf2 (fun _ h _=>h));have HX2:=AA (HX1.out.fr hf2 (fun e=>e));have xc:=HX2.out.cell;have xl:=HX2.out.lt;clear hf2)
    |((go_at_call 54);(with_reducible refine(HUP.out _ HF2.out).mono ?_);rintro e w6 ⟨RA,cR,rfl,hrs,hf2,hrn⟩;have HF6:=AA (HF2.out.call hf2 (fun _ h _=>h));have HRS:=AA hrs;clear hrs hf2 hrn)
    |fail);obtain ⟨n,hn⟩:∃n,n=(Af S0).length:=⟨_,rfl⟩;rw [←hn] at HRS hn1 hn0 ⊢;have HNL:=AA hn;have HSE:=AA (stS_end S0);rw [←hn] at HSE;clear hn HUP xc xl HX1 HX2 HF1 HF2 HB0 HSD HRT;have HWS6:=AA (HWS.out.pure HF6.out);clear HWS;go_loopw [5,25] (fun mv iv wr=>∃i:Nat,i≤n∧iv=.int .i64 i∧Hid (RwRB w6.heap.size (pts ps) w6 S0 n i mv wr)) (fun _ iv _=>n-(intOf iv).toNat);case atStart=>exact⟨0,Nat.zero_le _,rfl,AA ⟨none,0,[],rfl,⟨World.ownsRow_nil _ _ _ _,by rw[Nat.sub_zero,HSE.out];rfl,(fun y hy=>by cases hy)⟩,Fr.refl _ _⟩⟩
   case round=>
    obtain⟨i,hin,rfl,hR⟩:=hrel;obtain ⟨AM,cM,M,rfl,ho,hf⟩:=hR.out;by_cases hlt:i<n
    ·have hI:(i:Int)<n:=by omega
     have hI3:0≤(i:Int):=by omega
     obtain⟨y,r,hst1,hst2,hat⟩:=stS_at (k:=n-1-i) (l:=S0) (by rw[←HNL.out];omega);have hj:n-i=(n-1-i)+1:=by omega
     rw[hj,hst2,List.map_append,rowsT_list] at ho;obtain ⟨M0,K,rfl,hK,hM0,hKl⟩:=ho.split;rw [rowsT_len,Fo.tr_len] at hKl;have hyw:y∈Af S0:=by rw[←hat];exact List.getElem_mem _
     have gy1:=HGD.out y hyw;obtain ⟨b,off,rfl,hbl,hcell⟩:=Sl.row BD (w:=wr) (l:=(Af S0).reverse) (k:=i) (c:=cR) (A:=RA) (by rw[List.length_reverse,←HNL.out];exact HRS.out.pure hf) (by rw[List.length_reverse,←HNL.out];exact hlt)
     have hrev:((Af S0).reverse)[i]'(by rw[List.length_reverse,←HNL.out];exact hlt)=y:=by
      rw[List.getElem_reverse];rw[←hat];congr 1;rw[←HNL.out]
     rw[hrev] at hcell;obtain ⟨d0,d1,d2,d3,d4,d5,d6⟩:=CG.of (w:=wr) (b:=b) (off:=off+i*7) (x:=y.x) (A:=y.A) (n:=y.ks.len) (c:=y.c) (fun j u hu=>by rw[Nat.add_assoc];exact hcell j u hu);have HO:=AA ho;have HF:=AA hf;have HST1:=AA hst1;have HK:=AA hK;have HM0:=AA hM0;have HGY:=AA (show 1≤y.x.op∧y.x.op≤12∧y.ks.len=Aq y.x.op from by have:=Co gy1;rw[Fo.tr_len] at this;exact this)
     have HM0L:=AA (show M0.length≤20001 from by
      have h1:=congrArg List.length hM0;have h2:=congrArg List.length hst1;simp only[List.length_reverse,List.length_map,List.length_cons] at h1 h2;have h3:=D0 (stS (n-1-i) S0);rw [←DP,List.length_drop,←HNL.out] at h3;omega);have HRW:=AA (show rowTS (pts ps) y.s=EW (pts ps) y.x ((CJ (pts ps) y.ks.tr).getD 0 []) ((CJ (pts ps) y.ks.tr).getD 1 []) from rfl);have HWSr:=AA (HWS6.out.pure hf);have HN0:=AA hf.size;clear ho hf hst1 hst2 hat hK hM0 gy1 hcell hrev hR hyw hj;obtain ⟨⟨y0,y1,y2,y3,y4,y5⟩,yA,yc,yk⟩:=y;dsimp only at*;have hm0:=HM0L.out;obtain ⟨kn,hknl⟩:∃kn,yk.len=kn:=⟨_,rfl⟩
     have hkn:kn=0∨kn=1∨kn=2:=by
      have:=HGY.out.2.2;unfold Aq at this;repeat' split at this
      all_goals omega
     rw[hknl] at hKl d6;have hml:(M0++K).length=M0.length+kn:=by rw[List.length_append,hKl]
     rw[hml];generalize hmm:M0.length=m at*;have HM:=AA hmm;have HKL2:=AA hKl;have HKN:=AA hknl;have HML:=AA hml;have HOX:=AA (show wr.ownsRow w6.heap.size 74 1 (.slice AM (m+kn) cM) (m+kn) (M0.flatMap rvc++K.flatMap rvc) by have:=HO.out.own;rw[hml,List.flatMap_append] at this;exact this)
     have hAs:0<kn→∃g0,AM=some ⟨g0,0,none⟩:=fun h0=>by
      rcases HOX.out.2 with⟨_,h2⟩|⟨g,cap,cur,h1,_⟩;·omega
      ·simp only[Value.slice.injEq] at h1;exact⟨g,h1.1⟩
     have hcn:m+kn≤cM:=(Sl.of_own HOX.out).le;have hcM:m≤cM:=by omega
     obtain⟨A6,hcut,hA6⟩:∃A6,(∀W,(Instr.slice 111 (.slice AM (m+kn) cM) (some (.int .i64 m)) none none).run Tryz.prog W=.ok (.slice A6 kn (cM-m)) W)∧(0<kn→∃g0,AM=some ⟨g0,0,none⟩∧A6=some ⟨g0,m*1,none⟩):=
      ⟨_,fun W=>by rw[cut_lo el_rb AM m (by omega) W,show m+kn-m=kn by omega],fun h0=>by
       obtain⟨g0,rfl⟩:=hAs h0;exact ⟨g0,rfl,by rw[if_neg (by omega)];simp[Addr.add];intro e;omega⟩⟩;have HCUT:=AA hcut;have HA6:=AA hA6;have HAS:=AA hAs;clear hmm hKl hml hknl hcut hA6 hAs;go_upto_block 2 with fail;go_cut [8,9] (fun xv yv wx=>SwIB wr ps.length kn (CJ (pts ps) yk.tr) wr.heap.size #[.int .i64 y0,.string y1,.int .i64 y2,.int .i64 y3,.int .i64 y4,.int .i64 y5,.slice yA kn yc] xv yv wx)
     case first=>
      have HFb:=AA (show Fr Nob wr (wr.alloc (.cells #[.int .i64 y0,.string y1,.int .i64 y2,.int .i64 y3,.int .i64 y4,.int .i64 y5,.slice yA kn yc] 28)) from(Fr.refl _ _).alloc _);have HBb:=AA (show Blk (wr.alloc (.cells #[.int .i64 y0,.string y1,.int .i64 y2,.int .i64 y3,.int .i64 y4,.int .i64 y5,.slice yA kn yc] 28)) wr.heap.size 28 #[.int .i64 y0,.string y1,.int .i64 y2,.int .i64 y3,.int .i64 y4,.int .i64 y5,.slice yA kn yc] from Blk.new _ _ _);clear d0 d1 d2 d3 d4 d5 d6;rcases hkn with rfl|rfl|rfl
      ·have hK0:K=[]:=List.eq_nil_of_length_eq_zero HKL2.out;have hr0:CJ (pts ps) yk.tr=[]:=by rw[←HK.out,hK0];rfl
       have HR0:=AA hr0;clear hK0 hr0;go_wp2_with fail;go_meet;exact ⟨none,0,[],none,0,[],rfl,rfl,Sl.none_ _ _,Sl.none_ _ _,by rw[HR0.out];rfl,by rw[HR0.out];rfl,(fun e=>absurd e (by decide)),(fun e=>absurd e (by decide)),HFb.out,HBb.out⟩
      ·obtain⟨a,hKa⟩:=List.length_eq_one_iff.1 HKL2.out;obtain ⟨g0,rfl,hgb,hgl,hc0,_⟩:=Ev (S:=M0) (y:=a) (T:=[]) (by have:=HO.out.own;rw[hKa] at this;exact this) (by obtain⟨g,e⟩:=HAS.out (by decide);exact⟨_,e⟩);have HMA:=AA (HO.out.mem a (by rw[hKa];simp));have HR0:=AA (show CJ (pts ps) yk.tr=[a.x] by rw[←HK.out,hKa];rfl);have hal:a.x.length=ps.length:=by rw[FL (pts ps) yk.tr a.x (by rw[HR0.out];simp),AC]
       rw[hal,HM.out] at hc0;replace hc0:=HFb.out.cell hc0 (fun e=>e);have hgl2:=Nat.lt_of_lt_of_le hgl HFb.out.size;have HAL:=AA hal;clear hKa hal;go_wp2_with fail;go_meet;exact ⟨some ⟨a.g,0,none⟩,ps.length,a.x,none,0,[],by rw[HAL.out],rfl,by have:=rv_slB (HMA.out.1.fr HFb.out (fun e=>e)) (by rw[HAL.out];exact hfew);rw[HAL.out] at this ⊢;exact this,Sl.none_ _ _,by rw[HR0.out];rfl,by rw[HR0.out];rfl,(fun _=>HAL.out),(fun e=>absurd e (by decide)),HFb.out,HBb.out⟩
      ·obtain⟨q,a,hKa⟩:∃q a,K=[q,a]:=by
        have:=HKL2.out
        match K,this with
        |[q,a],_=>exact⟨q,a,rfl⟩
       obtain⟨g0,rfl,hgb,hgl,hc0,_⟩:=Ev (S:=M0) (y:=q) (T:=[a]) (by have:=HO.out.own;rw[hKa] at this;exact this) (by obtain⟨g,e⟩:=HAS.out (by decide);exact⟨_,e⟩);obtain ⟨g1,hg1,_,_,hc1,_⟩:=Ev (S:=M0++[q]) (y:=a) (T:=[]) (by have:=HO.out.own;rw[hKa] at this;rw[List.append_assoc];exact this) ⟨_,rfl⟩;obtain rfl:g0=g1:=by simpa using hg1
       clear hg1;rw [List.length_append,List.length_singleton,HM.out] at hc1;have HMA:=AA (HO.out.mem a (by rw[hKa];simp));have HMB:=AA (HO.out.mem q (by rw[hKa];simp));have HR0:=AA (show CJ (pts ps) yk.tr=[a.x,q.x] by rw[←HK.out,hKa];rfl);have hal:a.x.length=ps.length:=by rw[FL (pts ps) yk.tr a.x (by rw[HR0.out];simp),AC]
       have hbl2:q.x.length=ps.length:=by rw[FL (pts ps) yk.tr q.x (by rw[HR0.out];simp),AC]
       rw[hal] at hc1;rw [hbl2,HM.out] at hc0;replace hc0:=HFb.out.cell hc0 (fun e=>e);replace hc1:=HFb.out.cell hc1 (fun e=>e);have hgl2:=Nat.lt_of_lt_of_le hgl HFb.out.size;have HAL:=AA hal;have HBL:=AA hbl2;clear hKa hal hbl2;have hn1:(m:Int)+1< (m:Int)+2:=by omega
       have hn2:(m:Int)< (m:Int)+2:=by omega
       have hn3:0≤(m:Int)+1:=by omega
       have hn4:((m:Int)+1).toNat=m+1:=by omega
       have hn5:IntKind.i64.wrap ((m:Int)+1)=(m:Int)+1:=CR (by omega) (by omega);have hn6:wrap64 ((m:Int)+1)=(m:Int)+1:=by unfold wrap64;omega
       go_upto_region 13 with fail;go_quiet (fail);go_wp2_with fail;go_meet;exact ⟨some ⟨a.g,0,none⟩,ps.length,a.x,some ⟨q.g,0,none⟩,ps.length,q.x,by rw[HAL.out],by rw[HBL.out],by have:=rv_slB (HMA.out.1.fr (HFb.out.drewN nq) (fun e=>e)) (by rw[HAL.out];exact hfew);rw[HAL.out] at this ⊢;exact this,by have:=rv_slB (HMB.out.1.fr (HFb.out.drewN nq) (fun e=>e)) (by rw[HBL.out];exact hfew);rw[HBL.out] at this ⊢;exact this,by rw[HR0.out];rfl,by rw[HR0.out];rfl,(fun _=>HAL.out),(fun _=>HBL.out),HFb.out.drewN _,HBb.out.drewN _⟩
     case rest=>
      obtain⟨X,cX,xs,Y,cY,ys,rfl,rfl,hxs,hys,hx0,hy0,hxl,hyl,hfa,hnb⟩:=hcut;rw [hx0,hy0] at HRW;have HXS:=AA hxs;have HYS:=AA hys;have HXL:=AA hxl;have HYL:=AA hyl;have HFa:=AA hfa;have HNB:=AA hnb;have hkd:Aq y0=kn:=by rw[←HGY.out.2.2];exact HKN.out
      obtain⟨Wz,rfl⟩:∃W,W=wc:=⟨_,rfl⟩
      have HRUL:=AA (tr_rule Wz A c ps (HWSr.out.pure HFa.out) HW.out ⟨y0,y1,y2,y3,y4,y5⟩ yA kn yc X xs.length cX xs HXS.out Y ys.length cY ys HYS.out rfl rfl ⟨HGY.out.1,HGY.out.2.1⟩
       (fun e=>HXL.out (by unfold Aq at hkd;dsimp only at e;rw[if_neg (by omega)] at hkd;split at hkd<;>omega))
       (fun e h4 h9 h10=>HYL.out (by unfold Aq at hkd;dsimp only at e h4 h9 h10;rw[if_neg (by omega),if_neg (by omega)] at hkd;omega)) hfew);unfold AF at HRUL;dsimp only at HRUL;have nbc:=HNB.out.cell;have nbl:=HNB.out.lt;clear hkd hkn;generalize xs.length=lx at*;generalize ys.length=ly at*
      go_upto_region 15 with(first
       |((go_at_call 55);(with_reducible refine(HRUL.out).mono ?_);rintro e Wa ⟨fc,caps,rfl,hf9,hcf,hru⟩;have HF9:=AA hf9;have HAT:=AA hru;clear hf9 hru)
       |fail);replace HFa:=AA (HFa.out.call HF9.out (fun _ h _=>h));clear nbc nbl;have hcut:=HCUT.out;clear hxs hys hx0 hy0 hxl hyl hfa hnb d0 d1 d2 d3 d4 d5 d6;obtain ⟨rl,hrl⟩:∃rl,rl=EW (pts ps) ⟨y0,y1,y2,y3,y4,y5⟩ xs ys:=⟨_,rfl⟩;rw [←hrl] at HRW;have HRL:=AA (show rl.length=ps.length by rw[hrl,GW,AC])
      have HRG:=AA (show ∀k,k<ps.length→(rl.map ivB)[k]?=some (.bool (knT (pts ps) ⟨y0,y1,y2,y3,y4,y5⟩ k xs ys)) from fun k hk=>by
       have hk':k<rl.length:=by rw[HRL.out];exact hk
       rw[List.getElem?_map,List.getElem?_eq_getElem hk',←bAt_rowT (pts ps) _ _ _ (by rw[AC];exact hk),←hrl];unfold bAt;rw [List.getD_eq_getElem?_getD,List.getElem?_eq_getElem hk'];rfl);clear hrl;obtain ⟨cs,hcs,hmk⟩:=run_mkf el_b1 ps.length (by omega) (by unfold maxLen;omega);go_upto_region 16 with fail;obtain ⟨g,hgg⟩:∃g,g=Wa.heap.size:=⟨_,rfl⟩;obtain ⟨Wb,hWb⟩:∃Wb,Wa.alloc (.cells cs 4)=Wb:=⟨_,rfl⟩;have HGB:=AA (show Blk Wb g 4 cs by rw[←hWb,hgg];exact Blk.new _ _ _);have HFb:=AA (show Fr Nob Wa Wb by rw[←hWb];exact(Fr.refl _ _).alloc _);rw [hWb,←hgg];have HGG:=AA hgg;have HCS:=AA hcs;clear hWb hmk hgg hcs;go_wp2_with fail;go_loopw [65] (fun kv wq=>∃k:Nat,k≤ps.length∧kv=.int .i64 k∧Hid (G9 Wa g rl k wq)) (fun kv _=>ps.length-(intOf kv).toNat);case atStart=>exact⟨0,by omega,rfl,AA ⟨cs,HGB.out,by rw[HRL.out];simpa using HCS.out,fun j hj=>absurd hj (by omega),HFb.out⟩⟩
      case round=>
       obtain⟨k,hk,rfl,hQ⟩:=hrel;by_cases hlt2:k<ps.length
       ·have hK1:(k:Int)<ps.length:=by omega
        have hK3:0≤(k:Int):=by omega
        obtain⟨cur,hb,hs,hc,hfq⟩:=hQ.out;have HBq:=AA hb;have HFq:=AA hfq;have HSq:=AA (show cur.size=ps.length by rw[hs,HRL.out]);have HATk:=AA (fun W (hf:Fr Nob Wa W)=>HAT.out W hf k hlt2);have HRk:=AA (HRG.out k hlt2);clear hb hs hc hfq;generalize knT (pts ps) ⟨y0,y1,y2,y3,y4,y5⟩ k xs ys=v at*;obtain ⟨u,hu⟩:∃u,cur[k]?=some u:=⟨cur[k]'(by rw[HSq.out];exact hlt2),Array.getElem?_eq_getElem _⟩;have HU:=AA hu;clear hu
        go_wp2_with (first
         |((with_reducible refine(HATk.out _ HFq.out).mono ?_);rintro e w7 ⟨rfl,hf7⟩;have rwc:=((HBq.out.fr hf7 (fun e=>e)).cell k).trans HU.out;have rwf:=(HBq.out.fr hf7 (fun e=>e)).frozen k;have rwl:=(HBq.out.fr hf7 (fun e=>e)).lt)
         |fail);go_roundw;case rel=>exact⟨k+1,by omega,by go_num,AA (G9.next hQ.out hf7 HRk.out (by rw[HGG.out];exact Nat.le_refl _))⟩
        case measure=>simp[intOf];omega
       ·obtain rfl:k=ps.length:=by omega
        obtain⟨hrb,hrf⟩:=hQ.out.done HRL.out.symm;have HRB:=AA hrb;have HRF:=AA hrf;clear hrb hrf hQ;have HOq:=AA (Ag HOX.out (HFa.out.call HRF.out (fun _ h _=>h)) (fun _ _ _ _ e=>e));have hcut2:=fun W=>Fe el_rb AM (n:=m) (cap:=cM) m hcM W;have hii:¬(ps.length:Int)<ps.length:=by omega
        go_upto_region 22 with(first
         |(refine DC rfl _ _ rfl zeroRB rfl HOq.out (by rw[Ad rvc 1 EI,HM.out]) HA6.out ?_;intro W3 hown3 hf3)
         |fail);have HOW:=AA hown3;have HF3:=AA hf3;clear hown3 hf3;go_wp2_with (at_builtin;refine AP rfl _ _ 111 rfl el_rb (base:=w6.heap.size) (xs:=M0.flatMap rvc) (news:=rv1 g ps.length) rfl ?own rfl ?src ?one ?h63 ?hby ?hbase ?_);case own=>exact Ag HOW.out ((Fr.refl Nob _).alloc _) (fun _ _ _ _ e=>e)
        case src=>exact Sl.new1 (Blk.new _ _ _) 1 1 rfl (by decide)
        case one=>exact rv1_one _ _
        case h63=>unfold maxLen;omega
        case hby=>omega
        case hbase=>have h1:=HN0.out;have h2:=HFa.out.size;have h3:=HRF.out.size;have h4:=HF3.out.size;simp at*;omega
        intro A5 c5 w8 hown5 hgr5 hl5;have HO5:=AA hown5;have HG5:=AA hgr5;have HL5:=AA hl5;have HRV:=AA (show rvc (⟨g,rl⟩:RV Bool)=rv1 g ps.length by unfold rvc rv1;rw[HRL.out]);clear hown5 hgr5 hl5;go_wp2_with fail;go_roundw
        case rel=>
         refine⟨i+1,by omega,by go_num,AA ⟨A5,c5,M0++[⟨g,rl⟩],by simp[HM.out],?_,?_⟩⟩
         ·rw[show n-(i+1)=n-1-i by omega,HST1.out,List.map_cons,HRW.out];refine Ff.next (K:=K) HO.out HM.out HM0.out HN0.out (by rw[HGG.out];exact HFa.out.size) ((((HFa.out.call HRF.out (fun _ h _=>h)).mono (fun _ _ h=>h.elim)).call HF3.out (fun k hk _=>.inl hk)).alloc _) ((HRB.out.fr HF3.out (fun e=>Ff.ne HO.out (by rw[HGG.out];exact HFa.out.size) e)).alloc _) ?_ HG5.out HL5.out (by simp);rw [HRV.out];exact HO5.out
         ·refine(((HF.out.call (HFa.out.call HRF.out (fun _ h _=>h)) (fun _ h _=>h)).call HF3.out (fun k hk hlt=>?_)).alloc _).grown HG5.out (fun k hk hlt=>?_)
          ·have:=AX HOW.out k hk;omega
          ·have:=AX HOW.out k hk;omega
        case measure=>simp[intOf];omega
    ·obtain rfl:i=n:=by omega
     rw[Nat.sub_self] at ho;have hv:=ho.val;have hs0:stS 0 S0=[root]:=HS0.out;rw [hs0] at hv
     obtain⟨y,rfl⟩:∃y,M=[y]:=by
      have h1:=congrArg List.length hv;simp only[List.length_map,List.length_reverse,List.length_cons,List.length_nil] at h1;exact List.length_eq_one_iff.1 h1
     have hyx:y.x=rowTS (pts ps) (x,ks.tr):=by
      have:y.x=rowTS (pts ps) root.s:=by simpa using hv
      rw[this,HRS0.out]
     have hAs:∃a,AM=some a:=by
      rcases ho.own.2 with⟨_,h2⟩|⟨g,cap,cur,h1,_⟩;·simp at h2
      ·simp only[Value.slice.injEq] at h1;exact⟨_,h1.1⟩
     obtain⟨g0,rfl,hgb,hgl,hc0,hcn⟩:=Ev (S:=[]) (y:=y) (T:=[]) ho.own hAs;have HMY:=AA (ho.mem y (List.mem_singleton.2 rfl)).1;have HYX:=AA hyx;have HFF:=AA (HF6.out.call hf (fun _ h _=>h));have hyl:y.x.length=ps.length:=by rw[hyx,CK,AC]
     have HYL:=AA hyl;rw [hyl] at hc0;clear ho hf hv hyx hAs hR hs0 hyl;simp only[List.length_nil] at hc0;have hii:¬(i:Int)<i:=by omega
     simp only[List.length_cons,List.length_nil,Nat.zero_add];go_wp2_with fail;go_ret;rw [←HYX.out];exact ⟨some ⟨y.g,0,none⟩,ps.length,by rw[HYL.out];rfl,by have:=rv_slB HMY.out (by rw[HYL.out];exact hfew);rw[HYL.out] at this ⊢;exact this,HFF.out⟩
  ·have hr':AU (pts ps)=false:=by simpa using hr
   have HR:=AA (show row=[] by rw[HROW.out];unfold rowBA;rw[if_neg (fun e=>hr e.2)]);rw [hg] at HSD;rw [hr'] at HRT;clear hs hv hnm hnw h63 h hg hr HROW hsz hr';unfold AF at*;go_enter Tryz.func27,Tryz.ntmps27
   go_wp2_with (first
    |((go_at_call 53);(with_reducible refine(HSD.out _ ((Fr.refl _ _).alloc _)).mono ?_);rintro e w1 ⟨rfl,hf1⟩;have HF1:=AA (((Fr.refl Nob w).alloc _).call hf1 (fun _ h _=>h)))
    |((go_at_call 49);(with_reducible refine(HRT.out _ HF1.out).mono ?_);rintro e w2 ⟨rfl,hf2⟩;have HF2:=AA (HF1.out.call hf2 (fun _ h _=>h)))
    |fail);go_ret;rw [HR.out];exact ⟨none,0,rfl,Sl.none_ _ _,by first|exact HF2.out|exact HF1.out⟩
 ·have hg':(firstW ((Tr.cons x ks.tr .nil).nodes 1)==0)=false:=by simpa using hg
  have HR:=AA (show row=[] by rw[HROW.out];unfold rowBA;rw[if_neg (fun e=>hg e.1)]);rw [hg'] at HSD;clear hs hv hnm hnw h63 h hg HROW hsz hg';unfold AF at*;go_enter Tryz.func27,Tryz.ntmps27
  go_wp2_with (first
   |((go_at_call 53);(with_reducible refine(HSD.out _ ((Fr.refl _ _).alloc _)).mono ?_);rintro e w1 ⟨rfl,hf1⟩;have HF1:=AA (((Fr.refl Nob w).alloc _).call hf1 (fun _ h _=>h)))
   |((go_at_call 49);(with_reducible refine(HRT.out _ HF1.out).mono ?_);rintro e w2 ⟨rfl,hf2⟩;have HF2:=AA (HF1.out.call hf2 (fun _ h _=>h)))
   |fail);go_ret;rw [HR.out];exact ⟨none,0,rfl,Sl.none_ _ _,by first|exact HF2.out|exact HF1.out⟩
end Go.Proofs.YtoegdmpmagbaiaaGreatDoor
