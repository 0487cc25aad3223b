/- norm.Of: a formula of fewer kinds of nodes. -/
import Derived.Test.YtoegdmpmagbaiaaGreatDoorKI
import Derived.Test.YtoegdmpmagbaiaaGreatDoorQH18
import Derived.Deep.CutBlock
set_option maxHeartbeats 16000000
set_option maxRecDepth 100000
namespace Go.Proofs.YtoegdmpmagbaiaaGreatDoor
open Go.RowKit Go.Lib
theorem own_at {w:World}{base e:Nat}{A:Option Addr}{n c:Nat}{S T:List FN}{y:FN}(h:w.ownsRow base e 7 (.slice A n c) n ((S++y::T).flatMap fnc))(hA:∃a,A=some a):∃g,A=some ⟨g,0,none⟩∧base≤g∧g<w.heap.size∧CG w g (S.length*7) y.x y.A y.ks.len y.c∧n≤c∧c≤maxLen:=by
 obtain⟨g,cur,post,rfl,hb,hblk,hc,hn1,hmx,hs⟩:=Cb h hA;refine ⟨g,rfl,hb,hblk.lt,CG.of fun j u hu=>?_,hn1,hmx⟩;rw [hblk.cell,←Array.getElem?_toList,hc,List.flatMap_append,List.append_assoc,List.getElem?_append_right (by rw[Ad fnc 7 BD];omega),Ad fnc 7 BD,Nat.add_sub_cancel_left];have hj:j<7:=(List.getElem?_eq_some_iff.1 hu).1;rw [List.flatMap_cons,List.append_assoc,List.getElem?_append_left (by rw[BD];exact hj)];exact hu
theorem key_cut {G:Prop}{F R:World→World→Prop}(h:(∀a b,F a b→R a b)→G)(k:∀a b,F a b→R a b):G:=h k
def SwF (wr:World)(N0:Nat)(w:World)(AM:Option Addr)(kn:Nat)(l:List S1)(gn:Nat)(cs:Array Value)(wx:World):Prop:=∃(x y:Nd) (xA yA:Option Addr) (xc yc:Nat) (xk yk:Fo),Blk wx gn 28 cs∧Blk wx (gn+1) 28 #[.int .i64 x.op,.string x.name,.int .i64 x.cmp,.int .i64 x.val,.int .i64 x.lo,.int .i64 x.hi,.slice xA xk.len xc]∧Blk wx (gn+1+1) 28 #[.int .i64 y.op,.string y.name,.int .i64 y.cmp,.int .i64 y.val,.int .i64 y.lo,.int .i64 y.hi,.slice yA yk.len yc]∧Fr Nob wr wx∧
 AJ (fun k=>OfP N0 w AM k∧k<wr.heap.size) wr xA xc xk∧AJ (fun k=>OfP N0 w AM k∧k<wr.heap.size) wr yA yc yk∧l.getD 0 (mk0 0)=(x,xk.tr)∧l.getD 1 (mk0 0)=(y,yk.tr)∧(0<kn→AR (x,xk.tr))∧(1<kn→AR (y,yk.tr))∧szS (y,yk.tr)≤90000
def OfR (N0:Nat)(w W1:World)(S0:List FN)(n i:Nat)(mv:Value)(wr:World):Prop:=∃AM cM M,mv=.slice AM (List.length M) cM∧OfI N0 w wr S0 (n-i) AM cM M∧Fr Nob W1 wr
theorem Gi:∀{f:Fo},f.tr.good→∀y∈f.pre,wrongN y.x y.ks.tr.len=0∧y.ks.tr.good∧y.ks.tr.size+1≤f.tr.size
 |.nil,_,y,hy=>by simp[Fo.pre] at hy
 |.cons x A c ks r,⟨h1,h2,h3⟩,y,hy=>by
  rw[Fo.pre,List.mem_cons,List.mem_append] at hy;simp only[Fo.tr,Tr.size];rcases hy with rfl|hy|hy;·exact⟨h1,h2,by simp only;omega⟩
  ·obtain⟨a,b,c⟩:=Gi h2 y hy;exact⟨a,b,by omega⟩
  ·obtain⟨a,b,c⟩:=Gi h3 y hy;exact⟨a,b,by omega⟩
theorem n_Of (w:World)(x:Nd)(B:Option Addr)(d:Nat)(ks:Fo)(hs:Au w.heap.size w B d ks)(hsz:ks.tr.size≤20000)(hv:BR w)(hnm:∀y∈(Tr.cons x ks.tr .nil).nodes 1,y.1.name.size≤9223372036854775807)(hg:firstW ((Tr.cons x ks.tr .nil).nodes 1)=0):
 Calls Tryz.prog 65 #[AF x B ks.len d] w (AQ w (fun k=>k<w.heap.size) (madeS x ks.tr)):=by
 have HSD:=AA (fun W (hf:Fr Nob w W)=>FO W x B d ks ((hs.fr hf).mono hf.size) (by omega) (hv.fr hf) hnm);rw [hg] at HSD;have HUP:=AA (fun W (hf:Fr Nob w W)=>n_upward W x B d ks ((Au.toP ((hs.fr hf).mono hf.size))) (by omega));obtain ⟨hg1,hg2⟩:=(Bi x ks.tr).1 hg
 have HGD:=AA (show ∀y∈Af [(⟨x,B,d,ks⟩:FN)],wrongN y.x y.ks.tr.len=0∧y.ks.tr.good∧y.ks.tr.size≤20000 from fun y hy=>by
  simp only[Af,List.append_nil,List.mem_cons] at hy;rcases hy with rfl|hy;·exact⟨hg1,hg2,hsz⟩
  ·obtain⟨a,b,c⟩:=Gi hg2 y hy;exact⟨a,b,by omega⟩)
 have HFN:=AA (show ∀y∈Af [(⟨x,B,d,ks⟩:FN)],FnP (fun k=>k<w.heap.size) w y by
  intro y hy;have hs':=Au.toP hs;simp only[Af,List.append_nil,List.mem_cons] at hy;rcases hy with rfl|hy;·exact hs'
  ·have hn:0<ks.len:=by cases ks with|nil=>simp[Fo.pre] at hy|cons=>simp[Fo.len]
   obtain⟨bb,oo,hA⟩:=hs'.some_ hn;exact Fo.pre_fn (hs'.at_ bb oo hA) y hy);have hlen:(Af [(⟨x,B,d,ks⟩:FN)]).length=ks.tr.size+1:=by simp[Af,Fo.pre_len]
 have HEN:=AA (show stS 0 [(⟨x,B,d,ks⟩:FN)]=[⟨x,B,d,ks⟩] from rfl);have HFD:=AA (show madeS x ks.tr=Fm ⟨x,B,d,ks⟩ from rfl);rw [HFD.out];obtain ⟨S0,hS0⟩:∃S0,S0=[(⟨x,B,d,ks⟩:FN)]:=⟨_,rfl⟩;obtain ⟨root,hroot⟩:∃r,r=(⟨x,B,d,ks⟩:FN):=⟨_,rfl⟩;rw [←hroot] at HFN HGD HEN hlen HUP hS0 ⊢;rw [←hS0] at HFN HGD HEN hlen HUP;have HS0:=AA hS0;have hn1:(Af S0).length≤20001:=by omega
 have hn0:0< (Af S0).length:=by omega
 clear hs hsz hv hnm hg hg1 hg2 hlen hroot hS0 HFD;unfold AF at*;go_enter Tryz.func65,Tryz.ntmps65;have HB0:=AA (show Blk ((w.alloc (.cells #[.int .i64 x.op,.string x.name,.int .i64 x.cmp,.int .i64 x.val,.int .i64 x.lo,.int .i64 x.hi,.slice B ks.len d] 28)).alloc (.cells Ab 28)) w.heap.size 28 _ from(Blk.new _ _ _).alloc _)
 go_upto_region 5 with(first
  |((go_at_call 53);(with_reducible refine(HSD.out _ (((Fr.refl _ _).alloc _).alloc _)).mono ?_);rintro e w1 ⟨rfl,hf1⟩;have HF1:=AA ((((Fr.refl Nob w).alloc _).alloc _).call hf1 (fun _ h _=>h));have HZ1:=AA ((Blk.new_eq (t:=28) (cs:=Ab) (g:=w.heap.size+1) (by simp)).fr hf1 (fun e=>e));have HX1:=AA (HB0.out.fr hf1 (fun e=>e));have xc:=HX1.out.cell;have xl:=HX1.out.lt;clear hf1)
  |((go_at_call 110);(with_reducible refine(HUP.out _ HF1.out).mono ?_);rintro e w2 ⟨RA,cR,rfl,hrs,hf2,hrn⟩;have HF2:=AA (HF1.out.call hf2 (fun _ h _=>h));have HZ2:=AA (HZ1.out.fr hf2 (fun e=>e));have HRS:=AA hrs;clear hrs hf2 hrn xc xl)
  |fail);obtain ⟨n,hn⟩:∃n,n=(Af S0).length:=⟨_,rfl⟩;rw [←hn] at HRS hn1 hn0 ⊢;have HNL:=AA hn;have HSE:=AA (stS_end S0);rw [←hn] at HSE;clear hn;go_loopw [3,16] (fun mv iv wr=>∃i:Nat,i≤n∧iv=.int .i64 i∧Hid (OfR w2.heap.size w w2 S0 n i mv wr)) (fun _ iv _=>n-(intOf iv).toNat);case atStart=>exact⟨0,Nat.zero_le _,rfl,AA ⟨none,0,[],rfl,⟨World.ownsRow_nil _ _ _ _,by rw[Nat.sub_zero,HSE.out];rfl,(fun y hy=>by cases hy)⟩,Fr.refl _ _⟩⟩
 case round=>
  obtain⟨i,hin,rfl,hR⟩:=hrel;obtain ⟨AM,cM,M,rfl,ho,hf⟩:=hR.out;by_cases hlt:i<n
  ·have hI:(i:Int)<n:=by omega
   have hI3:0≤(i:Int):=by omega
   obtain⟨y,r,hst1,hst2,hat⟩:=stS_at (k:=n-1-i) (l:=S0) (by rw[←HNL.out];omega);have hj:n-i=(n-1-i)+1:=by omega
   rw[hj] at ho;obtain ⟨M0,K,rfl,hK,hM0,hKl⟩:=ho.split hst2;have hyw:y∈Af S0:=by rw[←hat];exact List.getElem_mem _
   obtain⟨gy1,gy2,gy3⟩:=HGD.out y hyw;obtain ⟨b,off,rfl,hbl,hcell⟩:=Sl.row BD (w:=wr) (l:=(Af S0).reverse) (k:=i) (c:=cR) (A:=RA) (by rw[List.length_reverse,←HNL.out];exact HRS.out.pure hf) (by rw[List.length_reverse,←HNL.out];exact hlt)
   have hrev:((Af S0).reverse)[i]'(by rw[List.length_reverse,←HNL.out];exact hlt)=y:=by
    rw[List.getElem_reverse];rw[←hat];congr 1;rw[←HNL.out];
   rw[hrev] at hcell;obtain ⟨d0,d1,d2,d3,d4,d5,d6⟩:=CG.of (w:=wr) (b:=b) (off:=off+i*7) (x:=y.x) (A:=y.A) (n:=y.ks.len) (c:=y.c) (fun j u hu=>by rw[Nat.add_assoc];exact hcell j u hu);obtain ⟨o1,o2,o3⟩:=Co gy1;rw [Fo.tr_len] at o3;have HO:=AA ho;have HF:=AA hf;have HST1:=AA hst1;have HK:=AA hK;have HM0:=AA hM0;have HGY:=AA (show wrongN y.x y.ks.tr.len=0∧y.ks.tr.good∧y.ks.tr.size≤20000 from⟨gy1,gy2,gy3⟩);have HFY:=AA (HFN.out y hyw);have HOP:=AA (show 1≤y.x.op∧y.x.op≤12∧y.ks.len=Aq y.x.op from⟨o1,o2,o3⟩)
   have HM0L:=AA (show M0.length≤20001 from by
    have h1:=congrArg List.length hM0;have h2:=congrArg List.length hst1;simp only[List.length_reverse,List.length_map,List.length_cons] at h1 h2;have h3:=D0 (stS (n-1-i) S0);rw [←DP,List.length_drop,←HNL.out] at h3;omega);clear ho hf hst1 hst2 hat hK hM0 gy1 gy2 gy3 hcell hrev o1 o2 o3 hR hyw hj;obtain ⟨⟨y0,y1,y2,y3,y4,y5⟩,yA,yc,yk⟩:=y;dsimp only at*;have hm0:=HM0L.out;obtain ⟨kn,hknl⟩:∃kn,yk.len=kn:=⟨_,rfl⟩;have HOPK:=AA (show Aq y0=kn by rw[←HOP.out.2.2];exact hknl)
   have hkn:kn=0∨kn=1∨kn=2:=by
    have:=HOPK.out;unfold Aq at this;repeat' split at this
    all_goals omega
   rw[hknl] at hKl d6;have hml:(M0++K).length=M0.length+kn:=by rw[List.length_append,hKl]
   rw[hml];generalize hmm:M0.length=m at*;have HM:=AA hmm;have HKL2:=AA hKl;have HML:=AA hml;have HOX:=AA (show wr.ownsRow w2.heap.size 28 7 (.slice AM (m+kn) cM) (m+kn) (M0.flatMap fnc++K.flatMap fnc) by have:=HO.out.own;rw[hml,List.flatMap_append] at this;exact this)
   have hAs:0<kn→∃g0,AM=some ⟨g0,0,none⟩:=fun h0=>by
    rcases HOX.out.2 with⟨_,h2⟩|⟨g,cap,cur,h1,_⟩;·omega
    ·simp only[Value.slice.injEq] at h1;exact⟨g,h1.1⟩
   have hcn:m+kn≤cM:=(Sl.of_own HOX.out).le;have hcM:m≤cM:=by omega
   obtain⟨A6,hcut,hA6⟩:∃A6,(∀W,(Instr.slice 26 (.slice AM (m+kn) cM) (some (.int .i64 m)) none none).run Tryz.prog W=.ok (.slice A6 kn (cM-m)) W)∧(0<kn→∃g0,AM=some ⟨g0,0,none⟩∧A6=some ⟨g0,m*7,none⟩):=
    ⟨_,fun W=>by rw[cut_lo DB AM m (by omega) W,show m+kn-m=kn by omega],fun h0=>by
     obtain⟨g0,rfl⟩:=hAs h0;exact ⟨g0,rfl,by rw[if_neg (by omega)];simp[Addr.add];intro e;omega⟩⟩;have HCUT:=AA hcut;have HA6:=AA hA6;have HAS:=AA hAs;clear hmm hKl hml hknl hcut hA6 hAs;go_upto_block 2 with fail;obtain ⟨W2,hW2⟩:∃W2,((wr.alloc (.cells #[.int .i64 y0,.string y1,.int .i64 y2,.int .i64 y3,.int .i64 y4,.int .i64 y5,.slice yA kn yc] 28)).alloc (.cells Ab 28)).alloc (.cells Ab 28)=W2:=⟨_,rfl⟩;have HNB:=AA (show Blk W2 wr.heap.size 28 #[.int .i64 y0,.string y1,.int .i64 y2,.int .i64 y3,.int .i64 y4,.int .i64 y5,.slice yA kn yc] by rw[←hW2];exact((Blk.new _ _ _).alloc _).alloc _);have HXB:=AA (show Blk W2 (wr.heap.size+1) 28 Ab by rw[←hW2];exact(Blk.new_eq (by simp)).alloc _);have HYB:=AA (show Blk W2 (wr.heap.size+1+1) 28 Ab by rw[←hW2];exact Blk.new_eq (by simp));have HF2':=AA (show Fr Nob wr W2 by rw[←hW2];exact(((Fr.refl _ _).alloc _).alloc _).alloc _);rw [hW2];clear hW2 d0 d1 d2 d3 d4 d5 d6;go_cut [] (fun wx=>SwF wr w2.heap.size w AM kn (Bb yk.tr) wr.heap.size #[.int .i64 y0,.string y1,.int .i64 y2,.int .i64 y3,.int .i64 y4,.int .i64 y5,.slice yA kn yc] wx)
   case first=>
    rcases hkn with rfl|rfl|rfl
    ·have hK0:K=[]:=List.eq_nil_of_length_eq_zero HKL2.out;have HR0:=AA (show Bb yk.tr=[] by rw[←HK.out,hK0];rfl);clear hK0;go_wp2_with fail;go_meet;exact ⟨⟨0,⟨#[]⟩,0,0,0,0⟩,⟨0,⟨#[]⟩,0,0,0,0⟩,none,none,0,0,.nil,.nil,HNB.out,HXB.out,HYB.out,HF2'.out,AJ.nil _ _,AJ.nil _ _,by rw[HR0.out];rfl,by rw[HR0.out];rfl,(fun e=>absurd e (by decide)),(fun e=>absurd e (by decide)),by decide⟩
    ·obtain⟨a,hKa⟩:=List.length_eq_one_iff.1 HKL2.out;obtain ⟨g,rfl,hgb,hgl,hnd,_,_⟩:=own_at (S:=M0) (y:=a) (T:=[]) (by have:=HO.out.own;rw[hKa] at this;exact this) (by obtain⟨g,e⟩:=HAS.out (by decide);exact⟨_,e⟩);have HMA:=AA ((HO.out.mem a (by rw[hKa];simp)).bnd);have HR0:=AA (show Bb yk.tr=[a.s] by rw[←HK.out,hKa];rfl);have HCA:=AA (show AR a.s from(CZ HGY.out.2.1).1 _ (by rw[HR0.out];simp));clear hKa;obtain ⟨e0,e1,e2,e3,e4,e5,e6⟩:=hnd;obtain ⟨⟨a0,a1,a2,a3,a4,a5⟩,aA,ac,ak⟩:=a;dsimp only at e0 e1 e2 e3 e4 e5 e6 HMA;rw [HM.out] at e0 e1 e2 e3 e4 e5 e6;replace e0:=(HF2'.out).cell e0 (fun e=>e);replace e1:=(HF2'.out).cell e1 (fun e=>e);replace e2:=(HF2'.out).cell e2 (fun e=>e);replace e3:=(HF2'.out).cell e3 (fun e=>e);replace e4:=(HF2'.out).cell e4 (fun e=>e);replace e5:=(HF2'.out).cell e5 (fun e=>e);replace e6:=(HF2'.out).cell e6 (fun e=>e);have hgl2:g<W2.heap.size:=Nat.lt_of_lt_of_le hgl HF2'.out.size;have nbc:=HNB.out.cell;have nbl:=HNB.out.lt
     go_wp2_with (first
      |(refine AB rfl rfl (by rfl) (by rfl) (by exact Av) (by rfl) (by first|exact HXB.out.alloc _|exact HXB.out) (by rfl) ?_;intro W7 hb7 hf7;have HB7:=AA hb7;have HF7:=AA hf7;have rc7:=hb7.cell;clear hb7 hf7)
      |fail);go_meet;exact ⟨⟨a0,a1,a2,a3,a4,a5⟩,⟨0,⟨#[]⟩,0,0,0,0⟩,aA,none,ac,0,ak,.nil,HNB.out.fr HF7.out (by unfold Ah;omega),HB7.out,HYB.out.fr HF7.out (by unfold Ah;omega),HF2'.out.call HF7.out (fun k hk hlt=>by have:k=wr.heap.size+1:=hk;omega),HMA.out,AJ.nil _ _,by rw[HR0.out];rfl,by rw[HR0.out];rfl,(fun _=>HCA.out),(fun e=>absurd e (by decide)),by decide⟩
    ·obtain⟨q,a,hKa⟩:∃q a,K=[q,a]:=by
      have:=HKL2.out
      match K,this with
      |[q,a],_=>exact⟨q,a,rfl⟩
     obtain⟨g,rfl,hgb,hgl,hndb,_,_⟩:=own_at (S:=M0) (y:=q) (T:=[a]) (by have:=HO.out.own;rw[hKa] at this;exact this) (by obtain⟨g,e⟩:=HAS.out (by decide);exact⟨_,e⟩);obtain ⟨g',hg',_,_,hnd,_,_⟩:=own_at (S:=M0++[q]) (y:=a) (T:=[]) (by have:=HO.out.own;rw[hKa] at this;rw[List.append_assoc];exact this) ⟨_,rfl⟩;obtain rfl:g=g':=by simpa using hg'
     clear hg';rw [List.length_append,List.length_singleton] at hnd;have HMA:=AA ((HO.out.mem a (by rw[hKa];simp)).bnd);have HMB:=AA ((HO.out.mem q (by rw[hKa];simp)).bnd);have HR0:=AA (show Bb yk.tr=[a.s,q.s] by rw[←HK.out,hKa];rfl);have HCA:=AA (show AR a.s from(CZ HGY.out.2.1).1 _ (by rw[HR0.out];simp));have HCB:=AA (show AR q.s from(CZ HGY.out.2.1).1 _ (by rw[HR0.out];simp))
     have HZB:=AA (show szS q.s≤90000 by
      have h1:=(CZ HGY.out.2.1).2;rw [HR0.out] at h1;have h2:=HGY.out.2.2;simp [Ei] at h1;omega);clear hKa;obtain ⟨e0,e1,e2,e3,e4,e5,e6⟩:=hnd;obtain ⟨f0,f1,f2,f3,f4,f5,f6⟩:=hndb;obtain ⟨⟨a0,a1,a2,a3,a4,a5⟩,aA,ac,ak⟩:=a;obtain ⟨⟨q0,q1,q2,q3,q4,q5⟩,qA,qc,qk⟩:=q;dsimp only at e0 e1 e2 e3 e4 e5 e6 f0 f1 f2 f3 f4 f5 f6 HMA HMB;rw [HM.out] at e0 e1 e2 e3 e4 e5 e6 f0 f1 f2 f3 f4 f5 f6;replace e0:=(HF2'.out).cell e0 (fun e=>e);replace e1:=(HF2'.out).cell e1 (fun e=>e);replace e2:=(HF2'.out).cell e2 (fun e=>e);replace e3:=(HF2'.out).cell e3 (fun e=>e);replace e4:=(HF2'.out).cell e4 (fun e=>e);replace e5:=(HF2'.out).cell e5 (fun e=>e);replace e6:=(HF2'.out).cell e6 (fun e=>e);replace f0:=(HF2'.out).cell f0 (fun e=>e);replace f1:=(HF2'.out).cell f1 (fun e=>e);replace f2:=(HF2'.out).cell f2 (fun e=>e);replace f3:=(HF2'.out).cell f3 (fun e=>e);replace f4:=(HF2'.out).cell f4 (fun e=>e);replace f5:=(HF2'.out).cell f5 (fun e=>e);replace f6:=(HF2'.out).cell f6 (fun e=>e);have hgl2:g<W2.heap.size:=Nat.lt_of_lt_of_le hgl HF2'.out.size;have nbc:=HNB.out.cell;have nbl:=HNB.out.lt;go_upto_region 13 with fail;have hgx:g≠wr.heap.size+1:=by omega
     have hgy:g≠wr.heap.size+1+1:=by omega
     have hn1:(m:Int)+1< (m:Int)+2:=by omega
     have hn2:(m:Int)< (m:Int)+2:=by omega
     have hn3:0≤(m:Int)+1:=by omega
     have hn4:((m:Int)+1).toNat=m+1:=by omega
     have hn5:IntKind.i64.wrap ((m:Int)+1)=(m:Int)+1:=by unfold IntKind.wrap;simp[IntKind.bits,IntKind.signed];omega
     have hn6:wrap64 ((m:Int)+1)=(m:Int)+1:=by unfold wrap64;omega
     apply key_cut (F:=fun W7 W8=>Blk W7 (wr.heap.size+1) 28 #[.int .i64 a0,.string a1,.int .i64 a2,.int .i64 a3,.int .i64 a4,.int .i64 a5,.slice aA ak.len ac]∧Fr (Ah (wr.heap.size+1)) W2.drew W7∧Blk W8 (wr.heap.size+1+1) 28 #[.int .i64 q0,.string q1,.int .i64 q2,.int .i64 q3,.int .i64 q4,.int .i64 q5,.slice qA qk.len qc]∧Fr (Ah (wr.heap.size+1+1)) W7 W8)
     case h=>
      intro key;refine wp_region_any (by kernel_rfl) ?_;change wpAny _ _ _ _ _ _ _ (World.drew _);refine wpAny_take (i:=0) (v:=?_) rfl (by kernel_rfl) (by kernel_rfl) (by kernel_rfl) (fun _ _ _ h=>h) (Or.inl ⟨by rfl,?_⟩) ?_;rotate_left
      ·(intro w;go_simp);all_goals with_reducible rfl
      rotate_left;refine wpAny_take (i:=1) (v:=?_) rfl (by kernel_rfl) (by kernel_rfl) (by kernel_rfl) (fun _ _ _ h=>h) (Or.inl ⟨by rfl,?_⟩) ?_;rotate_left
      ·(intro w;go_simp);all_goals with_reducible rfl
      rotate_left;refine wpAny_take (i:=2) (v:=?_) rfl (by kernel_rfl) (by kernel_rfl) (by kernel_rfl) (fun _ _ _ h=>h) (Or.inl ⟨by rfl,?_⟩) ?_;rotate_left
      ·(intro w;go_simp);all_goals with_reducible rfl
      rotate_left;refine wpAny_take (i:=3) (v:=?_) rfl (by kernel_rfl) (by kernel_rfl) (by kernel_rfl) (fun _ _ _ h=>h) (Or.inl ⟨by rfl,?_⟩) ?_;rotate_left
      ·(intro w;go_simp);all_goals with_reducible rfl
      rotate_left;refine wpAny_take (i:=5) (v:=?_) rfl (by kernel_rfl) (by kernel_rfl) (by kernel_rfl) (fun _ _ _ h=>h) (Or.inl ⟨by rfl,?_⟩) ?_;rotate_left
      ·(intro w;go_simp);all_goals with_reducible rfl
      rotate_left;refine wpAny_take (i:=6) (v:=?_) rfl (by kernel_rfl) (by kernel_rfl) (by kernel_rfl) (fun _ _ _ h=>h) (Or.inl ⟨by rfl,?_⟩) ?_;rotate_left
      ·(intro w;go_simp);all_goals with_reducible rfl
      rotate_left;refine wpAny_take (i:=7) (v:=?_) rfl (by kernel_rfl) (by kernel_rfl) (by kernel_rfl) (fun _ _ _ h=>h) (Or.inl ⟨by rfl,?_⟩) ?_;rotate_left
      ·(intro w;go_simp);all_goals with_reducible rfl
      rotate_left;refine wpAny_ready (rs:=[4,8]) (by kernel_rfl) (by simp) ?_;refine AllReady.cons rfl (fun K hK=>?_) (AllReady.cons rfl (fun K hK=>?_) AllReady.nil)
      ·skip;go_simp;refine hK _ _ ?_;clear hK K;refine wpAny_ready (rs:=[8,9]) (by kernel_rfl) (by simp) ?_;refine AllReady.cons rfl (fun K hK=>?_) (AllReady.cons rfl (fun K hK=>?_) AllReady.nil)
       ·skip;go_simp;refine hK _ _ ?_;clear hK K;refine wpAny_ready (rs:=[9]) (by kernel_rfl) (by simp) ?_;refine AllReady.cons rfl (fun K hK=>?_) AllReady.nil;rw [if_pos (by rfl)];refine BI rfl (by rfl) (by rfl) (by exact Av) (by rfl) HXB.out.drew (by rfl) ?_;intro W7 hb7 hf7;have f0':=hf7.cell f0 hgx;have f1':=hf7.cell f1 hgx;have f2':=hf7.cell f2 hgx;have f3':=hf7.cell f3 hgx;have f4':=hf7.cell f4 hgx;have f5':=hf7.cell f5 hgx;have f6':=hf7.cell f6 hgx;refine hK _ _ ?_;clear hK K;refine wpAny_ready (rs:=[10]) (by kernel_rfl) (by simp) ?_;refine AllReady.cons rfl (fun K hK=>?_) AllReady.nil;rw [if_pos (by rfl)];refine BI rfl (by rfl) (by rfl) (by exact Av) (by rfl) (HYB.out.drew.fr hf7 (by unfold Ah;omega)) (by rfl) ?_;intro W8 hb8 hf8;refine hK _ _ ?_;clear hK K;refine wpAny_done (by kernel_rfl) ?_ _;go_simp;exact key W7 W8 ⟨hb7,hf7,hb8,hf8⟩
       ·skip;rw [if_pos (by rfl)];refine BI rfl (by rfl) (by rfl) (by exact Av) (by rfl) HXB.out.drew (by rfl) ?_;intro W7 hb7 hf7;have f0':=hf7.cell f0 hgx;have f1':=hf7.cell f1 hgx;have f2':=hf7.cell f2 hgx;have f3':=hf7.cell f3 hgx;have f4':=hf7.cell f4 hgx;have f5':=hf7.cell f5 hgx;have f6':=hf7.cell f6 hgx;refine hK _ _ ?_;clear hK K;refine wpAny_ready (rs:=[8]) (by kernel_rfl) (by simp) ?_;refine AllReady.cons rfl (fun K hK=>?_) AllReady.nil;go_simp;refine hK _ _ ?_;clear hK K;refine wpAny_ready (rs:=[10]) (by kernel_rfl) (by simp) ?_;refine AllReady.cons rfl (fun K hK=>?_) AllReady.nil;rw [if_pos (by rfl)];refine BI rfl (by rfl) (by rfl) (by exact Av) (by rfl) (HYB.out.drew.fr hf7 (by unfold Ah;omega)) (by rfl) ?_;intro W8 hb8 hf8;refine hK _ _ ?_;clear hK K;refine wpAny_done (by kernel_rfl) ?_ _;go_simp;exact key W7 W8 ⟨hb7,hf7,hb8,hf8⟩
      ·skip;go_simp;refine hK _ _ ?_;clear hK K;refine wpAny_ready (rs:=[4]) (by kernel_rfl) (by simp) ?_;refine AllReady.cons rfl (fun K hK=>?_) AllReady.nil;go_simp;refine hK _ _ ?_;clear hK K;refine wpAny_ready (rs:=[9]) (by kernel_rfl) (by simp) ?_;refine AllReady.cons rfl (fun K hK=>?_) AllReady.nil;rw [if_pos (by rfl)];refine BI rfl (by rfl) (by rfl) (by exact Av) (by rfl) HXB.out.drew (by rfl) ?_;intro W7 hb7 hf7;have f0':=hf7.cell f0 hgx;have f1':=hf7.cell f1 hgx;have f2':=hf7.cell f2 hgx;have f3':=hf7.cell f3 hgx;have f4':=hf7.cell f4 hgx;have f5':=hf7.cell f5 hgx;have f6':=hf7.cell f6 hgx;refine hK _ _ ?_;clear hK K;refine wpAny_ready (rs:=[10]) (by kernel_rfl) (by simp) ?_;refine AllReady.cons rfl (fun K hK=>?_) AllReady.nil;rw [if_pos (by rfl)];refine BI rfl (by rfl) (by rfl) (by exact Av) (by rfl) (HYB.out.drew.fr hf7 (by unfold Ah;omega)) (by rfl) ?_;intro W8 hb8 hf8;refine hK _ _ ?_;clear hK K;refine wpAny_done (by kernel_rfl) ?_ _;go_simp;exact key W7 W8 ⟨hb7,hf7,hb8,hf8⟩
     case k=>
      rintro W7 W8 ⟨hb7,hf7,hb8,hf8⟩;have HF7:=AA ((Fr.refl (Ah (wr.heap.size+1)) W2).drew.call hf7 (fun _ h _=>h));have HB7:=AA hb7;have HB8:=AA hb8;have HF8:=AA hf8;clear hb7 hf7 hb8 hf8;go_wp2_with fail;go_meet;exact ⟨⟨a0,a1,a2,a3,a4,a5⟩,⟨q0,q1,q2,q3,q4,q5⟩,aA,qA,ac,qc,ak,qk,(HNB.out.fr HF7.out (by unfold Ah;omega)).fr HF8.out (by unfold Ah;omega),HB7.out.fr HF8.out (by unfold Ah;omega),HB8.out,(HF2'.out.call HF7.out (fun k hk hlt=>by have:k=wr.heap.size+1:=hk;omega)).call HF8.out (fun k hk hlt=>by have:k=wr.heap.size+1+1:=hk;omega),HMA.out,HMB.out,by rw[HR0.out];rfl,by rw[HR0.out];rfl,(fun _=>HCA.out),(fun _=>HCB.out),HZB.out⟩
   case rest=>
    obtain⟨⟨a0,a1,a2,a3,a4,a5⟩,⟨q0,q1,q2,q3,q4,q5⟩,aA,qA,ac,qc,ak,qk,hnb,hxb,hyb,hfc,hma,hmb,hm0',hm1',hca,hcb,hzb⟩:=hcut;replace HNB:=AA hnb;replace HXB:=AA hxb;replace HYB:=AA hyb;have HFc:=AA hfc;have HMA:=AA hma;have HMB:=AA hmb;have HE0:=AA hm0';have HE1:=AA hm1';have HCA:=AA hca;have HCB:=AA hcb;have HZB:=AA hzb;have hcut:=HCUT.out;have HOc:=AA (Ag HOX.out HFc.out (fun _ _ _ _ e=>e));clear hnb hxb hyb hfc hma hmb hm0' hm1' hca hcb hzb HF2'
    go_upto_region 15 with(first
     |(refine DC rfl _ _ rfl zeroF rfl HOc.out (by rw[Ad fnc 7 BD,HM.out]) HA6.out ?_;intro W3 hown3 hf3)
     |fail);have HBL:=AA (fun k (hk:AM.map (·.block)=some k)=>HOX.out.lt k (by cases AM<;>simp_all [Value.ownBlock]));replace HNB:=AA (HNB.out.fr hf3 (fun e=>by have:=HBL.out _ e;omega));replace HXB:=AA (HXB.out.fr hf3 (fun e=>by have:=HBL.out _ e;omega));replace HYB:=AA (HYB.out.fr hf3 (fun e=>by have:=HBL.out _ e;omega));have HF3:=AA (show Fr (fun k=>AM.map (·.block)=some k) wr W3 from(HFc.out.mono (fun _ _ h=>h.elim)).call hf3 (fun _ h _=>h));have HOW:=AA hown3;have HMC:=AA (show AJ (fun k=>OfP w2.heap.size w AM k∧k<W3.heap.size) W3.drew aA ac ak from(HMA.out.keep (w':=W3.drew) (fun k hk hlt=>HF3.out.block k hlt (fun e=>hk.1.2 e))).mono fun k hk=>⟨hk.1,Nat.lt_of_lt_of_le hk.2 HF3.out.size⟩);have HMD:=AA (show AJ (fun k=>OfP w2.heap.size w AM k∧k<W3.heap.size) W3.drew qA qc qk from(HMB.out.keep (w':=W3.drew) (fun k hk hlt=>HF3.out.block k hlt (fun e=>hk.1.2 e))).mono fun k hk=>⟨hk.1,Nat.lt_of_lt_of_le hk.2 HF3.out.size⟩);clear hown3 hf3 hcut
    have hkp:(4:Int)≤y0→0<kn:=fun h4=>by
     have:=HOPK.out;unfold Aq at this;rw [if_neg (by omega)] at this;split at this<;>omega
    have hkq:(4:Int)≤y0→y0≠4→y0≠9→y0≠10→1<kn:=fun h4 h5 h6 h7=>by
     have:=HOPK.out;unfold Aq at this;rw [if_neg (by omega),if_neg (by omega)] at this;omega
    have HKP:=AA hkp;have HKQ:=AA hkq;clear hkp hkq hkn;have hcut2:=fun W=>Fe DB AM (n:=m) (cap:=cM) m hcM W;have nbc:=HNB.out.cell;have nbl:=HNB.out.lt;have xbc:=HXB.out.cell;have xbl:=HXB.out.lt;have ybc:=HYB.out.cell;have ybl:=HYB.out.lt;try clear d0 d1 d2 d3 d4 d5 d6
    have HBC:=AA (n_become W3.drew (fun k=>OfP w2.heap.size w AM k∧k<W3.heap.size) (fun k hk=>hk.2) ⟨y0,y1,y2,y3,y4,y5⟩ ⟨a0,a1,a2,a3,a4,a5⟩ ⟨q0,q1,q2,q3,q4,q5⟩ yA aA qA kn yc ac qc (ak) (qk) (HMC.out) (HMD.out) HOP.out.1 HOP.out.2.1 (fun h4=>HCA.out (HKP.out h4)) (fun h4 h5 h6 h7=>HCB.out (HKQ.out h4 h5 h6 h7)) (HZB.out));unfold AF at HBC;dsimp only[Fo.len] at HBC;have ndc:=HNB.out.drew.cell;have xdc:=HXB.out.drew.cell;have ydc:=HYB.out.drew.cell;have HN0:=AA HF.out.size;obtain ⟨i0,hi0,hz0,hz1,hz2⟩:=info_parts (show (Tryz.prog.info? 28).map (fun i=>(i.zero,i.size,i.bytes))=some (some (.agg #[.int .i64 0,.string default,.int .i64 0,.int .i64 0,.int .i64 0,.int .i64 0,.slice none 0 0]),7,80) by kernel_rfl)
    go_region_law
     (first
       |(rw [if_pos (by rfl)];go_simp;(go_at_call 111);(with_reducible refine(HBC.out).mono ?_);rintro e w4 ⟨o1,n1,m1,v1,l1,i1,A1,c1,k1,rfl,he,hs1,hf1⟩;have HE:=AA he;have HS1:=AA hs1;have HF4:=AA hf1;have nd4:=(HNB.out.drew.fr hf1 (fun e=>e)).cell;have xd4:=(HXB.out.drew.fr hf1 (fun e=>e)).cell;have yd4:=(HYB.out.drew.fr hf1 (fun e=>e)).cell;have hs4:=hf1.size;clear he hs1 hf1;go_simp)
       |(refine step_append_lies (w4.alloc (.cells #[.int .i64 o1,.string n1,.int .i64 m1,.int .i64 v1,.int .i64 l1,.int .i64 i1,.slice A1 k1.len c1] 28)) (by rfl) _ _ _ (by rfl) w2.heap.size 28 i0 _ 7 80 Tryz.underlying26 hi0 hz0 hz1 hz2 (by rfl) (by decide) (.slice AM m cM) m (M0.flatMap fnc) (by rfl) (Ag HOW.out (((Fr.refl Nob W3).drew.call HF4.out (fun _ h _=>h)).alloc _) (fun _ _ _ _ e=>e)) ⟨w4.heap.size,0,none⟩ 1 1 (fnc ⟨⟨o1,n1,m1,v1,l1,i1⟩,A1,c1,k1⟩) (by rfl) (by rfl) (World.news_of_block (heap_alloc_new w4 _)) (ER _) (by decide) (by unfold maxLen;omega) (by omega) (by have:=HN0.out;have:=HF3.out.size;have:=HF4.out.size;simp at*;omega) (w4.heap.size+1) (by simp) ?_;intro g5 c5 w5 hown5 hgr5 hat5 hlt5;have HO5:=AA hown5;have HG5:=AA hgr5;have HA5:=AA hat5;clear hown5 hgr5 hat5))
    all_goals
     go_wp2_with fail;go_roundw
     case rel=>
      have hg5:(w4.alloc (.cells #[.int .i64 o1,.string n1,.int .i64 m1,.int .i64 v1,.int .i64 l1,.int .i64 i1,.slice A1 k1.len c1] 28)).grownBy w5 ((AM:Option Addr).map (·.block)):=by rw[←ob_map AM m cM];exact HG5.out
      have hl5:Lies (some ⟨g5,0,none⟩) AM (w4.heap.size+1):=by
       rcases HA5.out with h|h;·left;rw[ob_map] at h;rw[h];rfl
       ·right;rw[h];rfl
      refine⟨i+1,by omega,by go_num,AA ⟨some ⟨g5,0,none⟩,c5,M0++[⟨⟨o1,n1,m1,v1,l1,i1⟩,A1,c1,k1⟩],by simp[HM.out],?_,?_⟩⟩
      ·rw[show n-(i+1)=n-1-i by omega];refine OfI.next (K:=K) (HO.out) HM.out HST1.out HM0.out ?_ HN0.out HF3.out.drew (HF4.out.alloc _) (AJ.fr HS1.out ((Fr.refl _ _).alloc _)) HO5.out hg5 hl5 (by simp);show _=madeS _ _;unfold madeS;rw [HE0.out,HE1.out];exact HE.out
      ·refine((((HF.out.call HF3.out (fun k hk hlt=>?_)).drew).call HF4.out (fun _ h _=>h)).alloc _).grown hg5 (fun k hk hlt=>?_)
       ·have:=AX HOW.out k hk;omega
       ·have:=AX HOW.out k hk;omega
     case measure=>simp[intOf];omega
  ·obtain rfl:i=n:=by omega
   rw[Nat.sub_self] at ho;have hv:=ho.val;rw [HEN.out,HS0.out] at hv
   obtain⟨y,rfl⟩:∃y,M=[y]:=by
    have h1:=congrArg List.length hv;simp only[List.length_map,List.length_reverse,List.length_cons,List.length_nil] at h1;exact List.length_eq_one_iff.1 h1
   have hys:y.s=Fm root:=by simpa using hv
   have hAs:∃a,AM=some a:=by
    rcases ho.own.2 with⟨_,h2⟩|⟨g,cap,cur,h1,_⟩;·simp at h2
    ·simp only[Value.slice.injEq] at h1;exact⟨_,h1.1⟩
   obtain⟨g,rfl,hgb,hgl,hnd,hc1,hc2⟩:=Ew (S:=[]) ho.own hAs rfl;obtain ⟨d0,d1,d2,d3,d4,d5,d6⟩:=hnd;have HMY:=AA (ho.mem y (List.mem_singleton.2 rfl));have HYS:=AA hys;have HZr:=AA (HZ2.out.fr hf (fun e=>e));have HFr:=AA (HF2.out.call hf (fun _ h _=>h));have HSZ:=AA (show w.heap.size+1<w2.heap.size from HZ2.out.lt);have HSR:=AA hf.size;clear ho hf hv hys hAs hR hc1 hc2;obtain ⟨⟨y0,y1,y2,y3,y4,y5⟩,yA,yc,yk⟩:=y;simp only[List.length_nil,Nat.zero_mul,Nat.zero_add] at d0 d1 d2 d3 d4 d5 d6;have hii:¬(i:Int)<i:=by omega
   simp only[List.length_cons,List.length_nil,Nat.zero_add]
   go_wp2_with (first
    |(refine AB rfl rfl (by rfl) (by rfl) (by exact Av) (by rfl) (by first|exact HZr.out.alloc _|exact HZr.out) (by rfl) ?_;intro W7 hb7 hf7;have HB7:=AA hb7;have HF7:=AA hf7;have rc7:=hb7.cell;clear hb7 hf7)
    |fail);refine bodyPost_ret (v:=.agg #[.int .i64 y0,.string y1,.int .i64 y2,.int .i64 y3,.int .i64 y4,.int .i64 y5,.slice yA yk.len yc]) (by simp[results,Tryz.results65,go_sem,rc7]) rfl ?_
   exact AQ.put (x:=⟨y0,y1,y2,y3,y4,y5⟩) HYS.out HMY.out (fun k hk _=>by
    have h1:=HSZ.out;rcases hk.1 with h|h;·exact⟨.inl h,by omega⟩
    ·exact⟨.inr (by omega),by omega⟩) HFr.out (by omega) HF7.out
end Go.Proofs.YtoegdmpmagbaiaaGreatDoor
