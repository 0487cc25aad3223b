/- Words: a word with one more event. -/
import Derived.Test.YtoegdmpmagbaiaaGreatDoorKQ
import Derived.ArgAppend
set_option maxHeartbeats 4000000
set_option maxRecDepth 100000
namespace Go.Proofs.YtoegdmpmagbaiaaGreatDoor
open Go.RowKit Go.Sort Go.Lib
def putW (l:List Pt)(t:Int)(ps:List PP):List Pt×Nat×Bool:=
 if AU l=false then([],0,false)
 else if(decide (0≤t)&&Am (lof ps))=false then(l,0,false)
 else if h:∃hk:fromI l t<l.length,l[fromI l t].1=t then(l.set (fromI l t) (t,lof ((l[fromI l t]'h.1).2++ps)),fromI l t,false)
 else(l.take (fromI l t)++(t,lof ps)::l.drop (fromI l t),fromI l t,true)
structure DH (N:Nat) (w:World) (A:Option Addr) (c:Nat) (qs:List Pn):Prop where
 wsl:WSl w A c qs
 top:∀b o,A=some ⟨b,o,none⟩→N≤b
 low:∀p∈qs,∀b o,p.A=some ⟨b,o,none⟩→N≤b∧∀g o',A=some ⟨g,o',none⟩→b≠g
 tfree:∀b o,A=some ⟨b,o,none⟩→Pb w b
 free:∀p∈qs,∀b o,p.A=some ⟨b,o,none⟩→Pb w b
theorem G8.fresh {N:Nat}{w:World}{g:Nat}{qs:List Pn}(h:G8 N w g qs)(hm:qs.length≤1000000):DH N w (some ⟨g,0,none⟩) qs.length qs:=
 ⟨h.sl hm,fun b o e=>by cases e;exact h.new,fun p hp b o e=>⟨((h.inn p hp).2 b o e).1,fun g' o' e'=>by cases e';exact((h.inn p hp).2 b o e).2.1⟩,fun b o e=>by cases e;exact⟨_,_,h.blk⟩,fun p hp b o e=>((h.inn p hp).2 b o e).2.2⟩
theorem DH.mono {N M:Nat}{w:World}{A:Option Addr}{c:Nat}{qs:List Pn}(h:DH N w A c qs)(hM:M≤N):DH M w A c qs:=⟨h.wsl,fun b o e=>Nat.le_trans hM (h.top b o e),fun p hp b o e=>⟨Nat.le_trans hM (h.low p hp b o e).1,(h.low p hp b o e).2⟩,h.tfree,h.free⟩
theorem DH.none_ (N:Nat)(w:World):DH N w none 0 []:=⟨⟨Sl.none_ _ _,(fun p hp=>by cases hp)⟩,(fun _ _ e=>by cases e),(fun p hp=>by cases hp),(fun _ _ e=>by cases e),(fun p hp=>by cases hp)⟩
theorem Ge {qs:List Pn}{k:Nat}(hk:k<qs.length):(qs.flatMap pnc).toArray[k*2+1]?=some (.slice qs[k].A qs[k].l.length qs[k].c):=by
 have h:=Bw pnc 2 C8 qs k 1 hk (by omega);rw [List.getElem?_toArray,h];rfl
theorem qs_set:∀{qs:List Pn} {k:Nat} (hk:k<qs.length) (A':Option Addr) (c':Nat) (l':List PP),(qs.flatMap pnc).set (k*2+1) (.slice A' l'.length c')=(qs.set k ⟨qs[k].t,A',c',l'⟩).flatMap pnc
 |[],k,hk,_,_,_=>by simp at hk
 |q::qs,0,_,_,_,_=>rfl
 |q::qs,k+1,hk,A',c',l'=>by
  have ih:=qs_set (qs:=qs) (k:=k) (by simpa using hk) A' c' l';rw [List.flatMap_cons,show(k+1)*2+1=(k*2+1)+2 by omega,List.set_append_right _ _ (by rw[C8];omega),C8,Nat.add_sub_cancel,ih];rfl
theorem G8.put {N:Nat}{w1 w2:World}{g:Nat}{qs:List Pn}{k:Nat}{A':Option Addr}{c':Nat}{l':List PP}(h:G8 N w1 g qs)(hk:k<qs.length)(hN:N≤w1.heap.size)(hf:Fr Nob w1 w2)(hs:Sl w2 2 A' l'.length c' (l'.flatMap pcs))(hn:∀b o,A'=some ⟨b,o,none⟩→w1.heap.size≤b∧Pb w2 b):
 G8 N (w2.setCell ⟨g,k*2+1,none⟩ (.slice A' l'.length c')) g (qs.set k ⟨qs[k].t,A',c',l'⟩):=by
 have hgl:=h.blk.lt;refine ⟨?_,h.new,?_⟩
 ·have:=(h.blk.fr hf (fun e=>e)).set (k*2+1) (.slice A' l'.length c');rwa [List.setIfInBounds_toArray,qs_set hk] at this
 ·intro q hq;rcases List.mem_or_eq_of_mem_set hq with hq|rfl
  ·obtain⟨h1,h2⟩:=h.inn q hq;exact ⟨(h1.pure hf).set (p:=⟨g,k*2+1,none⟩) (fun b o e=>(h2 b o e).2.1) _,fun b o e=>⟨(h2 b o e).1,(h2 b o e).2.1,((h2 b o e).2.2.fr hf (fun e=>e)).set _ _ _⟩⟩
  ·refine⟨hs.set (p:=⟨g,k*2+1,none⟩) (fun b o e=>?_) _,fun b o e=>?_⟩;·have:=(hn b o e).1;simp;omega
   ·have:=(hn b o e).1;exact⟨by omega,by omega,(hn b o e).2.set _ _ _⟩
theorem Es {qs:List Pn}{k:Nat}{A':Option Addr}{c':Nat}{l':List PP}(hk:k<qs.length):pts (qs.set k ⟨qs[k].t,A',c',l'⟩)=(pts qs).set k (qs[k].t,l'):=by
 unfold pts;rw[List.map_set];rfl
def PutR (w:World)(q:List Pt×Nat×Bool)(e:Ending)(w':World):Prop:=∃(A':Option Addr) (c':Nat) (qs:List Pn),e=.returned (.tuple #[.slice A' qs.length c',.int .i64 q.2.1,.bool q.2.2])∧pts qs=q.1∧DH w.heap.size w' A' c' qs∧Fr Nob w w'
theorem run_cut3 {P:Program}{t e:TypeId}{size bytes:Nat}(hE:BP P t e size bytes)(A:Option Addr){n cap:Nat}(k:Nat)(hk:k≤cap)(W:World):
 (Instr.slice t (.slice A n cap) none (some (.int .i64 k)) (some (.int .i64 k))).run P W=.ok (.slice A k k) W:=by
 obtain⟨ht,_,i,z,hi,_,hsize,_,_⟩:=hE;have he:P.elem t=e:=by simp[Program.elem,ht]
 have ht':P.underlying t=some (.slice (P.elem t)):=by rw[he];exact ht
 rw[run_slice_hm W t A n cap ht' .i64 .i64 k k (by omega) (by omega) (by omega),he];simp [sizeOf,typeInfo,hi,sliced,hsize];intro _
 cases A with
 |none=>rfl
 |some a=>simp[Addr.add];(try (obtain ⟨b,o,s⟩:=a;cases s<;>rfl))
theorem FB:∀(ps:List Pn) (k:Nat),(ps.flatMap pnc).drop (k*2)=(ps.drop k).flatMap pnc
 |[],_=>by simp
 |p::ps,0=>by simp
 |p::ps,k+1=>by
  have h:=FB ps k;rw [List.flatMap_cons,List.drop_succ_cons,←h];rw [show (k+1)*2=k*2+1+1 by omega];rfl
def D4 (ps:List Pn)(k:Nat)(q:Pn):List Pn:=ps.take k++q::ps.drop k
theorem CA {ps:List Pn}{k:Nat}{q:Pn}(hk:k≤ps.length):(D4 ps k q).length=k+1+(ps.length-k):=by
 unfold D4;rw[List.length_append,List.length_cons,List.length_take,List.length_drop];omega
theorem D3 {ps:List Pn}{k:Nat}{q p:Pn}(h:p∈D4 ps k q):p∈ps∨p=q:=by
 unfold D4 at h;rw [List.mem_append,List.mem_cons] at h;rcases h with h|h|h;·exact .inl (List.mem_of_mem_take h)
 ·exact .inr h
 ·exact .inl (List.mem_of_mem_drop h)
theorem ins_sl {w w5:World}{A A5:Option Addr}{c c5 m:Nat}{ps:List Pn}{k base:Nat}{q:Pn}(hk:k≤ps.length)(hm:m=k+1+(ps.length-k))(h:WSl w A c ps)(hq:Sl w 2 q.A q.l.length q.c (q.l.flatMap pcs))(hf:Fr Nob w w5)
 (hown:w5.ownsRow base 78 2 (.slice A5 m c5) m ((ps.take k).flatMap pnc++(pnc q++(ps.drop k).flatMap pnc))):m=(D4 ps k q).length∧WSl w5 A5 c5 (D4 ps k q):=by
 have e:m=(D4 ps k q).length:=by rw[CA hk,hm]
 refine⟨e,?_,fun p hp=>?_⟩
 ·have h1:=Sl.of_own hown;rw [e] at h1;have e2:(D4 ps k q).flatMap pnc=(ps.take k).flatMap pnc++(pnc q++(ps.drop k).flatMap pnc):=by unfold D4;simp
  rw[e2];exact h1
 ·rcases D3 hp with hp|rfl;·exact(h.inn p hp).pure hf
  ·exact hq.pure hf
theorem F7 {ps qs:List Pn}{k:Nat}{q:Pn}(hk:k≤ps.length)(h:pts qs=pts (D4 ps k q)):∃hq:k<qs.length,qs[k].t=q.t∧qs[k].l=q.l∧∀l':List PP,(pts qs).set k (q.t,l')=(pts ps).take k++(q.t,l')::(pts ps).drop k:=by
 have hlen:qs.length=(D4 ps k q).length:=by have:=congrArg List.length h;rwa[AC,AC] at this
 have hq:k<qs.length:=by rw[hlen,CA hk];omega
 have e0:pts (D4 ps k q)=(pts ps).take k++(q.t,q.l)::(pts ps).drop k:=by unfold pts D4;rw[List.map_append,List.map_cons,List.map_take,List.map_drop];rfl
 have ht:((pts ps).take k).length=k:=by rw[List.length_take,AC];omega
 have e1:(pts qs)[k]?=some (q.t,q.l):=by rw[h,e0,List.getElem?_append_right (by omega),ht,Nat.sub_self];rfl
 have e2:(pts qs)[k]?=some qs[k].pt:=by rw[List.getElem?_eq_getElem (by rw[AC];exact hq),Ck hq]
 rw[e2] at e1;have e3:qs[k].pt=(q.t,q.l):=by simpa using e1
 refine⟨hq,congrArg Prod.fst e3,congrArg Prod.snd e3,fun l'=>?_⟩;rw [h,e0,List.set_append_right _ _ (by omega),ht,Nat.sub_self];rfl
theorem wd_Put (w:World)(A:Option Addr)(c:Nat)(ps:List Pn)(t:Int)(B:Option Addr)(d:Nat)(l:List PP)(h:WSl w A c ps)(hnm:NmW ps)(hfew:ps.length≤900)(hpl:∀p∈ps,p.l.length≤900)
 (hl:Sl w 2 B l.length d (l.flatMap pcs))(hln:∀x∈l,x.name.size≤9223372036854775807)(hlf:l.length≤900):
 Calls Tryz.prog 26 #[.slice A ps.length c,.int .i64 t,.slice B l.length d] w (PutR w (putW (pts ps) t l)):=by
 have HR:=AA (Eg w A c ps h hnm (by omega));have HM:=AA (fun X (hf:Fr Nob w X)=>wd_may X t B d l (hl.pure hf) hln (by omega));have HL:=AA h;have HP:=AA hl;unfold putW;cases hr:AU (pts ps)
 ·rw[hr] at HR;rw [if_pos rfl];clear h hl hnm hln hr hpl;unfold PutR;go_enter Tryz.func26,Tryz.ntmps26
  go_wp2_with (first
   |((go_at_call 49);(with_reducible refine(HR.out).mono ?_);rintro e w1 ⟨rfl,hf1⟩;have HF:=AA hf1;clear hf1)
   );go_ret3;exact ⟨none,0,[],rfl,rfl,DH.none_ _ _,HF.out⟩
 ·rw[hr] at HR;rw [if_neg (by simp)];cases hm:(decide (0≤t)&&Am (lof l))
  ·rw[hm] at HM;rw [if_pos rfl];have HC:=AA (fun X (hf:Fr Nob w X)=>Cl X A c ps (h.pure hf) (by omega) (fun p hp=>by have:=hpl p hp;omega));clear h hl hnm hln hr hpl hm;unfold PutR;go_enter Tryz.func26,Tryz.ntmps26
   go_wp2_with (first
    |((go_at_call 49);(with_reducible refine(HR.out).mono ?_);rintro e w1 ⟨rfl,hf1⟩;have HF:=AA hf1;clear hf1)
    |((go_at_call 50);(with_reducible refine(HM.out _ HF.out).mono ?_);rintro e w2 ⟨rfl,hf2⟩;replace HF:=AA (HF.out.call hf2 (fun _ h _=>h));clear hf2)
    |((go_at_call 51);(with_reducible refine(HC.out _ HF.out).mono ?_);rintro e w3 ⟨g,qs,rfl,hqs,hnew,hf3⟩));have hlen:qs.length=ps.length:=by have:=congrArg List.length hqs;rwa[AC,AC] at this
   have hfr:=hnew.fresh (by omega);rw [←hlen];go_ret3;refine ⟨_,_,qs,rfl,hqs,?_,HF.out.call hf3 (fun _ h _=>h)⟩;exact hfr.mono HF.out.size
  ·rw[hm] at HM;rw [if_neg (by simp)];have hkl:=Cg (pts ps) t;rw [AC] at hkl
   have HFM:=AA (fun X (hf:Fr Nob w X)=>(show Calls Tryz.prog 28 #[.slice A ps.length c,.int .i64 t] X fun e w'=>e=.returned (.int .i64 (fromI (pts ps) t:Nat))∧Fr Nob X w' by
    have:=wd_From X A c ps t (h.pure hf) hnm (by omega);unfold fromW at this;rwa [hr,if_pos rfl] at this));have HC:=AA (fun X (hf:Fr Nob w X)=>Cl X A c ps (h.pure hf) (by omega) (fun p hp=>by have:=hpl p hp;omega));by_cases H:∃hk:fromI (pts ps) t< (pts ps).length,(pts ps)[fromI (pts ps) t].1=t
   ·rw[dif_pos H];obtain ⟨hk,hkt⟩:=H;have hkp:fromI (pts ps) t<ps.length:=by rw[←AC ps];exact hk
    have ht2:(ps[fromI (pts ps) t]'hkp).t=t:=by rw[Ck hkp hk] at hkt;exact hkt
    rw[show ((pts ps)[fromI (pts ps) t]'hk).2=(ps[fromI (pts ps) t]'hkp).l by rw[Ck hkp hk];rfl];clear hkt;generalize fromI (pts ps) t=k at*;have hkI:(k:Int)<ps.length:=by omega
    have hk0:0≤(k:Int):=by omega
    obtain⟨b,off,hA,hb,d0,d1⟩:=h.at_ hkp;rw [ht2] at d0;have HD:=AA (fun X (hf:Fr Nob w X)=>(⟨hf.cell d0 (fun e=>e),Nat.lt_of_lt_of_le hb hf.size⟩:X.cell? ⟨b,off+k*2,none⟩=some (.int .i64 t)∧b<X.heap.size));have HU:=AA (fun X D f (hs:Sl X 2 D ps[k].l.length f (ps[k].l.flatMap pcs)) (hf:Fr Nob w X)=>lab_UnionN X D f ps[k].l B d l hs (hl.pure hf) (by have:=hpl ps[k] (List.getElem_mem hkp);omega) (by omega))
    have HT:=AA (show ∀qs:List Pn,pts qs=pts ps→∃hq:k<qs.length,qs[k].t=t∧qs[k].l=ps[k].l from fun qs hqs=>by
     have hlen:qs.length=ps.length:=by have:=congrArg List.length hqs;rwa[AC,AC] at this
     have hq:k<qs.length:=by omega
     refine⟨hq,?_⟩;have e1:(pts qs)[k]'(by rw[AC];exact hq)=(pts ps)[k]:=by simp only[hqs]
     rw[Ck hq,Ck hkp] at e1;exact ⟨(congrArg Prod.fst e1).trans ht2,congrArg Prod.snd e1⟩);clear h hl hnm hln hr hpl hm d0 d1 ht2 hb;generalize ps[k].l=m at*;subst hA;unfold PutR;go_enter Tryz.func26,Tryz.ntmps26
    go_upto_region 8 with(first
     |((go_at_call 49);(with_reducible refine(HR.out).mono ?_);rintro e w1 ⟨rfl,hf1⟩;have HF:=AA hf1;clear hf1)
     |((go_at_call 50);(with_reducible refine(HM.out _ HF.out).mono ?_);rintro e w2 ⟨rfl,hf2⟩;replace HF:=AA (HF.out.call hf2 (fun _ h _=>h));clear hf2)
     |((go_at_call 28);(with_reducible refine(HFM.out _ HF.out).mono ?_);rintro e w3 ⟨rfl,hf2⟩;replace HF:=AA (HF.out.call hf2 (fun _ h _=>h));obtain⟨d0,hb⟩:=HD.out _ HF.out;clear hf2)
     |((go_at_call 51);(with_reducible refine(HC.out _ HF.out).mono ?_);rintro e w4 ⟨g,qs,rfl,hqs,hnew,hf3⟩;have hs34:=hf3.size;have HN:=AA hnew;have HF3:=AA (HF.out.call hf3 (fun _ h _=>h));have HQS:=AA hqs;clear hnew hf3 hqs));obtain ⟨hq,hqt,hql⟩:=HT.out qs HQS.out;have hlen:qs.length=ps.length:=by have:=congrArg List.length HQS.out;rwa[AC,AC] at this
    have c4:w4.cell? ⟨g,k*2+1,none⟩=some (.slice qs[k].A m.length qs[k].c):=by rw[HN.out.blk.cell,Ge hq,hql]
    have l4:=HN.out.blk.lt;have hu:=(HN.out.inn _ (List.getElem_mem hq)).1;rw [hql] at hu;have HUU:=AA (HU.out w4 qs[k].A qs[k].c hu HF3.out);have HPT:=AA (fun A' c' w5 hf hs hn=>HN.out.put (A':=A') (c':=c') (w2:=w5) (l':=lof (m++l)) hq hs34 hf hs hn);have HB4:=AA (fun X (hf:Fr Nob w4 X)=>HN.out.blk.fr hf (fun e=>e));clear hu;have HSE:=AA (fun A' c'=>(show pts (qs.set k ⟨qs[k].t,A',c',lof (m++l)⟩)=(pts ps).set k (t,lof (m++l)) by rw[Es hq,HQS.out,hqt]));obtain ⟨u,hu⟩:∃u,lof (m++l)=u:=⟨_,rfl⟩;rw [hu] at HUU HPT HSE;have HU0:=AA hu;clear hu
    go_wp2_with (first
     |((go_at_call 52);(with_reducible refine(HUU.out).mono ?_);rintro e w5 ⟨A',c',rfl,hs5,hf5,hn5⟩;have hb5:=HB4.out _ hf5;have f5:=hb5.frozen (k*2+1);have l5:=hb5.lt;have c5:=hf5.cell c4 (fun e=>e);have HNW:=AA (HPT.out A' c' w5 hf5 hs5 hn5);have HF5:=AA (HF3.out.call hf5 (fun _ h _=>h));clear hb5 hs5 hf5 hn5));rw [←hlen];rw [show qs.length=(qs.set k ⟨qs[k].t,A',c',u⟩).length by simp];go_ret3;rw [HU0.out];have hfin:=HNW.out.fresh (by simp;omega);refine ⟨_,_,_,rfl,HSE.out A' c',hfin.mono HF.out.size,?_⟩;exact HF5.out.setCell (p:=⟨g,k*2+1,none⟩) (fun hlt=>absurd hlt (by have:=HN.out.new;have:=HF.out.size;simp;omega)) _
   ·rw[dif_neg H];have hne:∀hk:fromI (pts ps) t<ps.length,¬(ps[fromI (pts ps) t]'hk).t=t:=fun hk e=>H ⟨by rw[AC];exact hk,by rw[Ck hk];exact e⟩;have hcl:ps.length≤c:=h.sl.le;obtain ⟨i0,hi0,hz0,hz1,hz2⟩:=info_parts (show (Tryz.prog.info? 78).map (fun i=>(i.zero,i.size,i.bytes))=some (some (.agg #[.int .i64 0,.slice none 0 0]),2,32) by kernel_rfl);have HO:=AA (fun X (hf:Fr Nob w X)=>lab_Of X B d l (hl.pure hf) (by omega));clear H hm hr hnm hln;generalize fromI (pts ps) t=k at*;have hc3:=fun W=>run_cut3 (P:=Tryz.prog) EA A (n:=ps.length) (cap:=c) k (by omega) W
    obtain⟨A2,hcc,hcs⟩:∃A2,(∀W,(Instr.slice 71 (.slice A ps.length c) (some (.int .i64 k)) none none).run Tryz.prog W=.ok (.slice A2 (ps.length-k) (c-k)) W)∧∀W,Fr Nob w W→Sl W 2 A2 (ps.length-k) (c-k) ((ps.drop k).flatMap pnc):=by
     refine⟨_,fun W=>EJ (P:=Tryz.prog) EA A (n:=ps.length) (cap:=c) k hkl W,fun W hf=>?_⟩;have h1:=(h.sl.pure hf).cut hkl;rwa [FB] at h1
    have HCS:=AA hcs;clear hcs;have hk0:0≤(k:Int):=by omega
    have HPL:=AA hpl;clear h hl hpl;unfold PutR;by_cases hkn:k<ps.length
    ·have hkI:(k:Int)<ps.length:=by omega
     obtain⟨b,off,hA,hb,d0,d1⟩:=HL.out.at_ hkn;have hnt:(ps[k].t==t)=false:=by simpa using hne hkn
     have HD:=AA (fun X (hf:Fr Nob w X)=>(⟨hf.cell d0 (fun e=>e),Nat.lt_of_lt_of_le hb hf.size⟩:X.cell? ⟨b,off+k*2,none⟩=some (.int .i64 ps[k].t)∧b<X.heap.size));clear d0 d1 hb hne;generalize ps[k].t=t0 at*;go_enter Tryz.func26,Tryz.ntmps26;subst hA
     go_upto_region 10 with(first
      |((go_at_call 49);(with_reducible refine(HR.out).mono ?_);rintro e w1 ⟨rfl,hf1⟩;have HF:=AA hf1;clear hf1)
      |((go_at_call 50);(with_reducible refine(HM.out _ HF.out).mono ?_);rintro e w2 ⟨rfl,hf2⟩;replace HF:=AA (HF.out.call hf2 (fun _ h _=>h));clear hf2)
      |((go_at_call 28);(with_reducible refine(HFM.out _ HF.out).mono ?_);rintro e w3 ⟨rfl,hf2⟩;replace HF:=AA (HF.out.call hf2 (fun _ h _=>h));obtain⟨d0,hb⟩:=HD.out _ HF.out;clear hf2));go_upto_region 11 with(at_builtin;refine wpList_append_grows _ rfl _ _ 71 rfl 78 i0 _ 2 32 Tryz.underlying71 hi0 hz0 hz1 hz2 (by decide) (by decide) (some ⟨b,off,none⟩) k k ((ps.take k).flatMap pnc) rfl ?nn1 ?lo1 ?ho1 ⟨w3.heap.size,0,none⟩ 1 1 (pnc ⟨t,B,d,l⟩) rfl rfl ?hc1 ?on1 ?fu1 ?ba1 ?bb1 ?_);case nn1=>first|(have:=HH0.out;omega)|(intro e;cases e;done)|(intro _;have:=HH0.out;omega)
     case lo1=>rw[Aw,List.length_take];omega
     case ho1=>
      intro b2 e j u hu;have hlt:=(List.getElem?_eq_some_iff.1 hu).1;rw [Aw,List.length_take] at hlt
      first
       |(exfalso;have:=HH0.out;omega)
       |(obtain ⟨b3,off3,e3,_,hc4⟩:=HL.out.sl.cells (by omega);cases e;cases e3;rw [Aa];refine ((HF.out.alloc _).cell (hc4 j u ?_) (fun e=>e));rw [←hu];have e5:ps.flatMap pnc=(ps.take k).flatMap pnc++(ps.drop k).flatMap pnc:=by rw[←List.flatMap_append,List.take_append_drop]
         rw[e5,List.getElem?_append_left (by rw[Aw,List.length_take];exact hlt)])
     case hc1=>
      intro j u hu;rw [Aa,Nat.zero_add,(Blk.new _ _ _).cell];simpa [pnc] using hu
     case on1=>exact C7 _
     case fu1=>omega
     case ba1=>unfold maxLen;omega
     case bb1=>omega
     intro v1 w4 hown hgr;obtain ⟨g1,c1,rfl,_,hg1l⟩:=hown.form (by omega);have HOW:=AA hown;have HF4:=AA ((HF.out.alloc _).grown hgr (fun k e=>by cases e));clear hown hgr hc3;go_upto_region 12 with(first|(at_builtin;refine AP rfl _ _ 71 rfl EA (base:=w3.heap.size+1) (xs:=(ps.take k).flatMap pnc++pnc ⟨t,B,d,l⟩) (news:=(ps.drop k).flatMap pnc) rfl ?ow1 rfl ?sr1 ?oe1 ?h61 ?by1 ?bs1 ?_));case ow1=>exact HOW.out
     case sr1=>exact HCS.out _ HF4.out
     case oe1=>exact Bu _
     case h61=>unfold maxLen;omega
     case by1=>omega
     case bs1=>omega
     intro A5 c5 w5 hown5 hgr5 _;have hg1b:=B9 HOW.out g1 0 rfl;have HF5:=AA (HF4.out.grown hgr5 (fun q e hlt=>by have:=HF.out.size;simp at e;omega));obtain ⟨hm5,hw5⟩:=ins_sl hkl rfl HL.out HP.out HF5.out hown5 (q:=⟨t,B,d,l⟩);rw [hm5]
     have HC5:=AA (Cl w5 A5 c5 _ hw5 (by rw[CA hkl];omega) (fun p hp=>by
      rcases D3 hp with hp|rfl;·have:=HPL.out p hp;omega
      ·show l.length≤10000;omega));have HGT:=AA (fun qs hqs=>F7 (qs:=qs) (q:=⟨t,B,d,l⟩) hkl hqs);have hm6:(D4 ps k ⟨t,B,d,l⟩).length=ps.length+1:=by rw[CA hkl];omega
     rw[hm6] at HC5 ⊢;clear hown5 hgr5 hm5 hw5 HCS hcc hg1b hg1l;go_upto_region 12 with(first|((go_at_call 51);(with_reducible refine(HC5.out).mono ?_);rintro e w6 ⟨g,qs,rfl,hqs,hnew,hf6⟩;have hs56:=hf6.size;have HN:=AA hnew;have HF6:=AA (HF5.out.call hf6 (fun _ h _=>h));have HQS:=AA hqs;clear hnew hf6 hqs));obtain ⟨hq,hqt,hql,hset⟩:=HGT.out qs HQS.out;have hlen:ps.length+1=qs.length:=by have:=congrArg List.length HQS.out;rw[AC,AC,hm6] at this;exact this.symm
     have c6:w6.cell? ⟨g,k*2+1,none⟩=some (.slice qs[k].A qs[k].l.length qs[k].c):=by rw[HN.out.blk.cell,Ge hq]
     have l6:=HN.out.blk.lt;have hqI:(k:Int)<qs.length:=by omega
     have HPT:=AA (fun A' c' w7 hf hs hn=>HN.out.put (A':=A') (c':=c') (w2:=w7) (l':=lof l) hq hs56 hf hs hn);have HSE:=AA (fun A' c'=>(show pts (qs.set k ⟨qs[k].t,A',c',lof l⟩)=(pts ps).take k++(t,lof l)::(pts ps).drop k by rw[Es hq,hqt];exact hset _));have HB6:=AA (fun X (hf:Fr Nob w6 X)=>HN.out.blk.fr hf (fun e=>e));have HOO:=AA (HO.out w6 HF6.out);obtain ⟨u,hu⟩:∃u,lof l=u:=⟨_,rfl⟩;rw [hu] at HOO HPT HSE;have HU0:=AA hu;rw [hlen];clear hu hset hql hqt HO
     go_wp2_with (first
      |((go_at_call 30);(with_reducible refine(HOO.out).mono ?_);rintro e w7 ⟨A',c',rfl,hs7,hf7,hn7⟩;have hb7:=HB6.out _ hf7;have f7:=hb7.frozen (k*2+1);have l7:=hb7.lt;have c7:=hf7.cell c6 (fun e=>e);have HNW:=AA (HPT.out A' c' w7 hf7 hs7 hn7);have HF7:=AA (HF6.out.call hf7 (fun _ h _=>h));clear hb7 hs7 hf7 hn7));rw [show qs.length=(qs.set k ⟨qs[k].t,A',c',u⟩).length by simp];go_ret3;rw [HU0.out];have hfin:=HNW.out.fresh (by simp;omega);refine ⟨_,_,_,rfl,HSE.out A' c',hfin.mono HF5.out.size,?_⟩;exact HF7.out.setCell (p:=⟨g,k*2+1,none⟩) (fun hlt=>absurd hlt (by have:=HN.out.new;have:=HF5.out.size;simp;omega)) _
    ·have hkI:(ps.length:Int)≤k:=by omega
     clear hne;rcases Nat.eq_zero_or_pos ps.length with h0|h0
     ·have HH0:=AA h0;clear h0
      cases A with
      |none=>
       go_enter Tryz.func26,Tryz.ntmps26
       go_upto_region 10 with(first
        |((go_at_call 49);(with_reducible refine(HR.out).mono ?_);rintro e w1 ⟨rfl,hf1⟩;have HF:=AA hf1;clear hf1)
        |((go_at_call 50);(with_reducible refine(HM.out _ HF.out).mono ?_);rintro e w2 ⟨rfl,hf2⟩;replace HF:=AA (HF.out.call hf2 (fun _ h _=>h));clear hf2)
        |((go_at_call 28);(with_reducible refine(HFM.out _ HF.out).mono ?_);rintro e w3 ⟨rfl,hf2⟩;replace HF:=AA (HF.out.call hf2 (fun _ h _=>h));clear hf2)
        );go_upto_region 11 with(at_builtin;refine wpList_append_grows _ rfl _ _ 71 rfl 78 i0 _ 2 32 Tryz.underlying71 hi0 hz0 hz1 hz2 (by decide) (by decide) none k k ((ps.take k).flatMap pnc) rfl ?nn2 ?lo2 ?ho2 ⟨w3.heap.size,0,none⟩ 1 1 (pnc ⟨t,B,d,l⟩) rfl rfl ?hc2 ?on2 ?fu2 ?ba2 ?bb2 ?_);case nn2=>first|(have:=HH0.out;omega)|(intro e;cases e;done)|(intro _;have:=HH0.out;omega)
       case lo2=>rw[Aw,List.length_take];omega
       case ho2=>
        intro b2 e j u hu;have hlt:=(List.getElem?_eq_some_iff.1 hu).1;rw [Aw,List.length_take] at hlt
        first
         |(exfalso;have:=HH0.out;omega)
         |(obtain ⟨b3,off3,e3,_,hc4⟩:=HL.out.sl.cells (by omega);cases e;cases e3;rw [Aa];refine ((HF.out.alloc _).cell (hc4 j u ?_) (fun e=>e));rw [←hu];have e5:ps.flatMap pnc=(ps.take k).flatMap pnc++(ps.drop k).flatMap pnc:=by rw[←List.flatMap_append,List.take_append_drop]
           rw[e5,List.getElem?_append_left (by rw[Aw,List.length_take];exact hlt)])
       case hc2=>
        intro j u hu;rw [Aa,Nat.zero_add,(Blk.new _ _ _).cell];simpa [pnc] using hu
       case on2=>exact C7 _
       case fu2=>omega
       case ba2=>unfold maxLen;omega
       case bb2=>omega
       intro v1 w4 hown hgr;obtain ⟨g1,c1,rfl,_,hg1l⟩:=hown.form (by omega);have HOW:=AA hown;have HF4:=AA ((HF.out.alloc _).grown hgr (fun k e=>by cases e));clear hown hgr hc3;go_upto_region 12 with(first|(at_builtin;refine AP rfl _ _ 71 rfl EA (base:=w3.heap.size+1) (xs:=(ps.take k).flatMap pnc++pnc ⟨t,B,d,l⟩) (news:=(ps.drop k).flatMap pnc) rfl ?ow2 rfl ?sr2 ?oe2 ?h62 ?by2 ?bs2 ?_));case ow2=>exact HOW.out
       case sr2=>exact HCS.out _ HF4.out
       case oe2=>exact Bu _
       case h62=>unfold maxLen;omega
       case by2=>omega
       case bs2=>omega
       intro A5 c5 w5 hown5 hgr5 _;have hg1b:=B9 HOW.out g1 0 rfl;have HF5:=AA (HF4.out.grown hgr5 (fun q e hlt=>by have:=HF.out.size;simp at e;omega));obtain ⟨hm5,hw5⟩:=ins_sl hkl rfl HL.out HP.out HF5.out hown5 (q:=⟨t,B,d,l⟩);rw [hm5]
       have HC5:=AA (Cl w5 A5 c5 _ hw5 (by rw[CA hkl];omega) (fun p hp=>by
        rcases D3 hp with hp|rfl;·have:=HPL.out p hp;omega
        ·show l.length≤10000;omega));have HGT:=AA (fun qs hqs=>F7 (qs:=qs) (q:=⟨t,B,d,l⟩) hkl hqs);have hm6:(D4 ps k ⟨t,B,d,l⟩).length=ps.length+1:=by rw[CA hkl];omega
       rw[hm6] at HC5 ⊢;clear hown5 hgr5 hm5 hw5 HCS hcc hg1b hg1l;go_upto_region 12 with(first|((go_at_call 51);(with_reducible refine(HC5.out).mono ?_);rintro e w6 ⟨g,qs,rfl,hqs,hnew,hf6⟩;have hs56:=hf6.size;have HN:=AA hnew;have HF6:=AA (HF5.out.call hf6 (fun _ h _=>h));have HQS:=AA hqs;clear hnew hf6 hqs));obtain ⟨hq,hqt,hql,hset⟩:=HGT.out qs HQS.out;have hlen:ps.length+1=qs.length:=by have:=congrArg List.length HQS.out;rw[AC,AC,hm6] at this;exact this.symm
       have c6:w6.cell? ⟨g,k*2+1,none⟩=some (.slice qs[k].A qs[k].l.length qs[k].c):=by rw[HN.out.blk.cell,Ge hq]
       have l6:=HN.out.blk.lt;have hqI:(k:Int)<qs.length:=by omega
       have HPT:=AA (fun A' c' w7 hf hs hn=>HN.out.put (A':=A') (c':=c') (w2:=w7) (l':=lof l) hq hs56 hf hs hn);have HSE:=AA (fun A' c'=>(show pts (qs.set k ⟨qs[k].t,A',c',lof l⟩)=(pts ps).take k++(t,lof l)::(pts ps).drop k by rw[Es hq,hqt];exact hset _));have HB6:=AA (fun X (hf:Fr Nob w6 X)=>HN.out.blk.fr hf (fun e=>e));have HOO:=AA (HO.out w6 HF6.out);obtain ⟨u,hu⟩:∃u,lof l=u:=⟨_,rfl⟩;rw [hu] at HOO HPT HSE;have HU0:=AA hu;rw [hlen];clear hu hset hql hqt HO
       go_wp2_with (first
        |((go_at_call 30);(with_reducible refine(HOO.out).mono ?_);rintro e w7 ⟨A',c',rfl,hs7,hf7,hn7⟩;have hb7:=HB6.out _ hf7;have f7:=hb7.frozen (k*2+1);have l7:=hb7.lt;have c7:=hf7.cell c6 (fun e=>e);have HNW:=AA (HPT.out A' c' w7 hf7 hs7 hn7);have HF7:=AA (HF6.out.call hf7 (fun _ h _=>h));clear hb7 hs7 hf7 hn7));rw [show qs.length=(qs.set k ⟨qs[k].t,A',c',u⟩).length by simp];go_ret3;rw [HU0.out];have hfin:=HNW.out.fresh (by simp;omega);refine ⟨_,_,_,rfl,HSE.out A' c',hfin.mono HF5.out.size,?_⟩;exact HF7.out.setCell (p:=⟨g,k*2+1,none⟩) (fun hlt=>absurd hlt (by have:=HN.out.new;have:=HF5.out.size;simp;omega)) _
      |some a=>
       go_enter Tryz.func26,Tryz.ntmps26
       go_upto_region 10 with(first
        |((go_at_call 49);(with_reducible refine(HR.out).mono ?_);rintro e w1 ⟨rfl,hf1⟩;have HF:=AA hf1;clear hf1)
        |((go_at_call 50);(with_reducible refine(HM.out _ HF.out).mono ?_);rintro e w2 ⟨rfl,hf2⟩;replace HF:=AA (HF.out.call hf2 (fun _ h _=>h));clear hf2)
        |((go_at_call 28);(with_reducible refine(HFM.out _ HF.out).mono ?_);rintro e w3 ⟨rfl,hf2⟩;replace HF:=AA (HF.out.call hf2 (fun _ h _=>h));clear hf2)
        );go_upto_region 11 with(at_builtin;refine wpList_append_grows _ rfl _ _ 71 rfl 78 i0 _ 2 32 Tryz.underlying71 hi0 hz0 hz1 hz2 (by decide) (by decide) (some a) k k ((ps.take k).flatMap pnc) rfl ?nn3 ?lo3 ?ho3 ⟨w3.heap.size,0,none⟩ 1 1 (pnc ⟨t,B,d,l⟩) rfl rfl ?hc3 ?on3 ?fu3 ?ba3 ?bb3 ?_);case nn3=>first|(have:=HH0.out;omega)|(intro e;cases e;done)|(intro _;have:=HH0.out;omega)
       case lo3=>rw[Aw,List.length_take];omega
       case ho3=>
        intro b2 e j u hu;have hlt:=(List.getElem?_eq_some_iff.1 hu).1;rw [Aw,List.length_take] at hlt
        first
         |(exfalso;have:=HH0.out;omega)
         |(obtain ⟨b3,off3,e3,_,hc4⟩:=HL.out.sl.cells (by omega);cases e;cases e3;rw [Aa];refine ((HF.out.alloc _).cell (hc4 j u ?_) (fun e=>e));rw [←hu];have e5:ps.flatMap pnc=(ps.take k).flatMap pnc++(ps.drop k).flatMap pnc:=by rw[←List.flatMap_append,List.take_append_drop]
           rw[e5,List.getElem?_append_left (by rw[Aw,List.length_take];exact hlt)])
       case hc3=>
        intro j u hu;rw [Aa,Nat.zero_add,(Blk.new _ _ _).cell];simpa [pnc] using hu
       case on3=>exact C7 _
       case fu3=>omega
       case ba3=>unfold maxLen;omega
       case bb3=>omega
       intro v1 w4 hown hgr;obtain ⟨g1,c1,rfl,_,hg1l⟩:=hown.form (by omega);have HOW:=AA hown;have HF4:=AA ((HF.out.alloc _).grown hgr (fun k e=>by cases e));clear hown hgr hc3;go_upto_region 12 with(first|(at_builtin;refine AP rfl _ _ 71 rfl EA (base:=w3.heap.size+1) (xs:=(ps.take k).flatMap pnc++pnc ⟨t,B,d,l⟩) (news:=(ps.drop k).flatMap pnc) rfl ?ow3 rfl ?sr3 ?oe3 ?h63 ?by3 ?bs3 ?_));case ow3=>exact HOW.out
       case sr3=>exact HCS.out _ HF4.out
       case oe3=>exact Bu _
       case h63=>unfold maxLen;omega
       case by3=>omega
       case bs3=>omega
       intro A5 c5 w5 hown5 hgr5 _;have hg1b:=B9 HOW.out g1 0 rfl;have HF5:=AA (HF4.out.grown hgr5 (fun q e hlt=>by have:=HF.out.size;simp at e;omega));obtain ⟨hm5,hw5⟩:=ins_sl hkl rfl HL.out HP.out HF5.out hown5 (q:=⟨t,B,d,l⟩);rw [hm5]
       have HC5:=AA (Cl w5 A5 c5 _ hw5 (by rw[CA hkl];omega) (fun p hp=>by
        rcases D3 hp with hp|rfl;·have:=HPL.out p hp;omega
        ·show l.length≤10000;omega));have HGT:=AA (fun qs hqs=>F7 (qs:=qs) (q:=⟨t,B,d,l⟩) hkl hqs);have hm6:(D4 ps k ⟨t,B,d,l⟩).length=ps.length+1:=by rw[CA hkl];omega
       rw[hm6] at HC5 ⊢;clear hown5 hgr5 hm5 hw5 HCS hcc hg1b hg1l;go_upto_region 12 with(first|((go_at_call 51);(with_reducible refine(HC5.out).mono ?_);rintro e w6 ⟨g,qs,rfl,hqs,hnew,hf6⟩;have hs56:=hf6.size;have HN:=AA hnew;have HF6:=AA (HF5.out.call hf6 (fun _ h _=>h));have HQS:=AA hqs;clear hnew hf6 hqs));obtain ⟨hq,hqt,hql,hset⟩:=HGT.out qs HQS.out;have hlen:ps.length+1=qs.length:=by have:=congrArg List.length HQS.out;rw[AC,AC,hm6] at this;exact this.symm
       have c6:w6.cell? ⟨g,k*2+1,none⟩=some (.slice qs[k].A qs[k].l.length qs[k].c):=by rw[HN.out.blk.cell,Ge hq]
       have l6:=HN.out.blk.lt;have hqI:(k:Int)<qs.length:=by omega
       have HPT:=AA (fun A' c' w7 hf hs hn=>HN.out.put (A':=A') (c':=c') (w2:=w7) (l':=lof l) hq hs56 hf hs hn);have HSE:=AA (fun A' c'=>(show pts (qs.set k ⟨qs[k].t,A',c',lof l⟩)=(pts ps).take k++(t,lof l)::(pts ps).drop k by rw[Es hq,hqt];exact hset _));have HB6:=AA (fun X (hf:Fr Nob w6 X)=>HN.out.blk.fr hf (fun e=>e));have HOO:=AA (HO.out w6 HF6.out);obtain ⟨u,hu⟩:∃u,lof l=u:=⟨_,rfl⟩;rw [hu] at HOO HPT HSE;have HU0:=AA hu;rw [hlen];clear hu hset hql hqt HO
       go_wp2_with (first
        |((go_at_call 30);(with_reducible refine(HOO.out).mono ?_);rintro e w7 ⟨A',c',rfl,hs7,hf7,hn7⟩;have hb7:=HB6.out _ hf7;have f7:=hb7.frozen (k*2+1);have l7:=hb7.lt;have c7:=hf7.cell c6 (fun e=>e);have HNW:=AA (HPT.out A' c' w7 hf7 hs7 hn7);have HF7:=AA (HF6.out.call hf7 (fun _ h _=>h));clear hb7 hs7 hf7 hn7));rw [show qs.length=(qs.set k ⟨qs[k].t,A',c',u⟩).length by simp];go_ret3;rw [HU0.out];have hfin:=HNW.out.fresh (by simp;omega);refine ⟨_,_,_,rfl,HSE.out A' c',hfin.mono HF5.out.size,?_⟩;exact HF7.out.setCell (p:=⟨g,k*2+1,none⟩) (fun hlt=>absurd hlt (by have:=HN.out.new;have:=HF5.out.size;simp;omega)) _
     ·obtain⟨b,off,rfl,hb,_⟩:=HL.out.sl.cells h0;clear h0;go_enter Tryz.func26,Tryz.ntmps26
      go_upto_region 10 with(first
       |((go_at_call 49);(with_reducible refine(HR.out).mono ?_);rintro e w1 ⟨rfl,hf1⟩;have HF:=AA hf1;clear hf1)
       |((go_at_call 50);(with_reducible refine(HM.out _ HF.out).mono ?_);rintro e w2 ⟨rfl,hf2⟩;replace HF:=AA (HF.out.call hf2 (fun _ h _=>h));clear hf2)
       |((go_at_call 28);(with_reducible refine(HFM.out _ HF.out).mono ?_);rintro e w3 ⟨rfl,hf2⟩;replace HF:=AA (HF.out.call hf2 (fun _ h _=>h));clear hf2)
       );go_upto_region 11 with(at_builtin;refine wpList_append_grows _ rfl _ _ 71 rfl 78 i0 _ 2 32 Tryz.underlying71 hi0 hz0 hz1 hz2 (by decide) (by decide) (some ⟨b,off,none⟩) k k ((ps.take k).flatMap pnc) rfl ?nn4 ?lo4 ?ho4 ⟨w3.heap.size,0,none⟩ 1 1 (pnc ⟨t,B,d,l⟩) rfl rfl ?hc4 ?on4 ?fu4 ?ba4 ?bb4 ?_);case nn4=>first|(have:=HH0.out;omega)|(intro e;cases e;done)|(intro _;have:=HH0.out;omega)
      case lo4=>rw[Aw,List.length_take];omega
      case ho4=>
       intro b2 e j u hu;have hlt:=(List.getElem?_eq_some_iff.1 hu).1;rw [Aw,List.length_take] at hlt
       first
        |(exfalso;have:=HH0.out;omega)
        |(obtain ⟨b3,off3,e3,_,hc4⟩:=HL.out.sl.cells (by omega);cases e;cases e3;rw [Aa];refine ((HF.out.alloc _).cell (hc4 j u ?_) (fun e=>e));rw [←hu];have e5:ps.flatMap pnc=(ps.take k).flatMap pnc++(ps.drop k).flatMap pnc:=by rw[←List.flatMap_append,List.take_append_drop]
          rw[e5,List.getElem?_append_left (by rw[Aw,List.length_take];exact hlt)])
      case hc4=>
       intro j u hu;rw [Aa,Nat.zero_add,(Blk.new _ _ _).cell];simpa [pnc] using hu
      case on4=>exact C7 _
      case fu4=>omega
      case ba4=>unfold maxLen;omega
      case bb4=>omega
      intro v1 w4 hown hgr;obtain ⟨g1,c1,rfl,_,hg1l⟩:=hown.form (by omega);have HOW:=AA hown;have HF4:=AA ((HF.out.alloc _).grown hgr (fun k e=>by cases e));clear hown hgr hc3;go_upto_region 12 with(first|(at_builtin;refine AP rfl _ _ 71 rfl EA (base:=w3.heap.size+1) (xs:=(ps.take k).flatMap pnc++pnc ⟨t,B,d,l⟩) (news:=(ps.drop k).flatMap pnc) rfl ?ow4 rfl ?sr4 ?oe4 ?h64 ?by4 ?bs4 ?_));case ow4=>exact HOW.out
      case sr4=>exact HCS.out _ HF4.out
      case oe4=>exact Bu _
      case h64=>unfold maxLen;omega
      case by4=>omega
      case bs4=>omega
      intro A5 c5 w5 hown5 hgr5 _;have hg1b:=B9 HOW.out g1 0 rfl;have HF5:=AA (HF4.out.grown hgr5 (fun q e hlt=>by have:=HF.out.size;simp at e;omega));obtain ⟨hm5,hw5⟩:=ins_sl hkl rfl HL.out HP.out HF5.out hown5 (q:=⟨t,B,d,l⟩);rw [hm5]
      have HC5:=AA (Cl w5 A5 c5 _ hw5 (by rw[CA hkl];omega) (fun p hp=>by
       rcases D3 hp with hp|rfl;·have:=HPL.out p hp;omega
       ·show l.length≤10000;omega));have HGT:=AA (fun qs hqs=>F7 (qs:=qs) (q:=⟨t,B,d,l⟩) hkl hqs);have hm6:(D4 ps k ⟨t,B,d,l⟩).length=ps.length+1:=by rw[CA hkl];omega
      rw[hm6] at HC5 ⊢;clear hown5 hgr5 hm5 hw5 HCS hcc hg1b hg1l;go_upto_region 12 with(first|((go_at_call 51);(with_reducible refine(HC5.out).mono ?_);rintro e w6 ⟨g,qs,rfl,hqs,hnew,hf6⟩;have hs56:=hf6.size;have HN:=AA hnew;have HF6:=AA (HF5.out.call hf6 (fun _ h _=>h));have HQS:=AA hqs;clear hnew hf6 hqs));obtain ⟨hq,hqt,hql,hset⟩:=HGT.out qs HQS.out;have hlen:ps.length+1=qs.length:=by have:=congrArg List.length HQS.out;rw[AC,AC,hm6] at this;exact this.symm
      have c6:w6.cell? ⟨g,k*2+1,none⟩=some (.slice qs[k].A qs[k].l.length qs[k].c):=by rw[HN.out.blk.cell,Ge hq]
      have l6:=HN.out.blk.lt;have hqI:(k:Int)<qs.length:=by omega
      have HPT:=AA (fun A' c' w7 hf hs hn=>HN.out.put (A':=A') (c':=c') (w2:=w7) (l':=lof l) hq hs56 hf hs hn);have HSE:=AA (fun A' c'=>(show pts (qs.set k ⟨qs[k].t,A',c',lof l⟩)=(pts ps).take k++(t,lof l)::(pts ps).drop k by rw[Es hq,hqt];exact hset _));have HB6:=AA (fun X (hf:Fr Nob w6 X)=>HN.out.blk.fr hf (fun e=>e));have HOO:=AA (HO.out w6 HF6.out);obtain ⟨u,hu⟩:∃u,lof l=u:=⟨_,rfl⟩;rw [hu] at HOO HPT HSE;have HU0:=AA hu;rw [hlen];clear hu hset hql hqt HO
      go_wp2_with (first
       |((go_at_call 30);(with_reducible refine(HOO.out).mono ?_);rintro e w7 ⟨A',c',rfl,hs7,hf7,hn7⟩;have hb7:=HB6.out _ hf7;have f7:=hb7.frozen (k*2+1);have l7:=hb7.lt;have c7:=hf7.cell c6 (fun e=>e);have HNW:=AA (HPT.out A' c' w7 hf7 hs7 hn7);have HF7:=AA (HF6.out.call hf7 (fun _ h _=>h));clear hb7 hs7 hf7 hn7));rw [show qs.length=(qs.set k ⟨qs[k].t,A',c',u⟩).length by simp];go_ret3;rw [HU0.out];have hfin:=HNW.out.fresh (by simp;omega);refine ⟨_,_,_,rfl,HSE.out A' c',hfin.mono HF5.out.size,?_⟩;exact HF7.out.setCell (p:=⟨g,k*2+1,none⟩) (fun hlt=>absurd hlt (by have:=HN.out.new;have:=HF5.out.size;simp;omega)) _
theorem ref_OfN (w:World)(A:Option Addr)(c:Nat)(l:List PP)(hl:Sl w 2 A l.length c (l.flatMap pcs))(h63:l.length≤900):
 Calls Tryz.prog 45 #[.slice A l.length c] w fun e w'=>MadeN w w' e (putAll [] l):=by
 have HL:=AA hl;have hle:=hl.le;have hmx:=hl.max;unfold maxLen at hmx;clear hl;go_enter Tryz.func45,Tryz.ntmps45;go_wp2_with fail;go_loopw [3,4] (fun sv i wr=>∃(k:Nat) (A':Option Addr) (c':Nat),k≤l.length∧i=.int .i64 k∧sv=.slice A' (putAll [] (l.take k)).length c'∧Hid (Fr Nob w wr)∧Hid (Sl wr 2 A' (putAll [] (l.take k)).length c' ((putAll [] (l.take k)).flatMap pcs))∧Hid (∀g off,A'=some ⟨g,off,none⟩→w.heap.size≤g)) (fun _ i _=>l.length-(intOf i).toNat);case atStart=>exact⟨0,none,0,Nat.zero_le _,rfl,rfl,AA (Fr.refl Nob w),AA (Sl.none_ _ _),AA (fun g off e=>by cases e)⟩
 case round=>
  obtain⟨k,A',c',hk,rfl,rfl,hf,hs,hn⟩:=hrel;by_cases hlt:k<l.length
  ·have hI:(k:Int)<l.length:=by omega
   have hI3:0≤(k:Int):=by omega
   obtain⟨ba,off,rfl,hba,d0,d1⟩:=BV (HL.out.pure hf.out) hlt;have HS:=AA (Fh (o:=([]:List PP)) hlt);have hlen:=Dc (l.take k) ([]:List PP);rw [List.length_take_of_le (by omega)] at hlen;have hlen2:=hlen;generalize putAll ([]:List PP) (l.take k)=o at*;generalize l[k]=x at*;obtain ⟨xn,xv⟩:=x;simp only at d0 d1;have HP:=AA (ref_Put wr A' c' o ⟨xn,xv⟩ hs.out (by (try simp only[List.length_nil,Nat.zero_add] at hlen);omega));go_wp2_with fail;refine HP.out.mono ?_;rintro e w1 ⟨A2,c2,rfl,hs2,hf2,ho2⟩;have HS2:=AA hs2;have HF2:=AA (hf.out.call hf2 (fun _ h _=>h));have HN2:=AA (fun g off e=>Nat.le_trans hf.out.size (ho2 g off e));clear hs2 hf2 ho2;go_wp2_with fail;go_roundw;case rel=>exact⟨k+1,A2,c2,by omega,by go_num,by rw[HS.out],HF2,by rw[HS.out];exact HS2,HN2⟩
   case measure=>simp[intOf];omega
  ·have hkk:k=l.length:=by omega
   have HE:=AA (show putAll ([]:List PP) (l.take k)=putAll ([]:List PP) l by rw[List.take_of_length_le (by omega)]);rw [HE.out] at hs ⊢;go_wp2_with fail;go_ret;exact ⟨A',c',rfl,hs.out,hf.out,hn.out⟩
theorem ref_UnionN (w:World)(B:Option Addr)(d:Nat)(m:List PP)(A:Option Addr)(c:Nat)(l:List PP)(hm:Sl w 2 B m.length d (m.flatMap pcs))(hl:Sl w 2 A l.length c (l.flatMap pcs))(hsum:m.length+l.length≤900):
 Calls Tryz.prog 80 #[.slice B m.length d,.slice A l.length c] w fun e w'=>MadeN w w' e (putAll (putAll [] m) l):=by
 have HM:=AA hm;have HL:=AA hl;have hle:=hl.le;have hmx:=hl.max;unfold maxLen at hmx;clear hl hm;go_enter Tryz.func80,Tryz.ntmps80;go_wp2_with fail;refine (ref_OfN w B d m HM.out (by omega)).mono ?_;rintro e w1 ⟨B1,d1,rfl,hs1,hf1,hn1⟩;have HN1:=AA hn1;have HS1:=AA hs1;have HF1:=AA hf1;have hol:=Dc m [];simp only[List.length_nil,Nat.zero_add] at hol;clear hs1 hf1 hn1;go_wp2_with fail;go_loopw [5,6] (fun sv i wr=>∃(k:Nat) (A':Option Addr) (c':Nat),k≤l.length∧i=.int .i64 k∧sv=.slice A' (putAll (putAll [] m) (l.take k)).length c'∧Hid (Fr Nob w wr)∧Hid (Sl wr 2 A' (putAll (putAll [] m) (l.take k)).length c' ((putAll (putAll [] m) (l.take k)).flatMap pcs))∧Hid (∀g off,A'=some ⟨g,off,none⟩→w.heap.size≤g)) (fun _ i _=>l.length-(intOf i).toNat);case atStart=>exact⟨0,B1,d1,Nat.zero_le _,rfl,rfl,HF1,HS1,HN1⟩
 case round=>
  obtain⟨k,A',c',hk,rfl,rfl,hf,hs,hn⟩:=hrel;by_cases hlt:k<l.length
  ·have hI:(k:Int)<l.length:=by omega
   have hI3:0≤(k:Int):=by omega
   obtain⟨ba,off,rfl,hba,d0,d1⟩:=BV (HL.out.pure hf.out) hlt;have HS:=AA (Fh (o:=(putAll [] m)) hlt);have hlen:=Dc (l.take k) (putAll [] m);rw [List.length_take_of_le (by omega)] at hlen;have hlen2:=hlen;generalize putAll (putAll [] m) (l.take k)=o at*;generalize l[k]=x at*;obtain ⟨xn,xv⟩:=x;simp only at d0 d1;have HP:=AA (ref_Put wr A' c' o ⟨xn,xv⟩ hs.out (by (try simp only[List.length_nil,Nat.zero_add] at hlen);omega));go_wp2_with fail;refine HP.out.mono ?_;rintro e w1 ⟨A2,c2,rfl,hs2,hf2,ho2⟩;have HS2:=AA hs2;have HF2:=AA (hf.out.call hf2 (fun _ h _=>h));have HN2:=AA (fun g off e=>Nat.le_trans hf.out.size (ho2 g off e));clear hs2 hf2 ho2;go_wp2_with fail;go_roundw;case rel=>exact⟨k+1,A2,c2,by omega,by go_num,by rw[HS.out],HF2,by rw[HS.out];exact HS2,HN2⟩
   case measure=>simp[intOf];omega
  ·have hkk:k=l.length:=by omega
   have HE:=AA (show putAll (putAll [] m) (l.take k)=putAll (putAll [] m) l by rw[List.take_of_length_le (by omega)]);rw [HE.out] at hs ⊢;go_wp2_with fail;go_ret;exact ⟨A',c',rfl,hs.out,hf.out,hn.out⟩
end Go.Proofs.YtoegdmpmagbaiaaGreatDoor
