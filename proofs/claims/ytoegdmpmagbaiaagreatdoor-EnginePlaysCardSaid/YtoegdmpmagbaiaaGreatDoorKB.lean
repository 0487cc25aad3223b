/- formula.each: the iterator over a formula's nodes. -/
import Derived.Test.YtoegdmpmagbaiaaGreatDoorKA
import Derived.Sort.LoopGhostIn
import Derived.Maps.AppendAt
import Derived.Maps.OwnIn
import Derived.RangeFuncBox
import Derived.Test.YtoegdmpmagbaiaaGreatDoorQFwrong
set_option maxHeartbeats 4000000
set_option maxRecDepth 100000
namespace Go.Proofs.YtoegdmpmagbaiaaGreatDoor
open Go.RowKit Go.Shelf
attribute [local go_sem] Oper.semAt_some
def ab (A:Option Addr):Nat:=(A.map (·.block)).getD 0
def ao (A:Option Addr):Nat:=(A.map (·.off)).getD 0
structure Vis where
 b:Nat
 off:Nat
 x:Nd
 A:Option Addr
 n:Nat
 c:Nat
 d:Nat
def Fo.vis:Fo→Nat→Nat→Nat→List Vis
 |.nil,_,_,_=>[]
 |.cons x A c ks rest,b,off,d=>⟨b,off,x,A,ks.len,c,d⟩::(ks.vis (ab A) (ao A) (d+1)++rest.vis b (off+7) d)
theorem Fo.vis_nodes:∀(f:Fo) (b off d:Nat),(f.vis b off d).map (fun v=>(v.x,v.n,v.d))=f.tr.nodes d
 |.nil,_,_,_=>rfl
 |.cons x A c ks rest,b,off,d=>by simp[Fo.vis,Fo.tr,Tr.nodes,Fo.vis_nodes ks,Fo.vis_nodes rest,Fo.tr_len]
theorem Fo.vis_len (f:Fo)(b off d:Nat):(f.vis b off d).length=f.tr.size:=by
 have:=congrArg List.length (f.vis_nodes b off d);rw [List.length_map,Tr.nodes_len] at this;exact this
theorem Fo.vis_at {N:Nat}{w:World}:∀{f:Fo} {b off d:Nat},f.At N w b off→∀v∈f.vis b off d,CG w v.b v.off v.x v.A v.n v.c∧v.b<N∧v.b<w.heap.size
 |.nil,_,_,_,_,v,hv=>by cases hv
 |.cons x A c ks rest,b,off,d,⟨h1,h2,h3,h4,h5,h6,h7⟩,v,hv=>by
  simp only[Fo.vis,List.mem_cons,List.mem_append] at hv;rcases hv with rfl|hv|hv;·exact⟨CG.of h3,h1,h2⟩
  ·rcases Nat.eq_zero_or_pos ks.len with h0|h0
   ·have:ks=.nil:=by cases ks with|nil=>rfl|cons=>simp[Fo.len] at h0
    subst this;cases hv
   ·obtain⟨bb,oo,rfl⟩:=h5 h0;exact Fo.vis_at (h6 bb oo rfl) v hv
  ·exact Fo.vis_at h7 v hv
structure Ent where
 f:Fo
 A:Option Addr
 c:Nat
def entv (e:Ent):Value:=.slice e.A e.f.len e.c
def Bq:List Ent→List Vis
 |[]=>[]
 |e::r=>e.f.vis (ab e.A) (ao e.A) (r.length+2)++Bq r
def En (st:List Ent):List Value:=st.reverse.map entv
theorem Ct (e:Ent)(r:List Ent):En (e::r)=En r++[entv e]:=by simp[En]
theorem Bn (st:List Ent):(En st).length=st.length:=by simp[En]
def Dl (base:Nat)(w:World)(A:Option Addr)(c:Nat)(st:List Ent):Prop:=w.ownsRow base 26 1 (.slice A st.length c) st.length (En st)
section
variable {base:Nat} {w w':World} {A:Option Addr} {c:Nat} {e:Ent} {r st:List Ent}
theorem Dl.last (h:Dl base w A c (e::r)):∃g,A=some ⟨g,0,none⟩∧base≤g∧g<w.heap.size∧w.cell? ⟨g,r.length,none⟩=some (entv e)∧w.frozen? ⟨g,r.length,none⟩=false∧r.length+1≤c∧c≤maxLen:=by
 rcases h.2 with⟨_,h2⟩|⟨g,cap,cur,hv,hb,hg,hn,hm,hs,ht⟩;·simp at h2
 ·simp only[Value.slice.injEq] at hv;obtain ⟨rfl,_,rfl⟩:=hv
  have hlen:r.length<cur.toList.length:=by
   have:=congrArg List.length ht;rw [List.length_take,Bn,Nat.mul_one] at this;simp only[List.length_cons] at this hn;omega
  refine⟨g,rfl,hb,(Array.getElem?_eq_some_iff.1 hg).1,?_,by simp[World.frozen?,hg],by simpa using hn,hm⟩;have h3:(cur.toList.take ((e::r).length*1))[r.length]?=(En (e::r))[r.length]?:=by rw[ht]
  rw[List.getElem?_take,if_pos (by simp),Ct,List.getElem?_append_right (by rw[Bn];omega),Bn,Nat.sub_self] at h3;rw [cell_of_row w g r.length cur _ (0,0) hg,←Array.getElem?_toList];exact h3
theorem Dl.pop (h:Dl base w A c (e::r)):Dl base w A c r:=by
 refine⟨by rw[Bn];simp,?_⟩;rcases h.2 with⟨_,h2⟩|⟨g,cap,cur,hv,hb,hg,hn,hm,hs,ht⟩;·simp at h2
 ·simp only[Value.slice.injEq] at hv;obtain ⟨rfl,_,rfl⟩:=hv;simp only[List.length_cons] at hn;refine .inr ⟨g,c,cur,rfl,hb,hg,by omega,hm,hs,?_⟩;rw [Ct] at ht;have h3:=congrArg (List.take r.length) ht;rw [List.take_take,List.take_append_of_le_length (by rw[Bn];omega),←Bn r,List.take_length,Bn] at h3;rw [Nat.mul_one,←h3];congr 1;simp only[List.length_cons];omega
theorem Dl.set (h:Dl base w A c (e::r))(e':Ent){g:Nat}(hA:A=some ⟨g,0,none⟩):Dl base (w.setCell ⟨g,r.length,none⟩ (entv e')) A c (e'::r):=by
 subst hA;refine ⟨by rw[Bn];simp,?_⟩;rcases h.2 with⟨_,h2⟩|⟨g',cap,cur,hv,hb,hg,hn,hm,hs,ht⟩;·simp at h2
 ·simp only[Value.slice.injEq,Option.some.injEq,Addr.mk.injEq] at hv;obtain ⟨⟨rfl,_,_⟩,_,rfl⟩:=hv;simp only[List.length_cons] at hn;refine .inr ⟨g,c,cur.setIfInBounds r.length (entv e'),rfl,hb,?_,by simpa using hn,hm,by simpa using hs,?_⟩
  ·have h4:Blk w g 26 cur:=hg;exact h4.set r.length (entv e')
  ·rw[Ct] at ht ⊢;simp only[List.length_cons,Nat.mul_one] at ht ⊢;rw [Array.toList_setIfInBounds,List.take_set,ht,List.set_append_right _ _ (by rw[Bn];omega),Bn,Nat.sub_self];rfl
theorem Dl.kp {S:Nat→Prop}(h:Dl base w A c st)(hk:KpS S w w')(hS:∀k,S k→k<base):Dl base w' A c st:=by
 refine⟨h.1,?_⟩;rcases h.2 with h2|⟨g,cap,cur,hv,hb,hg,rest⟩;·exact .inl h2
 ·exact .inr ⟨g,cap,cur,hv,hb,hk.2 g _ hg rfl (fun e=>by have:=hS g e;omega),rest⟩
end
theorem Fo.At.kp {S:Nat→Prop}{N:Nat}{w w':World}(hk:KpS S w w')(hS:∀k,S k→N≤k):∀{f:Fo} {b off:Nat},f.At N w b off→f.At N w' b off
 |.nil,_,_,_=>trivial
 |.cons _ _ _ ks _,b,off,⟨h1,h2,h3,h4,h5,h6,h7⟩=>by
  have hblk:∀j u,w.cell? ⟨b,off+j,none⟩=some u→w'.cell? ⟨b,off+j,none⟩=some u:=by
   intro j u hu;obtain ⟨o,ho⟩:∃o,w.heap[b]?=some o:=⟨_,Array.getElem?_eq_getElem h2⟩
   have hc:o.isCells=true:=by
    unfold World.cell? at hu;simp only[ho] at hu;cases o<;>simp at hu<;>rfl
   exact(World.cell?_of_block (w:=w) (w':=w') (a:=⟨b,off+j,none⟩) ((hk.2 b o ho hc (fun e=>by have:=hS b e;omega)).trans ho.symm)).trans hu
  exact⟨h1,Nat.lt_of_lt_of_le h2 hk.1,fun j u hu=>hblk j u (h3 j u hu),h4,h5,fun bb oo e=>(h6 bb oo e).kp hk hS,h7.kp hk hS⟩
theorem Au.kp {S:Nat→Prop}{N:Nat}{w w':World}{A:Option Addr}{c:Nat}{f:Fo}(h:Au N w A c f)(hk:KpS S w w')(hS:∀k,S k→N≤k):Au N w' A c f:=⟨h.ok,h.some_,fun bb oo e=>(h.at_ bb oo e).kp hk hS⟩
theorem KpS.cell {S:Nat→Prop}{w w':World}(hk:KpS S w w'){p:Addr}{u:Value}(hu:w.cell? p=some u)(hS:¬S p.block):w'.cell? p=some u:=by
 have hlt:=World.block_lt_of_cell? w p hu;obtain ⟨o,ho⟩:∃o,w.heap[p.block]?=some o:=⟨_,Array.getElem?_eq_getElem hlt⟩
 have hc:o.isCells=true:=by
  unfold World.cell? at hu;simp only[ho] at hu;cases o<;>simp at hu<;>first|rfl|(split at hu<;>simp at hu)
 exact(World.cell?_of_block ((hk.2 _ o ho hc hS).trans ho.symm)).trans hu
theorem Below.kp {N:Nat}{w w':World}(h:Below N w w')(hN:w.heap.size≤N):∀k,k<w.heap.size→w'.heap[k]?=w.heap[k]?:=fun k hk=>h.block k (by omega)
theorem infoFs:(Tryz.prog.info? 26).map (fun i=>(i.zero,i.size,i.bytes))=some (some (.slice none 0 0),1,24):=by kernel_rfl
def visEnc (v:Vis):Array Value:=#[.pointer (some ⟨v.b,v.off,none⟩),.int .i64 v.d]
structure EachI (N base:Nat) (L:List Vis) (wr:World) (A:Option Addr) (c:Nat) (st:List Ent) (pre:List Vis):Prop where
 own:Dl base wr A c st
 eq:L=pre++Bq st
 trees:∀e∈st,Au N wr e.A e.c e.f
 few:st.length≤pre.length
 size:base≤wr.heap.size
theorem grown_set (W:World)(p:Addr)(v:Value):W.grownBy (W.setCell p v) (some p.block):=
 ⟨rfl,rfl,rfl,by simp,fun k _ hk=>Below.heap_setCell W p v k (fun e=>hk (by rw[e]))⟩
theorem each_far (n N g:Nat)(S:Nat→Prop)(hS:∀k,S k→N≤k∧k≠g)(w0:World)(hS0:∀k,S k→k<w0.heap.size)(bf of_:Nat)(x:Nd)(A:Option Addr)(c:Nat)(ks:Fo)
 (hg:w0.cell? ⟨g,0,none⟩=some (.pointer (some ⟨bf,of_,none⟩)))(ht:(Fo.cons x A c ks .nil).At N w0 bf of_)(hN:N≤w0.heap.size)(hsz:ks.tr.size≤100000):
 SeqFar Fence.wide n Tryz.prog 129 #[.pointer (some ⟨g,0,none⟩)] visEnc S ((Fo.cons x A c ks .nil).vis bf of_ 1) w0:=by
 intro l J Jx W hW hJ hJx hY h0;obtain ⟨i0,hi0,hz0,hz1,hz2⟩:=info_parts infoFs;have hgW:W.cell? ⟨g,0,none⟩=some (.pointer (some ⟨bf,of_,none⟩)):=(hW.cell (p:=⟨g,0,none⟩) (World.block_lt_of_cell? w0 _ hg)).trans hg;have htW:(Fo.cons x A c ks .nil).At N W bf of_:=ht.keep (fun k _ hk=>hW.block k hk);have hsW:=hW.size;have hL:(Fo.cons x A c ks .nil).vis bf of_ 1=⟨bf,of_,x,A,ks.len,c,1⟩::ks.vis (ab A) (ao A) 2:=by simp[Fo.vis]
 have hLl:((Fo.cons x A c ks .nil).vis bf of_ 1).length≤100001:=by rw[Fo.vis_len];simp[Fo.tr,Tr.size];omega
 rw[hL] at hY hLl ⊢;have HG:=AA hg;have HT:=AA htW;have HS:=AA hS;have HS0:=AA hS0;have HLL:=AA hLl;clear hg ht hS hL hLl hS0;obtain ⟨fn,tmps,assign,body,hy,hR⟩:=hY [] ⟨bf,of_,x,A,ks.len,c,1⟩ W h0 (by simp);have HY:=AA hY;have H0:=AA h0;clear hY h0 htW;unfold visEnc at hy;dsimp only at hy;have hy:(Instr.yield l #[.pointer (some ⟨bf,of_,none⟩),.int .i64 1]).run Tryz.prog W=.ok (.round l fn tmps assign body) W:=hy;refine callsIn_of_wp Tryz.func129 rfl trivial ?_ rfl;simp only[Tryz.ntmps129,List.size_toArray,List.length_cons,List.length_nil,Nat.reduceAdd,Nat.reduceSub,Array.replicate_succ,Array.replicate_zero,List.push_toArray,List.append_toArray,List.nil_append,List.cons_append];gi_wp2;refine ⟨fun h=>(by cases h),hR.mono ?_⟩;clear hR hy;rintro e W1 (⟨rfl,hJ1,hk1,_⟩|⟨rfl,hJx1,_⟩)
 ·obtain⟨a1,a2,a3,a4,a5,a6,_⟩:=HT.out.kp hk1 (fun k hk=>(HS.out k hk).1);have d6:W1.cell? ⟨bf,of_+6,none⟩=some (.slice A ks.len c):=a3 6 _ rfl;have hgW1:W1.cell? ⟨g,0,none⟩=some (.pointer (some ⟨bf,of_,none⟩)):=hk1.cell hgW (fun e=>(HS.out _ e).2 rfl);have hs1:=hk1.1
  have HI:=AA (show EachI N W1.heap.size (⟨bf,of_,x,A,ks.len,c,1⟩::ks.vis (ab A) (ao A) 2) (W1.alloc (.cells #[.slice A ks.len c] 26)) (some ⟨W1.heap.size,0,none⟩) 1 [⟨ks,A,c⟩] [⟨bf,of_,x,A,ks.len,c,1⟩] from
   ⟨⟨by rfl,.inr ⟨W1.heap.size,1,_,rfl,Nat.le_refl _,heap_alloc_new _ _,Nat.le_refl _,by decide,rfl,rfl⟩⟩,by simp[Bq],fun e he=>by
     simp only[List.mem_singleton] at he;subst he;exact Au.keep ⟨a4,a5,a6⟩ (fun k _ hk=>Below.heap_alloc _ _ k hk),Nat.le_refl _,by simp⟩);have HJ1:=AA (hJ.alloc (.cells #[.slice A ks.len c] 26) hJ1);clear a1 a2 a3 a4 a5 a6;have hLp:=HLL.out;clear HLL;obtain ⟨L,hL⟩:∃L:List Vis,(⟨bf,of_,x,A,ks.len,c,1⟩::ks.vis (ab A) (ao A) 2)=L:=⟨_,rfl⟩;have hl0:2*(Bq [⟨ks,A,c⟩]).length+1=2*L.length-1:=by rw[←hL];simp[Bq];omega
  rw[hL] at HI HY hLp;have HLN:=AA hL;have HL0:=AA hl0;clear hl0 hL HT HG hgW hk1;gi_wp2;gi_loopg [3] (2*L.length-1) (fun k sv wr=>∃(A':Option Addr) (c':Nat) (st:List Ent) (pre:List Vis),sv=.slice A' st.length c'∧k=2*(Bq st).length+st.length∧Hid (EachI N W1.heap.size L wr A' c' st pre)∧Hid (J pre wr));case atStart=>exact⟨_,_,_,_,rfl,HL0.out.symm,HI,HJ1⟩
  case round=>
   obtain⟨A',c',st,pre,rfl,hgk,hi,hj⟩:=hrel
   cases st with
   |nil=>
    have HE:=AA (show L=pre by have:=hi.out.eq;simpa[Bq] using this);clear hgk;gi_wp2;go_end0;exact ⟨⟨_,rfl⟩,.inl (by rw[HLN.out,HE.out];exact hj.out)⟩
   |cons e r=>
    obtain⟨g',rfl,hg1,hg2,hc,hfz,hlc,hcm⟩:=hi.out.own.last;have hfew:=hi.out.few;have heq:=hi.out.eq;have htr:=hi.out.trees e (by simp);have hsb:=hi.out.size;obtain ⟨f,B,d⟩:=e
    have hfw:(r.length:Int)≤100000:=by
     have:=congrArg List.length heq;rw [List.length_append] at this;simp only[List.length_cons] at hfew;omega
    have hrl:(0:Int)≤r.length:=by omega
    have HTR:=AA (fun e he=>hi.out.trees e (List.mem_cons_of_mem _ he));have HOW:=AA hi.out.own;clear hi;unfold entv at hc
    cases f with
    |nil=>
     replace hc:wr.cell? ⟨g',r.length,none⟩=some (.slice B 0 d):=hc;have HI2:=AA (show EachI N W1.heap.size L wr (some ⟨g',0,none⟩) c' r pre from⟨HOW.out.pop,by rw[heq];simp[Bq,Fo.vis],HTR.out,by simp at hfew;omega,hsb⟩);have HG2:=AA (show 2*(Bq r).length+r.length<gk by rw[hgk];simp[Bq,Fo.vis]);simp only[List.length_cons];clear hgk heq htr hfew HOW;gi_wp2;gi_roundg (2*(Bq r).length+r.length);case rel=>exact⟨_,_,r,pre,rfl,rfl,HI2,hj⟩
     case measure=>exact HG2.out
    |cons y B2 d2 js rs=>
     obtain⟨bb,oo,rfl⟩:=htr.some_ (by simp[Fo.len]);have hokl:rs.len+1≤d:=htr.ok.le;have HOKM:=AA htr.ok.max;obtain ⟨q,rfl⟩:∃q,d=q+1:=⟨d-1,by omega⟩;replace hc:wr.cell? ⟨g',r.length,none⟩=some (.slice (some ⟨bb,oo,none⟩) (rs.len+1) (q+1)):=hc;obtain ⟨t1,t2,t3,t4,t5,t6,t7⟩:=htr.at_ bb oo rfl;have HEQ:=AA heq;have HGK:=AA hgk;have HNA:=AA (CG.of t3);have HJS:=AA (show Au N wr B2 d2 js from⟨t4,t5,t6⟩);have HRS:=AA (htr.at_ bb oo rfl).2.2.2.2.2.2;simp only[List.length_cons] at hfew;simp only[List.length_cons];clear hgk heq htr t3 t4 t5 t6 t7;have hgr:W1.heap.size≤(wr.setCell ⟨g',r.length,none⟩ undef).heap.size:=by simpa using hsb
     rcases Nat.eq_zero_or_pos q with hq|hq
     ·subst hq;have hrs0:rs=.nil:=by cases rs with|nil=>rfl|cons=>simp[Fo.len] at hokl
      subst hrs0;simp only[Fo.len] at hc hokl;have HJ2:=AA (hJ pre wr (wr.setCell ⟨g',r.length,none⟩ (.slice (some ⟨bb,oo,none⟩) 0 0)) (some g') hj.out (grown_set _ _ _) (fun k e=>by cases e;omega));have HPR:=AA (show pre++[⟨bb,oo,y,B2,js.len,d2,r.length+2⟩]<+:L by rw[HEQ.out];exact⟨_,by simp[Bq,Fo.vis,ab,ao];rfl⟩);obtain ⟨fn2,tmps2,assign2,body2,hy2,hR2⟩:=HY.out pre _ _ HJ2.out HPR.out;replace hy2:(Instr.yield l #[.pointer (some ⟨bb,oo,none⟩),.int .i64 ((r.length:Int)+2)]).run Tryz.prog (wr.setCell ⟨g',r.length,none⟩ (.slice (some ⟨bb,oo,none⟩) 0 0))=.ok (.round l fn2 tmps2 assign2 body2) (wr.setCell ⟨g',r.length,none⟩ (.slice (some ⟨bb,oo,none⟩) 0 0)):=hy2;have HOS:=AA (HOW.out.set ⟨Fo.nil,some ⟨bb,oo,none⟩,0⟩ rfl);have hNb:∀k,k<N→k<wr.heap.size→(wr.setCell ⟨g',r.length,none⟩ (.slice (some ⟨bb,oo,none⟩) 0 0)).heap[k]?=wr.heap[k]?:=fun k hk _=>Below.heap_setCell wr ⟨g',r.length,none⟩ _ k (fun e=>by simp at e;omega);have HJS2:=AA (HJS.out.keep hNb);have HTR2:=AA (fun e he=>(HTR.out e he).keep hNb);have HRS2:=AA (show Au N (wr.setCell ⟨g',r.length,none⟩ (.slice (some ⟨bb,oo,none⟩) 0 0)) (some ⟨bb,oo,none⟩) 0 Fo.nil from Au.keep ⟨⟨by first|exact Nat.le_refl 0|omega,by first|exact Nat.zero_le _|exact Nat.le_of_succ_le HOKM.out,fun e=>by cases e⟩,fun _=>⟨_,_,rfl⟩,fun b2 o2 e=>by cases e;exact trivial⟩ hNb);have hd6:(wr.setCell ⟨g',r.length,none⟩ (.slice (some ⟨bb,oo,none⟩) 0 0)).cell? ⟨bb,oo+6,none⟩=some (.slice B2 js.len d2):=(World.cell?_of_block (hNb bb t1 t2)).trans HNA.out.h6;have HD6:=AA hd6
      have HGN:=AA (show 2*(Bq (⟨js,B2,d2⟩::⟨Fo.nil,some ⟨bb,oo,none⟩,0⟩::r)).length+(r.length+2)<gk by
       rw[HGK.out];simp[Bq,Fo.vis,Fo.vis_len];omega)
      have HEN:=AA (show L=(pre++[⟨bb,oo,y,B2,js.len,d2,r.length+2⟩])++Bq (⟨js,B2,d2⟩::⟨Fo.nil,some ⟨bb,oo,none⟩,0⟩::r) by
       rw[HEQ.out];simp[Bq,Fo.vis,ab,ao]);have HNB:=AA hNb;clear hNb hd6;gi_wp2;refine ⟨fun h=>(by cases h),hR2.mono ?_⟩;clear hR2 hy2;rintro e W3 (⟨rfl,hJ3,hk3,_⟩|⟨rfl,hJx3,_⟩)
      ·have HO3:=AA (HOS.out.kp hk3 (fun k hk=>by have:=HS0.out k hk;omega))
       have HT3:=AA (show ∀e∈(⟨js,B2,d2⟩::⟨Fo.nil,some ⟨bb,oo,none⟩,0⟩::r:List Ent),Au N W3 e.A e.c e.f from fun e he=>by
        simp only[List.mem_cons] at he;rcases he with rfl|rfl|he;·exact HJS2.out.kp hk3 (fun k hk=>(HS.out k hk).1)
        ·exact HRS2.out.kp hk3 (fun k hk=>(HS.out k hk).1)
        ·exact(HTR2.out e he).kp hk3 (fun k hk=>(HS.out k hk).1));have d6:W3.cell? ⟨bb,oo+6,none⟩=some (.slice B2 js.len d2):=hk3.cell HD6.out (fun e=>by have:=(HS.out _ e).1;simp at this;omega);have hw3:wr.heap.size≤W3.heap.size:=by have:=hk3.1;simpa using this
       have HJ3:=AA hJ3;clear hJ3 hk3;gi_wp2_with (gi_at_builtin;refine wpListIn_append_own_at _ rfl _ _ 176 rfl W1.heap.size 26 i0 (.slice none 0 0) 1 24 Tryz.underlying176 hi0 hz0 hz1 hz2 rfl (by decide) _ (r.length+1) (En (⟨Fo.nil,some ⟨bb,oo,none⟩,0⟩::r)) rfl (World.ownsRow.alloc HO3.out _) ⟨W3.heap.size,0,none⟩ 1 1 [.slice B2 js.len d2] rfl rfl (cell_one_new _ _ _) (by simp[Value.oneCell']) (by unfold maxLen;omega) (by omega) (by simp;omega) ?_;intro v' w1 hown1 hgrow1 _ hat1;obtain⟨g'',cap',rfl⟩:=ownsRow_succ hown1;have HO1:=AA hown1;have HG1:=AA hgrow1;clear hown1 hgrow1 hat1);have hgg:=AX (w:=W3) HO3.out
       have HI4:=AA (show EachI N W1.heap.size L w1 (some ⟨g'',0,none⟩) cap' (⟨js,B2,d2⟩::⟨Fo.nil,some ⟨bb,oo,none⟩,0⟩::r) (pre++[⟨bb,oo,y,B2,js.len,d2,r.length+2⟩]) from
        ⟨by have h:=HO1.out;rw[show [Value.slice B2 js.len d2]=[entv ⟨js,B2,d2⟩] from rfl,←Ct] at h;exact h,HEN.out,
         fun e he=>(HT3.out e he).keep (fun k hk hk2=>(HG1.out.block k (by simp;omega) (fun e=>by have:=hgg k e.symm;omega)).trans (Below.heap_alloc _ _ k hk2)),
         by simp;omega,by have:=HG1.out.size;simp at this;omega⟩);have HJ4:=AA (hJ _ _ _ _ (hJ.alloc (.cells #[.slice B2 js.len d2] 26) HJ3.out) HG1.out (fun k e=>by have:=hgg k e;omega));gi_wp2;gi_roundg (2*(Bq (⟨js,B2,d2⟩::⟨Fo.nil,some ⟨bb,oo,none⟩,0⟩::r)).length+(r.length+2));case rel=>exact⟨_,_,_,_,rfl,rfl,HI4,HJ4⟩
       case measure=>exact HGN.out
      ·gi_wp2;refine bodyPost_ret (results_none rfl _ _ _) rfl ?_;exact ⟨⟨_,rfl⟩,.inr ⟨_,by rw[HLN.out];exact HPR.out,hJx3⟩⟩
     ·skip;have HJ2:=AA (hJ pre wr (wr.setCell ⟨g',r.length,none⟩ (.slice (some ⟨bb,(oo+7),none⟩) rs.len q)) (some g') hj.out (grown_set _ _ _) (fun k e=>by cases e;omega));have HPR:=AA (show pre++[⟨bb,oo,y,B2,js.len,d2,r.length+2⟩]<+:L by rw[HEQ.out];exact⟨_,by simp[Bq,Fo.vis,ab,ao];rfl⟩);obtain ⟨fn2,tmps2,assign2,body2,hy2,hR2⟩:=HY.out pre _ _ HJ2.out HPR.out;replace hy2:(Instr.yield l #[.pointer (some ⟨bb,oo,none⟩),.int .i64 ((r.length:Int)+2)]).run Tryz.prog (wr.setCell ⟨g',r.length,none⟩ (.slice (some ⟨bb,(oo+7),none⟩) rs.len q))=.ok (.round l fn2 tmps2 assign2 body2) (wr.setCell ⟨g',r.length,none⟩ (.slice (some ⟨bb,(oo+7),none⟩) rs.len q)):=hy2;have HOS:=AA (HOW.out.set ⟨rs,some ⟨bb,(oo+7),none⟩,q⟩ rfl);have hNb:∀k,k<N→k<wr.heap.size→(wr.setCell ⟨g',r.length,none⟩ (.slice (some ⟨bb,(oo+7),none⟩) rs.len q)).heap[k]?=wr.heap[k]?:=fun k hk _=>Below.heap_setCell wr ⟨g',r.length,none⟩ _ k (fun e=>by simp at e;omega);have HJS2:=AA (HJS.out.keep hNb);have HTR2:=AA (fun e he=>(HTR.out e he).keep hNb);have HRS2:=AA (show Au N (wr.setCell ⟨g',r.length,none⟩ (.slice (some ⟨bb,(oo+7),none⟩) rs.len q)) (some ⟨bb,(oo+7),none⟩) q rs from Au.keep ⟨⟨by first|exact Nat.le_refl 0|omega,by first|exact Nat.zero_le _|exact Nat.le_of_succ_le HOKM.out,fun e=>by cases e⟩,fun _=>⟨_,_,rfl⟩,fun b2 o2 e=>by cases e;exact HRS.out⟩ hNb);have hd6:(wr.setCell ⟨g',r.length,none⟩ (.slice (some ⟨bb,(oo+7),none⟩) rs.len q)).cell? ⟨bb,oo+6,none⟩=some (.slice B2 js.len d2):=(World.cell?_of_block (hNb bb t1 t2)).trans HNA.out.h6;have HD6:=AA hd6
      have HGN:=AA (show 2*(Bq (⟨js,B2,d2⟩::⟨rs,some ⟨bb,(oo+7),none⟩,q⟩::r)).length+(r.length+2)<gk by
       rw[HGK.out];simp[Bq,Fo.vis,Fo.vis_len];omega)
      have HEN:=AA (show L=(pre++[⟨bb,oo,y,B2,js.len,d2,r.length+2⟩])++Bq (⟨js,B2,d2⟩::⟨rs,some ⟨bb,(oo+7),none⟩,q⟩::r) by
       rw[HEQ.out];simp[Bq,Fo.vis,ab,ao]);have HNB:=AA hNb;clear hNb hd6;gi_wp2;refine ⟨fun h=>(by cases h),hR2.mono ?_⟩;clear hR2 hy2;rintro e W3 (⟨rfl,hJ3,hk3,_⟩|⟨rfl,hJx3,_⟩)
      ·have HO3:=AA (HOS.out.kp hk3 (fun k hk=>by have:=HS0.out k hk;omega))
       have HT3:=AA (show ∀e∈(⟨js,B2,d2⟩::⟨rs,some ⟨bb,(oo+7),none⟩,q⟩::r:List Ent),Au N W3 e.A e.c e.f from fun e he=>by
        simp only[List.mem_cons] at he;rcases he with rfl|rfl|he;·exact HJS2.out.kp hk3 (fun k hk=>(HS.out k hk).1)
        ·exact HRS2.out.kp hk3 (fun k hk=>(HS.out k hk).1)
        ·exact(HTR2.out e he).kp hk3 (fun k hk=>(HS.out k hk).1));have d6:W3.cell? ⟨bb,oo+6,none⟩=some (.slice B2 js.len d2):=hk3.cell HD6.out (fun e=>by have:=(HS.out _ e).1;simp at this;omega);have hw3:wr.heap.size≤W3.heap.size:=by have:=hk3.1;simpa using this
       have HJ3:=AA hJ3;clear hJ3 hk3;gi_wp2_with (gi_at_builtin;refine wpListIn_append_own_at _ rfl _ _ 176 rfl W1.heap.size 26 i0 (.slice none 0 0) 1 24 Tryz.underlying176 hi0 hz0 hz1 hz2 rfl (by decide) _ (r.length+1) (En (⟨rs,some ⟨bb,(oo+7),none⟩,q⟩::r)) rfl (World.ownsRow.alloc HO3.out _) ⟨W3.heap.size,0,none⟩ 1 1 [.slice B2 js.len d2] rfl rfl (cell_one_new _ _ _) (by simp[Value.oneCell']) (by unfold maxLen;omega) (by omega) (by simp;omega) ?_;intro v' w1 hown1 hgrow1 _ hat1;obtain⟨g'',cap',rfl⟩:=ownsRow_succ hown1;have HO1:=AA hown1;have HG1:=AA hgrow1;clear hown1 hgrow1 hat1);have hgg:=AX (w:=W3) HO3.out
       have HI4:=AA (show EachI N W1.heap.size L w1 (some ⟨g'',0,none⟩) cap' (⟨js,B2,d2⟩::⟨rs,some ⟨bb,(oo+7),none⟩,q⟩::r) (pre++[⟨bb,oo,y,B2,js.len,d2,r.length+2⟩]) from
        ⟨by have h:=HO1.out;rw[show [Value.slice B2 js.len d2]=[entv ⟨js,B2,d2⟩] from rfl,←Ct] at h;exact h,HEN.out,
         fun e he=>(HT3.out e he).keep (fun k hk hk2=>(HG1.out.block k (by simp;omega) (fun e=>by have:=hgg k e.symm;omega)).trans (Below.heap_alloc _ _ k hk2)),
         by simp;omega,by have:=HG1.out.size;simp at this;omega⟩);have HJ4:=AA (hJ _ _ _ _ (hJ.alloc (.cells #[.slice B2 js.len d2] 26) HJ3.out) HG1.out (fun k e=>by have:=hgg k e;omega));gi_wp2;gi_roundg (2*(Bq (⟨js,B2,d2⟩::⟨rs,some ⟨bb,(oo+7),none⟩,q⟩::r)).length+(r.length+2));case rel=>exact⟨_,_,_,_,rfl,rfl,HI4,HJ4⟩
       case measure=>exact HGN.out
      ·gi_wp2;refine bodyPost_ret (results_none rfl _ _ _) rfl ?_;exact ⟨⟨_,rfl⟩,.inr ⟨_,by rw[HLN.out];exact HPR.out,hJx3⟩⟩
 ·gi_wp2;refine bodyPost_ret (results_none rfl _ _ _) rfl ?_;exact ⟨⟨_,rfl⟩,.inr ⟨_,by simp,hJx1⟩⟩
attribute [local go_sem] Oper.semAt_some
theorem prg_each (w:World)(p:Option Addr):CallsIn Fence.wide 2 Tryz.prog 84 #[.pointer p] w fun e w'=>e=.returned (.func (.func 129) #[] #[.pointer (some ⟨w.heap.size,0,none⟩)])∧w.alloc (.cells #[.pointer p] 123)=w':=by
 refine callsIn_wide.2 ?_;go_enter Tryz.func84,Tryz.ntmps84;go_wp2;go_ret;exact ⟨rfl,rfl⟩
theorem box_at {w:World}{x:Nd}{A:Option Addr}{c:Nat}{ks:Fo}(hs:Au w.heap.size w A c ks)(t:TypeId):(Fo.cons x A c ks .nil).At (w.heap.size+1) (w.alloc (.cells #[.int .i64 x.op,.string x.name,.int .i64 x.cmp,.int .i64 x.val,.int .i64 x.lo,.int .i64 x.hi,.slice A ks.len c] t)) w.heap.size 0:=by
 refine⟨by omega,by simp,fun j u hu=>?_,hs.ok,hs.some_,fun bb oo e=>((hs.at_ bb oo e).keep (fun k _ hk=>Below.heap_alloc _ _ k hk)).mono (by omega),trivial⟩;rw [Nat.zero_add,(Blk.new w t _).cell j];simpa [fcs] using hu
theorem Blk.far_ {β:Type}{B g:Nat}{t:TypeId}{cs:β→Array Value}(hg:g<B):Far B (fun s W=>Blk W g t (cs s)):=fun s W W' row hs hgr hr=>DW (β:=β) hg s W W' row hs hgr hr
theorem Blk.below {w w':World}{N g:Nat}{t:TypeId}{cs:Array Value}(h:Blk w g t cs)(hb:Below N w w')(hg:g<N):Blk w' g t cs:=(hb.block g hg).trans h
open Go.RowKit Go.Shelf
attribute [local go_sem] Oper.semAt_some
def maxD (m:Nat)(l:List (Nd×Nat×Nat)):Nat:=l.foldl (fun m y=>max m y.2.2) m
theorem maxD_snoc (m:Nat)(l:List (Nd×Nat×Nat))(y:Nd×Nat×Nat):maxD m (l++[y])=max (maxD m l) y.2.2:=by simp[maxD]
theorem Fl (m:Nat)(l k:List (Nd×Nat×Nat)):maxD m (l++k)=maxD (maxD m l) k:=by simp[maxD]
theorem maxD_nodes (t:Tr):∀m d,1≤d→maxD m (t.nodes d)=max m (if t.deep=0 then 0 else t.deep+d-1):=by
 induction t with
 |nil=>intro m d _;simp[Tr.nodes,maxD,Tr.deep]
 |cons x k r ihk ihr=>
  intro m d hd;simp only[Tr.nodes];rw [show (x,k.len,d)::(k.nodes (d+1)++r.nodes d)=[(x,k.len,d)]++(k.nodes (d+1)++r.nodes d) from rfl,Fl,Fl,ihk _ _ (by omega),ihr _ _ hd];have h0:¬(Tr.cons x k r).deep=0:=by simp only[Tr.deep];omega
  rw[if_neg h0];simp only[maxD,List.foldl_cons,List.foldl_nil,Tr.deep];by_cases h1:k.deep=0<;>by_cases h2:r.deep=0<;>simp only[h1,h2,if_true,if_false]<;>omega
theorem maxD_tree (x:Nd)(ks:Tr):maxD 0 ((Tr.cons x ks .nil).nodes 1)=ks.deep+1:=by
 rw[maxD_nodes _ _ _ (Nat.le_refl _)];have h0:¬(Tr.cons x ks .nil).deep=0:=by simp only[Tr.deep];omega
 rw[if_neg h0];simp only[Tr.deep];omega
def firstW (l:List (Nd×Nat×Nat)):Int:=l.foldl (fun e y=>if e=0 then wrongN y.1 y.2.1 else e) 0
theorem D7 (l:List (Nd×Nat×Nat))(y:Nd×Nat×Nat):firstW (l++[y])=if firstW l=0 then wrongN y.1 y.2.1 else firstW l:=by unfold firstW;rw[List.foldl_append];rfl
theorem Fq {l m:List (Nd×Nat×Nat)}(h:l<+:m)(hw:¬firstW l=0):firstW m=firstW l:=by
 obtain⟨k,rfl⟩:=h
 have:∀(k:List (Nd×Nat×Nat)) (e:Int),¬e=0→k.foldl (fun e y=>if e=0 then wrongN y.1 y.2.1 else e) e=e:=by
  intro k
  induction k with
  |nil=>intro e _;rfl
  |cons y k ih=>intro e he;rw[List.foldl_cons,if_neg he];exact ih e he
 unfold firstW at hw ⊢;rw [List.foldl_append];exact this k _ hw
def Bo (v:Vis):Nd×Nat×Nat:=(v.x,v.n,v.d)
theorem vis_prefix {pre l:List Vis}(h:pre<+:l):pre.map Bo<+:l.map Bo:=h.map _
theorem Cq (x:Nd)(A:Option Addr)(c:Nat)(ks:Fo)(b off:Nat):((Fo.cons x A c ks .nil).vis b off 1).map Bo=(Tr.cons x ks.tr .nil).nodes 1:=Fo.vis_nodes _ b off 1
theorem Fr.others {W W':World}(h:Fr Nob W W'):KeepsOthers W W':=⟨h.size,fun k _ ho _=>(h.block k (Array.getElem?_eq_some_iff.1 ho).1 (fun e=>e)).trans ho⟩
theorem BR.below {N:Nat}{w w':World}(h:BR w)(hb:Below N w w')(hN:w.heap.size≤N):BR w':=fun k hk=>
 have hc:∀{p:Addr} {v:Value},w.cell? p=some v→w'.cell? p=some v:=fun hp=>(hb.cell (by have:=World.block_lt_of_cell? w _ hp;omega)).trans hp
 ⟨hc (h k hk).1,hc (h k hk).2.1,hc (h k hk).2.2.1,hc (h k hk).2.2.2⟩
theorem FO (w:World)(x:Nd)(A:Option Addr)(c:Nat)(ks:Fo)(hs:Au w.heap.size w A c ks)(hsz:ks.tr.size≤100000)(hv:BR w)(hnm:∀y∈(Tr.cons x ks.tr .nil).nodes 1,y.1.name.size≤9223372036854775807):
 Calls Tryz.prog 53 #[AF x A ks.len c] w fun e w'=>e=.returned (.bool (firstW ((Tr.cons x ks.tr .nil).nodes 1)==0))∧Fr Nob w w':=by
 have HS:=AA hs;have HV:=AA hv;have HN:=AA hnm;clear hs hv hnm;unfold AF;refine (callsIn_wide (n:=3)).1 ?_;refine callsIn_of_wp_marks Tryz.func53 rfl trivial ?_ rfl;simp only[Tryz.ntmps53,List.size_toArray,List.length_cons,List.length_nil,Nat.reduceAdd,Nat.reduceSub,Array.replicate_succ,Array.replicate_zero,List.push_toArray,List.append_toArray,List.nil_append,List.cons_append];gi_wp2_with (refine ⟨trivial,?_⟩;gi_at_call 84;refine(prg_each _ _).mono ?_;rintro e w' ⟨rfl,rfl⟩);have hT:=(box_at (x:=x) HS.out 28);generalize hw1:w.alloc (.cells #[.int .i64 x.op,.string x.name,.int .i64 x.cmp,.int .i64 x.val,.int .i64 x.lo,.int .i64 x.hi,.slice A ks.len c] 28)=w1 at*;have hz1:w1.heap.size=w.heap.size+1:=by rw[←hw1];simp
 have hB1:Below w.heap.size w w1:=by rw[←hw1];exact(Below.refl _ _).alloc (Nat.le_refl _) _
 have HB1:=AA hB1;have HT:=AA hT;clear hT hw1 hB1;generalize hw0:(w1.alloc (.cells #[.bool false] 4)).alloc (.cells #[.pointer (some ⟨w.heap.size,0,none⟩)] 123)=w0 at*;have hz0:w0.heap.size=w.heap.size+3:=by rw[←hw0];simp[hz1]
 have hF:Fr Nob w1 w0:=by rw[←hw0];exact((Fr.refl _ _).alloc _).alloc _
 have b1:Blk w0 (w.heap.size+1) 4 #[.bool false]:=by rw[←hw0];exact(Blk.new_eq hz1.symm).alloc _
 have b2:Blk w0 (w.heap.size+2) 123 #[.pointer (some ⟨w.heap.size,0,none⟩)]:=by rw[←hw0];exact Blk.new_eq (by simp[hz1])
 have HE:=AA (each_far (3-1) (w.heap.size+1) (w.heap.size+2) (fun k=>k=w.heap.size+1) (fun k hk=>⟨by omega,by omega⟩) w0 (fun k hk=>by omega) w.heap.size 0 x A c ks (b2.cell 0) (HT.out.fr hF) (by omega) hsz);have HZ:=AA hz0;have HB0:=AA (show Below (w.heap.size+1) w1 w0 from hF.below.mono (by omega));have HZ1:=AA hz1;have HK:=AA b1;clear hw0 hz1 hF b1 b2 hz0
 refine range_far rfl (by decide) (gf:=129) (lb:=#[.pointer (some ⟨w.heap.size+2,0,none⟩)]) rfl trivial (enters_of Tryz.func129 (by kernel_rfl) rfl) HE.out (Below.refl _ _) (fun _=>rfl)
  (fun pre W=>(Blk W (w.heap.size+1) 4 #[.bool false]∧firstW (pre.map Bo)=0)∧Below (w.heap.size+1) w1 W) (fun c pre W=>c=.ret∧(Blk W (w.heap.size+1) 4 #[.bool false]∧¬firstW (pre.map Bo)=0)∧Below (w.heap.size+1) w1 W)
  (((Blk.far_ (by rw[HZ.out];omega)).and D8).and (ES (by rw[HZ1.out];exact Nat.le_refl _) (by rw[HZ.out];omega))) (fun _=>D8.and (((Blk.far_ (by rw[HZ.out];omega)).and D8).and (ES (by rw[HZ1.out];exact Nat.le_refl _) (by rw[HZ.out];omega)))) ⟨⟨HK.out,rfl⟩,HB0.out⟩
  (fun v=>{tmps:=#[.agg #[.int .i64 x.op,.string x.name,.int .i64 x.cmp,.int .i64 x.val,.int .i64 x.lo,.int .i64 x.hi,.slice A ks.len c],.pointer (some ⟨w.heap.size,0,none⟩),.pointer (some ⟨w.heap.size+1,0,none⟩),.pointer (some ⟨v.b,v.off,none⟩),.func (.func 129) #[] #[.pointer (some ⟨w.heap.size+2,0,none⟩)],.pointer (some ⟨v.b,v.off,none⟩),.int .i64 v.d,undef,undef,undef],defers:=[]}) ?assign ?body ?done ?stop
 case assign=>
  intro l v W K hK;gi_wp2;simpa [visEnc] using hK
 case body=>
  rintro l pre v W ⟨⟨hb,h0⟩,hB⟩ hpre;have hmx:=D7 (pre.map Bo) (Bo v);rw [show pre.map Bo++[Bo v]=(pre++[v]).map Bo by simp,if_pos h0,show wrongN (Bo v).1 (Bo v).2.1=wrongN v.x v.n from rfl] at hmx;have hmem:v∈(Fo.cons x A c ks .nil).vis w.heap.size 0 1:=hpre.subset (by simp);have hsn:=HN.out (Bo v) (by rw[←Cq x A c ks w.heap.size 0];exact List.mem_map_of_mem hmem);have hat:=(Fo.vis_at (HT.out.keep (fun k hk _=>hB.block k hk)) v hmem).1;have HW:=AA (fun W' (h:Fr Nob W W')=>prg_wrong W' v.b v.off v.x v.A v.n v.c ((HV.out.below (HB1.out.trans (hB.mono (by omega))) (Nat.le_refl _)).fr h) hsn (hat.fr h));have f1:=hb.frozen 0;have c1:W.cell? ⟨w.heap.size+1,0,none⟩=some (.bool false):=hb.cell 0;have HB:=AA hb;have HBB:=AA hB;have HM:=AA hmx;clear hb hB hpre hmx h0 hsn hat hmem;generalize wrongN v.x v.n=e at*;gi_wp2_with (refine ⟨trivial,?_⟩;gi_at_call 85;refine(CallsIn.inRound l ((callsIn_wide (n:=0)).2 (HW.out _ (Fr.refl _ _)))).mono ?_;rintro e w' ⟨rfl,hf⟩;have c1:w'.cell? ⟨w.heap.size+1,0,none⟩=some (.bool false):=(HB.out.fr hf (fun e=>e)).cell 0;have f1:=(HB.out.fr hf (fun e=>e)).frozen 0)
  ·have he:¬e=0:=by have h:(e !=0)=true:=by assumption
                    simpa using h
   exact⟨(Fr.others hf).trans (KeepsOthers.setCell _ _ _),rfl,⟨(HB.out.fr hf (fun e=>e)).set 0 (.bool false),by rw[HM.out];exact he⟩,(HBB.out.trans (hf.below.mono (by have:=HBB.out.size;rw[HZ1.out] at this;exact this))).setCell (by simp) _⟩
  ·have he:e=0:=by have h:(e !=0)=false:=by assumption
                   simpa using h
   exact⟨Fr.others hf,KpS.fr (hf.mono (fun _ _ h=>h.elim)),⟨HB.out.fr hf (fun e=>e),by rw[HM.out];exact he⟩,HBB.out.trans (hf.below.mono (by have:=HBB.out.size;rw[HZ1.out] at this;exact this))⟩
 case done=>
  rintro D W hD ⟨⟨hb,h0⟩,hB⟩ hK;rw [Cq] at h0;rw [HZ.out] at hD;have f1:=hb.frozen 0;have c1:W.cell? ⟨w.heap.size+1,0,none⟩=some (.bool false):=hb.cell 0;gi_wp2;have hK':=(KeepsOthers.setCell W ⟨w.heap.size+1,0,none⟩ (.bool true)).same D _ hK rfl;refine ⟨by simp,.inl ⟨_,_,rfl,run_takeDeferred hK',?_⟩⟩;have hc5:=cell_kept (World.cell?_setCell_same' W ⟨w.heap.size+1,0,none⟩ (.bool true) (by rw[c1];rfl)) (grownBy_putObj' _ D (.deferred none)) (fun r e=>by cases e;exact⟨_,hK',rfl⟩);refine ⟨(.bool true),?_,by rw[h0];rfl,Fr.of_below (((HB1.out.trans (hB.mono (by omega))).setCell (p:=⟨w.heap.size+1,0,none⟩) (by simp) _).trans (belowK_b (w:=w) (Nat.le_refl _) _ D _ _ (by omega) hK' rfl rfl))⟩;simp [results,Tryz.f53,go_sem,hc5]
 case stop=>
  rintro D c pre W hD hpre ⟨rfl,⟨hb,h0⟩,hB⟩ hK;rw [HZ.out] at hD;have f1:=hb.frozen 0;have c1:W.cell? ⟨w.heap.size+1,0,none⟩=some (.bool false):=hb.cell 0;have hst:=Fq (vis_prefix hpre) h0;rw [Cq] at hst;gi_wp2;refine ⟨by simp,.inl ⟨_,_,rfl,run_takeDeferred hK,?_⟩⟩;have hc5:=cell_kept c1 (grownBy_putObj' _ D (.deferred none)) (fun r e=>by cases e;exact⟨_,hK,rfl⟩);refine ⟨(.bool false),?_,by rw[hst];exact BM (by simpa using h0),Fr.of_below ((HB1.out.trans (hB.mono (by omega))).trans (belowK_b (w:=w) (Nat.le_refl _) W D _ _ (by omega) hK rfl rfl))⟩;simp [results,Tryz.f53,go_sem,hc5]
end Go.Proofs.YtoegdmpmagbaiaaGreatDoor
