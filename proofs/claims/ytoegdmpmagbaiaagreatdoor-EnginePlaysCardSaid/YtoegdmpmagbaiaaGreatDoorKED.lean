/- An engine's next verdict: what is left of the rows. -/
import Derived.Test.YtoegdmpmagbaiaaGreatDoorKEC
import Derived.Test.YtoegdmpmagbaiaaGreatDoorKA
import Derived.Test.YtoegdmpmagbaiaaGreatDoorKT
set_option maxHeartbeats 8000000
set_option maxRecDepth 100000
namespace Go.Proofs.YtoegdmpmagbaiaaGreatDoor
open Go.RowKit Go.Lib
def EB (A:Option Addr)(c size:Nat):Option Addr:=if c=1 then A else A.map (·.add (1*size))
theorem G1 {P:Program}{t e:TypeId}{size bytes:Nat}(hE:BP P t e size bytes)(A:Option Addr){n cap:Nat}(hk:0<n)(W:World):
 (Instr.slice t (.slice A n cap) (some (.int .i64 1)) none none).run P W=.ok (.slice (EB A cap size) (n-1) (cap-1)) W:=by
 have:=EJ hE A (n:=n) (cap:=cap) 1 hk W;unfold EB;exact this
theorem EU (b off c s:Nat):EB (some ⟨b,off,none⟩) c s=some ⟨b,if c=1 then off else off+s,none⟩:=by
 unfold EB;split;·rfl
 ·rw[Option.map_some,Nat.one_mul,Aa]
theorem Ap {b off k:Nat}:InB (some ⟨b,off,none⟩) k↔k=b:=⟨fun ⟨o,e⟩=>by simp only[Option.some.injEq,Addr.mk.injEq] at e;exact e.1.symm,fun e=>⟨off,by rw[e]⟩⟩
theorem BJ {b off c s k:Nat}:InB (EB (some ⟨b,off,none⟩) c s) k↔k=b:=by rw[EU];exact Ap
theorem Bd.cut {w:World}{t:TypeId}{b off c:Nat}{S:List Int}(h:Bd w t (some ⟨b,off,none⟩) c S)(h0:0<S.length):Bd w t (EB (some ⟨b,off,none⟩) c 1) (c-1) S.tail:=by
 have hc:=h.sl.cut (k:=1) h0;have hle:=h.sl.le;refine ⟨?_,?_⟩
 ·have e1:(S.map ivI).drop (1*1)=S.tail.map ivI:=by cases S<;>simp
  rw[e1] at hc;rw [List.length_tail];unfold EB;exact hc
 ·obtain⟨b',o',cs,e,h1,h2⟩:=h.blk.resolve_left (fun e=>by cases e.1);simp only[Option.some.injEq,Addr.mk.injEq,and_true] at e;obtain ⟨rfl,rfl⟩:=e;refine .inr ⟨b,_,cs,EU b off c 1,h1,?_⟩;split<;>omega
theorem WSl.cut {w w2:World}{b off c:Nat}{ps:List Pn}(h:WSl w (some ⟨b,off,none⟩) c ps)(h0:0<ps.length){S:Nat→Prop}(hf:Fr S w w2)(hb:b<w2.heap.size)(hcell:∀j,2≤j→w2.cell? ⟨b,off+j,none⟩=w.cell? ⟨b,off+j,none⟩)(hS:∀p∈ps,∀k,InB p.A k→¬S k):
 WSl w2 (EB (some ⟨b,off,none⟩) c 2) (c-1) ps.tail:=by
 have hle:=h.sl.le;refine ⟨⟨?_,by rw[List.length_tail];omega,by have:=h.sl.max;omega,fun e=>?_,fun hn=>?_⟩,fun p hp=>(h.inn p (List.mem_of_mem_tail hp)).fr hf fun b' off' e _=>hS p (List.mem_of_mem_tail hp) b' ⟨off',e⟩⟩;·rw[Ad pnc 2 C8]
 ·rw[EU] at e;cases e
 ·rw[List.length_tail] at hn;obtain ⟨b',o',e,_,hc⟩:=h.sl.cells h0;simp only[Option.some.injEq,Addr.mk.injEq,and_true] at e;obtain ⟨rfl,rfl⟩:=e;refine ⟨b,off+2,by rw[EU,if_neg (by omega)],hb,fun j u hu=>?_⟩;rw [Nat.add_assoc,hcell (2+j) (by omega)];refine hc (2+j) u ?_
  cases ps with
  |nil=>simp at h0
  |cons p ps=>
   rw[List.flatMap_cons,List.getElem?_append_right (by rw[C8];omega),C8,Nat.add_sub_cancel_left];exact hu
theorem Be.offK {N:Nat}{w:World}{E:Nat}{x:Nd}{far:Int}{g:EG}{B:Option Addr}{d:Nat}{ks:Fo}{A:Option Addr}{c:Nat}{ps:List Pn}{D:Option Addr}{f:Nat}{K:Option Addr}{h:Nat}{kn:List Int}{K2:Option Addr}(H:Be N w E x far g B d ks A c ps D f K h kn)
 (hK:∀k,InB K2 k→InB K k∨w.heap.size<k):¬Mown E A D K2 ps w.heap.size:=by
 rintro(hk|hk|hk|hk|hk);·have:=(H.low _ (.inl hk)).2;omega
 ·have:=(H.low _ (.inr (.inl hk))).2;omega
 ·have:=(H.low _ (.inr (.inr (.inl hk)))).2;omega
 ·rcases hK _ hk with hk|hk;·have:=(H.low _ (.inr (.inr (.inr (.inl hk))))).2;omega
  ·omega
 ·have:=(H.low _ (.inr (.inr (.inr (.inr hk))))).2;omega
theorem NxA.next {N:Nat}{w W1 W8 WZ:World}{E:Nat}{M:Nat→Prop}{x:Nd}{t:Tr}{far:Int}{g:EG}{B:Option Addr}{d:Nat}{ks:Fo}{b off c:Nat}{ps:List Pn}{D:Option Addr}{f:Nat}{K:Option Addr}{h:Nat}{kn:List Int}{db do_ kb ko h2:Nat}{row:List Int}{u v:Value}
 (H:Be N w E x far g B d ks (some ⟨b,off,none⟩) c ps D f K h kn)(hM:∀k,M k↔Mown E (some ⟨b,off,none⟩) D K ps k)(ht:ks.tr=t)(hD:D=some ⟨db,do_,none⟩)(hE:Be N W1 E x far g B d ks (some ⟨b,off,none⟩) c ps D f (some ⟨kb,ko,none⟩) h2 row)
 (hf:Fr (Ah E) w W1)(hK:∀k,InB (some ⟨kb,ko,none⟩) k→InB K k∨w.heap.size<k)(h8:Fr (Ah b) W1 W8)(hpb:∃t cs,Blk W1 b t cs∧Blk W8 b t ((cs.setIfInBounds off u).setIfInBounds (off+1) v))(hz:Fr (fun k=>k=E∨k=w.heap.size) W8 WZ)
 (hb:Blk WZ E 95 (CP x B ks.len d far g.mark (topE g.W) (.slice (EB (some ⟨b,off,none⟩) c 2) (ps.length-1) (c-1)) (.slice (EB (some ⟨db,do_,none⟩) f 1) (ps.length-1) (f-1)) (.slice (EB (some ⟨kb,ko,none⟩) h2 1) (ps.length-1) (h2-1))))
 (hrow:row=rowS g.live g.mark (madeS x ks.tr))(hlen:row.length=ps.length)(h0:g.told<g.W.length)(h1:tAt g.W g.told≤g.mark):Dq N w WZ E M x t far g.next:=by
 subst hD
 have hpl:ps.length=g.W.length-g.told:=by
  have h1:=congrArg List.length hE.ptsE;rw [AC] at h1;unfold EG.live at h1;rwa [List.length_drop] at h1
 have hsl:g.since.length=ps.length:=by rw[hE.ok.slen,←hE.ptsE,AC]
 have hlv:g.next.live=g.live.tail:=by unfold EG.live EG.next;rw[←List.drop_one,List.drop_drop]
 have hsn:g.next.since=g.since.tail:=by unfold EG.since EG.next;rw[←List.drop_one,List.drop_drop]
 have lo:=fun k hk=>hE.low k hk;have loE:=lo E (.inl rfl);have lob:=lo b (.inr (.inl (Ap.2 rfl)));have lod:=lo db (.inr (.inr (.inl (Ap.2 rfl))));have lok:=lo kb (.inr (.inr (.inr (.inl (Ap.2 rfl)))));have off0:=H.offK hK;have hwE:E<w.heap.size:=(H.low E (.inl rfl)).2;have hbE:b≠E:=fun e=>hE.eA (Ap.2 e.symm);have hdE:db≠E:=fun e=>hE.eD (Ap.2 e.symm);have hkE:kb≠E:=fun e=>hE.eK (Ap.2 e.symm);have hbd:db≠b:=fun e=>hE.ad b (Ap.2 rfl) (Ap.2 e.symm);have hbk:kb≠b:=fun e=>hE.ak b (Ap.2 rfl) (Ap.2 e.symm);have hdk:kb≠db:=fun e=>hE.dk db (Ap.2 rfl) (Ap.2 e.symm);have hbw:b≠w.heap.size:=fun e=>off0 (.inr (.inl (Ap.2 e.symm)));have hdw:db≠w.heap.size:=fun e=>off0 (.inr (.inr (.inl (Ap.2 e.symm))));have hkw:kb≠w.heap.size:=fun e=>off0 (.inr (.inr (.inr (.inl (Ap.2 e.symm)))));have hs1:=hf.size;have hs8:=h8.size;have hsz:=hz.size;have hN:N≤w.heap.size:=by have:=H.nE;omega
 have nS:∀k,k≠E→k≠w.heap.size→¬(k=E∨k=w.heap.size):=fun k h1 h2 e=>e.elim h1 h2
 have hpz:∀p∈ps,∀k,InB p.A k→k≠b∧k≠E∧k≠w.heap.size∧k≠db∧k≠kb:=fun p hp k hk=>by
  have h5:=hE.pp p hp k hk;rw [Ap,Ap,Ap] at h5;exact ⟨h5.2.1,h5.1,fun e=>off0 (.inr (.inr (.inr (.inr ⟨p,hp,e▸hk⟩)))),h5.2.2.1,h5.2.2.2⟩
 have hfz:Fr (fun k=>k=b∨k=E∨k=w.heap.size) W1 WZ:=(h8.mono (fun k _ hk=>.inl hk)).call hz (fun k hk _=>.inr hk);obtain ⟨tb,cs,hb1,hb8⟩:=hpb;have hbz:=hb8.fr hz (nS b hbE hbw)
 have hcell:∀j,2≤j→WZ.cell? ⟨b,off+j,none⟩=W1.cell? ⟨b,off+j,none⟩:=fun j hj=>by
  rw[hbz.cell,hb1.cell,Array.getElem?_setIfInBounds_ne (by omega),Array.getElem?_setIfInBounds_ne (by omega)]
 have hEng:Be N WZ E x far g.next B d ks (EB (some ⟨b,off,none⟩) c 2) (c-1) ps.tail (EB (some ⟨db,do_,none⟩) f 1) (f-1) (EB (some ⟨kb,ko,none⟩) h2 1) (h2-1) row.tail:=by
  refine⟨?_,hE.kids.keep (fun k hk hlt=>hfz.block k hlt (fun e=>by rcases e with e|e|e<;>omega)),hE.live.cut (by omega) hfz (by omega) hcell (fun p hp k hk e=>by have:=hpz p hp k hk;omega),fun k hk=>?_,?_,?_,?_,.inr ?_,hE.ok.next h0 h1,hE.nE,?_,?_,?_,?_,?_,?_,?_,?_⟩;·rw[hsn,List.length_tail,List.length_tail,List.length_tail,hsl,hlen];exact hb
  ·rw[BJ] at hk;subst hk;exact⟨_,_,hbz⟩
  ·rw[hsn];exact (hE.since.fr hfz (fun b' o' e=>by have:=(Ap (k:=b')).1 ⟨o',e⟩;omega)).cut (by omega)
  ·exact(hE.known.fr hfz (fun b' o' e=>by have:=(Ap (k:=b')).1 ⟨o',e⟩;omega)).cut (by omega)
  ·rw[hlv,←hE.ptsE];unfold pts;rw[List.map_tail]
  ·rw[hlv,hrow,←List.drop_one,←List.drop_one];exact(rowS_drop hE.ok.lrise _ 1 _).symm
  ·rintro k (hk|hk|hk|hk|⟨p,hp,hk⟩);·exact hk▸⟨loE.1,by omega⟩
   ·rw[BJ] at hk;exact hk▸⟨lob.1,by omega⟩
   ·rw[BJ] at hk;exact hk▸⟨lod.1,by omega⟩
   ·rw[BJ] at hk;exact hk▸⟨lok.1,by omega⟩
   ·have h5:=lo k (.inr (.inr (.inr (.inr ⟨p,List.mem_of_mem_tail hp,hk⟩))));exact⟨h5.1,by omega⟩
  ·rw[BJ];omega
  ·rw[BJ];omega
  ·rw[BJ];omega
  ·intro k hk;rw[BJ] at hk ⊢;omega
  ·intro k hk;rw[BJ] at hk ⊢;omega
  ·intro k hk;rw[BJ] at hk ⊢;omega
  ·intro p hp k hk;have h5:=hpz p (List.mem_of_mem_tail hp) k hk;rw [BJ,BJ,BJ];exact ⟨h5.2.1,h5.1,h5.2.2.2.1,h5.2.2.2.2⟩
 refine⟨_,⟨B,d,ks,_,_,_,_,_,_,_,_,ht,fun k=>Iff.rfl,hEng⟩,?_,?_⟩
 ·refine(hf.mono (S':=M) (fun k _ hk=>(hM k).2 (.inl hk))).call hfz (fun k hk hlt=>(hM k).2 ?_);rcases hk with hk|hk|hk;·exact .inr (.inl (Ap.2 hk))
  ·exact .inl hk
  ·omega
 ·rintro k (hk|hk|hk|hk|⟨p,hp,hk⟩);·exact .inl ((hM k).2 (.inl hk))
  ·rw[BJ] at hk;exact .inl ((hM k).2 (.inr (.inl (Ap.2 hk))))
  ·rw[BJ] at hk;exact .inl ((hM k).2 (.inr (.inr (.inl (Ap.2 hk)))))
  ·rw[BJ] at hk;rcases hK k (Ap.2 hk) with h5|h5;·exact .inl ((hM k).2 (.inr (.inr (.inr (.inl h5)))))
   ·exact .inr (by omega)
  ·exact .inl ((hM k).2 (.inr (.inr (.inr (.inr ⟨p,List.mem_of_mem_tail hp,hk⟩)))))
structure FOk (x:Nd) (t:Tr):Prop where
 good:firstW ((Tr.cons x t .nil).nodes 1)=0
 size:t.size≤4000
 names:∀y∈(Tr.cons x t .nil).nodes 1,y.1.name.size≤9223372036854775807
theorem Be.setK {N:Nat}{w w2 w3:World}{E:Nat}{x:Nd}{far:Int}{g:EG}{B:Option Addr}{d:Nat}{ks:Fo}{A:Option Addr}{c:Nat}{ps:List Pn}{D:Option Addr}{f:Nat}{K:Option Addr}{h:Nat}{kn:List Int}{g2:Nat}{row:List Int}
 (H:Be N w E x far g B d ks A c ps D f K h kn)(h2:Fr Nob w w2)(h3:Fr (Ah E) w2 w3)(hg2:w.heap.size≤g2)(hrow:Blk w2 g2 3 (row.map ivI).toArray)(hrl:row.length≤1000)(hre:row=rowS g.live g.mark (madeS x ks.tr))
 (hb:Blk w3 E 95 (CP x B ks.len d far g.mark (topE g.W) (.slice A ps.length c) (.slice D g.since.length f) (.slice (some ⟨g2,0,none⟩) row.length row.length))):
 Be N w3 E x far g B d ks A c ps D f (some ⟨g2,0,none⟩) row.length row:=by
 have lE:=H.low E (.inl rfl);have hs:=h2.size;have hs3:=h3.size;have nK:∀k,InB (some ⟨g2,0,none⟩) k↔k=g2:=fun k=>⟨fun ⟨o,e⟩=>by simp only[Option.some.injEq,Addr.mk.injEq] at e;exact e.1.symm,fun e=>⟨0,by rw[e]⟩⟩;have hne:g2≠E:=by omega
 have hlo:∀k,Mown E A D K ps k→k≠g2:=fun k hk e=>by have:=(H.low k hk).2;omega
 have nE:∀k,k≠E→¬Ah E k:=fun k hk e=>hk e
 refine⟨hb,H.kids.keep (fun k hk hlt=>(h3.block k (by omega) (nE k (by omega))).trans (h2.block k hlt (fun e=>e))),⟨(H.live.sl.pure h2).fr h3 fun b off e _=>nE b (fun e2=>H.eA ⟨off,by rw[←e2];exact e⟩),fun p hp=>((H.live.inn p hp).pure h2).fr h3 fun b off e _=>nE b ((H.pp p hp b ⟨off,e⟩).1)⟩,
  fun k hk=>((H.lblk k hk).fr h2 (fun e=>e)).fr h3 (nE k (fun e2=>H.eA (e2▸hk))),(H.since.pure h2).fr h3 (fun b off e=>nE b (fun e2=>H.eD ⟨off,by rw[←e2];exact e⟩)),
  Bd.of (off:=0) (hrow.fr h3 (nE g2 hne)) (by simp) (Nat.le_refl _) (by unfold maxLen;omega) (fun j u hu=>by rw[Nat.zero_add,List.getElem?_toArray];exact hu),H.ptsE,.inr hre,H.ok,H.nE,?_,H.eA,H.eD,?_,H.ad,?_,?_,?_⟩
 ·rintro k (hk|hk|hk|hk|hk);·exact⟨(H.low k (.inl hk)).1,by have:=(H.low k (.inl hk)).2;omega⟩
  ·exact⟨(H.low k (.inr (.inl hk))).1,by have:=(H.low k (.inr (.inl hk))).2;omega⟩
  ·exact⟨(H.low k (.inr (.inr (.inl hk)))).1,by have:=(H.low k (.inr (.inr (.inl hk)))).2;omega⟩
  ·rw[nK] at hk;subst hk;exact ⟨by omega,by have:=hrow.lt;omega⟩
  ·exact⟨(H.low k (.inr (.inr (.inr (.inr hk))))).1,by have:=(H.low k (.inr (.inr (.inr (.inr hk))))).2;omega⟩
 ·rw[nK];exact fun e=>hne e.symm
 ·intro k hk;rw[nK];exact hlo k (.inr (.inl hk))
 ·intro k hk;rw[nK];exact hlo k (.inr (.inr (.inl hk)))
 ·intro p hp k hk;have:=H.pp p hp k hk;refine ⟨this.1,this.2.1,this.2.2.1,?_⟩;rw [nK];exact hlo k (.inr (.inr (.inr (.inr ⟨p,hp,hk⟩))))
def NxA (N:Nat)(w:World)(E:Nat)(x:Nd)(far:Int)(g:EG)(B:Option Addr)(d:Nat)(ks:Fo)(A:Option Addr)(c:Nat)(ps:List Pn)(D:Option Addr)(f:Nat)(K0:Option Addr)(wc:World):Prop:=
 ∃K h,Be N wc E x far g B d ks A c ps D f K h (rowS g.live g.mark (madeS x ks.tr))∧Blk wc w.heap.size 50 #[.int .i64 0,.int .i64 0,.bool false]∧Fr (Ah E) w wc∧∀k,InB K k→InB K0 k∨w.heap.size<k
theorem Blk.set3 {W:World}{g t i j k:Nat}{arr arr':Array Value}{u v z:Value}(hB:Blk W g t arr)(h:((arr.setIfInBounds i u).setIfInBounds j v).setIfInBounds k z=arr'):Blk (((W.setCell ⟨g,i,none⟩ u).setCell ⟨g,j,none⟩ v).setCell ⟨g,k,none⟩ z).drew g t arr':=by
 rw[←h];exact(((hB.set i u).set j v).set k z).drew
theorem Fr.set3 {W:World}{g i j k:Nat}{u v z:Value}:Fr (Ah g) W (((W.setCell ⟨g,i,none⟩ u).setCell ⟨g,j,none⟩ v).setCell ⟨g,k,none⟩ z).drew:=
 ((((Fr.refl (Ah g) W).setCell (p:=⟨g,i,none⟩) (fun _=>rfl) u).setCell (p:=⟨g,j,none⟩) (fun _=>rfl) v).setCell (p:=⟨g,k,none⟩) (fun _=>rfl) z).drew
theorem elI64:BP Tryz.prog 41 2 1 8:=BP.mk (z:=.int .i64 0) Tryz.underlying41 (by kernel_rfl) rfl (by decide)
theorem NxA.done {N:Nat}{w wc w':World}{E:Nat}{M:Nat→Prop}{x:Nd}{t:Tr}{far:Int}{g:EG}{B:Option Addr}{d:Nat}{ks:Fo}{A:Option Addr}{c:Nat}{ps:List Pn}{D:Option Addr}{f:Nat}{K:Option Addr}{h:Nat}{kn:List Int}{K2:Option Addr}{h2:Nat}{row:List Int}
 (H:Be N w E x far g B d ks A c ps D f K h kn)(hM:∀k,M k↔Mown E A D K ps k)(ht:ks.tr=t)(hE:Be N wc E x far g B d ks A c ps D f K2 h2 row)(hf:Fr (Ah E) w wc)(hK:∀k,InB K2 k→InB K k∨w.heap.size<k)(hf2:Fr (Ah w.heap.size) wc w'):Dq N w w' E M x t far g:=by
 have hN:N≤w.heap.size:=by have:=H.nE;have:=(H.low E (.inl rfl)).2;omega
 refine⟨_,⟨B,d,ks,A,c,ps,D,f,K2,h2,row,ht,fun k=>Iff.rfl,hE.fr hf2 (fun k hk _=>by have:k=w.heap.size:=hk;omega) (fun k hk=>by have:k=w.heap.size:=hk;subst this;exact H.offK hK)⟩,?_,?_⟩;·exact(hf.mono (S':=M) (fun k _ hk=>(hM k).2 (.inl hk))).call hf2 (fun k hk hlt=>absurd hlt (by have:k=w.heap.size:=hk;omega))
 ·rintro k (hk|hk|hk|hk|hk);·exact .inl ((hM k).2 (.inl hk))
  ·exact .inl ((hM k).2 (.inr (.inl hk)))
  ·exact .inl ((hM k).2 (.inr (.inr (.inl hk))))
  ·rcases hK k hk with h5|h5;·exact .inl ((hM k).2 (.inr (.inr (.inr (.inl h5)))))
   ·exact .inr (by omega)
  ·exact .inl ((hM k).2 (.inr (.inr (.inr (.inr hk)))))
theorem cells9 {w W:World}{E:Nat}{v0 v1 v2 v3 v4 v5 v6 v7 v8:Value}(hf:Fr Nob w W)
 (h:w.cell? ⟨E,0,none⟩=some v0∧w.cell? ⟨E,1,none⟩=some v1∧w.cell? ⟨E,2,none⟩=some v2∧w.cell? ⟨E,3,none⟩=some v3∧w.cell? ⟨E,4,none⟩=some v4∧w.cell? ⟨E,5,none⟩=some v5∧w.cell? ⟨E,6,none⟩=some v6∧w.cell? ⟨E,8,none⟩=some v7∧w.cell? ⟨E,10,none⟩=some v8):
 W.cell? ⟨E,0,none⟩=some v0∧W.cell? ⟨E,1,none⟩=some v1∧W.cell? ⟨E,2,none⟩=some v2∧W.cell? ⟨E,3,none⟩=some v3∧W.cell? ⟨E,4,none⟩=some v4∧W.cell? ⟨E,5,none⟩=some v5∧W.cell? ⟨E,6,none⟩=some v6∧W.cell? ⟨E,8,none⟩=some v7∧W.cell? ⟨E,10,none⟩=some v8:=by
 obtain⟨h0,h1,h2,h3,h4,h5,h6,h7,h8⟩:=h;have hn:∀k,¬Nob k:=fun _ e=>e;exact ⟨hf.cell h0 (hn _),hf.cell h1 (hn _),hf.cell h2 (hn _),hf.cell h3 (hn _),hf.cell h4 (hn _),hf.cell h5 (hn _),hf.cell h6 (hn _),hf.cell h7 (hn _),hf.cell h8 (hn _)⟩
theorem cells9e {W:World}{E t:Nat}{a0 a1 a2 a3 a4 a5 a6 a7 a8 a9 a10 a11 a12 v:Value}(hB:Blk W E t #[a0,a1,a2,a3,a4,a5,a6,a7,a8,a9,a10,a11,a12]):
 (W.setCell ⟨E,12,none⟩ v).cell? ⟨E,0,none⟩=some a0∧(W.setCell ⟨E,12,none⟩ v).cell? ⟨E,1,none⟩=some a1∧(W.setCell ⟨E,12,none⟩ v).cell? ⟨E,2,none⟩=some a2∧(W.setCell ⟨E,12,none⟩ v).cell? ⟨E,3,none⟩=some a3∧(W.setCell ⟨E,12,none⟩ v).cell? ⟨E,4,none⟩=some a4∧(W.setCell ⟨E,12,none⟩ v).cell? ⟨E,5,none⟩=some a5∧(W.setCell ⟨E,12,none⟩ v).cell? ⟨E,6,none⟩=some a6∧(W.setCell ⟨E,12,none⟩ v).cell? ⟨E,8,none⟩=some a8∧(W.setCell ⟨E,12,none⟩ v).cell? ⟨E,10,none⟩=some a10:=by
 have h:=hB.set 12 v;exact ⟨h.cell 0,h.cell 1,h.cell 2,h.cell 3,h.cell 4,h.cell 5,h.cell 6,h.cell 8,h.cell 10⟩
def NextR (N:Nat)(w:World)(E:Nat)(M:Nat→Prop)(x:Nd)(t:Tr)(far:Int)(g:EG)(e:Ending)(w':World):Prop:=
 (g.nextV (madeS x t)=2∧e=.returned (.tuple #[.agg #[.int .i64 0,.int .i64 0,.bool false],.bool false])∧Dq N w w' E M x t far g)∨
 (g.nextV (madeS x t)≠2∧e=.returned (.tuple #[.agg #[.int .i64 (tAt g.W g.told),.int .i64 (xAt g.S g.told),.bool (g.nextV (madeS x t)==1)],.bool true])∧Dq N w w' E M x t far g.next)
theorem eng_Next {N:Nat}{w:World}{E:Nat}{M:Nat→Prop}{x:Nd}{t:Tr}{far:Int}{g:EG}(H:Eng N w E M x t far g)(hbd:CQ g.W 800 800)(hF:FOk x t)(hv:BR w)(htv:Cj w):
 Calls Tryz.prog 15 #[.pointer (some ⟨E,0,none⟩)] w (NextR N w E M x t far g):=by
 have HR:=AA (fun W (hf:Fr Nob w W)=>Dq.pure H hf);obtain ⟨B,d,ks,A,c,ps,D,f,K,h,kn,ht,hM,h3⟩:=H;have H3:=AA h3;have HM:=AA hM;have HT:=AA ht;have HB:=AA h3.box;unfold CP at HB;have bc:=HB.out.cell;have bl:=HB.out.lt;by_cases h0:g.told<g.W.length
 case neg=>
  have hps:ps=[]:=by
   have h1:=congrArg List.length h3.ptsE;rw [AC] at h1;unfold EG.live at h1;rw [List.length_drop] at h1;exact List.eq_nil_of_length_eq_zero (by omega)
  have HV:=AA (show g.nextV (madeS x t)=2 by unfold EG.nextV;rw[if_neg (fun e=>h0 e.1)]);subst hps;clear h3 hM ht h0;go_enter Tryz.func15,Tryz.ntmps15;go_upto_region 1 with fail;go_quiet (fail);go_wp2_with fail;refine bodyPost_ret (v:=.tuple #[.agg #[.int .i64 0,.int .i64 0,.bool false],.bool false]) (by simp[results,Tryz.results15,go_sem]) rfl (.inl ⟨HV.out,rfl,HR.out _ ?_⟩);exact (((((Fr.refl Nob w).alloc _).drewN _).setCell (p:=⟨w.heap.size,0,none⟩) (fun h=>absurd h (by simp)) _).setCell (p:=⟨w.heap.size,1,none⟩) (fun h=>absurd h (by simp)) _).setCell (p:=⟨w.heap.size,2,none⟩) (fun h=>absurd h (by simp)) _
 case pos=>
  have hpl:ps.length=g.W.length-g.told:=by
   have h1:=congrArg List.length h3.ptsE;rw [AC] at h1;unfold EG.live at h1;rwa [List.length_drop] at h1
  obtain⟨b,off,hA,hb,p0,p1⟩:=h3.live.at_ (k:=0) (by omega)
  have ht0:(ps[0]'(by omega)).t=tAt g.W g.told:=by
   have h1:=Ar (ps:=ps) (k:=0) (by omega);rw [h3.ptsE] at h1;unfold EG.live at h1;rw [Az,Nat.add_zero] at h1;exact h1.symm
  rw[ht0,Nat.zero_mul,Nat.add_zero] at p0;rw [Nat.zero_mul,Nat.add_zero] at p1;have hpl8:=(Cz hbd h3.ptsE).1;have hpl0:0<ps.length:=by omega
  have hplI:(0:Int)<ps.length:=by omega
  by_cases h1:tAt g.W g.told≤g.mark
  case neg=>
   have HV:=AA (show g.nextV (madeS x t)=2 by unfold EG.nextV;rw[if_neg (fun e=>h1 e.2)]);have h1b:g.mark<tAt g.W g.told:=by omega
   have hz:((ps.length:Int)==0)=false:=by rw[beq_eq_false_iff_ne];omega
   have hz2:(ps.length==0)=false:=by rw[beq_eq_false_iff_ne];omega
   subst hA;clear h3 hM ht h0 hpl ht0 p1 h1;go_enter Tryz.func15,Tryz.ntmps15;go_upto_region 1 with fail;go_quiet (fail);go_wp2_with fail;refine bodyPost_ret (v:=.tuple #[.agg #[.int .i64 0,.int .i64 0,.bool false],.bool false]) (by simp[results,Tryz.results15,go_sem]) rfl (.inl ⟨HV.out,rfl,HR.out _ ?_⟩);exact (((((Fr.refl Nob w).alloc _).drewN _).setCell (p:=⟨w.heap.size,0,none⟩) (fun h=>absurd h (by simp)) _).setCell (p:=⟨w.heap.size,1,none⟩) (fun h=>absurd h (by simp)) _).setCell (p:=⟨w.heap.size,2,none⟩) (fun h=>absurd h (by simp)) _
  case pos=>
   have h1b:¬g.mark<tAt g.W g.told:=by omega
   have hz:((ps.length:Int)==0)=false:=by rw[beq_eq_false_iff_ne];omega
   have hz2:(ps.length==0)=false:=by rw[beq_eq_false_iff_ne];omega
   have hrl:(rowS g.live g.mark (madeS x ks.tr)).length=ps.length:=by rw[DM,←h3.ptsE,AC]
   have HRL:=AA hrl;have HKN:=AA h3.kn;have HTR:=AA (fun W (hf:Fr Nob w W)=>th_RowF W x B d ks ((h3.kids.fr hf).mono (by have:=h3.nE;have:=HB.out.lt;have:=hf.size;omega)) (by rw[ht];exact hF.size) (hv.fr hf) (htv.fr hf) (by rw[ht];exact hF.names) A c ps (h3.live.pure hf) (fun p hp y hy=>by have:=((Cz hbd h3.ptsE).2 p hp).2 y hy;omega) (fun p hp=>h3.ok.h63 p.pt (List.mem_of_mem_drop (show p.pt∈g.live by rw[←h3.ptsE];exact List.mem_map_of_mem hp))) (by omega) g.mark);rw [h3.ptsE,show rowA x ks.tr g.live g.mark=rowS g.live g.mark (madeS x ks.tr) by unfold rowA;rw[if_pos ⟨by rw[ht];exact hF.good,h3.ok.lright,h3.ok.lo⟩]] at HTR
   have HVN:=AA (show xAt (rowS g.live g.mark (madeS x ks.tr)) 0=g.nextV (madeS x t) by
    rw[live_row h3.ok,BB,Nat.add_zero,ht];unfold EG.nextV;rw [if_pos ⟨h0,h1⟩]);obtain ⟨row,hrow⟩:∃row,row=rowS g.live g.mark (madeS x ks.tr):=⟨_,rfl⟩;rw [←hrow] at HTR HVN HRL HKN;have HROW:=AA hrow;have HPL:=AA hpl;subst hA;unfold IFresh AF at HTR;clear h3 hM ht hpl ht0 p1 hrl hrow h1 hv htv hF h0;go_enter Tryz.func15,Tryz.ntmps15;go_upto_region 1 with fail;go_quiet (fail);go_upto_if 35 with fail;have hbp:b≠w.heap.size:=by omega
   have hEp:E≠w.heap.size:=by omega
   obtain⟨W0,hW0⟩:∃W0,W0=(w.alloc (.cells #[.int .i64 0,.int .i64 0,.bool false] 50)).drewN nq:=⟨_,rfl⟩;have HF0:=AA (show Fr Nob w W0 by rw[hW0];exact((Fr.refl _ _).alloc _).drewN _);have HRB:=AA (show Blk W0 w.heap.size 50 #[.int .i64 0,.int .i64 0,.bool false] by rw[hW0];exact(Blk.new _ _ _).drewN _);have HB0:=AA (HB.out.fr HF0.out (fun e=>e));have H0:=AA (H3.out.pure HF0.out);rw [←hW0];clear hW0 bc bl p0;have bc:=HB0.out.cell;have bf:=HB0.out.frozen;have bl:=HB0.out.lt;go_cut [] from 29 (fun wc=>NxA N w E x far g B d ks (some ⟨b,off,none⟩) c ps D f K wc)
   case first=>
    rcases HKN.out with he|he
    ·subst he;have HRW:=AA HTR.out;go_upto_region 4 with fail;have HF0d:=AA HF0.out.drew
     go_region_held3 (fun W=>W.cell? ⟨E,0,none⟩=some (.int .i64 x.op)∧W.cell? ⟨E,1,none⟩=some (.string x.name)∧W.cell? ⟨E,2,none⟩=some (.int .i64 x.cmp)∧W.cell? ⟨E,3,none⟩=some (.int .i64 x.val)∧W.cell? ⟨E,4,none⟩=some (.int .i64 x.lo)∧W.cell? ⟨E,5,none⟩=some (.int .i64 x.hi)∧W.cell? ⟨E,6,none⟩=some (.slice B ks.len d)∧W.cell? ⟨E,8,none⟩=some (.int .i64 g.mark)∧W.cell? ⟨E,10,none⟩=some (.slice (some ⟨b,off,none⟩) ps.length c))
      (first|with_reducible exact cells9 hf2 (by assumption)|with_reducible exact cells9e HB2.out|go_keep)
      (first
        |((go_at_call 43);(with_reducible refine(HTR.out _ HF0d.out).mono ?_);rintro e w2 ⟨A2,c2,rfl,hs2,hf2,hn2⟩;have HS2:=AA hs2;have HF2:=AA hf2;have HN2:=AA hn2;have HB2:=AA ((HB0.out.drew).fr hf2 (fun e=>e));have bc2:=HB2.out.cell;have bf2:=HB2.out.frozen;have bl2:=HB2.out.lt;clear hs2 hn2));go_wp2_with fail;go_meet
     obtain⟨g2,rfl,hg2,rfl,hblk⟩:=HN2.out.resolve_left (fun e=>by
      have:=HS2.out.nil e;have:=HS2.out.le;have:=HRL.out;omega);have hf9:=((Fr.refl Nob W0).drew).call HF2.out (fun _ h _=>h);refine ⟨some ⟨g2,0,none⟩,row.length,?_,(HRB.out.fr hf9 (fun e=>e)).far (Ne.symm hEp) _,((HF0.out.call hf9 (fun _ h _=>h)).mono (S':=Ah E) (fun _ _ e=>e.elim)).setCell (p:=⟨E,12,none⟩) (fun _=>rfl) _,fun k ⟨o,e⟩=>?_⟩
     ·rw[←HROW.out];refine Be.setK H0.out hf9 ((Fr.refl (Ah E) w2).setCell (p:=⟨E,12,none⟩) (fun _=>rfl) _) hg2 hblk (by have:=HRL.out;omega) HROW.out ?_;have:=HB2.out.set 12 (.slice (some ⟨g2,0,none⟩) row.length row.length);unfold CP;simpa using this
     ·simp only[Option.some.injEq,Addr.mk.injEq] at e;have h1:=HRB.out.lt;have h2:W0.heap.size≤g2:=hg2;exact .inr (by omega)
    ·have hk1:kn.length=ps.length:=by rw[he];exact HRL.out
     rw[hk1];go_wp2_with fail;go_meet;exact ⟨K,h,by rw[←HROW.out,←he];exact H0.out,HRB.out,HF0.out.mono (fun _ _ e=>e.elim),fun k hk=>.inl hk⟩
   case rest=>
    obtain⟨W1,rfl⟩:∃W,W=wc:=⟨_,rfl⟩;obtain ⟨K2,h2,hE,hrb,hfr,hK2⟩:=hcut;rw [←HROW.out] at hE;have HE:=AA hE;have HX:=AA hrb;have HFc:=AA hfr;have HK2:=AA hK2
    have HBc:=AA (show Blk W1 E 95 #[.int .i64 x.op,.string x.name,.int .i64 x.cmp,.int .i64 x.val,.int .i64 x.lo,.int .i64 x.hi,.slice B ks.len d,.int .i64 far,.int .i64 g.mark,.int .i64 (topE g.W),.slice (some ⟨b,off,none⟩) ps.length c,.slice D g.since.length f,.slice K2 ps.length h2] by
     have:=hE.box;unfold CP at this;rwa [HRL.out] at this);have hsl:g.since.length=ps.length:=by rw[hE.ok.slen,←hE.ptsE,AC]
    obtain⟨kb,ko,kv,rfl,hkb,hkv,k0⟩:=hE.known.sl.at_ (k:=0) (by rw[HRL.out];exact hpl0);obtain ⟨db,do_,dv,rfl,hdb,hdv,d0⟩:=hE.since.sl.at_ (k:=0) (by rw[hsl];exact hpl0);obtain ⟨b',off',hA',hb',p0,p1⟩:=hE.live.at_ (k:=0) hpl0;simp only[Option.some.injEq,Addr.mk.injEq,and_true] at hA';obtain ⟨rfl,rfl⟩:=hA'
    have ekv:kv=.int .i64 (g.nextV (madeS x t)):=by
     rw[List.getElem?_map,Option.map_eq_some_iff] at hkv;obtain ⟨v,hv,rfl⟩:=hkv;rw [←HVN.out];unfold xAt ivI;rw [List.getD_eq_getElem?_getD,hv];rfl
    have edv:dv=.int .i64 (xAt g.S g.told):=by
     rw[List.getElem?_map,Option.map_eq_some_iff] at hdv;obtain ⟨v,hv,rfl⟩:=hdv;unfold EG.since at hv;rw [List.getElem?_drop,Nat.add_zero] at hv;unfold xAt ivI;rw [List.getD_eq_getElem?_getD,hv];rfl
    have et0:(ps[0]'hpl0).t=tAt g.W g.told:=by
     have h1:=Ar (ps:=ps) (k:=0) hpl0;rw [hE.ptsE] at h1;unfold EG.live at h1;rw [Az,Nat.add_zero] at h1;exact h1.symm
    subst ekv edv;rw [et0,Nat.zero_mul,Nat.add_zero] at p0;rw [Nat.zero_mul,Nat.add_zero] at p1;rw [Nat.add_zero] at k0 d0;rw [hsl] at HBc;have HSL:=AA hsl;have bfz:=(hE.lblk b ⟨off,rfl⟩).free;clear hE hrb hfr hK2 hkv hdv bc bf bl et0 hsl HRB HB0 H0 HTR HKN;have bc:=HBc.out.cell;have bf:=HBc.out.frozen;have bl:=HBc.out.lt;have hbN:w.heap.size<W1.heap.size:=HX.out.lt;by_cases hv2:g.nextV (madeS x t)=2
    ·have HV:=AA hv2;rw [hv2] at k0;have xc:=HX.out.cell;have xf:=HX.out.frozen
     have HZ:=AA (show Blk (((W1.setCell ⟨w.heap.size,0,none⟩ (.int .i64 0)).setCell ⟨w.heap.size,1,none⟩ (.int .i64 0)).setCell ⟨w.heap.size,2,none⟩ (.bool false)) w.heap.size 50 #[.int .i64 0,.int .i64 0,.bool false] by
      have:=((HX.out.set 0 (.int .i64 0)).set 1 (.int .i64 0)).set 2 (.bool false);simpa using this)
     have HFZ:=AA (show Fr (Ah w.heap.size) W1 (((W1.setCell ⟨w.heap.size,0,none⟩ (.int .i64 0)).setCell ⟨w.heap.size,1,none⟩ (.int .i64 0)).setCell ⟨w.heap.size,2,none⟩ (.bool false)) from
      (((Fr.refl (Ah w.heap.size) W1).setCell (p:=⟨w.heap.size,0,none⟩) (fun _=>rfl) _).setCell (p:=⟨w.heap.size,1,none⟩) (fun _=>rfl) _).setCell (p:=⟨w.heap.size,2,none⟩) (fun _=>rfl) _);clear hv2;go_wp2_with fail;generalize ((W1.setCell ⟨w.heap.size,0,none⟩ (.int .i64 0)).setCell ⟨w.heap.size,1,none⟩ (.int .i64 0)).setCell ⟨w.heap.size,2,none⟩ (.bool false)=W9 at*;have rc:=HZ.out.cell;refine bodyPost_ret (v:=.tuple #[.agg #[.int .i64 0,.int .i64 0,.bool false],.bool false]) (by simp[results,Tryz.results15,go_sem,rc]) rfl (.inl ⟨HV.out,rfl,?_⟩);exact NxA.done H3.out HM.out HT.out HE.out HFc.out HK2.out HFZ.out
    ·go_upto_region 7 with fail
     go_region_held3 (fun W=>W.cell? ⟨E,10,none⟩=some (.slice (some ⟨b,off,none⟩) ps.length c)∧W.cell? ⟨E,11,none⟩=some (.slice (some ⟨db,do_,none⟩) ps.length f)∧W.cell? ⟨E,12,none⟩=some (.slice (some ⟨kb,ko,none⟩) ps.length h2)∧W.cell? ⟨b,off,none⟩=some (.int .i64 (tAt g.W g.told))∧W.cell? ⟨db,do_,none⟩=some (.int .i64 (xAt g.S g.told))∧W.cell? ⟨kb,ko,none⟩=some (.int .i64 (g.nextV (madeS x t))))
      (go_keep)
      (fail);go_upto_region 9 with fail;obtain ⟨W8,hW8⟩:∃W8,W8=(((W1.setCell ⟨b,off,none⟩ (.int .i64 0)).setCell ⟨b,off+1,none⟩ (.slice none 0 0)).alloc (.cells #[.int .i64 (tAt g.W g.told),.int .i64 (xAt g.S g.told),.bool (g.nextV (madeS x t)==1)] 50)).drew:=⟨_,rfl⟩;have hEb:E≠b:=fun e=>HE.out.eA ⟨off,by rw[e]⟩;have HB8:=AA (show Blk W8 E 95 _ by rw[hW8];exact(((HBc.out.far (p:=⟨b,off,none⟩) hEb _).far (p:=⟨b,off+1,none⟩) hEb _).alloc _).drew);have HV8:=AA (show Blk W8 W1.heap.size 50 #[.int .i64 (tAt g.W g.told),.int .i64 (xAt g.S g.told),.bool (g.nextV (madeS x t)==1)] by rw[hW8];exact(Blk.new_eq (by simp)).drew);have HX8:=AA (show Blk W8 w.heap.size 50 #[.int .i64 0,.int .i64 0,.bool false] by rw[hW8];exact(((HX.out.far (p:=⟨b,off,none⟩) (by simp;omega) _).far (p:=⟨b,off+1,none⟩) (by simp;omega) _).alloc _).drew);have HF8:=AA (show Fr (Ah b) W1 W8 by rw[hW8];exact((((Fr.refl (Ah b) W1).setCell (p:=⟨b,off,none⟩) (fun _=>rfl) _).setCell (p:=⟨b,off+1,none⟩) (fun _=>rfl) _).alloc _).drew)
     have HPB:=AA (show ∃t cs,Blk W1 b t cs∧Blk W8 b t ((cs.setIfInBounds off (.int .i64 0)).setIfInBounds (off+1) (.slice none 0 0)) by
      obtain⟨tb,cs,hcs⟩:=HE.out.lblk b ⟨off,rfl⟩;exact ⟨tb,cs,hcs,by rw[hW8];exact(((hcs.set off _).set (off+1) _).alloc _).drew⟩);have cutA:=fun W=>G1 (P:=Tryz.prog) EA (some ⟨b,off,none⟩) (n:=ps.length) (cap:=c) hpl0 W;have cutD:=fun W=>G1 (P:=Tryz.prog) elI64 (some ⟨db,do_,none⟩) (n:=ps.length) (cap:=f) hpl0 W;have cutK:=fun W=>G1 (P:=Tryz.prog) el_i1 (some ⟨kb,ko,none⟩) (n:=ps.length) (cap:=h2) hpl0 W;rw [←hW8];clear hW8 bc bf bl k0 d0 p0 p1;have bc:=HB8.out.cell;have bf:=HB8.out.frozen;have bl:=HB8.out.lt;have HV2:=AA hv2;clear hv2;go_cut [] from 95 (fun W=>Blk W E 95 #[.int .i64 x.op,.string x.name,.int .i64 x.cmp,.int .i64 x.val,.int .i64 x.lo,.int .i64 x.hi,.slice B ks.len d,.int .i64 far,.int .i64 g.mark,.int .i64 (topE g.W),.slice (EB (some ⟨b,off,none⟩) c 2) (ps.length-1) (c-1),.slice (EB (some ⟨db,do_,none⟩) f 1) (ps.length-1) (f-1),.slice (EB (some ⟨kb,ko,none⟩) h2 1) (ps.length-1) (h2-1)]∧Fr (Ah E) W8 W)
     case first=>
      go_region_law (fail)
      all_goals
       go_wp2_with fail;go_meet;exact ⟨Blk.set3 HB8.out (by rfl),Fr.set3⟩
     case rest=>
      obtain⟨hb9,hf9⟩:=hcut;obtain ⟨W9,rfl⟩:∃W,W=wc:=⟨_,rfl⟩;have HB9:=AA hb9;have HF9:=AA hf9;have HV9:=AA (HV8.out.fr hf9 (fun e=>by have:W1.heap.size=E:=e;have:=HBc.out.lt;omega));have HX9:=AA (HX8.out.fr hf9 (fun e=>by have:w.heap.size=E:=e;omega));have vc:=HV9.out.cell;have vl:=HV9.out.lt;have xc:=HX9.out.cell;have xf:=HX9.out.frozen;have xl:=HX9.out.lt;clear hb9 hf9 bc bf bl
      have HZ:=AA (show Blk (((W9.setCell ⟨w.heap.size,0,none⟩ (.int .i64 (tAt g.W g.told))).setCell ⟨w.heap.size,1,none⟩ (.int .i64 (xAt g.S g.told))).setCell ⟨w.heap.size,2,none⟩ (.bool (g.nextV (madeS x t)==1))) w.heap.size 50 #[.int .i64 (tAt g.W g.told),.int .i64 (xAt g.S g.told),.bool (g.nextV (madeS x t)==1)] by
       have:=((HX9.out.set 0 (.int .i64 (tAt g.W g.told))).set 1 (.int .i64 (xAt g.S g.told))).set 2 (.bool (g.nextV (madeS x t)==1));simpa using this)
      have HFZ:=AA (show Fr (Ah w.heap.size) W9 (((W9.setCell ⟨w.heap.size,0,none⟩ (.int .i64 (tAt g.W g.told))).setCell ⟨w.heap.size,1,none⟩ (.int .i64 (xAt g.S g.told))).setCell ⟨w.heap.size,2,none⟩ (.bool (g.nextV (madeS x t)==1))) from
       (((Fr.refl (Ah w.heap.size) W9).setCell (p:=⟨w.heap.size,0,none⟩) (fun _=>rfl) _).setCell (p:=⟨w.heap.size,1,none⟩) (fun _=>rfl) _).setCell (p:=⟨w.heap.size,2,none⟩) (fun _=>rfl) _);go_wp2_with fail;generalize ((W9.setCell ⟨w.heap.size,0,none⟩ (.int .i64 (tAt g.W g.told))).setCell ⟨w.heap.size,1,none⟩ (.int .i64 (xAt g.S g.told))).setCell ⟨w.heap.size,2,none⟩ (.bool (g.nextV (madeS x t)==1))=WZ at*;have rc:=HZ.out.cell;refine bodyPost_ret (v:=.tuple #[.agg #[.int .i64 (tAt g.W g.told),.int .i64 (xAt g.S g.told),.bool (g.nextV (madeS x t)==1)],.bool true]) (by simp[results,Tryz.results15,go_sem,rc]) rfl (.inr ⟨HV2.out,rfl,?_⟩);obtain ⟨hn1,hn2,_⟩:=nextV_ne HV2.out;have hbz:=HB9.out.fr HFZ.out (fun e=>by have:E=w.heap.size:=e;omega);refine NxA.next H3.out HM.out HT.out rfl HE.out HFc.out HK2.out HF8.out HPB.out ((HF9.out.mono (S':=fun k=>k=E∨k=w.heap.size) (fun k _ hk=>.inl hk)).call HFZ.out (fun k hk _=>.inr hk)) ?_ HROW.out HRL.out hn1 hn2;unfold CP;exact hbz
end Go.Proofs.YtoegdmpmagbaiaaGreatDoor
