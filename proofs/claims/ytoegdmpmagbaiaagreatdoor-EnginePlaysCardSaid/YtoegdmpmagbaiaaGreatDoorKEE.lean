/- The live points of an engine. -/
import Derived.Test.YtoegdmpmagbaiaaGreatDoorKEC
import Derived.Test.YtoegdmpmagbaiaaGreatDoorQH27
import Derived.Test.YtoegdmpmagbaiaaGreatDoorKED
import Derived.Test.YtoegdmpmagbaiaaGreatDoorKEI
set_option maxHeartbeats 8000000
set_option maxRecDepth 100000
namespace Go.Proofs.YtoegdmpmagbaiaaGreatDoor
open Go.RowKit Go.Lib
structure VD where
 at_:Int
 since:Int
 yes:Bool
def vdc (v:VD):List Value:=[.int .i64 v.at_,.int .i64 v.since,.bool v.yes]
theorem vdc_len (v:VD):(vdc v).length=3:=rfl
theorem vdc_one (v:VD):∀u∈vdc v,u.oneCell'=true:=by intro u hu;simp[vdc] at hu;rcases hu with rfl|rfl|rfl<;>rfl
def EG.lives (g:EG)(s:S1):List VD:=(List.range g.live.length).map fun i=>⟨tAt g.live i,xAt g.since i,bAt (rowTS g.live s) i⟩
theorem DU (g:EG)(s:S1):(g.lives s).length=g.live.length:=by simp[EG.lives]
theorem lives_get {g:EG}{s:S1}{i:Nat}(hi:i<g.live.length):(g.lives s)[i]'(by rw[DU];exact hi)=⟨tAt g.live i,xAt g.since i,bAt (rowTS g.live s) i⟩:=by simp[EG.lives]
theorem Gn {g:EG}{s:S1}{i:Nat}(hi:i<g.live.length):(g.lives s).take (i+1)=(g.lives s).take i++[⟨tAt g.live i,xAt g.since i,bAt (rowTS g.live s) i⟩]:=by
 rw[List.take_succ_eq_append_getElem (by rw[DU];exact hi),lives_get hi]
theorem cells8 {w W:World}{E:Nat}{v0 v1 v2 v3 v4 v5 v6 v7:Value}(hf:Fr Nob w W)
 (h:w.cell? ⟨E,0,none⟩=some v0∧w.cell? ⟨E,1,none⟩=some v1∧w.cell? ⟨E,2,none⟩=some v2∧w.cell? ⟨E,3,none⟩=some v3∧w.cell? ⟨E,4,none⟩=some v4∧w.cell? ⟨E,5,none⟩=some v5∧w.cell? ⟨E,6,none⟩=some v6∧w.cell? ⟨E,10,none⟩=some v7):
 W.cell? ⟨E,0,none⟩=some v0∧W.cell? ⟨E,1,none⟩=some v1∧W.cell? ⟨E,2,none⟩=some v2∧W.cell? ⟨E,3,none⟩=some v3∧W.cell? ⟨E,4,none⟩=some v4∧W.cell? ⟨E,5,none⟩=some v5∧W.cell? ⟨E,6,none⟩=some v6∧W.cell? ⟨E,10,none⟩=some v7:=by
 obtain⟨h0,h1,h2,h3,h4,h5,h6,h7⟩:=h;have hn:∀k,¬Nob k:=fun _ e=>e;exact ⟨hf.cell h0 (hn _),hf.cell h1 (hn _),hf.cell h2 (hn _),hf.cell h3 (hn _),hf.cell h4 (hn _),hf.cell h5 (hn _),hf.cell h6 (hn _),hf.cell h7 (hn _)⟩
def LiveR (w:World)(l:List VD)(e:Ending)(w':World):Prop:=∃A c,e=.returned (.slice A l.length c)∧Sl w' 3 A l.length c (l.flatMap vdc)∧Fr Nob w w'∧∀k,InB A k→w.heap.size≤k
structure LvI (w wr:World) (l:List VD) (i:Nat) (A:Option Addr) (c:Nat):Prop where
 own:wr.ownsRow w.heap.size 50 3 (.slice A i c) i ((l.take i).flatMap vdc)
 fr:Fr Nob w wr
theorem infoV:(Tryz.prog.info? 50).map (fun i=>(i.zero,i.size,i.bytes))=some (some (.agg #[.int .i64 0,.int .i64 0,.bool false]),3,24):=by kernel_rfl
theorem Ea {w:World}{base e size:Nat}{A:Option Addr}{c n:Nat}{xs:List Value}(h:w.ownsRow base e size (.slice A n c) n xs){k:Nat}(hk:k<base):(Value.slice A n c).ownBlock≠some k:=fun e=>by have:=(h.lt k e).1;omega
theorem LvI.step {w wr w1:World}{l:List VD}{i:Nat}{A A':Option Addr}{c c':Nat}{v:VD}{o:Obj}(h:LvI w wr l i A c)(hl:l.take (i+1)=l.take i++[v])(hg:((wr.alloc o).drew).grownBy w1 (Value.slice A i c).ownBlock)
 (hown:w1.ownsRow w.heap.size 50 3 (.slice A' (i+1) c') (i+1) ((l.take i).flatMap vdc++vdc v)):LvI w w1 l (i+1) A' c':=
 ⟨by rw[hl,List.flatMap_append];simpa using hown,((h.fr.alloc o).drew).grown hg (fun k e hlt=>by have:=(h.own.lt k e).1;omega)⟩
theorem eng_Live {N:Nat}{w:World}{E:Nat}{M:Nat→Prop}{x:Nd}{t:Tr}{far:Int}{g:EG}(H:Eng N w E M x t far g)(hbd:CQ g.W 800 800)(hgood:firstW ((Tr.cons x t .nil).nodes 1)=0)(hsz:t.size≤16000)(hnm:∀y∈(Tr.cons x t .nil).nodes 1,y.1.name.size≤9223372036854775807)(hv:BR w):
 Calls Tryz.prog 17 #[.pointer (some ⟨E,0,none⟩)] w (LiveR w (g.lives (x,t))):=by
 obtain⟨B,d,ks,A,c,ps,D,f,K,h,kn,ht,hM,h3⟩:=H;have H3:=AA h3;have HB:=AA h3.box;unfold CP at HB;have bc:=HB.out.cell;have bl:=HB.out.lt;have hpl:g.live.length=ps.length:=by rw[←h3.ptsE,AC]
 have hsl:g.since.length=ps.length:=by rw[h3.ok.slen,hpl]
 have hpl8:=(Cz hbd h3.ptsE).1;have HTR:=AA (fun W (hf:Fr Nob w W)=>tr_Row W x B d ks ((h3.kids.fr hf).mono (by have:=h3.nE;have:=HB.out.lt;have:=hf.size;omega)) (by rw[ht];exact hsz) (hv.fr hf) (by rw[ht];exact hnm) A c ps (h3.live.pure hf) (fun p hp y hy=>by have:=((Cz hbd h3.ptsE).2 p hp).2 y hy;omega) (fun p hp=>h3.ok.h63 p.pt (List.mem_of_mem_drop (show p.pt∈g.live by rw[←h3.ptsE];exact List.mem_map_of_mem hp))) (by omega));rw [h3.ptsE,ht,show rowBA x t g.live=rowTS g.live (x,t) by unfold rowBA;rw[if_pos ⟨hgood,h3.ok.lright⟩]] at HTR;have HRL:=AA (show (rowTS g.live (x,t)).length=ps.length by rw[CK,hpl]);have HLL:=AA (DU g (x,t));have HLT:=AA (fun i (hi:i<ps.length)=>Gn (g:=g) (s:=(x,t)) (i:=i) (by rw[hpl];exact hi));have HPT:=AA (fun i (hi:i<ps.length)=>show(ps[i]).t=tAt g.live i by rw[←h3.ptsE];exact(Ar hi).symm);have HPL:=AA hpl;have HSL:=AA hsl;obtain ⟨row,hrow⟩:∃row,row=rowTS g.live (x,t):=⟨_,rfl⟩;rw [←hrow] at HTR HRL HLT;obtain ⟨L,hL⟩:∃L,L=g.lives (x,t):=⟨_,rfl⟩;rw [←hL] at HLL HLT ⊢;have HLN:=AA (show L.length=ps.length by rw[HLL.out,hpl]);unfold BMade AF at HTR;clear h3 hM ht hpl hsl hgood hsz hnm hv hrow hL;unfold LiveR;go_enter Tryz.func17,Tryz.ntmps17;go_upto_region 4 with fail
 go_region_held3 (fun W=>W.cell? ⟨E,0,none⟩=some (.int .i64 x.op)∧W.cell? ⟨E,1,none⟩=some (.string x.name)∧W.cell? ⟨E,2,none⟩=some (.int .i64 x.cmp)∧W.cell? ⟨E,3,none⟩=some (.int .i64 x.val)∧W.cell? ⟨E,4,none⟩=some (.int .i64 x.lo)∧W.cell? ⟨E,5,none⟩=some (.int .i64 x.hi)∧W.cell? ⟨E,6,none⟩=some (.slice B ks.len d)∧W.cell? ⟨E,10,none⟩=some (.slice A ps.length c))
  (first|with_reducible exact cells8 hf2 (by assumption)|go_keep)
  (first
    |((go_at_call 27);(with_reducible refine(HTR.out _ ((Fr.refl _ _).drew)).mono ?_);rintro e w2 ⟨A2,c2,rfl,hs2,hf2⟩;have HS2:=AA hs2;have HF2:=AA (((Fr.refl Nob w).drew).call hf2 (fun _ h _=>h));clear hs2));have HW2:=AA (show w.heap.size≤w2.heap.size from HF2.out.size);clear hf2;obtain ⟨i0,hi0,hz0,hz1,hz2⟩:=info_parts infoV;have HI0:=AA (show Tryz.prog.info? 50=some i0∧i0.zero=some (.agg #[.int .i64 0,.int .i64 0,.bool false])∧i0.size=3∧i0.bytes=24 from⟨hi0,hz0,hz1,hz2⟩);clear hi0 hz0 hz1 hz2 bc bl;go_wp2_with fail;go_loopw [3,18] (fun s iv wr=>∃(i:Nat) (A1:Option Addr) (c1:Nat),i≤row.length∧iv=.int .i64 i∧s=.slice A1 i c1∧Hid (LvI w2 wr L i A1 c1)) (fun _ iv _=>row.length-(RowKit.intOf iv).toNat);case atStart=>exact⟨0,none,0,Nat.zero_le _,rfl,rfl,AA ⟨World.ownsRow_nil _ _ _ _,Fr.refl _ _⟩⟩
 case round=>
  obtain⟨i,A1,c1,hi,rfl,rfl,hI⟩:=hrel;by_cases hlt:i<row.length
  ·have hI2:(i:Int)<row.length:=by omega
   have hI3:0≤(i:Int):=by omega
   have hip:i<ps.length:=by rw[←HRL.out];exact hlt
   have hIp:(i:Int)<ps.length:=by omega
   have HFw:=AA (HF2.out.call hI.out.fr (fun _ h _=>h));have hW:=HW2.out;have hEw:=HB.out.lt;have h4:=H3.out.pure HFw.out;have HBr:=AA (HB.out.fr HFw.out (fun e=>e));have bl:=HBr.out.lt;have b10:wr.cell? ⟨E,10,none⟩=some (.slice A ps.length c):=HBr.out.cell 10;have b11:wr.cell? ⟨E,11,none⟩=some (.slice D g.since.length f):=HBr.out.cell 11;rw [HSL.out] at b11;obtain ⟨rb,ro,rfl,hrb,r0⟩:=Ak (L:=row) (c:=c2) (A:=A2) (w:=wr) (HS2.out.pure hI.out.fr) (k:=i) hlt;obtain ⟨b,off,rfl,hb,p0,_⟩:=h4.live.at_ hip;rw [HPT.out i hip] at p0;obtain ⟨db,do_,dv,rfl,hdb,hdv,d0⟩:=h4.since.sl.at_ (k:=i) (by rw[HSL.out];exact hip)
   have edv:dv=.int .i64 (xAt g.since i):=by
    rw[List.getElem?_map,Option.map_eq_some_iff] at hdv;obtain ⟨v,hv,rfl⟩:=hdv;unfold xAt ivI;rw [List.getD_eq_getElem?_getD,hv];rfl
   subst edv;have hbw:b<w.heap.size:=(H3.out.low b (.inr (.inl ⟨off,rfl⟩))).2;have hdw:db<w.heap.size:=(H3.out.low db (.inr (.inr (.inl ⟨do_,rfl⟩)))).2;have ag:=Ea hI.out.own (show E<w2.heap.size by omega);have ab:=Ea hI.out.own (show b<w2.heap.size by omega);have ad:=Ea hI.out.own (show db<w2.heap.size by omega);have HAG:=AA ag;have HAB:=AA ab;have HAD:=AA ad;have HLS:=AA (HLT.out i hip);have hw2r:=hI.out.fr.size;generalize tAt g.live i=tv at*;generalize xAt g.since i=sv at*;generalize bAt row i=bv at*;have HONE:=AA (vdc_one ⟨tv,sv,bv⟩);clear h4 hdv ag ab ad;go_upto_region 7 with fail
   go_region_held3 (fun W=>W.cell? ⟨E,10,none⟩=some (.slice (some ⟨b,off,none⟩) ps.length c)∧W.cell? ⟨E,11,none⟩=some (.slice (some ⟨db,do_,none⟩) ps.length f)∧W.cell? ⟨b,off+i*2,none⟩=some (.int .i64 tv)∧W.cell? ⟨db,do_+i,none⟩=some (.int .i64 sv))
    (first
      |go_keep
      |(go_split_ands;refine ⟨?_,?_,?_,?_⟩;·(rw [hgrow.cell_far _ (by simp;omega) (Ne.symm HAG.out)];assumption)
        ·(rw [hgrow.cell_far _ (by simp;omega) (Ne.symm HAG.out)];assumption)
        ·(rw [hgrow.cell_far _ (by simp;omega) (Ne.symm HAB.out)];assumption)
        ·(rw [hgrow.cell_far _ (by simp;omega) (Ne.symm HAD.out)];assumption)))
    ((refine step_append_lies _ (by rfl) _ _ _ (by rfl) w2.heap.size 50 i0 _ 3 24 Tryz.underlying54 HI0.out.1 HI0.out.2.1 HI0.out.2.2.1 HI0.out.2.2.2 rfl (by omega) (.slice A1 i c1) i ((L.take i).flatMap vdc) (by rfl) ((hI.out.own.alloc _).drew)
       ⟨wr.heap.size,0,none⟩ 1 1 (vdc ⟨tv,sv,bv⟩) (by rfl) (by rfl) (World.news_of_block (cs:=#[.int .i64 tv,.int .i64 sv,.bool bv]) (t:=50) (fr:=(0,0)) (heap_alloc_new wr _)) HONE.out
       (by omega) (by unfold maxLen;omega) (by omega) (by simp;omega) (wr.heap.size+1) (by simp) ?_;intro gg cap w3 hown1 hgrow hat hlt3));have HI2:=AA (hI.out.step HLS.out hgrow hown1);clear hgrow hown1 hI hat hlt3;go_wp2_with fail;go_roundw;case rel=>exact⟨i+1,_,_,by omega,by go_num,rfl,HI2⟩
   case measure=>simp[RowKit.intOf];omega
  ·obtain rfl:i=row.length:=by omega
   have hii:¬(row.length:Int)<row.length:=by omega
   have hLr:L.length=row.length:=by rw[HLN.out,HRL.out]
   have HS9:=AA (show Sl wr 3 A1 L.length c1 (L.flatMap vdc) by
    have h1:=Sl.of_own hI.out.own;rw [←hLr,List.take_length] at h1;exact h1)
   have HB9:=AA (fun k (hk:InB A1 k)=>(show w.heap.size≤k by
    obtain⟨o,e⟩:=hk;have:=B9 hI.out.own k o e;have:=HW2.out;omega));have HF9:=AA (HF2.out.call hI.out.fr (fun _ h _=>h));rw [←hLr];have HLR:=AA hLr;clear hI hLr;go_wp2_with fail;go_ret;exact ⟨A1,c1,rfl,HS9.out,HF9.out,HB9.out⟩
def NewRE (er:Int)(w:World)(x:Nd)(t:Tr)(e:Ending)(w':World):Prop:=
 (er≠0∧e=.returned (.tuple #[.pointer none,.int .i64 er])∧Fr Nob w w')∨
 (er=0∧∃N E M,e=.returned (.tuple #[.pointer (some ⟨E,0,none⟩),.int .i64 0])∧firstW ((Tr.cons x t .nil).nodes 1)=0∧0≤far1 (x,t)∧I64 (far1 (x,t))∧Eng N w' E M x t (far1 (x,t)) EG.new∧w.heap.size≤N∧Fr Nob w w')
def NewR (w:World)(x:Nd)(t:Tr)(e:Ending)(w':World):Prop:=NewRE (errH x t) w x t e w'
theorem eng_New (w:World)(x:Nd)(A:Option Addr)(c:Nat)(ks:Fo)(hs:Au w.heap.size w A c ks)(hsz:ks.tr.size≤100000)(hv:BR w)(hx:NdOk x)(hk:ks.tr.ok)(hnm:∀y∈(Tr.cons x ks.tr .nil).nodes 1,y.1.name.size≤9223372036854775807):
 Calls Tryz.prog 11 #[AF x A ks.len c] w (NewR w x ks.tr):=by
 have HHZ:=AA (fun W (hf:Fr Nob w W)=>hz_OfE W x A c ks ((hs.fr hf).mono hf.size) hsz (hv.fr hf) hx hk hnm);have HCL:=AA (fun W (hf:Fr Nob w W)=>eng_clone _ w.heap.size W x A c ks (Nat.le_refl _) hsz (hs.fr hf) hf.size);clear hs hsz hv hx hk hnm;unfold AF at*;have HEQ:∃z,errH x ks.tr=z:=⟨_,rfl⟩;obtain ⟨er,HER⟩:=HEQ;unfold HzOfE at HHZ;rw [HER] at HHZ;show Calls _ _ _ _ (NewRE (errH x ks.tr) w x ks.tr);rw [HER];clear HER;go_enter Tryz.func11,Tryz.ntmps11;go_upto_region 2 with((go_at_call 31);(with_reducible refine(HHZ.out _ ((Fr.refl _ _).alloc _)).mono ?_);rintro e w1 ⟨h,rfl,hok,hz,hf1⟩;have HOK:=AA hok;have HF1:=AA (((Fr.refl Nob w).alloc _).call hf1 (fun _ h _=>h));have HB1:=AA ((Blk.new w 28 #[.int .i64 x.op,.string x.name,.int .i64 x.cmp,.int .i64 x.val,.int .i64 x.lo,.int .i64 x.hi,.slice A ks.len c]).fr hf1 (fun e=>e));clear hok hz hf1);by_cases he:er=0
 ·subst he;obtain ⟨hg,hh,hi,h0⟩:=HOK.out rfl;have bc:=HB1.out.cell;have bl:=HB1.out.lt;have HG:=AA hg;have HH:=AA hh;have HI:=AA hi;have H0:=AA h0;clear hg hh hi h0 HOK;go_wp2_with ((go_at_call 38);(with_reducible refine(HCL.out _ HF1.out).mono ?_);rintro e w2 ⟨B,d,js,rfl,htr,hsl,hf2⟩;have HTR:=AA htr;have HSL:=AA hsl;have HF2:=AA (HF1.out.call hf2 (fun _ h _=>h));clear htr hsl hf2);go_ret2;refine .inr ⟨rfl,w2.heap.size,w2.heap.size,_,rfl,HG.out,by rw[←HH.out];exact H0.out,by rw[←HH.out];exact HI.out,⟨B,d,js,none,0,[],none,0,none,0,[],HTR.out,fun k=>Iff.rfl,?_⟩,HF2.out.size,HF2.out.alloc _⟩;have nn:∀k,¬InB none k:=fun k ⟨o,e⟩=>by cases e
  refine⟨?_,(HSL.out.sl (N:=w2.heap.size) (fun k hk=>hk.2)).fr ((Fr.refl _ _).alloc _),⟨Sl.none_ _ _,fun p hp=>by cases hp⟩,fun k hk=>absurd hk (nn k),Bd.nil _ _,Bd.nil _ _,rfl,.inl rfl,EG.new_ok,Nat.le_refl _,?_,nn _,nn _,nn _,fun k hk=>absurd hk (nn k),fun k hk=>absurd hk (nn k),fun k hk=>absurd hk (nn k),fun p hp=>by cases hp⟩;·rw[←HH.out];exact Blk.new _ _ _
  ·rintro k (hk|hk|hk|hk|⟨p,hp,_⟩);·rw[hk];exact⟨Nat.le_refl _,by simp⟩
   ·exact absurd hk (nn k)
   ·exact absurd hk (nn k)
   ·exact absurd hk (nn k)
   ·cases hp
 ·have hne:(er !=0)=true:=by simpa using he
  have HE:=AA he;clear he;go_wp2_with fail;go_ret2;exact .inl ⟨HE.out,rfl,HF1.out⟩
end Go.Proofs.YtoegdmpmagbaiaaGreatDoor
