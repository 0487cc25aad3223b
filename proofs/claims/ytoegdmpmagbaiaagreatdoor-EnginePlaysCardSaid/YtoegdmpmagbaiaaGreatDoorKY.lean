/- The reference's made, and its Of: what norm makes of a formula. -/
import Derived.Test.YtoegdmpmagbaiaaGreatDoorKW
import Derived.Test.YtoegdmpmagbaiaaGreatDoorKD
import Derived.Test.YtoegdmpmagbaiaaGreatDoorKR
import Derived.Test.YtoegdmpmagbaiaaGreatDoorKX
import Derived.Test.YtoegdmpmagbaiaaGreatDoorKL
import Derived.Test.YtoegdmpmagbaiaaGreatDoorQW1
import Derived.Lib.QuietBelow
import Derived.Test.YtoegdmpmagbaiaaGreatDoorQH32
import Derived.Test.YtoegdmpmagbaiaaGreatDoorKE
import Derived.StillTailTactics
set_option maxHeartbeats 8000000
set_option maxRecDepth 100000
namespace Go.Proofs.YtoegdmpmagbaiaaGreatDoor
open Go.RowKit Go.Lib
theorem CW.of {p:Nat→Prop}{w:World}{y:Nd}{B:Option Addr}{d:Nat}{js:Fo}(hs:AJ p w B d js)
 (ih:∀(q:Nat→Prop) (W:World),(∀k,q k→k<W.heap.size)→AJ q W B d js→Calls Tryz.prog 70 #[AF y B js.len d] W (AQ W q (madeS y js.tr))):CW p w y B d js (madeS y js.tr):=by
 intro W hf hN;exact (ih (QB p (w.heap.size+1+1) W) W (fun _ hk=>hk.2) (hs.fr hf).toQ).mono fun _ _ h=>h.toQ hN
theorem wn_plain {n:Nd}{k:Nat}(h:wrongN n k=0)(h3:n.op≤3):n.lo=0∧n.hi=0:=(wn_of h).2.1 (by omega)
theorem Fo.nil_of {f:Fo}(h:f.len=0):f=.nil:=by
 cases f with
 |nil=>rfl
 |cons _ _ _ _ _=>simp[Fo.len] at h
theorem made_u (n y:Nd)(j:Tr):madeS n (.cons y j .nil)=BC n (madeS y j) (mk0 0):=rfl
theorem FU (n y z:Nd)(j l r:Tr):madeS n (.cons y j (.cons z l r))=BC n (madeS y j) (madeS z l):=rfl
section
variable (nm:ByteArray) (cm va lo hi:Int) (s t:S1)
theorem bec4:BC ⟨4,nm,cm,va,lo,hi⟩ s t=notS s:=by simp[BC]
theorem bec5:BC ⟨5,nm,cm,va,lo,hi⟩ s t=andS s t:=by simp[BC]
theorem bec6:BC ⟨6,nm,cm,va,lo,hi⟩ s t=notS (andS (notS s) (notS t)):=by simp[BC]
theorem bec7:BC ⟨7,nm,cm,va,lo,hi⟩ s t=notS (andS s (notS t)):=by simp[BC]
theorem bec8:BC ⟨8,nm,cm,va,lo,hi⟩ s t=iffS s t:=by simp[BC]
theorem bec9:BC ⟨9,nm,cm,va,lo,hi⟩ s t=evS lo hi s:=by simp[BC]
theorem bec10:BC ⟨10,nm,cm,va,lo,hi⟩ s t=notS (evS lo hi (notS s)):=by simp[BC]
theorem bec11:BC ⟨11,nm,cm,va,lo,hi⟩ s t=unS lo hi s t:=by simp[BC]
theorem bec12:BC ⟨12,nm,cm,va,lo,hi⟩ s t=notS (unS lo hi (notS s) (notS t)):=by simp[BC]
end
theorem rm_3 (w:World)(p:Nat→Prop)(hp:∀k,p k→k<w.heap.size)(x:Nd)(A:Option Addr)(c:Nat)(hs:AJ p w A c .nil)(h3:x.op≤3)(hz:x.lo=0∧x.hi=0):
 Calls Tryz.prog 70 #[AF x A 0 c] w (AQ w p (⟨x.op,x.name,x.cmp,x.val,0,0⟩,.nil)):=by
 obtain⟨op,nm,cm,va,lo,hi⟩:=x;obtain ⟨h0,h1⟩:=hz;dsimp only at h0 h1 h3;subst h0 h1;have HS:=AA hs;have HP:=AA hp;clear hs hp;unfold AF;dsimp only;go_enter Tryz.func70,Tryz.ntmps70;go_upto_region 1 with fail;obtain ⟨W0,hW0⟩:∃W0,(w.alloc (.cells #[.int .i64 op,.string nm,.int .i64 cm,.int .i64 va,.int .i64 0,.int .i64 0,.slice A 0 c] 39)).alloc (.cells Ab 39)=W0:=⟨_,rfl⟩;have HX0:=AA (show Blk W0 w.heap.size 39 #[.int .i64 op,.string nm,.int .i64 cm,.int .i64 va,.int .i64 0,.int .i64 0,.slice A 0 c] by rw[←hW0];exact(Blk.new _ _ _).alloc _);have HZ:=AA (show Blk W0 (w.heap.size+1) 39 Ab by rw[←hW0];exact Blk.new_eq (by simp));have HF0:=AA (show Fr Nob w W0 by rw[←hW0];exact((Fr.refl _ _).alloc _).alloc _);rw [hW0];clear hW0;have xc:=HX0.out.cell;have xl:=HX0.out.lt;have rc:=HZ.out.cell;have rf:=HZ.out.frozen;have zl:=HZ.out.lt
 go_wp2_with (first
  |(refine AB rfl rfl (by rfl) (by rfl) (by exact AV) (by rfl) (by first|exact HZ.out.alloc _|exact HZ.out) (by rfl) ?_;intro W7 hb7 hf7;have HB7:=AA hb7;have HF7:=AA hf7;have rc7:=hb7.cell;clear hb7 hf7)
  |fail);refine bodyPost_ret (v:=.agg #[.int .i64 op,.string nm,.int .i64 cm,.int .i64 va,.int .i64 0,.int .i64 0,.slice A 0 c]) (by simp[results,Tryz.results70,go_sem,rc7]) rfl ?_;exact AQ.same (x:=⟨op,nm,cm,va,0,0⟩) (ks:=.nil) rfl HS.out HP.out HF0.out (by omega) HF7.out
theorem r_made:∀(m:Nat) (w:World) (p:Nat→Prop) (x:Nd) (A:Option Addr) (c:Nat) (ks:Fo),ks.tr.size≤m→ks.tr.size≤20000→(∀k,p k→k<w.heap.size)→AJ p w A c ks→wrongN x ks.tr.len=0→ks.tr.good→
 Calls Tryz.prog 70 #[AF x A ks.len c] w (AQ w p (madeS x ks.tr)):=by
 intro m
 induction m using Nat.strongRecOn with
 |_ m ih=>
  intro w p x A c ks hm hb hp hs hg hgk;obtain ⟨o1,o12,hl⟩:=Co hg;rw [Fo.tr_len] at hl;by_cases h3:x.op≤3
  ·have hk0:ks=.nil:=Fo.nil_of (by rw[hl];unfold Aq;rw[if_pos h3]);subst hk0;rw [show madeS x Fo.nil.tr=(⟨x.op,x.name,x.cmp,x.val,0,0⟩,.nil) by unfold madeS BC;rw[if_pos h3]];exact rm_3 w p hp x A c hs h3 (wn_plain hg h3)
  ·have hk1:ks.len=1∨ks.len=2:=by rw[hl];unfold Aq;rw[if_neg h3];split<;>simp
   cases ks with
   |nil=>simp[Fo.len] at hk1
   |cons y B d js rs=>
    simp only[Fo.tr,Tr.good,Tr.size,Fo.tr_len] at hgk hm hb;obtain ⟨g1,g2,g3⟩:=hgk;obtain ⟨b,off,rfl,hbl,hn,hk⟩:=hs.kid;have hgood:=Cy (x:=y) (k:=js.tr) (by rw[Fo.tr_len];exact g1) g2;have hmk:=CW.of (y:=y) hk (fun q W hq hsq=>ih js.tr.size (by omega) W q y B d js (Nat.le_refl _) (by omega) hq hsq (by rw[Fo.tr_len];exact g1) g2);have hsz:szS (madeS y js.tr)≤90000:=by have:=hgood.2;omega
    obtain⟨op,nm,cm,va,lo,hi⟩:=x;dsimp only at*
    cases rs with
    |nil=>
     have ho:op=4∨op=9∨op=10:=by
      simp only[Fo.len] at hl;unfold Aq at hl;split at hl;·omega
      ·split at hl;·omega
       ·omega
     rcases ho with rfl|rfl|rfl
     ·rw[show madeS ⟨4,nm,cm,va,lo,hi⟩ (Fo.cons y B d js .nil).tr=_ from(made_u _ _ _).trans (bec4 ..)];exact rm_4 w p hp nm cm va lo hi b off c hbl y B d js ⟨hn,hk⟩ _ hgood.1 hmk
     ·rw[show madeS ⟨9,nm,cm,va,lo,hi⟩ (Fo.cons y B d js .nil).tr=_ from(made_u _ _ _).trans (bec9 ..)];exact rm_9 w p hp nm cm va lo hi b off c hbl y B d js ⟨hn,hk⟩ _ hgood.1 hmk
     ·rw[show madeS ⟨10,nm,cm,va,lo,hi⟩ (Fo.cons y B d js .nil).tr=_ from(made_u _ _ _).trans (bec10 ..)];exact rm_10 w p hp nm cm va lo hi b off c hbl y B d js ⟨hn,hk⟩ _ hgood.1 hmk
    |cons z C f ls rs2=>
     have hr2:rs2=.nil:=by
      cases rs2 with
      |nil=>rfl
      |cons _ _ _ _ _=>simp[Fo.len] at hk1
     subst hr2;simp only[Fo.tr,Tr.good,Tr.size,Fo.tr_len] at g3 hm hb;obtain ⟨e1,e2,_⟩:=g3;obtain ⟨b2,off2,hA2,_,hn2,hk2⟩:=hs.kid2;obtain ⟨rfl,rfl⟩:b=b2∧off=off2:=by simpa using hA2
     have hgood2:=Cy (x:=z) (k:=ls.tr) (by rw[Fo.tr_len];exact e1) e2;have hmk2:=CW.of (y:=z) hk2 (fun q W hq hsq=>ih ls.tr.size (by omega) W q z C f ls (Nat.le_refl _) (by omega) hq hsq (by rw[Fo.tr_len];exact e1) e2)
     have ho:op=5∨op=6∨op=7∨op=8∨op=11∨op=12:=by
      simp only[Fo.len] at hl;unfold Aq at hl;split at hl;·omega
      ·split at hl;·omega
       ·omega
     rcases ho with rfl|rfl|rfl|rfl|rfl|rfl
     ·rw[show madeS ⟨5,nm,cm,va,lo,hi⟩ (Fo.cons y B d js (.cons z C f ls .nil)).tr=_ from(FU _ _ _ _ _ _).trans (bec5 ..)];exact rm_5 w p hp nm cm va lo hi b off c hbl y B d js ⟨hn,hk⟩ _ hgood.1 hmk z C f ls ⟨hn2,hk2⟩ _ hgood2.1 hmk2 hsz
     ·rw[show madeS ⟨6,nm,cm,va,lo,hi⟩ (Fo.cons y B d js (.cons z C f ls .nil)).tr=_ from(FU _ _ _ _ _ _).trans (bec6 ..)];exact rm_6 w p hp nm cm va lo hi b off c hbl y B d js ⟨hn,hk⟩ _ hgood.1 hmk z C f ls ⟨hn2,hk2⟩ _ hgood2.1 hmk2 hsz
     ·rw[show madeS ⟨7,nm,cm,va,lo,hi⟩ (Fo.cons y B d js (.cons z C f ls .nil)).tr=_ from(FU _ _ _ _ _ _).trans (bec7 ..)];exact rm_7 w p hp nm cm va lo hi b off c hbl y B d js ⟨hn,hk⟩ _ hgood.1 hmk z C f ls ⟨hn2,hk2⟩ _ hgood2.1 hmk2 hsz
     ·rw[show madeS ⟨8,nm,cm,va,lo,hi⟩ (Fo.cons y B d js (.cons z C f ls .nil)).tr=_ from(FU _ _ _ _ _ _).trans (bec8 ..)];exact rm_8 w p hp nm cm va lo hi b off c hbl y B d js ⟨hn,hk⟩ _ hgood.1 hmk z C f ls ⟨hn2,hk2⟩ _ hgood2.1 hmk2 hsz
     ·rw[show madeS ⟨11,nm,cm,va,lo,hi⟩ (Fo.cons y B d js (.cons z C f ls .nil)).tr=_ from(FU _ _ _ _ _ _).trans (bec11 ..)];exact rm_11 w p hp nm cm va lo hi b off c hbl y B d js ⟨hn,hk⟩ _ hgood.1 hmk z C f ls ⟨hn2,hk2⟩ _ hgood2.1 hmk2 hsz
     ·rw[show madeS ⟨12,nm,cm,va,lo,hi⟩ (Fo.cons y B d js (.cons z C f ls .nil)).tr=_ from(FU _ _ _ _ _ _).trans (bec12 ..)];exact rm_12 w p hp nm cm va lo hi b off c hbl y B d js ⟨hn,hk⟩ _ hgood.1 hmk z C f ls ⟨hn2,hk2⟩ _ hgood2.1 hmk2 hsz
theorem r_OfP (w:World)(p:Nat→Prop)(x:Nd)(A:Option Addr)(c:Nat)(ks:Fo)(hs:AJ p w A c ks)(hp:∀k,p k→k<w.heap.size)(hb:ks.tr.size≤20000)(hnm:∀y∈(Tr.cons x ks.tr .nil).nodes 1,y.1.name.size≤9223372036854775807)(hg:firstW ((Tr.cons x ks.tr .nil).nodes 1)=0):
 Calls Tryz.prog 40 #[AF x A ks.len c] w (AQ w p (madeS x ks.tr)):=by
 obtain⟨hg1,hg2⟩:=(Bi x ks.tr).1 hg;have HFI:=AA (fun W (hf:Fr Nob w W)=>FM W.heap.size W x A c ks (by omega) (hs.fr hf).whole hnm);have HMD:=AA (fun W (hf:Fr Nob w W)=>r_made ks.tr.size W p x A c ks (Nat.le_refl _) hb (fun k hk=>Nat.lt_of_lt_of_le (hp k hk) hf.size) (AJ.fr hs hf) hg1 hg2);rw [hg] at HFI;generalize madeS x ks.tr=sr at HMD ⊢;have HP:=AA hp;clear hs hp hb hnm hg hg1 hg2;obtain ⟨op,nm,cm,va,lo,hi⟩:=x;unfold AF at*;dsimp only at*;go_enter Tryz.func40,Tryz.ntmps40;go_upto_region 1 with fail;obtain ⟨W0,hW0⟩:∃W0,(w.alloc (.cells #[.int .i64 op,.string nm,.int .i64 cm,.int .i64 va,.int .i64 lo,.int .i64 hi,.slice A ks.len c] 39)).alloc (.cells Ab 39)=W0:=⟨_,rfl⟩;have HX0:=AA (show Blk W0 w.heap.size 39 #[.int .i64 op,.string nm,.int .i64 cm,.int .i64 va,.int .i64 lo,.int .i64 hi,.slice A ks.len c] by rw[←hW0];exact(Blk.new _ _ _).alloc _);have HZ:=AA (show Blk W0 (w.heap.size+1) 39 Ab by rw[←hW0];exact Blk.new_eq (by simp));have HF0:=AA (show Fr Nob w W0 by rw[←hW0];exact((Fr.refl _ _).alloc _).alloc _);have HW0:=AA (show w.heap.size+1<W0.heap.size from HZ.out.lt);rw [hW0];clear hW0;have xc:=HX0.out.cell;have xl:=HX0.out.lt;have rc:=HZ.out.cell;have rf:=HZ.out.frozen;have zl:=HZ.out.lt
 go_upto_region 3 with(first
  |((go_at_call 69);(with_reducible refine(HFI.out W0 HF0.out).mono ?_);rintro e w1 ⟨rfl,hf1⟩;replace HF0:=AA (HF0.out.call hf1 (fun _ h _=>h));replace HZ:=AA (HZ.out.fr hf1 (fun e=>e));replace HX0:=AA (HX0.out.fr hf1 (fun e=>e));replace HW0:=AA HZ.out.lt;replace rc:=HZ.out.cell;replace rf:=HZ.out.frozen;replace zl:=HZ.out.lt;replace xc:=HX0.out.cell;replace xl:=HX0.out.lt;clear hf1)
  |fail)
 go_wp2_with (first
  |((go_at_call 70);(with_reducible refine(HMD.out w1 HF0.out).mono ?_);rintro e w2 ⟨o1,n1,m1,v1,l1,i1,A1,c1,k1,rfl,he,hs1,hf1⟩;have HE:=AA he;have HS1:=AA hs1;have HFR:=AA hf1;have HZ2:=AA (HZ.out.fr hf1 (fun e=>e));clear he hs1 hf1)
  |(refine AB rfl rfl (by rfl) (by rfl) (by exact AV) (by rfl) (by first|exact HZ2.out.alloc _|exact HZ2.out) (by rfl) ?_;intro W7 hb7 hf7;have HB7:=AA hb7;have HF7:=AA hf7;have rc7:=hb7.cell;clear hb7 hf7)
  |fail);refine bodyPost_ret (v:=.agg #[.int .i64 o1,.string n1,.int .i64 m1,.int .i64 v1,.int .i64 l1,.int .i64 i1,.slice A1 k1.len c1]) (by simp[results,Tryz.results40,go_sem,rc7]) rfl ?_;exact AQ.put (x:=⟨o1,n1,m1,v1,l1,i1⟩) HE.out HS1.out (fun k hk _=>Al HP.out (by omega) HW0.out k hk) (HF0.out.call HFR.out (fun _ h _=>h)) (by omega) HF7.out
end Go.Proofs.YtoegdmpmagbaiaaGreatDoor
namespace Go.Proofs.YtoegdmpmagbaiaaGreatDoor
open Go.RowKit Go.Lib Go.Sort
theorem Gb (w:World)(A:Option Addr)(c:Nat)(ps:List Pn)(h:WSl w A c ps)(hW:Ay (pts ps))(i:Nat)(hi':i<ps.length)(mark:Int)(hm1: -1≤mark)(hm2:mark≤AO)(n:Nd)(NA:Option Addr)(nn nc:Nat)
 (X:Option Addr)(cx:Nat)(xs:List Int)(hx:Sl w 1 X xs.length cx (xs.map ivI))(htri:∀j,Tri (xAt xs j))(Y:Option Addr)(cy:Nat)(ys:List Int)(hy:Sl w 1 Y ys.length cy (ys.map ivI))(htri2:∀j,Tri (xAt ys j))
 (hop:n.op=1∨n.op=2∨n.op=3∨n.op=4∨n.op=5∨n.op=8∨n.op=9∨n.op=11)(hxl:4≤n.op→xs.length=ps.length)(hyl:n.op=5∨n.op=8∨n.op=11→ys.length=ps.length)(hfew:ps.length≤1000):
 Calls Tryz.prog 81 #[AF n NA nn nc,.slice A ps.length c,.int .i64 mark,.int .i64 i,.slice X xs.length cx,.slice Y ys.length cy] w fun e w'=>e=.returned (.int .i64 (knK (pts ps) mark n i xs ys))∧Fr Nob w w':=by
 obtain⟨r,hr⟩:∃r,r=knK (pts ps) mark n i xs ys:=⟨_,rfl⟩;rw [←hr];have hI:(i:Int)<ps.length:=by omega
 have hI3:0≤(i:Int):=by omega
 have HL:=AA h;have HEV:=AA (fun (hl:xs.length=ps.length) W (hf:Fr Nob w W)=>rf_ev W A c ps (h.pure hf) hW i hi' mark hm1 hm2 n NA nn nc X cx xs (hx.pure hf) hl htri hfew);have HUN:=AA (fun (hl:xs.length=ps.length) (hl2:ys.length=ps.length) W (hf:Fr Nob w W)=>rf_un W A c ps (h.pure hf) hW i hi' mark hm1 hm2 n NA nn nc X cx xs (hx.pure hf) hl htri Y cy ys (hy.pure hf) hl2 htri2 hfew);clear hm1 hm2;obtain ⟨op,nm,cm,va,lo,hi⟩:=n;dsimp only at hop hxl hyl HEV HUN;unfold AF at*;dsimp only at*;rcases hop with rfl|rfl|rfl|rfl|rfl|rfl|rfl|rfl
 ·have HR:=AA (show r=1 by rw[hr];simp[knK]);clear h hx hy hr hxl hyl hW HEV HUN;go_enter Tryz.func81,Tryz.ntmps81;go_upto_region 1 with fail;obtain ⟨W0,hW0⟩:∃W0,w.alloc (.cells #[.int .i64 1,.string nm,.int .i64 cm,.int .i64 va,.int .i64 lo,.int .i64 hi,.slice NA nn nc] 39)=W0:=⟨_,rfl⟩;have HB0:=AA (show Blk W0 w.heap.size 39 #[.int .i64 1,.string nm,.int .i64 cm,.int .i64 va,.int .i64 lo,.int .i64 hi,.slice NA nn nc] by rw[←hW0];exact Blk.new _ _ _);have HF0:=AA (show Fr Nob w W0 by rw[←hW0];exact(Fr.refl _ _).alloc _);rw [hW0];clear hW0;have bc:=HB0.out.cell;have bl:=HB0.out.lt;go_wp2_with fail;go_ret;rw [HR.out];exact ⟨rfl,HF0.out⟩
 ·have HR:=AA (show r=0 by rw[hr];simp[knK]);clear h hx hy hr hxl hyl hW HEV HUN;go_enter Tryz.func81,Tryz.ntmps81;go_upto_region 1 with fail;obtain ⟨W0,hW0⟩:∃W0,w.alloc (.cells #[.int .i64 2,.string nm,.int .i64 cm,.int .i64 va,.int .i64 lo,.int .i64 hi,.slice NA nn nc] 39)=W0:=⟨_,rfl⟩;have HB0:=AA (show Blk W0 w.heap.size 39 #[.int .i64 2,.string nm,.int .i64 cm,.int .i64 va,.int .i64 lo,.int .i64 hi,.slice NA nn nc] by rw[←hW0];exact Blk.new _ _ _);have HF0:=AA (show Fr Nob w W0 by rw[←hW0];exact(Fr.refl _ _).alloc _);rw [hW0];clear hW0;have bc:=HB0.out.cell;have bl:=HB0.out.lt;go_wp2_with fail;go_ret;rw [HR.out];exact ⟨rfl,HF0.out⟩
 ·have HP:=AA (h.inn _ (List.getElem_mem hi'));obtain ⟨b,off,hA,hb,d0,d1⟩:=h.at_ hi';have HRR:=AA (show r=if holdsB ps[i].l nm cm va then 1 else if ps[i].t≤mark then 0 else 2 by rw[hr];simp[knK,Ar hi',F0 hi']);generalize ps[i]=p at*;obtain ⟨t,pA,pc,l⟩:=p;dsimp only at d0 d1 HP HRR;have HH:=AA (fun W (hf:Fr Nob w W)=>ref_Holds W pA pc l nm cm va (HP.out.pure hf));clear h hx hy hxl hyl hW hr htri htri2 HL HEV HUN;subst hA;go_enter Tryz.func81,Tryz.ntmps81;go_upto_region 1 with fail;obtain ⟨W0,hW0⟩:∃W0,w.alloc (.cells #[.int .i64 3,.string nm,.int .i64 cm,.int .i64 va,.int .i64 lo,.int .i64 hi,.slice NA nn nc] 39)=W0:=⟨_,rfl⟩;have HB0:=AA (show Blk W0 w.heap.size 39 #[.int .i64 3,.string nm,.int .i64 cm,.int .i64 va,.int .i64 lo,.int .i64 hi,.slice NA nn nc] by rw[←hW0];exact Blk.new _ _ _);have HF0:=AA (show Fr Nob w W0 by rw[←hW0];exact(Fr.refl _ _).alloc _);rw [hW0];clear hW0;have bc:=HB0.out.cell;have bl:=HB0.out.lt;replace d0:=HF0.out.cell d0 (fun e=>e);replace d1:=HF0.out.cell d1 (fun e=>e);replace hb:=Nat.lt_of_lt_of_le hb HF0.out.size;go_upto_region 6 with fail;have k0:=cell_regrown d0;have k1:=cell_regrown d1;have k2:=cell_regrown (HB0.out.cell 1);have k3:=cell_regrown (HB0.out.cell 2);have k4:=cell_regrown (HB0.out.cell 3);cases hhb:holdsB l nm cm va
  ·rw[hhb] at HRR HH;have C1:=AA (Cc fun X hf=>HH.out X (HF0.out.call hf (fun _ h _=>h)));clear hhb;by_cases htm:t≤mark
   ·have HR:=AA (show r=0 by rw[HRR.out];simp[htm]);clear HRR;refine wp_region_quiet_below (by kernel_rfl) (by kernel_rfl) ?_;repeat (go_big_quiet_step (first|exact C1.out _ _))
    refine wpQuiet_nil ?_;intro _ hw';obtain ⟨⟨dq,osq⟩,hw''⟩:=hw';subst hw'';go_wp2_with fail;go_ret;rw [HR.out];exact ⟨rfl,Bt HF0.out _ _⟩
   ·have HR:=AA (show r=2 by rw[HRR.out];simp[htm]);have htm':mark<t:=by omega
    clear HRR;refine wp_region_quiet_below (by kernel_rfl) (by kernel_rfl) ?_;repeat (go_big_quiet_step (first|exact C1.out _ _))
    refine wpQuiet_nil ?_;intro _ hw';obtain ⟨⟨dq,osq⟩,hw''⟩:=hw';subst hw'';go_wp2_with fail;go_ret;rw [HR.out];exact ⟨rfl,Bt HF0.out _ _⟩
  ·have HR:=AA (show r=1 by rw[HRR.out,hhb];rfl);rw [hhb] at HH;have C1:=AA (Cc fun X hf=>HH.out X (HF0.out.call hf (fun _ h _=>h)));clear HRR hhb;refine wp_region_quiet_below (by kernel_rfl) (by kernel_rfl) ?_;repeat (go_big_quiet_step (first|exact C1.out _ _))
   refine wpQuiet_nil ?_;intro _ hw';obtain ⟨⟨dq,osq⟩,hw''⟩:=hw';subst hw'';go_wp2_with fail;go_ret;rw [HR.out];exact ⟨rfl,Bt HF0.out _ _⟩
 ·have hl:=hxl (by decide);obtain ⟨bx,ofx,rfl,hbx,x0⟩:=Bg hx (k:=i) (by rw[hl];exact hi');have hvx:=htri i;rw [hl];clear h hx hy hxl hyl hW hl HL HEV HUN;go_enter Tryz.func81,Tryz.ntmps81;go_upto_region 1 with fail;obtain ⟨W0,hW0⟩:∃W0,w.alloc (.cells #[.int .i64 4,.string nm,.int .i64 cm,.int .i64 va,.int .i64 lo,.int .i64 hi,.slice NA nn nc] 39)=W0:=⟨_,rfl⟩;have HB0:=AA (show Blk W0 w.heap.size 39 #[.int .i64 4,.string nm,.int .i64 cm,.int .i64 va,.int .i64 lo,.int .i64 hi,.slice NA nn nc] by rw[←hW0];exact Blk.new _ _ _);have HF0:=AA (show Fr Nob w W0 by rw[←hW0];exact(Fr.refl _ _).alloc _);rw [hW0];clear hW0;have bc:=HB0.out.cell;have bl:=HB0.out.lt;replace x0:=HF0.out.cell x0 (fun e=>e);replace hbx:=Nat.lt_of_lt_of_le hbx HF0.out.size;rcases hvx with hxv|hxv|hxv
  ·rw[hxv] at x0;have HR:=AA (show r=1 by rw[hr];simp[knK,hxv]);clear hr;(try (go_wp2_with fail));(try (go_quiet (fail)));(try (go_wp2_with fail));go_ret;rw [HR.out]
   first
    |exact⟨rfl,HF0.out⟩
    |exact⟨rfl,HF0.out.drewN _⟩
  ·rw[hxv] at x0;have HR:=AA (show r=0 by rw[hr];simp[knK,hxv]);clear hr;(try (go_wp2_with fail));(try (go_quiet (fail)));(try (go_wp2_with fail));go_ret;rw [HR.out]
   first
    |exact⟨rfl,HF0.out⟩
    |exact⟨rfl,HF0.out.drewN _⟩
  ·rw[hxv] at x0;have HR:=AA (show r=2 by rw[hr];simp[knK,hxv]);clear hr;(try (go_wp2_with fail));(try (go_quiet (fail)));(try (go_wp2_with fail));go_ret;rw [HR.out]
   first
    |exact⟨rfl,HF0.out⟩
    |exact⟨rfl,HF0.out.drewN _⟩
 ·clear HEV HUN;have hl:=hxl (by decide);have hl2:=hyl (by omega);obtain ⟨bx,ofx,rfl,hbx,x0⟩:=Bg hx (k:=i) (by rw[hl];exact hi');obtain ⟨b_y,ofy,rfl,hby,y0⟩:=Bg hy (k:=i) (by rw[hl2];exact hi');have hvx:=htri i;have hvy:=htri2 i;rw [hl,hl2];clear h hx hy hxl hyl hW hl hl2 HL;go_enter Tryz.func81,Tryz.ntmps81;go_upto_region 1 with fail;obtain ⟨W0,hW0⟩:∃W0,w.alloc (.cells #[.int .i64 5,.string nm,.int .i64 cm,.int .i64 va,.int .i64 lo,.int .i64 hi,.slice NA nn nc] 39)=W0:=⟨_,rfl⟩;have HB0:=AA (show Blk W0 w.heap.size 39 #[.int .i64 5,.string nm,.int .i64 cm,.int .i64 va,.int .i64 lo,.int .i64 hi,.slice NA nn nc] by rw[←hW0];exact Blk.new _ _ _);have HF0:=AA (show Fr Nob w W0 by rw[←hW0];exact(Fr.refl _ _).alloc _);rw [hW0];clear hW0;have bc:=HB0.out.cell;have bl:=HB0.out.lt;replace x0:=HF0.out.cell x0 (fun e=>e);replace y0:=HF0.out.cell y0 (fun e=>e);replace hbx:=Nat.lt_of_lt_of_le hbx HF0.out.size;replace hby:=Nat.lt_of_lt_of_le hby HF0.out.size;rcases hvx with hxv|hxv|hxv<;>rcases hvy with hyv|hyv|hyv<;>rw[hxv] at x0<;>rw[hyv] at y0
  ·skip;have HR:=AA (show r=0 by rw[hr];simp[knK,hxv,hyv]);clear hr;(try (go_wp2_with fail));(try (go_quiet (fail)));(try (go_wp2_with fail));go_ret;rw [HR.out]
   first
    |exact⟨rfl,HF0.out⟩
    |exact⟨rfl,HF0.out.drewN _⟩
  ·skip;have HR:=AA (show r=0 by rw[hr];simp[knK,hxv,hyv]);clear hr;(try (go_wp2_with fail));(try (go_quiet (fail)));(try (go_wp2_with fail));go_ret;rw [HR.out]
   first
    |exact⟨rfl,HF0.out⟩
    |exact⟨rfl,HF0.out.drewN _⟩
  ·skip;have HR:=AA (show r=0 by rw[hr];simp[knK,hxv,hyv]);clear hr;(try (go_wp2_with fail));(try (go_quiet (fail)));(try (go_wp2_with fail));go_ret;rw [HR.out]
   first
    |exact⟨rfl,HF0.out⟩
    |exact⟨rfl,HF0.out.drewN _⟩
  ·skip;have HR:=AA (show r=0 by rw[hr];simp[knK,hxv,hyv]);clear hr;(try (go_wp2_with fail));(try (go_quiet (fail)));(try (go_wp2_with fail));go_ret;rw [HR.out]
   first
    |exact⟨rfl,HF0.out⟩
    |exact⟨rfl,HF0.out.drewN _⟩
  ·skip;have HR:=AA (show r=1 by rw[hr];simp[knK,hxv,hyv]);clear hr;(try (go_wp2_with fail));(try (go_quiet (fail)));(try (go_wp2_with fail));go_ret;rw [HR.out]
   first
    |exact⟨rfl,HF0.out⟩
    |exact⟨rfl,HF0.out.drewN _⟩
  ·skip;have HR:=AA (show r=2 by rw[hr];simp[knK,hxv,hyv]);clear hr;(try (go_wp2_with fail));(try (go_quiet (fail)));(try (go_wp2_with fail));go_ret;rw [HR.out]
   first
    |exact⟨rfl,HF0.out⟩
    |exact⟨rfl,HF0.out.drewN _⟩
  ·skip;have HR:=AA (show r=0 by rw[hr];simp[knK,hxv,hyv]);clear hr;(try (go_wp2_with fail));(try (go_quiet (fail)));(try (go_wp2_with fail));go_ret;rw [HR.out]
   first
    |exact⟨rfl,HF0.out⟩
    |exact⟨rfl,HF0.out.drewN _⟩
  ·skip;have HR:=AA (show r=2 by rw[hr];simp[knK,hxv,hyv]);clear hr;(try (go_wp2_with fail));(try (go_quiet (fail)));(try (go_wp2_with fail));go_ret;rw [HR.out]
   first
    |exact⟨rfl,HF0.out⟩
    |exact⟨rfl,HF0.out.drewN _⟩
  ·skip;have HR:=AA (show r=2 by rw[hr];simp[knK,hxv,hyv]);clear hr;(try (go_wp2_with fail));(try (go_quiet (fail)));(try (go_wp2_with fail));go_ret;rw [HR.out]
   first
    |exact⟨rfl,HF0.out⟩
    |exact⟨rfl,HF0.out.drewN _⟩
 ·clear HEV HUN;have hl:=hxl (by decide);have hl2:=hyl (by omega);obtain ⟨bx,ofx,rfl,hbx,x0⟩:=Bg hx (k:=i) (by rw[hl];exact hi');obtain ⟨b_y,ofy,rfl,hby,y0⟩:=Bg hy (k:=i) (by rw[hl2];exact hi');have hvx:=htri i;have hvy:=htri2 i;rw [hl,hl2];clear h hx hy hxl hyl hW hl hl2 HL;go_enter Tryz.func81,Tryz.ntmps81;go_upto_region 1 with fail;obtain ⟨W0,hW0⟩:∃W0,w.alloc (.cells #[.int .i64 8,.string nm,.int .i64 cm,.int .i64 va,.int .i64 lo,.int .i64 hi,.slice NA nn nc] 39)=W0:=⟨_,rfl⟩;have HB0:=AA (show Blk W0 w.heap.size 39 #[.int .i64 8,.string nm,.int .i64 cm,.int .i64 va,.int .i64 lo,.int .i64 hi,.slice NA nn nc] by rw[←hW0];exact Blk.new _ _ _);have HF0:=AA (show Fr Nob w W0 by rw[←hW0];exact(Fr.refl _ _).alloc _);rw [hW0];clear hW0;have bc:=HB0.out.cell;have bl:=HB0.out.lt;replace x0:=HF0.out.cell x0 (fun e=>e);replace y0:=HF0.out.cell y0 (fun e=>e);replace hbx:=Nat.lt_of_lt_of_le hbx HF0.out.size;replace hby:=Nat.lt_of_lt_of_le hby HF0.out.size;rcases hvx with hxv|hxv|hxv<;>rcases hvy with hyv|hyv|hyv<;>rw[hxv] at x0<;>rw[hyv] at y0
  ·skip;have HR:=AA (show r=1 by rw[hr];simp[knK,hxv,hyv]);clear hr;(try (go_wp2_with fail));(try (go_quiet (fail)));(try (go_wp2_with fail));go_ret;rw [HR.out]
   first
    |exact⟨rfl,HF0.out⟩
    |exact⟨rfl,HF0.out.drewN _⟩
  ·skip;have HR:=AA (show r=0 by rw[hr];simp[knK,hxv,hyv]);clear hr;(try (go_wp2_with fail));(try (go_quiet (fail)));(try (go_wp2_with fail));go_ret;rw [HR.out]
   first
    |exact⟨rfl,HF0.out⟩
    |exact⟨rfl,HF0.out.drewN _⟩
  ·skip;have HR:=AA (show r=2 by rw[hr];simp[knK,hxv,hyv]);clear hr;(try (go_wp2_with fail));(try (go_quiet (fail)));(try (go_wp2_with fail));go_ret;rw [HR.out]
   first
    |exact⟨rfl,HF0.out⟩
    |exact⟨rfl,HF0.out.drewN _⟩
  ·skip;have HR:=AA (show r=0 by rw[hr];simp[knK,hxv,hyv]);clear hr;(try (go_wp2_with fail));(try (go_quiet (fail)));(try (go_wp2_with fail));go_ret;rw [HR.out]
   first
    |exact⟨rfl,HF0.out⟩
    |exact⟨rfl,HF0.out.drewN _⟩
  ·skip;have HR:=AA (show r=1 by rw[hr];simp[knK,hxv,hyv]);clear hr;(try (go_wp2_with fail));(try (go_quiet (fail)));(try (go_wp2_with fail));go_ret;rw [HR.out]
   first
    |exact⟨rfl,HF0.out⟩
    |exact⟨rfl,HF0.out.drewN _⟩
  ·skip;have HR:=AA (show r=2 by rw[hr];simp[knK,hxv,hyv]);clear hr;(try (go_wp2_with fail));(try (go_quiet (fail)));(try (go_wp2_with fail));go_ret;rw [HR.out]
   first
    |exact⟨rfl,HF0.out⟩
    |exact⟨rfl,HF0.out.drewN _⟩
  ·skip;have HR:=AA (show r=2 by rw[hr];simp[knK,hxv,hyv]);clear hr;(try (go_wp2_with fail));(try (go_quiet (fail)));(try (go_wp2_with fail));go_ret;rw [HR.out]
   first
    |exact⟨rfl,HF0.out⟩
    |exact⟨rfl,HF0.out.drewN _⟩
  ·skip;have HR:=AA (show r=2 by rw[hr];simp[knK,hxv,hyv]);clear hr;(try (go_wp2_with fail));(try (go_quiet (fail)));(try (go_wp2_with fail));go_ret;rw [HR.out]
   first
    |exact⟨rfl,HF0.out⟩
    |exact⟨rfl,HF0.out.drewN _⟩
  ·skip;have HR:=AA (show r=2 by rw[hr];simp[knK,hxv,hyv]);clear hr;(try (go_wp2_with fail));(try (go_quiet (fail)));(try (go_wp2_with fail));go_ret;rw [HR.out]
   first
    |exact⟨rfl,HF0.out⟩
    |exact⟨rfl,HF0.out.drewN _⟩
 ·have hl:=hxl (by decide);have HR:=AA (show r=evK (pts ps) mark lo hi i xs by rw[hr];simp[knK]);replace HEV:=AA (HEV.out hl);generalize evK (pts ps) mark lo hi i xs=r2 at*;rw [hl] at HEV ⊢;clear h hx hy hxl hyl hW hl hr htri htri2 HL HUN;go_enter Tryz.func81,Tryz.ntmps81;go_upto_region 1 with fail;obtain ⟨W0,hW0⟩:∃W0,w.alloc (.cells #[.int .i64 9,.string nm,.int .i64 cm,.int .i64 va,.int .i64 lo,.int .i64 hi,.slice NA nn nc] 39)=W0:=⟨_,rfl⟩;have HB0:=AA (show Blk W0 w.heap.size 39 #[.int .i64 9,.string nm,.int .i64 cm,.int .i64 va,.int .i64 lo,.int .i64 hi,.slice NA nn nc] by rw[←hW0];exact Blk.new _ _ _);have HF0:=AA (show Fr Nob w W0 by rw[←hW0];exact(Fr.refl _ _).alloc _);rw [hW0];clear hW0;have bc:=HB0.out.cell;have bl:=HB0.out.lt;go_wp2_with (first|((go_at_call 126);(with_reducible refine(HEV.out _ HF0.out).mono ?_);rintro e w1 ⟨rfl,hf1⟩)|fail);go_ret;rw [HR.out];exact ⟨rfl,HF0.out.call hf1 (fun _ h _=>h)⟩
 ·have hl:=hxl (by decide);have hl2:=hyl (by omega);have HR:=AA (show r=unK (pts ps) mark lo hi i xs ys by rw[hr];simp[knK]);replace HUN:=AA (HUN.out hl hl2);generalize unK (pts ps) mark lo hi i xs ys=r2 at*;rw [hl,hl2] at HUN ⊢;clear h hx hy hxl hyl hW hl hl2 hr htri htri2 HL HEV;go_enter Tryz.func81,Tryz.ntmps81;go_upto_region 1 with fail;obtain ⟨W0,hW0⟩:∃W0,w.alloc (.cells #[.int .i64 11,.string nm,.int .i64 cm,.int .i64 va,.int .i64 lo,.int .i64 hi,.slice NA nn nc] 39)=W0:=⟨_,rfl⟩;have HB0:=AA (show Blk W0 w.heap.size 39 #[.int .i64 11,.string nm,.int .i64 cm,.int .i64 va,.int .i64 lo,.int .i64 hi,.slice NA nn nc] by rw[←hW0];exact Blk.new _ _ _);have HF0:=AA (show Fr Nob w W0 by rw[←hW0];exact(Fr.refl _ _).alloc _);rw [hW0];clear hW0;have bc:=HB0.out.cell;have bl:=HB0.out.lt;go_wp2_with (first|((go_at_call 127);(with_reducible refine(HUN.out _ HF0.out).mono ?_);rintro e w1 ⟨rfl,hf1⟩)|fail);go_ret;rw [HR.out];exact ⟨rfl,HF0.out.call hf1 (fun _ h _=>h)⟩
end Go.Proofs.YtoegdmpmagbaiaaGreatDoor
namespace Go.Proofs.YtoegdmpmagbaiaaGreatDoor
open Go.RowKit Go.Lib
def rkV (W:List Pt)(mark:Int)(x:Nd)(xs ys:List Int)(k:Nat):List Value:=((List.range k).map fun i=>knK W mark x i xs ys).map ivI
theorem rkV_nil (W:List Pt)(mark:Int)(x:Nd)(xs ys:List Int):rkV W mark x xs ys 0=[]:=rfl
theorem GY (W:List Pt)(mark:Int)(x:Nd)(xs ys:List Int)(k:Nat):rkV W mark x xs ys (k+1)=rkV W mark x xs ys k++[ivI (knK W mark x k xs ys)]:=by
 unfold rkV;rw[List.range_succ,List.map_append,List.map_append];rfl
theorem GZ (ps:List Pn)(mark:Int)(x:Nd)(xs ys:List Int):rkV (pts ps) mark x xs ys ps.length=(EX (pts ps) mark x xs ys).map ivI:=by
 unfold rkV EX;rw[AC]
theorem iv_oneJ (v:Int):∀u∈[ivI v],u.oneCell'=true:=by intro u hu;simp at hu;subst hu;rfl
theorem tri_nil (j:Nat):Tri (xAt [] j):=.inl rfl
theorem nil_sl (w:World):Sl w 1 none ([]:List Int).length 0 (([]:List Int).map ivI):=Sl.of_own (base:=0) (e:=3) (World.ownsRow_nil _ _ _ _)
section
variable (w:World) (A:Option Addr) (c:Nat) (ps:List Pn) (h:WSl w A c ps) (hW:Ay (pts ps)) (hfew:ps.length≤1000) (mark:Int) (hm1: -1≤mark) (hm2:mark≤AO)
include h hW hfew hm1 hm2
theorem rR0 (x:Nd)(B:Option Addr)(d:Nat)(hop:x.op=1∨x.op=2∨x.op=3):
 Calls Tryz.prog 47 #[AF x B 0 d,.slice A ps.length c,.int .i64 mark] w fun e w'=>IMN w w' e (EX (pts ps) mark x [] []) ps.length:=by
 have HL:=AA h;have hmax:=h.sl.max;unfold maxLen at hmax;have HK0:=AA (fun W (hf:Fr Nob w W) i (hi:i<ps.length)=>Gb W A c ps (HL.out.pure hf) hW i hi mark hm1 hm2 x B 0 d none 0 [] (nil_sl W) tri_nil none 0 [] (nil_sl W) tri_nil (by omega) (fun e=>absurd e (by omega)) (fun e=>absurd e (by omega)) hfew);clear h hW hop hm1 hm2;obtain ⟨op,nm,cm,va,lo,hi⟩:=x;unfold AF at*;dsimp only at*;go_enter Tryz.func47,Tryz.ntmps47;go_upto_region 3 with fail;obtain ⟨W0,hW0⟩:∃W0,w.alloc (.cells #[.int .i64 op,.string nm,.int .i64 cm,.int .i64 va,.int .i64 lo,.int .i64 hi,.slice B 0 d] 39)=W0:=⟨_,rfl⟩;have HB0:=AA (show Blk W0 w.heap.size 39 #[.int .i64 op,.string nm,.int .i64 cm,.int .i64 va,.int .i64 lo,.int .i64 hi,.slice B 0 d] by rw[←hW0];exact Blk.new _ _ _);have HF0:=AA (show Fr Nob w W0 by rw[←hW0];exact(Fr.refl _ _).alloc _);rw [hW0];clear hW0;have bc:=HB0.out.cell;have bl:=HB0.out.lt;have HK:=AA (fun W (hf:Fr Nob W0 W) i (hi:i<ps.length)=>HK0.out W (HF0.out.call hf (fun _ h _=>h)) i hi);simp only[List.length_nil] at HK;clear HK0;go_wp2_with fail;go_loopw [9,10] (fun ov iv wr=>∃(k:Nat) (A':Option Addr) (c':Nat),k≤ps.length∧iv=.int .i64 k∧ov=.slice A' k c'∧Hid (Fr Nob W0 wr)∧Hid (wr.ownsRow W0.heap.size 3 1 (.slice A' k c') k (rkV (pts ps) mark ⟨op,nm,cm,va,lo,hi⟩ [] [] k))) (fun _ iv _=>ps.length-(intOf iv).toNat);case atStart=>exact⟨0,none,0,Nat.zero_le _,rfl,rfl,AA (Fr.refl _ _),AA (by rw[rkV_nil];exact World.ownsRow_nil _ _ _ _)⟩
 case round=>
  obtain⟨i,A',c',hi',rfl,rfl,hfr,hown⟩:=hrel;have HBr:=AA (HB0.out.fr hfr.out (fun e=>e));have bcr:=HBr.out.cell;have blr:=HBr.out.lt;by_cases hlt:i<ps.length
  ·have hI2:(i:Int)<ps.length:=by omega
   have hI3:0≤(i:Int):=by omega
   have HKV:=AA (GY (pts ps) mark ⟨op,nm,cm,va,lo,hi⟩ [] [] i);have HKN:=AA (HK.out wr hfr.out i hlt);generalize rkV (pts ps) mark ⟨op,nm,cm,va,lo,hi⟩ [] [] i=ov0 at*;generalize knK (pts ps) mark ⟨op,nm,cm,va,lo,hi⟩ i [] []=zk at*;have HOW:=AA hown.out
   go_wp2_with (first
    |((go_at_call 81);(with_reducible refine(HKN.out).mono ?_);rintro e w11 ⟨rfl,hf11⟩;have HF11:=AA hf11;have HO1:=AA (Ag HOW.out hf11 (fun _ _ _ _ e=>e));clear hf11)
    |(at_builtin;refine AP rfl _ _ 93 rfl el_i1 (base:=W0.heap.size) (xs:=ov0) (news:=[ivI zk]) rfl ?own rfl ?src ?one ?h63 ?hby ?hbase ?_));case own=>exact Ag HO1.out ((Fr.refl Nob _).alloc _) (fun _ _ _ _ e=>e)
   case src=>exact Sl.new1 (Blk.new_eq (by simp)) 1 1 rfl (by decide)
   case one=>exact iv_oneJ _
   case h63=>unfold maxLen;omega
   case hby=>omega
   case hbase=>have h2:=hfr.out.size;have h3:=HF11.out.size;simp;omega
   intro A2 c2 w12 hown2 hgr2 hl2;have HO2:=AA (show w12.ownsRow W0.heap.size 3 1 (.slice A2 (i+1) c2) (i+1) (rkV (pts ps) mark ⟨op,nm,cm,va,lo,hi⟩ [] [] (i+1)) from by rw[HKV.out];exact hown2);have HF12:=AA (((hfr.out.call HF11.out (fun _ h _=>h)).alloc _).grown hgr2 (fun k hk hlt=>by have:=AX HO1.out k hk;omega));clear hown2 hgr2 hl2;go_wp2_with fail;go_roundw;case rel=>exact⟨i+1,A2,c2,by omega,by go_num,rfl,HF12,HO2⟩
   case measure=>simp[intOf];omega
  ·obtain rfl:i=ps.length:=by omega
   have HOA:=AA (Sl.of_own hown.out);have HFA:=AA (HF0.out.call hfr.out (fun _ h _=>h));have hlt3:¬(ps.length:Int)<ps.length:=by omega
   clear hfr hown;go_wp2_with fail;go_ret;refine ⟨_,_,rfl,?_,HFA.out⟩;rw [←GZ];exact HOA.out
theorem rR1 (x:Nd)(b off d:Nat)(hb:b<w.heap.size)(y:Nd)(B:Option Addr)(n e:Nat)(hk:CG w b off y B n e)(xs:List Int)(hxl:xs.length=ps.length)(htri:∀j,Tri (xAt xs j))
 (hC:∀W,Fr Nob w W→Calls Tryz.prog 47 #[AF y B n e,.slice A ps.length c,.int .i64 mark] W fun e w'=>IMN W w' e xs ps.length)(hop:x.op=4∨x.op=9):
 Calls Tryz.prog 47 #[AF x (some ⟨b,off,none⟩) 1 d,.slice A ps.length c,.int .i64 mark] w fun e w'=>IMN w w' e (EX (pts ps) mark x xs []) ps.length:=by
 have HL:=AA h;have hmax:=h.sl.max;unfold maxLen at hmax;have HKD:=AA hk;have HC:=AA hC
 have HK0:=AA (fun W (hf:Fr Nob w W) X cx (hs:Sl W 1 X ps.length cx (xs.map ivI)) i (hi:i<ps.length)=>(show Calls Tryz.prog 81 #[AF x (some ⟨b,off,none⟩) 1 d,.slice A ps.length c,.int .i64 mark,.int .i64 i,.slice X ps.length cx,.slice none 0 0] W _ from by
  have:=Gb W A c ps (HL.out.pure hf) hW i hi mark hm1 hm2 x (some ⟨b,off,none⟩) 1 d X cx xs (by rw[hxl];exact hs) htri none 0 [] (nil_sl W) tri_nil (by omega) (fun _=>hxl) (fun e=>absurd e (by omega)) hfew;rw [hxl] at this;exact this));clear h hW hop hm1 hm2 hC hk hxl htri;obtain ⟨op,nm,cm,va,lo,hi⟩:=x;unfold AF at*;dsimp only at*;go_enter Tryz.func47,Tryz.ntmps47;go_upto_region 3 with fail;obtain ⟨W0,hW0⟩:∃W0,w.alloc (.cells #[.int .i64 op,.string nm,.int .i64 cm,.int .i64 va,.int .i64 lo,.int .i64 hi,.slice (some ⟨b,off,none⟩) 1 d] 39)=W0:=⟨_,rfl⟩;have HB0:=AA (show Blk W0 w.heap.size 39 #[.int .i64 op,.string nm,.int .i64 cm,.int .i64 va,.int .i64 lo,.int .i64 hi,.slice (some ⟨b,off,none⟩) 1 d] by rw[←hW0];exact Blk.new _ _ _);have HF0:=AA (show Fr Nob w W0 by rw[←hW0];exact(Fr.refl _ _).alloc _);rw [hW0];clear hW0;have bc:=HB0.out.cell;have bl:=HB0.out.lt;obtain ⟨d0,d1,d2,d3,d4,d5,d6⟩:=HKD.out.fr HF0.out;have hbl:=Nat.lt_of_lt_of_le hb HF0.out.size
 go_upto_region 5 with(first
  |((go_at_call 47);(with_reducible refine(HC.out _ HF0.out).mono ?_);rintro e W1 ⟨X,cx,rfl,hxs,hf1⟩;have HXS1:=AA hxs;have HG1:=AA hf1;clear hxs hf1)
  |fail);clear d0 d1 d2 d3 d4 d5 d6 hbl bc bl HC HKD;replace HF0:=AA (HF0.out.call HG1.out (fun _ h _=>h));replace HB0:=AA (HB0.out.fr HG1.out (fun e=>e));have bc:=HB0.out.cell;have bl:=HB0.out.lt;have HK:=AA (fun W (hf:Fr Nob W1 W) i (hi:i<ps.length)=>HK0.out W (HF0.out.call hf (fun _ h _=>h)) X cx (HXS1.out.pure hf) i hi);clear HK0 HG1 HXS1;go_wp2_with fail;go_loopw [9,10] (fun ov iv wr=>∃(k:Nat) (A':Option Addr) (c':Nat),k≤ps.length∧iv=.int .i64 k∧ov=.slice A' k c'∧Hid (Fr Nob W1 wr)∧Hid (wr.ownsRow W1.heap.size 3 1 (.slice A' k c') k (rkV (pts ps) mark ⟨op,nm,cm,va,lo,hi⟩ xs [] k))) (fun _ iv _=>ps.length-(intOf iv).toNat);case atStart=>exact⟨0,none,0,Nat.zero_le _,rfl,rfl,AA (Fr.refl _ _),AA (by rw[rkV_nil];exact World.ownsRow_nil _ _ _ _)⟩
 case round=>
  obtain⟨i,A',c',hi',rfl,rfl,hfr,hown⟩:=hrel;have HBr:=AA (HB0.out.fr hfr.out (fun e=>e));have bcr:=HBr.out.cell;have blr:=HBr.out.lt;by_cases hlt:i<ps.length
  ·have hI2:(i:Int)<ps.length:=by omega
   have hI3:0≤(i:Int):=by omega
   have HKV:=AA (GY (pts ps) mark ⟨op,nm,cm,va,lo,hi⟩ xs [] i);have HKN:=AA (HK.out wr hfr.out i hlt);generalize rkV (pts ps) mark ⟨op,nm,cm,va,lo,hi⟩ xs [] i=ov0 at*;generalize knK (pts ps) mark ⟨op,nm,cm,va,lo,hi⟩ i xs []=zk at*;have HOW:=AA hown.out
   go_wp2_with (first
    |((go_at_call 81);(with_reducible refine(HKN.out).mono ?_);rintro e w11 ⟨rfl,hf11⟩;have HF11:=AA hf11;have HO1:=AA (Ag HOW.out hf11 (fun _ _ _ _ e=>e));clear hf11)
    |(at_builtin;refine AP rfl _ _ 93 rfl el_i1 (base:=W1.heap.size) (xs:=ov0) (news:=[ivI zk]) rfl ?own rfl ?src ?one ?h63 ?hby ?hbase ?_));case own=>exact Ag HO1.out ((Fr.refl Nob _).alloc _) (fun _ _ _ _ e=>e)
   case src=>exact Sl.new1 (Blk.new_eq (by simp)) 1 1 rfl (by decide)
   case one=>exact iv_oneJ _
   case h63=>unfold maxLen;omega
   case hby=>omega
   case hbase=>have h2:=hfr.out.size;have h3:=HF11.out.size;simp;omega
   intro A2 c2 w12 hown2 hgr2 hl2;have HO2:=AA (show w12.ownsRow W1.heap.size 3 1 (.slice A2 (i+1) c2) (i+1) (rkV (pts ps) mark ⟨op,nm,cm,va,lo,hi⟩ xs [] (i+1)) from by rw[HKV.out];exact hown2);have HF12:=AA (((hfr.out.call HF11.out (fun _ h _=>h)).alloc _).grown hgr2 (fun k hk hlt=>by have:=AX HO1.out k hk;omega));clear hown2 hgr2 hl2;go_wp2_with fail;go_roundw;case rel=>exact⟨i+1,A2,c2,by omega,by go_num,rfl,HF12,HO2⟩
   case measure=>simp[intOf];omega
  ·obtain rfl:i=ps.length:=by omega
   have HOA:=AA (Sl.of_own hown.out);have HFA:=AA (HF0.out.call hfr.out (fun _ h _=>h));have hlt3:¬(ps.length:Int)<ps.length:=by omega
   clear hfr hown;go_wp2_with fail;go_ret;refine ⟨_,_,rfl,?_,HFA.out⟩;rw [←GZ];exact HOA.out
theorem rR2 (x:Nd)(b off d:Nat)(hb:b<w.heap.size)(y:Nd)(B:Option Addr)(n e:Nat)(hk:CG w b off y B n e)(xs:List Int)(hxl:xs.length=ps.length)(htri:∀j,Tri (xAt xs j))
 (hC:∀W,Fr Nob w W→Calls Tryz.prog 47 #[AF y B n e,.slice A ps.length c,.int .i64 mark] W fun e w'=>IMN W w' e xs ps.length)(z:Nd)(C:Option Addr)(n2 e2:Nat)(hk2:CG w b (off+7) z C n2 e2)(ys:List Int)(hyl:ys.length=ps.length)(htri2:∀j,Tri (xAt ys j))
 (hC2:∀W,Fr Nob w W→Calls Tryz.prog 47 #[AF z C n2 e2,.slice A ps.length c,.int .i64 mark] W fun e w'=>IMN W w' e ys ps.length)(hop:x.op=5∨x.op=8∨x.op=11):
 Calls Tryz.prog 47 #[AF x (some ⟨b,off,none⟩) 2 d,.slice A ps.length c,.int .i64 mark] w fun e w'=>IMN w w' e (EX (pts ps) mark x xs ys) ps.length:=by
 have HL:=AA h;have hmax:=h.sl.max;unfold maxLen at hmax;have HKD:=AA hk;have HKE:=AA hk2;have HC:=AA hC;have HC2:=AA hC2
 have HK0:=AA (fun W (hf:Fr Nob w W) X cx (hs:Sl W 1 X ps.length cx (xs.map ivI)) Y cy (ht:Sl W 1 Y ps.length cy (ys.map ivI)) i (hi:i<ps.length)=>(show Calls Tryz.prog 81 #[AF x (some ⟨b,off,none⟩) 2 d,.slice A ps.length c,.int .i64 mark,.int .i64 i,.slice X ps.length cx,.slice Y ps.length cy] W _ from by
  have:=Gb W A c ps (HL.out.pure hf) hW i hi mark hm1 hm2 x (some ⟨b,off,none⟩) 2 d X cx xs (by rw[hxl];exact hs) htri Y cy ys (by rw[hyl];exact ht) htri2 (by omega) (fun _=>hxl) (fun _=>hyl) hfew;rw [hxl,hyl] at this;exact this));clear h hW hop hm1 hm2 hC hk hxl htri hC2 hk2 hyl htri2;obtain ⟨op,nm,cm,va,lo,hi⟩:=x;unfold AF at*;dsimp only at*;go_enter Tryz.func47,Tryz.ntmps47;go_upto_region 3 with fail;obtain ⟨W0,hW0⟩:∃W0,w.alloc (.cells #[.int .i64 op,.string nm,.int .i64 cm,.int .i64 va,.int .i64 lo,.int .i64 hi,.slice (some ⟨b,off,none⟩) 2 d] 39)=W0:=⟨_,rfl⟩;have HB0:=AA (show Blk W0 w.heap.size 39 #[.int .i64 op,.string nm,.int .i64 cm,.int .i64 va,.int .i64 lo,.int .i64 hi,.slice (some ⟨b,off,none⟩) 2 d] by rw[←hW0];exact Blk.new _ _ _);have HF0:=AA (show Fr Nob w W0 by rw[←hW0];exact(Fr.refl _ _).alloc _);rw [hW0];clear hW0;have bc:=HB0.out.cell;have bl:=HB0.out.lt;obtain ⟨d0,d1,d2,d3,d4,d5,d6⟩:=HKD.out.fr HF0.out;have hbl:=Nat.lt_of_lt_of_le hb HF0.out.size
 go_upto_region 5 with(first
  |((go_at_call 47);(with_reducible refine(HC.out _ HF0.out).mono ?_);rintro e W1 ⟨X,cx,rfl,hxs,hf1⟩;have HXS1:=AA hxs;have HG1:=AA hf1;clear hxs hf1)
  |fail);clear d0 d1 d2 d3 d4 d5 d6 hbl bc bl HC HKD;replace HF0:=AA (HF0.out.call HG1.out (fun _ h _=>h));replace HB0:=AA (HB0.out.fr HG1.out (fun e=>e));have bc:=HB0.out.cell;have bl:=HB0.out.lt;obtain ⟨d0,d1,d2,d3,d4,d5,d6⟩:=HKE.out.fr HF0.out;have hbl:=Nat.lt_of_lt_of_le hb HF0.out.size
 go_upto_region 7 with(first
  |((go_at_call 47);(with_reducible refine(HC2.out _ HF0.out).mono ?_);rintro e W2 ⟨Y,cy,rfl,hxs,hf1⟩;have HXS2:=AA hxs;have HG2:=AA hf1;clear hxs hf1)
  |fail);clear d0 d1 d2 d3 d4 d5 d6 hbl bc bl HC2 HKE;replace HF0:=AA (HF0.out.call HG2.out (fun _ h _=>h));replace HB0:=AA (HB0.out.fr HG2.out (fun e=>e));have bc:=HB0.out.cell;have bl:=HB0.out.lt;have HK:=AA (fun W (hf:Fr Nob W2 W) i (hi:i<ps.length)=>HK0.out W (HF0.out.call hf (fun _ h _=>h)) X cx (HXS1.out.pure (HG2.out.call hf (fun _ h _=>h))) Y cy (HXS2.out.pure hf) i hi);clear HK0 HG1 HXS1 HG2 HXS2;go_wp2_with fail;go_loopw [9,10] (fun ov iv wr=>∃(k:Nat) (A':Option Addr) (c':Nat),k≤ps.length∧iv=.int .i64 k∧ov=.slice A' k c'∧Hid (Fr Nob W2 wr)∧Hid (wr.ownsRow W2.heap.size 3 1 (.slice A' k c') k (rkV (pts ps) mark ⟨op,nm,cm,va,lo,hi⟩ xs ys k))) (fun _ iv _=>ps.length-(intOf iv).toNat);case atStart=>exact⟨0,none,0,Nat.zero_le _,rfl,rfl,AA (Fr.refl _ _),AA (by rw[rkV_nil];exact World.ownsRow_nil _ _ _ _)⟩
 case round=>
  obtain⟨i,A',c',hi',rfl,rfl,hfr,hown⟩:=hrel;have HBr:=AA (HB0.out.fr hfr.out (fun e=>e));have bcr:=HBr.out.cell;have blr:=HBr.out.lt;by_cases hlt:i<ps.length
  ·have hI2:(i:Int)<ps.length:=by omega
   have hI3:0≤(i:Int):=by omega
   have HKV:=AA (GY (pts ps) mark ⟨op,nm,cm,va,lo,hi⟩ xs ys i);have HKN:=AA (HK.out wr hfr.out i hlt);generalize rkV (pts ps) mark ⟨op,nm,cm,va,lo,hi⟩ xs ys i=ov0 at*;generalize knK (pts ps) mark ⟨op,nm,cm,va,lo,hi⟩ i xs ys=zk at*;have HOW:=AA hown.out
   go_wp2_with (first
    |((go_at_call 81);(with_reducible refine(HKN.out).mono ?_);rintro e w11 ⟨rfl,hf11⟩;have HF11:=AA hf11;have HO1:=AA (Ag HOW.out hf11 (fun _ _ _ _ e=>e));clear hf11)
    |(at_builtin;refine AP rfl _ _ 93 rfl el_i1 (base:=W2.heap.size) (xs:=ov0) (news:=[ivI zk]) rfl ?own rfl ?src ?one ?h63 ?hby ?hbase ?_));case own=>exact Ag HO1.out ((Fr.refl Nob _).alloc _) (fun _ _ _ _ e=>e)
   case src=>exact Sl.new1 (Blk.new_eq (by simp)) 1 1 rfl (by decide)
   case one=>exact iv_oneJ _
   case h63=>unfold maxLen;omega
   case hby=>omega
   case hbase=>have h2:=hfr.out.size;have h3:=HF11.out.size;simp;omega
   intro A2 c2 w12 hown2 hgr2 hl2;have HO2:=AA (show w12.ownsRow W2.heap.size 3 1 (.slice A2 (i+1) c2) (i+1) (rkV (pts ps) mark ⟨op,nm,cm,va,lo,hi⟩ xs ys (i+1)) from by rw[HKV.out];exact hown2);have HF12:=AA (((hfr.out.call HF11.out (fun _ h _=>h)).alloc _).grown hgr2 (fun k hk hlt=>by have:=AX HO1.out k hk;omega));clear hown2 hgr2 hl2;go_wp2_with fail;go_roundw;case rel=>exact⟨i+1,A2,c2,by omega,by go_num,rfl,HF12,HO2⟩
   case measure=>simp[intOf];omega
  ·obtain rfl:i=ps.length:=by omega
   have HOA:=AA (Sl.of_own hown.out);have HFA:=AA (HF0.out.call hfr.out (fun _ h _=>h));have hlt3:¬(ps.length:Int)<ps.length:=by omega
   clear hfr hown;go_wp2_with fail;go_ret;refine ⟨_,_,rfl,?_,HFA.out⟩;rw [←GZ];exact HOA.out
end
end Go.Proofs.YtoegdmpmagbaiaaGreatDoor
namespace Go.Proofs.YtoegdmpmagbaiaaGreatDoor
open Go.RowKit Go.Sort Go.Lib Go.Shelf
theorem r_Rows (A:Option Addr)(c:Nat)(ps:List Pn)(hW:Ay (pts ps))(hfew:ps.length≤1000)(mark:Int)(hm1: -1≤mark)(hm2:mark≤AO):∀(m:Nat) (w:World) (p:Nat→Prop) (x:Nd) (B:Option Addr) (d:Nat) (ks:Fo),WSl w A c ps→ks.tr.size≤m→AJ p w B d ks→AR (x,ks.tr)→
 Calls Tryz.prog 47 #[AF x B ks.len d,.slice A ps.length c,.int .i64 mark] w fun e w'=>IMN w w' e (rowS (pts ps) mark (x,ks.tr)) ps.length:=by
 intro m
 induction m using Nat.strongRecOn with
 |_ m ih=>
  intro w p x B d ks h hm hs hc;obtain ⟨hc1,hc2⟩:=hc;dsimp only at hc1 hc2;rw [Fo.tr_len] at hc1;unfold Bz at hc1
  cases ks with
  |nil=>
   simp only[Fo.len] at hc1;exact rR0 w A c ps h hW hfew mark hm1 hm2 x B d (by omega)
  |cons y B2 e js rs=>
   simp only[Fo.tr,Tr.core,Tr.size] at hc2 hm;obtain ⟨g1,g2,g3⟩:=hc2;obtain ⟨b,off,rfl,hbl,hn,hk⟩:=hs.kid;have hC:∀W,Fr Nob w W→Calls Tryz.prog 47 #[AF y B2 js.len e,.slice A ps.length c,.int .i64 mark] W fun e w'=>IMN W w' e (rowS (pts ps) mark (y,js.tr)) ps.length:=fun W hf=>ih js.tr.size (by omega) W p y B2 e js (h.pure hf) (Nat.le_refl _) (hk.fr hf) ⟨g1,g2⟩
   cases rs with
   |nil=>
    simp only[Fo.len] at hc1;exact rR1 w A c ps h hW hfew mark hm1 hm2 x b off d hbl y B2 js.len e hn (rowS (pts ps) mark (y,js.tr)) (by rw[DM,AC]) (GJ _ _ _) hC (by omega)
   |cons z C f ls rs2=>
    have hr2:rs2=.nil:=by
     cases rs2 with
     |nil=>rfl
     |cons _ _ _ _ _=>simp[Fo.len] at hc1
    subst hr2;simp only[Fo.tr,Tr.core,Tr.size] at g3 hm;simp only[Fo.len] at hc1;obtain ⟨e1,e2,_⟩:=g3;obtain ⟨b2,off2,hA2,_,hn2,hk2⟩:=hs.kid2;obtain ⟨rfl,rfl⟩:b=b2∧off=off2:=by simpa using hA2
    exact rR2 w A c ps h hW hfew mark hm1 hm2 x b off d hbl y B2 js.len e hn (rowS (pts ps) mark (y,js.tr)) (by rw[DM,AC]) (GJ _ _ _) hC z C ls.len f hn2 (rowS (pts ps) mark (z,ls.tr)) (by rw[DM,AC]) (GJ _ _ _)
     (fun W hf=>ih ls.tr.size (by omega) W p z C f ls (h.pure hf) (Nat.le_refl _) (hk2.fr hf) ⟨e1,e2⟩) (by omega)
end Go.Proofs.YtoegdmpmagbaiaaGreatDoor
