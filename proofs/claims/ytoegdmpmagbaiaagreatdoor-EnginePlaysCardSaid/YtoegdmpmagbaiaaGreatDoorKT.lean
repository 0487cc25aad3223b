/- The laws of three: their helpers. -/
import Derived.Test.YtoegdmpmagbaiaaGreatDoorKS
import Derived.Test.YtoegdmpmagbaiaaGreatDoorKA
import Derived.Test.YtoegdmpmagbaiaaGreatDoorQH16
import Derived.Test.YtoegdmpmagbaiaaGreatDoorQH18
import Derived.Test.YtoegdmpmagbaiaaGreatDoorKQ
import Derived.Deep.CutBlock
import Derived.Test.YtoegdmpmagbaiaaGreatDoorKSS
set_option maxHeartbeats 16000000
set_option maxRecDepth 100000
namespace Go.Proofs.YtoegdmpmagbaiaaGreatDoor
open Go.RowKit Go.Lib
theorem l15_left:∀(n:Nat) (N:Nat) (w:World) (x:Nd) (A:Option Addr) (c:Nat) (ks:Fo),n≤100000→Au N w A c ks→
 Calls Tryz.prog 9 #[AF x A ks.len c,.int .i64 n] w fun e w'=>e=.returned (.int .i64 (left1 x ks.tr n:Nat))∧Fr Nob w w':=by
 intro n
 induction n using Nat.strongRecOn with
 |_ n ih=>
  intro N w x A c ks hn hs;have IH:=AA ih;have HS:=AA hs;have hmx:ks.len≤9223372036854775807:=Nat.le_trans hs.ok.le (by have:=hs.ok.max;unfold maxLen at this;exact this);clear ih hs;unfold AF at*;by_cases h0:n=0
  ·subst h0;have HR:=AA (show left1 x ks.tr 0=0 by simp[left1]);go_enter Tryz.func9,Tryz.ntmps9;go_wp2_with fail;go_ret;rw [HR.out];exact ⟨rfl,(Fr.refl _ _).alloc _⟩
  ·have hnI:¬(n:Int)≤0:=by omega
   have hnI2:(0:Int)<n:=by omega
   by_cases hnm:40<x.name.size
   ·have hnm':(40:Int)<x.name.size:=by omega
    have HR:=AA (show left1 x ks.tr n=0 by simp[left1,hnm]);clear h0;go_enter Tryz.func9,Tryz.ntmps9;go_wp2_with fail;go_ret;rw [HR.out];exact ⟨rfl,(Fr.refl _ _).alloc _⟩
   ·have hnm':(x.name.size:Int)≤40:=by omega
    have HR:=AA (show left1 x ks.tr n=CO ks.tr (n-1) by simp[left1,hnm,h0]);clear h0;have e1:(n:Int)-1=((n-1:Nat):Int):=by omega
    have E1:=AA e1;clear e1;go_enter Tryz.func9,Tryz.ntmps9;go_wp2_with fail;go_loopw [5,6] (fun s i wr=>∃k v:Nat,k≤ks.len∧i=.int .i64 k∧s=.int .i64 v∧v<n∧Hid (CO (ks.get k).tr v=CO ks.tr (n-1))∧Hid (Fr Nob w wr)∧Hid (Blk wr w.heap.size 28 #[.int .i64 x.op,.string x.name,.int .i64 x.cmp,.int .i64 x.val,.int .i64 x.lo,.int .i64 x.hi,.slice A ks.len c])) (fun _ i _=>ks.len-(intOf i).toNat);case atStart=>exact⟨0,n-1,Nat.zero_le _,rfl,vint E1.out,by omega,AA (by rw[Fo.get_zero]),AA ((Fr.refl _ _).alloc _),AA (Blk.new _ _ _)⟩
    case round=>
     obtain⟨k,v,hk,rfl,rfl,hvn,hle,hfr,hbx⟩:=hrel;have c6:wr.cell? ⟨w.heap.size,6,none⟩=some (.slice A ks.len c):=hbx.out.cell 6;have hbl:=Blk.lt hbx.out;by_cases hlt:k<ks.len
     ·have hI:(k:Int)<ks.len:=by omega
      have hI3:0≤(k:Int):=by omega
      by_cases hv0:v=0
      ·have HE:=AA (show CO ks.tr (n-1)=0 by rw[←hle.out,hv0,Ed]);subst hv0;clear hle;go_wp2_with fail;go_ret;rw [HR.out,HE.out];exact ⟨rfl,hfr.out⟩
      ·have hvI:(0:Int)<v:=by omega
       obtain⟨b,off,y,B,d,js,rs,K⟩:=(HS.out.fr hfr.out).kid hlt;obtain ⟨d0,d1,d2,d3,d4,d5,d6⟩:=K.nd;obtain rfl:=K.slice;have hlt2:=K.lt;have hg:=K.get;have hg2:=Fo.get_succ hg;have HC:=AA (IH.out v hvn N wr y B d js (by omega) K.sl)
       have HE:=AA (show CO (ks.get (k+1)).tr (left1 y js.tr v)=CO ks.tr (n-1) by
        rw[←hle.out,hg,hg2];simp only[Fo.tr,CO];rw[if_neg hv0];unfold left1;by_cases hy:40<y.name.size<;>simp[hy,hv0])
       have hlv:left1 y js.tr v<n:=by
        have:left1 y js.tr v≤v:=by unfold left1;split;omega;have:=leftF_le js.tr (v-1);omega
        omega
       clear hg hg2 K hv0;generalize left1 y js.tr v=u at*;go_wp2_with ((go_at_call 9);refine(HC.out).mono ?_;rintro e w1 ⟨rfl,hf⟩);go_roundw;case rel=>exact⟨k+1,u,by omega,by go_num,rfl,hlv,HE,AA (hfr.out.call hf (fun _ h _=>h)),AA (hbx.out.fr hf (fun e=>e))⟩
       case measure=>simp[intOf];omega
     ·have HE:=AA (show CO ks.tr (n-1)=v by rw[←hle.out,Fo.get_end (by omega)];rfl);go_wp2_with fail;go_ret;rw [HR.out,HE.out];exact ⟨rfl,hfr.out⟩
def OkL (l:List PP):Prop:=l.length≤10∧∀x∈l,x.name.size≤40
theorem okl_all {l:List PP}(h1:l.length≤10)(h:∀k,(hk:k<l.length)→l[k].name.size≤40):OkL l:=⟨h1,fun x hx=>by
 obtain⟨k,hk,rfl⟩:=List.getElem_of_mem hx;exact h k hk⟩
def IFresh (w w':World)(e:Ending)(l:List Int):Prop:=∃A c,e=.returned (.slice A l.length c)∧Sl w' 1 A l.length c (l.map ivI)∧Fr Nob w w'∧(A=none∨∃g,A=some ⟨g,0,none⟩∧w.heap.size≤g∧c=l.length∧Blk w' g 3 (l.map ivI).toArray)
theorem Gj:∀{f:Fo},f.tr.core→f.tr.good→∀y∈f.pre,Bz y.x.op y.ks.len∧wrongN y.x y.ks.tr.len=0
 |.nil,_,_,y,hy=>by simp[Fo.pre] at hy
 |.cons x A c ks r,⟨h1,h2,h3⟩,⟨g1,g2,g3⟩,y,hy=>by
  rw[Fo.pre,List.mem_cons,List.mem_append] at hy;rcases hy with rfl|hy|hy;·rw[Fo.tr_len] at h1;exact⟨h1,g1⟩
  ·exact Gj h2 g2 y hy
  ·exact Gj h3 g3 y hy
theorem rise_of {ps:List Pn}(h:AU (pts ps)=true)(h63:∀p∈ps,p.t≤AO):Ay (pts ps):=by
 have ht:∀i,(hi:i< (pts ps).length)→tAt (pts ps) i=(pts ps)[i].1:=fun i hi=>by
  unfold tAt;rw[List.getD_eq_getElem?_getD,List.getElem?_eq_getElem hi];rfl
 refine⟨fun i j hij hj=>?_,fun i hi=>?_,fun i hi=>?_⟩;·rw[ht i (by omega),ht j hj];exact Cm h hij hj
 ·have:=DI h hi;rw [ht i hi];unfold Df at this;simp only[Bool.and_eq_true,Bool.not_eq_true',decide_eq_false_iff_not] at this;omega
 ·have hi':i<ps.length:=by rwa[AC] at hi
  rw[Ar hi'];exact h63 _ (List.getElem_mem _)
def rowA (x:Nd)(t:Tr)(W:List Pt)(mark:Int):List Int:=if firstW ((Tr.cons x t .nil).nodes 1)=0∧AU W=true∧-1≤mark then rowS W mark (madeS x t) else[]
def RwR (N0:Nat)(W:List Pt)(mark:Int)(W1:World)(S0:List FN)(n i:Nat)(mv:Value)(wr:World):Prop:=∃AM cM M,mv=.slice AM (List.length M) cM∧Ff ivI 3 93 N0 wr ((stS (n-i) S0).map fun y=>rowS W mark y.s) AM cM M∧Fr Nob W1 wr
def RwIn (Wa:World)(g:Nat)(row:List Int)(k:Nat)(wq:World):Prop:=∃cur:Array Value,Blk wq g 3 cur∧cur.size=row.length∧(∀j,j<k→cur[j]?=(row.map ivI)[j]?)∧Fr Nob Wa wq
theorem RwIn.next {Wa wq w1:World}{g k:Nat}{row:List Int}{v:Int}(h:RwIn Wa g row k wq)(hf:Fr Nob wq w1)(hv:(row.map ivI)[k]?=some (.int .i64 v))(hg:Wa.heap.size≤g):RwIn Wa g row (k+1) (w1.setCell ⟨g,k,none⟩ (.int .i64 v)):=by
 obtain⟨cur,hb,hs,hc,hfr⟩:=h;refine ⟨_,(hb.fr hf (fun e=>e)).set k _,by simpa using hs,fun j hj=>?_,(hfr.call hf (fun _ h _=>h)).setCell (fun e=>by simp only at e;omega) _⟩;rw [Array.getElem?_setIfInBounds];by_cases hjk:k=j
 ·subst hjk;have hk:k<row.length:=by have:=(List.getElem?_eq_some_iff.1 hv).1;simpa using this
  rw[if_pos rfl,if_pos (by omega),hv]
 ·rw[if_neg hjk];exact hc j (by omega)
theorem RwIn.done {Wa wq:World}{g k:Nat}{row:List Int}(h:RwIn Wa g row k wq)(hk:k=row.length):Blk wq g 3 (row.map ivI).toArray∧Fr Nob Wa wq:=by
 obtain⟨cur,hb,hs,hc,hfr⟩:=h
 have e:cur=(row.map ivI).toArray:=by
  apply Array.ext_getElem?;intro j;by_cases hj:j<k;·rw[hc j hj];simp
  ·rw[Array.getElem?_eq_none (by omega),Array.getElem?_eq_none (by simp;omega)]
 exact⟨e▸hb,hfr⟩
theorem rv_sl {w:World}{g:Nat}{x:List Int}(h:Blk w g 3 (x.map ivI).toArray)(hm:x.length≤1000):Sl w 1 (some ⟨g,0,none⟩) x.length x.length (x.map ivI):=by
 have:=Sl.new1 h 1 x.length (by simp) (by unfold maxLen;omega);simpa using this
theorem el_ri:BP Tryz.prog 138 93 1 24:=BP.mk (z:=.slice none 0 0) Tryz.underlying138 (by kernel_rfl) rfl (by decide)
theorem el_i1:BP Tryz.prog 93 3 1 8:=BP.mk (z:=.int .i64 0) Tryz.underlying93 (by kernel_rfl) rfl (by decide)
theorem F4 {w:World}{base e:Nat}{A:Option Addr}{n c:Nat}{S T:List (RV Int)}{y:RV Int}(h:w.ownsRow base e 1 (.slice A n c) n ((S++y::T).flatMap rvc))(hA:∃a,A=some a):∃g,A=some ⟨g,0,none⟩∧base≤g∧g<w.heap.size∧w.cell? ⟨g,S.length,none⟩=some (.slice (some ⟨y.g,0,none⟩) y.x.length y.x.length)∧n≤c:=by
 obtain⟨g,cur,post,rfl,hb,hblk,hc,hn1,hmx,hs⟩:=Cb h hA;refine ⟨g,rfl,hb,hblk.lt,?_,hn1⟩;rw [hblk.cell,←Array.getElem?_toList,hc,List.flatMap_append,List.append_assoc,List.getElem?_append_right (by rw[Ad rvc 1 EI];omega),Ad rvc 1 EI,Nat.mul_one,Nat.sub_self,List.flatMap_cons];rfl
theorem GV (W:List Pt)(mark:Int)(t:Tr):∀r∈Bp W mark t,r.length=W.length:=by
 induction t with
 |nil=>intro r hr;cases hr
 |cons n k r _ ih=>
  intro x hx;rw [Bp,List.mem_cons] at hx;rcases hx with rfl|hx;·exact Eo _ _ _ _ _
  ·exact ih x hx
def SwI (wr:World)(len kn:Nat)(rows:List (List Int))(gn:Nat)(cs:Array Value)(xv yv:Value)(wx:World):Prop:=∃(X:Option Addr) (cX:Nat) (xs:List Int) (Y:Option Addr) (cY:Nat) (ys:List Int),xv=.slice X xs.length cX∧yv=.slice Y ys.length cY∧Sl wx 1 X xs.length cX (xs.map ivI)∧Sl wx 1 Y ys.length cY (ys.map ivI)∧rows.getD 0 []=xs∧rows.getD 1 []=ys∧(0<kn→xs.length=len)∧(1<kn→ys.length=len)∧Fr Nob wr wx∧Blk wx gn 28 cs
theorem th_RowF (w:World)(x:Nd)(B:Option Addr)(d:Nat)(ks:Fo)(hs:Au w.heap.size w B d ks)(hsz:ks.tr.size≤4000)(hv:BR w)(htv:Cj w)(hnm:∀y∈(Tr.cons x ks.tr .nil).nodes 1,y.1.name.size≤9223372036854775807)(A:Option Addr)(c:Nat)(ps:List Pn)(h:WSl w A c ps)(hnw:NmW ps)(h63:∀p∈ps,p.t≤AO)(hfew:ps.length≤1000)(mark:Int):
 Calls Tryz.prog 43 #[AF x B ks.len d,.slice A ps.length c,.int .i64 mark] w fun e w'=>IFresh w w' e (rowA x ks.tr (pts ps) mark):=by
 have HSD:=AA (fun W (hf:Fr Nob w W)=>FO W x B d ks ((hs.fr hf).mono hf.size) (by omega) (hv.fr hf) hnm);have HRT:=AA (fun W (hf:Fr Nob w W)=>Eg W A c ps (h.pure hf) hnw hfew);obtain ⟨row,hrow⟩:∃r,r=rowA x ks.tr (pts ps) mark:=⟨_,rfl⟩;rw [←hrow];have HROW:=AA hrow;clear hrow;by_cases hg:firstW ((Tr.cons x ks.tr .nil).nodes 1)=0
 ·by_cases hr:AU (pts ps)=true
  ·by_cases hm: -1≤mark
   ·have HR:=AA (show row=rowS (pts ps) mark (madeS x ks.tr) by rw[HROW.out];unfold rowA;rw[if_pos ⟨hg,hr,hm⟩]);have HW:=AA (rise_of hr h63);obtain ⟨hg1,hg2⟩:=(Bi x ks.tr).1 hg;have HMS:=AA (made_sound hg1 hg2);have HMG:=AA (Cy hg1 hg2);have HOF:=AA (fun W (hf:Fr Nob w W)=>n_Of W x B d ks ((hs.fr hf).mono hf.size) (by omega) (hv.fr hf) hnm hg);have HWS:=AA h;have HTV:=AA htv;rw [hg] at HSD;rw [hr] at HRT;rw [HR.out];have hm':¬mark< -1:=by omega
    have HSZ:=AA hsz;clear hs hv hnm hnw h63 hg1 hg2 h htv hg hr HROW hm hsz HR;generalize hmd:madeS x ks.tr=md at*;clear hmd;unfold AF at*;go_enter Tryz.func43,Tryz.ntmps43;have HB0:=AA (show Blk (w.alloc (.cells #[.int .i64 x.op,.string x.name,.int .i64 x.cmp,.int .i64 x.val,.int .i64 x.lo,.int .i64 x.hi,.slice B ks.len d] 28)) w.heap.size 28 _ from Blk.new _ _ _)
    go_upto_region 4 with(first
     |((go_at_call 53);(with_reducible refine(HSD.out _ ((Fr.refl _ _).alloc _)).mono ?_);rintro e w1 ⟨rfl,hf1⟩;have HF1:=AA (((Fr.refl Nob w).alloc _).call hf1 (fun _ h _=>h));have HX1:=AA (HB0.out.fr hf1 (fun e=>e));clear hf1)
     |((go_at_call 49);(with_reducible refine(HRT.out _ HF1.out).mono ?_);rintro e w2 ⟨rfl,hf2⟩;have HF2:=AA (HF1.out.call hf2 (fun _ h _=>h));have HX2:=AA (HX1.out.fr hf2 (fun e=>e));clear hf2)
     |fail);obtain ⟨W4,hW4⟩:∃W4,w2.alloc (.cells #[.slice A ps.length c,.int .i64 mark] 137)=W4:=⟨_,rfl⟩;have HKB:=AA (show Blk W4 w2.heap.size 137 #[.slice A ps.length c,.int .i64 mark] by rw[←hW4];exact Blk.new _ _ _);have HF4:=AA (show Fr Nob w W4 by rw[←hW4];exact HF2.out.alloc _);have HX4:=AA (show Blk W4 w.heap.size 28 #[.int .i64 x.op,.string x.name,.int .i64 x.cmp,.int .i64 x.val,.int .i64 x.lo,.int .i64 x.hi,.slice B ks.len d] by rw[←hW4];exact HX2.out.alloc _);rw [hW4];have xc:=HX4.out.cell;have xl:=HX4.out.lt;clear hW4 HX1 HX2 HF1 HF2 HB0 HSD HRT;generalize w2.heap.size=gk at*
    go_upto_region 6 with(first
     |((go_at_call 65);(with_reducible refine(HOF.out _ HF4.out).mono ?_);rintro e w5 ⟨o1,n1,m1,v1,l1,i1,A1,c1,k1,rfl,he,hs1,hf1⟩;have HE:=AA he;have HF5:=AA (HF4.out.call hf1 (fun _ h _=>h));have HK5:=AA (HKB.out.fr hf1 (fun e=>e));have HUP:=AA (t_upward w5 ⟨o1,n1,m1,v1,l1,i1⟩ A1 c1 k1 (hs1.imp (fun k _ hk=>hk)) (by have h1:=HMG.out.2;have h2:=HSZ.out;rw[←he] at h1;unfold szS at h1;dsimp only at h1;omega));unfold AF at HUP;dsimp only at HUP;clear he hs1 hf1)
     |((go_at_call 73);(with_reducible refine(HUP.out).mono ?_);rintro e w6 ⟨RA,cR,rfl,hrs,hf2,hrn⟩;have HF6:=AA (HF5.out.call hf2 (fun _ h _=>h));have HK6:=AA (HK5.out.fr hf2 (fun e=>e));have HRS:=AA hrs;clear hrs hf2 hrn)
     |fail);obtain ⟨root,hroot⟩:∃r,r=(⟨⟨o1,n1,m1,v1,l1,i1⟩,A1,c1,k1⟩:FN):=⟨_,rfl⟩;have HRT:=AA (show root.x=md.1∧root.ks.tr=md.2 by rw[hroot,←HE.out];exact⟨rfl,rfl⟩);rw [←hroot] at HRS ⊢;obtain ⟨S0,hS0⟩:∃S0,S0=[root]:=⟨_,rfl⟩
    have HGD:=AA (show ∀y∈Af S0,Bz y.x.op y.ks.len∧wrongN y.x y.ks.tr.len=0 from fun y hy=>by
     rw[hS0] at hy;simp only[Af,List.append_nil,List.mem_cons] at hy;rcases hy with rfl|hy;·rw[←Fo.tr_len,HRT.out.1,HRT.out.2];exact⟨HMG.out.1.1,HMS.out.1⟩
     ·exact Gj (f:=root.ks) (by rw[HRT.out.2];exact HMG.out.1.2) (by rw[HRT.out.2];exact HMS.out.2) y hy);obtain ⟨n,hn⟩:∃n,n=(Af S0).length:=⟨_,rfl⟩;have HN1:=AA (show n=root.ks.tr.size+1 by rw[hn,hS0];simp[Af,Fo.pre_len])
    have hn1:n≤20001:=by
     have h1:=HMG.out.2;have h2:=HSZ.out;have h3:=HN1.out;rw [HRT.out.2] at h3;unfold szS at h1;omega
    have hn0:0<n:=by have:=HN1.out;omega
    have HS0:=AA hS0;rw [←hS0,←hn] at HRS ⊢;have HNL:=AA hn;have HSE:=AA (stS_end S0);rw [←hn] at HSE;clear hn hS0 hroot HUP HOF HE xc xl HX4 HMG HMS HSZ HK5 HF5 HKB HF4 HN1;have HWS6:=AA (HWS.out.pure HF6.out);have HTV6:=AA (HTV.out.fr HF6.out);clear HWS HTV;have HKL:=AA HK6.out.lt;go_loopw [8,35] (fun mv iv wr=>∃i:Nat,i≤n∧iv=.int .i64 i∧Hid (RwR w6.heap.size (pts ps) mark w6 S0 n i mv wr)) (fun _ iv _=>n-(intOf iv).toNat);case atStart=>exact⟨0,Nat.zero_le _,rfl,AA ⟨none,0,[],rfl,⟨World.ownsRow_nil _ _ _ _,by rw[Nat.sub_zero,HSE.out];rfl,(fun y hy=>by cases hy)⟩,Fr.refl _ _⟩⟩
    case round=>
     obtain⟨i,hin,rfl,hR⟩:=hrel;obtain ⟨AM,cM,M,rfl,ho,hf⟩:=hR.out;by_cases hlt:i<n
     ·have hI:(i:Int)<n:=by omega
      have hI3:0≤(i:Int):=by omega
      obtain⟨y,r,hst1,hst2,hat⟩:=stS_at (k:=n-1-i) (l:=S0) (by rw[←HNL.out];omega);have hj:n-i=(n-1-i)+1:=by omega
      rw[hj,hst2,List.map_append,rowsK_list] at ho;obtain ⟨M0,K,rfl,hK,hM0,hKl⟩:=ho.split;rw [rowsK_len,Fo.tr_len] at hKl;have hyw:y∈Af S0:=by rw[←hat];exact List.getElem_mem _
      obtain⟨gy1,gy2⟩:=HGD.out y hyw;obtain ⟨b,off,rfl,hbl,hcell⟩:=Sl.row BD (w:=wr) (l:=(Af S0).reverse) (k:=i) (c:=cR) (A:=RA) (by rw[List.length_reverse,←HNL.out];exact HRS.out.pure hf) (by rw[List.length_reverse,←HNL.out];exact hlt)
      have hrev:((Af S0).reverse)[i]'(by rw[List.length_reverse,←HNL.out];exact hlt)=y:=by
       rw[List.getElem_reverse];rw[←hat];congr 1;rw[←HNL.out]
      rw[hrev] at hcell;obtain ⟨d0,d1,d2,d3,d4,d5,d6⟩:=CG.of (w:=wr) (b:=b) (off:=off+i*7) (x:=y.x) (A:=y.A) (n:=y.ks.len) (c:=y.c) (fun j u hu=>by rw[Nat.add_assoc];exact hcell j u hu);have HO:=AA ho;have HF:=AA hf;have HST1:=AA hst1;have HK:=AA hK;have HM0:=AA hM0;have HGY:=AA (show Bz y.x.op y.ks.len∧(9≤y.x.op→0≤y.x.lo) from⟨gy1,fun h9=>(GG gy2 h9).1⟩)
      have HM0L:=AA (show M0.length≤20001 from by
       have h1:=congrArg List.length hM0;have h2:=congrArg List.length hst1;simp only[List.length_reverse,List.length_map,List.length_cons] at h1 h2;have h3:=D0 (stS (n-1-i) S0);rw [←DP,List.length_drop,←HNL.out] at h3;omega);have HRW:=AA (show rowS (pts ps) mark y.s=EX (pts ps) mark y.x ((Bp (pts ps) mark y.ks.tr).getD 0 []) ((Bp (pts ps) mark y.ks.tr).getD 1 []) from rfl);have HWSr:=AA (HWS6.out.pure hf);have HTVr:=AA (HTV6.out.fr hf);have HKr:=AA (HK6.out.fr hf (fun e=>e));have HN0:=AA hf.size;clear ho hf hst1 hst2 hat hK hM0 gy1 gy2 hcell hrev hR hyw hj;obtain ⟨⟨y0,y1,y2,y3,y4,y5⟩,yA,yc,yk⟩:=y;dsimp only at*;have hm0:=HM0L.out;obtain ⟨kn,hknl⟩:∃kn,yk.len=kn:=⟨_,rfl⟩
      have hkn:kn=0∨kn=1∨kn=2:=by
       have:=HGY.out.1;unfold Bz at this;omega
      rw[hknl] at hKl d6;have hml:(M0++K).length=M0.length+kn:=by rw[List.length_append,hKl]
      rw[hml];generalize hmm:M0.length=m at*;have HM:=AA hmm;have HKL2:=AA hKl;have HKN:=AA hknl;have HML:=AA hml;have HOX:=AA (show wr.ownsRow w6.heap.size 93 1 (.slice AM (m+kn) cM) (m+kn) (M0.flatMap rvc++K.flatMap rvc) by have:=HO.out.own;rw[hml,List.flatMap_append] at this;exact this)
      have hAs:0<kn→∃g0,AM=some ⟨g0,0,none⟩:=fun h0=>by
       rcases HOX.out.2 with⟨_,h2⟩|⟨g,cap,cur,h1,_⟩;·omega
       ·simp only[Value.slice.injEq] at h1;exact⟨g,h1.1⟩
      have hcn:m+kn≤cM:=(Sl.of_own HOX.out).le;have hcM:m≤cM:=by omega
      obtain⟨A6,hcut,hA6⟩:∃A6,(∀W,(Instr.slice 138 (.slice AM (m+kn) cM) (some (.int .i64 m)) none none).run Tryz.prog W=.ok (.slice A6 kn (cM-m)) W)∧(0<kn→∃g0,AM=some ⟨g0,0,none⟩∧A6=some ⟨g0,m*1,none⟩):=
       ⟨_,fun W=>by rw[cut_lo el_ri AM m (by omega) W,show m+kn-m=kn by omega],fun h0=>by
        obtain⟨g0,rfl⟩:=hAs h0;exact ⟨g0,rfl,by rw[if_neg (by omega)];simp[Addr.add];intro e;omega⟩⟩;have HCUT:=AA hcut;have HA6:=AA hA6;have HAS:=AA hAs;clear hmm hKl hml hknl hcut hA6 hAs;go_upto_block 2 with fail;go_cut [11,12] (fun xv yv wx=>SwI wr ps.length kn (Bp (pts ps) mark yk.tr) wr.heap.size #[.int .i64 y0,.string y1,.int .i64 y2,.int .i64 y3,.int .i64 y4,.int .i64 y5,.slice yA kn yc] xv yv wx)
      case first=>
       have HFb:=AA (show Fr Nob wr (wr.alloc (.cells #[.int .i64 y0,.string y1,.int .i64 y2,.int .i64 y3,.int .i64 y4,.int .i64 y5,.slice yA kn yc] 28)) from(Fr.refl _ _).alloc _);have HBb:=AA (show Blk (wr.alloc (.cells #[.int .i64 y0,.string y1,.int .i64 y2,.int .i64 y3,.int .i64 y4,.int .i64 y5,.slice yA kn yc] 28)) wr.heap.size 28 #[.int .i64 y0,.string y1,.int .i64 y2,.int .i64 y3,.int .i64 y4,.int .i64 y5,.slice yA kn yc] from Blk.new _ _ _);clear d0 d1 d2 d3 d4 d5 d6;rcases hkn with rfl|rfl|rfl
       ·have hK0:K=[]:=List.eq_nil_of_length_eq_zero HKL2.out;have hr0:Bp (pts ps) mark yk.tr=[]:=by rw[←HK.out,hK0];rfl
        have HR0:=AA hr0;clear hK0 hr0;go_wp2_with fail;go_meet;exact ⟨none,0,[],none,0,[],rfl,rfl,Sl.none_ _ _,Sl.none_ _ _,by rw[HR0.out];rfl,by rw[HR0.out];rfl,(fun e=>absurd e (by decide)),(fun e=>absurd e (by decide)),HFb.out,HBb.out⟩
       ·obtain⟨a,hKa⟩:=List.length_eq_one_iff.1 HKL2.out;obtain ⟨g0,rfl,hgb,hgl,hc0,_⟩:=F4 (S:=M0) (y:=a) (T:=[]) (by have:=HO.out.own;rw[hKa] at this;exact this) (by obtain⟨g,e⟩:=HAS.out (by decide);exact⟨_,e⟩);have HMA:=AA (HO.out.mem a (by rw[hKa];simp));have HR0:=AA (show Bp (pts ps) mark yk.tr=[a.x] by rw[←HK.out,hKa];rfl);have hal:a.x.length=ps.length:=by rw[GV (pts ps) mark yk.tr a.x (by rw[HR0.out];simp),AC]
        rw[hal,HM.out] at hc0;replace hc0:=HFb.out.cell hc0 (fun e=>e);have hgl2:=Nat.lt_of_lt_of_le hgl HFb.out.size;have HAL:=AA hal;clear hKa hal;go_wp2_with fail;go_meet;exact ⟨some ⟨a.g,0,none⟩,ps.length,a.x,none,0,[],by rw[HAL.out],rfl,by have:=rv_sl (HMA.out.1.fr HFb.out (fun e=>e)) (by rw[HAL.out];exact hfew);rw[HAL.out] at this ⊢;exact this,Sl.none_ _ _,by rw[HR0.out];rfl,by rw[HR0.out];rfl,(fun _=>HAL.out),(fun e=>absurd e (by decide)),HFb.out,HBb.out⟩
       ·obtain⟨q,a,hKa⟩:∃q a,K=[q,a]:=by
         have:=HKL2.out
         match K,this with
         |[q,a],_=>exact⟨q,a,rfl⟩
        obtain⟨g0,rfl,hgb,hgl,hc0,_⟩:=F4 (S:=M0) (y:=q) (T:=[a]) (by have:=HO.out.own;rw[hKa] at this;exact this) (by obtain⟨g,e⟩:=HAS.out (by decide);exact⟨_,e⟩);obtain ⟨g1,hg1,_,_,hc1,_⟩:=F4 (S:=M0++[q]) (y:=a) (T:=[]) (by have:=HO.out.own;rw[hKa] at this;rw[List.append_assoc];exact this) ⟨_,rfl⟩;obtain rfl:g0=g1:=by simpa using hg1
        clear hg1;rw [List.length_append,List.length_singleton,HM.out] at hc1;have HMA:=AA (HO.out.mem a (by rw[hKa];simp));have HMB:=AA (HO.out.mem q (by rw[hKa];simp));have HR0:=AA (show Bp (pts ps) mark yk.tr=[a.x,q.x] by rw[←HK.out,hKa];rfl);have hal:a.x.length=ps.length:=by rw[GV (pts ps) mark yk.tr a.x (by rw[HR0.out];simp),AC]
        have hbl2:q.x.length=ps.length:=by rw[GV (pts ps) mark yk.tr q.x (by rw[HR0.out];simp),AC]
        rw[hal] at hc1;rw [hbl2,HM.out] at hc0;replace hc0:=HFb.out.cell hc0 (fun e=>e);replace hc1:=HFb.out.cell hc1 (fun e=>e);have hgl2:=Nat.lt_of_lt_of_le hgl HFb.out.size;have HAL:=AA hal;have HBL:=AA hbl2;clear hKa hal hbl2;have hn1:(m:Int)+1< (m:Int)+2:=by omega
        have hn2:(m:Int)< (m:Int)+2:=by omega
        have hn3:0≤(m:Int)+1:=by omega
        have hn4:((m:Int)+1).toNat=m+1:=by omega
        have hn5:IntKind.i64.wrap ((m:Int)+1)=(m:Int)+1:=CR (by omega) (by omega);have hn6:wrap64 ((m:Int)+1)=(m:Int)+1:=by unfold wrap64;omega
        go_upto_region 14 with fail;go_quiet (fail);go_wp2_with fail;go_meet;exact ⟨some ⟨a.g,0,none⟩,ps.length,a.x,some ⟨q.g,0,none⟩,ps.length,q.x,by rw[HAL.out],by rw[HBL.out],by have:=rv_sl (HMA.out.1.fr (HFb.out.drewN nq) (fun e=>e)) (by rw[HAL.out];exact hfew);rw[HAL.out] at this ⊢;exact this,by have:=rv_sl (HMB.out.1.fr (HFb.out.drewN nq) (fun e=>e)) (by rw[HBL.out];exact hfew);rw[HBL.out] at this ⊢;exact this,by rw[HR0.out];rfl,by rw[HR0.out];rfl,(fun _=>HAL.out),(fun _=>HBL.out),HFb.out.drewN _,HBb.out.drewN _⟩
      case rest=>
       obtain⟨X,cX,xs,Y,cY,ys,rfl,rfl,hxs,hys,hx0,hy0,hxl,hyl,hfa,hnb⟩:=hcut;rw [hx0,hy0] at HRW;have HTX:=AA (show ∀j,Tri (xAt xs j) from fun j=>by rw[←hx0];exact GI (pts ps) mark yk.tr 0 j);have HTY:=AA (show ∀j,Tri (xAt ys j) from fun j=>by rw[←hy0];exact GI (pts ps) mark yk.tr 1 j);have HXS:=AA hxs;have HYS:=AA hys;have HXL:=AA hxl;have HYL:=AA hyl;have HFa:=AA hfa;have HNB:=AA hnb;have hcore:=HGY.out.1;rw [HKN.out] at hcore;obtain ⟨Wa,rfl⟩:∃W,W=wc:=⟨_,rfl⟩
       have HAT:=AA (show ∀k,k<ps.length→∀W,Fr Nob Wa W→Calls Tryz.prog 74 #[.agg #[.slice A ps.length c,.int .i64 mark],.int .i64 k,.agg #[.int .i64 y0,.string y1,.int .i64 y2,.int .i64 y3,.int .i64 y4,.int .i64 y5,.slice yA kn yc],.slice X xs.length cX,.slice Y ys.length cY] W (fun e w'=>e=.returned (.int .i64 (knK (pts ps) mark ⟨y0,y1,y2,y3,y4,y5⟩ k xs ys))∧Fr Nob W w') from
        fun k hk W hf=>th_at W A c ps ((HWSr.out.pure HFa.out).pure hf) HW.out ((HTVr.out.fr HFa.out).fr hf) k hk mark ⟨y0,y1,y2,y3,y4,y5⟩ yA kn yc X cX xs (HXS.out.pure hf) HTX.out Y cY ys (HYS.out.pure hf) HTY.out (by unfold Bz at hcore;dsimp only;omega) (fun e=>HXL.out (by unfold Bz at hcore;dsimp only at e;omega)) (fun e=>HYL.out (by unfold Bz at hcore;dsimp only at e;omega)) HGY.out.2 hfew);have hcut:=HCUT.out;clear hxs hys hx0 hy0 hxl hyl hfa hnb hcore hkn d0 d1 d2 d3 d4 d5 d6;generalize xs.length=lx at*;generalize ys.length=ly at*;obtain ⟨rl,hrl⟩:∃rl,rl=EX (pts ps) mark ⟨y0,y1,y2,y3,y4,y5⟩ xs ys:=⟨_,rfl⟩;rw [←hrl] at HRW;have HRL:=AA (show rl.length=ps.length by rw[hrl,Eo,AC])
       have HRG:=AA (show ∀k,k<ps.length→(rl.map ivI)[k]?=some (.int .i64 (knK (pts ps) mark ⟨y0,y1,y2,y3,y4,y5⟩ k xs ys)) from fun k hk=>by
        have hk':k<rl.length:=by rw[HRL.out];exact hk
        rw[List.getElem?_map,List.getElem?_eq_getElem hk',←xAt_rowK (pts ps) mark _ _ _ (by rw[AC];exact hk),←hrl];unfold xAt;rw [List.getD_eq_getElem?_getD,List.getElem?_eq_getElem hk'];rfl);clear hrl;have HKa:=AA (HKr.out.fr HFa.out (fun e=>e));have HWSa:=AA (HWSr.out.pure HFa.out);have HTVa:=AA (HTVr.out.fr HFa.out);obtain ⟨cs,hcs,hmk⟩:=run_mkf el_i1 ps.length (by omega) (by unfold maxLen;omega);go_upto_region 16 with fail;obtain ⟨g,hgg⟩:∃g,g=Wa.heap.size:=⟨_,rfl⟩;obtain ⟨Wb,hWb⟩:∃Wb,Wa.alloc (.cells cs 3)=Wb:=⟨_,rfl⟩;have HGB:=AA (show Blk Wb g 3 cs by rw[←hWb,hgg];exact Blk.new _ _ _);have HFb:=AA (show Fr Nob Wa Wb by rw[←hWb];exact(Fr.refl _ _).alloc _);rw [hWb,←hgg];have HGG:=AA hgg;have HCS:=AA hcs;clear hWb hmk hgg hcs;go_wp2_with fail;go_loopw [70] (fun kv wq=>∃k:Nat,k≤ps.length∧kv=.int .i64 k∧Hid (RwIn Wa g rl k wq)) (fun kv _=>ps.length-(intOf kv).toNat);case atStart=>exact⟨0,by omega,rfl,AA ⟨cs,HGB.out,by rw[HRL.out];simpa using HCS.out,fun j hj=>absurd hj (by omega),HFb.out⟩⟩
       case round=>
        obtain⟨k,hk,rfl,hQ⟩:=hrel;by_cases hlt2:k<ps.length
        ·have hK1:(k:Int)<ps.length:=by omega
         have hK3:0≤(k:Int):=by omega
         obtain⟨cur,hb,hs,hc,hfq⟩:=hQ.out;have HBq:=AA hb;have HFq:=AA hfq;have HSq:=AA (show cur.size=ps.length by rw[hs,HRL.out]);have HKq:=AA (HKa.out.fr hfq (fun e=>e));have HNq:=AA (HNB.out.fr hfq (fun e=>e));have kc:=HKq.out.cell;have kl:=HKq.out.lt;have nc:=HNq.out.cell;have nl:=HNq.out.lt;have HATk:=AA (fun W (hf:Fr Nob Wa W)=>HAT.out k hlt2 W hf);have HRk:=AA (HRG.out k hlt2);clear hb hs hc hfq;generalize knK (pts ps) mark ⟨y0,y1,y2,y3,y4,y5⟩ k xs ys=v at*;obtain ⟨u,hu⟩:∃u,cur[k]?=some u:=⟨cur[k]'(by rw[HSq.out];exact hlt2),Array.getElem?_eq_getElem _⟩;have HU:=AA hu;clear hu
         go_wp2_with (first
          |((go_at_call 74);(with_reducible refine(HATk.out _ HFq.out).mono ?_);rintro e w7 ⟨rfl,hf7⟩;have rwc:=((HBq.out.fr hf7 (fun e=>e)).cell k).trans HU.out;have rwf:=(HBq.out.fr hf7 (fun e=>e)).frozen k;have rwl:=(HBq.out.fr hf7 (fun e=>e)).lt)
          |fail);go_roundw;case rel=>exact⟨k+1,by omega,by go_num,AA (RwIn.next hQ.out hf7 HRk.out (by rw[HGG.out];exact Nat.le_refl _))⟩
         case measure=>simp[intOf];omega
        ·obtain rfl:k=ps.length:=by omega
         obtain⟨hrb,hrf⟩:=hQ.out.done HRL.out.symm;have HRB:=AA hrb;have HRF:=AA hrf;clear hrb hrf hQ;have HOq:=AA (Ag HOX.out (HFa.out.call HRF.out (fun _ h _=>h)) (fun _ _ _ _ e=>e));have hcut2:=fun W=>Fe el_ri AM (n:=m) (cap:=cM) m hcM W;have hii:¬(ps.length:Int)<ps.length:=by omega
         go_upto_region 22 with(first
          |(refine DC rfl _ _ rfl zeroRI rfl HOq.out (by rw[Ad rvc 1 EI,HM.out]) HA6.out ?_;intro W3 hown3 hf3)
          |fail);have HOW:=AA hown3;have HF3:=AA hf3;clear hown3 hf3;go_wp2_with (at_builtin;refine AP rfl _ _ 138 rfl el_ri (base:=w6.heap.size) (xs:=M0.flatMap rvc) (news:=rv1 g ps.length) rfl ?own rfl ?src ?one ?h63 ?hby ?hbase ?_);case own=>exact Ag HOW.out ((Fr.refl Nob _).alloc _) (fun _ _ _ _ e=>e)
         case src=>exact Sl.new1 (Blk.new _ _ _) 1 1 rfl (by decide)
         case one=>exact rv1_one _ _
         case h63=>unfold maxLen;omega
         case hby=>omega
         case hbase=>have h1:=HN0.out;have h2:=HFa.out.size;have h3:=HRF.out.size;have h4:=HF3.out.size;simp at*;omega
         intro A5 c5 w8 hown5 hgr5 hl5;have HO5:=AA hown5;have HG5:=AA hgr5;have HL5:=AA hl5;have HRV:=AA (show rvc (⟨g,rl⟩:RV Int)=rv1 g ps.length by unfold rvc rv1;rw[HRL.out]);clear hown5 hgr5 hl5;go_wp2_with fail;go_roundw
         case rel=>
          refine⟨i+1,by omega,by go_num,AA ⟨A5,c5,M0++[⟨g,rl⟩],by simp[HM.out],?_,?_⟩⟩
          ·rw[show n-(i+1)=n-1-i by omega,HST1.out,List.map_cons,HRW.out];refine Ff.next (K:=K) HO.out HM.out HM0.out HN0.out (by rw[HGG.out];exact HFa.out.size) ((((HFa.out.call HRF.out (fun _ h _=>h)).mono (fun _ _ h=>h.elim)).call HF3.out (fun k hk _=>.inl hk)).alloc _) ((HRB.out.fr HF3.out (fun e=>Ff.ne HO.out (by rw[HGG.out];exact HFa.out.size) e)).alloc _) ?_ HG5.out HL5.out (by simp);rw [HRV.out];exact HO5.out
          ·refine(((HF.out.call (HFa.out.call HRF.out (fun _ h _=>h)) (fun _ h _=>h)).call HF3.out (fun k hk hlt=>?_)).alloc _).grown HG5.out (fun k hk hlt=>?_)
           ·have:=AX HOW.out k hk;omega
           ·have:=AX HOW.out k hk;omega
         case measure=>simp[intOf];omega
     ·obtain rfl:i=n:=by omega
      rw[Nat.sub_self] at ho;have hv:=ho.val;have hs0:stS 0 S0=[root]:=HS0.out;rw [hs0] at hv
      obtain⟨y,rfl⟩:∃y,M=[y]:=by
       have h1:=congrArg List.length hv;simp only[List.length_map,List.length_reverse,List.length_cons,List.length_nil] at h1;exact List.length_eq_one_iff.1 h1
      have hyx:y.x=rowS (pts ps) mark md:=by
       have:y.x=rowS (pts ps) mark root.s:=by simpa using hv
       rw[this];have e:root.s=md:=Prod.ext HRT.out.1 HRT.out.2;rw [e]
      have hAs:∃a,AM=some a:=by
       rcases ho.own.2 with⟨_,h2⟩|⟨g,cap,cur,h1,_⟩;·simp at h2
       ·simp only[Value.slice.injEq] at h1;exact⟨_,h1.1⟩
      obtain⟨g0,rfl,hgb,hgl,hc0,hcn⟩:=F4 (S:=[]) (y:=y) (T:=[]) ho.own hAs;have HMY:=AA (ho.mem y (List.mem_singleton.2 rfl)).1;have HYG:=AA (Nat.le_trans HF6.out.size (ho.mem y (List.mem_singleton.2 rfl)).2.1);have HYX:=AA hyx;have HFF:=AA (HF6.out.call hf (fun _ h _=>h));have hyl:y.x.length=ps.length:=by rw[hyx,DM,AC]
      have HYL:=AA hyl;rw [hyl] at hc0;clear ho hf hv hyx hAs hR hs0 hyl;simp only[List.length_nil] at hc0;have hii:¬(i:Int)<i:=by omega
      simp only[List.length_cons,List.length_nil,Nat.zero_add];go_wp2_with fail;go_ret;rw [←HYX.out];exact ⟨some ⟨y.g,0,none⟩,ps.length,by rw[HYL.out];rfl,by have:=rv_sl HMY.out (by rw[HYL.out];exact hfew);rw[HYL.out] at this ⊢;exact this,HFF.out,.inr ⟨y.g,rfl,HYG.out,HYL.out.symm,HMY.out⟩⟩
   ·have hm':mark< -1:=by omega
    have HR:=AA (show row=[] by rw[HROW.out];unfold rowA;rw[if_neg (fun e=>hm e.2.2)]);rw [hg] at HSD;rw [hr] at HRT;clear hs hv hnm hnw h63 h htv hg hr HROW hm hsz;unfold AF at*;go_enter Tryz.func43,Tryz.ntmps43
    go_wp2_with (first
     |((go_at_call 53);(with_reducible refine(HSD.out _ ((Fr.refl _ _).alloc _)).mono ?_);rintro e w1 ⟨rfl,hf1⟩;have HF1:=AA (((Fr.refl Nob w).alloc _).call hf1 (fun _ h _=>h)))
     |((go_at_call 49);(with_reducible refine(HRT.out _ HF1.out).mono ?_);rintro e w2 ⟨rfl,hf2⟩;have HF2:=AA (HF1.out.call hf2 (fun _ h _=>h)))
     |fail);go_ret;rw [HR.out];exact ⟨none,0,rfl,Sl.none_ _ _,(by first|exact HF2.out|exact HF1.out),.inl rfl⟩
  ·have hr':AU (pts ps)=false:=by simpa using hr
   have HR:=AA (show row=[] by rw[HROW.out];unfold rowA;rw[if_neg (fun e=>hr e.2.1)]);rw [hg] at HSD;rw [hr'] at HRT;clear hs hv hnm hnw h63 h htv hg hr HROW hsz hr';unfold AF at*;go_enter Tryz.func43,Tryz.ntmps43
   go_wp2_with (first
    |((go_at_call 53);(with_reducible refine(HSD.out _ ((Fr.refl _ _).alloc _)).mono ?_);rintro e w1 ⟨rfl,hf1⟩;have HF1:=AA (((Fr.refl Nob w).alloc _).call hf1 (fun _ h _=>h)))
    |((go_at_call 49);(with_reducible refine(HRT.out _ HF1.out).mono ?_);rintro e w2 ⟨rfl,hf2⟩;have HF2:=AA (HF1.out.call hf2 (fun _ h _=>h)))
    |fail);go_ret;rw [HR.out];exact ⟨none,0,rfl,Sl.none_ _ _,(by first|exact HF2.out|exact HF1.out),.inl rfl⟩
 ·have hg':(firstW ((Tr.cons x ks.tr .nil).nodes 1)==0)=false:=by simpa using hg
  have HR:=AA (show row=[] by rw[HROW.out];unfold rowA;rw[if_neg (fun e=>hg e.1)]);rw [hg'] at HSD;clear hs hv hnm hnw h63 h htv hg HROW hsz hg';unfold AF at*;go_enter Tryz.func43,Tryz.ntmps43
  go_wp2_with (first
   |((go_at_call 53);(with_reducible refine(HSD.out _ ((Fr.refl _ _).alloc _)).mono ?_);rintro e w1 ⟨rfl,hf1⟩;have HF1:=AA (((Fr.refl Nob w).alloc _).call hf1 (fun _ h _=>h)))
   |((go_at_call 49);(with_reducible refine(HRT.out _ HF1.out).mono ?_);rintro e w2 ⟨rfl,hf2⟩;have HF2:=AA (HF1.out.call hf2 (fun _ h _=>h)))
   |fail);go_ret;rw [HR.out];exact ⟨none,0,rfl,Sl.none_ _ _,(by first|exact HF2.out|exact HF1.out),.inl rfl⟩
theorem l15_name (w:World)(p:Nat→Prop)(s:ByteArray):Calls Tryz.prog 36 #[.string s] w (AQ w p (⟨3,s,0,0,0,0⟩,.nil)):=by
 go_enter Tryz.func36,Tryz.ntmps36;go_wp2_with fail;exact bodyPost_ret (v:=.agg #[.int .i64 3,.string s,.int .i64 0,.int .i64 0,.int .i64 0,.int .i64 0,.slice none 0 0]) (by simp[results,Tryz.results36,go_sem]) rfl ⟨3,s,0,0,0,0,none,0,.nil,rfl,rfl,AJ.nil _ _,(Fr.refl _ _).alloc _⟩
theorem l15_one (w:World)(p:Nat→Prop)(hp:∀k,p k→k<w.heap.size)(op1 lo1 hi1:Int)(x:Nd)(A:Option Addr)(c:Nat)(ks:Fo)(hs:AJ p w A c ks):
 Calls Tryz.prog 35 #[.int .i64 op1,.agg #[.int .i64 lo1,.int .i64 hi1],AF x A ks.len c] w (AQ w p (mk1 op1 lo1 hi1 (x,ks.tr))):=by
 have HS:=AA hs;have HP:=AA hp;clear hs hp;obtain ⟨op,nm,cm,va,lo,hi⟩:=x;unfold AF;go_enter Tryz.func35,Tryz.ntmps35;go_upto_region 1 with fail;obtain ⟨W0,hW0⟩:∃W0,((w.alloc (.cells #[.int .i64 lo1,.int .i64 hi1] 25)).alloc (.cells #[.int .i64 op,.string nm,.int .i64 cm,.int .i64 va,.int .i64 lo,.int .i64 hi,.slice A ks.len c] 28)).alloc (.cells Ab 28)=W0:=⟨_,rfl⟩;have HX0:=AA (show Blk W0 w.heap.size 25 #[.int .i64 lo1,.int .i64 hi1] by rw[←hW0];exact((Blk.new _ _ _).alloc _).alloc _);have HY0:=AA (show Blk W0 (w.heap.size+1) 28 #[.int .i64 op,.string nm,.int .i64 cm,.int .i64 va,.int .i64 lo,.int .i64 hi,.slice A ks.len c] by rw[←hW0];exact(Blk.new_eq (by simp)).alloc _);have HZ:=AA (show Blk W0 (w.heap.size+1+1) 28 Ab by rw[←hW0];exact Blk.new_eq (by simp));have HF0:=AA (show Fr Nob w W0 by rw[←hW0];exact(((Fr.refl _ _).alloc _).alloc _).alloc _);have HW0:=AA (show w.heap.size+1+1<W0.heap.size from HZ.out.lt);rw [hW0];clear hW0;have xc:=HX0.out.cell;have xl:=HX0.out.lt;have yc:=HY0.out.cell;have yl:=HY0.out.lt
 go_wp2_with (first
  |(refine AB rfl rfl (by rfl) (by rfl) (by exact Av) (by rfl) (by first|exact HZ.out.alloc _|exact HZ.out) (by rfl) ?_;intro W7 hb7 hf7;have HB7:=AA hb7;have HF7:=AA hf7;have rc7:=hb7.cell;clear hb7 hf7)
  |fail);refine bodyPost_ret (v:=.agg #[.int .i64 op1,.string ⟨#[]⟩,.int .i64 0,.int .i64 0,.int .i64 lo1,.int .i64 hi1,.slice (some ⟨W0.heap.size,0,none⟩) 1 1]) (by simp[results,Tryz.results35,go_sem,rc7]) rfl ?_;exact AQ.lit1 (x:=⟨op,nm,cm,va,lo,hi⟩) rfl HS.out HP.out HF0.out (by omega) HW0.out HF7.out
def b3a:ByteArray:=⟨#[97]⟩
def b3b:ByteArray:=⟨#[98]⟩
end Go.Proofs.YtoegdmpmagbaiaaGreatDoor
