/- The reference's Nodes, First, Check of a formula. -/
import Derived.Test.YtoegdmpmagbaiaaGreatDoorQFwrong
import Derived.Test.YtoegdmpmagbaiaaGreatDoorQFcheck
import Derived.Test.YtoegdmpmagbaiaaGreatDoorKA
import Derived.Deep.RegionHeld3
set_option maxHeartbeats 4000000
set_option maxRecDepth 100000
namespace Go.Proofs.YtoegdmpmagbaiaaGreatDoor
open Go.RowKit
def Fo.rows:Fo→List Value
 |.nil=>[]
 |.cons x A c ks rest=>fcs x A ks.len c++(ks.rows++rest.rows)
theorem nd_one (x:Nd)(A:Option Addr)(n c:Nat):∀u∈fcs x A n c,u.oneCell'=true:=by
 intro u hu;simp[fcs] at hu;rcases hu with rfl|rfl|rfl|rfl|rfl|rfl|rfl<;>rfl
theorem Fo.rows_one (f:Fo):∀u∈f.rows,u.oneCell'=true:=by
 induction f with
 |nil=>intro u hu;cases hu
 |cons x A c k r ihk ihr=>
  intro u hu;simp only[Fo.rows,List.mem_append] at hu;rcases hu with hu|hu|hu;·exact nd_one _ _ _ _ u hu
  ·exact ihk u hu
  ·exact ihr u hu
theorem elemRF:BP Tryz.prog 37 39 7 80:=BP.mk (z:=.agg #[.int .i64 0,.string default,.int .i64 0,.int .i64 0,.int .i64 0,.int .i64 0,.slice none 0 0]) Tryz.underlying37 (by kernel_rfl) (by kernel_rfl) (by decide)
def nrow (x:Nd)(A:Option Addr)(c:Nat)(ks:Fo):List Value:=fcs x A ks.len c++ks.rows
structure NdI (w wr:World) (A:Option Addr) (n c:Nat) (x:Nd) (B:Option Addr) (d:Nat) (ks:Fo) (k:Nat):Prop where
 fr:Fr Nob w wr
 own:∃R,R++(ks.get k).rows=ks.rows∧wr.ownsRow (w.heap.size+1) 39 7 (.slice A n c) n (fcs x B ks.len d++R)
 box:Blk wr w.heap.size 39 #[.int .i64 x.op,.string x.name,.int .i64 x.cmp,.int .i64 x.val,.int .i64 x.lo,.int .i64 x.hi,.slice B ks.len d]
 few:n=1+(ks.tr.size-(ks.get k).tr.size)
theorem ref_Nodes:∀(m:Nat) (N:Nat) (w:World) (x:Nd) (B:Option Addr) (d:Nat) (ks:Fo),ks.tr.size≤m→ks.tr.size≤100000→Au N w B d ks→
 Calls Tryz.prog 115 #[AF x B ks.len d] w fun e w'=>∃A c,e=.returned (.slice A (ks.tr.size+1) c)∧Sl w' 7 A (ks.tr.size+1) c (nrow x B d ks)∧Fr Nob w w':=by
 intro m
 induction m using Nat.strongRecOn with
 |_ m ih=>
  intro N w x B d ks hm hb hs;have IH:=AA ih;have HS:=AA hs;have hlen:=ks.len_size;clear ih hs;unfold AF at*;go_enter Tryz.func115,Tryz.ntmps115;go_wp2_with (at_builtin;refine AP rfl _ _ 37 rfl elemRF (base:=w.heap.size+1) (xs:=[]) (news:=fcs x B ks.len d) rfl ?own rfl ?src ?one ?h63 ?hby ?hbase ?_);case own=>exact⟨rfl,.inl ⟨rfl,rfl⟩⟩
  case src=>exact Sl.new1 (Blk.new_eq (by simp)) 7 1 rfl (by decide)
  case one=>exact nd_one _ _ _ _
  case h63=>decide
  case hby=>decide
  case hbase=>simp
  intro A1 c1 w1 hown1 hg1 _;have HI:=AA (show NdI w w1 A1 1 c1 x B d ks 0 from⟨(((Fr.refl Nob w).alloc _).alloc _).grown hg1 (fun k e=>by cases e),⟨[],by rw[Fo.get_zero];rfl,by rw[List.append_nil];exact hown1⟩,((Blk.new _ _ _).alloc _).grown hg1 (by simp),by rw[Fo.get_zero];omega⟩);clear hown1 hg1;go_wp2_with fail;go_loopw [3,4] (fun s i wr=>∃(k:Nat) (A:Option Addr) (n c:Nat),k≤ks.len∧i=.int .i64 k∧s=.slice A n c∧Hid (NdI w wr A n c x B d ks k)) (fun _ i _=>ks.len-(intOf i).toNat);case atStart=>exact⟨0,_,_,_,Nat.zero_le _,rfl,rfl,HI⟩
  case round=>
   obtain⟨k,A,n,c,hk,rfl,rfl,hi⟩:=hrel;have c6:wr.cell? ⟨w.heap.size,6,none⟩=some (.slice B ks.len d):=hi.out.box.cell 6;have hbl:=Blk.lt hi.out.box;by_cases hlt:k<ks.len
   ·have hI:(k:Int)<ks.len:=by omega
    have hI3:0≤(k:Int):=by omega
    obtain⟨b,off,y,B2,d2,js,rs,K⟩:=(HS.out.fr hi.out.fr).kid hlt;obtain ⟨d0,d1,d2',d3,d4,d5,d6⟩:=K.nd;obtain rfl:=K.slice;have hlt2:=K.lt;have hsz:=K.size;have hg:=K.get;have hg2:=Fo.get_succ hg;have HC:=AA (IH.out js.tr.size (by omega) N wr y B2 d2 js (Nat.le_refl _) (by omega) K.sl);have HRW:=AA (show (ks.get k).rows=nrow y B2 d2 js++(ks.get (k+1)).rows by rw[hg,hg2];simp[Fo.rows,nrow]);have HFW:=AA hi.out.few;have hn1:n≤100001:=by have:=hi.out.few;omega
    have HSZ:=AA (show (ks.get k).tr.size=js.tr.size+1+(ks.get (k+1)).tr.size∧(ks.get k).tr.size≤ks.tr.size from⟨by rw[hg2,hg];rfl,by rw[hg];exact hsz⟩);obtain ⟨R,hR,hown⟩:=hi.out.own;have HR:=AA hR;have HOW:=AA hown;have HRO:=AA (AX hown);have HRL:=AA (hown.lt);have HFR:=AA hi.out.fr;have HBX:=AA hi.out.box;clear hg hg2 K hR hown hi;go_wp2_with first|((go_at_call 115);refine(HC.out).mono ?_;rintro e w2 ⟨A3,c3,rfl,hs3,hf3⟩;have HS3:=AA hs3;have HF3:=AA hf3;clear hs3 hf3)|(at_builtin;refine AP rfl _ _ 37 rfl elemRF (base:=w.heap.size+1) (xs:=fcs x (some ⟨b,off,none⟩) ks.len d++R) (news:=nrow y B2 d2 js) rfl ?own rfl HS3.out ?one ?h63 ?hby ?hbase ?_)
    case own=>exact Ag HOW.out HF3.out (fun _ _ _ _ e=>e)
    case one=>intro u hu;exact Fo.rows_one (.cons y B2 d2 js .nil) u (by simpa[Fo.rows,nrow] using hu)
    case h63=>unfold maxLen;omega
    case hby=>omega
    case hbase=>have:=HF3.out.size;omega
    intro A4 c4 w4 hown4 hg4 _
    have HI2:=AA (show NdI w w4 A4 (n+(js.tr.size+1)) c4 x (some ⟨b,off,none⟩) d ks (k+1) from
     ⟨(HFR.out.call HF3.out (fun _ h _=>h)).grown hg4 (fun k e hlt=>by have:=HRO.out k e;omega),⟨R++nrow y B2 d2 js,by rw[List.append_assoc,←HRW.out,HR.out],by have h:=hown4;simpa[List.append_assoc] using h⟩,
       (HBX.out.fr HF3.out (fun e=>e)).grown hg4 (fun e=>by have:=HRO.out _ e;omega),by have h1:=HFW.out;have h2:=HSZ.out;omega⟩);clear hown4 hg4;go_wp2_with fail;go_roundw;case rel=>exact⟨k+1,A4,n+(js.tr.size+1),c4,by omega,by go_num,rfl,HI2⟩
    case measure=>simp[intOf];omega
   ·have HE:=AA (show ks.get k=.nil from Fo.get_end (by omega));have HN:=AA (show n=ks.tr.size+1 by rw[hi.out.few,HE.out];simp[Fo.tr,Tr.size];omega);obtain ⟨R,hR,hown⟩:=hi.out.own;rw [HE.out] at hR;have HR:=AA (show R=ks.rows by simpa[Fo.rows] using hR);have HOW:=AA hown;clear hR hown;go_wp2_with fail;go_ret;obtain rfl:=HN.out;have h:=HOW.out;rw [HR.out] at h;exact ⟨A,c,rfl,Sl.of_own h,hi.out.fr⟩
theorem Fo.rows_vis:∀(f:Fo) (b off d:Nat),f.rows=(f.vis b off d).flatMap fun v=>fcs v.x v.A v.n v.c
 |.nil,_,_,_=>rfl
 |.cons x A c ks rest,b,off,d=>by simp[Fo.rows,Fo.vis,Fo.rows_vis ks (ab A) (ao A) (d+1),Fo.rows_vis rest b (off+7) d]
def vcs (v:Vis):List Value:=fcs v.x v.A v.n v.c
theorem vcs_len (v:Vis):(vcs v).length=7:=rfl
theorem nrow_vis (x:Nd)(A:Option Addr)(c:Nat)(ks:Fo):nrow x A c ks=((Fo.cons x A c ks .nil).vis 0 0 1).flatMap vcs:=by
 have h:=Fo.rows_vis (.cons x A c ks .nil) 0 0 1;rw [show (fun v:Vis=>fcs v.x v.A v.n v.c)=vcs from rfl] at h;rw [←h];simp [nrow,Fo.rows]
theorem vis_cells {w:World}{A:Option Addr}{c:Nat}{l:List Vis}{k:Nat}(h:Sl w 7 A l.length c (l.flatMap vcs))(hk:k<l.length):∃b off,A=some ⟨b,off,none⟩∧b<w.heap.size∧CG w b (off+k*7) l[k].x l[k].A l[k].n l[k].c:=by
 obtain⟨b,off,hA,hb,hc⟩:=Sl.row (size:=7) vcs_len h hk;exact ⟨b,off,hA,hb,CG.of fun j u hu=>by rw[Nat.add_assoc];exact hc j u hu⟩
theorem FM (N:Nat)(w:World)(x:Nd)(B:Option Addr)(d:Nat)(ks:Fo)(hsz:ks.tr.size≤100000)(hs:Au N w B d ks)(hnm:∀y∈(Tr.cons x ks.tr .nil).nodes 1,y.1.name.size≤9223372036854775807):
 Calls Tryz.prog 69 #[AF x B ks.len d] w fun e w'=>e=.returned (.int .i64 (firstW ((Tr.cons x ks.tr .nil).nodes 1)))∧Fr Nob w w':=by
 have HN:=AA hnm;have HC:=AA (fun W (h:Fr Nob w W)=>ref_Nodes _ N W x B d ks (Nat.le_refl _) hsz (hs.fr h));have HL:=AA (show ((Fo.cons x B d ks .nil).vis 0 0 1).length=ks.tr.size+1 by rw[Fo.vis_len];simp[Fo.tr,Tr.size]);rw [nrow_vis,←HL.out] at HC;have HV:=AA (Cq x B d ks 0 0);have hlen:((Fo.cons x B d ks .nil).vis 0 0 1).length≤100001:=by rw[HL.out];omega
 rw[←HV.out] at HN ⊢;generalize (Fo.cons x B d ks .nil).vis 0 0 1=L at*;clear hs hnm;unfold AF at*;go_enter Tryz.func69,Tryz.ntmps69;go_wp2_with ((go_at_call 115);refine(HC.out _ ((Fr.refl _ _).alloc _)).mono ?_;rintro e w1 ⟨A1,c1,rfl,hs1,hf1⟩;have HS1:=AA hs1;have HF1:=AA hf1;clear hs1 hf1);go_loopw [4,5] (fun i _ wr=>∃k:Nat,k≤L.length∧i=.int .i64 k∧Hid (Fr Nob w1 wr)∧Hid (firstW ((L.take k).map Bo)=0)) (fun i _ _=>L.length-(intOf i).toNat);case atStart=>exact⟨0,Nat.zero_le _,rfl,AA (Fr.refl _ _),AA rfl⟩
 case round=>
  obtain⟨k,hk,rfl,hfr,hz⟩:=hrel;by_cases hlt:k<L.length
  ·have hI:(k:Int)<L.length:=by omega
   have hI3:0≤(k:Int):=by omega
   obtain⟨b,off,rfl,hb,d0,d1,d2,d3,d4,d5,d6⟩:=vis_cells (HS1.out.pure hfr.out) hlt;have hsn:=HN.out (Bo L[k]) (List.mem_map_of_mem (List.getElem_mem hlt))
   have HST:=AA (show firstW ((L.take (k+1)).map Bo)=wrongN L[k].x L[k].n by
    rw[List.take_succ_eq_append_getElem hlt,List.map_append,List.map_singleton,D7,if_pos hz.out];rfl);have HPR:=AA (fun h=>Fq (l:=(L.take (k+1)).map Bo) (m:=L.map Bo) ((List.take_prefix _ _).map _) h);have HW:=AA (fun W=>ref_Wrong W L[k].x L[k].A L[k].n L[k].c hsn);generalize wrongN L[k].x L[k].n=u at*;unfold AF at HW;clear hsn;generalize L[k].x=y at*;generalize L[k].A=Y at*;generalize L[k].n=n at*;generalize L[k].c=c at*;go_wp2_with ((go_at_call 116);refine(HW.out _).mono ?_;rintro e w2 ⟨rfl,hf2⟩)
   ·have HR:=AA (show firstW (L.map Bo)=u by
     have h:(u !=0)=true:=by assumption
     rw[HPR.out (by rw[HST.out];simpa using h),HST.out]);go_ret;rw [HR.out];exact ⟨rfl,((((Fr.refl Nob w).alloc _).call HF1.out (fun _ h _=>h)).call hfr.out (fun _ h _=>h)).call hf2 (fun _ h _=>h)⟩
   ·have HU:=AA (show u=0 by
     have h:(u !=0)=false:=by assumption
     simpa using h);go_roundw;case rel=>exact⟨k+1,by omega,by go_num,AA (hfr.out.call hf2 (fun _ h _=>h)),AA (by rw[HST.out,HU.out])⟩
    case measure=>simp[intOf];omega
  ·have HR:=AA (show firstW (L.map Bo)=0 by have:=hz.out;rwa[List.take_of_length_le (by omega)] at this);go_wp2_with fail;go_ret;rw [HR.out];exact ⟨rfl,(((Fr.refl Nob w).alloc _).call HF1.out (fun _ h _=>h)).call hfr.out (fun _ h _=>h)⟩
theorem ref_Check (N:Nat)(w:World)(x:Nd)(B:Option Addr)(d:Nat)(ks:Fo)(hsz:ks.tr.size≤100000)(hs:Au N w B d ks)(hnm:∀y∈(Tr.cons x ks.tr .nil).nodes 1,y.1.name.size≤9223372036854775807):
 Calls Tryz.prog 67 #[AF x B ks.len d] w fun e w'=>e=.returned (.int .i64 (checkT x ks.tr))∧Fr Nob w w':=by
 have H1:=AA (fun W (h:Fr Nob w W)=>ref_Size _ N W x B d ks (Nat.le_refl _) hsz (hs.fr h));have H2:=AA (fun W (h:Fr Nob w W)=>ref_Deep _ N W x B d ks (Nat.le_refl _) hsz (hs.fr h));have H3:=AA (fun W (h:Fr Nob w W)=>FM N W x B d ks hsz (hs.fr h) hnm);have HCH:=AA (show checkT x ks.tr=if 48<ks.tr.size+1 then 23 else if 12<ks.tr.deep+1 then 22 else firstW ((Tr.cons x ks.tr .nil).nodes 1) from rfl);have hdm:=ks.tr.deep_size;clear hs hnm;generalize firstW ((Tr.cons x ks.tr .nil).nodes 1)=fw at*;have h1:ks.tr.size+1≤100001:=by omega
 have h2:ks.tr.deep+1≤100001:=by omega
 generalize ks.tr.size+1=sz at*;generalize ks.tr.deep+1=dp at*;unfold AF at*;go_enter Tryz.func67,Tryz.ntmps67;go_wp2_with first|((go_at_call 112);refine(H1.out _ ((Fr.refl _ _).alloc _)).mono ?_;rintro e w1 ⟨rfl,hf1⟩;have hb1:=(Blk.new w 39 #[.int .i64 x.op,.string x.name,.int .i64 x.cmp,.int .i64 x.val,.int .i64 x.lo,.int .i64 x.hi,.slice B ks.len d]).fr hf1 (fun e=>e);have q1:=hb1.cell;have F1:=AA (((Fr.refl Nob w).alloc _).call hf1 (fun _ h _=>h));clear hf1)|((go_at_call 113);refine(H2.out _ F1.out).mono ?_;rintro e w2 ⟨rfl,hf2⟩;have q2:=(hb1.fr hf2 (fun e=>e)).cell;have F2:=AA (F1.out.call hf2 (fun _ h _=>h));clear hf2 q1)|((go_at_call 69);refine(H3.out _ F2.out).mono ?_;rintro e w3 ⟨rfl,hf3⟩)
 ·have HR:=AA (show checkT x ks.tr=23 by rw[HCH.out,if_pos (by omega)]);go_ret;rw [HR.out];exact ⟨rfl,F1.out⟩
 ·have HR:=AA (show checkT x ks.tr=22 by rw[HCH.out,if_neg (by omega),if_pos (by omega)]);go_ret;rw [HR.out];exact ⟨rfl,F2.out⟩
 ·have HR:=AA (show checkT x ks.tr=fw by rw[HCH.out,if_neg (by omega),if_neg (by omega)]);go_ret;rw [HR.out];exact ⟨rfl,F2.out.call hf3 (fun _ h _=>h)⟩
def Fo.AtP (p:Nat→Prop)(w:World):Nat→Nat→Fo→Prop
 |_,_,.nil=>True
 |b,off,.cons x A c ks rest=>p b∧b<w.heap.size∧(∀j u,(fcs x A ks.len c)[j]?=some u→w.cell? ⟨b,off+j,none⟩=some u)∧SlOk A ks.len c∧
   (0<ks.len→∃bb oo,A=some ⟨bb,oo,none⟩)∧(∀bb oo,A=some ⟨bb,oo,none⟩→ks.AtP p w bb oo)∧rest.AtP p w b (off+7)
structure AJ (p:Nat→Prop) (w:World) (A:Option Addr) (c:Nat) (f:Fo):Prop where
 ok:SlOk A f.len c
 some_:0<f.len→∃bb oo,A=some ⟨bb,oo,none⟩
 at_:∀bb oo,A=some ⟨bb,oo,none⟩→f.AtP p w bb oo
theorem Fo.AtP.keep {p:Nat→Prop}{w w':World}(hk:∀k,p k→k<w.heap.size→w'.heap[k]?=w.heap[k]?):∀{f:Fo} {b off:Nat},f.AtP p w b off→f.AtP p w' b off
 |.nil,_,_,_=>trivial
 |.cons _ _ _ _ _,b,off,⟨h1,h2,h3,h4,h5,h6,h7⟩=>by
  have hb:=hk b h1 h2;refine ⟨h1,?_,fun j u hu=>(World.cell?_of_block (w:=w) (w':=w') (a:=⟨b,off+j,none⟩) hb).trans (h3 j u hu),h4,h5,fun bb oo e=>(h6 bb oo e).keep hk,h7.keep hk⟩;rcases Nat.lt_or_ge b w'.heap.size with hlt|hge;·exact hlt
  ·rw[Array.getElem?_eq_none hge,Array.getElem?_eq_getElem h2] at hb;cases hb
theorem Fo.AtP.mono {p q:Nat→Prop}{w:World}(hM:∀k,p k→q k):∀{f:Fo} {b off:Nat},f.AtP p w b off→f.AtP q w b off
 |.nil,_,_,_=>trivial
 |.cons _ _ _ _ _,_,_,⟨h1,h2,h3,h4,h5,h6,h7⟩=>⟨hM _ h1,h2,h3,h4,h5,fun bb oo e=>(h6 bb oo e).mono hM,h7.mono hM⟩
theorem Fo.AtP.at_ {p:Nat→Prop}{N:Nat}{w:World}(hM:∀k,p k→k<N):∀{f:Fo} {b off:Nat},f.AtP p w b off→f.At N w b off
 |.nil,_,_,_=>trivial
 |.cons _ _ _ _ _,_,_,⟨h1,h2,h3,h4,h5,h6,h7⟩=>⟨hM _ h1,h2,h3,h4,h5,fun bb oo e=>(h6 bb oo e).at_ hM,h7.at_ hM⟩
theorem AJ.keep {p:Nat→Prop}{w w':World}{A:Option Addr}{c:Nat}{f:Fo}(h:AJ p w A c f)(hk:∀k,p k→k<w.heap.size→w'.heap[k]?=w.heap[k]?):AJ p w' A c f:=⟨h.ok,h.some_,fun bb oo e=>(h.at_ bb oo e).keep hk⟩
theorem AJ.mono {p q:Nat→Prop}{w:World}{A:Option Addr}{c:Nat}{f:Fo}(h:AJ p w A c f)(hM:∀k,p k→q k):AJ q w A c f:=⟨h.ok,h.some_,fun bb oo e=>(h.at_ bb oo e).mono hM⟩
theorem AJ.sl {p:Nat→Prop}{N:Nat}{w:World}{A:Option Addr}{c:Nat}{f:Fo}(h:AJ p w A c f)(hM:∀k,p k→k<N):Au N w A c f:=⟨h.ok,h.some_,fun bb oo e=>(h.at_ bb oo e).at_ hM⟩
def Fo.snoc:Fo→Nd→Option Addr→Nat→Fo→Fo
 |.nil,x,A,c,ks=>.cons x A c ks .nil
 |.cons y B d js rest,x,A,c,ks=>.cons y B d js (rest.snoc x A c ks)
def Tr.app:Tr→Tr→Tr
 |.nil,t=>t
 |.cons x k r,t=>.cons x k (r.app t)
theorem Tr.app_nil (t:Tr):t.app .nil=t:=by
 induction t with
 |nil=>rfl
 |cons x k r _ ih=>simp[Tr.app,ih]
theorem Fo.snoc_tr (f:Fo)(x:Nd)(A:Option Addr)(c:Nat)(ks:Fo)(t:Tr):(f.snoc x A c ks).tr.app t=f.tr.app (.cons x ks.tr t):=by
 induction f with
 |nil=>rfl
 |cons y B d js r _ ih=>simp[Fo.snoc,Fo.tr,Tr.app,ih]
theorem Fo.snoc_len (f:Fo)(x:Nd)(A:Option Addr)(c:Nat)(ks:Fo):(f.snoc x A c ks).len=f.len+1:=by
 induction f with
 |nil=>rfl
 |cons y B d js r _ ih=>simp[Fo.snoc,Fo.len,ih]
def Fo.tops:Fo→List Value
 |.nil=>[]
 |.cons x A c ks rest=>fcs x A ks.len c++rest.tops
theorem Fo.snoc_tops (f:Fo)(x:Nd)(A:Option Addr)(c:Nat)(ks:Fo):(f.snoc x A c ks).tops=f.tops++fcs x A ks.len c:=by
 induction f with
 |nil=>simp[Fo.snoc,Fo.tops]
 |cons y B d js r _ ih=>simp[Fo.snoc,Fo.tops,ih]
theorem Fo.tops_len (f:Fo):f.tops.length=f.len*7:=by
 induction f with
 |nil=>rfl
 |cons y B d js r _ ih=>simp[Fo.tops,Fo.len,ih,fcs_len];omega
def Fo.subs (p:Nat→Prop)(w:World):Fo→Prop
 |.nil=>True
 |.cons _ A c ks rest=>AJ p w A c ks∧rest.subs p w
theorem Fo.subs_keep {p:Nat→Prop}{w w':World}(hk:∀k,p k→k<w.heap.size→w'.heap[k]?=w.heap[k]?):∀{f:Fo},f.subs p w→f.subs p w'
 |.nil,_=>trivial
 |.cons _ _ _ _ _,⟨h1,h2⟩=>⟨h1.keep hk,Fo.subs_keep hk h2⟩
theorem Fo.subs_mono {p q:Nat→Prop}{w:World}(hM:∀k,p k→q k):∀{f:Fo},f.subs p w→f.subs q w
 |.nil,_=>trivial
 |.cons _ _ _ _ _,⟨h1,h2⟩=>⟨h1.mono hM,Fo.subs_mono hM h2⟩
theorem Fo.subs_snoc {p:Nat→Prop}{w:World}{x:Nd}{A:Option Addr}{c:Nat}{ks:Fo}(hs:AJ p w A c ks):∀{f:Fo},f.subs p w→(f.snoc x A c ks).subs p w
 |.nil,_=>⟨hs,trivial⟩
 |.cons _ _ _ _ _,⟨h1,h2⟩=>⟨h1,Fo.subs_snoc hs h2⟩
theorem Fo.at_of {p:Nat→Prop}{w:World}{b:Nat}(hp:p b)(hb:b<w.heap.size):∀{f:Fo} {off:Nat},(∀j u,f.tops[j]?=some u→w.cell? ⟨b,off+j,none⟩=some u)→f.subs p w→f.AtP p w b off
 |.nil,_,_,_=>trivial
 |.cons x A c ks rest,off,hc,⟨h1,h2⟩=>by
  refine⟨hp,hb,fun j u hu=>hc j u ?_,h1.ok,h1.some_,h1.at_,Fo.at_of hp hb (fun j u hu=>?_) h2⟩;·rw[Fo.tops,List.getElem?_append_left (List.getElem?_eq_some_iff.1 hu).1];exact hu
  ·rw[Nat.add_assoc];refine hc (7+j) u ?_;rw [Fo.tops,List.getElem?_append_right (by rw[fcs_len];omega),fcs_len,Nat.add_sub_cancel_left];exact hu
end Go.Proofs.YtoegdmpmagbaiaaGreatDoor
