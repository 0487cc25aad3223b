/- Whether two formulas are the same: in plain words; the reference's walk. -/
import Derived.Test.YtoegdmpmagbaiaaGreatDoorKA
import Derived.Deep.RegionHeld3
import Derived.Deep.LoopGhost
import Derived.Deep.RegionLaw
import Derived.Deep.AppendLies
set_option maxHeartbeats 8000000
set_option maxRecDepth 100000
namespace Go.Proofs.YtoegdmpmagbaiaaGreatDoor
open Go.RowKit
def ndEq (x y:Nd):Bool:=x.op==y.op&&x.name.toList==y.name.toList&&x.cmp==y.cmp&&x.val==y.val&&x.lo==y.lo&&x.hi==y.hi
def BQ:Tr→Tr→Bool
 |.nil,.nil=>true
 |.cons x k r,.cons y j s=>ndEq x y&&k.len==j.len&&BQ k j&&BQ r s
 |_,_=>false
theorem GK {a b:ByteArray}(h:a.toList=b.toList):a=b:=by
 rw[ByteArray.toList_eq,ByteArray.toList_eq] at h;exact ByteArray.ext (Array.ext' h)
theorem DS (x y:Nd):ndEq x y=true↔x=y:=by
 constructor
 ·intro h;simp only[ndEq,Bool.and_eq_true,beq_iff_eq] at h;obtain ⟨⟨⟨⟨⟨h1,h2⟩,h3⟩,h4⟩,h5⟩,h6⟩:=h;have h2:=GK h2;cases x;cases y;simp_all
 ·rintro rfl;simp[ndEq]
theorem FK:∀t s:Tr,BQ t s=true↔t=s
 |.nil,.nil=>by simp[BQ]
 |.nil,.cons _ _ _=>by simp[BQ]
 |.cons _ _ _,.nil=>by simp[BQ]
 |.cons x k r,.cons y j s=>by
  simp only[BQ,Bool.and_eq_true,beq_iff_eq,DS,FK k j,FK r s,Tr.cons.injEq];constructor;·rintro⟨⟨⟨h1,_⟩,h3⟩,h4⟩;exact⟨h1,h3,h4⟩
  ·rintro⟨h1,h3,h4⟩;exact⟨⟨⟨h1,by rw[h3]⟩,h3⟩,h4⟩
def same1 (x:Nd)(k:Tr)(y:Nd)(j:Tr):Bool:=ndEq x y&&k.len==j.len&&BQ k j
theorem EH (x:Nd)(k:Tr)(y:Nd)(j:Tr):same1 x k y j=true↔x=y∧k=j:=by
 simp only[same1,Bool.and_eq_true,beq_iff_eq,DS,FK];constructor;·rintro⟨⟨h1,_⟩,h3⟩;exact⟨h1,h3⟩
 ·rintro⟨h1,h3⟩;exact⟨⟨h1,by rw[h3]⟩,h3⟩
theorem ref_Same:∀(m:Nat) (N:Nat) (w:World) (x y:Nd) (A B:Option Addr) (c d:Nat) (ks js:Fo),ks.tr.size≤m→ks.tr.size≤100000→Au N w A c ks→Au N w B d js→
 Calls Tryz.prog 152 #[AF x A ks.len c,AF y B js.len d] w fun e w'=>e=.returned (.bool (same1 x ks.tr y js.tr))∧Fr Nob w w':=by
 intro m
 induction m using Nat.strongRecOn with
 |_ m ih=>
  intro N w x y A B c d ks js hm hb hs hs2;have IH:=AA ih;have HS:=AA hs;have HS2:=AA hs2;have hlen:=ks.len_size;have hmx2:js.len≤9223372036854775807:=Nat.le_trans hs2.ok.le (by have:=hs2.ok.max;unfold maxLen at this;exact this);clear ih hs hs2;by_cases heq:x=y∧ks.len=js.len
  ·obtain⟨rfl,hl⟩:=heq;have HL:=AA hl;have HR:=AA (show same1 x ks.tr x js.tr=BQ ks.tr js.tr by simp[same1,(DS x x).2 rfl,Fo.tr_len,hl]);rw [←hl] at hmx2 ⊢;unfold AF at*;clear hl;go_enter Tryz.func152,Tryz.ntmps152;go_wp2_with fail;go_loopw [5] (fun i wr=>∃k:Nat,k≤ks.len∧i=.int .i64 k∧Hid (Fr Nob w wr)∧Hid (BQ (ks.get k).tr (js.get k).tr=BQ ks.tr js.tr)∧Hid (Blk wr w.heap.size 39 #[.int .i64 x.op,.string x.name,.int .i64 x.cmp,.int .i64 x.val,.int .i64 x.lo,.int .i64 x.hi,.slice A ks.len c])∧Hid (Blk wr (w.heap.size+1) 39 #[.int .i64 x.op,.string x.name,.int .i64 x.cmp,.int .i64 x.val,.int .i64 x.lo,.int .i64 x.hi,.slice B ks.len d])) (fun i _=>ks.len-(intOf i).toNat);case atStart=>exact⟨0,Nat.zero_le _,rfl,AA (((Fr.refl _ _).alloc _).alloc _),AA (by rw[Fo.get_zero,Fo.get_zero]),AA ((Blk.new _ _ _).alloc _),AA (Blk.new_eq (by simp))⟩
   case round=>
    obtain⟨k,hk,rfl,hfr,hsm,hb1,hb2⟩:=hrel;have e6:wr.cell? ⟨w.heap.size,6,none⟩=some (.slice A ks.len c):=hb1.out.cell 6;have r6:wr.cell? ⟨w.heap.size+1,6,none⟩=some (.slice B ks.len d):=hb2.out.cell 6;have hbl:=Blk.lt hb2.out;by_cases hlt:k<ks.len
    ·have hI:(k:Int)<ks.len:=by omega
     have hI3:0≤(k:Int):=by omega
     obtain⟨b,off,y,B2,d2,ls,rs,K⟩:=(HS.out.fr hfr.out).kid hlt;obtain ⟨b',off',y',B2',d2',ls',rs',K'⟩:=(HS2.out.fr hfr.out).kid (k:=k) (by rw[←HL.out];exact hlt);obtain ⟨d0,d1,d2c,d3,d4,d5,d6⟩:=K.nd;obtain ⟨t0,t1,t2,t3,t4,t5,t6⟩:=K'.nd;obtain rfl:=K.slice;obtain rfl:=K'.slice;have hlt2:=K.lt;have hlt3:=K'.lt;have hsz:=K.size;have hg:=K.get;have hg':=K'.get;have hgs:=Fo.get_succ hg;have hgs':=Fo.get_succ hg';have HC:=AA (fun W (h:Fr Nob wr W)=>IH.out ls.tr.size (by omega) N W y y' B2 B2' d2 d2' ls ls' (Nat.le_refl _) (by omega) (K.sl.fr h) (K'.sl.fr h))
     have HE:=AA (show (same1 y ls.tr y' ls'.tr&&BQ (ks.get (k+1)).tr (js.get (k+1)).tr)=BQ ks.tr js.tr by
      rw[←hsm.out,hg,hg',hgs,hgs'];simp only[Fo.tr,BQ,same1]);clear hg hg' hgs hgs' K K' hsm;generalize same1 y ls.tr y' ls'.tr=u at*;cases u
     all_goals
      go_wp2_with fail
      go_region_held3 (fun w'=>w'.cell? ⟨w.heap.size,6,none⟩=some (.slice (some ⟨b,off,none⟩) ks.len c)∧w'.cell? ⟨w.heap.size+1,6,none⟩=some (.slice (some ⟨b',off',none⟩) ks.len d)∧w'.cell? ⟨b,off+k*7,none⟩=some (.int .i64 y.op)∧w'.cell? ⟨b,off+k*7+1,none⟩=some (.string y.name)∧w'.cell? ⟨b,off+k*7+2,none⟩=some (.int .i64 y.cmp)∧w'.cell? ⟨b,off+k*7+3,none⟩=some (.int .i64 y.val)∧w'.cell? ⟨b,off+k*7+4,none⟩=some (.int .i64 y.lo)∧w'.cell? ⟨b,off+k*7+5,none⟩=some (.int .i64 y.hi)∧w'.cell? ⟨b,off+k*7+6,none⟩=some (.slice B2 ls.len d2)∧
       w'.cell? ⟨b',off'+k*7,none⟩=some (.int .i64 y'.op)∧w'.cell? ⟨b',off'+k*7+1,none⟩=some (.string y'.name)∧w'.cell? ⟨b',off'+k*7+2,none⟩=some (.int .i64 y'.cmp)∧w'.cell? ⟨b',off'+k*7+3,none⟩=some (.int .i64 y'.val)∧w'.cell? ⟨b',off'+k*7+4,none⟩=some (.int .i64 y'.lo)∧w'.cell? ⟨b',off'+k*7+5,none⟩=some (.int .i64 y'.hi)∧w'.cell? ⟨b',off'+k*7+6,none⟩=some (.slice B2' ls'.len d2'))
       (first|go_keep|(go_split_ands;refine⟨?_,?_,?_,?_,?_,?_,?_,?_,?_,?_,?_,?_,?_,?_,?_,?_⟩<;>exact Fr.cell hf1 (by assumption) (fun e=>e)))
       (first|((go_at_call 152);refine(HC.out _ (Fr.refl _ _).drew).mono ?_;rintro e w1 ⟨rfl,hf1⟩));go_wp2_with fail
     ·have HR2:=AA (show BQ ks.tr js.tr=false by rw[←HE.out];rfl);go_ret;rw [HR.out,HR2.out];exact ⟨rfl,hfr.out.drew.call hf1 (fun _ h _=>h)⟩
     ·have HE2:=AA (show BQ (ks.get (k+1)).tr (js.get (k+1)).tr=BQ ks.tr js.tr by rw[←HE.out];simp);go_roundw;case rel=>exact⟨k+1,by omega,by go_num,AA (hfr.out.drew.call hf1 (fun _ h _=>h)),HE2,AA (hb1.out.drew.fr hf1 (fun e=>e)),AA (hb2.out.drew.fr hf1 (fun e=>e))⟩
      case measure=>simp[intOf];omega
    ·have HR2:=AA (show BQ ks.tr js.tr=true by
      rw[←hsm.out,Fo.get_end (by omega),Fo.get_end (by have:=HL.out;omega)];rfl);go_wp2_with fail;go_ret;rw [HR.out,HR2.out];exact ⟨rfl,hfr.out⟩
  ·have HR:=AA (show same1 x ks.tr y js.tr=false by
    rw[←Bool.not_eq_true,EH];rintro ⟨h1,h2⟩;exact heq ⟨h1,by rw[←Fo.tr_len,←Fo.tr_len,h2]⟩);have HE:=AA heq;clear heq;unfold AF at*;go_enter Tryz.func152,Tryz.ntmps152;go_wp2_with fail
   all_goals first
    |(go_ret;rw[HR.out];exact⟨rfl,((Fr.refl _ _).alloc _).alloc _⟩)
    |(exfalso;refine HE.out ⟨?_,by(clear HE HR HS HS2 IH hmx2 hlen hm hb;simp at*;omega)⟩;rw [←DS];clear HE HR HS HS2 IH;simp only[ndEq,Bool.and_eq_true,beq_iff_eq];simp_all)
theorem own_get {w:World}{base:Nat}{e:TypeId}{size:Nat}{A:Option Addr}{n c:Nat}{xs:List Value}(h:w.ownsRow base e size (.slice A n c) n xs)(hn:0<n):
 ∃g,A=some ⟨g,0,none⟩∧base≤g∧g<w.heap.size∧n≤c∧c≤maxLen∧∀j u,xs[j]?=some u→w.cell? ⟨g,j,none⟩=some u:=by
 rcases h.2 with⟨_,h2⟩|⟨g,cap,cur,hv,hb,hg,hle,hm,hs,ht⟩;·omega
 ·simp only[Value.slice.injEq] at hv;obtain ⟨rfl,_,rfl⟩:=hv;refine ⟨g,rfl,hb,(Array.getElem?_eq_some_iff.1 hg).1,hle,hm,fun j u hu=>?_⟩;rw [cell_of_row w g j cur _ (0,0) hg,←Array.getElem?_toList];rw [←ht,List.getElem?_take] at hu;split at hu;·exact hu
  ·cases hu
theorem own_take {w:World}{base:Nat}{e:TypeId}{size:Nat}{A:Option Addr}{n m c:Nat}{xs:List Value}(h:w.ownsRow base e size (.slice A n c) n xs)(hn:0<n)(hm:m≤n):w.ownsRow base e size (.slice A m c) m (xs.take (m*size)):=by
 have hms:m*size≤n*size:=Nat.mul_le_mul_right _ hm;refine ⟨by rw[List.length_take,h.1];omega,?_⟩;rcases h.2 with⟨_,h2⟩|⟨g,cap,cur,hv,hb,hg,hle,hmx,hs,ht⟩;·omega
 ·simp only[Value.slice.injEq] at hv;obtain ⟨rfl,_,rfl⟩:=hv;exact .inr ⟨g,c,cur,rfl,hb,hg,by omega,hmx,hs,by rw[←ht,List.take_take,Nat.min_eq_left hms]⟩
structure E2 where
 f:Fo
 A:Option Addr
 c:Nat
 g:Fo
 B:Option Addr
 d:Nat
def e2c (e:E2):List Value:=[.slice e.A e.f.len e.c,.slice e.B e.f.len e.d]
theorem e2c_len (e:E2):(e2c e).length=2:=rfl
def GX (st:List E2):List Value:=st.flatMap e2c
theorem DN (st:List E2):(GX st).length=st.length*2:=by
 induction st with
 |nil=>rfl
 |cons e r ih=>rw[GX,List.flatMap_cons,List.length_append,e2c_len];rw[GX] at ih;rw[ih,List.length_cons];omega
theorem EK (r:List E2)(e:E2):GX (r++[e])=GX r++e2c e:=by simp[GX]
def Fz (st:List E2):Bool:=st.all fun e=>BQ e.f.tr e.g.tr
theorem allS_snoc (r:List E2)(e:E2):Fz (r++[e])=(Fz r&&BQ e.f.tr e.g.tr):=by simp[Fz]
def mu2 (st:List E2):Nat:=(st.map fun e=>2*e.f.tr.size+1).sum
theorem mu2_snoc (r:List E2)(e:E2):mu2 (r++[e])=mu2 r+(2*e.f.tr.size+1):=by simp[mu2]
theorem mu2_len (st:List E2):st.length≤mu2 st:=by
 induction st with
 |nil=>exact Nat.zero_le _
 |cons e r ih=>simp only[mu2,List.map_cons,List.sum_cons,List.length_cons] at ih ⊢;omega
structure SmI (w wr:World) (N:Nat) (A:Option Addr) (c:Nat) (st:List E2) (want:Bool):Prop where
 fr:Fr Nob w wr
 own:wr.ownsRow N 222 2 (.slice A st.length c) st.length (GX st)
 trees:∀e∈st,Au N wr e.A e.c e.f∧Au N wr e.B e.d e.g∧e.g.len=e.f.len
 same:Fz st=want
 size:N≤wr.heap.size
 small:mu2 st≤300000
theorem blk_at {N M:Nat}{w:World}{g:Nat}{t:TypeId}{x:Nd}{A:Option Addr}{c:Nat}{ks:Fo}(hb:Blk w g t #[.int .i64 x.op,.string x.name,.int .i64 x.cmp,.int .i64 x.val,.int .i64 x.lo,.int .i64 x.hi,.slice A ks.len c])(hs:Au M w A c ks)(hg:g<N)(hM:M≤N):Au N w (some ⟨g,0,none⟩) 1 (.cons x A c ks .nil):=by
 refine⟨⟨Nat.le_refl _,by decide,fun e=>by cases e⟩,fun _=>⟨g,0,rfl⟩,fun bb oo e=>?_⟩;simp only[Option.some.injEq,Addr.mk.injEq,and_true] at e;obtain ⟨rfl,rfl⟩:=e;refine ⟨hg,hb.lt,fun j u hu=>?_,hs.ok,hs.some_,fun bb oo e=>(hs.at_ bb oo e).mono hM,trivial⟩;rw [Nat.zero_add,hb.cell j];simpa [fcs] using hu
structure SmN (w wi:World) (N P:Nat) (e:E2) (k:Nat) (A2:Option Addr) (c2:Nat) (st2:List E2) (want:Bool) (gk:Nat):Prop where
 i:SmI w wi N A2 c2 st2 (Fz st2)
 same:(Fz st2&&BQ (e.f.get k).tr (e.g.get k).tr)=want
 mu:mu2 st2+2*(e.f.get k).tr.size<gk
 box:Blk wi P 222 #[.slice e.A e.f.len e.c,.slice e.B e.f.len e.d]
 te:Au N wi e.A e.c e.f∧Au N wi e.B e.d e.g∧e.g.len=e.f.len
 ne:∀q,A2.map (·.block)=some q→q≠P
theorem SmI.fr_ {w wr wi:World}{N:Nat}{A:Option Addr}{c:Nat}{st:List E2}{b:Bool}(h:SmI w wr N A c st b)(hf:Fr Nob wr wi):SmI w wi N A c st b:=
 ⟨h.fr.call hf (fun _ h _=>h),Ag h.own hf (fun _ _ _ _ e=>e),fun e he=>⟨(h.trees e he).1.fr hf,(h.trees e he).2.1.fr hf,(h.trees e he).2.2⟩,h.same,Nat.le_trans h.size hf.size,h.small⟩
theorem SmN.next {w wr wi:World}{N P:Nat}{e:E2}{k:Nat}{A2:Option Addr}{c2:Nat}{st2:List E2}{want:Bool}{gk:Nat}(h:SmN w wr N P e k A2 c2 st2 want gk)(hf:Fr Nob wr wi)(hs:(Fz st2&&BQ (e.f.get (k+1)).tr (e.g.get (k+1)).tr)=want)(hm:mu2 st2+2*(e.f.get (k+1)).tr.size<gk):SmN w wi N P e (k+1) A2 c2 st2 want gk:=
 ⟨h.i.fr_ hf,hs,hm,h.box.fr hf (fun e=>e),⟨h.te.1.fr hf,h.te.2.1.fr hf,h.te.2.2⟩,h.ne⟩
theorem SmN.push {w wr wq w4:World}{N P:Nat}{e:E2}{k:Nat}{A2:Option Addr}{c2:Nat}{st2:List E2}{want:Bool}{gk g4 c4:Nat}{o:Obj}(q:E2)(h:SmN w wr N P e k A2 c2 st2 want gk)(hf:Fr Nob wr wq)(hgr:(wq.alloc o).grownBy w4 (Value.slice A2 st2.length c2).ownBlock)
 (hown4:w4.ownsRow N 222 2 (.slice (some ⟨g4,0,none⟩) (st2.length+1) c4) (st2.length+1) (GX st2++e2c q))(hat4:(Value.slice A2 st2.length c2).ownBlock=some g4∨g4=wq.heap.size+1)
 (hN:w.heap.size≤N)(hq:Au N wr q.A q.c q.f∧Au N wr q.B q.d q.g∧q.g.len=q.f.len)(hs:(Fz (st2++[q])&&BQ (e.f.get (k+1)).tr (e.g.get (k+1)).tr)=want)(hm:mu2 (st2++[q])+2*(e.f.get (k+1)).tr.size<gk)(hg:gk≤300000):
 SmN w w4 N P e (k+1) (some ⟨g4,0,none⟩) c4 (st2++[q]) want gk:=by
 have hrow:=h.i.own.lt;have hs4:=hgr.size;rw [World.size_alloc] at hs4;have hsq:=hf.size;have hsi:=h.i.size;have hP:=Blk.lt h.box;have hob:(Value.slice A2 st2.length c2).ownBlock=A2.map (·.block):=by cases A2<;>rfl
 have hkeep:∀b,b<N→b<wr.heap.size→w4.heap[b]?=wr.heap[b]?:=fun b hb hlt=>
  (hgr.block b (by rw[World.size_alloc];omega) (fun e=>by have:=(hrow b e.symm).1;omega)).trans ((Below.heap_alloc wq o b (by omega)).trans (hf.block b hlt (fun e=>e)));have hfr:Fr Nob w w4:=((h.i.fr.call hf (fun _ h _=>h)).alloc o).grown hgr (fun b e hlt=>by have:=(hrow b e).1;omega);refine ⟨⟨hfr,by rw[List.length_append,List.length_singleton,EK];exact hown4,fun p hp=>?_,rfl,by omega,by omega⟩,hs,hm,?_,⟨h.te.1.keep hkeep,h.te.2.1.keep hkeep,h.te.2.2⟩,fun b hb=>?_⟩
 ·rcases List.mem_append.1 hp with hp|hp;·exact⟨(h.i.trees p hp).1.keep hkeep,(h.i.trees p hp).2.1.keep hkeep,(h.i.trees p hp).2.2⟩
  ·simp only[List.mem_singleton] at hp;subst hp;exact ⟨hq.1.keep hkeep,hq.2.1.keep hkeep,hq.2.2⟩
 ·exact((h.box.fr hf (fun e=>e)).alloc o).grown hgr (fun e=>h.ne P (by rw[←hob];exact e) rfl)
 ·simp only[Option.map_some,Option.some.injEq] at hb;subst hb;rcases hat4 with h4|h4;·exact h.ne g4 (by rw[←hob];exact h4)
  ·omega
theorem infoPair:(Tryz.prog.info? 222).map (fun i=>(i.zero,i.size,i.bytes))=some (some (.agg #[.slice none 0 0,.slice none 0 0]),2,48):=by kernel_rfl
theorem prg_Same (w:World)(x y:Nd)(A B:Option Addr)(c d:Nat)(ks js:Fo)(hs:Au w.heap.size w A c ks)(hs2:Au w.heap.size w B d js)(hsz:ks.tr.size≤100000):
 Calls Tryz.prog 179 #[AF x A ks.len c,AF y B js.len d] w fun e w'=>e=.returned (.bool (same1 x ks.tr y js.tr))∧Fr Nob w w':=by
 have HS:=AA hs;have HS2:=AA hs2;obtain ⟨i0,hi0,hz0,hz1,hz2⟩:=info_parts infoPair;clear hs hs2;unfold AF;go_enter Tryz.func179,Tryz.ntmps179;go_wp2_with fail
 have HI:=AA (show SmI w (((((w.alloc (.cells #[.int .i64 x.op,.string x.name,.int .i64 x.cmp,.int .i64 x.val,.int .i64 x.lo,.int .i64 x.hi,.slice A ks.len c] 28)).alloc (.cells #[.int .i64 y.op,.string y.name,.int .i64 y.cmp,.int .i64 y.val,.int .i64 y.lo,.int .i64 y.hi,.slice B js.len d] 28)).alloc (.cells #[.int .i64 x.op,.string x.name,.int .i64 x.cmp,.int .i64 x.val,.int .i64 x.lo,.int .i64 x.hi,.slice A ks.len c] 28)).alloc (.cells #[.int .i64 y.op,.string y.name,.int .i64 y.cmp,.int .i64 y.val,.int .i64 y.lo,.int .i64 y.hi,.slice B js.len d] 28)).alloc (.cells #[.slice (some ⟨w.heap.size+2,0,none⟩) 1 1,.slice (some ⟨w.heap.size+3,0,none⟩) 1 1] 222)) (w.heap.size+4) (some ⟨w.heap.size+4,0,none⟩) 1 [⟨.cons x A c ks .nil,some ⟨w.heap.size+2,0,none⟩,1,.cons y B d js .nil,some ⟨w.heap.size+3,0,none⟩,1⟩] (same1 x ks.tr y js.tr) from
  ⟨(((((Fr.refl _ _).alloc _).alloc _).alloc _).alloc _).alloc _,⟨rfl,.inr ⟨w.heap.size+4,1,_,rfl,Nat.le_refl _,(Blk.new_eq (by simp):Blk _ (w.heap.size+4) 222 _),Nat.le_refl _,by decide,rfl,rfl⟩⟩,
    fun e he=>by
     simp only[List.mem_singleton] at he;subst he;exact ⟨blk_at (((Blk.new_eq (by simp)).alloc _).alloc _) (HS.out.fr ((((((Fr.refl _ _).alloc _).alloc _).alloc _).alloc _).alloc _)) (by omega) (by omega),blk_at ((Blk.new_eq (by simp)).alloc _) (HS2.out.fr ((((((Fr.refl _ _).alloc _).alloc _).alloc _).alloc _).alloc _)) (by omega) (by omega),rfl⟩,
    by simp[Fz,Fo.tr,BQ,same1],by simp,by simp[mu2,Fo.tr,Tr.size];omega⟩);have HM:=AA (show mu2 [⟨.cons x A c ks .nil,some ⟨w.heap.size+2,0,none⟩,1,.cons y B d js .nil,some ⟨w.heap.size+3,0,none⟩,1⟩]=2*(ks.tr.size+1)+1 by simp[mu2,Fo.tr,Tr.size]);clear HS HS2;generalize hwant:same1 x ks.tr y js.tr=want at*;have HWA:=AA hwant;clear hwant;go_loopg [5] (2*(ks.tr.size+1)+1) (fun gk sv wr=>∃(A':Option Addr) (c':Nat) (st:List E2),sv=.slice A' st.length c'∧gk=mu2 st∧Hid (SmI w wr (w.heap.size+4) A' c' st want));case atStart=>exact⟨_,_,_,rfl,HM.out.symm,HI⟩
 case round=>
  clear HI HM;obtain ⟨A',c',st,rfl,hgk,hi⟩:=hrel;rcases List.eq_nil_or_concat st with rfl|⟨r,e,rfl⟩
  ·have HW:=AA (show want=true from hi.out.same.symm);clear hgk;go_wp2_with fail;go_ret;rw [HWA.out,HW.out];exact ⟨rfl,hi.out.fr⟩
  ·rw[List.concat_eq_append] at hi hgk ⊢;obtain ⟨g,rfl,hg1,hg2,hlc,hcm,hcell⟩:=own_get hi.out.own (by simp);try simp only[List.length_append,List.length_singleton] at hlc ⊢
   have hsmall:(r.length:Int)≤300000:=by have h1:=mu2_len (r++[e]);have h2:=hi.out.small;rw[List.length_append,List.length_singleton] at h1;omega
   have hr0:(0:Int)≤r.length:=by omega
   have e0:wr.cell? ⟨g,r.length*2,none⟩=some (.slice e.A e.f.len e.c):=hcell _ _ (by rw[EK,List.getElem?_append_right (by rw[DN];omega),DN,Nat.sub_self];rfl);have e1:wr.cell? ⟨g,r.length*2+1,none⟩=some (.slice e.B e.f.len e.d):=hcell _ _ (by rw[EK,List.getElem?_append_right (by rw[DN];omega),DN,Nat.add_sub_cancel_left];rfl);have HGK:=AA hgk;clear hgk hcell;have HOW:=AA (own_take hi.out.own (by simp) (show r.length≤(r++[e]).length by simp));have HTR:=AA (fun q hq=>hi.out.trees q (List.mem_append_left _ hq));have hte:=hi.out.trees e (by simp);have HTE:=AA hte;have hmxe:e.f.len≤9223372036854775807:=Nat.le_trans hte.1.ok.le (by have:=hte.1.ok.max;unfold maxLen at this;exact this);have HSA:=AA (show (Fz r&&BQ e.f.tr e.g.tr)=want by rw[←allS_snoc];exact hi.out.same);have HMU:=AA (show mu2 r+(2*e.f.tr.size+1)=gk by rw[←mu2_snoc];exact HGK.out.symm);have HSM:=AA (show gk≤300000 by rw[HGK.out];exact hi.out.small);have HFR:=AA hi.out.fr;have hsz4:=hi.out.size;clear hte;obtain ⟨ef,eA,ec,eg,eB,ed⟩:=e;simp only at e0 e1 hmxe;go_wp2_with fail
   have HN:=AA (show SmN w (wr.alloc (.cells #[.slice eA ef.len ec,.slice eB ef.len ed] 222)) (w.heap.size+4) wr.heap.size ⟨ef,eA,ec,eg,eB,ed⟩ 0 (some ⟨g,0,none⟩) c' r want gk from
    ⟨⟨HFR.out.alloc _,World.ownsRow.alloc (by have h:=HOW.out;rwa[show (GX (r++[⟨ef,eA,ec,eg,eB,ed⟩])).take (r.length*2)=GX r by rw[EK,List.take_append_of_le_length (by rw[DN];exact Nat.le_refl _),←DN,List.take_length]] at h) _,
     fun q hq=>⟨(HTR.out q hq).1.keep (fun i _ hi=>Below.heap_alloc _ _ i hi),(HTR.out q hq).2.1.keep (fun i _ hi=>Below.heap_alloc _ _ i hi),(HTR.out q hq).2.2⟩,rfl,by simp;omega,by have h1:=HMU.out;have h2:=HSM.out;omega⟩,
      by rw[Fo.get_zero,Fo.get_zero];exact HSA.out,by rw[Fo.get_zero];have h1:=HMU.out;simp only at h1 ⊢;omega,Blk.new _ _ _,
      ⟨HTE.out.1.keep (fun i _ hi=>Below.heap_alloc _ _ i hi),HTE.out.2.1.keep (fun i _ hi=>Below.heap_alloc _ _ i hi),HTE.out.2.2⟩,fun q hq=>by simp at hq;omega⟩);clear HOW HTR HTE HSA HMU HFR HGK hi e0 e1;obtain ⟨wo,rfl⟩:∃wo:World,wo=wr:=⟨_,rfl⟩;go_loopw [5,33] (fun sv iv wi=>∃(k:Nat) (A2:Option Addr) (c2:Nat) (st2:List E2),k≤ef.len∧iv=.int .i64 k∧sv=.slice A2 st2.length c2∧Hid (SmN w wi (w.heap.size+4) wo.heap.size ⟨ef,eA,ec,eg,eB,ed⟩ k A2 c2 st2 want gk)) (fun _ iv _=>ef.len-(intOf iv).toNat);case atStart=>exact⟨0,_,_,r,Nat.zero_le _,rfl,rfl,HN⟩
   case round=>
    clear HN;obtain ⟨k,A2,c2,st2,hk,rfl,rfl,hn⟩:=hrel;have p0:wr.cell? ⟨wo.heap.size,0,none⟩=some (.slice eA ef.len ec):=hn.out.box.cell 0;have p1:wr.cell? ⟨wo.heap.size,1,none⟩=some (.slice eB ef.len ed):=hn.out.box.cell 1;have hbl:=Blk.lt hn.out.box;have hst:(st2.length:Int)≤300000:=by have h1:=mu2_len st2;have h2:=hn.out.i.small;omega
    by_cases hlt:k<ef.len
    ·have hI:(k:Int)<ef.len:=by omega
     have hI3:0≤(k:Int):=by omega
     obtain⟨b,off,y1,B1,d1,ls,rs,K⟩:=hn.out.te.1.kid hlt;obtain ⟨b',off',y2,B2,d2,ls',rs',K'⟩:=hn.out.te.2.1.kid (k:=k) (by rw[hn.out.te.2.2];exact hlt);obtain ⟨d0,d1c,d2c,d3,d4,d5,d6⟩:=K.nd;obtain ⟨t0,t1,t2,t3,t4,t5,t6⟩:=K'.nd;have ha:eA=some ⟨b,off,none⟩:=K.slice;have hb2:eB=some ⟨b',off',none⟩:=K'.slice;subst ha hb2;have hlt2:=K.lt;have hlt3:=K'.lt;have hbN:=K.bN;have hbN':=K'.bN;have hg:=K.get;have hg':=K'.get;have HSL:=AA K.sl;have HSL':=AA K'.sl
     have HE:=AA (show (Fz st2&&(same1 y1 ls.tr y2 ls'.tr&&BQ (ef.get (k+1)).tr (eg.get (k+1)).tr))=want by
      have h:=hn.out.same;simp only at h hg hg';rw [hg,hg',show BQ (Fo.cons y1 B1 d1 ls rs).tr (Fo.cons y2 B2 d2 ls' rs').tr=(same1 y1 ls.tr y2 ls'.tr&&BQ rs.tr rs'.tr) by simp only[Fo.tr,BQ,same1]] at h;rw [Fo.get_succ hg,Fo.get_succ hg'];exact h)
     have HMU:=AA (show mu2 st2+(2*ls.tr.size+1)+2*(ef.get (k+1)).tr.size<gk by
      have h:=hn.out.mu;simp only at h hg;rw [hg] at h;rw [Fo.get_succ hg];simp only[Fo.tr,Tr.size] at h;omega);clear hg hg' K K';by_cases heq:y1=y2∧ls.len=ls'.len
     ·obtain⟨rfl,hll⟩:=heq;have HLL:=AA hll;rw [←hll] at t6;clear hll;have s1:((ls.len:Int)==ls.len)=true:=by simp
      go_wp2_with fail;go_quiet (fail);go_wp2_with fail;go_quiet (fail);go_wp2_with fail
      ·rename_i nq1 hpos;have HFQ:=AA (fun n=>(Fr.refl Nob wr).drewN n);have HP:=AA hn;clear hn
       go_region_law
        (first
          |(refine step_append_lies _ (by rfl) _ _ _ (by rfl) (w.heap.size+4) 222 i0 _ 2 48 Tryz.underlying223 hi0 hz0 hz1 hz2 (by rfl) (by decide) (.slice A2 st2.length c2) st2.length (GX st2) (by rfl) (World.ownsRow.alloc (Ag HP.out.out.i.own ((HFQ.out _).drew) (fun _ _ _ _ e=>e)) _) ⟨wr.heap.size,0,none⟩ 1 1 [.slice B1 ls.len d1,.slice B2 ls.len d2] (by rfl) (by rfl) (World.news_of_block (heap_alloc_new _ _)) (by intro u hu;simp at hu;rcases hu with rfl|rfl<;>rfl) (by decide) (by unfold maxLen;omega) (by omega) (by simp;omega) (wr.heap.size+1) (by simp) ?_;intro g4 c4 w4 hown4 hgr hat4 hlt4))
       all_goals
        have HI2:=AA (SmN.push ⟨ls,B1,d1,ls',B2,d2⟩ HP.out.out (by first|exact HFQ.out _|exact(HFQ.out _).drew) hgr hown4 (hat4.imp_right fun e=>by rw[e];simp) (by omega)
         ⟨HSL.out,HSL'.out,HLL.out.symm⟩
         (by
           have h:=HE.out
           have hy:same1 y1 ls.tr y1 ls'.tr=BQ ls.tr ls'.tr:=by
            have hyy:ndEq y1 y1=true:=(DS _ _).2 rfl;have hlen:ls.tr.len=ls'.tr.len:=by rw[Fo.tr_len,Fo.tr_len];exact HLL.out
            simp[same1,hyy,hlen]
           rw[hy,←Bool.and_assoc,←allS_snoc st2 ⟨ls,B1,d1,ls',B2,d2⟩] at h;exact h)
         (by rw[mu2_snoc];exact HMU.out) HSM.out);clear hown4 hgr hat4;go_wp2_with fail;go_roundw;case rel=>exact⟨k+1,_,_,st2++[⟨ls,B1,d1,ls',B2,d2⟩],by omega,by go_num,by simp,HI2⟩
        case measure=>simp[intOf];omega
      ·have HN2:=AA (fun W (hf:Fr Nob wr W)=>hn.out.next hf (by
        have h:=HE.out
        have h1:same1 y1 ls.tr y1 ls'.tr=true:=by
         have e1:ls=.nil:=by cases ls with
          |nil=>rfl
          |cons=>simp[Fo.len] at*
         have e2:ls'=.nil:=by
          have:=HLL.out;rw [e1] at this
          cases ls' with
          |nil=>rfl
          |cons=>simp[Fo.len] at this
         rw[e1,e2,EH];exact⟨rfl,rfl⟩
        rw[h1,Bool.true_and] at h;exact h) (by show mu2 st2+2*(ef.get (k+1)).tr.size<gk;have:=HMU.out;omega));go_roundw;case rel=>exact⟨k+1,A2,c2,st2,by omega,by go_num,rfl,AA (HN2.out _ ((Fr.refl _ _).drewN _))⟩
       case measure=>simp[intOf];omega
     ·have HWF:=AA (show want=false by
       have hs1:same1 y1 ls.tr y2 ls'.tr=false:=by
        rw[←Bool.not_eq_true,EH];rintro ⟨h1,h2⟩;exact heq ⟨h1,by rw[←Fo.tr_len,←Fo.tr_len,h2]⟩
       have h:=HE.out;rw [hs1] at h;simpa using h.symm);have HFRS:=AA hn.out.i.fr;have HQ:=AA heq;clear HE HMU HSL HSL' heq;by_cases h0:y1.op=y2.op
      ·rw[←h0] at t0;by_cases h1:y1.name=y2.name
       ·rw[←h1] at t1;by_cases h2:y1.cmp=y2.cmp
        ·rw[←h2] at t2;by_cases h3:y1.val=y2.val
         ·rw[←h3] at t3;by_cases h4:y1.lo=y2.lo
          ·rw[←h4] at t4;by_cases h5:y1.hi=y2.hi
           ·rw[←h5] at t5
            have hz:((ls.len:Int)==ls'.len)=false:=by
             have h:¬ls.len=ls'.len:=fun h=>HQ.out ⟨(DS _ _).1 (by simp[ndEq,h0,h1,h2,h3,h4,h5]),h⟩;exact beq_eq_false_iff_ne.2 (by omega)
            clear h0 h1 h2 h3 h4 h5;go_wp2_with fail;go_quiet (fail);go_wp2_with fail;go_quiet (fail);go_wp2_with fail;go_ret;rw [HWA.out,HWF.out];exact ⟨rfl,by first|exact HFRS.out.drewN _|exact HFRS.out.drewN _|>.drewN _|exact HFRS.out.drew⟩
           ·have hz:(y1.hi==y2.hi)=false:=by simpa using h5
            clear h0 h1 h2 h3 h4 h5;go_wp2_with fail;go_quiet (fail);go_wp2_with fail;go_quiet (fail);go_wp2_with fail;go_ret;rw [HWA.out,HWF.out];exact ⟨rfl,by first|exact HFRS.out.drewN _|exact HFRS.out.drewN _|>.drewN _|exact HFRS.out.drew⟩
          ·have hz:(y1.lo==y2.lo)=false:=by simpa using h4
           clear h0 h1 h2 h3 h4;go_wp2_with fail;go_quiet (fail);go_wp2_with fail;go_quiet (fail);go_wp2_with fail;go_ret;rw [HWA.out,HWF.out];exact ⟨rfl,by first|exact HFRS.out.drewN _|exact HFRS.out.drewN _|>.drewN _|exact HFRS.out.drew⟩
         ·have hz:(y1.val==y2.val)=false:=by simpa using h3
          clear h0 h1 h2 h3;go_wp2_with fail;go_quiet (fail);go_wp2_with fail;go_quiet (fail);go_wp2_with fail;go_ret;rw [HWA.out,HWF.out];exact ⟨rfl,by first|exact HFRS.out.drewN _|exact HFRS.out.drewN _|>.drewN _|exact HFRS.out.drew⟩
        ·have hz:(y1.cmp==y2.cmp)=false:=by simpa using h2
         clear h0 h1 h2;go_wp2_with fail;go_quiet (fail);go_wp2_with fail;go_quiet (fail);go_wp2_with fail;go_ret;rw [HWA.out,HWF.out];exact ⟨rfl,by first|exact HFRS.out.drewN _|exact HFRS.out.drewN _|>.drewN _|exact HFRS.out.drew⟩
       ·have hz:(y1.name.toList==y2.name.toList)=false:=by
         have h:¬y1.name.toList=y2.name.toList:=fun h=>h1 (GK h);simpa using h
        clear h0 h1;go_wp2_with fail;go_quiet (fail);go_wp2_with fail;go_quiet (fail);go_wp2_with fail;go_ret;rw [HWA.out,HWF.out];exact ⟨rfl,by first|exact HFRS.out.drewN _|exact HFRS.out.drewN _|>.drewN _|exact HFRS.out.drew⟩
      ·have hz:(y1.op !=y2.op)=true:=by simpa using h0
       clear h0;go_wp2_with fail;go_quiet (fail);go_wp2_with fail;go_quiet (fail);go_wp2_with fail;go_ret;rw [HWA.out,HWF.out];exact ⟨rfl,by first|exact HFRS.out.drewN _|exact HFRS.out.drewN _|>.drewN _|exact HFRS.out.drew⟩
    ·have HR:=AA (show SmI w wr (w.heap.size+4) A2 c2 st2 want by
      have h:=hn.out.same;simp only at h;rw [Fo.get_end (by omega),Fo.get_end (by have h3:=hn.out.te.2.2;simp only at h3;omega)] at h;have h2:Fz st2=want:=by simpa[Fo.tr,BQ] using h
      exact⟨hn.out.i.fr,hn.out.i.own,hn.out.i.trees,h2,hn.out.i.size,hn.out.i.small⟩);have HG:=AA (show mu2 st2<gk by have:=hn.out.mu;omega);go_wp2_with fail;go_roundg (mu2 st2);case rel=>exact⟨A2,c2,st2,rfl,rfl,HR⟩
     case measure=>exact HG.out
end Go.Proofs.YtoegdmpmagbaiaaGreatDoor
