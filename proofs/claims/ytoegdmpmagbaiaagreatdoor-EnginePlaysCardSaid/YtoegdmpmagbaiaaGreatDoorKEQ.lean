/- The document's new engine (ref23.New), walked; a formula as the model has it. -/
import Derived.Test.YtoegdmpmagbaiaaGreatDoorKEN
import Derived.Test.YtoegdmpmagbaiaaGreatDoorKY
import Derived.Test.YtoegdmpmagbaiaaGreatDoorKE
import Derived.StillTailTactics
import Derived.Test.YtoegdmpmagbaiaaGreatDoorKEF
import Derived.Deep.RegionHeld3
set_option maxHeartbeats 16000000
set_option maxRecDepth 100000
namespace Go.Proofs.YtoegdmpmagbaiaaGreatDoor
open Go.RowKit Go.Sort Go.Lib Go.Shelf
theorem l23_plain:∀(m:Nat) (N:Nat) (w:World) (x:Nd) (B:Option Addr) (d:Nat) (ks:Fo),ks.tr.size≤m→ks.tr.size≤100000→Au N w B d ks→N≤w.heap.size→
 Calls Tryz.prog 13 #[AF x B ks.len d] w fun e w'=>∃A c ks',e=.returned (AF x A ks'.len c)∧ks'.tr=ks.tr∧AJ (fun b=>w.heap.size≤b∧b<w'.heap.size) w' A c ks'∧Fr Nob w w':=by
 intro m
 induction m using Nat.strongRecOn with
 |_ m ih=>
  intro N w x B d ks hm hb hs hN;obtain ⟨i0,hi0,hz0,hz1,hz2⟩:=info_parts infoRF;have IH:=AA ih;have HS:=AA hs;have hlen:=ks.len_size;clear ih hs;unfold AF at*;go_enter Tryz.func13,Tryz.ntmps13;go_wp2_with fail
  have HI:=AA (show PlI w (((w.alloc (.cells #[.int .i64 x.op,.string x.name,.int .i64 x.cmp,.int .i64 x.val,.int .i64 x.lo,.int .i64 x.hi,.slice B ks.len d] 28)).alloc (.cells #[.int .i64 0,.string default,.int .i64 0,.int .i64 0,.int .i64 0,.int .i64 0,.slice none 0 0] 39)).alloc (.cells #[.int .i64 x.op,.string x.name,.int .i64 x.cmp,.int .i64 x.val,.int .i64 x.lo,.int .i64 x.hi,.slice none 0 0] 39)) x B d ks 0 none 0 .nil from
   ⟨(((Fr.refl _ _).alloc _).alloc _).alloc _,((Blk.new _ _ _).alloc _).alloc _,(Blk.new_eq (by simp)).alloc _,Blk.new_eq (by simp),⟨rfl,.inl ⟨rfl,rfl⟩⟩,rfl,trivial,by rw[Fo.get_zero];rfl⟩);go_loopw [4] (fun i wr=>∃(k:Nat) (A:Option Addr) (c:Nat) (ks1:Fo),k≤ks.len∧i=.int .i64 k∧Hid (PlI w wr x B d ks k A c ks1)) (fun i _=>ks.len-(intOf i).toNat);case atStart=>exact⟨0,none,0,.nil,Nat.zero_le _,rfl,HI⟩
  case round=>
   clear HI;obtain ⟨k,A,c,ks1,hk,rfl,hi⟩:=hrel;have e1:w.heap.size+1+1=w.heap.size+2:=rfl;have hbl:=Blk.lt hi.out.xbox;have e6:wr.cell? ⟨w.heap.size,6,none⟩=some (.slice B ks.len d):=hi.out.fbox.cell 6;by_cases hlt:k<ks.len
   ·have hI:(k:Int)<ks.len:=by omega
    have hI3:0≤(k:Int):=by omega
    obtain⟨b,off,y,B2,d2,js,rs,K⟩:=(HS.out.fr hi.out.fr).kid hlt;obtain ⟨d0,d1,d2',d3,d4,d5,d6⟩:=K.nd;obtain rfl:=K.slice;have hlt2:=K.lt;have hbN:=K.bN;have hsz:=K.size;have hg:=K.get;have hg2:=Fo.get_succ hg;have HC:=AA (fun W (h:Fr Nob wr W)=>IH.out js.tr.size (by omega) N W y B2 d2 js (Nat.le_refl _) (by omega) (K.sl.fr h) (by have:=h.size;have:=hi.out.fr.size;omega));have HG:=AA (show (ks.get k).tr=.cons y js.tr (ks.get (k+1)).tr by rw[hg,hg2];rfl);have x6:wr.cell? ⟨w.heap.size+2,6,none⟩=some (.slice A k c):=hi.out.xbox.cell 6;have xf:=hi.out.xbox.frozen 6;have HRB:=AA (fun q (hq:(Value.slice A k c).ownBlock=some q)=>(hi.out.own.lt q hq).1);have HOW:=AA hi.out.own;have HXB:=AA hi.out.xbox;have HDR:=AA (show Fr Nob wr wr.drew from(Fr.refl _ _).drew);have hbw:=hi.out.fr.size;clear hg hg2 K;go_wp2_with fail
    go_region_law
     (first
       |(rw [if_pos (by rfl)];go_simp;(go_at_call 13);refine(HC.out _ (Fr.drew (Fr.refl _ _))).mono ?_;rintro e w2 ⟨A3,c3,js',rfl,htr,hsl,hf2⟩;have HTR:=AA htr;have HSL:=AA hsl;have HF2:=AA hf2;have hw2:wr.heap.size≤w2.heap.size:=(HDR.out.call hf2 (fun _ h _=>h)).size;have hbl2:w.heap.size+2<w2.heap.size:=by omega
         have x6':w2.cell? ⟨w.heap.size+2,6,none⟩=some (.slice A k c):=(HDR.out.call hf2 (fun _ h _=>h)).cell x6 (fun e=>e);clear htr hsl;go_simp)
       |(refine step_append_lies (w2.alloc (.cells #[.int .i64 y.op,.string y.name,.int .i64 y.cmp,.int .i64 y.val,.int .i64 y.lo,.int .i64 y.hi,.slice A3 js'.len c3] 39)) (by rfl) _ _ _ (by rfl) (w.heap.size+3) 39 i0 _ 7 80 Tryz.underlying37 hi0 hz0 hz1 hz2 (by rfl) (by decide) (.slice A k c) k ks1.tops (by rfl) (World.ownsRow.alloc (Ag HOW.out (HDR.out.call HF2.out (fun _ h _=>h)) (fun _ _ _ _ e=>e)) _) ⟨w2.heap.size,0,none⟩ 1 1 (fcs y A3 js'.len c3) (by rfl) (by rfl) (World.news_of_block (heap_alloc_new w2 _)) (nd_one _ _ _ _) (by decide) (by unfold maxLen;omega) (by omega) (by simp at hw2 ⊢;omega) (w2.heap.size+1) (by simp) ?_;intro g4 c4 w4 hown4 hgr hat4 hlt4;have hfar:∀q,q<w.heap.size+3→some q≠(Value.slice A k c).ownBlock:=fun q hq e=>by have:=HRB.out q e.symm;omega
         have hx4b:=((((HXB.out.fr HDR.out (fun e=>e)).fr HF2.out (fun e=>e)).alloc (.cells #[.int .i64 y.op,.string y.name,.int .i64 y.cmp,.int .i64 y.val,.int .i64 y.lo,.int .i64 y.hi,.slice A3 js'.len c3] 39)).grown hgr (fun e=>hfar (w.heap.size+2) (by omega) e.symm));have hx4:=hx4b.frozen 6;have hx4c:w4.cell? ⟨w.heap.size+2,6,none⟩=some (.slice A k c):=hx4b.cell 6;have HO4:=AA hown4;have HG4:=AA hgr;have HA4:=AA hat4;clear hown4 hat4))
    all_goals
     have HI2:=AA (PlI.step hi.out HG.out (HDR.out.call HF2.out (fun _ h _=>h)) HTR.out HSL.out HG4.out HO4.out HA4.out);clear hi HSL HF2 HG4 HO4 HA4 hgr;go_wp2_with fail;go_roundw;case rel=>exact⟨k+1,_,_,_,by omega,by go_num,HI2⟩
     case measure=>simp[intOf];omega
   ·have x0:wr.cell? ⟨w.heap.size+2,0,none⟩=some (.int .i64 x.op):=hi.out.xbox.cell 0;have x1:wr.cell? ⟨w.heap.size+2,1,none⟩=some (.string x.name):=hi.out.xbox.cell 1;have x2:wr.cell? ⟨w.heap.size+2,2,none⟩=some (.int .i64 x.cmp):=hi.out.xbox.cell 2;have x3:wr.cell? ⟨w.heap.size+2,3,none⟩=some (.int .i64 x.val):=hi.out.xbox.cell 3;have x4:wr.cell? ⟨w.heap.size+2,4,none⟩=some (.int .i64 x.lo):=hi.out.xbox.cell 4;have x5:wr.cell? ⟨w.heap.size+2,5,none⟩=some (.int .i64 x.hi):=hi.out.xbox.cell 5;have x6:wr.cell? ⟨w.heap.size+2,6,none⟩=some (.slice A k c):=hi.out.xbox.cell 6;have rc:=hi.out.rbox.cell;have rf:=hi.out.rbox.frozen;obtain ⟨htr,hsl⟩:=hi.out.done (Fo.get_end (by omega));have HTR:=AA htr;have HSL:=AA hsl;have HLN:=AA hi.out.len;have HB7:=AA (Br hi.out.rbox (.int .i64 x.op) (.string x.name) (.int .i64 x.cmp) (.int .i64 x.val) (.int .i64 x.lo) (.int .i64 x.hi) (.slice A k c));have HF7:=AA (CD wr (w.heap.size+1) (.int .i64 x.op) (.string x.name) (.int .i64 x.cmp) (.int .i64 x.val) (.int .i64 x.lo) (.int .i64 x.hi) (.slice A k c));have HFR:=AA hi.out.fr;clear htr hsl hi;go_wp2_with fail;change bodyPost _ _ _ _ _ (set7 wr (w.heap.size+1) (.int .i64 x.op) (.string x.name) (.int .i64 x.cmp) (.int .i64 x.val) (.int .i64 x.lo) (.int .i64 x.hi) (.slice A k c));generalize set7 wr (w.heap.size+1) (.int .i64 x.op) (.string x.name) (.int .i64 x.cmp) (.int .i64 x.val) (.int .i64 x.lo) (.int .i64 x.hi) (.slice A k c)=W7 at*;have E0:=HB7.out.cell 0;have E1:=HB7.out.cell 1;have E2:=HB7.out.cell 2;have E3:=HB7.out.cell 3;have E4:=HB7.out.cell 4;have E5:=HB7.out.cell 5;have E6:=HB7.out.cell 6;have HF8:=HF7.out;clear rc rf x0 x1 x2 x3 x4 x5 x6 e6;refine bodyPost_ret (v:=.agg #[.int .i64 x.op,.string x.name,.int .i64 x.cmp,.int .i64 x.val,.int .i64 x.lo,.int .i64 x.hi,.slice A k c]) (by simp[results,Tryz.results13,go_sem,E0,E1,E2,E3,E4,E5,E6]) rfl ⟨A,c,ks1,by rw[HLN.out],HTR.out,?_,HFR.out.call HF8 (fun i e hlt=>by have:i=w.heap.size+1:=e;omega)⟩;exact (HSL.out.keep (fun b hb hlt=>HF8.block b hlt (fun e=>by have:b=w.heap.size+1:=e;have:=hb.1;omega))).mono (fun b hb=>⟨by have:=hb.1;omega,by have:=hb.2;have:=HF8.size;omega⟩)
def Hd (L:Nat→Prop)(w:World)(x:Nd)(t:Tr)(far:Int)(er:Int)(e:Ending)(w':World):Prop:=
 ∃vs:Array Value,e=.returned (.tuple #[.agg vs,.int .i64 er])∧(er≠0→vs=#[.int .i64 0,.string ⟨#[]⟩,.int .i64 0,.int .i64 0,.int .i64 0,.int .i64 0,.slice none 0 0,.int .i64 0,.string ⟨#[]⟩,.int .i64 0,.int .i64 0,.int .i64 0,.int .i64 0,.slice none 0 0,.int .i64 0,.slice none 0 0,.slice none 0 0,.int .i64 0,.int .i64 0])∧(er=0→∃r,vs=eV r x far EG.new∧Bf (Dp L w w') w' r x t EG.new)∧Fr Nob w w'
theorem Bf.new {L:Nat→Prop}{w w1 W:World}{x:Nd}{A:Option Addr}{c:Nat}{ks:Fo}(hs:AJ L w A c ks){y:Nd}{GA:Option Addr}{gc:Nat}{ms:Fo}(h1:Fr Nob w w1)(hf:Fr Nob w W)
 (he:(y,ms.tr)=madeS x ks.tr)(hm:AJ (fun b=>L b∨w1.heap.size≤b) W GA gc ms):Bf (Dp L w W) W ⟨A,c,ks,y,GA,gc,ms,none,0,[],none,0⟩ x ks.tr EG.new:=by
 have hz:=h1.size;refine ⟨rfl,(hs.fr hf).mono fun k hk=>.inl hk,he,hm.bnd.mono fun k hk=>?_,⟨Sl.none_ _ _,(fun p hp=>by cases hp)⟩,(fun b o e _=>by cases e),(fun p hp=>by cases hp),rfl,Sl.none_ _ _,(fun b o e _=>by cases e)⟩;rcases hk.1 with h|h;·exact .inl h
 ·exact .inr ⟨by omega,hk.2⟩
theorem Gs {L:Nat→Prop}{W W':World}{g N:Nat}{A1:Option Addr}{c1:Nat}{k1:Fo}(hs:AJ (fun b=>L b∨N≤b) W A1 c1 k1)(hL:∀k,L k→k<g)(hN:g<N)(hf:Fr (Ah g) W W'):AJ (fun b=>L b∨N≤b) W' A1 c1 k1:=
 hs.keep fun k hk hlt=>hf.block k hlt fun(e:k=g)=>by
  rcases hk with h|h;·have:=hL k h;omega
  ·omega
theorem r23_New (w:World)(L:Nat→Prop)(hL:∀k,L k→k<w.heap.size)(x:Nd)(A:Option Addr)(c:Nat)(ks:Fo)(hs:AJ L w A c ks)(hsz:ks.tr.size≤20000)(hx:NdOk x)(hk:ks.tr.ok)(hnm:∀y∈(Tr.cons x ks.tr .nil).nodes 1,y.1.name.size≤9223372036854775807):
 Calls Tryz.prog 12 #[AF x A ks.len c] w (Hd L w x ks.tr (far1 (x,ks.tr)) (errH x ks.tr)):=by
 have HRO:=AA (fun W (hf:Fr Nob w W)=>r11_Of W x A c ks ((hs.fr hf).whole) (by omega) hx hk hnm);have HOF:=AA (fun (hg:firstW ((Tr.cons x ks.tr .nil).nodes 1)=0) W (hf:Fr Nob w W)=>r_OfP W L x A c ks (hs.fr hf) (fun k hk=>Nat.lt_of_lt_of_le (hL k hk) hf.size) hsz hnm hg)
 have HNW:=AA (fun W w1 (h1:Fr Nob w w1) (hf:Fr Nob w W) o1 n1 m1 v1 l1 i1 A1 c1 (k1:Fo) (he:((⟨o1,n1,m1,v1,l1,i1⟩:Nd),k1.tr)=madeS x ks.tr) hm=>(show ∃r,(#[.int .i64 x.op,.string x.name,.int .i64 x.cmp,.int .i64 x.val,.int .i64 x.lo,.int .i64 x.hi,.slice A ks.len c,.int .i64 o1,.string n1,.int .i64 m1,.int .i64 v1,.int .i64 l1,.int .i64 i1,.slice A1 k1.len c1,.int .i64 (far1 (x,ks.tr)),.slice none 0 0,.slice none 0 0,.int .i64 0,.int .i64 (-1)]:Array Value)=eV r x (far1 (x,ks.tr)) EG.new∧Bf (Dp L w W) W r x ks.tr EG.new from
  ⟨⟨A,c,ks,⟨o1,n1,m1,v1,l1,i1⟩,A1,c1,k1,none,0,[],none,0⟩,rfl,Bf.new hs h1 hf he hm⟩));unfold HzOfE at HRO;generalize errH x ks.tr=er at*;obtain ⟨fn,hfn⟩:∃fn,ks.len=fn:=⟨_,rfl⟩;rw [hfn] at HRO HOF HNW ⊢;have HLOW:=AA hL;clear hs hsz hx hk hnm hfn hL;generalize hfar:far1 (x,ks.tr)=far at*;clear hfar;generalize firstW ((Tr.cons x ks.tr .nil).nodes 1)=fe at*;unfold Hd;generalize ks.tr=t at*;obtain ⟨op,nm,cm,va,lo,hi⟩:=x;unfold AF at*;dsimp only at*;go_enter Tryz.func12,Tryz.ntmps12;go_upto_region 1 with fail;obtain ⟨W0,hW0⟩:∃W0,(w.alloc (.cells #[.int .i64 op,.string nm,.int .i64 cm,.int .i64 va,.int .i64 lo,.int .i64 hi,.slice A fn c] 39)).alloc (.cells #[.int .i64 0,.string ⟨#[]⟩,.int .i64 0,.int .i64 0,.int .i64 0,.int .i64 0,.slice none 0 0,.int .i64 0,.string ⟨#[]⟩,.int .i64 0,.int .i64 0,.int .i64 0,.int .i64 0,.slice none 0 0,.int .i64 0,.slice none 0 0,.slice none 0 0,.int .i64 0,.int .i64 0] 43)=W0:=⟨_,rfl⟩;have HB0:=AA (show Blk W0 w.heap.size 39 #[.int .i64 op,.string nm,.int .i64 cm,.int .i64 va,.int .i64 lo,.int .i64 hi,.slice A fn c] by rw[←hW0];exact(Blk.new _ _ _).alloc _);have HZ0:=AA (show Blk W0 (w.heap.size+1) 43 #[.int .i64 0,.string ⟨#[]⟩,.int .i64 0,.int .i64 0,.int .i64 0,.int .i64 0,.slice none 0 0,.int .i64 0,.string ⟨#[]⟩,.int .i64 0,.int .i64 0,.int .i64 0,.int .i64 0,.slice none 0 0,.int .i64 0,.slice none 0 0,.slice none 0 0,.int .i64 0,.int .i64 0] by rw[←hW0];exact Blk.new_eq (by simp));have HF0:=AA (show Fr Nob w W0 by rw[←hW0];exact((Fr.refl _ _).alloc _).alloc _);rw [hW0];clear hW0;have bc:=HB0.out.cell;have bl:=HB0.out.lt
 go_upto_region 2 with(first
  |((go_at_call 39);(with_reducible refine(HRO.out _ HF0.out).mono ?_);rintro e w1 ⟨h1,rfl,hz,hnz,hf1⟩;have HH:=AA hz;have HHN:=AA hnz;have HF1:=AA (HF0.out.call hf1 (fun _ h _=>h));have HB1:=AA (HB0.out.fr hf1 (fun e=>e));have HZ1:=AA (HZ0.out.fr hf1 (fun e=>e));clear hz hnz hf1)
  |fail);clear bc bl HRO HB0 HZ0 HF0;by_cases he:er=0
 case neg=>
  have heb:(er !=0)=true:=by simpa using he
  have HE:=AA he;clear HOF HNW HH HHN he
  go_wp2_with (first
   |(refine AB rfl rfl (by rfl) (by rfl) (by exact Ae) (by rfl) (by exact HZ1.out) (by rfl) ?_;intro W7 hb7 hf7;have HB7:=AA hb7;have HF7:=AA hf7;clear hb7 hf7)
   |fail);refine bodyPost_ret (Er rfl (by rfl) B6 (by exact Ae) HB7.out) rfl ?_;exact ⟨_,rfl,fun _=>rfl,fun e=>absurd e HE.out,HF1.out.call HF7.out (fun k (hk:k=w.heap.size+1) hlt=>by omega)⟩
 subst he;obtain ⟨hg,hfr,-,-⟩:=HH.out rfl;subst hfr;replace HOF:=AA (HOF.out hg);clear hg HH HHN;go_upto_region 4 with fail;have HFD:=AA (show Fr Nob w w1.drew from HF1.out.drew);have HZD:=AA (show Blk w1.drew (w.heap.size+1) 43 _ from HZ1.out.drew);have hb1:=HB1.out.drew;have c0:=hb1.cell 0;have c1_:=hb1.cell 1;have c2:=hb1.cell 2;have c3:=hb1.cell 3;have c4:=hb1.cell 4;have c5:=hb1.cell 5;have c6:=hb1.cell 6;have cl:=hb1.lt;have hwz:=HZ1.out.lt;clear hb1;go_cut [3] (fun ev W=>ev=.int .i64 0∧∃o1 n1 m1 v1 l1 i1 A1 c1,∃k1:Fo,Blk W (w.heap.size+1) 43 #[.int .i64 op,.string nm,.int .i64 cm,.int .i64 va,.int .i64 lo,.int .i64 hi,.slice A fn c,.int .i64 o1,.string n1,.int .i64 m1,.int .i64 v1,.int .i64 l1,.int .i64 i1,.slice A1 k1.len c1,.int .i64 h1,.slice none 0 0,.slice none 0 0,.int .i64 0,.int .i64 (-1)]∧((⟨o1,n1,m1,v1,l1,i1⟩:Nd),k1.tr)=madeS ⟨op,nm,cm,va,lo,hi⟩ t∧AJ (fun b=>L b∨w1.drew.heap.size≤b) W A1 c1 k1∧Fr Nob w W)
 case first=>
  rename_i J9 K9 hJ9 hK9;refine wp_region_any (by kernel_rfl) ?_;change wpAny _ _ _ _ _ _ _ (World.drew _);refine wpAny_take (i:=3) (v:=?_) rfl (by kernel_rfl) (by kernel_rfl) (by kernel_rfl) (fun _ _ _ h=>h) (Or.inl ⟨by rfl,?_⟩) ?_;rotate_left
  ·(intro w;go_simp);all_goals with_reducible rfl
  rotate_left;refine wpAny_ready (rs:=[0,1]) (by kernel_rfl) (by simp) ?_;refine AllReady.cons rfl (fun K hK=>?_) (AllReady.cons rfl (fun K hK=>?_) AllReady.nil)
  ·skip;rw [if_pos (by rfl)];go_simp;refine hK _ _ ?_;clear hK K;refine wpAny_ready (rs:=[1]) (by kernel_rfl) (by simp) ?_;refine AllReady.cons rfl (fun K hK=>?_) AllReady.nil;rw [if_pos (by rfl)];go_simp;refine hK _ _ ?_;clear hK K;refine wpAny_ready (rs:=[2]) (by kernel_rfl) (by simp) ?_;refine AllReady.cons rfl (fun K hK=>?_) AllReady.nil;rw [if_pos (by rfl)];go_simp;(go_at_call 40);(with_reducible refine(HOF.out _ HFD.out).mono ?_);rintro e w3 ⟨o1,n1,m1,v1,l1,i1,A1,c1,k1,rfl,he3,hs3,hf3⟩;have HE3:=AA he3;have HS3:=AA hs3;have HF3:=AA (HFD.out.call hf3 (fun _ h _=>h));have HZ3:=AA (HZD.out.fr hf3 (fun e=>e));have d0:=hf3.cell c0 (fun e=>e);have d1:=hf3.cell c1_ (fun e=>e);have d2:=hf3.cell c2 (fun e=>e);have d3:=hf3.cell c3 (fun e=>e);have d4:=hf3.cell c4 (fun e=>e);have d5:=hf3.cell c5 (fun e=>e);have d6:=hf3.cell c6 (fun e=>e);have dl:=Nat.lt_of_lt_of_le cl hf3.size;clear he3 hs3 hf3;go_simp;refine hK _ _ ?_;clear hK K;refine wpAny_ready (rs:=[4]) (by kernel_rfl) (by simp) ?_;refine AllReady.cons rfl (fun K hK=>?_) AllReady.nil;rw [if_pos (by rfl)];go_simp;refine hK _ _ ?_;clear hK K;refine wpAny_ready (rs:=[5]) (by kernel_rfl) (by simp) ?_;refine AllReady.cons rfl (fun K hK=>?_) AllReady.nil;rw [if_pos (by rfl)];refine BI rfl (by rfl) (by rfl) (by exact Ae) (by rfl) HZ3.out (by rfl) ?_;intro W7 hb7 hf7;refine hK _ _ ?_;clear hK K;refine wpAny_ready (rs:=[6]) (by kernel_rfl) (by simp) ?_;refine AllReady.cons rfl (fun K hK=>?_) AllReady.nil;go_simp;refine hK _ _ ?_;clear hK K;refine wpAny_done (by kernel_rfl) ?_ _;refine hK9 _ _ (hJ9 _ _ ?_);(repeat apply Exists.intro);refine ⟨?_,rfl⟩;exact ⟨rfl,⟨o1,n1,m1,v1,l1,i1,A1,c1,k1,hb7,HE3.out,Gs HS3.out (fun k hk=>Nat.lt_succ_of_lt (HLOW.out k hk)) hwz hf7,HF3.out.call hf7 (fun k (hk:k=w.heap.size+1) hlt=>by omega)⟩⟩
  ·skip;rw [if_pos (by rfl)];go_simp;refine hK _ _ ?_;clear hK K;refine wpAny_ready (rs:=[0,2]) (by kernel_rfl) (by simp) ?_;refine AllReady.cons rfl (fun K hK=>?_) (AllReady.cons rfl (fun K hK=>?_) AllReady.nil)
   ·skip;rw [if_pos (by rfl)];go_simp;refine hK _ _ ?_;clear hK K;refine wpAny_ready (rs:=[2]) (by kernel_rfl) (by simp) ?_;refine AllReady.cons rfl (fun K hK=>?_) AllReady.nil;rw [if_pos (by rfl)];go_simp;(go_at_call 40);(with_reducible refine(HOF.out _ HFD.out).mono ?_);rintro e w3 ⟨o1,n1,m1,v1,l1,i1,A1,c1,k1,rfl,he3,hs3,hf3⟩;have HE3:=AA he3;have HS3:=AA hs3;have HF3:=AA (HFD.out.call hf3 (fun _ h _=>h));have HZ3:=AA (HZD.out.fr hf3 (fun e=>e));have d0:=hf3.cell c0 (fun e=>e);have d1:=hf3.cell c1_ (fun e=>e);have d2:=hf3.cell c2 (fun e=>e);have d3:=hf3.cell c3 (fun e=>e);have d4:=hf3.cell c4 (fun e=>e);have d5:=hf3.cell c5 (fun e=>e);have d6:=hf3.cell c6 (fun e=>e);have dl:=Nat.lt_of_lt_of_le cl hf3.size;clear he3 hs3 hf3;go_simp;refine hK _ _ ?_;clear hK K;refine wpAny_ready (rs:=[4]) (by kernel_rfl) (by simp) ?_;refine AllReady.cons rfl (fun K hK=>?_) AllReady.nil;rw [if_pos (by rfl)];go_simp;refine hK _ _ ?_;clear hK K;refine wpAny_ready (rs:=[5]) (by kernel_rfl) (by simp) ?_;refine AllReady.cons rfl (fun K hK=>?_) AllReady.nil;rw [if_pos (by rfl)];refine BI rfl (by rfl) (by rfl) (by exact Ae) (by rfl) HZ3.out (by rfl) ?_;intro W7 hb7 hf7;refine hK _ _ ?_;clear hK K;refine wpAny_ready (rs:=[6]) (by kernel_rfl) (by simp) ?_;refine AllReady.cons rfl (fun K hK=>?_) AllReady.nil;go_simp;refine hK _ _ ?_;clear hK K;refine wpAny_done (by kernel_rfl) ?_ _;refine hK9 _ _ (hJ9 _ _ ?_);(repeat apply Exists.intro);refine ⟨?_,rfl⟩;exact ⟨rfl,⟨o1,n1,m1,v1,l1,i1,A1,c1,k1,hb7,HE3.out,Gs HS3.out (fun k hk=>Nat.lt_succ_of_lt (HLOW.out k hk)) hwz hf7,HF3.out.call hf7 (fun k (hk:k=w.heap.size+1) hlt=>by omega)⟩⟩
   ·skip;rw [if_pos (by rfl)];go_simp;(go_at_call 40);(with_reducible refine(HOF.out _ HFD.out).mono ?_);rintro e w3 ⟨o1,n1,m1,v1,l1,i1,A1,c1,k1,rfl,he3,hs3,hf3⟩;have HE3:=AA he3;have HS3:=AA hs3;have HF3:=AA (HFD.out.call hf3 (fun _ h _=>h));have HZ3:=AA (HZD.out.fr hf3 (fun e=>e));have d0:=hf3.cell c0 (fun e=>e);have d1:=hf3.cell c1_ (fun e=>e);have d2:=hf3.cell c2 (fun e=>e);have d3:=hf3.cell c3 (fun e=>e);have d4:=hf3.cell c4 (fun e=>e);have d5:=hf3.cell c5 (fun e=>e);have d6:=hf3.cell c6 (fun e=>e);have dl:=Nat.lt_of_lt_of_le cl hf3.size;clear he3 hs3 hf3;go_simp;refine hK _ _ ?_;clear hK K;refine wpAny_ready (rs:=[0]) (by kernel_rfl) (by simp) ?_;refine AllReady.cons rfl (fun K hK=>?_) AllReady.nil;rw [if_pos (by rfl)];go_simp;refine hK _ _ ?_;clear hK K;refine wpAny_ready (rs:=[4]) (by kernel_rfl) (by simp) ?_;refine AllReady.cons rfl (fun K hK=>?_) AllReady.nil;rw [if_pos (by rfl)];go_simp;refine hK _ _ ?_;clear hK K;refine wpAny_ready (rs:=[5]) (by kernel_rfl) (by simp) ?_;refine AllReady.cons rfl (fun K hK=>?_) AllReady.nil;rw [if_pos (by rfl)];refine BI rfl (by rfl) (by rfl) (by exact Ae) (by rfl) HZ3.out (by rfl) ?_;intro W7 hb7 hf7;refine hK _ _ ?_;clear hK K;refine wpAny_ready (rs:=[6]) (by kernel_rfl) (by simp) ?_;refine AllReady.cons rfl (fun K hK=>?_) AllReady.nil;go_simp;refine hK _ _ ?_;clear hK K;refine wpAny_done (by kernel_rfl) ?_ _;refine hK9 _ _ (hJ9 _ _ ?_);(repeat apply Exists.intro);refine ⟨?_,rfl⟩;exact ⟨rfl,⟨o1,n1,m1,v1,l1,i1,A1,c1,k1,hb7,HE3.out,Gs HS3.out (fun k hk=>Nat.lt_succ_of_lt (HLOW.out k hk)) hwz hf7,HF3.out.call hf7 (fun k (hk:k=w.heap.size+1) hlt=>by omega)⟩⟩
 case rest=>
  obtain⟨rfl,o1,n1,m1,v1,l1,i1,A1,c1,k1,hb9,he9,hs9,hf9⟩:=hcut;have HX:=AA (HNW.out _ _ HFD.out hf9 o1 n1 m1 v1 l1 i1 A1 c1 k1 he9 hs9);have HB9:=AA hb9;have HF9:=AA hf9;clear hb9 he9 hs9 hf9 c0 c1_ c2 c3 c4 c5 c6 cl;go_wp2_with fail;refine bodyPost_ret (Er rfl (by rfl) B6 (by exact Ae) HB9.out) rfl ?_;exact ⟨_,rfl,HX.out,HF9.out⟩
end Go.Proofs.YtoegdmpmagbaiaaGreatDoor
namespace Go.Proofs.YtoegdmpmagbaiaaGreatDoor
open Go.RowKit Go.Lib
theorem DY {P:Program}{ops:Array Oper}{S:World→Prop}{op:Oper}{a:Act}(hw:Region.wanted op (yielded ops a.tmps)=true){ty:TypeId}{x:Operand}(ho:op.op=.load ty x)
 {g t:Nat}{arr:Array Value}(hx:a.eval x=.pointer (some ⟨g,0,none⟩))(hS:∀w,S w→Blk w g t arr)(hu:∃d,(P.underlying ty=some d)∧d.isRow=true)(hi:(P.info? ty).map (·.size)=some arr.size):YieldsIf P ops S op (.agg arr) a:=
 .inl ⟨hw,fun w hw'=>by
  unfold execOp;simp only[ho,hx,Instr.loadAt,Instr.sureAddr,Sem.run_bind,Sem.run_pure,Result.andThen_ok,DL hu hi (hS w hw')]⟩
theorem AY {P:Program}{md:_}{ops:Array Oper}{Q:Exit→Act→World→Prop}{S:World→Prop}{i:Nat}{oi:Oper}{v:Value}{t:Tmp}{fuel:Nat}{listed:Array Bool}{a:Act}{w:World}(hi:ops[i]?=some oi)(hd:oi.dst=some t)
 (hs:Region.noSelect ops=true)(hf:Region.free md ops listed i=true)(hr:(Region.ready md ops listed).contains i=true)
 (hQ:∀c a w,Q (.panic c) (a.put oi.dst v) w→Q (.panic c) a w)(hy:YieldsIf P ops S oi v a)(hS:S w)
 (h:wpAnyH P md ops Q S fuel (listed.setIfInBounds i true) ⟨a.tmps.setIfInBounds t v,a.defers⟩ w):wpAnyH P md ops Q S (fuel+1) listed a w:=
 wpAnyH_take hi hs hf hr hQ hy hS (by unfold Act.put;rw[hd];exact h)
theorem ED {P:Program}{o:Oper}{a:Act}{w:World}{Q:Exit→Act→World→Prop}{K:Act→World→Prop}{ty:TypeId}{x y:Operand}(ho:o.op=.store ty x y)(hd:o.dst=none){g t:Nat}{arr vs:Array Value}(hx:a.eval x=.pointer (some ⟨g,0,none⟩))(hy:a.eval y=.agg vs)
 (hi:(P.info? ty).map (·.size)=some vs.size)(h1:vs.toList.all (·.oneCell')=true)(hB:Blk w g t arr)(hs:vs.size=arr.size)
 (h:∀w',Blk w' g t vs→Fr (Ah g) w w'→K a w'):o.wp P a w K Q:=
 BI ho hx hy hi h1 hB hs fun w' h1 h2=>by rw[hd];exact h w' h1 h2
structure PlS (w3 wr:World) (E bx:Nat) (x:Nd) (t:Tr) (far:Int) (ge gr:EG) (r:RS) (L:Nat→Prop):Prop where
 eng:Bk w3 (fun j=>L j∨j=bx) wr E x t far ge
 ref:Bf L wr r x t gr
 box:Blk wr bx 43 (eV r x far gr)
 off:¬L bx
section
variable {w3 wr w':World} {E bx:Nat} {x:Nd} {t:Tr} {far:Int} {ge gr ge' gr':EG} {r r':RS} {L:Nat→Prop}
theorem PlS.engine (h:PlS w3 wr E bx x t far ge gr r L)(hE:Bk w3 (fun j=>L j∨j=bx) w' E x t far ge')(hf:Fr (OffE w3 (fun j=>L j∨j=bx)) wr w'):PlS w3 w' E bx x t far ge' gr r L:=
 ⟨hE,h.ref.fr hf (fun _ hk hs=>hs.2 (.inl hk)),h.box.fr hf (fun hs=>hs.2 (.inr rfl)),h.off⟩
theorem PlS.pure (h:PlS w3 wr E bx x t far ge gr r L)(hf:Fr Nob wr w'):PlS w3 w' E bx x t far ge gr r L:=
 ⟨h.eng.pure hf,h.ref.pure hf,h.box.fr hf (fun e=>e),h.off⟩
theorem Dp.more {w w1 w2:World}(hf:Fr Nob w1 w2){k:Nat}(h:Dp L w w1 k):Dp L w w2 k:=by
 rcases h with h|h;·exact .inl h
 ·exact .inr ⟨h.1,Nat.lt_of_lt_of_le h.2 hf.size⟩
theorem PlS.turn {w2:World}(h:PlS w3 wr E bx x t far ge gr r L)(hf:Fr Nob wr w')(hr:Bf (Dp L wr w') w' r' x t gr')(hw:Fr (Ah bx) w' w2)(hb:Blk w2 bx 43 (eV r' x far gr')):PlS w3 w2 E bx x t far ge gr' r' (Dp L wr w'):=by
 have hlt:=h.box.lt
 have ho:¬Dp L wr w' bx:=fun e=>by
  rcases e with e|e;·exact h.off e
  ·omega
 refine⟨(h.eng.more (L':=fun j=>Dp L wr w' j∨j=bx) hf fun k hk=>?_).write hw fun k hk _=>.inr hk,hr.fr hw fun k hk (hs:k=bx)=>ho (hs▸hk),hb,ho⟩;rcases hk with(hk|hk)|hk;·exact .inl (.inl hk)
 ·exact .inr hk
 ·exact .inl (.inr hk)
end
theorem PlS.new {w3 w4 w5 w6 w7:World}{E bx:Nat}{x:Nd}{t:Tr}{far:Int}{r:RS}(hE:Bk w3 Nob w4 E x t far EG.new)(h5:Fr Nob w4 w5)(h6:Fr Nob w5 w6)(hr:Bf (Dp (fun b=>w4.heap.size≤b∧b<w5.heap.size) w5 w6) w6 r x t EG.new)(h7:Fr Nob w6 w7)(hb:Blk w7 bx 43 (eV r x far EG.new))(hx:w6.heap.size≤bx):
 PlS w3 w7 E bx x t far EG.new EG.new r (fun b=>w4.heap.size≤b∧b<w6.heap.size):=by
 have h47:=(h5.call h6 (fun _ h _=>h)).call h7 (fun _ h _=>h);have z5:=h5.size;have z6:=h6.size;have z7:=h7.size;have hlt:=hb.lt;refine ⟨hE.more h47 fun k hk=>?_,(hr.mono fun k hk=>?_).pure h7,hb,fun e=>by omega⟩
 ·rcases hk with hk|hk;·exact .inr ⟨hk.1,by omega⟩
  ·exact .inr ⟨by omega,by omega⟩
 ·rcases hk with hk|hk;·exact⟨hk.1,by omega⟩
  ·exact⟨by omega,hk.2⟩
theorem vd_cellsP {W:World}{b off c i:Nat}{l:List VD}(h:Sl W 3 (some ⟨b,off,none⟩) l.length c (l.flatMap vdc))(hi:i<l.length){v:VD}(hv:l[i]=v):
 b<W.heap.size∧W.cell? ⟨b,off+i*3,none⟩=some (.int .i64 v.at_)∧W.cell? ⟨b,off+i*3+1,none⟩=some (.int .i64 v.since)∧W.cell? ⟨b,off+i*3+2,none⟩=some (.bool v.yes):=by
 obtain⟨b',off',hA,hb,hc⟩:=Sl.row (size:=3) vdc_len h hi;simp only[Option.some.injEq,Addr.mk.injEq,and_true] at hA;obtain ⟨rfl,rfl⟩:=hA;rw [hv] at hc;exact ⟨hb,by simpa using hc 0 _ rfl,by simpa[Nat.add_assoc] using hc 1 _ rfl,by simpa[Nat.add_assoc] using hc 2 _ rfl⟩
theorem act_cellsQ {w0 W:World}{L:Nat→Prop}{E:Nat}{x:Nd}{t:Tr}{far:Int}{g:EG}{b o:Nat}{v1 v2 v3:Value}(h:Bk w0 L W E x t far g)(h1:w0.cell? ⟨b,o+1,none⟩=some v1)(h2:w0.cell? ⟨b,o+2,none⟩=some v2)(h3:w0.cell? ⟨b,o+3,none⟩=some v3):
 W.cell? ⟨b,o+1,none⟩=some v1∧W.cell? ⟨b,o+2,none⟩=some v2∧W.cell? ⟨b,o+3,none⟩=some v3:=⟨h.cell h1,h.cell h2,h.cell h3⟩
theorem Di {w5 W:World}{b o:Nat}{v1 v2 v3:Value}(h:Fr Nob w5 W)(h1:w5.cell? ⟨b,o+1,none⟩=some v1)(h2:w5.cell? ⟨b,o+2,none⟩=some v2)(h3:w5.cell? ⟨b,o+3,none⟩=some v3):
 W.cell? ⟨b,o+1,none⟩=some v1∧W.cell? ⟨b,o+2,none⟩=some v2∧W.cell? ⟨b,o+3,none⟩=some v3:=⟨h.cell h1 (fun e=>e),h.cell h2 (fun e=>e),h.cell h3 (fun e=>e)⟩
end Go.Proofs.YtoegdmpmagbaiaaGreatDoor
