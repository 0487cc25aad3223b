/- EnginePlays: whatever events come, however the mark goes on, and whenever verdicts are asked for, each answer, the live points, the mark and the last moment are the document's, step by step. -/
import Derived.Test.YtoegdmpmagbaiaaGreatDoorKEQ
import Derived.Test.YtoegdmpmagbaiaaGreatDoorKE
import Derived.Deep.CutBlock
set_option maxHeartbeats 16000000
set_option maxRecDepth 100000
namespace Go.Proofs.YtoegdmpmagbaiaaGreatDoor
open Go.RowKit Go.Lib
theorem refA {w5 Wc w6 W7:World}{L S:Nat→Prop}{r:RS}{x:Nd}{t:Tr}{g:EG}(hr:Bf (Dp L Wc w6) w6 r x t g)(hc:w5.heap.size≤Wc.heap.size)(hw:Wc.heap.size≤w6.heap.size)(hf:Fr S w6 W7)(hS:∀k,S k→w6.heap.size≤k∨(w5.heap.size≤k∧k<Wc.heap.size))(hL:∀k,L k→k<w5.heap.size):Bf (Dp L w5 W7) W7 r x t g:=by
 have hz:=hf.size;refine (hr.fr hf fun k hk hs=>?_).mono fun k hk=>?_
 ·have h1:=hS k hs;rcases hk with hk|hk;·have:=hL k hk;omega
  ·omega
 ·rcases hk with hk|hk;·exact .inl hk
  ·exact .inr ⟨by omega,by omega⟩
def PlB (w3:World)(E bx:Nat)(x:Nd)(t:Tr)(far:Int)(k:Nat)(W:World):Prop:=∃g r L,PlS w3 W E bx x t far g g r L∧CQ g.W k (10*k)
theorem Fu (w:World)(x:Nd)(B:Option Addr)(d:Nat)(ks:Fo)(hs:Au w.heap.size w B d ks)(hx:NdOk x)(hk:ks.tr.ok)(hv:BR w)(htv:Cj w)(A:Option Addr)(c:Nat)(al:List Ac)(h:ASl w A c al)(h63:∀a∈al,a.t≤AO∧a.n≤AO):
 Calls Tryz.prog 3 #[AF x B ks.len d,.slice A al.length c] w fun e w'=>e=.returned (.bool true)∧Fr Nob w w':=by
 have H63:=AA h63;clear h63;have HPLN:=AA (fun (hL:Few x ks.tr 50) W (hf:Fr Nob w W)=>l23_plain ks.tr.size W.heap.size W x B d ks (Nat.le_refl _) (by have:=hL.size;omega) ((hs.fr hf).mono hf.size) (Nat.le_refl _))
 have HNE:=AA (fun (hL:Few x ks.tr 50) W C f (ls:Fo) (htr:ls.tr=ks.tr) (L5:Nat→Prop) (hL5:∀k,L5 k→k<W.heap.size) (hsl:AJ L5 W C f ls)=>(show Calls Tryz.prog 12 #[AF x C ls.len f] W (Hd L5 W x ks.tr (far1 (x,ks.tr)) (errH x ks.tr)) from by
  have:=r23_New W L5 hL5 x C f ls hsl (by rw[htr];have:=hL.size;omega) hx (by rw[htr];exact hk) (by rw[htr];exact hL.names);rw [htr] at this;exact this));obtain ⟨bf,hbf⟩:∃bf:Bool,(bf=true↔FewA al):=by classical exact⟨decide (FewA al),by simp⟩
 have HBF:=AA hbf.1;have HAW:=AA (fun W (hf:Fr Nob w W)=>l23_awake W (hv.fr hf) (htv.fr hf));have HLF:=AA (fun W (hf:Fr Nob w W)=>(show Calls Tryz.prog 9 #[AF x B ks.len d,.int .i64 50] W fun e w'=>e=.returned (.int .i64 (left1 x ks.tr 50:Nat))∧Fr Nob W w' from l15_left 50 w.heap.size W x B d ks (by decide) (hs.fr hf)));have HFW:=AA (fun W (hf:Fr Nob w W)=>l23_few W A c al (h.pure hf) bf hbf);have HLP:=AA (fun (h0:0<left1 x ks.tr 50)=>few_of (x:=x) (ks:=ks.tr) (n:=50) h0);have HNW:=AA (fun (hL:Few x ks.tr 50) W (hf:Fr Nob w W)=>(show Calls Tryz.prog 11 #[AF x B ks.len d] W (SNew W x ks.tr) from s_New W x B d ks ((hs.fr hf).mono hf.size) (by have:=hL.size;omega) (hv.fr hf) hx hk hL.names));have HFO:=AA (fun (hL:Few x ks.tr 50) (hg:firstW ((Tr.cons x ks.tr .nil).nodes 1)=0)=>(⟨hg,by have:=hL.size;omega,hL.names⟩:FOk x ks.tr));have HS:=AA hs;have HV:=AA hv;have HTV:=AA htv;have HA:=AA h;have HXO:=AA hx;have HKO:=AA hk;clear hs hv htv h hbf hx hk;generalize left1 x ks.tr 50=n0 at*;unfold AF at*;go_enter Tryz.func3,Tryz.ntmps3;have HB0:=AA (show Blk (w.alloc (.cells #[.int .i64 x.op,.string x.name,.int .i64 x.cmp,.int .i64 x.val,.int .i64 x.lo,.int .i64 x.hi,.slice B ks.len d] 28)) w.heap.size 28 _ from Blk.new _ _ _)
 go_upto_region 6 with(first
  |((go_at_call 8);(with_reducible refine(HAW.out _ ((Fr.refl _ _).alloc _)).mono ?_);rintro e w1 ⟨rfl,hf1⟩;have HF1:=AA (((Fr.refl Nob w).alloc _).call hf1 (fun _ h _=>h));have HX1:=AA (HB0.out.fr hf1 (fun e=>e));have xc:=HX1.out.cell;have xl:=HX1.out.lt;clear hf1)
  |((go_at_call 9);(with_reducible refine(HLF.out _ HF1.out).mono ?_);rintro e w2 ⟨rfl,hf2⟩;have HF2:=AA (HF1.out.call hf2 (fun _ h _=>h));have HX2:=AA (HX1.out.fr hf2 (fun e=>e));clear hf2)
  |((go_at_call 10);(with_reducible refine(HFW.out _ HF2.out).mono ?_);rintro e w3 ⟨rfl,rfl⟩)
  |fail);clear xc xl HX1 HF1 HB0 HAW HLF HFW;have q0:=HX2.out.cell;have q1:=HX2.out.lt;by_cases hn:n0=0
 ·subst hn;go_wp2_with fail;go_ret;exact ⟨rfl,HF2.out⟩
 have hnI:¬(n0:Int)≤0:=by omega
 have hnI2:(0:Int)<n0:=by omega
 cases bf
 ·skip;go_wp2_with fail;go_ret;exact ⟨rfl,HF2.out⟩
 have HFA:=AA (HBF.out rfl);have HL:=AA (HLP.out (by omega));have HW3:=AA (HNW.out HL.out _ HF2.out);have HER:∃er,errH x ks.tr=er:=⟨_,rfl⟩;obtain ⟨er,her⟩:=HER;unfold SNew at HW3;rw [her] at HW3;replace her:=AA her;clear HNW HLP HBF hn
 go_upto_region 9 with(first
  |((go_at_call 11);(with_reducible refine(HW3.out).mono ?_);rintro e w4 ⟨p,rfl,hf4,hnone,hsome⟩;have HNO:=AA hnone;have HSO:=AA hsome;have HF4:=AA hf4;clear hnone hsome hf4)
  |fail);clear q0 q1 hnI hnI2;by_cases he0:er=0
 case neg=>
  obtain rfl:=HNO.out he0;have he1:(er !=0)=true:=by simpa using he0
  have HE1:=AA he0;clear he0
  as_aux_lemma=>
   have HX4:=AA (HX2.out.fr HF4.out (fun e=>e));have q0:=HX4.out.cell;have q1:=HX4.out.lt;have HF04:=AA (HF2.out.call HF4.out (fun _ h _=>h));replace HPLN:=AA (HPLN.out HL.out);replace HNE:=AA (HNE.out HL.out);rw [her.out] at HNE;unfold Hd at HNE
   go_wp2_with (first
    |((go_at_call 13);(with_reducible refine(HPLN.out _ HF04.out).mono ?_);rintro e w5 ⟨C,f,ls,rfl,htr,hsl,hf5⟩;have HTR:=AA htr;have HSL:=AA hsl;have HF5:=AA (HF04.out.call hf5 (fun _ h _=>h));clear htr hsl hf5)
    |((go_at_call 12);(with_reducible refine(HNE.out _ _ _ _ HTR.out _ (fun k hk=>hk.2) HSL.out).mono ?_);rintro e w6 ⟨vs,rfl,hne,-,hf6⟩;obtain rfl:=hne HE1.out;have HF6:=AA (HF5.out.call hf6 (fun _ h _=>h));clear hne hf6)
    |(refine AB rfl rfl (by rfl) (by rfl) (by exact Ae) (by rfl) (by exact(Blk.new _ _ _)) (by rfl) ?_;intro W7 hb7 hf7;have HB7:=AA hb7;have HF7:=AA hf7;clear hb7 hf7)
    |((go_at_call 14);(with_reducible refine((E9 _).2.2.2.2 _ _ _).mono ?_);rintro e w9 ⟨rfl,rfl⟩)
    |((go_at_call 15);(with_reducible refine(eng_nilNext _).mono ?_);rintro e w9 ⟨rfl,hf9⟩;have HF9:=AA hf9;clear hf9)
    |((go_at_call 16);(with_reducible refine((E9 _).2.2.2.1 _).mono ?_);rintro e w10 ⟨rfl,rfl⟩)
    |((go_at_call 17);(with_reducible refine((E9 _).2.2.1).mono ?_);rintro e w10 ⟨rfl,rfl⟩)
    |((go_at_call 18);(with_reducible refine((E9 _).1).mono ?_);rintro e w10 ⟨rfl,rfl⟩)
    |((go_at_call 19);(with_reducible refine((E9 _).2.1).mono ?_);rintro e w10 ⟨rfl,rfl⟩)
    |fail);go_ret;exact ⟨rfl,(((HF6.out.alloc _).call HF7.out (fun k (hk:k=w6.heap.size) hlt=>by have:=HF6.out.size;omega)).call HF9.out (fun _ h _=>h)).alloc _⟩
 subst he0;obtain ⟨E,rfl,hg,h0,hI,hE⟩:=HSO.out rfl;have HG:=AA hg;have HH0:=AA h0;have HHI:=AA hI;have HE:=AA hE;have HFK:=AA (HFO.out HL.out hg);have HV4:=AA (HV.out.fr HF2.out);have HT4:=AA (HTV.out.fr HF2.out);have HA4:=AA (HA.out.pure HF2.out);clear hg h0 hI hE HNO HSO HFO HW3;replace HPLN:=AA (HPLN.out HL.out);replace HNE:=AA (HNE.out HL.out);rw [her.out] at HNE;have HX4:=AA (HX2.out.fr HF4.out (fun e=>e));have q0:=HX4.out.cell;have q1:=HX4.out.lt;have HF04:=AA (HF2.out.call HF4.out (fun _ h _=>h));unfold Hd at HNE
 go_upto_region 10 with(first
  |((go_at_call 13);(with_reducible refine(HPLN.out _ HF04.out).mono ?_);rintro e w5 ⟨C,f,ls,rfl,htr,hsl,hf5⟩;have HTR:=AA htr;have HSL:=AA hsl;have HF5:=AA hf5;clear htr hsl hf5)
  |((go_at_call 12);(with_reducible refine(HNE.out _ _ _ _ HTR.out _ (fun k hk=>hk.2) HSL.out).mono ?_);rintro e w6 ⟨vs,rfl,-,hnz,hf6⟩;obtain⟨r,rfl,hr⟩:=hnz (by simp);have HRS:=AA hr;have HF6:=AA hf6;clear hr hnz hf6)
  |(refine AB rfl rfl (by rfl) (by rfl) (by exact Ae) (by rfl) (by exact(Blk.new _ _ _)) (by rfl) ?_;intro W7 hb7 hf7;have HB7:=AA hb7;have HF7:=AA hf7;clear hb7 hf7)
  |fail);have HP0:=AA (PlS.new HE.out HF5.out HF6.out HRS.out (((Fr.refl Nob w6).alloc _).call HF7.out (fun k (hk:k=w6.heap.size) hlt=>by omega)) HB7.out (Nat.le_refl _));clear q0 q1 HX4 HX2 HF5 HF6 HRS HF7 HB7 HSL HTR HPLN HNE;obtain ⟨bx,hbx⟩:∃bx,bx=w6.heap.size:=⟨_,rfl⟩;rw [←hbx] at HP0 ⊢;clear hbx;go_wp2_with fail;go_loopw [16] (fun iv wr=>∃k:Nat,k≤al.length∧iv=.int .i64 k∧Hid (PlB w3 E bx x ks.tr (far1 (x,ks.tr)) k wr)) (fun iv _=>al.length-(RowKit.intOf iv).toNat);case atStart=>exact⟨0,Nat.zero_le _,rfl,AA ⟨EG.new,r,_,HP0.out,Nat.le_refl _,fun _ h=>by cases h⟩⟩
 case round=>
  obtain⟨k,hk,rfl,hPB⟩:=hrel;obtain ⟨g,r,L,hP,hBK⟩:=hPB.out;have h24:=HFA.out.1;have hmax:=HA4.out.sl.max;unfold maxLen at hmax;have HP:=AA hP;have hE:=AA hP.eng;have HGK:=AA hP.eng.ok;clear hP hPB;by_cases hlt:k<al.length
  ·have hI:(k:Int)<al.length:=by omega
   have hI3:0≤(k:Int):=by omega
   obtain⟨b,off,hA,hb,d0,d1,d2,d3⟩:=HA4.out.at_ hlt;subst hA;have HB8:=AA (hBK.mono (n':=800) (m':=800) (by omega) (by omega));have HOK:=AA (HFA.out.2 _ (List.getElem_mem hlt));have H63A:=AA (H63.out _ (List.getElem_mem hlt));have HAI:=AA (HA4.out.inn _ (List.getElem_mem hlt));have HD1:=AA d1;have HD2:=AA d2;have HD3:=AA d3;have HB3:=AA hb;have HBK:=AA hBK;replace d0:=hE.out.cell d0;replace d1:=hE.out.cell d1;replace d2:=hE.out.cell d2;replace d3:=hE.out.cell d3;replace hb:=Nat.lt_of_lt_of_le hb hE.out.fr.size;generalize al[k]=a at*;clear hBK;go_upto_block 2 with fail;go_cut [] (fun wx=>PlB w3 E bx x ks.tr (far1 (x,ks.tr)) (k+1) wx)
   case first=>
    by_cases hd0:a.do_=0
    ·as_aux_lemma=>
      have HPP:=AA (fun W (hf:Fr Nob wr W)=>s_Put (hE.out.pure hf) HB8.out a.t H63A.out.1 a.A a.c a.l ((HAI.out.pure hE.out.fr).pure hf) HOK.out a.n);have hd0b:(a.do_==0)=true:=by simpa using hd0
      have HBN:=AA (show CQ (g.put1 a.t a.l a.n).W (k+1) (10*(k+1)) from(EG.put1_bnd HBK.out a.t HOK.out a.n).mono (Nat.le_refl _) (by omega));unfold SPut at HPP;clear hd0;go_wp2_with fail
      go_region_held3 (fun W=>W.cell? ⟨b,off+k*4+1,none⟩=some (.int .i64 a.t)∧W.cell? ⟨b,off+k*4+2,none⟩=some (.slice a.A a.l.length a.c)∧W.cell? ⟨b,off+k*4+3,none⟩=some (.int .i64 a.n))
       (first|(with_reducible exact act_cellsQ HE5.out HD1.out HD2.out HD3.out)|go_keep)
       (first
         |((go_at_call 14);(with_reducible refine(HPP.out _ (Fr.refl Nob _).drew).mono ?_);rintro e w5 ⟨rfl,hE5,hf5⟩;have HE5:=AA hE5;have HF5:=AA hf5;clear hE5 hf5));have HP5:=AA ((HP.out.pure (Fr.refl Nob wr).drew).engine HE5.out HF5.out);clear d0 d1 d2 d3 HPP HE5;have d1:=HP5.out.eng.cell HD1.out;have d2:=HP5.out.eng.cell HD2.out;have d3:=HP5.out.eng.cell HD3.out;replace hb:=Nat.lt_of_lt_of_le HB3.out HP5.out.eng.fr.size;have HPU:=AA (fun W (hf:Fr Nob w5 W)=>r23_Put (HP5.out.ref.pure hf) HB8.out HGK.out.len HGK.out.right (far1 (x,ks.tr)) a.t a.A a.c a.l ((HAI.out.pure HP5.out.eng.fr).pure hf) HOK.out a.n);unfold P23R at HPU;have HBX:=AA HP5.out.box;have HLT:=AA (fun k hk=>HP5.out.eng.lt k (.inl hk));generalize g.put1 a.t a.l a.n=g5 at*;generalize g.may a.t a.l=may at*;generalize (putW g.W a.t a.l).2.2=fresh at*;generalize far1 (x,ks.tr)=far at*;go_upto_region 27 with fail;go_cut [19,20,21] (fun bv v1 v2 W=>∃r6 bz,bv=.pointer (some ⟨bz,0,none⟩)∧v1=.bool may∧v2=.bool (may&&fresh)∧Blk W bz 43 (eV r6 x far g5)∧Bf (Dp L w5 W) W r6 x ks.tr g5∧Fr Nob w5 W)
      case first=>
       as_aux_lemma=>
        rename_i J9 K9 hJ9 hK9;refine wp_region_held_drew (S:=fun W=>Fr Nob w5 W) (by kernel_rfl) ((Fr.refl Nob w5).drew) (fun hHeld=>?_);refine AY (i:=0) (t:=180) rfl (by rfl) (by kernel_rfl) (by kernel_rfl) (by kernel_rfl) (fun _ _ _ h=>h) (DY (by rfl) rfl rfl (fun W hSw=>HBX.out.fr (show Fr Nob w5 W from hSw) (fun e=>e)) B6 (by exact Ae)) (by assumption) ?_;simp only[List.setIfInBounds_toArray,List.set_cons_zero,List.set_cons_succ];refine AY (i:=1) (t:=181) (v:=?_) rfl (by rfl) (by kernel_rfl) (by kernel_rfl) (by kernel_rfl) (fun _ _ _ h=>h) (Or.inl ⟨by rfl,?_⟩) (by assumption) ?_;rotate_left
        ·(intro W hSw;go_simp);all_goals with_reducible rfl
        simp only[List.setIfInBounds_toArray,List.set_cons_zero,List.set_cons_succ];refine AY (i:=2) (t:=182) (v:=?_) rfl (by rfl) (by kernel_rfl) (by kernel_rfl) (by kernel_rfl) (fun _ _ _ h=>h) (Or.inl ⟨by rfl,?_⟩) (by assumption) ?_;rotate_left
        ·(intro W hSw;go_simp);all_goals with_reducible rfl
        simp only[List.setIfInBounds_toArray,List.set_cons_zero,List.set_cons_succ];refine AY (i:=3) (t:=183) (v:=?_) rfl (by rfl) (by kernel_rfl) (by kernel_rfl) (by kernel_rfl) (fun _ _ _ h=>h) (Or.inl ⟨by rfl,?_⟩) (by assumption) ?_;rotate_left
        ·(intro W hSw;go_simp);all_goals with_reducible rfl
        simp only[List.setIfInBounds_toArray,List.set_cons_zero,List.set_cons_succ];refine AY (i:=4) (t:=184) (v:=?_) rfl (by rfl) (by kernel_rfl) (by kernel_rfl) (by kernel_rfl) (fun _ _ _ h=>h) (Or.inl ⟨by rfl,?_⟩) (by assumption) ?_;rotate_left
        ·(intro W hSw;go_simp);all_goals with_reducible rfl
        simp only[List.setIfInBounds_toArray,List.set_cons_zero,List.set_cons_succ];refine AY (i:=5) (t:=185) (v:=?_) rfl (by rfl) (by kernel_rfl) (by kernel_rfl) (by kernel_rfl) (fun _ _ _ h=>h) (Or.inl ⟨by rfl,?_⟩) (by assumption) ?_;rotate_left
        ·(intro W hSw;have kk:=Di (show Fr Nob w5 W from hSw) d1 d2 d3;have k1:=kk.1;have k2:=kk.2.1;have k3:=kk.2.2;clear kk;go_simp);all_goals with_reducible rfl
        simp only[List.setIfInBounds_toArray,List.set_cons_zero,List.set_cons_succ];refine AY (i:=6) (t:=186) (v:=?_) rfl (by rfl) (by kernel_rfl) (by kernel_rfl) (by kernel_rfl) (fun _ _ _ h=>h) (Or.inl ⟨by rfl,?_⟩) (by assumption) ?_;rotate_left
        ·(intro W hSw;go_simp);all_goals with_reducible rfl
        simp only[List.setIfInBounds_toArray,List.set_cons_zero,List.set_cons_succ];refine AY (i:=7) (t:=187) (v:=?_) rfl (by rfl) (by kernel_rfl) (by kernel_rfl) (by kernel_rfl) (fun _ _ _ h=>h) (Or.inl ⟨by rfl,?_⟩) (by assumption) ?_;rotate_left
        ·(intro W hSw;go_simp);all_goals with_reducible rfl
        simp only[List.setIfInBounds_toArray,List.set_cons_zero,List.set_cons_succ];refine AY (i:=8) (t:=188) (v:=?_) rfl (by rfl) (by kernel_rfl) (by kernel_rfl) (by kernel_rfl) (fun _ _ _ h=>h) (Or.inl ⟨by rfl,?_⟩) (by assumption) ?_;rotate_left
        ·(intro W hSw;go_simp);all_goals with_reducible rfl
        simp only[List.setIfInBounds_toArray,List.set_cons_zero,List.set_cons_succ];refine AY (i:=9) (t:=189) (v:=?_) rfl (by rfl) (by kernel_rfl) (by kernel_rfl) (by kernel_rfl) (fun _ _ _ h=>h) (Or.inl ⟨by rfl,?_⟩) (by assumption) ?_;rotate_left
        ·(intro W hSw;go_simp);all_goals with_reducible rfl
        simp only[List.setIfInBounds_toArray,List.set_cons_zero,List.set_cons_succ];refine AY (i:=10) (t:=190) (v:=?_) rfl (by rfl) (by kernel_rfl) (by kernel_rfl) (by kernel_rfl) (fun _ _ _ h=>h) (Or.inl ⟨by rfl,?_⟩) (by assumption) ?_;rotate_left
        ·(intro W hSw;have kk:=Di (show Fr Nob w5 W from hSw) d1 d2 d3;have k1:=kk.1;have k2:=kk.2.1;have k3:=kk.2.2;clear kk;go_simp);all_goals with_reducible rfl
        simp only[List.setIfInBounds_toArray,List.set_cons_zero,List.set_cons_succ];refine AY (i:=11) (t:=191) (v:=?_) rfl (by rfl) (by kernel_rfl) (by kernel_rfl) (by kernel_rfl) (fun _ _ _ h=>h) (Or.inl ⟨by rfl,?_⟩) (by assumption) ?_;rotate_left
        ·(intro W hSw;go_simp);all_goals with_reducible rfl
        simp only[List.setIfInBounds_toArray,List.set_cons_zero,List.set_cons_succ];refine AY (i:=12) (t:=192) (v:=?_) rfl (by rfl) (by kernel_rfl) (by kernel_rfl) (by kernel_rfl) (fun _ _ _ h=>h) (Or.inl ⟨by rfl,?_⟩) (by assumption) ?_;rotate_left
        ·(intro W hSw;go_simp);all_goals with_reducible rfl
        simp only[List.setIfInBounds_toArray,List.set_cons_zero,List.set_cons_succ];refine AY (i:=13) (t:=193) (v:=?_) rfl (by rfl) (by kernel_rfl) (by kernel_rfl) (by kernel_rfl) (fun _ _ _ h=>h) (Or.inl ⟨by rfl,?_⟩) (by assumption) ?_;rotate_left
        ·(intro W hSw;go_simp);all_goals with_reducible rfl
        simp only[List.setIfInBounds_toArray,List.set_cons_zero,List.set_cons_succ];refine AY (i:=14) (t:=194) (v:=?_) rfl (by rfl) (by kernel_rfl) (by kernel_rfl) (by kernel_rfl) (fun _ _ _ h=>h) (Or.inl ⟨by rfl,?_⟩) (by assumption) ?_;rotate_left
        ·(intro W hSw;go_simp);all_goals with_reducible rfl
        simp only[List.setIfInBounds_toArray,List.set_cons_zero,List.set_cons_succ];refine AY (i:=15) (t:=195) (v:=?_) rfl (by rfl) (by kernel_rfl) (by kernel_rfl) (by kernel_rfl) (fun _ _ _ h=>h) (Or.inl ⟨by rfl,?_⟩) (by assumption) ?_;rotate_left
        ·(intro W hSw;have kk:=Di (show Fr Nob w5 W from hSw) d1 d2 d3;have k1:=kk.1;have k2:=kk.2.1;have k3:=kk.2.2;clear kk;go_simp);all_goals with_reducible rfl
        simp only[List.setIfInBounds_toArray,List.set_cons_zero,List.set_cons_succ];refine wpAnyH_ready (rs:=[16,21]) (by kernel_rfl) (by simp) ?_;refine AllReadyH.cons rfl (fun K hK=>?_) (AllReadyH.cons rfl (fun K hK=>?_) AllReadyH.nil)
        ·skip;go_simp;(go_at_call 20);(with_reducible refine(HPU.out _ (show Fr Nob w5 _ from hHeld)).mono ?_);rintro e w6 ⟨r6,rfl,hr6,hf6⟩;have HR6:=AA hr6;have HF6:=AA hf6;have z6:=hf6.size;clear hr6;go_simp;refine hK.out _ _ ?_ (fun hHeld=>?_);·exact(show Fr Nob w5 _ from hHeld).call hf6 (fun _ h _=>h)
         clear hK K;refine AY (i:=17) (t:=179) (v:=?_) rfl (by rfl) (by kernel_rfl) (by kernel_rfl) (by kernel_rfl) (fun _ _ _ h=>h) (Or.inl ⟨by rfl,?_⟩) (by assumption) ?_;rotate_left
         ·(intro W hSw;go_simp);all_goals with_reducible rfl
         simp only[List.setIfInBounds_toArray,List.set_cons_zero,List.set_cons_succ];refine AY (i:=18) (t:=197) (v:=?_) rfl (by rfl) (by kernel_rfl) (by kernel_rfl) (by kernel_rfl) (fun _ _ _ h=>h) (Or.inl ⟨by rfl,?_⟩) (by assumption) ?_;rotate_left
         ·(intro W hSw;go_simp);all_goals with_reducible rfl
         simp only[List.setIfInBounds_toArray,List.set_cons_zero,List.set_cons_succ];refine AY (i:=19) (t:=198) (v:=?_) rfl (by rfl) (by kernel_rfl) (by kernel_rfl) (by kernel_rfl) (fun _ _ _ h=>h) (Or.inl ⟨by rfl,?_⟩) (by assumption) ?_;rotate_left
         ·(intro W hSw;go_simp);all_goals with_reducible rfl
         simp only[List.setIfInBounds_toArray,List.set_cons_zero,List.set_cons_succ];refine AY (i:=20) (t:=199) (v:=?_) rfl (by rfl) (by kernel_rfl) (by kernel_rfl) (by kernel_rfl) (fun _ _ _ h=>h) (Or.inl ⟨by rfl,?_⟩) (by assumption) ?_;rotate_left
         ·(intro W hSw;go_simp);all_goals with_reducible rfl
         simp only[List.setIfInBounds_toArray,List.set_cons_zero,List.set_cons_succ];refine wpAnyH_ready (rs:=[21]) (by kernel_rfl) (by simp) ?_;refine AllReadyH.cons rfl (fun K hK=>?_) AllReadyH.nil;go_simp;skip;refine hK.out _ _ ?_ (fun hHeld=>?_);·exact(show Fr Nob w5 _ from hHeld).alloc _
         clear hK K;refine wpAnyH_ready (rs:=[22]) (by kernel_rfl) (by simp) ?_;refine AllReadyH.cons rfl (fun K hK=>?_) AllReadyH.nil;rw [if_pos (by rfl)];refine ED rfl (by rfl) (by rfl) (by rfl) (by exact Ae) (by rfl) (Blk.new w6 _ _) (by rfl) ?_;intro W7 hb7 hf7;refine hK.out _ _ ?_ (fun hHeld=>?_);·exact(show Fr Nob w5 _ from hHeld).call hf7 (fun k (hk:k=w6.heap.size) hlt=>by have hd:w5.heap.size≤w6.heap.size:=z6;omega)
         clear hK K;refine AY (i:=23) (t:=20) (v:=?_) rfl (by rfl) (by kernel_rfl) (by kernel_rfl) (by kernel_rfl) (fun _ _ _ h=>h) (Or.inl ⟨by rfl,?_⟩) (by assumption) ?_;rotate_left
         ·(intro W hSw;go_simp);all_goals with_reducible rfl
         simp only[List.setIfInBounds_toArray,List.set_cons_zero,List.set_cons_succ];refine AY (i:=24) (t:=21) (v:=?_) rfl (by rfl) (by kernel_rfl) (by kernel_rfl) (by kernel_rfl) (fun _ _ _ h=>h) (Or.inl ⟨by rfl,?_⟩) (by assumption) ?_;rotate_left
         ·(intro W hSw;go_simp);all_goals with_reducible rfl
         simp only[List.setIfInBounds_toArray,List.set_cons_zero,List.set_cons_succ];refine wpAnyH_done (by kernel_rfl) ?_ _;refine hK9 _ _ (hJ9 _ _ ?_);(repeat apply Exists.intro);refine ⟨?_,rfl⟩;exact ⟨r6,w6.heap.size,rfl,rfl,rfl,hb7,refA HR6.out (Nat.le_refl w5.heap.size) z6 (((Fr.refl (Ah w6.heap.size) w6).alloc _).call hf7 (fun _ h _=>h)) (fun k (hk:k=w6.heap.size)=>.inl (by omega)) HLT.out,(show Fr Nob w5 _ from hHeld)⟩
        ·skip;go_simp;skip;refine hK.out _ _ ?_ (fun hHeld=>?_);·exact(show Fr Nob w5 _ from hHeld).alloc _
         clear hK K;refine wpAnyH_ready (rs:=[16]) (by kernel_rfl) (by simp) ?_;refine AllReadyH.cons rfl (fun K hK=>?_) AllReadyH.nil;go_simp;(go_at_call 20);(with_reducible refine(HPU.out _ (show Fr Nob w5 _ from hHeld)).mono ?_);rintro e w6 ⟨r6,rfl,hr6,hf6⟩;have HR6:=AA hr6;have HF6:=AA hf6;have z6:=hf6.size;clear hr6;go_simp;refine hK.out _ _ ?_ (fun hHeld=>?_);·exact(show Fr Nob w5 _ from hHeld).call hf6 (fun _ h _=>h)
         clear hK K;refine AY (i:=17) (t:=179) (v:=?_) rfl (by rfl) (by kernel_rfl) (by kernel_rfl) (by kernel_rfl) (fun _ _ _ h=>h) (Or.inl ⟨by rfl,?_⟩) (by assumption) ?_;rotate_left
         ·(intro W hSw;go_simp);all_goals with_reducible rfl
         simp only[List.setIfInBounds_toArray,List.set_cons_zero,List.set_cons_succ];refine AY (i:=18) (t:=197) (v:=?_) rfl (by rfl) (by kernel_rfl) (by kernel_rfl) (by kernel_rfl) (fun _ _ _ h=>h) (Or.inl ⟨by rfl,?_⟩) (by assumption) ?_;rotate_left
         ·(intro W hSw;go_simp);all_goals with_reducible rfl
         simp only[List.setIfInBounds_toArray,List.set_cons_zero,List.set_cons_succ];refine AY (i:=19) (t:=198) (v:=?_) rfl (by rfl) (by kernel_rfl) (by kernel_rfl) (by kernel_rfl) (fun _ _ _ h=>h) (Or.inl ⟨by rfl,?_⟩) (by assumption) ?_;rotate_left
         ·(intro W hSw;go_simp);all_goals with_reducible rfl
         simp only[List.setIfInBounds_toArray,List.set_cons_zero,List.set_cons_succ];refine AY (i:=20) (t:=199) (v:=?_) rfl (by rfl) (by kernel_rfl) (by kernel_rfl) (by kernel_rfl) (fun _ _ _ h=>h) (Or.inl ⟨by rfl,?_⟩) (by assumption) ?_;rotate_left
         ·(intro W hSw;go_simp);all_goals with_reducible rfl
         simp only[List.setIfInBounds_toArray,List.set_cons_zero,List.set_cons_succ];have hzb:Blk w6 w5.heap.size 43 #[.int .i64 0,.string ⟨#[]⟩,.int .i64 0,.int .i64 0,.int .i64 0,.int .i64 0,.slice none 0 0,.int .i64 0,.string ⟨#[]⟩,.int .i64 0,.int .i64 0,.int .i64 0,.int .i64 0,.slice none 0 0,.int .i64 0,.slice none 0 0,.slice none 0 0,.int .i64 0,.int .i64 0]:=(Blk.new w5.drew 43 #[.int .i64 0,.string ⟨#[]⟩,.int .i64 0,.int .i64 0,.int .i64 0,.int .i64 0,.slice none 0 0,.int .i64 0,.string ⟨#[]⟩,.int .i64 0,.int .i64 0,.int .i64 0,.int .i64 0,.slice none 0 0,.int .i64 0,.slice none 0 0,.slice none 0 0,.int .i64 0,.int .i64 0]).fr HF6.out (fun e=>e);have hs5:w5.heap.size+1≤w6.heap.size:=by simpa using z6
         refine wpAnyH_ready (rs:=[22]) (by kernel_rfl) (by simp) ?_;refine AllReadyH.cons rfl (fun K hK=>?_) AllReadyH.nil;rw [if_pos (by rfl)];refine ED rfl (by rfl) (by rfl) (by rfl) (by exact Ae) (by rfl) hzb (by rfl) ?_;intro W7 hb7 hf7;refine hK.out _ _ ?_ (fun hHeld=>?_);·exact(show Fr Nob w5 _ from hHeld).call hf7 (fun k (hk:k=w5.heap.size) hlt=>by omega)
         clear hK K;refine AY (i:=23) (t:=20) (v:=?_) rfl (by rfl) (by kernel_rfl) (by kernel_rfl) (by kernel_rfl) (fun _ _ _ h=>h) (Or.inl ⟨by rfl,?_⟩) (by assumption) ?_;rotate_left
         ·(intro W hSw;go_simp);all_goals with_reducible rfl
         simp only[List.setIfInBounds_toArray,List.set_cons_zero,List.set_cons_succ];refine AY (i:=24) (t:=21) (v:=?_) rfl (by rfl) (by kernel_rfl) (by kernel_rfl) (by kernel_rfl) (fun _ _ _ h=>h) (Or.inl ⟨by rfl,?_⟩) (by assumption) ?_;rotate_left
         ·(intro W hSw;go_simp);all_goals with_reducible rfl
         simp only[List.setIfInBounds_toArray,List.set_cons_zero,List.set_cons_succ];refine wpAnyH_done (by kernel_rfl) ?_ _;refine hK9 _ _ (hJ9 _ _ ?_);(repeat apply Exists.intro);refine ⟨?_,rfl⟩;exact ⟨r6,w5.heap.size,rfl,rfl,rfl,hb7,refA HR6.out (by simp) z6 hf7 (fun k (hk:k=w5.heap.size)=>.inr ⟨by omega,by simp;omega⟩) HLT.out,(show Fr Nob w5 _ from hHeld)⟩
      case rest=>
       obtain⟨r6,bz,rfl,rfl,rfl,hbz,hr6,hf6⟩:=hcut;have HBZ:=AA hbz;have HR6:=AA hr6;have HF6:=AA hf6;have HBX9:=AA (HBX.out.fr hf6 (fun e=>e));clear hbz hr6 hf6 d1 d2 d3
       go_wp2_with (first
        |(refine Aj rfl rfl (by rfl) B6 (by exact Ae) HBZ.out ?_)
        |(refine AB rfl rfl (by rfl) (by rfl) (by exact Ae) (by rfl) (by exact HBX9.out) (by rfl) ?_;intro W7 hb7 hf7;have HB7:=AA hb7;have HF7:=AA hf7;clear hb7 hf7)
        |fail);go_meet;exact ⟨g5,r6,_,HP5.out.turn HF6.out HR6.out HF7.out HB7.out,HBN.out⟩
    ·have hd0b:(a.do_==0)=false:=by simpa using hd0
     by_cases hd1:a.do_=1
     ·as_aux_lemma=>
       have HPP:=AA (s_Raise hE.out a.n H63A.out.2);have hd1b:(a.do_==1)=true:=by simpa using hd1
       have HBN:=AA (show CQ (g.raise1 a.n).W (k+1) (10*(k+1)) by rw[EG.raise1_W];exact HBK.out.mono (by omega) (by omega));unfold SRaise at HPP;clear hd0 hd1
       go_upto_region 33 with(first
        |((go_at_call 16);(with_reducible refine(HPP.out).mono ?_);rintro e w5 ⟨rfl,hE5,hf5⟩;have HE5:=AA hE5;have HF5:=AA hf5;clear hE5 hf5)
        |fail);have HP5:=AA (HP.out.engine HE5.out HF5.out);clear d0 d1 d2 d3 HPP HE5;have d1:=HP5.out.eng.cell HD1.out;have d2:=HP5.out.eng.cell HD2.out;have d3:=HP5.out.eng.cell HD3.out;replace hb:=Nat.lt_of_lt_of_le HB3.out HP5.out.eng.fr.size;have HPU:=AA (fun W (hf:Fr Nob w5 W)=>r23_Raise (HP5.out.ref.pure hf) (far1 (x,ks.tr)) a.n);unfold R23R at HPU;have HBX:=AA HP5.out.box;have HLT:=AA (fun k hk=>HP5.out.eng.lt k (.inl hk));generalize g.raise1 a.n=g5 at*;generalize decide (g.mark<a.n)=rb at*;generalize far1 (x,ks.tr)=far at*;go_cut [23,24] (fun bv v1 W=>∃r6 bz,bv=.pointer (some ⟨bz,0,none⟩)∧v1=.bool rb∧Blk W bz 43 (eV r6 x far g5)∧Bf (Dp L w5 W) W r6 x ks.tr g5∧Fr Nob w5 W)
       case first=>
        as_aux_lemma=>
         rename_i J9 K9 hJ9 hK9;refine wp_region_held_drew (S:=fun W=>Fr Nob w5 W) (by kernel_rfl) ((Fr.refl Nob w5).drew) (fun hHeld=>?_);refine AY (i:=0) (t:=219) rfl (by rfl) (by kernel_rfl) (by kernel_rfl) (by kernel_rfl) (fun _ _ _ h=>h) (DY (by rfl) rfl rfl (fun W hSw=>HBX.out.fr (show Fr Nob w5 W from hSw) (fun e=>e)) B6 (by exact Ae)) (by assumption) ?_;simp only[List.setIfInBounds_toArray,List.set_cons_zero,List.set_cons_succ];refine AY (i:=1) (t:=220) (v:=?_) rfl (by rfl) (by kernel_rfl) (by kernel_rfl) (by kernel_rfl) (fun _ _ _ h=>h) (Or.inl ⟨by rfl,?_⟩) (by assumption) ?_;rotate_left
         ·(intro W hSw;go_simp);all_goals with_reducible rfl
         simp only[List.setIfInBounds_toArray,List.set_cons_zero,List.set_cons_succ];refine AY (i:=2) (t:=221) (v:=?_) rfl (by rfl) (by kernel_rfl) (by kernel_rfl) (by kernel_rfl) (fun _ _ _ h=>h) (Or.inl ⟨by rfl,?_⟩) (by assumption) ?_;rotate_left
         ·(intro W hSw;go_simp);all_goals with_reducible rfl
         simp only[List.setIfInBounds_toArray,List.set_cons_zero,List.set_cons_succ];refine AY (i:=3) (t:=222) (v:=?_) rfl (by rfl) (by kernel_rfl) (by kernel_rfl) (by kernel_rfl) (fun _ _ _ h=>h) (Or.inl ⟨by rfl,?_⟩) (by assumption) ?_;rotate_left
         ·(intro W hSw;go_simp);all_goals with_reducible rfl
         simp only[List.setIfInBounds_toArray,List.set_cons_zero,List.set_cons_succ];refine AY (i:=4) (t:=223) (v:=?_) rfl (by rfl) (by kernel_rfl) (by kernel_rfl) (by kernel_rfl) (fun _ _ _ h=>h) (Or.inl ⟨by rfl,?_⟩) (by assumption) ?_;rotate_left
         ·(intro W hSw;go_simp);all_goals with_reducible rfl
         simp only[List.setIfInBounds_toArray,List.set_cons_zero,List.set_cons_succ];refine AY (i:=5) (t:=224) (v:=?_) rfl (by rfl) (by kernel_rfl) (by kernel_rfl) (by kernel_rfl) (fun _ _ _ h=>h) (Or.inl ⟨by rfl,?_⟩) (by assumption) ?_;rotate_left
         ·(intro W hSw;have kk:=Di (show Fr Nob w5 W from hSw) d1 d2 d3;have k1:=kk.1;have k2:=kk.2.1;have k3:=kk.2.2;clear kk;go_simp);all_goals with_reducible rfl
         simp only[List.setIfInBounds_toArray,List.set_cons_zero,List.set_cons_succ];refine wpAnyH_ready (rs:=[6,10]) (by kernel_rfl) (by simp) ?_;refine AllReadyH.cons rfl (fun K hK=>?_) (AllReadyH.cons rfl (fun K hK=>?_) AllReadyH.nil)
         ·skip;go_simp;(go_at_call 21);(with_reducible refine(HPU.out _ (show Fr Nob w5 _ from hHeld)).mono ?_);rintro e w6 ⟨rfl,hr6,hf6⟩;have HR6:=AA hr6;have HF6:=AA hf6;have z6:=hf6.size;clear hr6;go_simp;refine hK.out _ _ ?_ (fun hHeld=>?_);·exact(show Fr Nob w5 _ from hHeld).call hf6 (fun _ h _=>h)
          clear hK K;refine AY (i:=7) (t:=218) (v:=?_) rfl (by rfl) (by kernel_rfl) (by kernel_rfl) (by kernel_rfl) (fun _ _ _ h=>h) (Or.inl ⟨by rfl,?_⟩) (by assumption) ?_;rotate_left
          ·(intro W hSw;go_simp);all_goals with_reducible rfl
          simp only[List.setIfInBounds_toArray,List.set_cons_zero,List.set_cons_succ];refine AY (i:=8) (t:=226) (v:=?_) rfl (by rfl) (by kernel_rfl) (by kernel_rfl) (by kernel_rfl) (fun _ _ _ h=>h) (Or.inl ⟨by rfl,?_⟩) (by assumption) ?_;rotate_left
          ·(intro W hSw;go_simp);all_goals with_reducible rfl
          simp only[List.setIfInBounds_toArray,List.set_cons_zero,List.set_cons_succ];refine AY (i:=9) (t:=227) (v:=?_) rfl (by rfl) (by kernel_rfl) (by kernel_rfl) (by kernel_rfl) (fun _ _ _ h=>h) (Or.inl ⟨by rfl,?_⟩) (by assumption) ?_;rotate_left
          ·(intro W hSw;go_simp);all_goals with_reducible rfl
          simp only[List.setIfInBounds_toArray,List.set_cons_zero,List.set_cons_succ];refine wpAnyH_ready (rs:=[10]) (by kernel_rfl) (by simp) ?_;refine AllReadyH.cons rfl (fun K hK=>?_) AllReadyH.nil;go_simp;skip;refine hK.out _ _ ?_ (fun hHeld=>?_);·exact(show Fr Nob w5 _ from hHeld).alloc _
          clear hK K;refine wpAnyH_ready (rs:=[11]) (by kernel_rfl) (by simp) ?_;refine AllReadyH.cons rfl (fun K hK=>?_) AllReadyH.nil;rw [if_pos (by rfl)];refine ED rfl (by rfl) (by rfl) (by rfl) (by exact Ae) (by rfl) (Blk.new w6 _ _) (by rfl) ?_;intro W7 hb7 hf7;refine hK.out _ _ ?_ (fun hHeld=>?_);·exact(show Fr Nob w5 _ from hHeld).call hf7 (fun k (hk:k=w6.heap.size) hlt=>by have hd:w5.heap.size≤w6.heap.size:=z6;omega)
          clear hK K;refine AY (i:=12) (t:=24) (v:=?_) rfl (by rfl) (by kernel_rfl) (by kernel_rfl) (by kernel_rfl) (fun _ _ _ h=>h) (Or.inl ⟨by rfl,?_⟩) (by assumption) ?_;rotate_left
          ·(intro W hSw;go_simp);all_goals with_reducible rfl
          simp only[List.setIfInBounds_toArray,List.set_cons_zero,List.set_cons_succ];refine wpAnyH_done (by kernel_rfl) ?_ _;refine hK9 _ _ (hJ9 _ _ ?_);(repeat apply Exists.intro);refine ⟨?_,rfl⟩;exact ⟨r,w6.heap.size,rfl,rfl,hb7,refA (HR6.out.mono fun k hk=>.inl hk) (Nat.le_refl w5.heap.size) z6 (((Fr.refl (Ah w6.heap.size) w6).alloc _).call hf7 (fun _ h _=>h)) (fun k (hk:k=w6.heap.size)=>.inl (by omega)) HLT.out,(show Fr Nob w5 _ from hHeld)⟩
         ·skip;go_simp;skip;refine hK.out _ _ ?_ (fun hHeld=>?_);·exact(show Fr Nob w5 _ from hHeld).alloc _
          clear hK K;refine wpAnyH_ready (rs:=[6]) (by kernel_rfl) (by simp) ?_;refine AllReadyH.cons rfl (fun K hK=>?_) AllReadyH.nil;go_simp;(go_at_call 21);(with_reducible refine(HPU.out _ (show Fr Nob w5 _ from hHeld)).mono ?_);rintro e w6 ⟨rfl,hr6,hf6⟩;have HR6:=AA hr6;have HF6:=AA hf6;have z6:=hf6.size;clear hr6;go_simp;refine hK.out _ _ ?_ (fun hHeld=>?_);·exact(show Fr Nob w5 _ from hHeld).call hf6 (fun _ h _=>h)
          clear hK K;refine AY (i:=7) (t:=218) (v:=?_) rfl (by rfl) (by kernel_rfl) (by kernel_rfl) (by kernel_rfl) (fun _ _ _ h=>h) (Or.inl ⟨by rfl,?_⟩) (by assumption) ?_;rotate_left
          ·(intro W hSw;go_simp);all_goals with_reducible rfl
          simp only[List.setIfInBounds_toArray,List.set_cons_zero,List.set_cons_succ];refine AY (i:=8) (t:=226) (v:=?_) rfl (by rfl) (by kernel_rfl) (by kernel_rfl) (by kernel_rfl) (fun _ _ _ h=>h) (Or.inl ⟨by rfl,?_⟩) (by assumption) ?_;rotate_left
          ·(intro W hSw;go_simp);all_goals with_reducible rfl
          simp only[List.setIfInBounds_toArray,List.set_cons_zero,List.set_cons_succ];refine AY (i:=9) (t:=227) (v:=?_) rfl (by rfl) (by kernel_rfl) (by kernel_rfl) (by kernel_rfl) (fun _ _ _ h=>h) (Or.inl ⟨by rfl,?_⟩) (by assumption) ?_;rotate_left
          ·(intro W hSw;go_simp);all_goals with_reducible rfl
          simp only[List.setIfInBounds_toArray,List.set_cons_zero,List.set_cons_succ];have hzb:Blk w6 w5.heap.size 43 #[.int .i64 0,.string ⟨#[]⟩,.int .i64 0,.int .i64 0,.int .i64 0,.int .i64 0,.slice none 0 0,.int .i64 0,.string ⟨#[]⟩,.int .i64 0,.int .i64 0,.int .i64 0,.int .i64 0,.slice none 0 0,.int .i64 0,.slice none 0 0,.slice none 0 0,.int .i64 0,.int .i64 0]:=(Blk.new w5.drew 43 #[.int .i64 0,.string ⟨#[]⟩,.int .i64 0,.int .i64 0,.int .i64 0,.int .i64 0,.slice none 0 0,.int .i64 0,.string ⟨#[]⟩,.int .i64 0,.int .i64 0,.int .i64 0,.int .i64 0,.slice none 0 0,.int .i64 0,.slice none 0 0,.slice none 0 0,.int .i64 0,.int .i64 0]).fr HF6.out (fun e=>e);have hs5:w5.heap.size+1≤w6.heap.size:=by simpa using z6
          refine wpAnyH_ready (rs:=[11]) (by kernel_rfl) (by simp) ?_;refine AllReadyH.cons rfl (fun K hK=>?_) AllReadyH.nil;rw [if_pos (by rfl)];refine ED rfl (by rfl) (by rfl) (by rfl) (by exact Ae) (by rfl) hzb (by rfl) ?_;intro W7 hb7 hf7;refine hK.out _ _ ?_ (fun hHeld=>?_);·exact(show Fr Nob w5 _ from hHeld).call hf7 (fun k (hk:k=w5.heap.size) hlt=>by omega)
          clear hK K;refine AY (i:=12) (t:=24) (v:=?_) rfl (by rfl) (by kernel_rfl) (by kernel_rfl) (by kernel_rfl) (fun _ _ _ h=>h) (Or.inl ⟨by rfl,?_⟩) (by assumption) ?_;rotate_left
          ·(intro W hSw;go_simp);all_goals with_reducible rfl
          simp only[List.setIfInBounds_toArray,List.set_cons_zero,List.set_cons_succ];refine wpAnyH_done (by kernel_rfl) ?_ _;refine hK9 _ _ (hJ9 _ _ ?_);(repeat apply Exists.intro);refine ⟨?_,rfl⟩;exact ⟨r,w5.heap.size,rfl,rfl,hb7,refA (HR6.out.mono fun k hk=>.inl hk) (by simp) z6 hf7 (fun k (hk:k=w5.heap.size)=>.inr ⟨by omega,by simp;omega⟩) HLT.out,(show Fr Nob w5 _ from hHeld)⟩
       case rest=>
        obtain⟨r6,bz,rfl,rfl,hbz,hr6,hf6⟩:=hcut;have HBZ:=AA hbz;have HR6:=AA hr6;have HF6:=AA hf6;have HBX9:=AA (HBX.out.fr hf6 (fun e=>e));clear hbz hr6 hf6 d1 d2 d3
        go_wp2_with (first
         |(refine Aj rfl rfl (by rfl) B6 (by exact Ae) HBZ.out ?_)
         |(refine AB rfl rfl (by rfl) (by rfl) (by exact Ae) (by rfl) (by exact HBX9.out) (by rfl) ?_;intro W7 hb7 hf7;have HB7:=AA hb7;have HF7:=AA hf7;clear hb7 hf7)
         |fail);go_meet;exact ⟨g5,r6,_,HP5.out.turn HF6.out HR6.out HF7.out HB7.out,HBN.out⟩
     ·as_aux_lemma=>
       have HPP:=AA (s_Next hE.out HB8.out HFK.out HV4.out HT4.out);have hd1b:(a.do_==1)=false:=by simpa using hd1
       have HBN:=AA (show CQ (g.next1 (madeS x ks.tr)).W (k+1) (10*(k+1)) by rw[EG.next1_W];exact HBK.out.mono (by omega) (by omega));have HPU:=AA (fun w5 (hr:Bf L w5 r x ks.tr g)=>r23_Next hr HGK.out HB8.out HG.out (far1 (x,ks.tr)));unfold SNext at HPP;unfold N23R at HPU;clear hd0 hd1;generalize g.next1 (madeS x ks.tr)=g5 at*;generalize (g.nextV (madeS x ks.tr) !=2)=nb at*;generalize (if g.nextV (madeS x ks.tr)=2 then((0:Int),(0:Int),false) else(tAt g.W g.told,xAt g.S g.told,g.nextV (madeS x ks.tr)==1))=trip at*;generalize far1 (x,ks.tr)=far at*
       go_upto_region 21 with(first
        |((go_at_call 15);(with_reducible refine(HPP.out).mono ?_);rintro e w4 ⟨⟨a1,s1,y1,rfl,has⟩,hE5,hf5⟩;have HAS:=AA has;have HP4:=AA (HP.out.engine hE5 hf5);clear has hE5 hf5)
        |fail);clear d0 d1 d2 d3 HPP;obtain ⟨w5,hw5⟩:∃w5,w5=w4.alloc (.cells #[.int .i64 a1,.int .i64 s1,.bool y1] 50):=⟨_,rfl⟩;have HV5:=AA (show Blk w5 w4.heap.size 50 #[.int .i64 a1,.int .i64 s1,.bool y1] by rw[hw5];exact Blk.new _ _ _);have HP5:=AA (show PlS w3 w5 E bx x ks.tr far g5 g r L by rw[hw5];exact HP4.out.pure ((Fr.refl Nob w4).alloc _));rw [←hw5];have hb5:bx<w5.heap.size:=HP5.out.box.lt;clear hw5;have HBX:=AA HP5.out.box
       go_upto_region 22 with(first
        |(refine Aj rfl rfl (by rfl) B6 (by exact Ae) HBX.out ?_)
        |((go_at_call 22);(with_reducible refine(HPU.out _ HP5.out.ref).mono ?_);rintro e w6 ⟨a2,s2,y2,rfl,has2,hr6,hf6⟩;have HR6:=AA hr6;have HF6:=AA hf6;have heq:=HAS.out.trans has2.symm;simp only[Prod.mk.injEq] at heq;obtain⟨rfl,rfl,rfl⟩:=heq;clear has2 hr6 hf6)
        |(refine AB rfl rfl (by rfl) (by rfl) (by exact Ae) (by rfl) (by exact((Blk.new w6 _ _).alloc _)) (by rfl) ?_;intro W7 hb7 hf7;have HB7:=AA hb7;have HF7:=AA hf7;have HV7:=AA (show Blk W7 (w6.heap.size+1) 64 #[.int .i64 0,.int .i64 0,.bool false] from Blk.fr (w:=(w6.alloc (.cells #[.int .i64 0,.string ⟨#[]⟩,.int .i64 0,.int .i64 0,.int .i64 0,.int .i64 0,.slice none 0 0,.int .i64 0,.string ⟨#[]⟩,.int .i64 0,.int .i64 0,.int .i64 0,.int .i64 0,.slice none 0 0,.int .i64 0,.slice none 0 0,.slice none 0 0,.int .i64 0,.int .i64 0] 43)).alloc (.cells #[.int .i64 0,.int .i64 0,.bool false] 64)) (Blk.new_eq (by simp)) hf7 (fun (e:w6.heap.size+1=w6.heap.size)=>by omega));clear hb7 hf7)
        |(refine AB rfl rfl (by rfl) (by rfl) (by exact C0) (by rfl) (by exact HV7.out) (by rfl) ?_;intro W8 hb8 hf8;have HV8:=AA hb8;have HF8:=AA hf8;clear hb8 hf8)
        |fail);have hz6:=HF6.out.size;have HF68:=AA (show Fr Nob w6 W8 from((((Fr.refl Nob w6).alloc _).alloc _).call HF7.out (fun k (hk:k=w6.heap.size) hlt=>by omega)).call HF8.out (fun k (hk:k=w6.heap.size+1) hlt=>by omega));have HB8b:=AA (HB7.out.fr HF8.out (fun (e:w6.heap.size=w6.heap.size+1)=>by omega));have HBX8:=AA ((HBX.out.fr HF6.out (fun e=>e)).fr HF68.out (fun e=>e));have HVE8:=AA ((HV5.out.fr HF6.out (fun e=>e)).fr HF68.out (fun e=>e));have HR8:=AA ((HR6.out.mono (L':=Dp L w5 W8) (fun k hk=>.inl hk)).pure HF68.out);have HF58:=AA (HF6.out.call HF68.out (fun _ h _=>h));have hw45:w4.heap.size≠bx:=fun e=>by have h9:=HP4.out.box.lt;omega
       clear HB7 HV7 HF7 HR6
       go_upto_region 23 with(first
        |(refine Aj rfl rfl (by rfl) B6 (by exact Ae) HB8b.out ?_)
        |(refine AB rfl rfl (by rfl) (by rfl) (by exact Ae) (by rfl) (by exact HBX8.out) (by rfl) ?_;intro W9 hb9 hf9;have HB9:=AA hb9;have HF9:=AA hf9;clear hb9 hf9)
        |fail);have hv1:=HVE8.out.fr HF9.out hw45;have hv2:=HV8.out.fr HF9.out (fun (e:w6.heap.size+1=bx)=>by omega);have e0:W9.cell? ⟨w4.heap.size,0,none⟩=some (.int .i64 a1):=hv1.cell 0;have e1:W9.cell? ⟨w4.heap.size,1,none⟩=some (.int .i64 s1):=hv1.cell 1;have e2:W9.cell? ⟨w4.heap.size,2,none⟩=some (.bool y1):=hv1.cell 2;have f0:W9.cell? ⟨w6.heap.size+1,0,none⟩=some (.int .i64 a1):=hv2.cell 0;have f1:W9.cell? ⟨w6.heap.size+1,1,none⟩=some (.int .i64 s1):=hv2.cell 1;have f2:W9.cell? ⟨w6.heap.size+1,2,none⟩=some (.bool y1):=hv2.cell 2;have e9:=hv1.lt;have f9:=hv2.lt;clear hv1 hv2;go_wp2_with fail;go_meet;exact ⟨g5,r,_,HP5.out.turn HF58.out HR8.out HF9.out HB9.out,HBN.out⟩
   case rest=>
    as_aux_lemma=>
     obtain⟨g,r,L,hP,hB⟩:=hcut;have HP:=AA hP;have HBN:=AA hB;have HB8:=AA (hB.mono (n':=800) (m':=800) (by omega) (by omega));obtain ⟨W1,rfl⟩:∃W,W=wc:=⟨_,rfl⟩;have HLV:=AA (s_Live hP.eng HB8.out HFK.out HV4.out);have HRV:=AA (fun W (hf:Fr Nob W1 W)=>r23_Live (HP.out.ref.pure hf) HP.out.eng.ok HB8.out HFK.out (far1 (x,ks.tr)));clear hP hB;have hll:(g.lives (x,ks.tr)).length≤800:=by rw[DU];unfold EG.live;rw[List.length_drop];have:=HB8.out.1;omega
     unfold LiveR at HLV;unfold L23R at HRV;generalize g.lives (x,ks.tr)=LV at*
     go_upto_region 39 with(first
      |((go_at_call 17);(with_reducible refine(HLV.out).mono ?_);rintro e w4 ⟨LA,lc,rfl,hls,hf4,-⟩;have HLS:=AA hls;have HF4b:=AA hf4;clear hls hf4)
      |(refine Aj rfl rfl (by rfl) B6 (by exact Ae) (HP.out.box.fr HF4b.out (fun e=>e)) ?_)
      |((go_at_call 23);(with_reducible refine(HRV.out _ HF4b.out).mono ?_);rintro e w5 ⟨RA,rc,rfl,hrs,hf5⟩;have HRS:=AA hrs;have HF5:=AA hf5;clear hrs hf5)
      |fail);have HP5:=AA (HP.out.pure (HF4b.out.call HF5.out (fun _ h _=>h)));have HLS5:=AA (HLS.out.pure HF5.out);have HBX:=AA HP5.out.box;have hb5:bx<w5.heap.size:=HP5.out.box.lt;clear d0 d1 d2 d3 HLS HF4b HLV HRV HP;go_cut [261] (fun bv W=>bv=.bool false∧Fr Nob w5 W)
     case first=>
      as_aux_lemma=>
       rename_i J9 K9 hJ9 hK9;refine wp_region_held_drew (S:=fun W=>Fr Nob w5 W) (by kernel_rfl) ((Fr.refl Nob w5).drew) (fun hHeld=>?_);refine AY (i:=0) (t:=236) (v:=?_) rfl (by rfl) (by kernel_rfl) (by kernel_rfl) (by kernel_rfl) (fun _ _ _ h=>h) (Or.inl ⟨by rfl,?_⟩) (by assumption) ?_;rotate_left
       ·(intro W hSw;go_simp);all_goals with_reducible rfl
       simp only[List.setIfInBounds_toArray,List.set_cons_zero,List.set_cons_succ];refine AY (i:=1) (t:=237) (v:=?_) rfl (by rfl) (by kernel_rfl) (by kernel_rfl) (by kernel_rfl) (fun _ _ _ h=>h) (Or.inl ⟨by rfl,?_⟩) (by assumption) ?_;rotate_left
       ·(intro W hSw;go_simp);all_goals with_reducible rfl
       simp only[List.setIfInBounds_toArray,List.set_cons_zero,List.set_cons_succ];refine AY (i:=2) (t:=238) (v:=?_) rfl (by rfl) (by kernel_rfl) (by kernel_rfl) (by kernel_rfl) (fun _ _ _ h=>h) (Or.inl ⟨by rfl,?_⟩) (by assumption) ?_;rotate_left
       ·(intro W hSw;go_simp);all_goals with_reducible rfl
       simp only[List.setIfInBounds_toArray,List.set_cons_zero,List.set_cons_succ];refine AY (i:=3) (t:=239) (v:=?_) rfl (by rfl) (by kernel_rfl) (by kernel_rfl) (by kernel_rfl) (fun _ _ _ h=>h) (Or.inl ⟨by rfl,?_⟩) (by assumption) ?_;rotate_left
       ·(intro W hSw;go_simp);all_goals with_reducible rfl
       simp only[List.setIfInBounds_toArray,List.set_cons_zero,List.set_cons_succ];refine AY (i:=4) (t:=240) (v:=?_) rfl (by rfl) (by kernel_rfl) (by kernel_rfl) (by kernel_rfl) (fun _ _ _ h=>h) (Or.inl ⟨by rfl,?_⟩) (by assumption) ?_;rotate_left
       ·(intro W hSw;go_simp);all_goals with_reducible rfl
       simp only[List.setIfInBounds_toArray,List.set_cons_zero,List.set_cons_succ];refine AY (i:=5) (t:=241) (v:=?_) rfl (by rfl) (by kernel_rfl) (by kernel_rfl) (by kernel_rfl) (fun _ _ _ h=>h) (Or.inl ⟨by rfl,?_⟩) (by assumption) ?_;rotate_left
       ·(intro W hSw;go_simp);all_goals with_reducible rfl
       simp only[List.setIfInBounds_toArray,List.set_cons_zero,List.set_cons_succ];refine AY (i:=6) (t:=242) (v:=?_) rfl (by rfl) (by kernel_rfl) (by kernel_rfl) (by kernel_rfl) (fun _ _ _ h=>h) (Or.inl ⟨by rfl,?_⟩) (by assumption) ?_;rotate_left
       ·(intro W hSw;go_simp);all_goals with_reducible rfl
       simp only[List.setIfInBounds_toArray,List.set_cons_zero,List.set_cons_succ];refine AY (i:=8) (t:=244) (v:=?_) rfl (by rfl) (by kernel_rfl) (by kernel_rfl) (by kernel_rfl) (fun _ _ _ h=>h) (Or.inl ⟨by rfl,?_⟩) (by assumption) ?_;rotate_left
       ·(intro W hSw;go_simp);all_goals with_reducible rfl
       simp only[List.setIfInBounds_toArray,List.set_cons_zero,List.set_cons_succ];refine AY (i:=9) (t:=245) (v:=?_) rfl (by rfl) (by kernel_rfl) (by kernel_rfl) (by kernel_rfl) (fun _ _ _ h=>h) (Or.inl ⟨by rfl,?_⟩) (by assumption) ?_;rotate_left
       ·(intro W hSw;have c18:W.cell? ⟨bx,18,none⟩=some (.int .i64 g.mark):=(HBX.out.fr (show Fr Nob w5 W from hSw) (fun e=>e)).cell 18;go_simp);all_goals with_reducible rfl
       simp only[List.setIfInBounds_toArray,List.set_cons_zero,List.set_cons_succ];refine wpAnyH_ready (rs:=[7]) (by kernel_rfl) (by simp) ?_;refine AllReadyH.cons rfl (fun K hK=>?_) AllReadyH.nil;go_simp;(go_at_call 18);(with_reducible refine(s_Mark (HP5.out.eng.pure (show Fr Nob w5 _ from hHeld))).mono ?_);rintro e w6 ⟨rfl,rfl⟩;go_simp;refine hK.out _ _ ?_ (fun hHeld=>?_);·exact(show Fr Nob w5 _ from hHeld)
       clear hK K;refine AY (i:=10) (t:=246) (v:=?_) rfl (by rfl) (by kernel_rfl) (by kernel_rfl) (by kernel_rfl) (fun _ _ _ h=>h) (Or.inl ⟨by rfl,?_⟩) (by assumption) ?_;rotate_left
       ·(intro W hSw;go_simp);all_goals with_reducible rfl
       simp only[List.setIfInBounds_toArray,List.set_cons_zero,List.set_cons_succ];refine AY (i:=11) (t:=247) (v:=?_) rfl (by rfl) (by kernel_rfl) (by kernel_rfl) (by kernel_rfl) (fun _ _ _ h=>h) (Or.inl ⟨by rfl,?_⟩) (by assumption) ?_;rotate_left
       ·(intro W hSw;go_simp);all_goals with_reducible rfl
       simp only[List.setIfInBounds_toArray,List.set_cons_zero,List.set_cons_succ];refine AY (i:=12) (t:=248) (v:=?_) rfl (by rfl) (by kernel_rfl) (by kernel_rfl) (by kernel_rfl) (fun _ _ _ h=>h) (Or.inl ⟨by rfl,?_⟩) (by assumption) ?_;rotate_left
       ·(intro W hSw;go_simp);all_goals with_reducible rfl
       simp only[List.setIfInBounds_toArray,List.set_cons_zero,List.set_cons_succ];refine AY (i:=13) (t:=249) (v:=?_) rfl (by rfl) (by kernel_rfl) (by kernel_rfl) (by kernel_rfl) (fun _ _ _ h=>h) (Or.inl ⟨by rfl,?_⟩) (by assumption) ?_;rotate_left
       ·(intro W hSw;go_simp);all_goals with_reducible rfl
       simp only[List.setIfInBounds_toArray,List.set_cons_zero,List.set_cons_succ];refine AY (i:=15) (t:=251) rfl (by rfl) (by kernel_rfl) (by kernel_rfl) (by kernel_rfl) (fun _ _ _ h=>h) (DY (by rfl) rfl rfl (fun W hSw=>HBX.out.fr (show Fr Nob w5 W from hSw) (fun e=>e)) B6 (by exact Ae)) (by assumption) ?_;simp only[List.setIfInBounds_toArray,List.set_cons_zero,List.set_cons_succ];refine wpAnyH_ready (rs:=[14]) (by kernel_rfl) (by simp) ?_;refine AllReadyH.cons rfl (fun K hK=>?_) AllReadyH.nil;go_simp;(go_at_call 19);(with_reducible refine(s_Top (HP5.out.eng.pure (show Fr Nob w5 _ from hHeld))).mono ?_);rintro e w6 ⟨rfl,rfl⟩;go_simp;refine hK.out _ _ ?_ (fun hHeld=>?_);·exact(show Fr Nob w5 _ from hHeld)
       clear hK K;refine wpAnyH_ready (rs:=[16]) (by kernel_rfl) (by simp) ?_;refine AllReadyH.cons rfl (fun K hK=>?_) AllReadyH.nil;go_simp;(go_at_call 24);(with_reducible refine(r23_Top (HP5.out.ref.pure (show Fr Nob w5 _ from hHeld)) _).mono ?_);rintro e w6 ⟨rfl,hf6⟩;go_simp;refine hK.out _ _ ?_ (fun hHeld=>?_);·exact(show Fr Nob w5 _ from hHeld).call hf6 (fun _ h _=>h)
       clear hK K;refine AY (i:=17) (t:=253) (v:=?_) rfl (by rfl) (by kernel_rfl) (by kernel_rfl) (by kernel_rfl) (fun _ _ _ h=>h) (Or.inl ⟨by rfl,?_⟩) (by assumption) ?_;rotate_left
       ·(intro W hSw;go_simp);all_goals with_reducible rfl
       simp only[List.setIfInBounds_toArray,List.set_cons_zero,List.set_cons_succ];refine AY (i:=18) (t:=254) (v:=?_) rfl (by rfl) (by kernel_rfl) (by kernel_rfl) (by kernel_rfl) (fun _ _ _ h=>h) (Or.inl ⟨by rfl,?_⟩) (by assumption) ?_;rotate_left
       ·(intro W hSw;go_simp);all_goals with_reducible rfl
       simp only[List.setIfInBounds_toArray,List.set_cons_zero,List.set_cons_succ];refine AY (i:=19) (t:=255) (v:=?_) rfl (by rfl) (by kernel_rfl) (by kernel_rfl) (by kernel_rfl) (fun _ _ _ h=>h) (Or.inl ⟨by rfl,?_⟩) (by assumption) ?_;rotate_left
       ·(intro W hSw;go_simp);all_goals with_reducible rfl
       simp only[List.setIfInBounds_toArray,List.set_cons_zero,List.set_cons_succ];refine AY (i:=20) (t:=256) (v:=?_) rfl (by rfl) (by kernel_rfl) (by kernel_rfl) (by kernel_rfl) (fun _ _ _ h=>h) (Or.inl ⟨by rfl,?_⟩) (by assumption) ?_;rotate_left
       ·(intro W hSw;go_simp);all_goals with_reducible rfl
       simp only[List.setIfInBounds_toArray,List.set_cons_zero,List.set_cons_succ];refine AY (i:=22) (t:=258) (v:=?_) rfl (by rfl) (by kernel_rfl) (by kernel_rfl) (by kernel_rfl) (fun _ _ _ h=>h) (Or.inl ⟨by rfl,?_⟩) (by assumption) ?_;rotate_left
       ·(intro W hSw;go_simp);all_goals with_reducible rfl
       simp only[List.setIfInBounds_toArray,List.set_cons_zero,List.set_cons_succ];refine AY (i:=23) (t:=259) (v:=?_) rfl (by rfl) (by kernel_rfl) (by kernel_rfl) (by kernel_rfl) (fun _ _ _ h=>h) (Or.inl ⟨by rfl,?_⟩) (by assumption) ?_;rotate_left
       ·(intro W hSw;have c14:W.cell? ⟨bx,14,none⟩=some (.int .i64 (far1 (x,ks.tr))):=(HBX.out.fr (show Fr Nob w5 W from hSw) (fun e=>e)).cell 14;go_simp);all_goals with_reducible rfl
       simp only[List.setIfInBounds_toArray,List.set_cons_zero,List.set_cons_succ];refine wpAnyH_ready (rs:=[21]) (by kernel_rfl) (by simp) ?_;refine AllReadyH.cons rfl (fun K hK=>?_) AllReadyH.nil;go_simp;(go_at_call 25);(with_reducible refine(s_Horizon (HP5.out.eng.pure (show Fr Nob w5 _ from hHeld))).mono ?_);rintro e w6 ⟨rfl,rfl⟩;go_simp;refine hK.out _ _ ?_ (fun hHeld=>?_);·exact(show Fr Nob w5 _ from hHeld)
       clear hK K;refine AY (i:=24) (t:=260) (v:=?_) rfl (by rfl) (by kernel_rfl) (by kernel_rfl) (by kernel_rfl) (fun _ _ _ h=>h) (Or.inl ⟨by rfl,?_⟩) (by assumption) ?_;rotate_left
       ·(intro W hSw;go_simp);all_goals with_reducible rfl
       simp only[List.setIfInBounds_toArray,List.set_cons_zero,List.set_cons_succ];refine AY (i:=25) (t:=261) (v:=?_) rfl (by rfl) (by kernel_rfl) (by kernel_rfl) (by kernel_rfl) (fun _ _ _ h=>h) (Or.inl ⟨by rfl,?_⟩) (by assumption) ?_;rotate_left
       ·(intro W hSw;go_simp);all_goals with_reducible rfl
       simp only[List.setIfInBounds_toArray,List.set_cons_zero,List.set_cons_succ];refine wpAnyH_done (by kernel_rfl) ?_ _;refine hK9 _ _ (hJ9 _ _ ?_);(repeat apply Exists.intro);refine ⟨?_,rfl⟩;exact ⟨rfl,(show Fr Nob w5 _ from hHeld)⟩
     case rest=>
      obtain⟨rfl,hf8⟩:=hcut;have HF8:=AA hf8;clear hf8;obtain ⟨W2,rfl⟩:∃W,W=wc:=⟨_,rfl⟩;go_wp2_with fail;go_loopw [32] (fun jv wq=>∃j:Nat,j≤LV.length∧jv=.int .i64 j∧Hid (Fr Nob W2 wq)) (fun jv _=>LV.length-(RowKit.intOf jv).toNat);case atStart=>exact⟨0,Nat.zero_le _,rfl,AA (Fr.refl _ _)⟩
      case round=>
       obtain⟨j,hj,rfl,hq⟩:=hrel;have HQ5:=AA (HF8.out.call hq.out (fun _ h _=>h));by_cases hjl:j<LV.length
       ·have hJ:(j:Int)<LV.length:=by omega
        have hJ3:(0:Int)≤j:=by omega
        obtain⟨b1,o1,hA1,hb1,hc1⟩:=Sl.row (size:=3) vdc_len (HLS5.out.pure HQ5.out) hjl;obtain ⟨b2,o2,hA2,hb2,hc2⟩:=Sl.row (size:=3) vdc_len (HRS.out.pure HQ5.out) hjl;clear hc1 hc2;subst hA1 hA2;obtain ⟨-,e0,e1,e2⟩:=vd_cellsP (HLS5.out.pure HQ5.out) hjl rfl;obtain ⟨-,f0,f1,f2⟩:=vd_cellsP (HRS.out.pure HQ5.out) hjl rfl;generalize LV[j]=vd at*;obtain ⟨va,vs,vy⟩:=vd;dsimp only at e0 e1 e2 f0 f1 f2;go_upto_region 44 with fail;go_quiet (fail);go_wp2_with fail;go_roundw;case rel=>exact⟨j+1,by omega,by go_num,AA (hq.out.drewN _)⟩
        case measure=>simp[RowKit.intOf];omega
       ·have hjl3:¬(j:Int)<LV.length:=by omega
        have HPZ:=AA (HP5.out.pure HQ5.out);go_wp2_with fail;go_roundw;case rel=>exact⟨k+1,by omega,by go_num,AA ⟨g,r,L,HPZ.out,HBN.out⟩⟩
        case measure=>simp[RowKit.intOf];omega
  ·have hk9:¬(k:Int)<al.length:=by omega
   have HFZ:=AA (HF2.out.call hE.out.fr (fun _ h _=>h));go_wp2_with fail;go_ret;exact ⟨rfl,HFZ.out⟩
end Go.Proofs.YtoegdmpmagbaiaaGreatDoor
