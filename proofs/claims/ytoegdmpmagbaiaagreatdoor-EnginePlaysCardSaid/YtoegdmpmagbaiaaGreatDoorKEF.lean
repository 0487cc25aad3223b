/- The laws of engine: acts; few, short; what stays of tables. -/
import Derived.Test.YtoegdmpmagbaiaaGreatDoorKED
import Derived.Test.YtoegdmpmagbaiaaGreatDoorKEE
import Derived.Test.YtoegdmpmagbaiaaGreatDoorKT
set_option maxHeartbeats 8000000
set_option maxRecDepth 100000
namespace Go.Proofs.YtoegdmpmagbaiaaGreatDoor
open Go.RowKit Go.Lib
structure Ac where
 do_:Int
 t:Int
 A:Option Addr
 c:Nat
 l:List PP
 n:Int
def acc (a:Ac):List Value:=[.int .u8 a.do_,.int .i64 a.t,.slice a.A a.l.length a.c,.int .i64 a.n]
theorem acc_len (a:Ac):(acc a).length=4:=rfl
structure ASl (w:World) (A:Option Addr) (c:Nat) (al:List Ac):Prop where
 sl:Sl w 4 A al.length c (al.flatMap acc)
 inn:∀a∈al,Sl w 2 a.A a.l.length a.c (a.l.flatMap pcs)
section
variable {w w':World} {A:Option Addr} {c:Nat} {al:List Ac}
theorem ASl.pure (h:ASl w A c al)(hf:Fr Nob w w'):ASl w' A c al:=⟨h.sl.pure hf,fun p hp=>(h.inn p hp).pure hf⟩
theorem ASl.far {N:Nat}{S:Nat→Prop}(h:ASl w A c al)(hl:∀k,k<N→¬S k)(ht:∀b off,A=some ⟨b,off,none⟩→0<al.length→b<N)(hi:∀a∈al,∀b off,a.A=some ⟨b,off,none⟩→0<a.l.length→b<N)(hf:Fr S w w'):ASl w' A c al:=
 ⟨h.sl.fr hf fun b off e hn=>hl b (ht b off e hn),fun p hp=>(h.inn p hp).fr hf fun b off e hn=>hl b (hi p hp b off e hn)⟩
theorem ASl.at_ (h:ASl w A c al){k:Nat}(hk:k<al.length):∃b off,A=some ⟨b,off,none⟩∧b<w.heap.size∧w.cell? ⟨b,off+k*4,none⟩=some (.int .u8 al[k].do_)∧w.cell? ⟨b,off+k*4+1,none⟩=some (.int .i64 al[k].t)∧w.cell? ⟨b,off+k*4+2,none⟩=some (.slice al[k].A al[k].l.length al[k].c)∧w.cell? ⟨b,off+k*4+3,none⟩=some (.int .i64 al[k].n):=by
 obtain⟨b,off,hA,hb,hc⟩:=Sl.row (size:=4) acc_len h.sl hk;exact ⟨b,off,hA,hb,by simpa using hc 0 _ rfl,by simpa[Nat.add_assoc] using hc 1 _ rfl,by simpa[Nat.add_assoc] using hc 2 _ rfl,by simpa[Nat.add_assoc] using hc 3 _ rfl⟩
theorem Sl.below {size n c:Nat}{xs:List Value}(h:Sl w size A n c xs):∀b off,A=some ⟨b,off,none⟩→0<n→b<w.heap.size:=fun b off e hn=>by
 obtain⟨b',off',e',hb,_⟩:=h.cells hn;rw [e] at e';simp only[Option.some.injEq,Addr.mk.injEq,and_true] at e';rw [e'.1];exact hb
theorem ASl.below (h:ASl w A c al){N:Nat}(hN:w.heap.size≤N):(∀b off,A=some ⟨b,off,none⟩→0<al.length→b<N)∧∀a∈al,∀b off,a.A=some ⟨b,off,none⟩→0<a.l.length→b<N:=
 ⟨fun b off e hn=>Nat.lt_of_lt_of_le (h.sl.below b off e hn) hN,fun a ha b off e hn=>Nat.lt_of_lt_of_le ((h.inn a ha).below b off e hn) hN⟩
end
theorem BR.far {w0 w w':World}{N:Nat}{S:Nat→Prop}(h0:BR w0)(hN:w0.heap.size≤N)(h:BR w)(hf:Fr S w w')(hS:∀k,S k→N≤k):BR w':=by
 have hlt:3<w0.heap.size:=World.block_lt_of_cell? w0 _ (h0 0 (by decide)).1;have hn:¬S 3:=fun e=>by have:=hS _ e;omega
 exact fun k hk=>⟨hf.cell (h k hk).1 hn,hf.cell (h k hk).2.1 hn,hf.cell (h k hk).2.2.1 hn,hf.cell (h k hk).2.2.2 hn⟩
theorem Cj.far {w0 w w':World}{N:Nat}{S:Nat→Prop}(h0:Cj w0)(hN:w0.heap.size≤N)(h:Cj w)(hf:Fr S w w')(hS:∀k,S k→N≤k):Cj w':=by
 have l1:0<w0.heap.size:=World.block_lt_of_cell? w0 _ (h0.not 0 (.inl rfl));have l2:1<w0.heap.size:=World.block_lt_of_cell? w0 _ (h0.and 0 0 (.inl rfl) (.inl rfl));have l3:2<w0.heap.size:=World.block_lt_of_cell? w0 _ (h0.iff 0 0 (.inl rfl) (.inl rfl));exact ⟨fun v a=>hf.cell (h.not v a) (fun e=>by have:N≤0:=hS _ e;omega),fun v u a b=>hf.cell (h.and v u a b) (fun e=>by have:N≤1:=hS _ e;omega),fun v u a b=>hf.cell (h.iff v u a b) (fun e=>by have:N≤2:=hS _ e;omega)⟩
def FewA (al:List Ac):Prop:=al.length≤24∧∀a∈al,OkL a.l
theorem l23_short (w:World)(A:Option Addr)(c:Nat)(l:List PP)(hl:Sl w 2 A l.length c (l.flatMap pcs))(b0:Bool)(hb0:b0=true↔OkL l):
 Calls Tryz.prog 37 #[.slice A l.length c] w fun e w'=>e=.returned (.bool b0)∧w'=w:=by
 have HXF:=AA (fun (h:¬OkL l)=>show b0=false from Bool.eq_false_iff.2 (fun e=>h (hb0.1 e)));have HXT:=AA hb0.2;have HL:=AA hl;have hmax:=hl.max;have hle:=hl.le;unfold maxLen at hmax;clear hb0 hl;by_cases h10:10<l.length
 ·have hI:(10:Int)<l.length:=by omega
  go_enter Tryz.func37,Tryz.ntmps37;go_wp2_with fail;go_ret;exact ⟨by have hb9:=HXF.out (fun h=>by have:=h.1;omega);subst hb9;rfl,rfl⟩
 ·have hI:(l.length:Int)≤10:=by omega
  go_enter Tryz.func37,Tryz.ntmps37;go_wp2_with fail;go_loopw [3] (fun kv wq=>∃k:Nat,k≤l.length∧kv=.int .i64 k∧Hid (∀j,(hj:j<l.length)→j<k→l[j].name.size≤40)∧wq=w) (fun kv _=>l.length-(RowKit.intOf kv).toNat);case atStart=>exact⟨0,Nat.zero_le _,rfl,AA (fun j _ hj=>absurd hj (by omega)),rfl⟩
  case round=>
   obtain⟨k,hk,rfl,hnames,rfl⟩:=hrel;by_cases hlt2:k<l.length
   ·have hK2:(k:Int)<l.length:=by omega
    have hK3:0≤(k:Int):=by omega
    obtain⟨pb,po,rfl,hpb,e0,e1⟩:=BV HL.out hlt2;by_cases h40:40<l[k].name.size
    ·have hN:(40:Int)<l[k].name.size:=by omega
     have HN40:=AA (HXF.out (fun h=>by have:=h.2 _ (List.getElem_mem hlt2);omega));generalize l[k].name=nm at*;go_wp2_with fail;go_ret;exact ⟨by have hb9:=HN40.out;subst hb9;rfl,rfl⟩
    ·have hN:(l[k].name.size:Int)≤40:=by omega
     have HY:=AA (show ∀j,(hj:j<l.length)→j<k+1→l[j].name.size≤40 from fun j hj hjk=>by
      rcases Nat.lt_succ_iff_lt_or_eq.1 hjk with h'|h';·exact hnames.out j hj h'
      ·subst h';omega);generalize l[k].name=nm at*;go_wp2_with fail;go_roundw;case rel=>exact⟨k+1,by omega,by go_num,HY,by first|rfl|trivial⟩
     case measure=>simp[RowKit.intOf];omega
   ·have HY:=AA (HXT.out (okl_all (by omega) (fun j hj=>hnames.out j hj (by omega))));have hlt3:¬(k:Int)<l.length:=by omega
    go_wp2_with fail;go_ret;exact ⟨by have hb9:=HY.out;subst hb9;rfl,rfl⟩
theorem l23_few (w:World)(A:Option Addr)(c:Nat)(al:List Ac)(h:ASl w A c al)(b0:Bool)(hb0:b0=true↔FewA al):
 Calls Tryz.prog 10 #[.slice A al.length c] w fun e w'=>e=.returned (.bool b0)∧w'=w:=by
 have HXF:=AA (fun (h:¬FewA al)=>show b0=false from Bool.eq_false_iff.2 (fun e=>h (hb0.1 e)));have HXT:=AA hb0.2;have HL:=AA h;have hmax:=h.sl.max;have hle:=h.sl.le;unfold maxLen at hmax;clear hb0 h;by_cases h24:24<al.length
 ·have hI:(24:Int)<al.length:=by omega
  go_enter Tryz.func10,Tryz.ntmps10;go_wp2_with fail;go_ret;exact ⟨by have hb9:=HXF.out (fun h=>by have:=h.1;omega);subst hb9;rfl,rfl⟩
 ·have hI:(al.length:Int)≤24:=by omega
  go_enter Tryz.func10,Tryz.ntmps10;go_wp2_with fail;go_loopw [3] (fun iv wr=>∃i:Nat,i≤al.length∧iv=.int .i64 i∧Hid (∀j,(hj:j<al.length)→j<i→OkL al[j].l)∧wr=w) (fun iv _=>al.length-(RowKit.intOf iv).toNat);case atStart=>exact⟨0,Nat.zero_le _,rfl,AA (fun j _ hj=>absurd hj (by omega)),rfl⟩
  case round=>
   obtain⟨i,hi,rfl,hall,rfl⟩:=hrel;by_cases hlt:i<al.length
   ·have hI2:(i:Int)<al.length:=by omega
    have hI3:0≤(i:Int):=by omega
    obtain⟨b,off,rfl,hb,d0,d1,d2,d3⟩:=HL.out.at_ hlt;by_cases hok:OkL al[i].l
    ·have HS:=AA (l23_short wr al[i].A al[i].c al[i].l (HL.out.inn _ (List.getElem_mem hlt)) true (iff_of_true rfl hok))
     have HALL:=AA (show ∀j,(hj:j<al.length)→j<i+1→OkL al[j].l from fun j hj hjk=>by
      rcases Nat.lt_succ_iff_lt_or_eq.1 hjk with h'|h';·exact hall.out j hj h'
      ·subst h';exact hok);clear hok;generalize al[i]=a at*;go_wp2_with ((go_at_call 37);(with_reducible refine(HS.out).mono ?_);rintro e w2 ⟨rfl,rfl⟩);go_roundw;case rel=>exact⟨i+1,by omega,by go_num,HALL,by first|rfl|trivial⟩
     case measure=>simp[RowKit.intOf];omega
    ·have HS:=AA (l23_short wr al[i].A al[i].c al[i].l (HL.out.inn _ (List.getElem_mem hlt)) false (iff_of_false (by simp) hok));have HNO:=AA (HXF.out (fun hf=>hok (hf.2 _ (List.getElem_mem hlt))));clear hok;generalize al[i]=a at*;go_wp2_with ((go_at_call 37);(with_reducible refine(HS.out).mono ?_);rintro e w2 ⟨rfl,rfl⟩);go_ret;exact ⟨by have hb9:=HNO.out;subst hb9;rfl,rfl⟩
   ·have HY:=AA (HXT.out ⟨by omega,fun a ha=>by
     obtain⟨k,hk,rfl⟩:=List.getElem_of_mem ha;exact hall.out k hk (by omega)⟩);have hlt3:¬(i:Int)<al.length:=by omega
    go_wp2_with fail;go_ret;exact ⟨by have hb9:=HY.out;subst hb9;rfl,rfl⟩
structure Bk (w0:World) (L:Nat→Prop) (w:World) (E:Nat) (x:Nd) (t:Tr) (far:Int) (g:EG):Prop where
 of:∃N M,Eng N w E M x t far g∧w0.heap.size≤N∧∀k,L k→N≤k∧¬M k
 fr:Fr Nob w0 w
 lt:∀k,L k→k<w.heap.size
def OffE (w0:World)(L:Nat→Prop)(k:Nat):Prop:=w0.heap.size≤k∧¬L k
section
variable {w0:World} {L:Nat→Prop} {w w':World} {N:Nat} {M:Nat→Prop} {E:Nat} {x:Nd} {t:Tr} {far:Int} {g g':EG}
theorem Bk.step (h:Bk w0 L w E x t far g)(H:Eng N w E M x t far g)(hN:w0.heap.size≤N)(hL:∀k,L k→N≤k∧¬M k)(hr:Dq N w w' E M x t far g'):Bk w0 L w' E x t far g'∧Fr (OffE w0 L) w w':=by
 obtain⟨M',H',hf,hM⟩:=hr;refine ⟨⟨⟨N,M',H',hN,fun k hk=>⟨(hL k hk).1,fun hm=>?_⟩⟩,h.fr.call hf (fun i hi hlt=>by have:=(H.low i hi).1;omega),fun k hk=>Nat.lt_of_lt_of_le (h.lt k hk) hf.size⟩,hf.mono fun i _ hi=>⟨Nat.le_trans hN (H.low i hi).1,fun e=>(hL i e).2 hi⟩⟩;rcases hM k hm with hm|hm;·exact(hL k hk).2 hm
 ·have:=h.lt k hk;omega
theorem Bk.more {L':Nat→Prop}(h:Bk w0 L w E x t far g)(hf:Fr Nob w w')(hL:∀k,L' k→L k∨(w.heap.size≤k∧k<w'.heap.size)):Bk w0 L' w' E x t far g:=by
 obtain⟨⟨N,M,H,hN,hl⟩,hfr,hlt⟩:=h;refine ⟨⟨N,M,H.pure hf,hN,fun k hk=>?_⟩,hfr.call hf (fun _ h _=>h),fun k hk=>?_⟩
 ·rcases hL k hk with hk|hk;·exact hl k hk
  ·have h1:M E:=by obtain⟨_,_,_,_,_,_,_,_,_,_,_,_,hM,_⟩:=H;exact(hM E).2 (.inl rfl)
   have h2:=H.low E h1;exact ⟨by omega,fun hm=>by have:=(H.low k hm).2;omega⟩
 ·rcases hL k hk with hk|hk;·exact Nat.lt_of_lt_of_le (hlt k hk) hf.size
  ·exact hk.2
theorem Bk.pure (h:Bk w0 L w E x t far g)(hf:Fr Nob w w'):Bk w0 L w' E x t far g:=h.more hf fun _ hk=>.inl hk
theorem Bk.write {S:Nat→Prop}(h:Bk w0 L w E x t far g)(hf:Fr S w w')(hS:∀k,S k→k<w.heap.size→L k):Bk w0 L w' E x t far g:=by
 obtain⟨⟨N,M,H,hN,hl⟩,hfr,hlt⟩:=h;have hf':Fr (fun k=>L k) w w':=hf.mono fun k hk hs=>hS k hs hk;exact ⟨⟨N,M,H.fr hf' (fun k hk _=>(hl k hk).1) (fun k hk=>(hl k hk).2),hN,hl⟩,hfr.call hf' (fun k hk hlt=>by have:=(hl k hk).1;omega),fun k hk=>Nat.lt_of_lt_of_le (hlt k hk) hf'.size⟩
theorem Bk.ok (h:Bk w0 L w E x t far g):g.Ok:=let⟨⟨_,_,H,_⟩,_,_⟩:=h;H.ok
theorem Bk.cell (h:Bk w0 L w E x t far g){p:Addr}{v:Value}(hc:w0.cell? p=some v):w.cell? p=some v:=h.fr.cell hc (fun e=>e)
def EG.put1 (g:EG)(tm:Int)(l:List PP)(now:Int):EG:=if g.may tm l then g.put tm l now else g
def EG.raise1 (g:EG)(m:Int):EG:=if g.mark<m then g.raise m else g
def EG.next1 (s:S1)(g:EG):EG:=if g.nextV s=2 then g else g.next
def EG.act (s:S1)(g:EG)(a:Ac):EG:=if a.do_=0 then g.put1 a.t a.l a.n else if a.do_=1 then g.raise1 a.n else g.next1 s
def SPut (w0:World)(L:Nat→Prop)(w:World)(E:Nat)(x:Nd)(t:Tr)(far:Int)(g:EG)(tm:Int)(l:List PP)(now:Int)(e:Ending)(w':World):Prop:=
 e=.returned (.tuple #[.bool (g.may tm l),.bool (g.may tm l&&(putW g.W tm l).2.2)])∧Bk w0 L w' E x t far (g.put1 tm l now)∧Fr (OffE w0 L) w w'
theorem s_Put (h:Bk w0 L w E x t far g)(hbd:CQ g.W 800 800)(tm:Int)(htm:tm≤AO)(LA:Option Addr)(Lc:Nat)(l:List PP)(hl:Sl w 2 LA l.length Lc (l.flatMap pcs))(hok:OkL l)(now:Int):
 Calls Tryz.prog 14 #[.pointer (some ⟨E,0,none⟩),.int .i64 tm,.slice LA l.length Lc,.int .i64 now] w (SPut w0 L w E x t far g tm l now):=by
 obtain⟨N,M,H,hN,hL⟩:=h.of;exact (eng_Put H hbd tm htm LA Lc l hl (by have:=hok.1;omega) hok.2 now).mono fun e w' ⟨he,hr⟩=>⟨he,h.step H hN hL hr⟩
def SRaise (w0:World)(L:Nat→Prop)(w:World)(E:Nat)(x:Nd)(t:Tr)(far:Int)(g:EG)(m:Int)(e:Ending)(w':World):Prop:=
 e=.returned (.bool (decide (g.mark<m)))∧Bk w0 L w' E x t far (g.raise1 m)∧Fr (OffE w0 L) w w'
theorem s_Raise (h:Bk w0 L w E x t far g)(m:Int)(hm:m≤AO):Calls Tryz.prog 16 #[.pointer (some ⟨E,0,none⟩),.int .i64 m] w (SRaise w0 L w E x t far g m):=by
 obtain⟨N,M,H,hN,hL⟩:=h.of;exact (eng_Raise H m hm).mono fun e w' ⟨he,hr⟩=>⟨he,h.step H hN hL hr⟩
def SNext (w0:World)(L:Nat→Prop)(w:World)(E:Nat)(x:Nd)(t:Tr)(far:Int)(g:EG)(e:Ending)(w':World):Prop:=
 (∃a s y,e=.returned (.tuple #[.agg #[.int .i64 a,.int .i64 s,.bool y],.bool (g.nextV (madeS x t) !=2)])∧(a,s,y)=(if g.nextV (madeS x t)=2 then((0:Int),(0:Int),false) else(tAt g.W g.told,xAt g.S g.told,g.nextV (madeS x t)==1)))∧Bk w0 L w' E x t far (g.next1 (madeS x t))∧Fr (OffE w0 L) w w'
theorem s_Next (h:Bk w0 L w E x t far g)(hbd:CQ g.W 800 800)(hF:FOk x t)(hv:BR w0)(htv:Cj w0):
 Calls Tryz.prog 15 #[.pointer (some ⟨E,0,none⟩)] w (SNext w0 L w E x t far g):=by
 obtain⟨N,M,H,hN,hL⟩:=h.of;refine (eng_Next H hbd hF (hv.fr h.fr) (htv.fr h.fr)).mono fun e w' hr=>?_;rcases hr with⟨h2,rfl,hr⟩|⟨h2,rfl,hr⟩
 ·have hs:=h.step H hN hL hr;refine ⟨⟨0,0,false,by rw[h2];rfl,by rw[if_pos h2]⟩,?_,hs.2⟩;unfold EG.next1;rw[if_pos h2];exact hs.1
 ·have hs:=h.step H hN hL hr;refine ⟨⟨_,_,_,by rw[show (g.nextV (madeS x t) !=2)=true by simpa using h2],by rw[if_neg h2]⟩,?_,hs.2⟩;unfold EG.next1;rw[if_neg h2];exact hs.1
theorem s_Live (h:Bk w0 L w E x t far g)(hbd:CQ g.W 800 800)(hF:FOk x t)(hv:BR w0):
 Calls Tryz.prog 17 #[.pointer (some ⟨E,0,none⟩)] w (LiveR w (g.lives (x,t))):=by
 obtain⟨N,M,H,hN,hL⟩:=h.of;exact eng_Live H hbd hF.good (by have:=hF.size;omega) hF.names (hv.fr h.fr)
theorem s_Mark (h:Bk w0 L w E x t far g):Calls Tryz.prog 18 #[.pointer (some ⟨E,0,none⟩)] w fun e w'=>e=.returned (.int .i64 g.mark)∧w'=w:=by
 obtain⟨N,M,H,hN,hL⟩:=h.of;exact eng_Mark H
theorem s_Top (h:Bk w0 L w E x t far g):Calls Tryz.prog 19 #[.pointer (some ⟨E,0,none⟩)] w fun e w'=>e=.returned (.int .i64 (topE g.W))∧w'=w:=by
 obtain⟨N,M,H,hN,hL⟩:=h.of;exact eng_Top H
theorem s_Horizon (h:Bk w0 L w E x t far g):Calls Tryz.prog 25 #[.pointer (some ⟨E,0,none⟩)] w fun e w'=>e=.returned (.int .i64 far)∧w'=w:=by
 obtain⟨N,M,H,hN,hL⟩:=h.of;exact eng_Horizon H
def SNew (w:World)(x:Nd)(t:Tr)(e:Ending)(w':World):Prop:=
 ∃p,e=.returned (.tuple #[.pointer p,.int .i64 (errH x t)])∧Fr Nob w w'∧(errH x t≠0→p=none)∧
 (errH x t=0→∃E,p=some ⟨E,0,none⟩∧firstW ((Tr.cons x t .nil).nodes 1)=0∧0≤far1 (x,t)∧I64 (far1 (x,t))∧Bk w Nob w' E x t (far1 (x,t)) EG.new)
theorem s_New (w:World)(x:Nd)(A:Option Addr)(c:Nat)(ks:Fo)(hs:Au w.heap.size w A c ks)(hsz:ks.tr.size≤100000)(hv:BR w)(hx:NdOk x)(hk:ks.tr.ok)(hnm:∀y∈(Tr.cons x ks.tr .nil).nodes 1,y.1.name.size≤9223372036854775807):
 Calls Tryz.prog 11 #[AF x A ks.len c] w (SNew w x ks.tr):=by
 refine(eng_New w x A c ks hs hsz hv hx hk hnm).mono fun e w' hr=>?_;unfold NewR NewRE at hr;rcases hr with⟨h1,rfl,hf⟩|⟨h1,N,E,M,rfl,h2,h3,h4,h5,h6,h7⟩;·exact⟨none,rfl,hf,fun _=>rfl,fun e=>absurd e h1⟩
 ·exact⟨_,by rw[h1],h7,fun e=>absurd h1 e,fun _=>⟨E,rfl,h2,h3,h4,⟨N,M,h5,h6,fun _ h=>h.elim⟩,h7,fun _ h=>h.elim⟩⟩
end
theorem CQ.mono {V:List Pt}{n m n' m':Nat}(h:CQ V n m)(hn:n≤n')(hm:m≤m'):CQ V n' m':=⟨by have:=h.1;omega,fun p hp=>⟨by have:=(h.2 p hp).1;omega,(h.2 p hp).2⟩⟩
theorem EG.put1_bnd {g:EG}{n m:Nat}(h:CQ g.W n m)(tm:Int){l:List PP}(hl:OkL l)(now:Int):CQ (g.put1 tm l now).W (n+1) (m+10):=by
 unfold EG.put1;split;·exact h.put tm hl.1 hl.2
 ·exact h.mono (by omega) (by omega)
theorem EG.raise1_W (g:EG)(m:Int):(g.raise1 m).W=g.W:=by unfold EG.raise1;split<;>rfl
theorem EG.next1_W (g:EG)(s:S1):(g.next1 s).W=g.W:=by unfold EG.next1;split<;>rfl
def EG.run (s:S1)(al:List Ac)(i:Nat):EG:=(al.take i).foldl (EG.act s) EG.new
def awF:S1:=mk1 9 0 3 (⟨3,b3a,0,0,0,0⟩,.nil)
def awG1:EG:=EG.new.put1 2 [⟨b3b,0⟩] 7
def awG2:EG:=awG1.put1 4 [⟨b3a,0⟩] 8
def awG3:EG:=awG2.raise1 3
def awG4:EG:=awG3.next1 (madeS awF.1 awF.2)
def Fy:EG:=awG4.next1 (madeS awF.1 awF.2)
def awG6:EG:=Fy.put1 3 [] 9
theorem aw_err:errH awF.1 awF.2=0:=by decide+kernel
theorem aw_far:far1 (awF.1,awF.2)=3:=by decide+kernel
theorem aw_1:EG.new.may 2 [⟨b3b,0⟩]=true∧(putW EG.new.W 2 [⟨b3b,0⟩]).2.2=true:=by decide+kernel
theorem aw_3:decide (awG2.mark<3)=true:=by decide+kernel
theorem aw_4:awG3.nextV (madeS awF.1 awF.2)=1∧tAt awG3.W awG3.told=2∧xAt awG3.S awG3.told=7:=by decide+kernel
theorem aw_5:awG4.nextV (madeS awF.1 awF.2)=2:=by decide+kernel
theorem aw_6:Fy.lives awF=[⟨4,8,true⟩]:=by kernel_rfl
theorem aw_7:Fy.may 3 []=false:=by decide+kernel
theorem aw_8:topE awG6.W=4∧awG6.mark=3:=by decide+kernel
theorem aw_b1:CQ awG1.W 1 10:=EG.put1_bnd ⟨Nat.le_refl _,fun _ h=>by cases h⟩ _ ⟨by decide,by decide+kernel⟩ _
theorem aw_b2:CQ awG2.W 2 20:=EG.put1_bnd aw_b1 _ ⟨by decide,by decide+kernel⟩ _
theorem aw_b3:CQ awG3.W 2 20:=by unfold awG3;rw[EG.raise1_W];exact aw_b2
theorem aw_b4:CQ awG4.W 2 20:=by unfold awG4;rw[EG.next1_W];exact aw_b3
theorem aw_b5:CQ Fy.W 2 20:=by unfold Fy;rw[EG.next1_W];exact aw_b4
theorem aw_nm:∀y∈(Tr.cons awF.1 awF.2 .nil).nodes 1,y.1.name.size≤9223372036854775807:=by
 have h:((Tr.cons awF.1 awF.2 .nil).nodes 1).all (fun y=>decide (y.1.name.size≤100))=true:=by decide+kernel
 intro y hy;have:=of_decide_eq_true (List.all_eq_true.1 h y hy);omega
theorem aw_fok:FOk awF.1 awF.2:=⟨by decide+kernel,by decide+kernel,aw_nm⟩
theorem aw_Put {w0:World}{L:Nat→Prop}{w:World}{E:Nat}{x:Nd}{t:Tr}{far:Int}{g:EG}(h:Bk w0 L w E x t far g)(hbd:CQ g.W 800 800)(tm:Int)(htm:tm≤AO)(nm:ByteArray)(hl:nm.size≤40)(now:Int):
 Calls Tryz.prog 14 #[.pointer (some ⟨E,0,none⟩),.int .i64 tm,.slice (some ⟨w.heap.size,0,none⟩) 1 1,.int .i64 now] (w.alloc (.cells #[.string nm,.int .i64 0] 91)) (SPut w0 L (w.alloc (.cells #[.string nm,.int .i64 0] 91)) E x t far g tm [⟨nm,0⟩] now):=
 s_Put (h.pure ((Fr.refl _ _).alloc _)) hbd tm htm _ _ [⟨nm,0⟩] (Sl.new1 (Blk.new _ _ _) 2 1 rfl (by decide)) ⟨Nat.le_trans (Nat.le_refl 1) (by decide),fun x hx=>by simp only[List.mem_singleton] at hx;subst hx;exact hl⟩ now
def AwS (w0:World)(L:Nat→Prop)(E:Nat)(g:EG)(w:World):Prop:=Bk w0 L w E awF.1 awF.2 3 g
section
variable {w0 w:World} {L:Nat→Prop} {E:Nat}
theorem aw_P1 (h:AwS w0 L E EG.new w):Calls Tryz.prog 14 #[.pointer (some ⟨E,0,none⟩),.int .i64 2,.slice (some ⟨w.heap.size,0,none⟩) 1 1,.int .i64 7] (w.alloc (.cells #[.string ⟨#[98]⟩,.int .i64 0] 91)) fun e w'=>e=.returned (.tuple #[.bool true,.bool true])∧AwS w0 L E awG1 w':=
 (aw_Put h ⟨Nat.zero_le _,fun _ h=>by cases h⟩ 2 (by decide) ⟨#[98]⟩ (by decide+kernel) 7).mono fun e w' ⟨he,h1,_⟩=>⟨by rw[he];show Ending.returned (.tuple #[.bool (EG.new.may 2 [⟨b3b,0⟩]),.bool (EG.new.may 2 [⟨b3b,0⟩]&&(putW EG.new.W 2 [⟨b3b,0⟩]).2.2)])=_;rw[aw_1.1,aw_1.2];rfl,h1⟩
theorem aw_P2 (h:AwS w0 L E awG1 w):Calls Tryz.prog 14 #[.pointer (some ⟨E,0,none⟩),.int .i64 4,.slice (some ⟨w.heap.size,0,none⟩) 1 1,.int .i64 8] (w.alloc (.cells #[.string ⟨#[97]⟩,.int .i64 0] 91)) fun e w'=>∃a b,e=.returned (.tuple #[.bool a,.bool b])∧AwS w0 L E awG2 w':=
 (aw_Put h (aw_b1.mono (by decide) (by decide)) 4 (by decide) ⟨#[97]⟩ (by decide+kernel) 8).mono fun e w' ⟨he,h1,_⟩=>⟨_,_,he,h1⟩
theorem aw_R (h:AwS w0 L E awG2 w):Calls Tryz.prog 16 #[.pointer (some ⟨E,0,none⟩),.int .i64 3] w fun e w'=>e=.returned (.bool true)∧AwS w0 L E awG3 w':=
 (s_Raise h 3 (by decide)).mono fun e w' ⟨he,h1,_⟩=>⟨by rw[he,aw_3],h1⟩
theorem aw_N1 (h:AwS w0 L E awG3 w)(hv:BR w0)(htv:Cj w0):Calls Tryz.prog 15 #[.pointer (some ⟨E,0,none⟩)] w fun e w'=>e=.returned (.tuple #[.agg #[.int .i64 2,.int .i64 7,.bool true],.bool true])∧AwS w0 L E awG4 w':=
 (s_Next h (aw_b3.mono (by decide) (by decide)) aw_fok hv htv).mono fun e w' ⟨⟨a,s,y,he,hh⟩,h1,_⟩=>⟨by
   rw[aw_4.1,aw_4.2.1,aw_4.2.2] at hh;rw [he,aw_4.1];obtain ⟨rfl,rfl,rfl⟩:a=2∧s=7∧y=true:=by simpa using hh
   rfl,h1⟩
theorem aw_N2 (h:AwS w0 L E awG4 w)(hv:BR w0)(htv:Cj w0):Calls Tryz.prog 15 #[.pointer (some ⟨E,0,none⟩)] w fun e w'=>∃a s y,e=.returned (.tuple #[.agg #[.int .i64 a,.int .i64 s,.bool y],.bool false])∧AwS w0 L E Fy w'∧Fr (OffE w0 L) w w':=
 (s_Next h (aw_b4.mono (by decide) (by decide)) aw_fok hv htv).mono fun e w' ⟨⟨a,s,y,he,hh⟩,h1,h2⟩=>⟨a,s,y,by rw[he,aw_5];rfl,h1,h2⟩
theorem aw_L (h:AwS w0 L E Fy w)(hv:BR w0):Calls Tryz.prog 17 #[.pointer (some ⟨E,0,none⟩)] w fun e w'=>∃b o c,e=.returned (.slice (some ⟨b,o,none⟩) 1 c)∧b<w'.heap.size∧w.heap.size≤b∧w'.cell? ⟨b,o,none⟩=some (.int .i64 4)∧w'.cell? ⟨b,o+2,none⟩=some (.bool true)∧Fr Nob w w':=
 (s_Live h (aw_b5.mono (by decide) (by decide)) aw_fok hv).mono fun e w' hl=>by
   have e:Fy.lives (awF.1,awF.2)=[⟨4,8,true⟩]:=aw_6;unfold LiveR at hl;rw [e] at hl;obtain ⟨A,c,rfl,hs,hf,hl⟩:=hl;obtain ⟨b,off,rfl,hb,hc⟩:=hs.cells (by decide);exact ⟨b,off,c,rfl,hb,hl b ⟨off,rfl⟩,by simpa using hc 0 _ rfl,by simpa using hc 2 _ rfl,hf⟩
theorem aw_P3 (h:AwS w0 L E Fy w):Calls Tryz.prog 14 #[.pointer (some ⟨E,0,none⟩),.int .i64 3,.slice none 0 0,.int .i64 9] w fun e w'=>∃b,e=.returned (.tuple #[.bool false,.bool b])∧AwS w0 L E awG6 w'∧Fr (OffE w0 L) w w':=
 (s_Put h (aw_b5.mono (by decide) (by decide)) 3 (by decide) none 0 [] (Sl.none_ _ _) ⟨by decide,fun _ h=>by cases h⟩ 9).mono fun e w' ⟨he,h1,h2⟩=>⟨(putW Fy.W 3 []).2.2&&false,by rw[he,aw_7];simp,h1,h2⟩
end
theorem aw_New {w w4:World}(hv:BR w)(hf:Fr Nob w w4){o m v l i:Int}{n:ByteArray}{A:Option Addr}{c:Nat}{ks:Fo}(hs:Au w4.heap.size w4 A c ks)(he:((⟨o,n,m,v,l,i⟩:Nd),ks.tr)=awF):
 Calls Tryz.prog 11 #[.agg #[.int .i64 o,.string n,.int .i64 m,.int .i64 v,.int .i64 l,.int .i64 i,.slice A ks.len c]] w4 fun e w'=>∃E,e=.returned (.tuple #[.pointer (some ⟨E,0,none⟩),.int .i64 0])∧AwS w4 Nob E EG.new w':=by
 obtain⟨h1,h2⟩:(⟨o,n,m,v,l,i⟩:Nd)=awF.1∧ks.tr=awF.2:=by rw[←he];exact⟨rfl,rfl⟩
 have hq:=s_New w4 ⟨o,n,m,v,l,i⟩ A c ks hs (by rw[h2];decide+kernel) (hv.fr hf) (by rw[h1];exact⟨⟨by decide,by decide⟩,⟨by decide,by decide⟩,⟨by decide,by decide⟩,⟨by decide,by decide⟩,⟨by decide,by decide⟩⟩) (by rw[h2];exact⟨⟨⟨by decide,by decide⟩,⟨by decide,by decide⟩,⟨by decide,by decide⟩,⟨by decide,by decide⟩,⟨by decide,by decide⟩⟩,trivial,trivial⟩) (by rw[h1,h2];exact aw_nm);unfold AF at hq;refine hq.mono fun e w' hr=>?_;unfold SNew at hr;rw [h1,h2,aw_err,aw_far] at hr;obtain ⟨p,rfl,hf,_,hok⟩:=hr;obtain ⟨E,rfl,hg,_,_,hE⟩:=hok rfl;exact ⟨E,rfl,hE⟩
theorem l23_awake (w:World)(hv:BR w)(htv:Cj w):Calls Tryz.prog 8 #[] w fun e w'=>e=.returned (.bool true)∧Fr Nob w w':=by
 have HV:=AA hv;have HTV:=AA htv;clear hv htv;go_enter Tryz.func8,Tryz.ntmps8;have HNA:=AA (fun W=>l15_name W (fun k=>k<W.heap.size) ⟨#[97]⟩)
 go_upto_region 2 with(first
  |((go_at_call 36);(with_reducible refine(HNA.out _).mono ?_);rintro e w3 ⟨o1,n1,m1,v1,l1,i1,A1,c1,k1,rfl,he1,hs1,hf1⟩;have HE1:=AA he1;have HG1:=AA hf1;have HON:=AA (l15_one w3 (fun k=>k<w3.heap.size) (fun _ h=>h) 9 0 3 ⟨o1,n1,m1,v1,l1,i1⟩ A1 c1 k1 (hs1.imp (fun _ _ h=>h)));unfold AF at HON;dsimp only at HON;clear he1 hs1 hf1)
  |((go_at_call 35);(with_reducible refine(HON.out).mono ?_);rintro e w4 ⟨o2,n2,m2,v2,l2,i2,A2,c2,k2,rfl,he2,hs2,hf2⟩;have HE2:=AA he2;have HS2:=AA hs2;have HF4:=AA (HG1.out.call hf2 (fun _ h _=>h));have HNEW:=AA (aw_New HV.out HF4.out HS2.out.whole (by rw[HE2.out,HE1.out];rfl));clear he2 hs2 hf2)
  |((go_at_call 11);(with_reducible refine(HNEW.out).mono ?_);rintro e w5 ⟨E,rfl,hs5⟩;have HS5:=AA hs5;clear hs5)
  |fail);clear HON HNA HNEW HG1 HE1 HE2 HS2;have HT4:=AA (HTV.out.fr HF4.out);have HV4:=AA (HV.out.fr HF4.out);clear HTV HV
 go_upto_region 4 with(first
  |((go_at_call 14);(with_reducible refine(aw_P1 HS5.out).mono ?_);rintro e w6 ⟨rfl,hs6⟩;have HS6:=AA hs6;clear hs6)
  |((go_at_call 14);(with_reducible refine(aw_P2 HS6.out).mono ?_);rintro e w7 ⟨a7,b7,rfl,hs7⟩;have HS7:=AA hs7;clear hs7)
  |fail)
 go_upto_region 5 with(first
  |((go_at_call 16);(with_reducible refine(aw_R HS7.out).mono ?_);rintro e w8 ⟨rfl,hs8⟩;have HS8:=AA hs8;clear hs8)
  |fail)
 go_upto_region 6 with(first
  |((go_at_call 15);(with_reducible refine(aw_N1 HS8.out HV4.out HT4.out).mono ?_);rintro e w9 ⟨rfl,hs9⟩;have HS9:=AA hs9;clear hs9)
  |fail);obtain ⟨W9,hW9⟩:∃W,w9.alloc (.cells #[.int .i64 2,.int .i64 7,.bool true] 50)=W:=⟨_,rfl⟩;have HB9:=AA (show Blk W9 w9.heap.size 50 #[.int .i64 2,.int .i64 7,.bool true] by rw[←hW9];exact Blk.new _ _ _);have HG9:=AA (show AwS w4 (fun k=>k=w9.heap.size) E awG4 W9 from Bk.more HS9.out (w':=W9) (by rw[←hW9];exact(Fr.refl _ _).alloc _) (fun k hk=>.inr ⟨by rw[hk];exact Nat.le_refl _,by rw[hk];exact HB9.out.lt⟩));rw [hW9];clear hW9 HS5 HS6 HS7 HS8 HS9;generalize w9.heap.size=vb at*
 go_upto_region 7 with(first
  |((go_at_call 15);(with_reducible refine(aw_N2 HG9.out HV4.out HT4.out).mono ?_);rintro e w10 ⟨a10,s10,y10,rfl,hs10,hf10⟩;have HS10:=AA hs10;have HB10:=AA (HB9.out.fr hf10 (fun e=>e.2 rfl));clear hs10 hf10)
  |fail);obtain ⟨W10,hW10⟩:∃W,w10.alloc (.cells #[.int .i64 a10,.int .i64 s10,.bool y10] 50)=W:=⟨_,rfl⟩;have HB11:=AA (show Blk W10 vb 50 #[.int .i64 2,.int .i64 7,.bool true] by rw[←hW10];exact HB10.out.alloc _);have HG10:=AA (show AwS w4 (fun k=>k=vb) E Fy W10 by rw[←hW10];exact Bk.pure HS10.out ((Fr.refl _ _).alloc _));rw [hW10];clear hW10 HS10 HB9 HB10 HG9;generalize w10.heap.size=vc at*
 go_upto_region 8 with(first
  |((go_at_call 17);(with_reducible refine(aw_L HG10.out HV4.out).mono ?_);rintro e w11 ⟨lb,lo,lc,rfl,hb,hlo,hc0,hc2,hf11⟩;have HLB:=AA hb;have HC0:=AA hc0;have HC2:=AA hc2;have HS11:=AA (show AwS w4 (fun k=>k=vb∨k=lb) E Fy w11 from Bk.more (L':=fun k=>k=vb∨k=lb) HG10.out hf11 (fun k hk=>by rcases hk with hk|hk;exact .inl hk;exact .inr ⟨by rw[hk];exact hlo,by rw[hk];exact hb⟩));have HB12:=AA (HB11.out.fr hf11 (fun e=>e));clear hb hlo hc0 hc2 hf11)
  |fail)
 go_upto_region 9 with(first
  |((go_at_call 14);(with_reducible refine(aw_P3 HS11.out).mono ?_);rintro e w12 ⟨b12,rfl,hs12,hf12⟩;have HS12:=AA hs12;have HB13:=AA (HB12.out.fr hf12 (fun e=>e.2 (.inl rfl)));have hc0:=hf12.cell HC0.out (fun e=>e.2 (.inr rfl));have hc2:=hf12.cell HC2.out (fun e=>e.2 (.inr rfl));have hlb:=Nat.lt_of_lt_of_le HLB.out hf12.size;clear hf12)
  |fail);have bc:=HB13.out.cell;have HTP:=AA (s_Top (show Bk w4 (fun k=>k=vb∨k=lb) w12 E awF.1 awF.2 3 awG6 from HS12.out));have HMK:=AA (s_Mark (show Bk w4 (fun k=>k=vb∨k=lb) w12 E awF.1 awF.2 3 awG6 from HS12.out));have HHZ:=AA (s_Horizon (show Bk w4 (fun k=>k=vb∨k=lb) w12 E awF.1 awF.2 3 awG6 from HS12.out));rw [aw_8.1] at HTP;rw [aw_8.2] at HMK;have bl:=HB13.out.lt
 go_wp2_with (first
  |((go_at_call 19);(with_reducible refine(HTP.out).mono ?_);rintro e w13 ⟨rfl,rfl⟩)
  |((go_at_call 18);(with_reducible refine(HMK.out).mono ?_);rintro e w13 ⟨rfl,rfl⟩)
  |((go_at_call 25);(with_reducible refine(HHZ.out).mono ?_);rintro e w13 ⟨rfl,rfl⟩)
  |fail);go_ret;exact ⟨rfl,HF4.out.call HS12.out.fr (fun _ h _=>h)⟩
end Go.Proofs.YtoegdmpmagbaiaaGreatDoor
