/- Words in plain: what makes a list of points the word of some events. -/
import Derived.Test.YtoegdmpmagbaiaaGreatDoorQW6
namespace Go.Proofs.YtoegdmpmagbaiaaGreatDoor
open Go.RowKit Go.Sort Go.Lib
theorem rightB_at {l:List PP}(h:Am l=true){k:Nat}(hk:k<l.length):Eb l k l[k]=true:=by
 unfold Am at h;rw [List.all_eq_true] at h;have:=h k (by simpa using hk);rwa [List.getD_eq_getElem?_getD,List.getElem?_eq_getElem hk] at this
theorem Cu (l:List PP):Am l=true↔Asc l∧∀x∈l,nmOk x.name=true:=by
 constructor
 ·intro h;have H:=fun k (hk:k<l.length)=>rightB_at h (k:=k) hk;refine ⟨?_,?_⟩
  ·unfold Asc;rw [List.pairwise_iff_getElem];intro i j hi hj hij
   induction j with
   |zero=>omega
   |succ j ih=>
    have h1:=H (j+1) hj;rw [EM (by omega),Bool.and_eq_true] at h1;have h2:plt l[j] l[j+1]:=(Bv _ _).1 h1.2;rcases Nat.lt_succ_iff_lt_or_eq.1 hij with h3|h3;·exact CL (ih (by omega) h3) h2
    ·subst h3;exact h2
  ·intro x hx;obtain ⟨k,hk,rfl⟩:=List.getElem_of_mem hx;have h1:=H k hk;unfold Eb at h1;rw [Bool.and_eq_true] at h1;exact h1.1
 ·rintro⟨h1,h2⟩;refine Dx fun k hk=>?_
  cases k with
  |zero=>rw[FR];exact h2 _ (List.getElem_mem hk)
  |succ k=>
   rw[EM (by omega),h2 _ (List.getElem_mem hk),Bool.true_and,Bv];exact List.pairwise_iff_getElem.1 h1 k (k+1) (by omega) hk (by omega)
theorem DZ (W:List Pt):AU W=true↔(W.Pairwise fun p q=>p.1<q.1)∧∀p∈W,0≤p.1∧Am p.2=true:=by
 constructor
 ·intro h;refine ⟨?_,fun p hp=>?_⟩
  ·rw[List.pairwise_iff_getElem];intro i j hi hj hij;exact Cm h hij hj
  ·obtain⟨k,hk,rfl⟩:=List.getElem_of_mem hp;have h1:=DI h hk;unfold Df at h1;simp only[Bool.and_eq_true] at h1;exact ⟨by have:=h1.1.1;simp at this;exact this,h1.2⟩
 ·rintro⟨h1,h2⟩;refine C5 fun k hk=>?_;have h3:=h2 _ (List.getElem_mem hk)
  cases k with
  |zero=>rw[DR,h3.2];simp;exact h3.1
  |succ k=>
   have h4:=List.pairwise_iff_getElem.1 h1 k (k+1) (by omega) hk (by omega);rw [Cn (by omega),h3.2];simp;exact ⟨h3.1,h4⟩
def DV (e:Pt):Bool:=decide (0≤e.1)&&Am (lof e.2)
theorem EQ (e:Pt):DV e=true↔0≤e.1∧∀x∈e.2,nmOk x.name=true:=by
 unfold DV;rw [Bool.and_eq_true,Cu];simp only[decide_eq_true_eq];exact ⟨fun h=>⟨h.1,fun x hx=>h.2.2 x ((BZ _ _).2 hx)⟩,fun h=>⟨h.1,DA _,fun x hx=>h.2 x ((BZ _ _).1 hx)⟩⟩
structure Bj (E W:List Pt):Prop where
 up:W.Pairwise fun p q=>p.1<q.1
 asc:∀p∈W,Asc p.2
 mem:∀p∈W,∀x,x∈p.2↔∃e∈E,DV e=true∧e.1=p.1∧x∈e.2
 src:∀p∈W,∃e∈E,DV e=true∧e.1=p.1
 has:∀e∈E,DV e=true→∃p∈W,p.1=e.1
theorem Bj.nil:Bj [] []:=⟨List.Pairwise.nil,(fun _ h=>by cases h),(fun _ h=>by cases h),(fun _ h=>by cases h),(fun _ h=>by cases h)⟩
theorem Bj.of_mem {E E' W:List Pt}(h:Bj E W)(hE:∀e,DV e=true→(e∈E↔e∈E')):Bj E' W:=
 ⟨h.up,h.asc,fun p hp x=>(h.mem p hp x).trans ⟨fun ⟨e,he,hg,h1⟩=>⟨e,(hE e hg).1 he,hg,h1⟩,fun⟨e,he,hg,h1⟩=>⟨e,(hE e hg).2 he,hg,h1⟩⟩,
  fun p hp=>let⟨e,he,hg,h1⟩:=h.src p hp;⟨e,(hE e hg).1 he,hg,h1⟩,fun e he hg=>h.has e ((hE e hg).2 he) hg⟩
theorem Bj.right {E W:List Pt}(h:Bj E W):AU W=true:=by
 rw[DZ];refine ⟨h.up,fun p hp=>?_⟩;obtain ⟨e,_,hg,h1⟩:=h.src p hp;refine ⟨by have:=((EQ e).1 hg).1;omega,(Cu _).2 ⟨h.asc p hp,fun x hx=>?_⟩⟩;obtain ⟨e',_,hg',_,hx'⟩:=(h.mem p hp x).1 hx;exact ((EQ e').1 hg').2 x hx'
theorem Bj.core {E A M B:List Pt}{t:Int}{ps:List PP}(h:Bj E (A++(M++B)))(hA:∀p∈A,p.1<t)(hB:∀p∈B,t<p.1)(hM:∀p∈M,p.1=t)(hg:DV (t,ps)=true):
 Bj (E++[(t,ps)]) (A++(t,lof (M.flatMap (fun m=>m.2)++ps))::B):=by
 have up:=h.up;rw [List.pairwise_append,List.pairwise_append] at up;obtain ⟨ua,⟨_,ub,_⟩,_⟩:=up
 have inW:∀p,p∈A∨p∈B→p∈A++(M++B)∧p.1≠t:=fun p hp=>by
  rcases hp with hp|hp;·exact⟨by simp[hp],by have:=hA p hp;omega⟩
  ·exact⟨by simp[hp],by have:=hB p hp;omega⟩
 refine⟨?_,fun p hp=>?_,fun p hp x=>?_,fun p hp=>?_,fun e he hge=>?_⟩
 ·rw[List.pairwise_append,List.pairwise_cons];refine ⟨ua,⟨fun q hq=>hB q hq,ub⟩,fun p hp q hq=>?_⟩;have:=hA p hp;rcases List.mem_cons.1 hq with rfl|hq;·exact this
  ·have:=hB q hq;omega
 ·rw[List.mem_append,List.mem_cons] at hp;rcases hp with hp|rfl|hp;·exact h.asc p (inW p (.inl hp)).1
  ·exact DA _
  ·exact h.asc p (inW p (.inr hp)).1
 ·have far:p∈A∨p∈B→(x∈p.2↔∃e∈E++[(t,ps)],DV e=true∧e.1=p.1∧x∈e.2):=fun hp=>by
   obtain⟨h1,h2⟩:=inW p hp;rw [h.mem p h1];constructor
   ·rintro⟨e,he,hh⟩;exact ⟨e,by simp[he],hh⟩
   ·rintro⟨e,he,hge,het,hx⟩;rcases List.mem_append.1 he with he|he;·exact⟨e,he,hge,het,hx⟩
    ·rw[List.mem_singleton] at he;subst he;exact absurd het.symm h2
  rw[List.mem_append,List.mem_cons] at hp;rcases hp with hp|rfl|hp;·exact far (.inl hp)
  ·dsimp only;rw [BZ,List.mem_append,List.mem_flatMap];constructor
   ·rintro(⟨m,hm,hx⟩|hx)
    ·obtain⟨e,he,hge,het,hx⟩:=(h.mem m (by simp[hm]) x).1 hx;exact ⟨e,by simp[he],hge,by rw[het,hM m hm],hx⟩
    ·exact⟨(t,ps),by simp,hg,rfl,hx⟩
   ·rintro⟨e,he,hge,het,hx⟩;rcases List.mem_append.1 he with he|he
    ·obtain⟨q,hq,hqt⟩:=h.has e he hge
     have hqM:q∈M:=by
      rw[List.mem_append,List.mem_append] at hq;rcases hq with hq|hq|hq;·have:=hA q hq;omega
      ·exact hq
      ·have:=hB q hq;omega
     exact .inl ⟨q,hqM,(h.mem q (by simp[hqM]) x).2 ⟨e,he,hge,by omega,hx⟩⟩
    ·rw[List.mem_singleton] at he;subst he;exact .inr hx
  ·exact far (.inr hp)
 ·have far:p∈A∨p∈B→∃e∈E++[(t,ps)],DV e=true∧e.1=p.1:=fun hp=>by
   obtain⟨e,he,hh⟩:=h.src p (inW p hp).1;exact ⟨e,by simp[he],hh⟩
  rw[List.mem_append,List.mem_cons] at hp;rcases hp with hp|rfl|hp;·exact far (.inl hp)
  ·exact⟨(t,ps),by simp,hg,rfl⟩
  ·exact far (.inr hp)
 ·rcases List.mem_append.1 he with he|he
  ·obtain⟨q,hq,hqt⟩:=h.has e he hge;rw [List.mem_append,List.mem_append] at hq;rcases hq with hq|hq|hq;·exact⟨q,by simp[hq],hqt⟩
   ·exact⟨(t,lof (M.flatMap (fun m=>m.2)++ps)),by simp,by rw[←hqt,hM q hq]⟩
   ·exact⟨q,by simp[hq],hqt⟩
  ·rw[List.mem_singleton] at he;subst he;exact ⟨(t,lof (M.flatMap (fun m=>m.2)++ps)),by simp,rfl⟩
theorem Bj.put {E W:List Pt}(h:Bj E W)(t:Int)(ps:List PP):Bj (E++[(t,ps)]) (putW W t ps).1:=by
 have hr:=h.right;unfold putW;rw [if_neg (by rw[hr];simp)];cases hg:(decide (0≤t)&&Am (lof ps))
 ·rw[if_pos rfl];refine h.of_mem fun e he=>?_;rw [List.mem_append,List.mem_singleton];constructor;·exact .inl
  ·rintro(h1|rfl);·exact h1
   ·unfold DV at he;rw[he] at hg;cases hg
 ·rw[if_neg (by simp)];have hge:DV (t,ps)=true:=hg
  have hA:∀p∈W.take (fromI W t),p.1<t:=fun p hp=>by
   obtain⟨j,hj,rfl⟩:=List.getElem_of_mem hp;rw [List.length_take] at hj;obtain ⟨h1,h2⟩:=Gw (show j<fromI W t by omega);rw [List.getElem_take];exact h2
  have hup:∀(k j:Nat) (hj:j<W.length) (hkj:k<j),(W[k]'(by omega)).1<W[j].1:=fun k j hj hkj=>List.pairwise_iff_getElem.1 h.up k j (by omega) hj hkj;split
  ·rename_i hx;obtain ⟨hk,ht⟩:=hx
   have hB:∀p∈W.drop (fromI W t+1),t<p.1:=fun p hp=>by
    obtain⟨j,hj,rfl⟩:=List.getElem_of_mem hp;rw [List.length_drop] at hj;rw [List.getElem_drop];have:=hup (fromI W t) (fromI W t+1+j) (by omega) (by omega);rw [ht] at this;exact this
   have e1:W=W.take (fromI W t)++([W[fromI W t]]++W.drop (fromI W t+1)):=by
    rw[List.singleton_append,List.getElem_cons_drop,List.take_append_drop]
   have hc:=Bj.core (ps:=ps) (e1▸h:Bj E (W.take (fromI W t)++([W[fromI W t]]++W.drop (fromI W t+1)))) hA hB (fun p hp=>by rw[List.mem_singleton] at hp;subst hp;exact ht) hge;dsimp only;rw [List.set_eq_take_append_cons_drop,if_pos hk];simpa using hc
  ·rename_i hx
   have hB:∀p∈W.drop (fromI W t),t<p.1:=fun p hp=>by
    obtain⟨j,hj,rfl⟩:=List.getElem_of_mem hp;rw [List.length_drop] at hj;rw [List.getElem_drop];have hk:fromI W t<W.length:=by omega
    have h1:=Gx hk;have h2:W[fromI W t].1≠t:=fun e=>hx ⟨hk,e⟩
    cases j with
    |zero=>simp only[Nat.add_zero];omega
    |succ j=>
     have:=hup (fromI W t) (fromI W t+(j+1)) (by omega) (by omega);omega
   have e1:W=W.take (fromI W t)++([]++W.drop (fromI W t)):=by rw[List.nil_append,List.take_append_drop]
   have hc:=Bj.core (ps:=ps) (e1▸h:Bj E (W.take (fromI W t)++([]++W.drop (fromI W t)))) hA hB (fun p hp=>by cases hp) hge;simpa using hc
end Go.Proofs.YtoegdmpmagbaiaaGreatDoor
