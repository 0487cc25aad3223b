/- Engines, in plain words: what stands behind told points is known as it is in the whole word. -/
import Derived.Test.YtoegdmpmagbaiaaGreatDoorKR
import Derived.Test.YtoegdmpmagbaiaaGreatDoorQWo0
import Derived.Test.YtoegdmpmagbaiaaGreatDoorQW6
namespace Go.Proofs.YtoegdmpmagbaiaaGreatDoor
open Go.RowKit
section
variable {W:List Pt} {k i j:Nat} {x y:List Int} {u v:List Bool} {lo hi mark:Int}
theorem Az (W:List Pt)(k i:Nat):tAt (W.drop k) i=tAt W (k+i):=by unfold tAt;rw[List.getD_eq_getElem?_getD,List.getElem?_drop,←List.getD_eq_getElem?_getD]
theorem pAt_drop (W:List Pt)(k i:Nat):pAt (W.drop k) i=pAt W (k+i):=by unfold pAt;rw[List.getD_eq_getElem?_getD,List.getElem?_drop,←List.getD_eq_getElem?_getD]
theorem BB (x:List Int)(k i:Nat):xAt (x.drop k) i=xAt x (k+i):=by unfold xAt;rw[List.getD_eq_getElem?_getD,List.getElem?_drop,←List.getD_eq_getElem?_getD]
theorem Bc (x:List Bool)(k i:Nat):bAt (x.drop k) i=bAt x (k+i):=by unfold bAt;rw[List.getD_eq_getElem?_getD,List.getElem?_drop,←List.getD_eq_getElem?_getD]
theorem Ba:InR (W.drop k) lo hi i j↔InR W lo hi (k+i) (k+j):=by unfold InR;rw[Az,Az]
theorem Ay.drop (h:Ay W)(k:Nat):Ay (W.drop k):=
 ⟨fun i j hij hj=>by rw[Az,Az];rw[List.length_drop] at hj;exact h.up _ _ (by omega) (by omega),fun i hi=>by rw[Az];rw[List.length_drop] at hi;exact h.lo _ (by omega),fun i hi=>by rw[Az];rw[List.length_drop] at hi;exact h.hi _ (by omega)⟩
theorem EvY_drop:EvY (W.drop k) lo hi i (x.drop k)↔EvY W lo hi (k+i) x:=by
 constructor
 ·rintro⟨j,a,b,c,d⟩;rw [List.length_drop] at b;rw [BB] at d;exact ⟨k+j,by omega,by omega,Ba.1 c,d⟩
 ·rintro⟨j,a,b,c,d⟩;obtain ⟨m,rfl⟩:∃m,j=k+m:=⟨j-k,by omega⟩;exact ⟨m,by omega,by rw[List.length_drop];omega,Ba.2 c,by rw[BB];exact d⟩
theorem EvN_drop:EvN (W.drop k) mark lo hi i (x.drop k)↔EvN W mark lo hi (k+i) x:=by
 unfold EvN;rw [Az];refine and_congr_left fun _=>⟨fun h j a b c=>?_,fun h j a b c=>?_⟩
 ·obtain⟨m,rfl⟩:∃m,j=k+m:=⟨j-k,by omega⟩;have:=h m (by omega) (by rw[List.length_drop];omega) (Ba.2 c);rwa [BB] at this
 ·rw[List.length_drop] at b;rw [BB];exact h (k+j) (by omega) (by omega) (Ba.1 c)
theorem evK_drop (W:List Pt)(mark lo hi:Int)(k i:Nat)(x:List Int):evK (W.drop k) mark lo hi i (x.drop k)=evK W mark lo hi (k+i) x:=by
 have hy:=EvY_drop (W:=W) (k:=k) (i:=i) (x:=x) (lo:=lo) (hi:=hi);have hn:=EvN_drop (W:=W) (k:=k) (i:=i) (x:=x) (lo:=lo) (hi:=hi) (mark:=mark);rcases evK_eq (W.drop k) mark lo hi i (x.drop k) with⟨a,e⟩|⟨a,b,e⟩|⟨a,b,e⟩<;>rcases evK_eq W mark lo hi (k+i) x with⟨a',e'⟩|⟨a',b',e'⟩|⟨a',b',e'⟩
 all_goals first
  |exact e.trans e'.symm
  |exact absurd (hy.1 a) a'
  |exact absurd (hy.2 a') a
  |exact absurd (hn.1 b) b'
  |exact absurd (hn.2 b') b
theorem farK_drop (hW:Ay W)(hi:Int)(k i:Nat)(x:List Int):Fb (W.drop k) hi i (x.drop k)=Fb W hi (k+i) x:=by
 apply Int.le_antisymm
 ·rw[Ez hW];obtain ⟨a,b,c⟩:=GD (hW.drop k) hi i (x.drop k);rw [Az] at b;refine ⟨a,b,fun s h1 h2 h3=>?_⟩;obtain ⟨m,rfl⟩:∃m,s=k+m:=⟨s-k,by omega⟩;have:=c m (by omega) (by rw[List.length_drop];omega) (by rw[BB];exact h3);rwa [Az,Az] at this
 ·rw[Ez (hW.drop k)];obtain ⟨a,b,c⟩:=GD hW hi (k+i) x;refine ⟨a,by rw[Az];exact b,fun s h1 h2 h3=>?_⟩;rw [List.length_drop] at h2;rw [BB] at h3;rw [Az,Az];exact c (k+s) (by omega) (by omega) h3
theorem UnY_drop:UnY (W.drop k) mark lo hi i (x.drop k) (y.drop k)↔UnY W mark lo hi (k+i) x y:=by
 constructor
 ·rintro⟨j,a,b,c,d,e,f⟩;rw [List.length_drop] at b;rw [BB] at d;rw [Az] at f;refine ⟨k+j,by omega,by omega,Ba.1 c,d,fun l h1 h2=>?_,by omega⟩;obtain ⟨m,rfl⟩:∃m,l=k+m:=⟨l-k,by omega⟩;have:=e m (by omega) (by omega);rwa [BB] at this
 ·rintro⟨j,a,b,c,d,e,f⟩;obtain ⟨m,rfl⟩:∃m,j=k+m:=⟨j-k,by omega⟩;exact ⟨m,by omega,by rw[List.length_drop];omega,Ba.2 c,by rw[BB];exact d,fun l h1 h2=>by rw[BB];exact e _ (by omega) (by omega),by rw[Az];omega⟩
theorem UnN_drop (hW:Ay W):UnN (W.drop k) mark lo hi i (x.drop k) (y.drop k)↔UnN W mark lo hi (k+i) x y:=by
 unfold UnN;rw [Az,farK_drop hW];refine and_congr_left fun _=>⟨fun h j a b c d=>?_,fun h j a b c d=>?_⟩
 ·obtain⟨m,rfl⟩:∃m,j=k+m:=⟨j-k,by omega⟩;have:=h m (by omega) (by rw[List.length_drop];omega) (Ba.2 c) (fun l h1 h2=>by rw[BB];exact d _ (by omega) (by omega));rwa [BB] at this
 ·rw[List.length_drop] at b;rw [BB];refine h (k+j) (by omega) (by omega) (Ba.1 c) fun l h1 h2=>?_;obtain ⟨m,rfl⟩:∃m,l=k+m:=⟨l-k,by omega⟩;have:=d m (by omega) (by omega);rwa [BB] at this
theorem unK_drop (hW:Ay W)(mark lo hi:Int)(k i:Nat)(x y:List Int):unK (W.drop k) mark lo hi i (x.drop k) (y.drop k)=unK W mark lo hi (k+i) x y:=by
 have hy:=UnY_drop (W:=W) (k:=k) (i:=i) (x:=x) (y:=y) (lo:=lo) (hi:=hi) (mark:=mark);have hn:=UnN_drop hW (k:=k) (i:=i) (x:=x) (y:=y) (lo:=lo) (hi:=hi) (mark:=mark);rcases GH (W.drop k) mark lo hi i (x.drop k) (y.drop k) with⟨a,e⟩|⟨a,b,e⟩|⟨a,b,e⟩<;>rcases GH W mark lo hi (k+i) x y with⟨a',e'⟩|⟨a',b',e'⟩|⟨a',b',e'⟩
 all_goals first
  |exact e.trans e'.symm
  |exact absurd (hy.1 a) a'
  |exact absurd (hy.2 a') a
  |exact absurd (hn.1 b) b'
  |exact absurd (hn.2 b') b
theorem knK_drop (hW:Ay W)(mark:Int)(n:Nd)(k i:Nat)(x y:List Int):knK (W.drop k) mark n i (x.drop k) (y.drop k)=knK W mark n (k+i) x y:=by
 unfold knK;rw [pAt_drop,Az,BB,BB,evK_drop,unK_drop hW]
theorem rowK_drop (hW:Ay W)(mark:Int)(n:Nd)(k:Nat)(x y:List Int):EX (W.drop k) mark n (x.drop k) (y.drop k)=(EX W mark n x y).drop k:=by
 unfold EX;refine List.ext_getElem (by simp) fun i h1 h2=>?_;simp only[List.getElem_map,List.getElem_range,List.getElem_drop];exact knK_drop hW mark n k i x y
theorem BN {α:Type}(l:List (List α))(k i:Nat):(l.map (List.drop k)).getD i []=(l.getD i []).drop k:=by
 rw[List.getD_eq_getElem?_getD,List.getElem?_map,List.getD_eq_getElem?_getD];cases l[i]?<;>simp
theorem rowsK_drop (hW:Ay W)(mark:Int)(k:Nat)(t:Tr):Bp (W.drop k) mark t=(Bp W mark t).map (List.drop k):=by
 induction t with
 |nil=>rfl
 |cons n c r ihc ihr=>
  simp only[Bp,List.map_cons];rw [ihc,ihr,BN,BN,rowK_drop hW]
theorem rowS_drop (hW:Ay W)(mark:Int)(k:Nat)(x:S1):rowS (W.drop k) mark x=(rowS W mark x).drop k:=by
 unfold rowS;rw [rowsK_drop hW,BN,BN,rowK_drop hW]
theorem GN (W:List Pt)(lo hi:Int)(k i:Nat)(u:List Bool)(b:Bool):someB (W.drop k) lo hi i (u.drop k) b=someB W lo hi (k+i) u b:=by
 rw[Bool.eq_iff_iff,EE,EE];constructor
 ·rintro⟨j,a,c,d,e⟩;rw [List.length_drop] at c;rw [Bc] at e;exact ⟨k+j,by omega,by omega,Ba.1 d,e⟩
 ·rintro⟨j,a,c,d,e⟩;obtain ⟨m,rfl⟩:∃m,j=k+m:=⟨j-k,by omega⟩;exact ⟨m,by omega,by rw[List.length_drop];omega,Ba.2 d,by rw[Bc];exact e⟩
theorem untB_drop (W:List Pt)(lo hi:Int)(k i:Nat)(u v:List Bool):untB (W.drop k) lo hi i (u.drop k) (v.drop k)=untB W lo hi (k+i) u v:=by
 rw[Bool.eq_iff_iff,Du,Du];constructor
 ·rintro⟨j,a,c,d,e,f⟩;rw [List.length_drop] at c;rw [Bc] at e;refine ⟨k+j,by omega,by omega,Ba.1 d,e,fun l h1 h2=>?_⟩;obtain ⟨m,rfl⟩:∃m,l=k+m:=⟨l-k,by omega⟩;have:=f m (by omega) (by omega);rwa [Bc] at this
 ·rintro⟨j,a,c,d,e,f⟩;obtain ⟨m,rfl⟩:∃m,j=k+m:=⟨j-k,by omega⟩;exact ⟨m,by omega,by rw[List.length_drop];omega,Ba.2 d,by rw[Bc];exact e,fun l h1 h2=>by rw[Bc];exact f _ (by omega) (by omega)⟩
theorem relB_drop (W:List Pt)(lo hi:Int)(k i:Nat)(u v:List Bool):relB (W.drop k) lo hi i (u.drop k) (v.drop k)=relB W lo hi (k+i) u v:=by
 rw[Bool.eq_iff_iff,Dz,Dz];constructor
 ·intro h j a c d;obtain ⟨m,rfl⟩:∃m,j=k+m:=⟨j-k,by omega⟩;rcases h m (by omega) (by rw[List.length_drop];omega) (Ba.2 d) with h|⟨l,h1,h2,h3⟩;·rw[Bc] at h;exact .inl h
  ·rw[Bc] at h3;exact .inr ⟨k+l,by omega,by omega,h3⟩
 ·intro h j a c d;rw [List.length_drop] at c;rw [Bc];rcases h (k+j) (by omega) (by omega) (Ba.1 d) with h|⟨l,h1,h2,h3⟩;·exact .inl h
  ·obtain⟨m,rfl⟩:∃m,l=k+m:=⟨l-k,by omega⟩;exact .inr ⟨m,by omega,by omega,by rw[Bc];exact h3⟩
theorem knT_drop (W:List Pt)(n:Nd)(k i:Nat)(u v:List Bool):knT (W.drop k) n i (u.drop k) (v.drop k)=knT W n (k+i) u v:=by
 unfold knT;rw [pAt_drop,Bc,Bc,GN,GN,untB_drop,relB_drop]
theorem rowT_drop (W:List Pt)(n:Nd)(k:Nat)(u v:List Bool):EW (W.drop k) n (u.drop k) (v.drop k)=(EW W n u v).drop k:=by
 unfold EW;refine List.ext_getElem (by simp) fun i h1 h2=>?_;simp only[List.getElem_map,List.getElem_range,List.getElem_drop];exact knT_drop W n k i u v
theorem rowsT_drop (W:List Pt)(k:Nat)(t:Tr):CJ (W.drop k) t=(CJ W t).map (List.drop k):=by
 induction t with
 |nil=>rfl
 |cons n c r ihc ihr=>
  simp only[CJ,List.map_cons];rw [ihc,ihr,BN,BN,rowT_drop]
theorem rowTS_drop (W:List Pt)(k:Nat)(x:S1):rowTS (W.drop k) x=(rowTS W x).drop k:=by
 unfold rowTS;rw [rowsT_drop,BN,BN,rowT_drop]
end
theorem lof_one (a:List PP):lof (lof a)=lof a:=by
 have:=lof_lof a [];rwa [lof_nil,List.append_nil,List.append_nil] at this
theorem lof_app_lof (m l:List PP):lof (m++lof l)=lof (m++l):=FW (DA _) fun x=>by rw[BZ,List.mem_append,List.mem_append,BZ]
theorem putW_lof (W:List Pt)(t:Int)(l:List PP):putW W t (lof l)=putW W t l:=by
 unfold putW;simp only[lof_one,lof_app_lof]
theorem Gy:∀{k:Nat} {W:List Pt} {t:Int},k≤W.length→(∀i,i<k→tAt W i<t)→fromI W t=k+fromI (W.drop k) t
 |0,W,t,_,_=>by simp
 |k+1,[],t,h,_=>by simp at h
 |k+1,p::W,t,h,hp=>by
  have h0:p.1<t:=hp 0 (by omega);have ih:=Gy (k:=k) (W:=W) (t:=t) (by simpa using h) (fun i hi=>hp (i+1) (by omega));rw [Dg,if_pos h0,ih,List.drop_succ_cons];omega
theorem Dt {W:List Pt}(h:AU W=true){i:Nat}(hi:i<W.length):0≤tAt W i∧Am (pAt W i)=true∧(∀j,j<i→tAt W j<tAt W i):=by
 have key:∀m,m<W.length→0≤tAt W m∧Am (pAt W m)=true∧(0<m→tAt W (m-1)<tAt W m):=fun m hm=>by
  have h1:=DI h hm;have e1:tAt W m=W[m].1:=by unfold tAt;rw[List.getD_eq_getElem?_getD,List.getElem?_eq_getElem hm];rfl
  have e2:pAt W m=W[m].2:=by unfold pAt;rw[List.getD_eq_getElem?_getD,List.getElem?_eq_getElem hm];rfl
  rw[e1,e2]
  cases m with
  |zero=>rw[DR] at h1;simp at h1;exact⟨h1.1,h1.2,fun h=>absurd h (by omega)⟩
  |succ m=>
   rw[Cn (by omega)] at h1;simp at h1;have e3:tAt W m=W[m].1:=by unfold tAt;rw[List.getD_eq_getElem?_getD,List.getElem?_eq_getElem (by omega)];rfl
   rw[Nat.add_sub_cancel,e3];exact ⟨h1.1.1,h1.2,fun _=>h1.1.2⟩
 refine⟨(key i hi).1,(key i hi).2.1,?_⟩
 have:∀d j,j+d+1<W.length→tAt W j<tAt W (j+d+1):=by
  intro d
  induction d with
  |zero=>intro j hj;have:=(key (j+1) hj).2.2 (by omega);rwa[Nat.add_sub_cancel] at this
  |succ d ih=>
   intro j hj;have h1:=ih j (by omega);have h2:=(key (j+d+1+1) (by omega)).2.2 (by omega);rw [Nat.add_sub_cancel] at h2;rw [show j+(d+1)+1=j+d+1+1 by omega];omega
 intro j hj;have:=this (i-j-1) j (by omega);rwa [show j+(i-j-1)+1=i by omega] at this
theorem Fg {W:List Pt}(h:AU W=true)(k:Nat):AU (W.drop k)=true:=by
 refine C5 fun i hi=>?_;have hi':k+i<W.length:=by rw[List.length_drop] at hi;omega
 obtain⟨h1,h2,h3⟩:=Dt h hi';have e1:(W.drop k)[i].1=tAt W (k+i):=by unfold tAt;rw[List.getElem_drop,List.getD_eq_getElem?_getD,List.getElem?_eq_getElem hi'];rfl
 have e2:(W.drop k)[i].2=pAt W (k+i):=by unfold pAt;rw[List.getElem_drop,List.getD_eq_getElem?_getD,List.getElem?_eq_getElem hi'];rfl
 cases i with
 |zero=>rw[DR,e1,e2,h2];simp;exact h1
 |succ i=>
  rw[Cn (by omega),e1,e2,h2];have e3:(W.drop k)[i].1=tAt W (k+i):=by unfold tAt;rw[List.getElem_drop,List.getD_eq_getElem?_getD,List.getElem?_eq_getElem (by omega)];rfl
  have:=h3 (k+i) (by omega);rw [e3];simp;exact⟨h1,this⟩
theorem Cw {W:List Pt}{t:Int}{l:List PP}(hr:AU W=true)(hm:(decide (0≤t)&&Am (lof l))=true):
 (∃q,∃hq:q<W.length,q=fromI W t∧W[q].1=t∧putW W t l=(W.set q (t,lof (W[q].2++l)),q,false))∨
 (∃q,q=fromI W t∧q≤W.length∧(∀hk:q<W.length,t<W[q].1)∧putW W t l=(W.take q++(t,lof l)::W.drop q,q,true)):=by
 unfold putW;rw [if_neg (by simp[hr]),if_neg (by simp[hm])];by_cases H:∃hk:fromI W t<W.length,W[fromI W t].1=t
 ·rw[dif_pos H];obtain ⟨h1,h2⟩:=H;exact .inl ⟨_,h1,rfl,h2,rfl⟩
 ·rw[dif_neg H];refine .inr ⟨_,rfl,Cg W t,fun hk=>?_,rfl⟩;have h1:=Gx hk;have h2:W[fromI W t].1≠t:=fun e=>H ⟨hk,e⟩;omega
theorem putW_drop {W:List Pt}{k:Nat}{t:Int}{l:List PP}(h:AU W=true)(hk:k≤W.length)(hp:∀i,i<k→tAt W i<t)(hm:(decide (0≤t)&&Am (lof l))=true):
 (putW W t l).1.drop k=(putW (W.drop k) t l).1∧(putW W t l).2.1=k+(putW (W.drop k) t l).2.1∧(putW W t l).2.2=(putW (W.drop k) t l).2.2∧(putW W t l).1.take k=W.take k:=by
 have hf:=Gy hk hp;have hlen:=List.length_drop (l:=W) (i:=k);rcases Cw h hm with⟨q,h1,hq,h2,e1⟩|⟨q,hq,h0,h1,e1⟩<;>rcases Cw (Fg h k) hm with⟨m,k1,hm',k2,e2⟩|⟨m,hm',k0,k1,e2⟩
 ·obtain rfl:q=k+m:=by omega
  rw[e1,e2];refine ⟨?_,rfl,rfl,List.take_set_of_le (by omega)⟩;simp only[List.getElem_drop];rw [List.drop_set,if_neg (by omega),Nat.add_sub_cancel_left]
 ·obtain rfl:q=k+m:=by omega
  have:=k1 (by omega);rw [List.getElem_drop] at this;omega
 ·obtain rfl:q=k+m:=by omega
  have:=h1 (by omega);rw [List.getElem_drop] at k2;omega
 ·obtain rfl:q=k+m:=by omega
  have hkm:k≤(W.take (k+m)).length:=by rw[List.length_take];omega
  rw[e1,e2];refine ⟨?_,rfl,rfl,?_⟩
  ·show List.drop k (W.take (k+m)++_)=(W.drop k).take m++_::(W.drop k).drop m;rw [List.drop_drop,List.drop_append_of_le_length hkm,List.drop_take,Nat.add_sub_cancel_left]
  ·show List.take k (W.take (k+m)++_)=W.take k;rw [List.take_append_of_le_length hkm,List.take_take,Nat.min_eq_left (by omega)]
end Go.Proofs.YtoegdmpmagbaiaaGreatDoor
namespace Go.Proofs.YtoegdmpmagbaiaaGreatDoor
open Go.RowKit Go.Sort Go.Lib
end Go.Proofs.YtoegdmpmagbaiaaGreatDoor
namespace Go.Proofs.YtoegdmpmagbaiaaGreatDoor
open Go.RowKit Go.Lib
def Dm (W V:List Pt)(mark:Int):Prop:=∃F:List Pt,(∀e∈F,mark<e.1∧e.1≤AO)∧Bj (W++F) V
theorem pt_uniq {W:List Pt}(h:W.Pairwise fun p q=>p.1<q.1){p q:Pt}(hp:p∈W)(hq:q∈W)(e:p.1=q.1):p=q:=by
 obtain⟨i,hi,rfl⟩:=List.getElem_of_mem hp;obtain ⟨j,hj,rfl⟩:=List.getElem_of_mem hq;have h':=List.pairwise_iff_getElem.1 h;rcases Nat.lt_trichotomy i j with h1|h1|h1;·have:=h' i j hi hj h1;omega
 ·subst h1;rfl
 ·have:=h' j i hj hi h1;omega
theorem self_word {W:List Pt}(hr:AU W=true):Bj W W:=by
 obtain⟨h1,h2⟩:=(DZ W).1 hr;have hg:∀p∈W,DV p=true:=fun p hp=>(EQ p).2 ⟨(h2 p hp).1,((Cu _).1 (h2 p hp).2).2⟩
 exact⟨h1,fun p hp=>((Cu _).1 (h2 p hp).2).1,fun p hp x=>⟨fun hx=>⟨p,hp,hg p hp,rfl,hx⟩,fun⟨e,he,_,h3,hx⟩=>by rw[←pt_uniq h1 he hp h3];exact hx⟩,
  fun p hp=>⟨p,hp,hg p hp,rfl⟩,fun e he _=>⟨e,he,rfl⟩⟩
theorem Dm.self {W:List Pt}(hr:AU W=true)(mark:Int):Dm W W mark:=⟨[],(fun _ h=>by cases h),by rw[List.append_nil];exact self_word hr⟩
theorem Dm.put {W V:List Pt}{mark:Int}(h:Dm W V mark){t:Int}(l:List PP)(ht:mark<t)(h63:t≤AO):Dm W (putW V t l).1 mark:=by
 obtain⟨F,hF,hw⟩:=h;refine ⟨F++[(t,l)],fun e he=>?_,by rw[←List.append_assoc];exact hw.put t l⟩;rw [List.mem_append,List.mem_singleton] at he;rcases he with he|rfl;·exact hF e he
 ·exact⟨ht,h63⟩
theorem Dm.right {W V:List Pt}{mark:Int}(h:Dm W V mark):AU V=true:=let⟨_,_,hw⟩:=h;hw.right
theorem B0 {W:List Pt}{i:Nat}(hi:i<W.length):tAt W i=W[i].1:=by
 unfold tAt;rw[List.getD_eq_getElem?_getD,List.getElem?_eq_getElem hi];rfl
theorem F3 {W:List Pt}{i:Nat}(hi:i<W.length):pAt W i=W[i].2:=by
 unfold pAt;rw[List.getD_eq_getElem?_getD,List.getElem?_eq_getElem hi];rfl
theorem Ga {W:List Pt}(hr:AU W=true)(h63:∀p∈W,p.1≤AO):Ay W:=by
 obtain⟨h1,h2⟩:=(DZ W).1 hr;refine ⟨fun i j hij hj=>?_,fun i hi=>?_,fun i hi=>?_⟩;·rw[B0 (by omega),B0 hj];exact List.pairwise_iff_getElem.1 h1 i j (by omega) hj hij
 ·rw[B0 hi];exact(h2 _ (List.getElem_mem hi)).1
 ·rw[B0 hi];exact h63 _ (List.getElem_mem hi)
theorem Dm.hi {W V:List Pt}{mark:Int}(h:Dm W V mark)(h63:∀p∈W,p.1≤AO):∀p∈V,p.1≤AO:=fun p hp=>by
 obtain⟨F,hF,hw⟩:=h;obtain ⟨e,he,_,h1⟩:=hw.src p hp;rw [List.mem_append] at he;rw [←h1];rcases he with he|he;·exact h63 e he
 ·exact(hF e he).2
theorem fromI_at {V:List Pt}(hr:AU V=true){k:Nat}(hk:k<V.length):fromI V V[k].1=k:=
 D5 (Nat.le_of_lt hk) (fun _ _ hjk=>Cm hr hjk hk) (fun _=>Int.lt_irrefl _)
theorem Dm.ext {W V:List Pt}{mark:Int}(h:Dm W V mark)(hr:AU W=true)(h63:∀p∈W,p.1≤AO):Ext W V mark (fun i=>fromI V (tAt W i)):=by
 have hR:=h.right;have hV:=Ga hR (h.hi h63);obtain ⟨F,hF,hw⟩:=h;obtain ⟨h1,h2⟩:=(DZ W).1 hr;have hg:∀p∈W,DV p=true:=fun p hp=>(EQ p).2 ⟨(h2 p hp).1,((Cu _).1 (h2 p hp).2).2⟩
 have hin:∀i,(hi:i<W.length)→∃k,∃hk:k<V.length,fromI V (tAt W i)=k∧V[k].1=W[i].1:=fun i hi=>by
  obtain⟨p,hp,e⟩:=hw.has W[i] (List.mem_append_left _ (List.getElem_mem hi)) (hg _ (List.getElem_mem hi));obtain ⟨k,hk,rfl⟩:=List.getElem_of_mem hp;exact ⟨k,hk,by rw[B0 hi,←e];exact fromI_at hR hk,e⟩
 have hsub:∀i,(hi:i<W.length)→∀k,(hk:k<V.length)→V[k].1=W[i].1→∀x∈W[i].2,x∈V[k].2:=fun i hi k hk e x hx=>
  (hw.mem V[k] (List.getElem_mem hk) x).2 ⟨W[i],List.mem_append_left _ (List.getElem_mem hi),hg _ (List.getElem_mem hi),e.symm,hx⟩;refine ⟨Ga hr h63,hV,fun i hi=>?_,fun i hi=>?_,fun k hk=>?_,fun i hi n op v hh=>?_,fun i hi hm n op v hh=>?_⟩
 ·obtain⟨k,hk,e,_⟩:=hin i hi;rw [e];exact hk
 ·obtain⟨k,hk,e,h3⟩:=hin i hi;rw [e,B0 hk,B0 hi];exact h3
 ·obtain⟨e,he,_,h3⟩:=hw.src V[k] (List.getElem_mem hk);rw [List.mem_append] at he;rcases he with he|he
  ·obtain⟨i,hi,rfl⟩:=List.getElem_of_mem he;exact .inl ⟨i,hi,by rw[B0 hi,h3];exact fromI_at hR hk⟩
  ·right;rw [B0 hk,←h3];exact(hF e he).1
 ·obtain⟨k,hk,e,h3⟩:=hin i hi;rw [e,F3 hk];rw [F3 hi] at hh;unfold holdsB at*;rw [List.any_eq_true] at*;obtain ⟨x,hx,h4⟩:=hh;exact ⟨x,hsub i hi k hk h3 x hx,h4⟩
 ·obtain⟨k,hk,e,h3⟩:=hin i hi;rw [e,F3 hk] at hh;rw [F3 hi];unfold holdsB at*;rw [List.any_eq_true] at*;obtain ⟨x,hx,h4⟩:=hh;obtain ⟨d,hd,_,h5,h6⟩:=(hw.mem V[k] (List.getElem_mem hk) x).1 hx;rw [List.mem_append] at hd;rcases hd with hd|hd
  ·have:=pt_uniq h1 hd (List.getElem_mem hi) (by rw[h5,h3]);exact ⟨x,by rw[←this];exact h6,h4⟩
  ·have h7:=(hF d hd).1;rw [B0 hi] at hm;omega
def CQ (V:List Pt)(n m:Nat):Prop:=V.length≤n∧∀p∈V,p.2.length≤m∧∀x∈p.2,x.name.size≤40
theorem lof_bnd {a b:List PP}{m:Nat}(ha:a.length≤m)(hb:b.length≤10)(hx:∀x∈a,x.name.size≤40)(hy:∀x∈b,x.name.size≤40):(lof (a++b)).length≤m+10∧∀x∈lof (a++b),x.name.size≤40:=by
 refine⟨by have:=EP (a++b);rw[List.length_append] at this;omega,fun x h=>?_⟩;rw [BZ,List.mem_append] at h;rcases h with h|h;·exact hx x h
 ·exact hy x h
theorem CQ.put {V:List Pt}{n m:Nat}(h:CQ V n m)(t:Int){l:List PP}(hl:l.length≤10)(hs:∀x∈l,x.name.size≤40):CQ (putW V t l).1 (n+1) (m+10):=by
 have hw:CQ V (n+1) (m+10):=⟨by have:=h.1;omega,fun p hp=>⟨by have:=(h.2 p hp).1;omega,(h.2 p hp).2⟩⟩;unfold putW;split;·exact⟨Nat.zero_le _,fun _ h=>by cases h⟩
 ·split;·exact hw
  ·split
   ·rename_i hx;obtain ⟨hk,ht⟩:=hx;refine ⟨by dsimp only;rw[List.length_set];exact hw.1,fun p hp=>?_⟩;dsimp only at hp;rcases List.mem_or_eq_of_mem_set hp with hp|rfl;·exact hw.2 p hp
    ·have:=h.2 _ (List.getElem_mem hk);exact lof_bnd this.1 hl this.2 hs
   ·refine⟨by dsimp only;rw[List.length_append,List.length_cons,List.length_take,List.length_drop];have:=h.1;have:=Cg V t;omega,fun p hp=>?_⟩;dsimp only at hp;rw [List.mem_append,List.mem_cons] at hp;rcases hp with hp|rfl|hp;·exact hw.2 p (List.mem_of_mem_take hp)
    ·have:=lof_bnd (a:=[]) (m:=m) (Nat.zero_le _) hl (fun _ h=>by cases h) hs;rwa [List.nil_append] at this
    ·exact hw.2 p (List.mem_of_mem_drop hp)
structure EG where
 W:List Pt
 S:List Int
 told:Nat
 mark:Int
def EG.new:EG:=⟨[],[],0,-1⟩
def topE (W:List Pt):Int:=if W.length=0 then -1 else tAt W (W.length-1)
structure EG.Ok (g:EG):Prop where
 right:AU g.W=true
 h63:∀p∈g.W,p.1≤AO
 len:g.S.length=g.W.length
 told:g.told≤g.W.length
 past:∀i,i<g.told→tAt g.W i≤g.mark
 lo: -1≤g.mark
 hi:g.mark≤AO
def EG.live (g:EG):List Pt:=g.W.drop g.told
def EG.since (g:EG):List Int:=g.S.drop g.told
def Dn (S:List Int)(k:Nat)(v:Int):List Int:=S.take k++v::S.drop k
def EG.may (g:EG)(t:Int)(l:List PP):Bool:=decide (0≤t)&&decide (g.mark<t)&&Am (lof l)
def EG.put (g:EG)(t:Int)(l:List PP)(now:Int):EG:=
 {g with W:=(putW g.W t l).1,S:=if(putW g.W t l).2.2 then Dn g.S (putW g.W t l).2.1 now else g.S}
def EG.raise (g:EG)(m:Int):EG:={g with mark:=m}
def EG.next (g:EG):EG:={g with told:=g.told+1}
theorem EG.new_ok:EG.new.Ok:=⟨rfl,(fun _ h=>by cases h),rfl,Nat.le_refl _,(fun _ h=>absurd h (by simp[EG.new])),Int.le_refl _,by decide⟩
theorem EG.Ok.rise {g:EG}(h:g.Ok):Ay g.W:=Ga h.right h.h63
theorem EG.Ok.lrise {g:EG}(h:g.Ok):Ay g.live:=h.rise.drop _
theorem EG.Ok.lright {g:EG}(h:g.Ok):AU g.live=true:=Fg h.right _
theorem EG.Ok.slen {g:EG}(h:g.Ok):g.since.length=g.live.length:=by unfold EG.since EG.live;rw[List.length_drop,List.length_drop,h.len]
theorem EN {g:EG}{t:Int}{l:List PP}:g.may t l=true↔0≤t∧g.mark<t∧Am (lof l)=true:=by unfold EG.may;simp[and_assoc]
theorem DT {g:EG}{t:Int}{l:List PP}(h:g.may t l=true):(decide (0≤t)&&Am (lof l))=true:=by
 obtain⟨h1,_,h2⟩:=EN.1 h;simp [h1,h2]
theorem EZ {W:List Pt}{t:Int}{l:List PP}(hr:AU W=true)(hm:(decide (0≤t)&&Am (lof l))=true):(putW W t l).2.1=fromI W t:=by
 rcases Cw hr hm with⟨q,_,e,_,h⟩|⟨q,e,_,_,h⟩<;>rw[h,←e]
theorem putW_length {W:List Pt}{t:Int}{l:List PP}(hr:AU W=true)(hm:(decide (0≤t)&&Am (lof l))=true):(putW W t l).1.length=W.length+if(putW W t l).2.2 then 1 else 0:=by
 have hf:=Cg W t;rcases Cw hr hm with⟨q,_,e,_,h⟩|⟨q,e,_,_,h⟩;·rw[h];simp
 ·rw[h];simp only[List.length_append,List.length_cons,List.length_take,List.length_drop,if_true];omega
theorem putW_word {W:List Pt}(hr:AU W=true)(t:Int)(l:List PP):AU (putW W t l).1=true:=((self_word hr).put t l).right
theorem putW_63 {W:List Pt}(hr:AU W=true)(h63:∀p∈W,p.1≤AO){t:Int}(l:List PP)(ht:t≤AO):∀p∈(putW W t l).1,p.1≤AO:=
 ((Dm.self hr (t-1)).put l (by omega) ht).hi h63
theorem tAt_take {W:List Pt}{k i:Nat}(h:i<k):tAt (W.take k) i=tAt W i:=by
 unfold tAt;rw[List.getD_eq_getElem?_getD,List.getElem?_take,if_pos h,←List.getD_eq_getElem?_getD]
theorem EG.put_take {g:EG}(h:g.Ok){t:Int}{l:List PP}(hm:g.may t l=true):(putW g.W t l).1.take g.told=g.W.take g.told:=
 (putW_drop h.right h.told (fun i hi=>by have:=h.past i hi;have:=(EN.1 hm).2.1;omega) (DT hm)).2.2.2
theorem EG.put_live {g:EG}(h:g.Ok){t:Int}{l:List PP}(hm:g.may t l=true):
 (putW g.W t l).1.drop g.told=(putW g.live t (lof l)).1∧(putW g.W t l).2.1=g.told+(putW g.live t (lof l)).2.1∧(putW g.W t l).2.2=(putW g.live t (lof l)).2.2:=by
 have:=putW_drop h.right h.told (fun i hi=>by have:=h.past i hi;have:=(EN.1 hm).2.1;omega) (DT hm);rw [putW_lof];exact ⟨this.1,this.2.1,this.2.2.1⟩
theorem E8 {S:List Int}{k:Nat}(h:k≤S.length)(v:Int):(Dn S k v).length=S.length+1:=by
 unfold Dn;simp only[List.length_append,List.length_cons,List.length_take,List.length_drop];omega
theorem insI_drop {S:List Int}{m k:Nat}(h:m≤S.length)(v:Int):(Dn S (m+k) v).drop m=Dn (S.drop m) k v:=by
 unfold Dn;by_cases hk:m+k≤S.length;·rw[List.drop_append_of_le_length (by rw[List.length_take];omega),List.drop_take,Nat.add_sub_cancel_left,List.drop_drop]
 ·have e1:S.drop (m+k)=[]:=List.drop_eq_nil_of_le (by omega);have e2:(S.drop m).drop k=[]:=List.drop_eq_nil_of_le (by rw[List.length_drop];omega);rw [e1,e2,List.take_of_length_le (by omega),List.take_of_length_le (by rw[List.length_drop];omega),List.drop_append_of_le_length h]
theorem EG.Ok.put {g:EG}(h:g.Ok){t:Int}{l:List PP}(now:Int)(hm:g.may t l=true)(ht:t≤AO):(g.put t l now).Ok:=by
 have hg:=DT hm;have hl:=putW_length h.right hg;have hp:=EZ h.right hg;have hf:=Cg g.W t;refine ⟨putW_word h.right t l,putW_63 h.right h.h63 l ht,?_,?_,fun i hi=>?_,h.lo,h.hi⟩
 ·show List.length (if (putW g.W t l).2.2 then Dn g.S (putW g.W t l).2.1 now else g.S)=(putW g.W t l).1.length;rw [hl];cases (putW g.W t l).2.2;·simp[h.len]
  ·rw[if_pos rfl,if_pos rfl,E8 (by rw[hp,h.len];exact hf),h.len]
 ·show g.told≤(putW g.W t l).1.length;have:=h.told;omega
 ·show tAt (putW g.W t l).1 i≤g.mark;have hi':i<g.told:=hi;rw [←tAt_take hi',EG.put_take h hm,tAt_take hi'];exact h.past i hi'
theorem EG.Ok.raise {g:EG}(h:g.Ok){m:Int}(hm:g.mark<m)(h63:m≤AO):(g.raise m).Ok:=
 ⟨h.right,h.h63,h.len,h.told,fun i hi=>by have:=h.past i hi;show tAt g.W i≤m;omega,by have:=h.lo;show -1≤m;omega,h63⟩
theorem EG.Ok.next {g:EG}(h:g.Ok)(h1:g.told<g.W.length)(h2:tAt g.W g.told≤g.mark):g.next.Ok:=
 ⟨h.right,h.h63,h.len,h1,fun i hi=>by
  rcases Nat.lt_succ_iff_lt_or_eq.1 (show i<g.told+1 from hi) with h3|h3;·exact h.past i h3
  ·rw[h3];exact h2,h.lo,h.hi⟩
theorem tAt_set {W:List Pt}{k:Nat}{p:Pt}(hk:k<W.length)(h:p.1=tAt W k)(i:Nat):tAt (W.set k p) i=tAt W i:=by
 unfold tAt at*;rw [List.getD_eq_getElem?_getD,List.getElem?_set];by_cases e:k=i;·subst e;rw[if_pos rfl,if_pos hk,←h];rfl
 ·rw[if_neg e,←List.getD_eq_getElem?_getD]
theorem topE_put {W:List Pt}{t:Int}{l:List PP}(hr:AU W=true)(hm:(decide (0≤t)&&Am (lof l))=true):topE (putW W t l).1=max (topE W) t:=by
 have ht0:0≤t:=by simp at hm;exact hm.1
 rcases Cw hr hm with⟨q,hk,hq,e,h⟩|⟨q,hq,hf,hk,h⟩
 ·rw[h];have ek:tAt W q=t:=by rw[B0 hk];exact e
  unfold topE;dsimp only;rw [List.length_set,if_neg (by omega),if_neg (by omega),tAt_set hk (by rw[ek])]
  have:t≤tAt W (W.length-1):=by
   rcases Nat.lt_or_eq_of_le (show q≤W.length-1 by omega) with h1|h1;·have:=(Dt hr (i:=W.length-1) (by omega)).2.2 _ h1;omega
   ·rw[←h1,ek];exact Int.le_refl _
  omega
 ·rw[h];unfold topE;dsimp only;have hlen:(W.take q++(t,lof l)::W.drop q).length=W.length+1:=by simp only[List.length_append,List.length_cons,List.length_take,List.length_drop];omega
  rw[hlen,if_neg (by omega),Nat.add_sub_cancel];have htl:(W.take q).length=q:=by rw[List.length_take];omega
  rcases Nat.lt_or_eq_of_le hf with h1|h1
  ·have h2:=hk h1
   have h3:tAt (W.take q++(t,lof l)::W.drop q) W.length=tAt W (W.length-1):=by
    unfold tAt;rw [List.getD_eq_getElem?_getD,List.getElem?_append_right (by omega),htl,show W.length-q=(W.length-1-q)+1 by omega,List.getElem?_cons_succ,List.getElem?_drop,show q+(W.length-1-q)=W.length-1 by omega,←List.getD_eq_getElem?_getD]
   rw[h3,if_neg (by omega)]
   have h4:tAt W q≤tAt W (W.length-1):=by
    rcases Nat.lt_or_eq_of_le (show q≤W.length-1 by omega) with h5|h5;·have:=(Dt hr (i:=W.length-1) (by omega)).2.2 _ h5;omega
    ·rw[←h5];exact Int.le_refl _
   rw[B0 h1] at h4;omega
  ·have h3:tAt (W.take q++(t,lof l)::W.drop q) W.length=t:=by
    unfold tAt;rw [List.getD_eq_getElem?_getD,List.getElem?_append_right (by omega),htl,show W.length-q=0 by omega];rfl
   rw[h3];split;·omega
   ·have h4:tAt W (W.length-1)<t:=by
     obtain⟨hj,h5⟩:=Gw (show W.length-1<fromI W t by omega);rw [B0 hj];exact h5
    omega
def EG.nextV (g:EG)(s:S1):Int:=if g.told<g.W.length∧tAt g.W g.told≤g.mark then xAt (rowS g.W g.mark s) g.told else 2
theorem nextV_ne {g:EG}{s:S1}(h:g.nextV s≠2):g.told<g.W.length∧tAt g.W g.told≤g.mark∧g.nextV s=xAt (rowS g.W g.mark s) g.told:=by
 unfold EG.nextV at*;split at h;·rename_i h1;rw[if_pos h1];exact⟨h1.1,h1.2,rfl⟩
 ·exact absurd rfl h
theorem live_row {g:EG}(h:g.Ok)(s:S1):rowS g.live g.mark s=(rowS g.W g.mark s).drop g.told:=rowS_drop h.rise _ _ _
theorem live_truth (g:EG)(s:S1):rowTS g.live s=(rowTS g.W s).drop g.told:=rowTS_drop _ _ _
end Go.Proofs.YtoegdmpmagbaiaaGreatDoor
