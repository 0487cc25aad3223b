/- Words: the place of a moment. -/
import Derived.Test.YtoegdmpmagbaiaaGreatDoorQW1
import Derived.Test.YtoegdmpmagbaiaaGreatDoorKA
import Derived.Laws.CopyOwn
import Derived.Laws.MakeOwn
import Derived.Shelf.Spec.SlicesInsert
set_option maxHeartbeats 4000000
set_option maxRecDepth 100000
namespace Go.Proofs.YtoegdmpmagbaiaaGreatDoor
open Go.RowKit Go.Sort Go.Lib
def fromI (l:List Pt)(t:Int):Nat:=(l.takeWhile (fun q=>decide (q.1<t))).length
def fromW (l:List Pt)(t:Int):Nat:=if AU l then fromI l t else 0
theorem D5:∀{l:List Pt} {t:Int} {k:Nat},k≤l.length→(∀j,(hj:j<l.length)→j<k→l[j].1<t)→(∀hk:k<l.length,¬l[k].1<t)→fromI l t=k
 |[],_,k,hk,_,_=>by simp at hk;subst hk;rfl
 |x::l,t,0,_,_,h=>by
  have:=h (by simp);simp at this;unfold fromI;rw [List.takeWhile_cons,if_neg (by simpa using this)];rfl
 |x::l,t,k+1,hk,h1,h2=>by
  have h0:=h1 0 (by simp) (by omega);simp at h0;unfold fromI;rw [List.takeWhile_cons,if_pos (by simpa using h0),List.length_cons];have:=D5 (l:=l) (t:=t) (k:=k) (by simpa using hk) (fun j hj hjk=>by have:=h1 (j+1) (by simpa using hj) (by omega);simpa using this) (fun hk'=>by have:=h2 (by simpa using hk');simpa using this);unfold fromI at this;omega
theorem Cg (l:List Pt)(t:Int):fromI l t≤l.length:=by unfold fromI;exact(List.takeWhile_sublist _).length_le
theorem Dg (x:Pt)(l:List Pt)(t:Int):fromI (x::l) t=if x.1<t then fromI l t+1 else 0:=by
 unfold fromI;rw [List.takeWhile_cons];by_cases h:x.1<t;·rw[if_pos (by simpa using h),if_pos h];rfl
 ·rw[if_neg (by simpa using h),if_neg h];rfl
theorem Gw {t:Int}:∀{l:List Pt} {j:Nat},j<fromI l t→∃hj:j<l.length,l[j].1<t
 |[],j,h=>by simp[fromI] at h
 |x::l,j,h=>by
  rw[Dg] at h;by_cases hx:x.1<t
  ·rw[if_pos hx] at h
   cases j with
   |zero=>exact⟨by simp,by simpa using hx⟩
   |succ j=>
    obtain⟨h1,h2⟩:=Gw (t:=t) (l:=l) (j:=j) (by omega);exact ⟨by simpa using h1,by simpa using h2⟩
  ·rw[if_neg hx] at h;omega
theorem Gx {t:Int}:∀{l:List Pt} (h:fromI l t<l.length),¬l[fromI l t].1<t
 |[],h=>by simp at h
 |x::l,h=>by
  by_cases hx:x.1<t
  ·have e:fromI (x::l) t=fromI l t+1:=by rw[Dg,if_pos hx]
   have h2:fromI l t<l.length:=by rw[e] at h;simpa using h
   have:=Gx h2;simp only[e,List.getElem_cons_succ];exact this
  ·have e:fromI (x::l) t=0:=by rw[Dg,if_neg hx]
   simp only[e,List.getElem_cons_zero];exact hx
theorem Cm {l:List Pt}(h:AU l=true):∀{i j:Nat} (hij:i<j) (hj:j<l.length),(l[i]'(by omega)).1<l[j].1:=by
 intro i j hij
 induction j with
 |zero=>omega
 |succ j ih=>
  intro hj;have h1:=DI h hj;rw [Cn (by omega)] at h1;simp only[Bool.and_eq_true,Bool.not_eq_true',decide_eq_false_iff_not] at h1;rcases Nat.lt_succ_iff_lt_or_eq.1 hij with h'|h';·have:=ih h' (by omega);omega
  ·subst h';omega
theorem cmpI_neg (a b:Int):compareInt a b<0↔a<b:=by unfold compareInt;split<;>(try split)<;>omega
theorem rw_From (w:World)(A:Option Addr)(c:Nat)(ps:List Pn)(t:Int)(h:WSl w A c ps)(hnm:NmW ps)(hfew:ps.length≤1000):
 Calls Tryz.prog 79 #[.slice A ps.length c,.int .i64 t] w fun e w'=>e=.returned (.int .i64 (fromW (pts ps) t:Nat))∧Fr Nob w w':=by
 have HR:=AA (GP w A c ps h hnm hfew);have HL:=AA h;unfold fromW;clear h hnm;cases hr:AU (pts ps)
 ·rw[hr] at HR;clear hr;rw [if_neg (by simp)];go_enter Tryz.func79,Tryz.ntmps79;go_wp2_with ((go_at_call 78);refine(HR.out).mono ?_;rintro e w1 ⟨rfl,hf1⟩);go_ret;exact ⟨rfl,hf1⟩
 ·rw[hr] at HR;clear hr;rw [if_pos rfl];go_enter Tryz.func79,Tryz.ntmps79;go_wp2_with ((go_at_call 78);refine(HR.out).mono ?_;rintro e w1 ⟨rfl,hf1⟩;have HF1:=AA hf1;clear hf1);go_loopw [5] (fun i wr=>∃k:Nat,k≤ps.length∧i=.int .i64 k∧Hid (∀j,(hj:j< (pts ps).length)→j<k→(pts ps)[j].1<t)∧Hid (wr=w1)) (fun i _=>ps.length-(intOf i).toNat);case atStart=>exact⟨0,Nat.zero_le _,rfl,AA (fun j _ hj=>absurd hj (by omega)),AA rfl⟩
  case round=>
   obtain⟨k,hk,rfl,hall,hwr⟩:=hrel;obtain rfl:=hwr.out;by_cases hlt:k<ps.length
   ·have hI:(k:Int)<ps.length:=by omega
    have hI3:0≤(k:Int):=by omega
    have hlp:k< (pts ps).length:=by rw[AC];exact hlt
    obtain⟨b,off,rfl,hb,d0,d1⟩:=(HL.out.pure HF1.out).at_ hlt;have HP:=AA (show (pts ps)[k].1=ps[k].t by simp[pts,Pn.pt]);by_cases hge:ps[k].t<t
    ·have HY:=AA (show ∀j,(hj:j< (pts ps).length)→j<k+1→(pts ps)[j].1<t from fun j hj hjk=>by
      rcases Nat.lt_succ_iff_lt_or_eq.1 hjk with h'|h';·exact hall.out j hj h'
      ·subst h';rw[HP.out];exact hge);have hgb:¬t≤ps[k].t:=by omega
     generalize ps[k].t=t0 at*;go_wp2_with fail;go_roundw;case rel=>exact⟨_,by omega,by go_num,HY,AA trivial⟩
     case measure=>simp[intOf];omega
    ·have HE:=AA (D5 (l:=pts ps) (t:=t) (k:=k) (by omega) hall.out (fun hk'=>by rw[HP.out];exact hge));have hgb:t≤ps[k].t:=by omega
     generalize ps[k].t=t0 at*;go_wp2_with fail;go_ret;rw [HE.out];exact ⟨rfl,HF1.out⟩
   ·have HE:=AA (D5 (l:=pts ps) (t:=t) (k:=ps.length) (by rw[AC];exact Nat.le_refl _) (fun j hj hjk=>hall.out j hj (by omega)) (fun hk'=>by rw[AC] at hk';omega));go_wp2_with fail;go_ret;rw [HE.out];exact ⟨rfl,HF1.out⟩
theorem wd_moment (w:World)(t:Int)(v:Value):Calls Tryz.prog 57 #[.agg #[.int .i64 t,v]] w fun e w'=>e=.returned (.int .i64 t)∧Fr Nob w w':=by
 go_enter Tryz.func57,Tryz.ntmps57;go_wp2_with fail;go_ret;exact ⟨rfl,(Fr.refl _ _).alloc _⟩
theorem wd_cmpf (w:World)(p:Pn)(t:Int)(bx:Nat)(h:Blk w bx 116 #[.func (.func 57) #[] #[]]):
 Calls Tryz.prog 104 #[.agg #[.int .i64 p.t,.slice p.A p.l.length p.c],.int .i64 t,.pointer (some ⟨bx,0,none⟩)] w fun e w'=>e=.returned (.int .i64 (compareInt p.t t))∧Fr Nob w w':=by
 have HC:=AA (fun W'=>(show Calls Tryz.prog 105 _ _ _ from AnyG.cmp_Compare_int Tryz.cmpInt p.t t W'));have c0:=h.cell 0;have hl:=h.lt;obtain ⟨t0,A,c,l⟩:=p;dsimp only at HC ⊢;generalize compareInt t0 t=r at*;clear h;go_enter Tryz.func104,Tryz.ntmps104
 go_wp2_with (first
  |((go_at_call 57);(with_reducible refine(wd_moment _ _ _).mono ?_);rintro e w1 ⟨rfl,hf1⟩)
  |((go_at_call 105);(with_reducible refine(HC.out _).mono ?_);rintro e w2 ⟨rfl,rfl⟩));go_ret;exact ⟨rfl,((Fr.refl Nob w).alloc _).call hf1 (fun _ h _=>h)⟩
structure BsI (l:List Pt) (t:Int) (i j:Nat):Prop where
 le:i≤j
 hi:j≤l.length
 lo:∀q,(hq:q<l.length)→q<i→l[q].1<t
 up:∀q,(hq:q<l.length)→j≤q→¬l[q].1<t
theorem BsI.done {l:List Pt}{t:Int}{i:Nat}(h:BsI l t i i):fromI l t=i:=D5 h.hi h.lo (fun hk=>h.up i hk (Nat.le_refl _))
theorem BsI.right {l:List Pt}{t:Int}{i j h:Nat}(hw:AU l=true)(H:BsI l t i j)(h1:i≤h)(h2:h<j)(hl:h<l.length)(hlt:l[h].1<t):BsI l t (h+1) j:=
 ⟨by omega,H.hi,fun q hq hqi=>by
  rcases Nat.lt_succ_iff_lt_or_eq.1 hqi with h'|h';·have:=Cm hw h' hl;omega
  ·subst h';exact hlt,H.up⟩
theorem BsI.left {l:List Pt}{t:Int}{i j h:Nat}(hw:AU l=true)(H:BsI l t i j)(h1:i≤h)(h2:h<j)(hl:h<l.length)(hlt:¬l[h].1<t):BsI l t i h:=
 ⟨h1,by omega,H.lo,fun q hq hqi=>by
  rcases Nat.lt_or_ge h q with h'|h';·have:=Cm hw h' hq;omega
  ·have:q=h:=by omega
   subst this;exact hlt⟩
theorem wd_search (w:World)(A:Option Addr)(c:Nat)(ps:List Pn)(t:Int)(bx:Nat)(hb:Blk w bx 116 #[.func (.func 57) #[] #[]])(h:WSl w A c ps)(hr:AU (pts ps)=true)(hfew:ps.length≤1000):
 Calls Tryz.prog 103 #[.slice A ps.length c,.int .i64 t,.func (.func 104) #[] #[.pointer (some ⟨bx,0,none⟩)]] w fun e w'=>∃bv,e=.returned (.tuple #[.int .i64 (fromI (pts ps) t:Nat),.bool bv])∧Fr Nob w w':=by
 have HL:=AA h;have HB:=AA hb;have HW:=AA hr;clear h hb hr;go_enter Tryz.func103,Tryz.ntmps103;go_wp2_with fail;go_loopw [9,10] (fun iv jv wr=>∃i j:Nat,i≤j∧j≤ps.length∧iv=.int .i64 i∧jv=.int .i64 j∧Hid (BsI (pts ps) t i j)∧Hid (Fr Nob w wr)) (fun iv jv _=>(intOf jv).toNat-(intOf iv).toNat);case atStart=>exact⟨0,ps.length,Nat.zero_le _,Nat.le_refl _,rfl,rfl,AA ⟨Nat.zero_le _,by rw[AC];exact Nat.le_refl _,fun q _ h=>by omega,fun q hq h=>by rw[AC] at hq;omega⟩,AA (Fr.refl _ _)⟩
 case round=>
  obtain⟨i,j,hij,hjn,rfl,rfl,hbs,hfr⟩:=hrel;by_cases hlt:i<j
  ·have hI:(i:Int)<j:=by omega
   obtain⟨m,hm⟩:∃m:Nat,m=(i+j)/2:=⟨_,rfl⟩;have hme:((i:Int)+(j:Int))/2=(m:Int):=by omega
   have h1:i≤m:=by omega
   have h2:m<j:=by omega
   have hmI:(m:Int)<ps.length:=by omega
   have hm0:0≤(m:Int):=by omega
   have hml:m<ps.length:=by omega
   have hmp:m< (pts ps).length:=by rw[AC];exact hml
   obtain⟨b,off,hA,hbl,d0,d1⟩:=(HL.out.pure hfr.out).at_ hml;have HC:=AA (wd_cmpf wr ps[m] t bx (HB.out.fr hfr.out (fun e=>e)));have HP:=AA (show (pts ps)[m].1=ps[m].t by simp[pts,Pn.pt]);have HR:=AA (fun hq=>hbs.out.right HW.out h1 h2 hmp hq);have HE:=AA (fun hq=>hbs.out.left HW.out h1 h2 hmp hq);rw [HP.out] at HR HE;clear hm hbs;generalize ps[m]=p at*;obtain ⟨t0,pA,pc,l⟩:=p;dsimp only at HC HR HE d0 d1;subst hA;by_cases hlt2:t0<t
   ·have hneg:compareInt t0 t<0:=(cmpI_neg t0 t).2 hlt2;replace HR:=AA (HR.out hlt2);generalize compareInt t0 t=r at*;clear HE hlt2;go_wp2_with ((go_at_call 104);(with_reducible refine(HC.out).mono ?_);rintro e w1 ⟨rfl,hf1⟩;have HF1:=AA (hfr.out.call hf1 (fun _ h _=>h));clear hf1);go_roundw;case rel=>exact⟨m+1,j,by omega,hjn,by go_num,rfl,HR,HF1⟩
    case measure=>simp[intOf];omega
   ·have hneg:¬compareInt t0 t<0:=fun h=>hlt2 ((cmpI_neg t0 t).1 h);replace HE:=AA (HE.out hlt2);generalize compareInt t0 t=r at*;clear HR hlt2;go_wp2_with ((go_at_call 104);(with_reducible refine(HC.out).mono ?_);rintro e w1 ⟨rfl,hf1⟩;have HF1:=AA (hfr.out.call hf1 (fun _ h _=>h));clear hf1);go_roundw;case rel=>exact⟨i,m,h1,by omega,rfl,rfl,HE,HF1⟩
    case measure=>simp[intOf];omega
  ·have hji:j=i:=by omega
   subst hji;have HD:=AA hbs.out.done;clear hbs hlt hij;by_cases hn:j<ps.length
   ·have hnI:(j:Int)<ps.length:=by omega
    have hn0:0≤(j:Int):=by omega
    obtain⟨b,off,hA,hbl,d0,d1⟩:=(HL.out.pure hfr.out).at_ hn;have HC:=AA (wd_cmpf wr ps[j] t bx (HB.out.fr hfr.out (fun e=>e)));generalize ps[j]=p at*;obtain ⟨t0,pA,pc,l⟩:=p;dsimp only at HC d0 d1;subst hA;generalize compareInt t0 t=r at*;go_wp2_with ((go_at_call 104);(with_reducible refine(HC.out).mono ?_);rintro e w1 ⟨rfl,hf1⟩;have HF1:=AA (hfr.out.call hf1 (fun _ h _=>h));clear hf1);go_ret2;rw [HD.out];exact ⟨_,rfl,HF1.out⟩
   ·have hnI:(ps.length:Int)≤(j:Int):=by omega
    go_wp2_with fail;go_ret2;rw [HD.out];exact ⟨_,rfl,hfr.out⟩
theorem wd_first (w:World)(A:Option Addr)(c:Nat)(ps:List Pn)(t:Int)(h:WSl w A c ps)(hr:AU (pts ps)=true)(hfew:ps.length≤1000):
 Calls Tryz.prog 56 #[.slice A ps.length c,.int .i64 t,.func (.func 57) #[] #[]] w fun e w'=>e=.returned (.int .i64 (fromI (pts ps) t:Nat))∧Fr Nob w w':=by
 have HS:=AA (wd_search _ A c ps t w.heap.size (Blk.new w _ _) (h.pure ((Fr.refl Nob w).alloc _)) hr hfew);generalize fromI (pts ps) t=k at*;clear h hr;go_enter Tryz.func56,Tryz.ntmps56;go_wp2_with ((go_at_call 103);(with_reducible refine(HS.out).mono ?_);rintro e w1 ⟨bv,rfl,hf1⟩);go_ret;exact ⟨rfl,((Fr.refl Nob w).alloc _).call hf1 (fun _ h _=>h)⟩
theorem wd_From (w:World)(A:Option Addr)(c:Nat)(ps:List Pn)(t:Int)(h:WSl w A c ps)(hnm:NmW ps)(hfew:ps.length≤1000):
 Calls Tryz.prog 28 #[.slice A ps.length c,.int .i64 t] w fun e w'=>e=.returned (.int .i64 (fromW (pts ps) t:Nat))∧Fr Nob w w':=by
 have HR:=AA (Eg w A c ps h hnm hfew);have HS:=AA (fun X (hf:Fr Nob w X) hr=>wd_first X A c ps t (h.pure hf) hr hfew);unfold fromW;clear h hnm;cases hr:AU (pts ps)
 ·rw[hr] at HR;clear hr HS;rw [if_neg (by simp)];go_enter Tryz.func28,Tryz.ntmps28;go_wp2_with ((go_at_call 49);refine(HR.out).mono ?_;rintro e w1 ⟨rfl,hf1⟩);go_ret;exact ⟨rfl,hf1⟩
 ·rw[hr] at HR;replace HS:=AA (fun X hf=>HS.out X hf hr);clear hr;rw [if_pos rfl];generalize fromI (pts ps) t=k at*;go_enter Tryz.func28,Tryz.ntmps28
  go_wp2_with (first
   |((go_at_call 49);refine(HR.out).mono ?_;rintro e w1 ⟨rfl,hf1⟩;have HF1:=AA hf1;clear hf1)
   |((go_at_call 56);(with_reducible refine(HS.out _ HF1.out).mono ?_);rintro e w2 ⟨rfl,hf2⟩));go_ret;exact ⟨rfl,HF1.out.call hf2 (fun _ h _=>h)⟩
theorem Ck {ps:List Pn}{k:Nat}(hk:k<ps.length)(h:k< (pts ps).length):(pts ps)[k]=ps[k].pt:=by simp[pts]
theorem run_copyK {P:Program}(w:World)(dT sT ty elem:TypeId)(k b o n dCap sCap:Nat)(a:Addr)(cs:List Value)
 (hu:P.underlying dT=some (.slice elem))(hs:(P.info? elem).map (·.size)=some k)(hn:cs.length=n*k)
 (hsrc:∀j v,cs[j]?=some v→w.cell? (a.add j)=some v)(hc:∀j,j<cs.length→(w.cell? ⟨b,o+j,none⟩).isSome=true)(hf:∀j,j<cs.length→w.frozen? ⟨b,o+j,none⟩=false)(h1:∀v∈cs,v.oneCell'=true):
 (Builtin.copy_ #[dT,sT] ty #[.slice (some ⟨b,o,none⟩) n dCap,.slice (some a) n sCap]).run P w=.ok (goInt n) (w.setCells b o cs):=by
 have hl:=run_loadCells_list (P:=P) w a cs hsrc;have hst:=run_storeCells_cells (P:=P) b o cs 0 w (by simpa using hc) (by simpa using hf) h1
 cases hq:P.info? elem with
 |none=>simp[hq] at hs
 |some i=>
  have hi:i.size=k:=by simpa[hq] using hs
  simp[Builtin.copy_,run_underlying hu,Builtin.lenOf,Builtin.firstCells,sizeOf,typeInfo,hq,hi,←hn,hl,hst]
theorem run_copyK0 {P:Program}(w:World)(dT sT ty elem:TypeId)(k:Nat)(d a:Option Addr)(dCap sCap:Nat)(hu:P.underlying dT=some (.slice elem))(hs:(P.info? elem).map (·.size)=some k):
 (Builtin.copy_ #[dT,sT] ty #[.slice d 0 dCap,.slice a 0 sCap]).run P w=.ok (goInt 0) w:=by
 cases hq:P.info? elem with
 |none=>simp[hq] at hs
 |some i=>
  have hl:∀(x:Addr),(loadCells x 0).run P w=.ok #[] w:=fun x=>by simpa using run_loadCells_list (P:=P) w x [] (by simp)
  cases d<;>cases a<;>simp[Builtin.copy_,run_underlying hu,Builtin.lenOf,Builtin.firstCells,sizeOf,typeInfo,hq,storeCells,hl]
theorem Fp {S:Nat→Prop}{g:Nat}(hS:S g):∀(vs:List Value) (o:Nat) (w:World),Fr S w (w.setCells g o vs)
 |[],_,w=>Fr.refl S w
 |v::r,o,w=>by
  rw[World.setCells];exact ((Fr.refl S w).setCell (p:=⟨g,o,none⟩) (fun _=>hS) v).call (Fp hS r (o+1) _) (fun _ h _=>h)
theorem FD {g t:Nat}:∀(vs:List Value) (o:Nat) (w:World) (cur:Array Value),Blk w g t cur→o+vs.length≤cur.size→
 Blk (w.setCells g o vs) g t (cur.toList.take o++(vs++cur.toList.drop (o+vs.length))).toArray
 |[],o,w,cur,h,_=>by
  rw[World.setCells];simpa using h
 |v::r,o,w,cur,h,hl=>by
  rw[World.setCells];simp only[List.length_cons] at hl;have h2:=FD r (o+1) _ _ (h.set o v) (by simp;omega)
  have e:((cur.setIfInBounds o v).toList.take (o+1)++(r++(cur.setIfInBounds o v).toList.drop (o+1+r.length)))=cur.toList.take o++(v::r++cur.toList.drop (o+(v::r).length)):=by
   rw[Array.toList_setIfInBounds,List.take_set,List.drop_set_of_lt (by omega)];have hlo:o<cur.toList.length:=by simpa using(show o<cur.size by omega)
   rw[List.take_succ_eq_append_getElem hlo,List.set_append_right _ _ (by simp;omega)];have:o-(cur.toList.take o).length=0:=by rw[List.length_take];omega
   rw[this];simp only[List.length_cons,List.append_assoc,List.cons_append,List.nil_append,List.set_cons_zero];rw [show o+1+r.length=o+(r.length+1) by omega]
  rw[e] at h2;exact h2
theorem EA:BP Tryz.prog 71 78 2 32:=BP.mk (z:=.agg #[.int .i64 0,.slice none 0 0]) Tryz.underlying71 (by kernel_rfl) (by kernel_rfl) (by decide)
theorem elemPtS:(Tryz.prog.info? 78).map (·.size)=some 2:=by kernel_rfl
structure G8 (N:Nat) (w:World) (g:Nat) (qs:List Pn):Prop where
 blk:Blk w g 78 (qs.flatMap pnc).toArray
 new:N≤g
 inn:∀q∈qs,Sl w 2 q.A q.l.length q.c (q.l.flatMap pcs)∧∀b o,q.A=some ⟨b,o,none⟩→N≤b∧b≠g∧Pb w b
theorem Aw (qs:List Pn):(qs.flatMap pnc).length=qs.length*2:=Ad pnc 2 C8 qs
theorem G8.sl {N:Nat}{w:World}{g:Nat}{qs:List Pn}(h:G8 N w g qs)(hm:qs.length≤1000000):WSl w (some ⟨g,0,none⟩) qs.length qs:=
 ⟨by have:=Sl.new1 h.blk 2 qs.length (by rw[List.size_toArray,Aw]) (by unfold maxLen;omega);simpa using this,fun q hq=>(h.inn q hq).1⟩
theorem G8.fr {N:Nat}{w w':World}{g:Nat}{qs:List Pn}(h:G8 N w g qs)(hf:Fr Nob w w'):G8 N w' g qs:=
 ⟨h.blk.fr hf (fun e=>e),h.new,fun q hq=>⟨(h.inn q hq).1.pure hf,fun b o e=>⟨((h.inn q hq).2 b o e).1,((h.inn q hq).2 b o e).2.1,((h.inn q hq).2 b o e).2.2.fr hf (fun e=>e)⟩⟩⟩
structure CpI (w wr:World) (g:Nat) (ps qs:List Pn) (k:Nat):Prop where
 len:qs.length=k
 same:pts qs=pts (ps.take k)
 blk:Blk wr g 78 ((qs++ps.drop k).flatMap pnc).toArray
 inn:∀q∈qs,Sl wr 2 q.A q.l.length q.c (q.l.flatMap pcs)∧∀b o,q.A=some ⟨b,o,none⟩→w.heap.size≤b∧b≠g∧Pb wr b
 fr:Fr Nob w wr
theorem run_mkf {P:Program}{t e:TypeId}{size bytes:Nat}(hE:BP P t e size bytes)(n:Nat)(hb:bytes*n≤281474976710656)(h63:n≤maxLen):
 ∃cs:Array Value,cs.size=n*size∧∀W:World,(Instr.makeSlice t (.int .i64 n) (.int .i64 n)).run P W=.ok (.slice (some ⟨W.heap.size,0,none⟩) n n) (W.alloc (.cells cs e)):=by
 obtain⟨ht,_,i,z,hi,hz,hsize,hby,_⟩:=hE;refine ⟨madeCells z.cells (n*size),size_madeCells _ _,fun W=>?_⟩
 have hb':(i.bytes:Int)*(n:Int)≤281474976710656:=by
  rw[hby];have h:((bytes*n:Nat):Int)≤281474976710656:=by omega
  rwa[Int.natCast_mul] at h
 have hr:=run_make (P:=P) W t e i z ht hi hz .i64 .i64 n n (by omega) (Int.le_refl _) hb' (by unfold maxLen at h63;omega);simp only[Int.toNat_natCast,hsize] at hr;exact hr
theorem Bu (ps:List Pn):∀u∈ps.flatMap pnc,u.oneCell'=true:=by
 intro u hu;obtain ⟨p,_,hp⟩:=List.mem_flatMap.1 hu;exact C7 p u hp
theorem cp_run (w:World)(A:Option Addr)(c ty:Nat)(ps:List Pn)(h:WSl w A c ps)(cs:Array Value)(hcs:cs.size=ps.length*2):
 ∃w1,(Builtin.copy_ #[71,71] ty #[.slice (some ⟨w.heap.size,0,none⟩) ps.length ps.length,.slice A ps.length c]).run Tryz.prog (w.alloc (.cells cs 78))=.ok (goInt ps.length) w1∧Blk w1 w.heap.size 78 (ps.flatMap pnc).toArray∧Fr Nob w w1:=by
 have hb:=Blk.new w 78 cs;have hf:Fr Nob w ((w.alloc (.cells cs 78)).setCells w.heap.size 0 (ps.flatMap pnc)):=((Fr.refl Nob w).alloc _).call (Fp (S:=Ah w.heap.size) rfl _ _ _) (fun i hi hlt=>by unfold Ah at hi;omega);have hbs:=FD (ps.flatMap pnc) 0 _ _ hb (by rw[Aw,hcs];omega)
 have e:(cs.toList.take 0++(ps.flatMap pnc++cs.toList.drop (0+(ps.flatMap pnc).length)))=ps.flatMap pnc:=by
  rw[List.take_zero,List.nil_append,Nat.zero_add,Aw,List.drop_of_length_le (by simp[hcs]),List.append_nil]
 rw[e] at hbs;rcases Nat.eq_zero_or_pos ps.length with h0|h0
 ·have hn:ps=[]:=List.eq_nil_of_length_eq_zero h0;subst hn;exact ⟨_,by simpa[World.setCells] using run_copyK0 (P:=Tryz.prog) (w.alloc (.cells cs 78)) 71 71 ty 78 2 (some ⟨w.heap.size,0,none⟩) A 0 c Tryz.underlying71 elemPtS,hbs,hf⟩
 ·obtain⟨b,off,rfl,hbl,hc⟩:=h.sl.cells h0;refine ⟨_,run_copyK (P:=Tryz.prog) (w.alloc (.cells cs 78)) 71 71 ty 78 2 w.heap.size 0 ps.length ps.length c ⟨b,off,none⟩ (ps.flatMap pnc) Tryz.underlying71 elemPtS (Aw ps) ?_ ?_ ?_ (Bu ps),hbs,hf⟩
  ·intro j v hv;rw [Aa];exact ((Fr.refl Nob w).alloc _).cell (hc j v hv) (fun e=>e)
  ·intro j hj;rw [Nat.zero_add,hb.cell];rw [Aw] at hj;rw [Array.getElem?_eq_getElem (by omega)];rfl
  ·intro j _;rw [Nat.zero_add];exact hb.frozen j
theorem cp_set {ps qs:List Pn}{k:Nat}(hl:qs.length=k)(hk:k<ps.length)(A':Option Addr)(c':Nat):
 ((qs++ps.drop k).flatMap pnc).toArray.setIfInBounds (k*2+1) (.slice A' ps[k].l.length c')=(((qs++[(⟨ps[k].t,A',c',ps[k].l⟩:Pn)])++ps.drop (k+1)).flatMap pnc).toArray:=by
 rw[List.drop_eq_getElem_cons hk];have hq:(qs.flatMap pnc).length=k*2:=by rw[Aw,hl]
 simp only[List.flatMap_append,List.flatMap_cons,List.flatMap_nil,List.append_nil,List.append_assoc];rw [List.setIfInBounds_toArray,List.set_append_right _ _ (by omega),hq,show k*2+1-k*2=1 by omega];rfl
theorem cp_get {ps qs:List Pn}{k:Nat}(hl:qs.length=k)(hk:k<ps.length):((qs++ps.drop k).flatMap pnc).toArray[k*2+1]?=some (.slice ps[k].A ps[k].l.length ps[k].c):=by
 rw[List.drop_eq_getElem_cons hk];have hq:(qs.flatMap pnc).length=k*2:=by rw[Aw,hl]
 simp only[List.flatMap_append,List.flatMap_cons,List.getElem?_toArray];rw [List.getElem?_append_right (by omega),hq,show k*2+1-k*2=1 by omega];rfl
theorem CpI.step {w wr w1:World}{g k:Nat}{ps qs:List Pn}{A':Option Addr}{c':Nat}(h:CpI w wr g ps qs k)(hk:k<ps.length)(hg:w.heap.size≤g)(hf:Fr Nob wr w1)(hs:Sl w1 2 A' ps[k].l.length c' (ps[k].l.flatMap pcs))(hn:∀b o,A'=some ⟨b,o,none⟩→wr.heap.size≤b∧Pb w1 b):
 CpI w (w1.setCell ⟨g,k*2+1,none⟩ (.slice A' ps[k].l.length c')) g ps (qs++[⟨ps[k].t,A',c',ps[k].l⟩]) (k+1):=by
 have hgl:=h.blk.lt;have hws:=h.fr.size;refine ⟨by simp[h.len],?_,?_,?_,(h.fr.call hf (fun _ h _=>h)).setCell (p:=⟨g,k*2+1,none⟩) (fun hlt=>absurd hlt (by simp;omega)) _⟩
 ·have:=h.same;unfold pts at this ⊢;rw [List.map_append,this,List.take_succ_eq_append_getElem hk,List.map_append];rfl
 ·have:=(h.blk.fr hf (fun e=>e)).set (k*2+1) (.slice A' ps[k].l.length c');rwa [cp_set h.len hk] at this
 ·intro q hq;rw [List.mem_append,List.mem_singleton] at hq;rcases hq with hq|rfl
  ·obtain⟨h1,h2⟩:=h.inn q hq;exact ⟨(h1.pure hf).set (p:=⟨g,k*2+1,none⟩) (fun b o e=>(h2 b o e).2.1) _,fun b o e=>⟨(h2 b o e).1,(h2 b o e).2.1,((h2 b o e).2.2.fr hf (fun e=>e)).set _ _ _⟩⟩
  ·refine⟨hs.set (p:=⟨g,k*2+1,none⟩) (fun b o e=>?_) _,fun b o e=>?_⟩;·have:=(hn b o e).1;simp;omega
   ·have:=(hn b o e).1;exact⟨by omega,by omega,(hn b o e).2.set _ _ _⟩
theorem Cl (w:World)(A:Option Addr)(c:Nat)(ps:List Pn)(h:WSl w A c ps)(h63:ps.length≤1000)(hl:∀p∈ps,p.l.length≤10000):
 Calls Tryz.prog 51 #[.slice A ps.length c] w fun e w'=>∃g qs,e=.returned (.slice (some ⟨g,0,none⟩) ps.length ps.length)∧pts qs=pts ps∧G8 w.heap.size w' g qs∧Fr Nob w w':=by
 have HL:=AA h;have HLN:=AA hl;obtain ⟨cs,hcs,hmk⟩:=run_mkf EA ps.length (by omega) (by unfold maxLen;omega);have HCP:=AA (fun ty=>cp_run w A c ty ps h cs hcs);clear h hl hcs;go_enter Tryz.func51,Tryz.ntmps51;obtain ⟨w1,hcp,hb1,hf1⟩:=HCP.out 3;have HB1:=AA hb1;have HF1:=AA hf1;clear HCP hb1 hf1;go_wp2_with fail;go_loopw [13] (fun iv wr=>∃(k:Nat) (qs:List Pn),k≤ps.length∧iv=.int .i64 k∧Hid (CpI w wr w.heap.size ps qs k)) (fun iv _=>ps.length-(intOf iv).toNat);case atStart=>exact⟨0,[],Nat.zero_le _,rfl,AA ⟨rfl,rfl,by simpa using HB1.out,(fun q hq=>by cases hq),HF1.out⟩⟩
 case round=>
  clear hcp hmk;obtain ⟨k,qs,hk,rfl,hi⟩:=hrel;by_cases hlt:k<ps.length
  ·have hI:(k:Int)<ps.length:=by omega
   have hI3:0≤(k:Int):=by omega
   have hgl:=hi.out.blk.lt;have g1:wr.cell? ⟨w.heap.size,k*2+1,none⟩=some (.slice ps[k].A ps[k].l.length ps[k].c):=(hi.out.blk.cell _).trans (cp_get hi.out.len hlt);have HC:=AA (lab_Clone wr ps[k].A ps[k].c ps[k].l ((HL.out.inn _ (List.getElem_mem hlt)).pure hi.out.fr) (HLN.out _ (List.getElem_mem hlt)));have HB:=AA (fun W (hf:Fr Nob wr W)=>hi.out.blk.fr hf (fun e=>e));have HST:=AA (fun A' c' w2 hf hs hn=>hi.out.step (A':=A') (c':=c') (w1:=w2) hlt (Nat.le_refl _) hf hs hn);clear hi;generalize ps[k]=p at*;obtain ⟨t,pA,pc,l⟩:=p;dsimp only at g1 HC HST;go_wp2_with ((go_at_call 60);(with_reducible refine(HC.out).mono ?_);rintro e w2 ⟨A',c',rfl,hown,hf2⟩;have hb2:=HB.out _ hf2;have f2:=hb2.frozen (k*2+1);have hl2:=hb2.lt;have c2:∃v,w2.cell? ⟨w.heap.size,k*2+1,none⟩=some v:=⟨_,hf2.cell g1 (fun e=>e)⟩;obtain⟨cv,c2⟩:=c2;have HS2:=AA (HST.out A' c' w2 hf2 (Sl.of_own hown) (fun b o e=>⟨B9 hown b o e,own_pb hown b o e⟩));clear hb2 hown hf2);go_roundw;case rel=>exact⟨k+1,_,by omega,by go_num,HS2⟩
   case measure=>simp[intOf];omega
  ·have hkk:k=ps.length:=by omega
   have HE:=AA (show pts qs=pts ps∧Blk wr w.heap.size 78 (qs.flatMap pnc).toArray from by
    have h1:=hi.out.same;have h2:=hi.out.blk;rw [hkk,List.take_length] at h1;rw [hkk,List.drop_length,List.append_nil] at h2;exact ⟨h1,h2⟩);go_wp2_with fail;go_ret;exact ⟨_,qs,rfl,HE.out.1,⟨HE.out.2,Nat.le_refl _,hi.out.inn⟩,hi.out.fr⟩
end Go.Proofs.YtoegdmpmagbaiaaGreatDoor
