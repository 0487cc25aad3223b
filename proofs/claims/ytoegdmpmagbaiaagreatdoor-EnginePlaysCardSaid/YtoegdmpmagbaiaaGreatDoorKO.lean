/- Propositions in order, each once: the one strictly ascending list of the same members. -/
import Derived.Test.YtoegdmpmagbaiaaGreatDoorKL
import Derived.Deep.RegionHeld3
import Derived.IntWalk
import Derived.Test.YtoegdmpmagbaiaaGreatDoorKA
set_option maxHeartbeats 4000000
set_option maxRecDepth 100000
namespace Go.Proofs.YtoegdmpmagbaiaaGreatDoor
open Go.RowKit Go.Sort Go.Lib
def Asc (l:List PP):Prop:=l.Pairwise plt
theorem G2:∀{a b:List PP},Asc a→Asc b→(∀x,x∈a↔x∈b)→a=b
 |[],[],_,_,_=>rfl
 |[],y::_,_,_,h=>absurd ((h y).2 (by simp)) (by simp)
 |x::_,[],_,_,h=>absurd ((h x).1 (by simp)) (by simp)
 |x::a,y::b,ha,hb,h=>by
  have ha':=List.pairwise_cons.1 ha;have hb':=List.pairwise_cons.1 hb
  have hxy:x=y:=by
   rcases List.mem_cons.1 ((h x).1 (by simp)) with e|e;·exact e
   ·rcases List.mem_cons.1 ((h y).2 (by simp)) with e2|e2;·exact e2.symm
    ·exact absurd (hb'.1 x e) (FQ (ha'.1 y e2))
  subst hxy;congr 1;refine G2 ha'.2 hb'.2 fun z=>?_;have hz:=h z;simp only[List.mem_cons] at hz;constructor
  ·intro hm;rcases hz.1 (.inr hm) with e|e;·subst e;exact absurd (ha'.1 z hm) (Cx z)
   ·exact e
  ·intro hm;rcases hz.2 (.inr hm) with e|e;·subst e;exact absurd (hb'.1 z hm) (Cx z)
   ·exact e
theorem msort_mem (l:List PP)(x:PP):x∈Dk l↔x∈l:=List.mem_mergeSort
theorem msort_sorted (l:List PP):(Dk l).Pairwise fun x y=>¬plt y x:=by
 have:=List.pairwise_mergeSort (le:=fun x y=>!(ltOf pord) y x) (fun a b c h1 h2=>by
  simp only[Bool.not_eq_true',BX] at*;intro h;rcases C9 a b with h3|h3|h3;·exact h2 (CL h h3)
  ·subst h3;exact h2 h
  ·exact h1 h3) (fun a b=>by
  simp only[Bool.or_eq_true,Bool.not_eq_true',BX];rcases C9 a b with h|h|h;·exact .inl (FQ h)
  ·subst h;exact .inl (Cx _)
  ·exact .inr (FQ h)) l;refine this.imp fun h=>?_;simpa only[Bool.not_eq_true',BX] using h
theorem dd_mem_at (l : List PP) (x : PP) : x ∈ dd l ↔ ∃ j, j < l.length ∧ keeps l.toArray j = true ∧ l.toArray[j]! = x := by
  unfold dd compactUpTo
  simp only [List.mem_map, List.mem_filter, List.mem_range]
  constructor
  · rintro ⟨j, ⟨h1, h2⟩, h3⟩; exact ⟨j, h1, h2, h3⟩
  · rintro ⟨j, h1, h2, h3⟩; exact ⟨j, ⟨h1, h2⟩, h3⟩
theorem FE (l : List PP) (j : Nat) (h : j < l.length) : l.toArray[j]! = l[j] := by
  rw [getElem!_pos l.toArray j (by simpa using h)]; rfl
theorem dd_mem (l:List PP)(x:PP):x∈dd l↔x∈l:=by
 rw[dd_mem_at];constructor
 ·rintro⟨j,h1,_,rfl⟩;rw [FE l j h1];exact List.getElem_mem h1
 ·intro h;obtain ⟨i,hi,rfl⟩:=List.getElem_of_mem h
  induction i with
  |zero=>exact⟨0,hi,by simp[keeps],FE l 0 hi⟩
  |succ i ih=>
   by_cases he:l[i+1]=l[i]
   ·obtain⟨j,h1,h2,h3⟩:=ih (by omega) (List.getElem_mem _);exact ⟨j,h1,h2,h3.trans he.symm⟩
   ·refine⟨i+1,hi,?_,FE l (i+1) hi⟩;rw [E7 l i hi,Bool.not_eq_true',←Bool.not_eq_true,Cf];exact he
theorem dd_asc {l:List PP}(h:l.Pairwise fun x y=>¬plt y x):Asc (dd l):=by
 unfold Asc dd compactUpTo;rw [List.pairwise_map];refine (List.Pairwise.filter _ (List.pairwise_lt_range (n:=l.length))).imp_of_mem ?_;intro i j hi hj hlt;simp only[List.mem_filter,List.mem_range] at hi hj;obtain ⟨j,rfl⟩:∃j',j=j'+1:=⟨j-1,by omega⟩;rw [FE l i hi.1,FE l (j+1) hj.1];have hk:=hj.2;rw [E7 l j hj.1,Bool.not_eq_true',←Bool.not_eq_true,Cf] at hk;have hs:∀a b (ha:a<l.length) (hb:b<l.length),a<b→¬plt l[b] l[a]:=fun a b ha hb hab=>List.pairwise_iff_getElem.1 h a b ha hb hab
 have h1:plt l[j] l[j+1]:=by
  rcases C9 l[j] l[j+1] with h3|h3|h3;·exact h3
  ·exact absurd h3.symm hk
  ·exact absurd h3 (hs j (j+1) (by omega) hj.1 (by omega))
 rcases Nat.lt_or_ge i j with hij|hij
 ·rcases C9 l[i] l[j] with h3|h3|h3;·exact CL h3 h1
  ·rw[h3];exact h1
  ·exact absurd h3 (hs i j hi.1 (by omega) hij)
 ·have:i=j:=by omega
  subst this;exact h1
theorem DA (l:List PP):Asc (lof l):=dd_asc (msort_sorted l)
theorem BZ (l:List PP)(x:PP):x∈lof l↔x∈l:=(dd_mem _ x).trans (msort_mem l x)
theorem FW {l m:List PP}(hm:Asc m)(h:∀x,x∈m↔x∈l):lof l=m:=G2 (DA l) hm fun x=>(BZ l x).trans (h x).symm
def Eb (l:List PP)(i:Nat)(p:PP):Bool:=nmOk p.name&&(i==0||paheadB (l.getD (i-1) p) p)
def Am (l:List PP):Bool:=(List.range l.length).all fun i=>Eb l i (l.getD i default)
theorem Ep {l:List PP}{k:Nat}(hk:k<l.length)(h:Eb l k (l[k])=false):Am l=false:=by
 unfold Am;rw [List.all_eq_false];exact ⟨k,by simpa using hk,by rw[List.getD_eq_getElem?_getD,List.getElem?_eq_getElem hk];simpa using h⟩
theorem Dx {l:List PP}(h:∀k,(hk:k<l.length)→Eb l k (l[k])=true):Am l=true:=by
 unfold Am;rw [List.all_eq_true];intro i hi;have hi':i<l.length:=by simpa using hi
 rw[List.getD_eq_getElem?_getD,List.getElem?_eq_getElem hi'];exact h i hi'
theorem FR {l:List PP}{p:PP}:Eb l 0 p=nmOk p.name:=by unfold Eb;simp
theorem EM {l:List PP}{k:Nat}(hk:k<l.length){p:PP}:Eb l (k+1) p=(nmOk p.name&&paheadB l[k] p):=by
 unfold Eb;rw [Nat.add_sub_cancel,List.getD_eq_getElem?_getD,List.getElem?_eq_getElem hk];simp
theorem Gq (w:World)(a b:PP):
 Calls Tryz.prog 59 #[.agg #[.string a.name,.int .i64 a.value],.agg #[.string b.name,.int .i64 b.value]] w fun e w'=>e=.returned (.int .i64 (pord a b))∧Fr Nob w w':=
 (lab_order w a b).mono fun _ _ ⟨he,q,os,hw⟩=>⟨he,hw▸fr_grow w q os⟩
theorem FX (w:World)(A:Option Addr)(c:Nat)(l:List PP)(hl:Sl w 2 A l.length c (l.flatMap pcs))(hsz:∀p∈l,p.name.size≤9223372036854775807):
 Calls Tryz.prog 29 #[.slice A l.length c] w fun e w'=>e=.returned (.bool (Am l))∧Fr Nob w w':=by
 have HL:=AA hl;have HZ:=AA hsz;have hle:=hl.le;have hmx:=hl.max;unfold maxLen at hmx;clear hl hsz;go_enter Tryz.func29,Tryz.ntmps29;go_wp2_with fail;go_loopw [7] (fun i wl=>∃k:Nat,k≤l.length∧i=.int .i64 k∧Hid (Fr Nob w wl)∧Hid (∀j,(hj:j<l.length)→j<k→Eb l j (l[j])=true)) (fun i _=>l.length-(intOf i).toNat);case atStart=>exact⟨0,Nat.zero_le _,rfl,AA (Fr.refl Nob w),AA (fun j _ hj=>absurd hj (by omega))⟩
 case round=>
  obtain⟨k,hk,rfl,hfr,hall⟩:=hrel;by_cases hlt:k<l.length
  ·have hI:(k:Int)<l.length:=by omega
   have hI3:0≤(k:Int):=by omega
   have HF:=AA (fun h=>Ep hlt h)
   have HT:=AA (fun (h:Eb l k l[k]=true)=>show∀j,(hj:j<l.length)→j<k+1→Eb l j (l[j])=true from fun j hj hjk=>by
    rcases Nat.lt_succ_iff_lt_or_eq.1 hjk with h'|h';·exact hall.out j hj h'
    ·subst h';exact h);have HS:=AA (HZ.out l[k] (List.getElem_mem hlt));have HX:=hfr
   cases k with
   |zero=>
    obtain⟨ba,off,rfl,hba,d0,d1⟩:=BV (HL.out.pure hfr.out) hlt;rw [FR] at HF HT;generalize l[0]=x at*;obtain ⟨xn,xv⟩:=x;simp only[Nat.zero_mul,Nat.add_zero,Nat.zero_add] at d0 d1 HF HT HS;have HN:=AA (fun W=>Gr W xn HS.out);generalize nmOk xn=nb at*;cases nb
    all_goals
     go_wp2_with fail;go_quiet ((go_at_call 58;exact Calls.quiet_of_same ((HN.out _).mono fun _ _ ⟨h1,h2⟩=>⟨h1,h2.symm⟩)));all_goals go_wp2_with fail
    ·have HR:=AA (HF.out (by simp));go_ret;exact ⟨BM HR.out.symm,(hfr.out.alloc _).drewN _⟩
    ·go_roundw;case rel=>exact⟨1,by omega,by go_num,AA ((hfr.out.alloc _).drewN _),AA (HT.out (by simp))⟩
     case measure=>simp[intOf];omega
   |succ k=>
    obtain⟨ba,off,rfl,hba,d0,d1⟩:=BV (HL.out.pure hfr.out) hlt;obtain ⟨ba2,off2,he,_,p0,p1⟩:=BV (HL.out.pure hfr.out) (k:=k) (by omega);cases he;rw [EM (by omega)] at HF HT;have HX:Hid (Fr Nob w wr):=hfr;generalize l[k+1]=x at*;generalize l[k]=y at*;obtain ⟨xn,xv⟩:=x;obtain ⟨yn,yv⟩:=y;simp only at d0 d1 p0 p1 HF HT HS;have HN:=AA (fun W=>Gr W xn HS.out);have HO:=AA (fun W=>Gq W ⟨yn,yv⟩ ⟨xn,xv⟩);have hk0:(0:Int)≤(k:Int):=by omega
    have hk1:(k:Int)<l.length:=by omega
    have hk2:(k:Int)<c:=by omega
    have e1:IntKind.i64.wrap (k:Int)=(k:Int):=IntWalk.i64_in _ (by omega);have e2:IntKind.i64.wrap ((k:Int)+1-1)=(k:Int):=by rw[show (k:Int)+1-1=(k:Int) by omega];exact e1
    generalize nmOk xn=nb at*;cases nb
    ·go_wp2_with fail;go_quiet ((go_at_call 58;exact Calls.quiet_of_same ((HN.out _).mono fun _ _ ⟨h1,h2⟩=>⟨h1,h2.symm⟩)));all_goals go_wp2_with fail
     have HR:=AA (HF.out (by simp));go_ret;exact ⟨BM HR.out.symm,(hfr.out.alloc _).drewN _⟩
    ·simp only[Bool.true_and] at HF HT;unfold paheadB at HF HT;generalize pord ⟨yn,yv⟩ ⟨xn,xv⟩=r at*;by_cases hr:r<0
     all_goals
      go_wp2_with fail;go_region_held3 (fun w'=>w'.cell? ⟨wr.heap.size,0,none⟩=some (.string xn)∧w'.cell? ⟨wr.heap.size,1,none⟩=some (.int .i64 xv)∧w'.cell? ⟨ba,off+k*2,none⟩=some (.string yn)∧w'.cell? ⟨ba,off+k*2+1,none⟩=some (.int .i64 yv)) (first|go_keep|(go_split_ands;refine⟨?_,?_,?_,?_⟩<;>exact Fr.cell hf1 (by assumption) (fun e=>e))) (first|((go_at_call 58);refine(HN.out _).mono ?_;rintro e w1 ⟨rfl,rfl⟩)|((go_at_call 59);refine(HO.out _).mono ?_;rintro e w1 ⟨rfl,hf1⟩));all_goals go_wp2_with fail
     ·go_roundw;case rel=>exact⟨k+1+1,by omega,by go_num,AA ((hfr.out.alloc _).drew.call hf1 (fun _ h _=>h)),AA (HT.out (by simpa using hr))⟩
      case measure=>simp[intOf];omega
     ·have HR:=AA (HF.out (by simpa using hr));go_ret;exact ⟨BM HR.out.symm,(hfr.out.alloc _).drew.call hf1 (fun _ h _=>h)⟩
  ·have HR:=AA (Dx (l:=l) (fun k' hk'=>hall.out k' hk' (by omega)));go_wp2_with fail;go_ret;exact ⟨BM HR.out.symm,hfr.out⟩
def Ce:List PP→PP→List PP
 |[],p=>[p]
 |x::r,p=>if paheadB x p=true then x::Ce r p else if DQ x p=true then x::r else p::x::r
def C6 (b:Bool)(r:List PP)(p:PP):List PP:=if b then r else Ce r p
theorem putL_len:∀(l:List PP) (p:PP),(Ce l p).length≤l.length+1
 |[],_=>by simp[Ce]
 |x::r,p=>by
  have:=putL_len r p;unfold Ce;split;·simp;omega
  ·split<;>simp
theorem ET {l:List PP}{k:Nat}(hk:k<l.length):l.drop k=l[k]::l.drop (k+1):=List.drop_eq_getElem_cons hk
theorem put_done {l o m:List PP}{p:PP}{k:Nat}(hk:k<l.length)(h:o++C6 true (l.drop k) p=m):(o++[l[k]])++C6 true (l.drop (k+1)) p=m:=by
 rw[←h,ET hk];simp[C6]
theorem put_ahead {l o m:List PP}{p:PP}{k:Nat}(hk:k<l.length)(h:o++C6 false (l.drop k) p=m)(ha:paheadB l[k] p=true):(o++[l[k]])++C6 false (l.drop (k+1)) p=m:=by
 rw[←h,ET hk];simp[C6,Ce,ha]
theorem put_eq {l o m:List PP}{p:PP}{k:Nat}(hk:k<l.length)(h:o++C6 false (l.drop k) p=m)(ha:paheadB l[k] p=false)(he:DQ l[k] p=true):(o++[l[k]])++C6 true (l.drop (k+1)) p=m:=by
 rw[←h,ET hk];simp[C6,Ce,ha,he]
theorem put_new {l o m:List PP}{p:PP}{k:Nat}(hk:k<l.length)(h:o++C6 false (l.drop k) p=m)(ha:paheadB l[k] p=false)(he:DQ l[k] p=false):((o++[p])++[l[k]])++C6 true (l.drop (k+1)) p=m:=by
 rw[←h,ET hk];simp[C6,Ce,ha,he]
theorem flat1 (o:List PP)(x:PP):o.flatMap pcs++pcs x=(o++[x]).flatMap pcs:=by simp
structure PutW (w wr:World) (A:Option Addr) (c:Nat) (o:List PP) (p:PP):Prop where
 fr:Fr Nob w wr
 own:wr.ownsRow (w.heap.size+1) 91 2 (.slice A o.length c) o.length (o.flatMap pcs)
 box:Blk wr w.heap.size 91 #[.string p.name,.int .i64 p.value]
section
variable {w wr w1:World} {A:Option Addr} {c:Nat} {o:List PP} {p:PP}
theorem PutW.pure (h:PutW w wr A c o p)(hf:Fr Nob wr w1):PutW w w1 A c o p:=⟨h.fr.call hf (fun _ h _=>h),Ag h.own hf (fun _ _ _ _ e=>e),h.box.fr hf (fun e=>e)⟩
theorem PutW.app {A':Option Addr}{c':Nat}(h:PutW w wr A c o p)(x:PP)(hown:w1.ownsRow (w.heap.size+1) 91 2 (.slice A' (o.length+1) c') (o.length+1) (o.flatMap pcs++pcs x))(hg:wr.grownBy w1 (A.map (·.block))):PutW w w1 A' c' (o++[x]) p:=by
 refine⟨h.fr.grown hg (fun k hk hlt=>by have:=AX h.own k hk;omega),?_,h.box.grown hg (fun e=>by have:=AX h.own _ e;omega)⟩;rw [flat1] at hown;simpa using hown
theorem PutW.own_al (h:PutW w wr A c o p)(ob:Obj){n:Nat}(hn:n=o.length):(wr.alloc ob).ownsRow (w.heap.size+1) 91 2 (.slice A n c) n (o.flatMap pcs):=by
 subst hn;exact(h.pure ((Fr.refl Nob wr).alloc ob)).own
end
theorem ref_Put (w:World)(A:Option Addr)(c:Nat)(l:List PP)(p:PP)(hl:Sl w 2 A l.length c (l.flatMap pcs))(h63:l.length≤1000):
 Calls Tryz.prog 77 #[.slice A l.length c,.agg #[.string p.name,.int .i64 p.value]] w fun e w'=>∃A' c',e=.returned (.slice A' (Ce l p).length c')∧Sl w' 2 A' (Ce l p).length c' ((Ce l p).flatMap pcs)∧Fr Nob w w'∧(∀g off,A'=some ⟨g,off,none⟩→w.heap.size≤g):=by
 have HL:=AA hl;have hle:=hl.le;have hmx:=hl.max;unfold maxLen at hmx;clear hl;have HM:=AA (show ∃m,Ce l p=m from⟨_,rfl⟩);obtain ⟨pn,pv⟩:=p;have hn:∀(xn yn:ByteArray) (xv yv:Int) (w:World),Sem.run Tryz.prog (binOp .neq 91 (.agg #[.string xn,.int .i64 xv]) (.agg #[.string yn,.int .i64 yv])) w=.ok (.bool (!DQ ⟨xn,xv⟩ ⟨yn,yv⟩)) w:=fun xn yn xv yv w=>pp_neq ⟨xn,xv⟩ ⟨yn,yv⟩ w;have hg:∀(op:BinOp) (a b:Operand) (xn yn:ByteArray) (xv yv:Int) (w:World),Sem.run Tryz.prog (eqGuard op 91 a b (.agg #[.string xn,.int .i64 xv]) (.agg #[.string yn,.int .i64 yv])) w=.ok () w:=fun op a b xn yn xv yv w=>pp_guard op a b ⟨xn,xv⟩ ⟨yn,yv⟩ w;go_enter Tryz.func77,Tryz.ntmps77;go_wp2_with fail;go_loopw [5,6,7] (fun sv dn i wr=>∃(k:Nat) (A':Option Addr) (c':Nat) (o:List PP) (b:Bool),k≤l.length∧o.length≤k+b.toNat∧i=.int .i64 k∧dn=.bool b∧sv=.slice A' o.length c'∧Hid (PutW w wr A' c' o ⟨pn,pv⟩)∧Hid (o++C6 b (l.drop k) ⟨pn,pv⟩=Ce l ⟨pn,pv⟩)) (fun _ _ i _=>l.length-(intOf i).toNat);case atStart=>exact⟨0,none,0,[],false,Nat.zero_le _,by simp,rfl,rfl,rfl,AA ⟨(Fr.refl Nob w).alloc _,⟨rfl,.inl ⟨rfl,rfl⟩⟩,Blk.new _ _ _⟩,AA rfl⟩
 case round=>
  obtain⟨k,A',c',o,b,hk,hko,rfl,rfl,rfl,hp,hinv⟩:=hrel;have hb0:=hp.out.box.cell 0;have hb1:=hp.out.box.cell 1;have hko1:o.length≤k+1:=by have:=b.toNat_le;omega
  by_cases hlt:k<l.length
  ·have hI:(k:Int)<l.length:=by omega
   have hI3:0≤(k:Int):=by omega
   have HC:=AA (fun W (h:Fr Nob w W)=>BV (HL.out.pure h) hlt);obtain ⟨ba,off,rfl,hba,d0,d1⟩:=HC.out wr hp.out.fr;have H1:=AA (fun (h:b=true)=>put_done (p:=⟨pn,pv⟩) (o:=o) hlt (h▸hinv.out));have H2:=AA (fun (h:b=false)=>put_ahead (p:=⟨pn,pv⟩) (o:=o) hlt (h▸hinv.out));have H3:=AA (fun (h:b=false)=>put_eq (p:=⟨pn,pv⟩) (o:=o) hlt (h▸hinv.out));have H4:=AA (fun (h:b=false)=>put_new (p:=⟨pn,pv⟩) (o:=o) hlt (h▸hinv.out));generalize l[k]=x at*;obtain ⟨xn,xv⟩:=x;simp only at d0 d1 HC;have HA:=AA (fun W=>ref_Ahead W ⟨xn,xv⟩ ⟨pn,pv⟩);generalize paheadB ⟨xn,xv⟩ ⟨pn,pv⟩=a at*;generalize hpe:DQ ⟨xn,xv⟩ ⟨pn,pv⟩=pe at H3 H4;cases b
   ·simp only[Bool.toNat_false,Nat.add_zero] at hko;cases a
    ·go_wp2_with fail;go_region_held3 (fun w'=>w'.cell? ⟨w.heap.size,0,none⟩=some (.string pn)∧w'.cell? ⟨w.heap.size,1,none⟩=some (.int .i64 pv)∧w'.cell? ⟨ba,off+k*2,none⟩=some (.string xn)∧w'.cell? ⟨ba,off+k*2+1,none⟩=some (.int .i64 xv)) (first|go_keep|(go_split_ands;refine⟨?_,?_,?_,?_⟩<;>exact Fr.cell hf1 (by assumption) (fun e=>e))) (((go_at_call 76);refine(HA.out _).mono ?_;rintro e w1 ⟨rfl,hf1⟩));go_split_ands;have HP1:=AA (hp.out.pure (((Fr.refl Nob wr).drew).call hf1 (fun _ h _=>h)));clear hb0 hb1 d0 d1 hf1;cases pe
     ·go_wp2_with fail;go_quiet (fail);have HP2:=AA (HP1.out.pure ((Fr.refl Nob w1).drewN nq));go_wp2_with (at_builtin;refine AP rfl _ _ 57 rfl B8 (base:=w.heap.size+1) (xs:=o.flatMap pcs) (news:=pcs ⟨pn,pv⟩) rfl ?own rfl ?src ?one ?h63 ?hby ?hbase ?_);case own=>exact HP2.out.own_al _ (by simp)
      case src=>exact Sl.new1 (Blk.new _ _ _) 2 1 rfl (by decide)
      case one=>exact(by intro u hu;simp[pcs] at hu;rcases hu with rfl|rfl<;>rfl)
      case h63=>unfold maxLen;omega
      case hby=>omega
      case hbase=>have h1:=HP2.out.fr.size;have h2:=HP2.out.box.lt;simp at h1 h2 ⊢;omega
      intro A2 c2 w2 hown2 hg2 _;have HP3:=AA ((HP2.out.pure ((Fr.refl Nob _).alloc _)).app ⟨pn,pv⟩ hown2 hg2);clear hown2 hg2;obtain ⟨bb,oo,hA,hba2,d0,d1⟩:=HC.out w2 HP3.out.fr;cases hA;go_wp2_with (at_builtin;refine AP rfl _ _ 57 rfl B8 (base:=w.heap.size+1) (xs:=(o++[(⟨pn,pv⟩:PP)]).flatMap pcs) (news:=pcs ⟨xn,xv⟩) rfl ?own rfl ?src ?one ?h63 ?hby ?hbase ?_);case own=>exact HP3.out.own_al _ (by simp)
      case src=>exact Sl.new1 (Blk.new _ _ _) 2 1 rfl (by decide)
      case one=>exact(by intro u hu;simp[pcs] at hu;rcases hu with rfl|rfl<;>rfl)
      case h63=>unfold maxLen;omega
      case hby=>omega
      case hbase=>have h1:=HP3.out.fr.size;have h2:=HP3.out.box.lt;simp at h1 h2 ⊢;omega
      intro A3 c3 w3 hown3 hg3 _;have HP4:=AA ((HP3.out.pure ((Fr.refl Nob _).alloc _)).app ⟨xn,xv⟩ (by simpa using hown3) hg3);clear hown3 hg3;go_wp2_with fail;go_roundw;case rel=>exact⟨k+1,A3,c3,o++[⟨pn,pv⟩]++[⟨xn,xv⟩],true,by omega,by simp<;>omega,by go_num,rfl,by simp,HP4,AA (H4.out trivial trivial trivial)⟩
      case measure=>simp[intOf];omega
     ·go_wp2_with fail;go_quiet (fail);have HP2:=AA (HP1.out.pure ((Fr.refl Nob w1).drewN nq));go_wp2_with (at_builtin;refine AP rfl _ _ 57 rfl B8 (base:=w.heap.size+1) (xs:=o.flatMap pcs) (news:=pcs ⟨xn,xv⟩) rfl ?own rfl ?src ?one ?h63 ?hby ?hbase ?_);case own=>exact HP2.out.own_al _ (by simp)
      case src=>exact Sl.new1 (Blk.new _ _ _) 2 1 rfl (by decide)
      case one=>exact(by intro u hu;simp[pcs] at hu;rcases hu with rfl|rfl<;>rfl)
      case h63=>unfold maxLen;omega
      case hby=>omega
      case hbase=>have h1:=HP2.out.fr.size;have h2:=HP2.out.box.lt;simp at h1 h2 ⊢;omega
      intro A2 c2 w2 hown2 hg2 _;have HP3:=AA ((HP2.out.pure ((Fr.refl Nob _).alloc _)).app ⟨xn,xv⟩ hown2 hg2);clear hown2 hg2;go_wp2_with fail;go_roundw;case rel=>exact⟨k+1,A2,c2,o++[⟨xn,xv⟩],true,by omega,by simp<;>omega,by go_num,rfl,by simp,HP3,AA (H3.out trivial trivial trivial)⟩
      case measure=>simp[intOf];omega
    ·go_wp2_with fail;go_region_held3 (fun w'=>w'.cell? ⟨w.heap.size,0,none⟩=some (.string pn)∧w'.cell? ⟨w.heap.size,1,none⟩=some (.int .i64 pv)∧w'.cell? ⟨ba,off+k*2,none⟩=some (.string xn)∧w'.cell? ⟨ba,off+k*2+1,none⟩=some (.int .i64 xv)) (first|go_keep|(go_split_ands;refine⟨?_,?_,?_,?_⟩<;>exact Fr.cell hf1 (by assumption) (fun e=>e))) (((go_at_call 76);refine(HA.out _).mono ?_;rintro e w1 ⟨rfl,hf1⟩));go_split_ands;have HP2:=AA (hp.out.pure (((Fr.refl Nob wr).drew).call hf1 (fun _ h _=>h)));clear hb0 hb1 d0 d1 hf1;go_wp2_with (at_builtin;refine AP rfl _ _ 57 rfl B8 (base:=w.heap.size+1) (xs:=o.flatMap pcs) (news:=pcs ⟨xn,xv⟩) rfl ?own rfl ?src ?one ?h63 ?hby ?hbase ?_);case own=>exact HP2.out.own_al _ (by simp)
     case src=>exact Sl.new1 (Blk.new _ _ _) 2 1 rfl (by decide)
     case one=>exact(by intro u hu;simp[pcs] at hu;rcases hu with rfl|rfl<;>rfl)
     case h63=>unfold maxLen;omega
     case hby=>omega
     case hbase=>have h1:=HP2.out.fr.size;have h2:=HP2.out.box.lt;simp at h1 h2 ⊢;omega
     intro A2 c2 w2 hown2 hg2 _;have HP3:=AA ((HP2.out.pure ((Fr.refl Nob _).alloc _)).app ⟨xn,xv⟩ hown2 hg2);clear hown2 hg2;go_wp2_with fail;go_roundw;case rel=>exact⟨k+1,A2,c2,o++[⟨xn,xv⟩],false,by omega,by simp<;>omega,by go_num,rfl,by simp,HP3,AA (H2.out trivial trivial)⟩
     case measure=>simp[intOf];omega
   ·go_wp2_with fail;go_quiet (fail);have HP2:=AA (hp.out.pure ((Fr.refl Nob wr).drewN nq));go_wp2_with (at_builtin;refine AP rfl _ _ 57 rfl B8 (base:=w.heap.size+1) (xs:=o.flatMap pcs) (news:=pcs ⟨xn,xv⟩) rfl ?own rfl ?src ?one ?h63 ?hby ?hbase ?_);case own=>exact HP2.out.own_al _ (by simp)
    case src=>exact Sl.new1 (Blk.new _ _ _) 2 1 rfl (by decide)
    case one=>exact(by intro u hu;simp[pcs] at hu;rcases hu with rfl|rfl<;>rfl)
    case h63=>unfold maxLen;omega
    case hby=>omega
    case hbase=>have h1:=HP2.out.fr.size;have h2:=HP2.out.box.lt;simp at h1 h2 ⊢;omega
    intro A2 c2 w2 hown2 hg2 _;have HP3:=AA ((HP2.out.pure ((Fr.refl Nob _).alloc _)).app ⟨xn,xv⟩ hown2 hg2);clear hown2 hg2;go_wp2_with fail;go_roundw;case rel=>exact⟨k+1,A2,c2,o++[⟨xn,xv⟩],true,by omega,by simp<;>omega,by go_num,rfl,by simp,HP3,AA (H1.out trivial)⟩
    case measure=>simp[intOf];omega
  ·have hkk:k=l.length:=by omega
   have HD:=AA (show l.drop k=[] from List.drop_eq_nil_of_le (by omega));rw [HD.out] at hinv;clear hn hg;cases b
   ·have HE:=AA (show Ce l ⟨pn,pv⟩=o++[⟨pn,pv⟩] by rw[←hinv.out];rfl);clear hinv;go_wp2_with (at_builtin;refine AP rfl _ _ 57 rfl B8 (base:=w.heap.size+1) (xs:=o.flatMap pcs) (news:=pcs ⟨pn,pv⟩) rfl ?own rfl ?src ?one ?h63 ?hby ?hbase ?_);case own=>exact hp.out.own_al _ (by simp)
    case src=>exact Sl.new1 (Blk.new _ _ _) 2 1 rfl (by decide)
    case one=>exact(by intro u hu;simp[pcs] at hu;rcases hu with rfl|rfl<;>rfl)
    case h63=>unfold maxLen;omega
    case hby=>omega
    case hbase=>have h1:=hp.out.fr.size;have h2:=hp.out.box.lt;simp at h1 h2 ⊢;omega
    intro A2 c2 w2 hown2 hg2 _;have HP3:=AA ((hp.out.pure ((Fr.refl Nob _).alloc _)).app ⟨pn,pv⟩ hown2 hg2);clear hown2 hg2;go_wp2_with fail;go_ret;rw [HE.out];exact ⟨A2,c2,by simp,Sl.of_own HP3.out.own,HP3.out.fr,fun g off e=>by have:=B9 HP3.out.own g off e;omega⟩
   ·have HE:=AA (show Ce l ⟨pn,pv⟩=o by rw[←hinv.out];simp[C6]);clear hinv;go_wp2_with fail;go_ret;rw [HE.out];exact ⟨A',c',by simp,Sl.of_own hp.out.own,hp.out.fr,fun g off e=>by have:=B9 hp.out.own g off e;omega⟩
def putAll (o:List PP)(l:List PP):List PP:=l.foldl Ce o
theorem Fh {o l:List PP}{k:Nat}(hk:k<l.length):putAll o (l.take (k+1))=Ce (putAll o (l.take k)) l[k]:=by
 unfold putAll;rw [List.take_succ_eq_append_getElem hk,List.foldl_append];rfl
theorem Dc:∀(l o:List PP),(putAll o l).length≤o.length+l.length
 |[],o=>by simp[putAll]
 |x::l,o=>by
  have h1:=Dc l (Ce o x);have h2:=putL_len o x;show (putAll (Ce o x) l).length≤_;simp;omega
def Made (w w':World)(e:Ending)(l:List PP):Prop:=∃A' c',e=.returned (.slice A' l.length c')∧Sl w' 2 A' l.length c' (l.flatMap pcs)∧Fr Nob w w'
theorem Ec (w:World)(A:Option Addr)(c:Nat)(l:List PP)(hl:Sl w 2 A l.length c (l.flatMap pcs))(hsz:∀p∈l,p.name.size≤9223372036854775807):
 Calls Tryz.prog 44 #[.slice A l.length c] w fun e w'=>e=.returned (.bool (Am l))∧Fr Nob w w':=by
 have HL:=AA hl;have HZ:=AA hsz;have hle:=hl.le;have hmx:=hl.max;unfold maxLen at hmx;clear hl hsz;go_enter Tryz.func44,Tryz.ntmps44;go_wp2_with fail;go_loopw [3] (fun i wl=>∃k:Nat,k≤l.length∧i=.int .i64 k∧Hid (Fr Nob w wl)∧Hid (∀j,(hj:j<l.length)→j<k→Eb l j (l[j])=true)) (fun i _=>l.length-(intOf i).toNat);case atStart=>exact⟨0,Nat.zero_le _,rfl,AA (Fr.refl Nob w),AA (fun j _ hj=>absurd hj (by omega))⟩
 case round=>
  obtain⟨k,hk,rfl,hfr,hall⟩:=hrel;by_cases hlt:k<l.length
  ·have hI:(k:Int)<l.length:=by omega
   have hI3:0≤(k:Int):=by omega
   have HF:=AA (fun h=>Ep hlt h)
   have HT:=AA (fun (h:Eb l k l[k]=true)=>show∀j,(hj:j<l.length)→j<k+1→Eb l j (l[j])=true from fun j hj hjk=>by
    rcases Nat.lt_succ_iff_lt_or_eq.1 hjk with h'|h';·exact hall.out j hj h'
    ·subst h';exact h);have HS:=AA (HZ.out l[k] (List.getElem_mem hlt));have HX:=hfr
   cases k with
   |zero=>
    obtain⟨ba,off,rfl,hba,d0,d1⟩:=BV (HL.out.pure hfr.out) hlt;rw [FR] at HF HT;generalize l[0]=x at*;obtain ⟨xn,xv⟩:=x;simp only[Nat.zero_mul,Nat.add_zero,Nat.zero_add] at d0 d1 HF HT HS;have HN:=AA (fun W=>Gd W xn HS.out);generalize nmOk xn=nb at*;cases nb
    all_goals
     go_wp2_with fail;go_quiet ((go_at_call 75;exact Calls.quiet_of_same ((HN.out _).mono fun _ _ ⟨h1,h2⟩=>⟨h1,h2.symm⟩)));all_goals go_wp2_with fail
    ·have HR:=AA (HF.out (by simp));go_ret;exact ⟨BM HR.out.symm,hfr.out.drewN _⟩
    ·go_roundw;case rel=>exact⟨1,by omega,by go_num,AA (hfr.out.drewN _),AA (HT.out (by simp))⟩
     case measure=>simp[intOf];omega
   |succ k=>
    obtain⟨ba,off,rfl,hba,d0,d1⟩:=BV (HL.out.pure hfr.out) hlt;obtain ⟨ba2,off2,he,_,p0,p1⟩:=BV (HL.out.pure hfr.out) (k:=k) (by omega);cases he;rw [EM (by omega)] at HF HT;have HX:Hid (Fr Nob w wr):=hfr;generalize l[k+1]=x at*;generalize l[k]=y at*;obtain ⟨xn,xv⟩:=x;obtain ⟨yn,yv⟩:=y;simp only at d0 d1 p0 p1 HF HT HS;have HN:=AA (fun W=>Gd W xn HS.out);have HO:=AA (fun W=>ref_Ahead W ⟨yn,yv⟩ ⟨xn,xv⟩);have hk0:(0:Int)≤(k:Int):=by omega
    have hk1:(k:Int)<l.length:=by omega
    have hk2:(k:Int)<c:=by omega
    have hk3:(k:Int)+1<l.length:=by omega
    have hk4:(0:Int)≤(k:Int)+1:=by omega
    have e1:IntKind.i64.wrap (k:Int)=(k:Int):=IntWalk.i64_in _ (by omega);have e2:IntKind.i64.wrap ((k:Int)+1-1)=(k:Int):=by rw[show (k:Int)+1-1=(k:Int) by omega];exact e1
    generalize nmOk xn=nb at*;cases nb
    ·go_wp2_with fail;go_quiet ((go_at_call 75;exact Calls.quiet_of_same ((HN.out _).mono fun _ _ ⟨h1,h2⟩=>⟨h1,h2.symm⟩)));all_goals go_wp2_with fail
     have HR:=AA (HF.out (by simp));go_ret;exact ⟨BM HR.out.symm,hfr.out.drewN _⟩
    ·simp only[Bool.true_and] at HF HT;generalize paheadB ⟨yn,yv⟩ ⟨xn,xv⟩=r at*;cases r;rotate_left
     all_goals
      go_wp2_with fail;go_region_held3 (fun w'=>w'.cell? ⟨ba,off+(k+1)*2,none⟩=some (.string xn)∧w'.cell? ⟨ba,off+(k+1)*2+1,none⟩=some (.int .i64 xv)∧w'.cell? ⟨ba,off+k*2,none⟩=some (.string yn)∧w'.cell? ⟨ba,off+k*2+1,none⟩=some (.int .i64 yv)) (first|go_keep|(go_split_ands;refine⟨?_,?_,?_,?_⟩<;>exact Fr.cell hf1 (by assumption) (fun e=>e))) (first|((go_at_call 75);refine(HN.out _).mono ?_;rintro e w1 ⟨rfl,rfl⟩)|((go_at_call 76);refine(HO.out _).mono ?_;rintro e w1 ⟨rfl,hf1⟩));all_goals go_wp2_with fail
     ·go_roundw;case rel=>exact⟨k+1+1,by omega,by go_num,AA (hfr.out.drew.call hf1 (fun _ h _=>h)),AA (HT.out (by simp))⟩
      case measure=>simp[intOf];omega
     ·have HR:=AA (HF.out (by simp));go_ret;exact ⟨BM HR.out.symm,hfr.out.drew.call hf1 (fun _ h _=>h)⟩
  ·have HR:=AA (Dx (l:=l) (fun k' hk'=>hall.out k' hk' (by omega)));go_wp2_with fail;go_ret;exact ⟨BM HR.out.symm,hfr.out⟩
structure MI (A B o a b:List PP):Prop where
 asca:Asc (o++a)
 ascb:Asc (o++b)
 mem:∀x,(x∈o∨x∈a∨x∈b)↔(x∈A∨x∈B)
 len:o.length+a.length+b.length≤A.length+B.length
theorem MI.start {A B:List PP}(ha:Asc A)(hb:Asc B):MI A B [] A B:=⟨by simpa using ha,by simpa using hb,fun x=>by simp,by simp⟩
theorem MI.less {A B o a b:List PP}{x y:PP}(h:MI A B o (x::a) (y::b))(hlt:plt x y):MI A B (o++[x]) a (y::b):=by
 have hb:=h.ascb;have ha:=h.asca;unfold Asc at*;rw [List.pairwise_append] at ha hb;refine ⟨by have:=h.asca;unfold Asc at this ⊢;simpa using this,?_,fun z=>?_,by have:=h.len;simp at*;omega⟩
 ·unfold Asc;rw [List.append_assoc,List.pairwise_append];refine ⟨hb.1,?_,fun p hp q hq=>?_⟩
  ·simp only[List.singleton_append,List.pairwise_cons]
   exact⟨fun q hq=>by
    rcases List.mem_cons.1 hq with rfl|hq;·exact hlt
    ·exact CL hlt ((List.pairwise_cons.1 hb.2.1).1 q hq),List.pairwise_cons.1 hb.2.1⟩
  ·simp only[List.singleton_append,List.mem_cons] at hq;rcases hq with rfl|hq;·exact ha.2.2 p hp _ (by simp)
   ·exact hb.2.2 p hp q (List.mem_cons.2 hq)
 ·rw[←h.mem z];simp only[List.mem_append,List.mem_cons,List.not_mem_nil,or_false,or_assoc]
theorem MI.comm {A B o a b:List PP}(h:MI A B o a b):MI B A o b a:=
 ⟨h.ascb,h.asca,fun x=>by rw[Or.comm (a:=x∈b),Or.comm (a:=x∈B)];exact h.mem x,by have:=h.len;omega⟩
theorem MI.more {A B o a b:List PP}{x y:PP}(h:MI A B o (x::a) (y::b))(hlt:plt y x):MI A B (o++[y]) (x::a) b:=(h.comm.less hlt).comm
theorem MI.same {A B o a b:List PP}{x:PP}(h:MI A B o (x::a) (x::b)):MI A B (o++[x]) a b:=by
 refine⟨by simpa using h.asca,by simpa using h.ascb,fun z=>?_,by have:=h.len;simp at*;omega⟩;rw [←h.mem z];simp only[List.mem_append,List.mem_cons,List.not_mem_nil,or_false,or_assoc];constructor
 ·rintro(h|h|h|h);·exact .inl h
  ·exact .inr (.inl h)
  ·exact .inr (.inr (.inl h))
  ·exact .inr (.inr (.inr (.inr h)))
 ·rintro(h|h|h|h|h);·exact .inl h
  ·exact .inr (.inl h)
  ·exact .inr (.inr (.inl h))
  ·exact .inr (.inl h)
  ·exact .inr (.inr (.inr h))
theorem MI.done {A B o a b:List PP}(h:MI A B o a b)(hn:a=[]∨b=[]):o++a++b=lof (A++B):=by
 refine(FW ?_ fun x=>?_).symm
 ·rcases hn with rfl|rfl;·simpa using h.ascb
  ·simpa using h.asca
 ·rw[List.mem_append (s:=A),←h.mem x];simp
structure C4 (w wr:World) (base:Nat) (A1:Option Addr) (c1:Nat) (a:List PP) (A2:Option Addr) (c2:Nat) (b:List PP) (Ao:Option Addr) (co:Nat) (o:List PP):Prop where
 fr:Fr Nob w wr
 own:wr.ownsRow base 91 2 (.slice Ao o.length co) o.length (o.flatMap pcs)
 sa:Sl w 2 A1 a.length c1 (a.flatMap pcs)
 sb:Sl w 2 A2 b.length c2 (b.flatMap pcs)
 hb:w.heap.size≤base
 hb2:base≤wr.heap.size
section
variable {w wr w1:World} {base:Nat} {A1 A2 Ao:Option Addr} {c1 c2 co:Nat} {a b o:List PP}
theorem C4.pure (h:C4 w wr base A1 c1 a A2 c2 b Ao co o)(hf:Fr Nob wr w1):C4 w w1 base A1 c1 a A2 c2 b Ao co o:=
 ⟨h.fr.call hf (fun _ h _=>h),Ag h.own hf (fun _ _ _ _ e=>e),h.sa,h.sb,h.hb,Nat.le_trans h.hb2 hf.size⟩
theorem C4.app {A':Option Addr}{c' n:Nat}(h:C4 w wr base A1 c1 a A2 c2 b Ao co o)(l:List PP)(hown:w1.ownsRow base 91 2 (.slice A' n c') n (o.flatMap pcs++l.flatMap pcs))(hn:n=(o++l).length)(hg:wr.grownBy w1 (Ao.map (·.block))):C4 w w1 base A1 c1 a A2 c2 b A' c' (o++l):=by
 subst hn;refine ⟨h.fr.grown hg (fun k hk hlt=>by have:=AX h.own k hk;have:=h.hb;omega),by rw[List.flatMap_append];exact hown,h.sa,h.sb,h.hb,Nat.le_trans h.hb2 hg.size⟩
theorem C4.own_al (h:C4 w wr base A1 c1 a A2 c2 b Ao co o)(ob:Obj){n:Nat}(hn:n=o.length):(wr.alloc ob).ownsRow base 91 2 (.slice Ao n co) n (o.flatMap pcs):=by
 subst hn;exact(h.pure ((Fr.refl Nob wr).alloc ob)).own
theorem C4.own_len (h:C4 w wr base A1 c1 a A2 c2 b Ao co o){n:Nat}(hn:n=o.length):wr.ownsRow base 91 2 (.slice Ao n co) n (o.flatMap pcs):=by
 subst hn;exact h.own
theorem C4.cuta {x:PP}(h:C4 w wr base A1 c1 (x::a) A2 c2 b Ao co o):C4 w wr base (if c1=1 then A1 else A1.map (·.add 2)) (c1-1) a A2 c2 b Ao co o:=
 ⟨h.fr,h.own,by have:=h.sa.cut (k:=1) (by simp);simpa[pcs] using this,h.sb,h.hb,h.hb2⟩
theorem C4.cutb {x:PP}(h:C4 w wr base A1 c1 a A2 c2 (x::b) Ao co o):C4 w wr base A1 c1 a (if c2=1 then A2 else A2.map (·.add 2)) (c2-1) b Ao co o:=
 ⟨h.fr,h.own,h.sa,by have:=h.sb.cut (k:=1) (by simp);simpa[pcs] using this,h.hb,h.hb2⟩
theorem C4.cuta' {ba off:Nat}{x:PP}(h:C4 w wr base (some ⟨ba,off,none⟩) c1 (x::a) A2 c2 b Ao co o):C4 w wr base (if c1=1 then some ⟨ba,off,none⟩ else some ⟨ba,off+2,none⟩) (c1-1) a A2 c2 b Ao co o:=by
 have:=h.cuta;rwa[Option.map_some,G7] at this
theorem C4.cutb' {ba off:Nat}{x:PP}(h:C4 w wr base A1 c1 a (some ⟨ba,off,none⟩) c2 (x::b) Ao co o):C4 w wr base A1 c1 a (if c2=1 then some ⟨ba,off,none⟩ else some ⟨ba,off+2,none⟩) (c2-1) b Ao co o:=by
 have:=h.cutb;rwa[Option.map_some,G7] at this
end
theorem pord_pos {x y:PP}(h:0<pord x y):plt y x:=by
 rcases C9 x y with h1|h1|h1;·have:=(Et x y).2 h1;omega
 ·have:=(pord_zero x y).2 h1;omega
 ·exact h1
theorem MI.same' {A B o a b:List PP}{x y:PP}(h:MI A B o (x::a) (y::b))(e:x=y):MI A B (o++[x]) a b:=by subst e;exact h.same
def slLen:Value→Nat
 |.slice _ n _=>n
 |_=>0
theorem run_cut1 (A:Option Addr)(n cap:Nat)(W:World):
 (Instr.slice 57 (.slice A (n+1) cap) (some (.int .i64 1)) none none).run Tryz.prog W=.ok (.slice (if cap=1 then A else A.map (·.add 2)) n (cap-1)) W:=EJ B8 A 1 (by omega) W
def pcl (l:List PP):List Value:=l.flatMap pcs
def MadeN (w w':World)(e:Ending)(l:List PP):Prop:=∃A' c',e=.returned (.slice A' l.length c')∧Sl w' 2 A' l.length c' (l.flatMap pcs)∧Fr Nob w w'∧(∀g off,A'=some ⟨g,off,none⟩→w.heap.size≤g)
def MadeP (w w':World)(e:Ending)(l:List PP):Prop:=∃A' c',e=.returned (.slice A' l.length c')∧Sl w' 2 A' l.length c' (l.flatMap pcs)∧Fr Nob w w'∧(∀g off,A'=some ⟨g,off,none⟩→w.heap.size≤g∧Pb w' g)
theorem Gl (x:PP):∀u∈pcs x,u.oneCell'=true:=by intro u hu;simp[pcs] at hu;rcases hu with rfl|rfl<;>rfl
theorem lab_merge (w:World)(A:Option Addr)(c:Nat)(la:List PP)(B:Option Addr)(d:Nat)(lb:List PP)(ha:Sl w 2 A la.length c (la.flatMap pcs))(hb:Sl w 2 B lb.length d (lb.flatMap pcs))(asca:Asc la)(ascb:Asc lb)(ha63:la.length≤10000)(hb63:lb.length≤10000):
 Calls Tryz.prog 83 #[.slice A la.length c,.slice B lb.length d,.func (.func 59) #[] #[]] w fun e w'=>MadeP w w' e (lof (la++lb)):=by
 have HA:=AA ha;have HB:=AA hb;have HI:=AA (MI.start asca ascb);clear ha hb asca ascb;obtain ⟨cs,hcs,hmk⟩:=run_mk B8 (la.length+lb.length) ((la.length:Int)+lb.length) (by omega) (by omega) (by unfold maxLen;omega);have HCS:=AA hcs;clear hcs;go_enter Tryz.func83,Tryz.ntmps83;go_wp2_with fail;go_loopw [0,1,7] (fun s1 s2 so wr=>∃(A1:Option Addr) (c1:Nat) (a:List PP) (A2:Option Addr) (c2:Nat) (b:List PP) (Ao:Option Addr) (co:Nat) (o:List PP),s1=.slice A1 a.length c1∧s2=.slice A2 b.length c2∧so=.slice Ao o.length co∧Hid (C4 w wr w.heap.size A1 c1 a A2 c2 b Ao co o)∧Hid (MI la lb o a b)) (fun s1 s2 _ _=>slLen s1+slLen s2);case atStart=>exact⟨A,c,la,B,d,lb,_,_,[],rfl,rfl,rfl,AA ⟨(Fr.refl Nob w).alloc _,World.ownsRow_made w cs (la.length+lb.length) (Nat.le_refl _) (by unfold maxLen;omega) HCS.out,HA.out,HB.out,Nat.le_refl _,by simp⟩,HI⟩
 case round=>
  obtain⟨A1,c1,a,A2,c2,b,Ao,co,o,rfl,rfl,rfl,hw,hi⟩:=hrel;have hlen:=hi.out.len;clear hmk;by_cases ha0:a.length=0
  ·have hI1:(a.length:Int)≤0:=by omega
   have HD:=AA (hi.out.done (.inl (List.eq_nil_of_length_eq_zero ha0)));clear ha0;go_wp2_with (at_builtin;refine AP rfl _ _ 57 rfl B8 (base:=w.heap.size) (xs:=pcl o) (news:=(pcl a)) rfl ?own rfl ?src ?one ?h63 ?hby ?hbase ?_);case own=>exact hw.out.own
   case src=>exact hw.out.sa.pure hw.out.fr
   case one=>exact Eu
   case h63=>unfold maxLen;omega
   case hby=>omega
   case hbase=>have h1:=hw.out.hb2;simp at h1 ⊢;omega
   intro A3 c3 w2 hown2 hg2 _;have HW2:=AA (hw.out.app a hown2 (by simp) hg2);clear hown2 hg2;go_wp2_with (at_builtin;refine AP rfl _ _ 57 rfl B8 (base:=w.heap.size) (xs:=pcl (o++a)) (news:=(pcl b)) rfl ?own rfl ?src ?one ?h63 ?hby ?hbase ?_);case own=>exact HW2.out.own_len (by simp)
   case src=>exact HW2.out.sb.pure HW2.out.fr
   case one=>exact Eu
   case h63=>unfold maxLen;omega
   case hby=>omega
   case hbase=>have h1:=HW2.out.hb2;simp at h1 ⊢;omega
   intro A4 c4 w4 hown2 hg2 _;have HW4:=AA (HW2.out.app b hown2 (by simp;omega) hg2);clear hown2 hg2;go_wp2_with fail;go_ret;rw [←HD.out];exact ⟨A4,c4,by simp;omega,Sl.of_own HW4.out.own,HW4.out.fr,fun g off e=>⟨Nat.le_trans HW4.out.hb (B9 HW4.out.own g off e),own_pb HW4.out.own g off e⟩⟩
  ·by_cases hb0:b.length=0
   ·have hI1:(0:Int)<a.length:=by omega
    have hI2:(b.length:Int)≤0:=by omega
    have HD:=AA (hi.out.done (.inr (List.eq_nil_of_length_eq_zero hb0)));clear ha0 hb0;go_wp2_with (at_builtin;refine AP rfl _ _ 57 rfl B8 (base:=w.heap.size) (xs:=pcl o) (news:=(pcl a)) rfl ?own rfl ?src ?one ?h63 ?hby ?hbase ?_);case own=>exact hw.out.own
    case src=>exact hw.out.sa.pure hw.out.fr
    case one=>exact Eu
    case h63=>unfold maxLen;omega
    case hby=>omega
    case hbase=>have h1:=hw.out.hb2;simp at h1 ⊢;omega
    intro A3 c3 w2 hown2 hg2 _;have HW2:=AA (hw.out.app a hown2 (by simp) hg2);clear hown2 hg2;go_wp2_with (at_builtin;refine AP rfl _ _ 57 rfl B8 (base:=w.heap.size) (xs:=pcl (o++a)) (news:=(pcl b)) rfl ?own rfl ?src ?one ?h63 ?hby ?hbase ?_);case own=>exact HW2.out.own_len (by simp)
    case src=>exact HW2.out.sb.pure HW2.out.fr
    case one=>exact Eu
    case h63=>unfold maxLen;omega
    case hby=>omega
    case hbase=>have h1:=HW2.out.hb2;simp at h1 ⊢;omega
    intro A4 c4 w4 hown2 hg2 _;have HW4:=AA (HW2.out.app b hown2 (by simp;omega) hg2);clear hown2 hg2;go_wp2_with fail;go_ret;rw [←HD.out];exact ⟨A4,c4,by simp;omega,Sl.of_own HW4.out.own,HW4.out.fr,fun g off e=>⟨Nat.le_trans HW4.out.hb (B9 HW4.out.own g off e),own_pb HW4.out.own g off e⟩⟩
   ·obtain⟨x,a,rfl⟩:∃x a',a=x::a':=List.exists_cons_of_length_pos (by omega);obtain ⟨y,b,rfl⟩:∃y b',b=y::b':=List.exists_cons_of_length_pos (by omega);clear ha0 hb0;have hcA:=run_cut1 A1 a.length c1;have hcB:=run_cut1 A2 b.length c2;have hle1:=hw.out.sa.le;have hle2:=hw.out.sb.le;have hmx1:=hw.out.sa.max;have hmx2:=hw.out.sb.max;unfold maxLen at hmx1 hmx2;simp only[List.length_cons] at hle1 hle2 hlen;obtain ⟨ba,off,rfl,hba,d0,d1⟩:=BV (hw.out.sa.pure hw.out.fr) (k:=0) (by simp);obtain ⟨bb,off2,rfl,hbb,p0,p1⟩:=BV (hw.out.sb.pure hw.out.fr) (k:=0) (by simp);simp only[List.getElem_cons_zero,Nat.zero_mul,Nat.add_zero] at d0 d1 p0 p1;obtain ⟨xn,xv⟩:=x;obtain ⟨yn,yv⟩:=y;simp only at d0 d1 p0 p1;have HO:=AA (fun W=>Gq W ⟨xn,xv⟩ ⟨yn,yv⟩);have HL:=AA (fun h=>hi.out.less ((Et _ _).1 h));have HM:=AA (fun h=>hi.out.more (pord_pos h));have HS:=AA (fun h=>hi.out.same' ((pord_zero ⟨xn,xv⟩ ⟨yn,yv⟩).1 h));generalize pord ⟨xn,xv⟩ ⟨yn,yv⟩=r at*;rcases Int.lt_trichotomy r 0 with hr|hr|hr
    ·
     go_wp2_with fail;go_region_held3 (fun w'=>w'.cell? ⟨ba,off,none⟩=some (.string xn)∧w'.cell? ⟨ba,off+1,none⟩=some (.int .i64 xv)∧w'.cell? ⟨bb,off2,none⟩=some (.string yn)∧w'.cell? ⟨bb,off2+1,none⟩=some (.int .i64 yv)) (first|go_keep|(go_split_ands;refine⟨?_,?_,?_,?_⟩<;>exact Fr.cell hf1 (by assumption) (fun e=>e))) (((go_at_call 59);refine(HO.out _).mono ?_;rintro e w1 ⟨rfl,hf1⟩));go_split_ands;have HW1:=AA (hw.out.pure (((Fr.refl Nob wr).drew).call hf1 (fun _ h _=>h)));clear d0 d1 p0 p1 hf1;go_wp2_with (at_builtin;refine AP rfl _ _ 57 rfl B8 (base:=w.heap.size) (xs:=pcl o) (news:=(pcs ⟨xn,xv⟩)) rfl ?own rfl ?src ?one ?h63 ?hby ?hbase ?_);case own=>exact HW1.out.own_al _ rfl
     case src=>exact Sl.new1 (Blk.new _ _ _) 2 1 rfl (by decide)
     case one=>exact(Gl _)
     case h63=>unfold maxLen;omega
     case hby=>omega
     case hbase=>have h1:=HW1.out.hb2;simp at h1 ⊢;omega
     intro A3 c3 w2 hown2 hg2 _;have HW2:=AA ((HW1.out.pure ((Fr.refl Nob _).alloc _)).app [⟨xn,xv⟩] (by simpa[pcl] using hown2) (by simp) hg2);clear hown2 hg2;go_wp2_with fail;refine ⟨⟨_,_,a,_,_,⟨yn,yv⟩::b,A3,c3,o++[⟨xn,xv⟩],rfl,rfl,by simp,AA HW2.out.cuta',AA (HL.out hr)⟩,?_⟩;simp [slLen]<;>omega
    ·subst hr;go_wp2_with fail;go_region_held3 (fun w'=>w'.cell? ⟨ba,off,none⟩=some (.string xn)∧w'.cell? ⟨ba,off+1,none⟩=some (.int .i64 xv)∧w'.cell? ⟨bb,off2,none⟩=some (.string yn)∧w'.cell? ⟨bb,off2+1,none⟩=some (.int .i64 yv)) (first|go_keep|(go_split_ands;refine⟨?_,?_,?_,?_⟩<;>exact Fr.cell hf1 (by assumption) (fun e=>e))) (((go_at_call 59);refine(HO.out _).mono ?_;rintro e w1 ⟨rfl,hf1⟩));go_split_ands;have HW1:=AA (hw.out.pure (((Fr.refl Nob wr).drew).call hf1 (fun _ h _=>h)));clear d0 d1 p0 p1 hf1;go_wp2_with (at_builtin;refine AP rfl _ _ 57 rfl B8 (base:=w.heap.size) (xs:=pcl o) (news:=(pcs ⟨xn,xv⟩)) rfl ?own rfl ?src ?one ?h63 ?hby ?hbase ?_);case own=>exact HW1.out.own_al _ rfl
     case src=>exact Sl.new1 (Blk.new _ _ _) 2 1 rfl (by decide)
     case one=>exact(Gl _)
     case h63=>unfold maxLen;omega
     case hby=>omega
     case hbase=>have h1:=HW1.out.hb2;simp at h1 ⊢;omega
     intro A3 c3 w2 hown2 hg2 _;have HW2:=AA ((HW1.out.pure ((Fr.refl Nob _).alloc _)).app [⟨xn,xv⟩] (by simpa[pcl] using hown2) (by simp) hg2);clear hown2 hg2;go_wp2_with fail;refine ⟨⟨_,_,a,_,_,b,A3,c3,o++[⟨xn,xv⟩],rfl,rfl,by simp,AA HW2.out.cuta'.cutb',AA (HS.out (by simp))⟩,?_⟩;simp [slLen]<;>omega
    ·
     go_wp2_with fail;go_region_held3 (fun w'=>w'.cell? ⟨ba,off,none⟩=some (.string xn)∧w'.cell? ⟨ba,off+1,none⟩=some (.int .i64 xv)∧w'.cell? ⟨bb,off2,none⟩=some (.string yn)∧w'.cell? ⟨bb,off2+1,none⟩=some (.int .i64 yv)) (first|go_keep|(go_split_ands;refine⟨?_,?_,?_,?_⟩<;>exact Fr.cell hf1 (by assumption) (fun e=>e))) (((go_at_call 59);refine(HO.out _).mono ?_;rintro e w1 ⟨rfl,hf1⟩));go_split_ands;have HW1:=AA (hw.out.pure (((Fr.refl Nob wr).drew).call hf1 (fun _ h _=>h)));clear d0 d1 p0 p1 hf1;go_wp2_with (at_builtin;refine AP rfl _ _ 57 rfl B8 (base:=w.heap.size) (xs:=pcl o) (news:=(pcs ⟨yn,yv⟩)) rfl ?own rfl ?src ?one ?h63 ?hby ?hbase ?_);case own=>exact HW1.out.own_al _ rfl
     case src=>exact Sl.new1 (Blk.new _ _ _) 2 1 rfl (by decide)
     case one=>exact(Gl _)
     case h63=>unfold maxLen;omega
     case hby=>omega
     case hbase=>have h1:=HW1.out.hb2;simp at h1 ⊢;omega
     intro A3 c3 w2 hown2 hg2 _;have HW2:=AA ((HW1.out.pure ((Fr.refl Nob _).alloc _)).app [⟨yn,yv⟩] (by simpa[pcl] using hown2) (by simp) hg2);clear hown2 hg2;go_wp2_with fail;refine ⟨⟨_,_,⟨xn,xv⟩::a,_,_,b,A3,c3,o++[⟨yn,yv⟩],rfl,rfl,by simp,AA HW2.out.cutb',AA (HM.out hr)⟩,?_⟩;simp [slLen]<;>omega
theorem EP (l:List PP):(lof l).length≤l.length:=by have:=dd_len (Dk l);rw[FT] at this;exact this
theorem lof_lof (a b:List PP):lof (lof a++lof b)=lof (a++b):=FW (DA _) fun x=>by rw[BZ,List.mem_append,List.mem_append,BZ,BZ]
theorem Gf:∀(l:List PP) (p x:PP),x∈Ce l p↔x∈l∨x=p
 |[],p,x=>by simp[Ce]
 |y::r,p,x=>by
  have ih:=Gf r p x;unfold Ce;split;·simp only[List.mem_cons,ih,or_assoc]
  ·split
   ·rename_i h;rw [Cf] at h;subst h;simp only[List.mem_cons];constructor;·exact .inl
    ·rintro(h|rfl);·exact h
     ·exact .inl rfl
   ·simp only[List.mem_cons];constructor
    ·rintro(h|h);·exact .inr h
     ·exact .inl h
    ·rintro(h|h);·exact .inr h
     ·exact .inl h
theorem putL_asc:∀{l:List PP} (p:PP),Asc l→Asc (Ce l p)
 |[],p,_=>by simp[Ce,Asc]
 |y::r,p,h=>by
  have h':=List.pairwise_cons.1 h;unfold Ce;split
  ·rename_i ha;refine List.pairwise_cons.2 ⟨fun z hz=>?_,putL_asc p h'.2⟩;rcases (Gf r p z).1 hz with hz|rfl;·exact h'.1 z hz
   ·exact(Bv _ _).1 ha
  ·split;·exact h
   ·rename_i ha he
    have hlt:plt p y:=by
     rcases C9 p y with h1|h1|h1;·exact h1
     ·exact absurd ((Cf _ _).2 h1.symm) he
     ·exact absurd ((Bv _ _).2 h1) ha
    refine List.pairwise_cons.2 ⟨fun z hz=>?_,h⟩;rcases List.mem_cons.1 hz with rfl|hz;·exact hlt
    ·exact CL hlt (h'.1 z hz)
theorem De:∀(l:List PP) {o:List PP},Asc o→Asc (putAll o l)
 |[],_,h=>h
 |x::l,_,h=>De l (putL_asc x h)
theorem Db:∀(l o:List PP) (x:PP),x∈putAll o l↔x∈o∨x∈l
 |[],o,x=>by simp[putAll]
 |y::l,o,x=>by
  show x∈putAll (Ce o y) l↔_;rw [Db l,Gf,List.mem_cons,or_assoc]
theorem Gg (l:List PP):putAll [] l=lof l:=(FW (De l List.Pairwise.nil) fun x=>by rw[Db];simp).symm
theorem putAll_two (a b:List PP):putAll (putAll [] a) b=lof (a++b):=(FW (De b (De a List.Pairwise.nil)) fun x=>by rw[Db,Db];simp).symm
theorem lab_Of' (w:World)(A:Option Addr)(c:Nat)(l:List PP)(hl:Sl w 2 A l.length c (l.flatMap pcs))(h63:l.length≤10000):
 Calls Tryz.prog 30 #[.slice A l.length c] w fun e w'=>Made w w' e (lof l):=
 (lab_Of w A c l hl h63).mono fun _ _ ⟨A',c',he,hs,hf,_⟩=>⟨A',c',he,hs,hf⟩
theorem lab_UnionN (w:World)(A:Option Addr)(c:Nat)(a:List PP)(B:Option Addr)(d:Nat)(b:List PP)(ha:Sl w 2 A a.length c (a.flatMap pcs))(hb:Sl w 2 B b.length d (b.flatMap pcs))(ha63:a.length≤10000)(hb63:b.length≤10000):
 Calls Tryz.prog 52 #[.slice A a.length c,.slice B b.length d] w fun e w'=>MadeP w w' e (lof (a++b)):=by
 have HA:=AA ha;have HB:=AA hb;clear ha hb;go_enter Tryz.func52,Tryz.ntmps52;go_wp2_with fail;refine (lab_Of' _ A c a HA.out ha63).mono ?_;rintro e w1 ⟨A1,c1,rfl,hs1,hf1⟩;have HS1:=AA hs1;have HF1:=AA hf1;clear hs1 hf1;go_wp2_with fail;refine (lab_Of' _ B d b (HB.out.pure HF1.out) hb63).mono ?_;rintro e w2 ⟨B1,d1,rfl,hs2,hf2⟩;have HS2:=AA hs2;have HF2:=AA hf2;clear hs2 hf2;go_wp2_with fail;refine (lab_merge w2 A1 c1 (lof a) B1 d1 (lof b) (HS1.out.pure HF2.out) HS2.out (DA a) (DA b) (by have:=EP a;omega) (by have:=EP b;omega)).mono ?_;rintro e w3 ⟨A3,c3,rfl,hs3,hf3,hn3⟩;have HS3:=AA hs3;have HF3:=AA hf3;have HN3:=AA hn3;clear hs3 hf3 hn3;go_wp2_with fail;go_ret;rw [lof_lof a b] at HS3 ⊢;exact ⟨A3,c3,rfl,HS3.out,(HF1.out.call HF2.out (fun _ h _=>h)).call HF3.out (fun _ h _=>h),fun g off e=>by have h1:=(HN3.out g off e).1;have h2:=HF1.out.size;have h3:=HF2.out.size;exact⟨by omega,(HN3.out g off e).2⟩⟩
def sx (l:List UInt8):ByteArray:=⟨l.toArray⟩
end Go.Proofs.YtoegdmpmagbaiaaGreatDoor
