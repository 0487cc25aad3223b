/- What is known of formulas, in plain words: by definition. -/
import Derived.Test.YtoegdmpmagbaiaaGreatDoorKF
import Derived.Test.YtoegdmpmagbaiaaGreatDoorKQ
namespace Go.Proofs.YtoegdmpmagbaiaaGreatDoor
open Go.RowKit
def tAt (W:List Pt)(i:Nat):Int:=(W.getD i (0,[])).1
def pAt (W:List Pt)(i:Nat):List PP:=(W.getD i (0,[])).2
def AO:Int:=9223372036854775807
def inR (W:List Pt)(lo hi:Int)(i j:Nat):Bool:=decide (lo≤tAt W j-tAt W i)&&decide (tAt W j-tAt W i≤hi)
def shutB (t lo hi mark:Int):Bool:=decide (hi<lo)||decide (hi≤mark-t)
def BH (i n:Nat):List Nat:=(List.range n).filter fun j=>decide (i≤j)
theorem Ai {i n j:Nat}:j∈BH i n↔i≤j∧j<n:=by
 unfold BH;rw [List.mem_filter,List.mem_range,decide_eq_true_eq];exact ⟨fun h=>⟨h.2,h.1⟩,fun h=>⟨h.2,h.1⟩⟩
def xAt (x:List Int)(j:Nat):Int:=x.getD j 0
def evK (W:List Pt)(mark lo hi:Int)(i:Nat)(x:List Int):Int:=
 if(BH i W.length).any (fun j=>inR W lo hi i j&&xAt x j==1) then 1
 else if(BH i W.length).all (fun j=>!(inR W lo hi i j)||xAt x j==0)&&shutB (tAt W i) lo (min hi (AO-tAt W i)) mark then 0
 else 2
def ahead1 (x:List Int)(i j:Nat):Bool:=(BH i j).all fun k=>xAt x k==1
def G6 (x:List Int)(i j:Nat):Bool:=(BH i j).all fun k=>!(xAt x k==0)
def stopAt (x:List Int)(i n:Nat):Option Nat:=(BH i n).find? fun k=>xAt x k==0
def Fb (W:List Pt)(hi:Int)(i:Nat)(x:List Int):Int:=
 match stopAt x i W.length with
 |none=>min hi (AO-tAt W i)
 |some s=>min (min hi (AO-tAt W i)) (tAt W s-1-tAt W i)
def unK (W:List Pt)(mark lo hi:Int)(i:Nat)(x y:List Int):Int:=
 if(BH i W.length).any (fun j=>inR W lo hi i j&&xAt y j==1&&ahead1 x i j&&(j==i||decide (tAt W j-1≤mark))) then 1
 else if(BH i W.length).all (fun j=>!(inR W lo hi i j&&G6 x i j)||xAt y j==0)&&shutB (tAt W i) lo (Fb W hi i x) mark then 0
 else 2
def knK (W:List Pt)(mark:Int)(n:Nd)(i:Nat)(x y:List Int):Int:=
 if n.op=1 then 1
 else if n.op=2 then 0
 else if n.op=3 then(if holdsB (pAt W i) n.name n.cmp n.val then 1 else if tAt W i≤mark then 0 else 2)
 else if n.op=4 then(if xAt x i=2 then 2 else 1-xAt x i)
 else if n.op=5 then(if xAt x i=0∨xAt y i=0 then 0 else if xAt x i=1∧xAt y i=1 then 1 else 2)
 else if n.op=8 then(if xAt x i=2∨xAt y i=2 then 2 else if xAt x i=xAt y i then 1 else 0)
 else if n.op=9 then evK W mark n.lo n.hi i x
 else unK W mark n.lo n.hi i x y
def EX (W:List Pt)(mark:Int)(n:Nd)(x y:List Int):List Int:=(List.range W.length).map fun i=>knK W mark n i x y
def Bp (W:List Pt)(mark:Int):Tr→List (List Int)
 |.nil=>[]
 |.cons n k r=>EX W mark n ((Bp W mark k).getD 0 []) ((Bp W mark k).getD 1 [])::Bp W mark r
def rowS (W:List Pt)(mark:Int)(x:S1):List Int:=EX W mark x.1 ((Bp W mark x.2).getD 0 []) ((Bp W mark x.2).getD 1 [])
theorem rowsK_len (W:List Pt)(mark:Int)(t:Tr):(Bp W mark t).length=t.len:=by
 induction t with
 |nil=>rfl
 |cons x k r _ ih=>simp[Bp,Tr.len,ih]
theorem Eo (W:List Pt)(mark:Int)(n:Nd)(x y:List Int):(EX W mark n x y).length=W.length:=by simp[EX]
def Tri (v:Int):Prop:=v=0∨v=1∨v=2
theorem tri_knK (W:List Pt)(mark:Int)(n:Nd)(i:Nat)(x y:List Int)(hx:Tri (xAt x i)):Tri (knK W mark n i x y):=by
 have he:Tri (evK W mark n.lo n.hi i x):=by unfold evK Tri;repeat' split<;>simp
 have hu:Tri (unK W mark n.lo n.hi i x y):=by unfold unK Tri;repeat' split<;>simp
 unfold knK;unfold Tri at*;repeat' split
 all_goals first|omega|exact he|exact hu
theorem DM (W:List Pt)(mark:Int)(x:S1):(rowS W mark x).length=W.length:=Eo _ _ _ _ _
structure Ay (W:List Pt):Prop where
 up:∀i j,i<j→j<W.length→tAt W i<tAt W j
 lo:∀i,i<W.length→0≤tAt W i
 hi:∀i,i<W.length→tAt W i≤AO
theorem Ay.le {W:List Pt}(h:Ay W){i j:Nat}(hij:i≤j)(hj:j<W.length):tAt W i≤tAt W j:=by
 rcases Nat.lt_or_eq_of_le hij with h1|h1;·exact Int.le_of_lt (h.up i j h1 hj)
 ·rw[h1];exact Int.le_refl _
theorem Ay.idx {W:List Pt}(h:Ay W){i j:Nat}(hi:i<W.length)(ht:tAt W i≤tAt W j):i≤j:=by
 rcases Nat.lt_or_ge j i with h1|h1;·have:=h.up j i h1 hi;omega
 ·exact h1
def InR (W:List Pt)(lo hi:Int)(i j:Nat):Prop:=lo≤tAt W j-tAt W i∧tAt W j-tAt W i≤hi
theorem BG {W:List Pt}{lo hi:Int}{i j:Nat}:inR W lo hi i j=true↔InR W lo hi i j:=by unfold inR InR;simp
theorem A9 {t lo hi mark:Int}:shutB t lo hi mark=true↔hi<lo∨hi≤mark-t:=by unfold shutB;simp
theorem G4 {x:List Int}{i j:Nat}:ahead1 x i j=true↔∀k,i≤k→k<j→xAt x k=1:=by
 unfold ahead1;rw[List.all_eq_true];exact ⟨fun h k h1 h2=>by simpa using h k (Ai.2 ⟨h1,h2⟩),fun h k hk=>by have:=Ai.1 hk;simpa using h k this.1 this.2⟩
theorem G5 {x:List Int}{i j:Nat}:G6 x i j=true↔∀k,i≤k→k<j→xAt x k≠0:=by
 unfold G6;rw[List.all_eq_true];exact ⟨fun h k h1 h2=>by simpa using h k (Ai.2 ⟨h1,h2⟩),fun h k hk=>by have:=Ai.1 hk;simpa using h k this.1 this.2⟩
def EvY (W:List Pt)(lo hi:Int)(i:Nat)(x:List Int):Prop:=∃j,i≤j∧j<W.length∧InR W lo hi i j∧xAt x j=1
def EvN (W:List Pt)(mark lo hi:Int)(i:Nat)(x:List Int):Prop:=(∀j,i≤j→j<W.length→InR W lo hi i j→xAt x j=0)∧(min hi (AO-tAt W i)<lo∨min hi (AO-tAt W i)≤mark-tAt W i)
theorem evY_iff {W:List Pt}{lo hi:Int}{i:Nat}{x:List Int}:((BH i W.length).any (fun j=>inR W lo hi i j&&xAt x j==1))=true↔EvY W lo hi i x:=by
 rw[List.any_eq_true];constructor
 ·rintro⟨j,hj,h⟩;have:=Ai.1 hj;simp only[Bool.and_eq_true,beq_iff_eq] at h;exact ⟨j,this.1,this.2,BG.1 h.1,h.2⟩
 ·rintro⟨j,h1,h2,h3,h4⟩;exact ⟨j,Ai.2 ⟨h1,h2⟩,by simp[BG.2 h3,h4]⟩
theorem evN_iff {W:List Pt}{mark lo hi:Int}{i:Nat}{x:List Int}:((BH i W.length).all (fun j=>!(inR W lo hi i j)||xAt x j==0)&&shutB (tAt W i) lo (min hi (AO-tAt W i)) mark)=true↔EvN W mark lo hi i x:=by
 rw[Bool.and_eq_true,List.all_eq_true,A9];unfold EvN;constructor
 ·rintro⟨h1,h2⟩;refine ⟨fun j a b c=>?_,h2⟩;have:=h1 j (Ai.2 ⟨a,b⟩);simpa [BG.2 c] using this
 ·rintro⟨h1,h2⟩;refine ⟨fun j hj=>?_,h2⟩;have:=Ai.1 hj;by_cases hr:inR W lo hi i j=true;·simp[h1 j this.1 this.2 (BG.1 hr)]
  ·simp[hr]
theorem evK_eq (W:List Pt)(mark lo hi:Int)(i:Nat)(x:List Int):(EvY W lo hi i x∧evK W mark lo hi i x=1)∨(¬EvY W lo hi i x∧EvN W mark lo hi i x∧evK W mark lo hi i x=0)∨(¬EvY W lo hi i x∧¬EvN W mark lo hi i x∧evK W mark lo hi i x=2):=by
 unfold evK;by_cases h1:EvY W lo hi i x;·rw[if_pos (evY_iff.2 h1)];exact .inl ⟨h1,rfl⟩
 ·rw[if_neg (fun e=>h1 (evY_iff.1 e))];by_cases h2:EvN W mark lo hi i x;·rw[if_pos (evN_iff.2 h2)];exact .inr (.inl ⟨h1,h2,rfl⟩)
  ·rw[if_neg (fun e=>h2 (evN_iff.1 e))];exact .inr (.inr ⟨h1,h2,rfl⟩)
theorem evK_one {W:List Pt}{mark lo hi:Int}{i:Nat}{x:List Int}(h:EvY W lo hi i x):evK W mark lo hi i x=1:=by
 rcases evK_eq W mark lo hi i x with h1|h1|h1;·exact h1.2
 ·exact absurd h h1.1
 ·exact absurd h h1.1
def UnY (W:List Pt)(mark lo hi:Int)(i:Nat)(x y:List Int):Prop:=∃j,i≤j∧j<W.length∧InR W lo hi i j∧xAt y j=1∧(∀k,i≤k→k<j→xAt x k=1)∧(j=i∨tAt W j-1≤mark)
def UnN (W:List Pt)(mark lo hi:Int)(i:Nat)(x y:List Int):Prop:=(∀j,i≤j→j<W.length→InR W lo hi i j→(∀k,i≤k→k<j→xAt x k≠0)→xAt y j=0)∧(Fb W hi i x<lo∨Fb W hi i x≤mark-tAt W i)
theorem unY_iff {W:List Pt}{mark lo hi:Int}{i:Nat}{x y:List Int}:((BH i W.length).any (fun j=>inR W lo hi i j&&xAt y j==1&&ahead1 x i j&&(j==i||decide (tAt W j-1≤mark))))=true↔UnY W mark lo hi i x y:=by
 rw[List.any_eq_true];constructor
 ·rintro⟨j,hj,h⟩;have:=Ai.1 hj;simp only[Bool.and_eq_true,beq_iff_eq,Bool.or_eq_true,decide_eq_true_eq] at h;exact ⟨j,this.1,this.2,BG.1 h.1.1.1,h.1.1.2,G4.1 h.1.2,h.2⟩
 ·rintro⟨j,h1,h2,h3,h4,h5,h6⟩;exact ⟨j,Ai.2 ⟨h1,h2⟩,by simp only[Bool.and_eq_true,beq_iff_eq,Bool.or_eq_true,decide_eq_true_eq];exact⟨⟨⟨BG.2 h3,h4⟩,G4.2 h5⟩,h6⟩⟩
theorem unN_iff {W:List Pt}{mark lo hi:Int}{i:Nat}{x y:List Int}:((BH i W.length).all (fun j=>!(inR W lo hi i j&&G6 x i j)||xAt y j==0)&&shutB (tAt W i) lo (Fb W hi i x) mark)=true↔UnN W mark lo hi i x y:=by
 rw[Bool.and_eq_true,List.all_eq_true,A9];unfold UnN;constructor
 ·rintro⟨h1,h2⟩;refine ⟨fun j a b c d=>?_,h2⟩;have:=h1 j (Ai.2 ⟨a,b⟩);simpa [BG.2 c,G5.2 d] using this
 ·rintro⟨h1,h2⟩;refine ⟨fun j hj=>?_,h2⟩;have:=Ai.1 hj;by_cases hr:(inR W lo hi i j&&G6 x i j)=true
  ·rw[Bool.and_eq_true] at hr;simp [h1 j this.1 this.2 (BG.1 hr.1) (G5.1 hr.2)]
  ·simp only[Bool.not_eq_true] at hr;simp [hr]
theorem GH (W:List Pt)(mark lo hi:Int)(i:Nat)(x y:List Int):(UnY W mark lo hi i x y∧unK W mark lo hi i x y=1)∨(¬UnY W mark lo hi i x y∧UnN W mark lo hi i x y∧unK W mark lo hi i x y=0)∨(¬UnY W mark lo hi i x y∧¬UnN W mark lo hi i x y∧unK W mark lo hi i x y=2):=by
 unfold unK;by_cases h1:UnY W mark lo hi i x y;·rw[if_pos (unY_iff.2 h1)];exact .inl ⟨h1,rfl⟩
 ·rw[if_neg (fun e=>h1 (unY_iff.1 e))];by_cases h2:UnN W mark lo hi i x y;·rw[if_pos (unN_iff.2 h2)];exact .inr (.inl ⟨h1,h2,rfl⟩)
  ·rw[if_neg (fun e=>h2 (unN_iff.1 e))];exact .inr (.inr ⟨h1,h2,rfl⟩)
theorem unK_one {W:List Pt}{mark lo hi:Int}{i:Nat}{x y:List Int}(h:UnY W mark lo hi i x y):unK W mark lo hi i x y=1:=by
 rcases GH W mark lo hi i x y with h1|h1|h1;·exact h1.2
 ·exact absurd h h1.1
 ·exact absurd h h1.1
theorem Ez {W:List Pt}(hW:Ay W){hi v:Int}{i:Nat}{x:List Int}:v≤Fb W hi i x↔v≤hi∧v≤AO-tAt W i∧∀s,i≤s→s<W.length→xAt x s=0→v≤tAt W s-1-tAt W i:=by
 unfold Fb
 cases hs:stopAt x i W.length with
 |none=>
  unfold stopAt at hs;rw [List.find?_eq_none] at hs;have hno:∀s,i≤s→s<W.length→¬xAt x s=0:=fun s h1 h2=>by simpa using hs s (Ai.2 ⟨h1,h2⟩)
  show v≤min hi (AO-tAt W i)↔_;exact ⟨fun h=>⟨by omega,by omega,fun s a b c=>absurd c (hno s a b)⟩,fun h=>by omega⟩
 |some s=>
  have hp:xAt x s=0:=by have:=List.find?_some hs;simpa using this
  have hm:=Ai.1 (List.mem_of_find?_eq_some hs)
  have hfirst:∀k,i≤k→k<s→¬xAt x k=0:=by
   intro k h1 h2 h3;unfold stopAt at hs;obtain ⟨_,l1,l2,hl,hno⟩:=List.find?_eq_some_iff_append.1 hs;have hsort:(BH i W.length).Pairwise (·< ·):=List.Pairwise.filter _ List.pairwise_lt_range;have hk:k∈BH i W.length:=Ai.2 ⟨h1,by omega⟩;rw [hl] at hk hsort;rw [List.pairwise_append] at hsort;rcases List.mem_append.1 hk with hk|hk;·have:=hno k hk;simp[h3] at this
   ·rcases List.mem_cons.1 hk with hk|hk;·omega
    ·have:=(List.pairwise_cons.1 hsort.2.1).1 k hk;omega
  show v≤min (min hi (AO-tAt W i)) (tAt W s-1-tAt W i)↔_;constructor
  ·intro h;refine ⟨by omega,by omega,fun r a b c=>?_⟩;rcases Nat.lt_or_ge r s with h1|h1;·exact absurd c (hfirst r a h1)
   ·have:=hW.le h1 b;omega
  ·rintro⟨h1,h2,h3⟩;have:=h3 s hm.1 hm.2 hp;omega
theorem GD {W:List Pt}(hW:Ay W)(hi:Int)(i:Nat)(x:List Int):Fb W hi i x≤hi∧Fb W hi i x≤AO-tAt W i∧∀s,i≤s→s<W.length→xAt x s=0→Fb W hi i x≤tAt W s-1-tAt W i:=(Ez hW).1 (Int.le_refl _)
structure Ext (W V:List Pt) (mark:Int) (κ:Nat→Nat):Prop where
 w:Ay W
 v:Ay V
 lt:∀i,i<W.length→κ i<V.length
 at_:∀i,i<W.length→tAt V (κ i)=tAt W i
 new:∀k,k<V.length→(∃i,i<W.length∧κ i=k)∨mark<tAt V k
 holds:∀i,i<W.length→∀n op v,holdsB (pAt W i) n op v=true→holdsB (pAt V (κ i)) n op v=true
 old:∀i,i<W.length→tAt W i≤mark→∀n op v,holdsB (pAt V (κ i)) n op v=true→holdsB (pAt W i) n op v=true
section
variable {W V:List Pt} {mark later:Int} {κ:Nat→Nat}
theorem Ext.le (h:Ext W V mark κ){i j:Nat}(hij:i≤j)(hj:j<W.length):κ i≤κ j:=
 h.v.idx (h.lt i (by omega)) (by rw[h.at_ i (by omega),h.at_ j hj];exact h.w.le hij hj)
theorem xAt_rowK (W:List Pt)(mark:Int)(n:Nd)(x y:List Int){i:Nat}(h:i<W.length):xAt (EX W mark n x y) i=knK W mark n i x y:=by
 unfold xAt EX;rw [List.getD_eq_getElem?_getD,List.getElem?_map,List.getElem?_range h];rfl
end
theorem GI (W:List Pt)(mark:Int)(t:Tr):∀p i,Tri (xAt ((Bp W mark t).getD p []) i):=by
 induction t with
 |nil=>intro p i;simp[Bp,xAt,Tri]
 |cons n k r ihk ihr=>
  intro p i
  cases p with
  |zero=>
   simp only[Bp,List.getD_cons_zero];by_cases hi':i<W.length;·rw[xAt_rowK _ _ _ _ _ hi'];exact tri_knK W mark n i _ _ (ihk 0 i)
   ·unfold xAt;rw[List.getD_eq_getElem?_getD,List.getElem?_eq_none (by rw[Eo];omega)];exact .inl rfl
  |succ p=>simpa[Bp] using ihr p i
theorem GJ (W:List Pt)(mark:Int)(s:S1)(i:Nat):Tri (xAt (rowS W mark s) i):=by
 exact GI W mark (.cons s.1 s.2 .nil) 0 i
def D2:Tr→Int
 |.nil=>0
 |.cons n k r=>max (D2 k+if 9≤n.op then n.hi else 0) (D2 r)
def far1 (s:S1):Int:=D2 s.2+if 9≤s.1.op then s.1.hi else 0
theorem maxF_pos (t:Tr):0≤D2 t:=by
 induction t with
 |nil=>exact Int.le_refl _
 |cons n k r _ ih=>simp only[D2];omega
def bAt (x:List Bool)(j:Nat):Bool:=x.getD j false
def someB (W:List Pt)(lo hi:Int)(i:Nat)(x:List Bool)(v:Bool):Bool:=(BH i W.length).any fun j=>inR W lo hi i j&&(bAt x j==v)
def untB (W:List Pt)(lo hi:Int)(i:Nat)(x y:List Bool):Bool:=(BH i W.length).any fun j=>inR W lo hi i j&&bAt y j&&(BH i j).all fun k=>bAt x k
def relB (W:List Pt)(lo hi:Int)(i:Nat)(x y:List Bool):Bool:=(BH i W.length).all fun j=>!(inR W lo hi i j)||bAt y j||(BH i j).any fun k=>bAt x k
def knT (W:List Pt)(n:Nd)(i:Nat)(x y:List Bool):Bool:=
 if n.op=1 then true
 else if n.op=2 then false
 else if n.op=3 then holdsB (pAt W i) n.name n.cmp n.val
 else if n.op=4 then !(bAt x i)
 else if n.op=5 then bAt x i&&bAt y i
 else if n.op=6 then bAt x i||bAt y i
 else if n.op=7 then !(bAt x i)||bAt y i
 else if n.op=8 then bAt x i==bAt y i
 else if n.op=9 then someB W n.lo n.hi i x true
 else if n.op=10 then !(someB W n.lo n.hi i x false)
 else if n.op=11 then untB W n.lo n.hi i x y
 else relB W n.lo n.hi i x y
def EW (W:List Pt)(n:Nd)(x y:List Bool):List Bool:=(List.range W.length).map fun i=>knT W n i x y
def CJ (W:List Pt):Tr→List (List Bool)
 |.nil=>[]
 |.cons n k r=>EW W n ((CJ W k).getD 0 []) ((CJ W k).getD 1 [])::CJ W r
def rowTS (W:List Pt)(x:S1):List Bool:=EW W x.1 ((CJ W x.2).getD 0 []) ((CJ W x.2).getD 1 [])
theorem GW (W:List Pt)(n:Nd)(x y:List Bool):(EW W n x y).length=W.length:=by simp[EW]
theorem CK (W:List Pt)(x:S1):(rowTS W x).length=W.length:=GW _ _ _ _
theorem rowsT_len (W:List Pt)(t:Tr):(CJ W t).length=t.len:=by
 induction t with
 |nil=>rfl
 |cons x k r _ ih=>simp[CJ,Tr.len,ih]
theorem bAt_rowT (W:List Pt)(n:Nd)(x y:List Bool){i:Nat}(h:i<W.length):bAt (EW W n x y) i=knT W n i x y:=by
 unfold bAt EW;rw [List.getD_eq_getElem?_getD,List.getElem?_map,List.getElem?_range h];rfl
theorem EE {W:List Pt}{lo hi:Int}{i:Nat}{x:List Bool}{v:Bool}:someB W lo hi i x v=true↔∃j,i≤j∧j<W.length∧InR W lo hi i j∧bAt x j=v:=by
 unfold someB;rw [List.any_eq_true];constructor
 ·rintro⟨j,hj,h⟩;have:=Ai.1 hj;rw [Bool.and_eq_true,beq_iff_eq] at h;exact ⟨j,this.1,this.2,BG.1 h.1,h.2⟩
 ·rintro⟨j,h1,h2,h3,h4⟩;exact ⟨j,Ai.2 ⟨h1,h2⟩,by rw[Bool.and_eq_true,beq_iff_eq];exact⟨BG.2 h3,h4⟩⟩
theorem Du {W:List Pt}{lo hi:Int}{i:Nat}{x y:List Bool}:untB W lo hi i x y=true↔∃j,i≤j∧j<W.length∧InR W lo hi i j∧bAt y j=true∧∀k,i≤k→k<j→bAt x k=true:=by
 unfold untB;rw [List.any_eq_true];constructor
 ·rintro⟨j,hj,h⟩;have:=Ai.1 hj;rw [Bool.and_eq_true,Bool.and_eq_true,List.all_eq_true] at h;exact ⟨j,this.1,this.2,BG.1 h.1.1,h.1.2,fun k h1 h2=>h.2 k (Ai.2 ⟨h1,h2⟩)⟩
 ·rintro⟨j,h1,h2,h3,h4,h5⟩;exact ⟨j,Ai.2 ⟨h1,h2⟩,by rw[Bool.and_eq_true,Bool.and_eq_true,List.all_eq_true];exact⟨⟨BG.2 h3,h4⟩,fun k hk=>by have:=Ai.1 hk;exact h5 k this.1 this.2⟩⟩
theorem Dz {W:List Pt}{lo hi:Int}{i:Nat}{x y:List Bool}:relB W lo hi i x y=true↔∀j,i≤j→j<W.length→InR W lo hi i j→bAt y j=true∨∃k,i≤k∧k<j∧bAt x k=true:=by
 unfold relB;rw [List.all_eq_true];constructor
 ·intro h j h1 h2 h3;have:=h j (Ai.2 ⟨h1,h2⟩);rw [Bool.or_eq_true,Bool.or_eq_true,List.any_eq_true] at this;rcases this with(this|this)|⟨k,hk,this⟩;·rw[BG.2 h3] at this;cases this
  ·exact .inl this
  ·have hk:=Ai.1 hk;exact .inr ⟨k,hk.1,hk.2,this⟩
 ·intro h j hj;have hj:=Ai.1 hj;rw [Bool.or_eq_true,Bool.or_eq_true,List.any_eq_true];by_cases hr:inR W lo hi i j=true
  ·rcases h j hj.1 hj.2 (BG.1 hr) with h|⟨k,h1,h2,h3⟩;·exact .inl (.inr h)
   ·exact .inr ⟨k,Ai.2 ⟨h1,h2⟩,h3⟩
  ·exact .inl (.inl (by simpa using hr))
theorem GG {x:Nd}{n:Nat}(h:wrongN x n=0):9≤x.op→0≤x.lo∧x.lo≤x.hi:=by
 intro h9;unfold wrongN at h;repeat' split at h
 all_goals try omega
 rename_i hs
 have:Cd x.lo x.hi=true:=by
  by_cases e:Cd x.lo x.hi=true;·exact e
  ·exact absurd ⟨h9,by simpa using e⟩ hs
 simpa[Cd] using this
def HiN (n:Nd):Prop:=9≤n.op→0≤n.hi
theorem maxF_cons (n:Nd)(k r:Tr):D2 (.cons n k r)=max (far1 (n,k)) (D2 r):=rfl
section
variable {W:List Pt} {mark lo hi:Int} {i j:Nat} {x y:List Int} {a b:Bool}
theorem Cv (hW:Ay W){k:Nat}(he:j=W.length∨hi<tAt W j-tAt W i)(hk:k<W.length)(hr:InR W lo hi i k):k<j:=by
 rcases Nat.lt_or_ge k j with h|h;·exact h
 ·rcases he with he|he;·omega
  ·have:=hW.le h hk;have:=hr.2;omega
structure EvI (W:List Pt) (lo hi:Int) (i j:Nat) (x:List Int) (a:Bool):Prop where
 no:∀k,i≤k→k<j→InR W lo hi i k→xAt x k≠1
 all:a=true↔∀k,i≤k→k<j→InR W lo hi i k→xAt x k=0
theorem EvI.zero:EvI W lo hi i i x true:=⟨fun k h1 h2=>absurd h2 (by omega),⟨fun _ k h1 h2=>absurd h2 (by omega),fun _=>rfl⟩⟩
theorem EvI.skip (h:EvI W lo hi i j x a)(hn:¬InR W lo hi i j):EvI W lo hi i (j+1) x a:=by
 refine⟨fun k h1 h2 h3=>?_,h.all.trans ⟨fun g k h1 h2 h3=>?_,fun g k h1 h2 h3=>g k h1 (by omega) h3⟩⟩
 ·rcases Nat.lt_succ_iff_lt_or_eq.1 h2 with h4|rfl;·exact h.no k h1 h4 h3
  ·exact absurd h3 hn
 ·rcases Nat.lt_succ_iff_lt_or_eq.1 h2 with h4|rfl;·exact g k h1 h4 h3
  ·exact absurd h3 hn
theorem EvI.none (h:EvI W lo hi i j x a)(hv:xAt x j=0):EvI W lo hi i (j+1) x a:=by
 refine⟨fun k h1 h2 h3=>?_,h.all.trans ⟨fun g k h1 h2 h3=>?_,fun g k h1 h2 h3=>g k h1 (by omega) h3⟩⟩
 ·rcases Nat.lt_succ_iff_lt_or_eq.1 h2 with h4|rfl;·exact h.no k h1 h4 h3
  ·omega
 ·rcases Nat.lt_succ_iff_lt_or_eq.1 h2 with h4|rfl;·exact g k h1 h4 h3
  ·exact hv
theorem EvI.some (h:EvI W lo hi i j x a)(hij:i≤j)(hr:InR W lo hi i j)(h1:xAt x j≠1)(h0:xAt x j≠0):EvI W lo hi i (j+1) x false:=by
 refine⟨fun k a1 a2 a3=>?_,⟨(fun e=>by cases e),fun g=>absurd (g j hij (Nat.lt_succ_self _) hr) h0⟩⟩;rcases Nat.lt_succ_iff_lt_or_eq.1 a2 with h4|rfl;·exact h.no k a1 h4 a3
 ·exact h1
theorem EvI.found (h1:i≤j)(h2:j<W.length)(hr:InR W lo hi i j)(hv:xAt x j=1):evK W mark lo hi i x=1:=evK_one ⟨j,h1,h2,hr,hv⟩
theorem EvI.end_ (hW:Ay W)(h:EvI W lo hi i j x a)(he:j=W.length∨hi<tAt W j-tAt W i)(hj:j≤W.length):
 evK W mark lo hi i x=if(a&&shutB (tAt W i) lo (min hi (AO-tAt W i)) mark)=true then 0 else 2:=by
 have hno:¬EvY W lo hi i x:=fun⟨k,a1,a2,a3,a4⟩=>h.no k a1 (Cv hW he a2 a3) a3 a4;have hall:a=true↔∀k,i≤k→k<W.length→InR W lo hi i k→xAt x k=0:=h.all.trans ⟨fun g k h1 h2 h3=>g k h1 (Cv hW he h2 h3) h3,fun g k h1 h2 h3=>g k h1 (by omega) h3⟩
 have hN:(a&&shutB (tAt W i) lo (min hi (AO-tAt W i)) mark)=true↔EvN W mark lo hi i x:=by
  rw[Bool.and_eq_true,A9,hall];rfl
 rcases evK_eq W mark lo hi i x with⟨h1,_⟩|⟨_,h1,h2⟩|⟨_,h1,h2⟩;·exact absurd h1 hno
 ·rw[if_pos (hN.2 h1),h2]
 ·rw[if_neg (fun e=>h1 (hN.1 e)),h2]
structure UnI (W:List Pt) (mark lo hi:Int) (i j r:Nat) (x y:List Int) (b a:Bool):Prop where
 st:∀k,i≤k→k<j→xAt x k≠0
 bef:b=true↔∀k,i≤k→k<j→xAt x k=1
 no:∀k,i≤k→k<r→InR W lo hi i k→xAt y k=1→(∀s,i≤s→s<k→xAt x s=1)→(k=i∨tAt W k-1≤mark)→False
 all:a=true↔∀k,i≤k→k<r→InR W lo hi i k→xAt y k=0
theorem UnI.zero:UnI W mark lo hi i i i x y true true:=⟨fun k h1 h2=>absurd h2 (by omega),⟨fun _ k h1 h2=>absurd h2 (by omega),fun _=>rfl⟩,fun k h1 h2=>absurd h2 (by omega),⟨fun _ k h1 h2=>absurd h2 (by omega),fun _=>rfl⟩⟩
theorem UnI.skip (h:UnI W mark lo hi i j j x y b a)(hn:¬InR W lo hi i j):UnI W mark lo hi i j (j+1) x y b a:=by
 refine⟨h.st,h.bef,fun k h1 h2 h3=>?_,h.all.trans ⟨fun g k h1 h2 h3=>?_,fun g k h1 h2 h3=>g k h1 (by omega) h3⟩⟩
 ·rcases Nat.lt_succ_iff_lt_or_eq.1 h2 with h4|rfl;·exact h.no k h1 h4 h3
  ·exact absurd h3 hn
 ·rcases Nat.lt_succ_iff_lt_or_eq.1 h2 with h4|rfl;·exact g k h1 h4 h3
  ·exact absurd h3 hn
theorem UnI.found (h:UnI W mark lo hi i j j x y b a)(h1:i≤j)(h2:j<W.length)(hr:InR W lo hi i j)(hv:xAt y j=1)(hb:b=true)(hm:j=i∨tAt W j-1≤mark):unK W mark lo hi i x y=1:=unK_one ⟨j,h1,h2,hr,hv,h.bef.1 hb,hm⟩
theorem UnI.pass (h:UnI W mark lo hi i j j x y b a)(hij:i≤j)(hr:InR W lo hi i j)(hn:¬(xAt y j=1∧b=true∧(j=i∨tAt W j-1≤mark))):UnI W mark lo hi i j (j+1) x y b (a&&decide (xAt y j=0)):=by
 refine⟨h.st,h.bef,fun k h1 h2 h3 h4 h5 h6=>?_,?_⟩
 ·rcases Nat.lt_succ_iff_lt_or_eq.1 h2 with h7|rfl;·exact h.no k h1 h7 h3 h4 h5 h6
  ·exact hn ⟨h4,h.bef.2 h5,h6⟩
 ·rw[Bool.and_eq_true,decide_eq_true_eq,h.all];constructor
  ·rintro⟨g,g2⟩ k h1 h2 h3;rcases Nat.lt_succ_iff_lt_or_eq.1 h2 with h7|rfl;·exact g k h1 h7 h3
   ·exact g2
  ·exact fun g=>⟨fun k h1 h2 h3=>g k h1 (by omega) h3,g j hij (Nat.lt_succ_self _) hr⟩
theorem UnI.next (h:UnI W mark lo hi i j (j+1) x y b a)(hij:i≤j)(hx:xAt x j≠0):UnI W mark lo hi i (j+1) (j+1) x y (b&&decide (xAt x j=1)) a:=by
 refine⟨fun k h1 h2=>?_,?_,h.no,h.all⟩
 ·rcases Nat.lt_succ_iff_lt_or_eq.1 h2 with h7|rfl;·exact h.st k h1 h7
  ·exact hx
 ·rw[Bool.and_eq_true,decide_eq_true_eq,h.bef];constructor
  ·rintro⟨g,g2⟩ k h1 h2;rcases Nat.lt_succ_iff_lt_or_eq.1 h2 with h7|rfl;·exact g k h1 h7
   ·exact g2
  ·exact fun g=>⟨fun k h1 h2=>g k h1 (by omega),g j hij (Nat.lt_succ_self _)⟩
theorem un_end1 (hW:Ay W)(hst:∀k,i≤k→k<j→xAt x k≠0)(hall:a=true↔∀k,i≤k→k<j→InR W lo hi i k→xAt y k=0)(he:j=W.length∨hi<tAt W j-tAt W i)(hj:j≤W.length)(_hij:i≤j)(hno:¬UnY W mark lo hi i x y):
 unK W mark lo hi i x y=if(a&&shutB (tAt W i) lo (min hi (AO-tAt W i)) mark)=true then 0 else 2:=by
 have hfar:Fb W hi i x=min hi (AO-tAt W i):=by
  have h1:=GD hW hi i x
  have h2:=(Ez hW (hi:=hi) (v:=min hi (AO-tAt W i)) (i:=i) (x:=x)).2 ⟨by omega,by omega,fun s a1 a2 a3=>by
   rcases Nat.lt_or_ge s j with h|h;·exact absurd a3 (hst s a1 h)
   ·rcases he with he|he;·omega
    ·have:=hW.le h a2;omega⟩;omega
 have hall':a=true↔∀k,i≤k→k<W.length→InR W lo hi i k→(∀s,i≤s→s<k→xAt x s≠0)→xAt y k=0:=
  hall.trans ⟨fun g k h1 h2 h3 _=>g k h1 (Cv hW he h2 h3) h3,fun g k h1 h2 h3=>g k h1 (by omega) h3 (fun s a1 a2=>hst s a1 (by omega))⟩
 have hN:(a&&shutB (tAt W i) lo (min hi (AO-tAt W i)) mark)=true↔UnN W mark lo hi i x y:=by
  rw[Bool.and_eq_true,A9,hall',←hfar];rfl
 rcases GH W mark lo hi i x y with⟨h1,_⟩|⟨_,h1,h2⟩|⟨_,h1,h2⟩;·exact absurd h1 hno
 ·rw[if_pos (hN.2 h1),h2]
 ·rw[if_neg (fun e=>h1 (hN.1 e)),h2]
theorem un_end2 (hW:Ay W)(hst:∀k,i≤k→k<j→xAt x k≠0)(hall:a=true↔∀k,i≤k→k<j+1→InR W lo hi i k→xAt y k=0)(hij:i≤j)(hj:j<W.length)(hx:xAt x j=0)(hno:¬UnY W mark lo hi i x y):
 unK W mark lo hi i x y=if(a&&shutB (tAt W i) lo (min (min hi (AO-tAt W i)) (tAt W j-1-tAt W i)) mark)=true then 0 else 2:=by
 have hfar:Fb W hi i x=min (min hi (AO-tAt W i)) (tAt W j-1-tAt W i):=by
  have h1:=GD hW hi i x;have h3:=h1.2.2 j hij hj hx
  have h2:=(Ez hW (hi:=hi) (v:=min (min hi (AO-tAt W i)) (tAt W j-1-tAt W i)) (i:=i) (x:=x)).2 ⟨by omega,by omega,fun s a1 a2 a3=>by
   rcases Nat.lt_or_ge s j with h|h;·exact absurd a3 (hst s a1 h)
   ·have:=hW.le h a2;omega⟩;omega
 have hall':a=true↔∀k,i≤k→k<W.length→InR W lo hi i k→(∀s,i≤s→s<k→xAt x s≠0)→xAt y k=0:=
  hall.trans ⟨fun g k h1 h2 h3 h4=>g k h1 (by
   rcases Nat.lt_or_ge k (j+1) with h|h;·exact h
   ·exact absurd hx (h4 j hij (by omega))) h3,fun g k h1 h2 h3=>g k h1 (by omega) h3 (fun s a1 a2=>hst s a1 (by omega))⟩
 have hN:(a&&shutB (tAt W i) lo (min (min hi (AO-tAt W i)) (tAt W j-1-tAt W i)) mark)=true↔UnN W mark lo hi i x y:=by
  rw[Bool.and_eq_true,A9,hall',←hfar];rfl
 rcases GH W mark lo hi i x y with⟨h1,_⟩|⟨_,h1,h2⟩|⟨_,h1,h2⟩;·exact absurd h1 hno
 ·rw[if_pos (hN.2 h1),h2]
 ·rw[if_neg (fun e=>h1 (hN.1 e)),h2]
theorem UnI.end1 (hW:Ay W)(h:UnI W mark lo hi i j j x y b a)(he:j=W.length∨hi<tAt W j-tAt W i)(hj:j≤W.length)(hij:i≤j):
 unK W mark lo hi i x y=if(a&&shutB (tAt W i) lo (min hi (AO-tAt W i)) mark)=true then 0 else 2:=
 un_end1 hW h.st h.all he hj hij fun⟨k,a1,a2,a3,a4,a5,a6⟩=>h.no k a1 (Cv hW he a2 a3) a3 a4 a5 a6
theorem UnI.end2 (hW:Ay W)(h:UnI W mark lo hi i j (j+1) x y b a)(hij:i≤j)(hj:j<W.length)(hx:xAt x j=0):
 unK W mark lo hi i x y=if(a&&shutB (tAt W i) lo (min (min hi (AO-tAt W i)) (tAt W j-1-tAt W i)) mark)=true then 0 else 2:=
 un_end2 hW h.st h.all hij hj hx fun⟨k,a1,a2,a3,a4,a5,a6⟩=>by
  rcases Nat.lt_or_ge k (j+1) with h1|h1;·exact h.no k a1 h1 a3 a4 a5 a6
  ·have:=a5 j hij (by omega);omega
end
section
variable {W:List Pt} {lo hi:Int} {i j:Nat} {x y:List Bool} {v:Bool}
theorem some_yes (h1:i≤j)(h2:j<W.length)(hr:InR W lo hi i j)(hv:bAt x j=v):someB W lo hi i x v=true:=EE.2 ⟨j,h1,h2,hr,hv⟩
theorem some_no (hW:Ay W)(h:∀k,i≤k→k<j→InR W lo hi i k→bAt x k≠v)(he:j=W.length∨hi<tAt W j-tAt W i):someB W lo hi i x v=false:=by
 rw[←Bool.not_eq_true,EE];rintro ⟨k,a1,a2,a3,a4⟩;exact h k a1 (Cv hW he a2 a3) a3 a4
theorem unt_yes (h1:i≤j)(h2:j<W.length)(hr:InR W lo hi i j)(hv:bAt y j=true)(hx:∀k,i≤k→k<j→bAt x k=true):untB W lo hi i x y=true:=Du.2 ⟨j,h1,h2,hr,hv,hx⟩
theorem unt_no (hW:Ay W)(h:∀k,i≤k→k<j→InR W lo hi i k→bAt y k=false)(he:j=W.length∨hi<tAt W j-tAt W i):untB W lo hi i x y=false:=by
 rw[←Bool.not_eq_true,Du];rintro ⟨k,a1,a2,a3,a4,_⟩;rw [h k a1 (Cv hW he a2 a3) a3] at a4;cases a4
theorem unt_stop (h:∀k,i≤k→k<j+1→InR W lo hi i k→bAt y k=false)(hij:i≤j)(hx:bAt x j=false):untB W lo hi i x y=false:=by
 rw[←Bool.not_eq_true,Du];rintro ⟨k,a1,a2,a3,a4,a5⟩;rcases Nat.lt_or_ge k (j+1) with h1|h1;·rw[h k a1 h1 a3] at a4;cases a4
 ·rw[a5 j hij (by omega)] at hx;cases hx
theorem rel_no (h1:i≤j)(h2:j<W.length)(hr:InR W lo hi i j)(hv:bAt y j=false)(hx:∀k,i≤k→k<j→bAt x k=false):relB W lo hi i x y=false:=by
 rw[←Bool.not_eq_true,Dz];intro h;rcases h j h1 h2 hr with h|⟨k,a1,a2,a3⟩;·rw[hv] at h;cases h
 ·rw[hx k a1 a2] at a3;cases a3
theorem rel_end (hW:Ay W)(h:∀k,i≤k→k<j→InR W lo hi i k→bAt y k=true)(he:j=W.length∨hi<tAt W j-tAt W i):relB W lo hi i x y=true:=
 Dz.2 fun k a1 a2 a3=>.inl (h k a1 (Cv hW he a2 a3) a3)
theorem rel_stop (h:∀k,i≤k→k<j+1→InR W lo hi i k→bAt y k=true)(hij:i≤j)(hx:bAt x j=true):relB W lo hi i x y=true:=
 Dz.2 fun k a1 a2 a3=>by
  rcases Nat.lt_or_ge k (j+1) with h1|h1;·exact .inl (h k a1 h1 a3)
  ·exact .inr ⟨j,hij,by omega,hx⟩
theorem BF {P:Nat→Prop}(h:∀k,i≤k→k<j→P k)(hj:P j):∀k,i≤k→k<j+1→P k:=fun k h1 h2=>by
 rcases Nat.lt_succ_iff_lt_or_eq.1 h2 with h3|rfl;·exact h k h1 h3
 ·exact hj
end
def WN (n:Nd):Prop:=(n.op≠3→n.name.toList=[]∧n.cmp=0∧n.val=0)∧(n.op<9→n.lo=0∧n.hi=0)∧(0≤n.cmp∧n.cmp≤6∧(n.cmp=0→n.val=0))∧(n.op=3→nmOk n.name=true)∧Cd n.lo n.hi=true
theorem wn_of {n:Nd}{k:Nat}(h:wrongN n k=0):WN n:=by
 unfold wrongN at h;repeat' split at h
 all_goals first|(exfalso;omega)|skip
 rename_i h1 h2 h3 h4 h5 h6
 have hs:Cd n.lo n.hi=true:=by
  by_cases h9:9≤n.op
  ·have:¬Cd n.lo n.hi=false:=fun e=>h6 ⟨h9,e⟩;simpa using this
  ·have h0:n.lo=0∧n.hi=0:=by omega
   rw[h0.1,h0.2];rfl
 refine⟨fun e=>?_,by omega,by omega,fun e=>?_,hs⟩
 ·by_cases hn:n.name.toList=[];·exact⟨hn,by omega,by omega⟩
  ·exact absurd ⟨e,.inl hn⟩ h2
 ·have:¬nmOk n.name=false:=fun e2=>h5 ⟨e,e2⟩;simpa using this
theorem wn_wrong {n:Nd}{k:Nat}(h:WN n)(hc:Bz n.op k):wrongN n k=0:=by
 obtain⟨h1,h2,h3,h4,h5⟩:=h
 have hk:1≤n.op∧n.op≤12∧k=Aq n.op:=by
  unfold Bz at hc;unfold Aq;refine ⟨by omega,by omega,?_⟩;repeat' split
  all_goals omega
 unfold wrongN;rw [if_neg (by omega),if_neg,if_neg (fun e=>by have:=h2 e.1;omega),if_neg (by omega),if_neg,if_neg];·rintro⟨_,e⟩;rw[h5] at e;cases e
 ·rintro⟨e1,e⟩;rw[h4 e1] at e;cases e
 ·rintro⟨e1,e|e⟩;·exact e (h1 e1).1
  ·have:=h1 e1;omega
theorem nil_list:(⟨#[]⟩:ByteArray).toList=[]:=by decide+kernel
theorem wn_mk0 (op:Int)(h:op≠3):WN (nd0 op 0 0):=⟨fun _=>⟨nil_list,rfl,rfl⟩,fun _=>⟨rfl,rfl⟩,⟨Int.le_refl _,(by decide:(0:Int)≤6),fun _=>rfl⟩,fun e=>absurd e h,rfl⟩
theorem wn_nd {n:Nd}(h:WN n)(op:Int)(h9:9≤op):WN (nd0 op n.lo n.hi):=⟨fun _=>⟨nil_list,rfl,rfl⟩,fun e=>absurd e (by show¬op<9;omega),⟨Int.le_refl _,(by decide:(0:Int)≤6),fun _=>rfl⟩,fun e=>absurd e (by show¬op=3;omega),h.2.2.2.2⟩
theorem wn_cut {n:Nd}(h:WN n):WN ⟨n.op,n.name,n.cmp,n.val,0,0⟩:=⟨h.1,fun _=>⟨rfl,rfl⟩,h.2.2.1,h.2.2.2.1,rfl⟩
theorem good_wn:∀{t:Tr},t.good→t.allN WN
 |.nil,_=>trivial
 |.cons _ _ _,⟨h1,h2,h3⟩=>⟨wn_of h1,good_wn h2,good_wn h3⟩
theorem wn_good:∀{t:Tr},t.allN WN→t.core→t.good
 |.nil,_,_=>trivial
 |.cons _ _ _,⟨h1,h2,h3⟩,⟨c1,c2,c3⟩=>⟨wn_wrong h1 c1,wn_good h2 c2,wn_good h3 c3⟩
theorem made_sound {n:Nd}{k:Tr}(h1:wrongN n k.len=0)(h2:k.good):wrongN (madeS n k).1 (madeS n k).2.len=0∧(madeS n k).2.good:=by
 have hw:=all_madeS wn_mk0 (fun n h=>⟨wn_cut h,wn_nd h 9 (by decide),wn_nd h 11 (by decide)⟩) (wn_of h1) (good_wn h2);have hc:=(Cy h1 h2).1;exact ⟨wn_wrong hw.1 hc.1,wn_good hw.2 hc.2⟩
end Go.Proofs.YtoegdmpmagbaiaaGreatDoor
