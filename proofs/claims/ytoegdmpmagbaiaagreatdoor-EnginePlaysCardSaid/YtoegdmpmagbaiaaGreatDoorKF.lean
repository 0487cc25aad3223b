/- Formulas of fewer kinds of nodes, in plain words. -/
import Derived.Test.YtoegdmpmagbaiaaGreatDoorKE
import Derived.Deep.DeepCutAuto
import Derived.Shelf.SlSortCmp.KitK
set_option maxHeartbeats 16000000
set_option maxRecDepth 100000
namespace Go.Proofs.YtoegdmpmagbaiaaGreatDoor
open Go.RowKit
abbrev S1:=Nd×Tr
def nd0 (op lo hi:Int):Nd:=⟨op,⟨#[]⟩,0,0,lo,hi⟩
def mk0 (op:Int):S1:=(nd0 op 0 0,.nil)
def mk1 (op lo hi:Int)(x:S1):S1:=(nd0 op lo hi,.cons x.1 x.2 .nil)
def mk2 (op lo hi:Int)(x y:S1):S1:=(nd0 op lo hi,.cons x.1 x.2 (.cons y.1 y.2 .nil))
def Tr.list:Tr→List S1
 |.nil=>[]
 |.cons x k r=>(x,k)::r.list
theorem Tr.list_len (t:Tr):t.list.length=t.len:=by
 induction t with
 |nil=>rfl
 |cons x k r _ ih=>simp[Tr.list,Tr.len,ih]
def kidS (x:S1)(i:Nat):S1:=x.2.list.getD i (mk0 0)
def notS (x:S1):S1:=if x.1.op=1 then mk0 2 else if x.1.op=2 then mk0 1 else if x.1.op=4 then kidS x 0 else mk1 4 0 0 x
def CX (x y:S1):Bool:=same1 x.1 x.2 y.1 y.2
theorem EF (x y:S1):CX x y=true↔x=y:=by
 unfold CX;rw [EH];exact ⟨fun h=>Prod.ext h.1 h.2,fun h=>by rw[h];exact⟨rfl,rfl⟩⟩
def andS (x y:S1):S1:=if x.1.op=2∨y.1.op=2 then mk0 2 else if x.1.op=1 then y else if y.1.op=1∨CX x y=true then x else mk2 5 0 0 x y
def iffS (x y:S1):S1:=if CX x y=true then mk0 1 else if x.1.op=1 then y else if y.1.op=1 then x else if x.1.op=2 then notS y else if y.1.op=2 then notS x else mk2 8 0 0 x y
def evS (lo hi:Int)(x:S1):S1:=if x.1.op=2 then mk0 2 else if x.1.op=1∧lo=0 then mk0 1 else mk1 9 lo hi x
def unS (lo hi:Int)(x y:S1):S1:=if y.1.op=2 then mk0 2 else if x.1.op=2 then(if lo=0 then y else mk0 2) else if x.1.op=1 then evS lo hi y else if y.1.op=1∧lo=0 then mk0 1 else mk2 11 lo hi x y
def BC (n:Nd)(x y:S1):S1:=
 if n.op≤3 then(⟨n.op,n.name,n.cmp,n.val,0,0⟩,.nil)
 else if n.op=4 then notS x
 else if n.op=5 then andS x y
 else if n.op=6 then notS (andS (notS x) (notS y))
 else if n.op=7 then notS (andS x (notS y))
 else if n.op=8 then iffS x y
 else if n.op=9 then evS n.lo n.hi x
 else if n.op=10 then notS (evS n.lo n.hi (notS x))
 else if n.op=11 then unS n.lo n.hi x y
 else notS (unS n.lo n.hi (notS x) (notS y))
def Bb:Tr→List S1
 |.nil=>[]
 |.cons n k r=>BC n ((Bb k).getD 0 (mk0 0)) ((Bb k).getD 1 (mk0 0))::Bb r
def madeS (n:Nd)(k:Tr):S1:=BC n ((Bb k).getD 0 (mk0 0)) ((Bb k).getD 1 (mk0 0))
theorem FV (t:Tr):(Bb t).length=t.len:=by
 induction t with
 |nil=>rfl
 |cons x k r _ ih=>simp[Bb,Tr.len,ih]
def szS (x:S1):Nat:=x.2.size+1
theorem kidS_sz {x:S1}{i:Nat}(h:i<x.2.len):szS (kidS x i)+1≤szS x:=by
 obtain⟨n,t⟩:=x
 have:∀(t:Tr) (i:Nat),i<t.len→szS (t.list.getD i (mk0 0))≤t.size:=by
  intro t
  induction t with
  |nil=>intro i h;simp[Tr.len] at h
  |cons x k r _ ih=>
   intro i h
   cases i with
   |zero=>simp only[Tr.list,List.getD_cons_zero,szS,Tr.size];omega
   |succ i=>have:=ih i (by simpa[Tr.len] using h);simp only[Tr.list,List.getD_cons_succ,Tr.size];omega
 have h2:=this t i h;show szS (t.list.getD i (mk0 0))+1≤t.size+1;omega
def Bz (op:Int)(n:Nat):Prop:=(op=1∧n=0)∨(op=2∧n=0)∨(op=3∧n=0)∨(op=4∧n=1)∨(op=5∧n=2)∨(op=8∧n=2)∨(op=9∧n=1)∨(op=11∧n=2)
def Tr.core:Tr→Prop
 |.nil=>True
 |.cons x k r=>Bz x.op k.len∧k.core∧r.core
def AR (x:S1):Prop:=Bz x.1.op x.2.len∧x.2.core
theorem coreS_kid {x:S1}{i:Nat}(h:AR x)(hi:i<x.2.len):AR (kidS x i):=by
 obtain⟨n,t⟩:=x
 have:∀(t:Tr) (i:Nat),i<t.len→t.core→AR (t.list.getD i (mk0 0)):=by
  intro t
  induction t with
  |nil=>intro i h;simp[Tr.len] at h
  |cons x k r _ ih=>
   intro i h hc
   cases i with
   |zero=>exact⟨hc.1,hc.2.1⟩
   |succ i=>simpa[Tr.list] using ih i (by simpa[Tr.len] using h) hc.2.2
 exact this t i hi h.2
theorem CT {op:Int}(h:op=1∨op=2):AR (mk0 op):=by
 rcases h with rfl|rfl<;>exact⟨by simp[Bz,mk0,nd0,Tr.len],trivial⟩
theorem AZ {x:S1}(h:AR x):AR (notS x):=by
 unfold notS;split;·exact CT (.inr rfl)
 ·split;·exact CT (.inl rfl)
  ·split
   ·refine coreS_kid h ?_;have:=h.1;unfold Bz at this;omega
   ·exact⟨by unfold Bz mk1 nd0;simp[Tr.len],h.1,h.2,trivial⟩
theorem CU {x y:S1}(h:AR x)(k:AR y):AR (andS x y):=by
 unfold andS;split;·exact CT (.inr rfl)
 ·split;·exact k
  ·split;·exact h
   ·exact⟨by unfold Bz mk2 nd0;simp[Tr.len],h.1,h.2,k.1,k.2,trivial⟩
theorem core_iff {x y:S1}(h:AR x)(k:AR y):AR (iffS x y):=by
 unfold iffS;split;·exact CT (.inl rfl)
 ·split;·exact k
  ·split;·exact h
   ·split;·exact AZ k
    ·split;·exact AZ h
     ·exact⟨by unfold Bz mk2 nd0;simp[Tr.len],h.1,h.2,k.1,k.2,trivial⟩
theorem EV {lo hi:Int}{x:S1}(h:AR x):AR (evS lo hi x):=by
 unfold evS;split;·exact CT (.inr rfl)
 ·split;·exact CT (.inl rfl)
  ·exact⟨by unfold Bz mk1 nd0;simp[Tr.len],h.1,h.2,trivial⟩
theorem FC {lo hi:Int}{x y:S1}(h:AR x)(k:AR y):AR (unS lo hi x y):=by
 unfold unS;split;·exact CT (.inr rfl)
 ·split
  ·split;·exact k
   ·exact CT (.inr rfl)
  ·split;·exact EV k
   ·split;·exact CT (.inl rfl)
    ·exact⟨by unfold Bz mk2 nd0;simp[Tr.len],h.1,h.2,k.1,k.2,trivial⟩
theorem core_bec {n:Nd}{x y:S1}(h1:1≤n.op)(hx:4≤n.op→AR x)(hy:4≤n.op→n.op≠4→n.op≠9→n.op≠10→AR y):AR (BC n x y):=by
 unfold BC;by_cases h3:n.op≤3
 ·rw[if_pos h3];have h4:n.op=1∨n.op=2∨n.op=3:=by omega
  rcases h4 with h|h|h<;>exact⟨by simp[Bz,Tr.len,h],trivial⟩
 ·rw[if_neg h3];have hx:=hx (by omega);have hy:=hy (by omega);split;·exact AZ hx
  ·split;·exact CU hx (hy (by omega) (by omega) (by omega))
   ·split;·exact AZ (CU (AZ hx) (AZ (hy (by omega) (by omega) (by omega))))
    ·split;·exact AZ (CU hx (AZ (hy (by omega) (by omega) (by omega))))
     ·split;·exact core_iff hx (hy (by omega) (by omega) (by omega))
      ·split;·exact EV hx
       ·split;·exact AZ (EV (AZ hx))
        ·split;·exact FC hx (hy (by omega) (by omega) (by omega))
         ·exact AZ (FC (AZ hx) (AZ (hy (by omega) (by omega) (by omega))))
theorem CY {x:S1}(h:AR x):szS (notS x)≤szS x+1:=by
 unfold notS;split;·simp[szS,mk0,Tr.size]
 ·split;·simp[szS,mk0,Tr.size]
  ·split
   ·have h1:0<x.2.len:=by have:=h.1;unfold Bz at this;omega
    have:=kidS_sz (x:=x) (i:=0) h1;omega
   ·simp[szS,mk1,Tr.size]
theorem sz_and {x y:S1}:szS (andS x y)≤szS x+szS y+1:=by
 unfold andS;split;·simp[szS,mk0,Tr.size]
 ·split;·omega
  ·split;·omega
   ·simp only[szS,mk2,Tr.size];omega
theorem sz_iff {x y:S1}(h:AR x)(k:AR y):szS (iffS x y)≤szS x+szS y+1:=by
 unfold iffS;split;·simp[szS,mk0,Tr.size]
 ·split;·omega
  ·split;·omega
   ·split;·have:=CY k;omega
    ·split;·have:=CY h;omega
     ·simp only[szS,mk2,Tr.size];omega
theorem sz_ev {lo hi:Int}{x:S1}:szS (evS lo hi x)≤szS x+1:=by
 unfold evS;split;·simp[szS,mk0,Tr.size]
 ·split;·simp[szS,mk0,Tr.size]
  ·simp[szS,mk1,Tr.size]
theorem sz_un {lo hi:Int}{x y:S1}:szS (unS lo hi x y)≤szS x+szS y+1:=by
 unfold unS;split;·simp[szS,mk0,Tr.size]
 ·split
  ·split;·omega
   ·simp[szS,mk0,Tr.size]
  ·split;·have:=sz_ev (lo:=lo) (hi:=hi) (x:=y);omega
   ·split;·simp[szS,mk0,Tr.size]
    ·simp only[szS,mk2,Tr.size];omega
def Ei (l:List S1):Nat:=(l.map szS).sum
theorem sum_get {l:List S1}{i:Nat}(h:i<l.length):szS (l.getD i (mk0 0))≤Ei l:=by
 induction l generalizing i with
 |nil=>simp at h
 |cons x l ih=>
  cases i with
  |zero=>simp[Ei]
  |succ i=>have:=ih (i:=i) (by simpa using h);simp[Ei] at this ⊢;omega
theorem sum_two {l:List S1}(h:l.length=2):szS (l.getD 0 (mk0 0))+szS (l.getD 1 (mk0 0))≤Ei l:=by
 rcases l with _|⟨x,_|⟨y,_|⟨z,l⟩⟩⟩;·simp at h
 ·simp at h
 ·simp[Ei]
 ·simp at h
theorem sz_bec {n:Nd}{l:List S1}(h1:1≤n.op)(h12:n.op≤12)(hl:l.length=Aq n.op)(hc:∀s∈l,AR s):szS (BC n (l.getD 0 (mk0 0)) (l.getD 1 (mk0 0)))≤Ei l+4∧AR (BC n (l.getD 0 (mk0 0)) (l.getD 1 (mk0 0))):=by
 have g0:0<l.length→AR (l.getD 0 (mk0 0)):=fun h=>by rw[List.getD_eq_getElem?_getD,List.getElem?_eq_getElem h];exact hc _ (List.getElem_mem h)
 have g1:1<l.length→AR (l.getD 1 (mk0 0)):=fun h=>by rw[List.getD_eq_getElem?_getD,List.getElem?_eq_getElem h];exact hc _ (List.getElem_mem h)
 have k0:0<l.length→szS (l.getD 0 (mk0 0))≤Ei l:=fun h=>sum_get h;have k2:l.length=2→szS (l.getD 0 (mk0 0))+szS (l.getD 1 (mk0 0))≤Ei l:=fun h=>sum_two h
 have hk:(n.op≤3→l.length=0)∧((n.op=4∨n.op=9∨n.op=10)→l.length=1)∧(¬n.op≤3→¬(n.op=4∨n.op=9∨n.op=10)→l.length=2):=by
  rw[hl];unfold Aq;refine ⟨fun h=>by rw[if_pos h],fun h=>by rw[if_neg (by omega),if_pos h],fun h h'=>by rw[if_neg h,if_neg h']⟩
 obtain⟨e0,e1,e2⟩:=hk;generalize l.getD 0 (mk0 0)=x at*;generalize l.getD 1 (mk0 0)=y at*;refine ⟨?_,core_bec h1 (fun h=>g0 ?_) (fun h a b c=>g1 ?_)⟩
 ·unfold BC;by_cases h3:n.op≤3;·rw[if_pos h3];simp[szS,Tr.size]
  ·rw[if_neg h3];by_cases hone:n.op=4∨n.op=9∨n.op=10
   ·have hl1:=e1 hone;have hx:=g0 (by omega);have kx:=k0 (by omega);rcases hone with h|h|h;·rw[if_pos h];have:=CY hx;omega
    ·rw[if_neg (by omega),if_neg (by omega),if_neg (by omega),if_neg (by omega),if_neg (by omega),if_pos h];have:=sz_ev (lo:=n.lo) (hi:=n.hi) (x:=x);omega
    ·rw[if_neg (by omega),if_neg (by omega),if_neg (by omega),if_neg (by omega),if_neg (by omega),if_neg (by omega),if_pos h];have a1:=CY hx;have a2:=sz_ev (lo:=n.lo) (hi:=n.hi) (x:=notS x);have a3:=CY (EV (lo:=n.lo) (hi:=n.hi) (AZ hx));omega
   ·have hl2:=e2 h3 hone;have hx:=g0 (by omega);have hy:=g1 (by omega);have kxy:=k2 hl2;have a1:=CY hx;have a2:=CY hy;split;·omega
    ·split;·have:=sz_and (x:=x) (y:=y);omega
     ·split
      ·have b1:=sz_and (x:=notS x) (y:=notS y);have b2:=CY (CU (AZ hx) (AZ hy));omega
      ·split
       ·have b1:=sz_and (x:=x) (y:=notS y);have b2:=CY (CU hx (AZ hy));omega
       ·split;·have:=sz_iff hx hy;omega
        ·split;·omega
         ·split;·omega
          ·split;·have:=sz_un (lo:=n.lo) (hi:=n.hi) (x:=x) (y:=y);omega
           ·have b1:=sz_un (lo:=n.lo) (hi:=n.hi) (x:=notS x) (y:=notS y);have b2:=CY (FC (lo:=n.lo) (hi:=n.hi) (AZ hx) (AZ hy));omega
 ·by_cases hone:n.op=4∨n.op=9∨n.op=10;·have:=e1 hone;omega
  ·have:=e2 (by omega) hone;omega
 ·have:=e2 (by omega) (by omega);omega
theorem CZ:∀{t:Tr},t.good→(∀s∈Bb t,AR s)∧Ei (Bb t)≤4*t.size
 |.nil,_=>⟨(fun s h=>by cases h),by simp[Bb,Ei]⟩
 |.cons x k r,⟨h1,h2,h3⟩=>by
  obtain⟨k1,k2⟩:=CZ h2;obtain ⟨r1,r2⟩:=CZ h3;obtain ⟨o1,o2,o3⟩:=Co h1;obtain ⟨b1,b2⟩:=sz_bec o1 o2 (by rw[FV];exact o3) k1;refine ⟨fun s hs=>?_,?_⟩
  ·rw[Bb,List.mem_cons] at hs;rcases hs with rfl|hs;·exact b2
   ·exact r1 s hs
  ·have e:Ei (Bb (.cons x k r))=szS (BC x ((Bb k).getD 0 (mk0 0)) ((Bb k).getD 1 (mk0 0)))+Ei (Bb r):=by simp[Bb,Ei]
   rw[e];simp only[Tr.size];omega
theorem Cy {x:Nd}{k:Tr}(h1:wrongN x k.len=0)(h2:k.good):AR (madeS x k)∧szS (madeS x k)≤4*(k.size+1):=by
 obtain⟨k1,k2⟩:=CZ h2;obtain ⟨o1,o2,o3⟩:=Co h1;obtain ⟨b1,b2⟩:=sz_bec o1 o2 (by rw[FV];exact o3) k1;exact ⟨b2,by unfold madeS;omega⟩
def Tr.allN (Q:Nd→Prop):Tr→Prop
 |.nil=>True
 |.cons x k r=>Q x∧k.allN Q∧r.allN Q
def BU (Q:Nd→Prop)(x:S1):Prop:=Q x.1∧x.2.allN Q
section
variable {Q:Nd→Prop} (h0:∀op,op≠3→Q (nd0 op 0 0))
include h0
theorem CV (op:Int)(h3:op≠3):BU Q (mk0 op):=⟨h0 op h3,trivial⟩
theorem all_kid {x:S1}(h:BU Q x)(i:Nat):BU Q (kidS x i):=by
 obtain⟨n,t⟩:=x
 have:∀(t:Tr) (i:Nat),t.allN Q→BU Q (t.list.getD i (mk0 0)):=by
  intro t
  induction t with
  |nil=>intro i _;exact CV h0 0 (by decide)
  |cons x k r _ ih=>
   intro i hc
   cases i with
   |zero=>exact⟨hc.1,hc.2.1⟩
   |succ i=>simpa[Tr.list] using ih i hc.2.2
 exact this t i h.2
theorem B5 {x:S1}(h:BU Q x):BU Q (notS x):=by
 unfold notS;repeat' split
 ·exact CV h0 2 (by decide)
 ·exact CV h0 1 (by decide)
 ·exact all_kid h0 h 0
 ·exact⟨h0 4 (by decide),h.1,h.2,trivial⟩
theorem all_and {x y:S1}(h:BU Q x)(k:BU Q y):BU Q (andS x y):=by
 unfold andS;repeat' split
 ·exact CV h0 2 (by decide)
 ·exact k
 ·exact h
 ·exact⟨h0 5 (by decide),h.1,h.2,k.1,k.2,trivial⟩
theorem all_iff {x y:S1}(h:BU Q x)(k:BU Q y):BU Q (iffS x y):=by
 unfold iffS;repeat' split
 ·exact CV h0 1 (by decide)
 ·exact k
 ·exact h
 ·exact B5 h0 k
 ·exact B5 h0 h
 ·exact⟨h0 8 (by decide),h.1,h.2,k.1,k.2,trivial⟩
theorem all_ev {lo hi:Int}{x:S1}(hq:Q (nd0 9 lo hi))(h:BU Q x):BU Q (evS lo hi x):=by
 unfold evS;repeat' split
 ·exact CV h0 2 (by decide)
 ·exact CV h0 1 (by decide)
 ·exact⟨hq,h.1,h.2,trivial⟩
theorem all_un {lo hi:Int}{x y:S1}(hq9:Q (nd0 9 lo hi))(hq:Q (nd0 11 lo hi))(h:BU Q x)(k:BU Q y):BU Q (unS lo hi x y):=by
 unfold unS;repeat' split
 ·exact CV h0 2 (by decide)
 ·exact k
 ·exact CV h0 2 (by decide)
 ·exact all_ev h0 hq9 k
 ·exact CV h0 1 (by decide)
 ·exact⟨hq,h.1,h.2,k.1,k.2,trivial⟩
theorem all_bec {n:Nd}{x y:S1}(hn:Q ⟨n.op,n.name,n.cmp,n.val,0,0⟩)(hq9:Q (nd0 9 n.lo n.hi))(hq11:Q (nd0 11 n.lo n.hi))(hx:BU Q x)(hy:BU Q y):BU Q (BC n x y):=by
 unfold BC;repeat' split
 ·exact⟨hn,trivial⟩
 ·exact B5 h0 hx
 ·exact all_and h0 hx hy
 ·exact B5 h0 (all_and h0 (B5 h0 hx) (B5 h0 hy))
 ·exact B5 h0 (all_and h0 hx (B5 h0 hy))
 ·exact all_iff h0 hx hy
 ·exact all_ev h0 hq9 hx
 ·exact B5 h0 (all_ev h0 hq9 (B5 h0 hx))
 ·exact all_un h0 hq9 hq11 hx hy
 ·exact B5 h0 (all_un h0 hq9 hq11 (B5 h0 hx) (B5 h0 hy))
theorem EC (hQ:∀n,Q n→Q ⟨n.op,n.name,n.cmp,n.val,0,0⟩∧Q (nd0 9 n.lo n.hi)∧Q (nd0 11 n.lo n.hi)):∀{t:Tr},t.allN Q→∀i,BU Q ((Bb t).getD i (mk0 0))
 |.nil,_,i=>by simpa[Bb] using CV h0 0 (by decide)
 |.cons x k r,⟨h1,h2,h3⟩,i=>by
  cases i with
  |zero=>
   obtain⟨q1,q2,q3⟩:=hQ x h1;simpa [Bb] using all_bec h0 q1 q2 q3 (EC hQ h2 0) (EC hQ h2 1)
  |succ i=>simpa[Bb] using EC hQ h3 i
theorem all_madeS (hQ:∀n,Q n→Q ⟨n.op,n.name,n.cmp,n.val,0,0⟩∧Q (nd0 9 n.lo n.hi)∧Q (nd0 11 n.lo n.hi)){x:Nd}{k:Tr}(h1:Q x)(h2:k.allN Q):BU Q (madeS x k):=by
 obtain⟨q1,q2,q3⟩:=hQ x h1;exact all_bec h0 q1 q2 q3 (EC h0 hQ h2 0) (EC h0 hQ h2 1)
end
end Go.Proofs.YtoegdmpmagbaiaaGreatDoor
namespace Go.Proofs.YtoegdmpmagbaiaaGreatDoor
open Go.RowKit Go.Lib
def AQ (w:World)(p:Nat→Prop)(s:S1)(e:Ending)(w':World):Prop:=∃(op:Int) (nm:ByteArray) (cm va lo hi:Int) (A:Option Addr) (c:Nat) (ks:Fo),e=.returned (.agg #[.int .i64 op,.string nm,.int .i64 cm,.int .i64 va,.int .i64 lo,.int .i64 hi,.slice A ks.len c])∧((⟨op,nm,cm,va,lo,hi⟩:Nd),ks.tr)=s∧AJ (fun b=>p b∨w.heap.size≤b) w' A c ks∧Fr Nob w w'
abbrev Fs (x:Nd)(A:Option Addr)(n c:Nat):Array Value:=#[.int .i64 x.op,.string x.name,.int .i64 x.cmp,.int .i64 x.val,.int .i64 x.lo,.int .i64 x.hi,.slice A n c]
theorem AJ.fr {p:Nat→Prop}{w w':World}{A:Option Addr}{c:Nat}{ks:Fo}(h:AJ p w A c ks)(hf:Fr Nob w w'):AJ p w' A c ks:=h.keep fun k _ hlt=>hf.block k hlt (fun e=>e)
theorem Fo.AtP.imp {p q:Nat→Prop}{w:World}(hM:∀k,p k→k<w.heap.size→q k):∀{f:Fo} {b off:Nat},f.AtP p w b off→f.AtP q w b off
 |.nil,_,_,_=>trivial
 |.cons _ _ _ _ _,_,_,⟨h1,h2,h3,h4,h5,h6,h7⟩=>⟨hM _ h1 h2,h2,h3,h4,h5,fun bb oo e=>(h6 bb oo e).imp hM,h7.imp hM⟩
theorem AJ.imp {p q:Nat→Prop}{w:World}{A:Option Addr}{c:Nat}{f:Fo}(h:AJ p w A c f)(hM:∀k,p k→k<w.heap.size→q k):AJ q w A c f:=⟨h.ok,h.some_,fun bb oo e=>(h.at_ bb oo e).imp hM⟩
theorem AJ.whole {p:Nat→Prop}{w:World}{A:Option Addr}{c:Nat}{f:Fo}(h:AJ p w A c f):Au w.heap.size w A c f:=(h.imp (q:=fun k=>k<w.heap.size) fun _ _ hk=>hk).sl fun _ hk=>hk
theorem Fo.At.toP {N:Nat}{w:World}:∀{f:Fo} {b off:Nat},f.At N w b off→f.AtP (fun k=>k<N) w b off
 |.nil,_,_,_=>trivial
 |.cons _ _ _ _ _,_,_,⟨h1,h2,h3,h4,h5,h6,h7⟩=>⟨h1,h2,h3,h4,h5,fun bb oo e=>(h6 bb oo e).toP,h7.toP⟩
theorem Au.toP {N:Nat}{w:World}{A:Option Addr}{c:Nat}{f:Fo}(h:Au N w A c f):AJ (fun k=>k<N) w A c f:=⟨h.ok,h.some_,fun bb oo e=>(h.at_ bb oo e).toP⟩
theorem AJ.nil (p:Nat→Prop)(w:World):AJ p w none 0 .nil:=⟨⟨Nat.le_refl _,by simp,fun _=>rfl⟩,fun h=>absurd h (by simp[Fo.len]),fun _ _ e=>by cases e⟩
theorem AJ.one {p:Nat→Prop}{w:World}{g t:Nat}{x:Nd}{A:Option Addr}{c:Nat}{ks:Fo}(h:Blk w g t (Fs x A ks.len c))(hs:AJ p w A c ks)(hg:p g):AJ p w (some ⟨g,0,none⟩) 1 (.cons x A c ks .nil):=by
 have hl:=h.lt;refine ⟨⟨Nat.le_refl _,by decide,fun e=>by cases e⟩,fun _=>⟨g,0,rfl⟩,fun bb oo e=>?_⟩;simp only[Option.some.injEq,Addr.mk.injEq,and_true] at e;obtain ⟨rfl,rfl⟩:=e;refine ⟨hg,hl,fun j u hu=>?_,hs.ok,hs.some_,hs.at_,trivial⟩;rw [Nat.zero_add,h.cell];simpa [fcs,Fs] using hu
theorem AJ.two {p:Nat→Prop}{w:World}{g t:Nat}{x y:Nd}{A B:Option Addr}{c d:Nat}{ks js:Fo}(h:Blk w g t (Fs x A ks.len c++Fs y B js.len d))(hk:AJ p w A c ks)(hj:AJ p w B d js)(hg:p g):
 AJ p w (some ⟨g,0,none⟩) 2 (.cons x A c ks (.cons y B d js .nil)):=by
 have hl:=h.lt;refine ⟨⟨Nat.le_refl _,by decide,fun e=>by cases e⟩,fun _=>⟨g,0,rfl⟩,fun bb oo e=>?_⟩;simp only[Option.some.injEq,Addr.mk.injEq,and_true] at e;obtain ⟨rfl,rfl⟩:=e
 have hget:∀j,j<7→w.cell? ⟨g,j,none⟩=(Fs x A ks.len c)[j]?∧w.cell? ⟨g,7+j,none⟩=(Fs y B js.len d)[j]?:=fun j hj=>by
  rw[h.cell,h.cell];constructor;·rw[Array.getElem?_append_left (by simpa using hj)]
  ·rw[Array.getElem?_append_right (by simp),show(Fs x A ks.len c).size=7 from rfl,Nat.add_sub_cancel_left]
 have h7:∀(j:Nat) (u:Value) (x:Nd) (A:Option Addr) (n c:Nat),(fcs x A n c)[j]?=some u→j<7:=fun j u x A n c hu=>(List.getElem?_eq_some_iff.1 hu).1;refine ⟨hg,hl,fun j u hu=>?_,hk.ok,hk.some_,hk.at_,hg,hl,fun j u hu=>?_,hj.ok,hj.some_,hj.at_,trivial⟩
 ·rw[Nat.zero_add,(hget j (h7 _ _ _ _ _ _ hu)).1];simpa [fcs,Fs] using hu
 ·rw[Nat.zero_add,(hget j (h7 _ _ _ _ _ _ hu)).2];simpa [fcs,Fs] using hu
theorem AJ.kid {p:Nat→Prop}{w:World}{A:Option Addr}{c:Nat}{x:Nd}{B:Option Addr}{d:Nat}{js rs:Fo}(h:AJ p w A c (.cons x B d js rs)):∃b off,A=some ⟨b,off,none⟩∧b<w.heap.size∧CG w b off x B js.len d∧AJ p w B d js:=by
 obtain⟨b,off,hA⟩:=h.some_ (by simp[Fo.len]);obtain ⟨h1,h2,h3,h4,h5,h6,h7⟩:=h.at_ b off hA;exact ⟨b,off,hA,h2,CG.of h3,⟨h4,h5,h6⟩⟩
theorem AQ.put {p q:Nat→Prop}{w w1 W7:World}{g:Nat}{s:S1}{x:Nd}{A:Option Addr}{c:Nat}{ks:Fo}(he:(x,ks.tr)=s)(hs:AJ q w1 A c ks)(hq:∀k,q k→k<w1.heap.size→(p k∨w.heap.size≤k)∧k≠g)(hf:Fr Nob w w1)(hg:w.heap.size≤g)(h7:Fr (Ah g) w1 W7):
 AQ w p s (.returned (AF x A ks.len c)) W7:=by
 refine⟨x.op,x.name,x.cmp,x.val,x.lo,x.hi,A,c,ks,rfl,he,?_,hf.call h7 (fun i e hlt=>by have:i=g:=e;omega)⟩;exact ((hs.imp hq).keep fun k hk hlt=>h7.block k hlt hk.2).mono fun k hk=>hk.1
theorem Al {p:Nat→Prop}{w W0:World}{g:Nat}(hp:∀k,p k→k<w.heap.size)(hg:w.heap.size≤g)(hW:g<W0.heap.size)(k:Nat)(hk:p k∨W0.heap.size≤k):(p k∨w.heap.size≤k)∧k≠g:=by
 rcases hk with hk|hk
 ·have:=hp k hk;exact ⟨.inl hk,by omega⟩
 ·exact⟨.inr (by omega),by omega⟩
abbrev Ab:Array Value:=#[.int .i64 0,.string ⟨#[]⟩,.int .i64 0,.int .i64 0,.int .i64 0,.int .i64 0,.slice none 0 0]
theorem CS (w:World)(p:Nat→Prop)(b:Bool):Calls Tryz.prog 178 #[.bool b] w (AQ w p (mk0 (if b then 1 else 2))):=by
 cases b
 ·go_enter Tryz.func178,Tryz.ntmps178;go_wp2_with fail;refine bodyPost_ret (v:=.agg #[.int .i64 2,.string ⟨#[]⟩,.int .i64 0,.int .i64 0,.int .i64 0,.int .i64 0,.slice none 0 0]) (by simp[results,Tryz.results178,go_sem]) rfl ?_;exact ⟨2,⟨#[]⟩,0,0,0,0,none,0,.nil,rfl,rfl,AJ.nil _ _,(Fr.refl _ _).alloc _⟩
 ·go_enter Tryz.func178,Tryz.ntmps178;go_wp2_with fail;refine bodyPost_ret (v:=.agg #[.int .i64 1,.string ⟨#[]⟩,.int .i64 0,.int .i64 0,.int .i64 0,.int .i64 0,.slice none 0 0]) (by simp[results,Tryz.results178,go_sem]) rfl ?_;exact ⟨1,⟨#[]⟩,0,0,0,0,none,0,.nil,rfl,rfl,AJ.nil _ _,(Fr.refl _ _).alloc _⟩
theorem n_not (w:World)(p:Nat→Prop)(hp:∀k,p k→k<w.heap.size)(x:Nd)(A:Option Addr)(c:Nat)(ks:Fo)(hs:AJ p w A c ks)(hc:AR (x,ks.tr)):Calls Tryz.prog 167 #[AF x A ks.len c] w (AQ w p (notS (x,ks.tr))):=by
 have HS:=AA hs;have HC:=AA hc;have HN:=AA (show notS (x,ks.tr)=if x.op=1 then mk0 2 else if x.op=2 then mk0 1 else if x.op=4 then kidS (x,ks.tr) 0 else mk1 4 0 0 (x,ks.tr) from rfl);have HP:=AA hp;have HCT:=AA (fun W b=>CS W p b);clear hs hc hp;generalize notS (x,ks.tr)=sr at*;obtain ⟨op,nm,cm,va,lo,hi⟩:=x;dsimp only at HN;unfold AF;go_enter Tryz.func167,Tryz.ntmps167;go_upto_region 1 with fail;by_cases h1:op=1
 ·have HR:=AA (show sr=mk0 2 from by rw[HN.out,if_pos h1]);obtain ⟨W0,hW0⟩:∃W0,(w.alloc (.cells #[.int .i64 op,.string nm,.int .i64 cm,.int .i64 va,.int .i64 lo,.int .i64 hi,.slice A ks.len c] 28)).alloc (.cells Ab 28)=W0:=⟨_,rfl⟩;have HX0:=AA (show Blk W0 w.heap.size 28 #[.int .i64 op,.string nm,.int .i64 cm,.int .i64 va,.int .i64 lo,.int .i64 hi,.slice A ks.len c] by rw[←hW0];exact(Blk.new _ _ _).alloc _);have HZ:=AA (show Blk W0 (w.heap.size+1) 28 Ab by rw[←hW0];exact Blk.new_eq (by simp));have HF0:=AA (show Fr Nob w W0 by rw[←hW0];exact((Fr.refl _ _).alloc _).alloc _);have HW0:=AA (show w.heap.size+1<W0.heap.size from HZ.out.lt);rw [hW0];clear hW0;have xc:=HX0.out.cell;have xl:=HX0.out.lt;have rc:=HZ.out.cell;have rf:=HZ.out.frozen;have zl:=HZ.out.lt;have HC1:=AA (CS W0 p false);clear HN
  go_wp2_with (first
   |((go_at_call 178);(with_reducible refine(HC1.out).mono ?_);rintro e w1 ⟨o1,n1,m1,v1,l1,i1,A1,c1,k1,rfl,he,hs1,hf1⟩;have HE:=AA he;have HS1:=AA hs1;have HFR:=AA hf1;have HZ1:=AA (HZ.out.fr hf1 (fun e=>e));have rc1:=HZ1.out.cell;have rf1:=HZ1.out.frozen;have zl1:=HZ1.out.lt;clear he hs1 hf1 rc rf zl)
   |fail);have HB7:=AA (Br HZ1.out (.int .i64 o1) (.string n1) (.int .i64 m1) (.int .i64 v1) (.int .i64 l1) (.int .i64 i1) (.slice A1 k1.len c1));have HF7:=AA (CD w1 (w.heap.size+1) (.int .i64 o1) (.string n1) (.int .i64 m1) (.int .i64 v1) (.int .i64 l1) (.int .i64 i1) (.slice A1 k1.len c1));change bodyPost _ _ _ _ _ (set7 w1 (w.heap.size+1) (.int .i64 o1) (.string n1) (.int .i64 m1) (.int .i64 v1) (.int .i64 l1) (.int .i64 i1) (.slice A1 k1.len c1));generalize set7 w1 (w.heap.size+1) (.int .i64 o1) (.string n1) (.int .i64 m1) (.int .i64 v1) (.int .i64 l1) (.int .i64 i1) (.slice A1 k1.len c1)=W7 at*;have HS:=HB7.out.cell;refine bodyPost_ret (v:=.agg #[.int .i64 o1,.string n1,.int .i64 m1,.int .i64 v1,.int .i64 l1,.int .i64 i1,.slice A1 k1.len c1]) (by simp[results,Tryz.results167,go_sem,HS]) rfl ?_;exact AQ.put (x:=⟨o1,n1,m1,v1,l1,i1⟩) (HE.out.trans HR.out.symm) HS1.out (fun k hk _=>Al HP.out (by omega) HW0.out k hk) (HF0.out.call HFR.out (fun _ h _=>h)) (by omega) HF7.out
 by_cases h2:op=2
 ·have HR:=AA (show sr=mk0 1 from by rw[HN.out,if_neg h1,if_pos h2]);obtain ⟨W0,hW0⟩:∃W0,(w.alloc (.cells #[.int .i64 op,.string nm,.int .i64 cm,.int .i64 va,.int .i64 lo,.int .i64 hi,.slice A ks.len c] 28)).alloc (.cells Ab 28)=W0:=⟨_,rfl⟩;have HX0:=AA (show Blk W0 w.heap.size 28 #[.int .i64 op,.string nm,.int .i64 cm,.int .i64 va,.int .i64 lo,.int .i64 hi,.slice A ks.len c] by rw[←hW0];exact(Blk.new _ _ _).alloc _);have HZ:=AA (show Blk W0 (w.heap.size+1) 28 Ab by rw[←hW0];exact Blk.new_eq (by simp));have HF0:=AA (show Fr Nob w W0 by rw[←hW0];exact((Fr.refl _ _).alloc _).alloc _);have HW0:=AA (show w.heap.size+1<W0.heap.size from HZ.out.lt);rw [hW0];clear hW0;have xc:=HX0.out.cell;have xl:=HX0.out.lt;have rc:=HZ.out.cell;have rf:=HZ.out.frozen;have zl:=HZ.out.lt;have HC1:=AA (CS W0 p true);clear HN
  go_wp2_with (first
   |((go_at_call 178);(with_reducible refine(HC1.out).mono ?_);rintro e w1 ⟨o1,n1,m1,v1,l1,i1,A1,c1,k1,rfl,he,hs1,hf1⟩;have HE:=AA he;have HS1:=AA hs1;have HFR:=AA hf1;have HZ1:=AA (HZ.out.fr hf1 (fun e=>e));have rc1:=HZ1.out.cell;have rf1:=HZ1.out.frozen;have zl1:=HZ1.out.lt;clear he hs1 hf1 rc rf zl)
   |fail);have HB7:=AA (Br HZ1.out (.int .i64 o1) (.string n1) (.int .i64 m1) (.int .i64 v1) (.int .i64 l1) (.int .i64 i1) (.slice A1 k1.len c1));have HF7:=AA (CD w1 (w.heap.size+1) (.int .i64 o1) (.string n1) (.int .i64 m1) (.int .i64 v1) (.int .i64 l1) (.int .i64 i1) (.slice A1 k1.len c1));change bodyPost _ _ _ _ _ (set7 w1 (w.heap.size+1) (.int .i64 o1) (.string n1) (.int .i64 m1) (.int .i64 v1) (.int .i64 l1) (.int .i64 i1) (.slice A1 k1.len c1));generalize set7 w1 (w.heap.size+1) (.int .i64 o1) (.string n1) (.int .i64 m1) (.int .i64 v1) (.int .i64 l1) (.int .i64 i1) (.slice A1 k1.len c1)=W7 at*;have HS:=HB7.out.cell;refine bodyPost_ret (v:=.agg #[.int .i64 o1,.string n1,.int .i64 m1,.int .i64 v1,.int .i64 l1,.int .i64 i1,.slice A1 k1.len c1]) (by simp[results,Tryz.results167,go_sem,HS]) rfl ?_;exact AQ.put (x:=⟨o1,n1,m1,v1,l1,i1⟩) (HE.out.trans HR.out.symm) HS1.out (fun k hk _=>Al HP.out (by omega) HW0.out k hk) (HF0.out.call HFR.out (fun _ h _=>h)) (by omega) HF7.out
 by_cases h4:op=4
 ·have HR:=AA (show sr=kidS (⟨op,nm,cm,va,lo,hi⟩,ks.tr) 0 from by rw[HN.out,if_neg h1,if_neg h2,if_pos h4]);have hlen:ks.tr.len=1:=by have:=HC.out.1;unfold Bz at this;dsimp only at this;omega
  clear HN HC
  cases ks with
  |nil=>simp[Fo.tr,Tr.len] at hlen
  |cons y B d js rs=>
   have hrs:rs=.nil:=by
    cases rs with
    |nil=>rfl
    |cons _ _ _ _ _=>simp[Fo.tr,Tr.len] at hlen
   subst hrs;obtain ⟨b,off,hA,hb,hn,hk⟩:=HS.out.kid;obtain ⟨d0,d1,d2,d3,d4,d5,d6⟩:=hn;have HK:=AA hk;subst hA;clear hlen hk HS HP HCT;obtain ⟨o1,n1,m1,v1,l1,i1⟩:=y;dsimp only at d0 d1 d2 d3 d4 d5;have hL:(Fo.cons ⟨o1,n1,m1,v1,l1,i1⟩ B d js Fo.nil).len=1:=rfl;go_wp2_with fail;refine bodyPost_ret (v:=.agg #[.int .i64 o1,.string n1,.int .i64 m1,.int .i64 v1,.int .i64 l1,.int .i64 i1,.slice B js.len d]) (by simp[results,Tryz.results167,go_sem]) rfl ?_;exact ⟨o1,n1,m1,v1,l1,i1,B,d,js,rfl,HR.out.symm,(HK.out.fr (((Fr.refl Nob w).alloc _).alloc _)).mono (fun _ h=>.inl h),((Fr.refl Nob w).alloc _).alloc _⟩
 ·have HR:=AA (show sr=mk1 4 0 0 (⟨op,nm,cm,va,lo,hi⟩,ks.tr) from by rw[HN.out,if_neg h1,if_neg h2,if_neg h4]);clear HN;go_wp2_with fail;refine bodyPost_ret (v:=.agg #[.int .i64 4,.string ⟨#[]⟩,.int .i64 0,.int .i64 0,.int .i64 0,.int .i64 0,.slice (some ⟨(w.heap.size+1+1),0,none⟩) 1 1]) (by simp[results,Tryz.results167,go_sem]) rfl ?_;refine ⟨4,⟨#[]⟩,0,0,0,0,some ⟨(w.heap.size+1+1),0,none⟩,1,.cons ⟨op,nm,cm,va,lo,hi⟩ A c ks .nil,rfl,HR.out.symm,AJ.one (g:=(w.heap.size+1+1)) (t:=28) (Blk.new_eq (by simp)) ((HS.out.fr ?_).mono fun _ h=>.inl h) (.inr (by omega)),?_⟩;all_goals exact((((Fr.refl Nob w).alloc _).alloc _).alloc _)
end Go.Proofs.YtoegdmpmagbaiaaGreatDoor
namespace Go.Proofs.YtoegdmpmagbaiaaGreatDoor
open Go.RowKit
structure FN where
 x:Nd
 A:Option Addr
 c:Nat
 ks:Fo
instance:Inhabited FN:=⟨⟨⟨0,⟨#[]⟩,0,0,0,0⟩,none,0,.nil⟩⟩
def fnc (y:FN):List Value:=fcs y.x y.A y.ks.len y.c
theorem BD (y:FN):(fnc y).length=7:=rfl
theorem ER (y:FN):∀v∈fnc y,v.oneCell'=true:=by
 intro u hu;simp only[fnc,fcs,List.mem_cons,List.not_mem_nil,or_false] at hu;rcases hu with rfl|rfl|rfl|rfl|rfl|rfl|rfl<;>rfl
def FN.s (y:FN):S1:=(y.x,y.ks.tr)
def Fo.list:Fo→List FN
 |.nil=>[]
 |.cons x A c ks r=>⟨x,A,c,ks⟩::r.list
theorem Fo.list_len (f:Fo):f.list.length=f.len:=by
 induction f with
 |nil=>rfl
 |cons x A c k r _ ih=>simp[Fo.list,Fo.len,ih]
def Fo.pre:Fo→List FN
 |.nil=>[]
 |.cons x A c ks r=>⟨x,A,c,ks⟩::(ks.pre++r.pre)
def Af:List FN→List FN
 |[]=>[]
 |y::l=>y::(y.ks.pre++Af l)
theorem preL_append (a b:List FN):Af (a++b)=Af a++Af b:=by
 induction a with
 |nil=>rfl
 |cons y a ih=>simp[Af,ih]
theorem preL_list (f:Fo):Af f.list=f.pre:=by
 induction f with
 |nil=>rfl
 |cons x A c k r _ ih=>simp[Fo.list,Af,Fo.pre,ih]
theorem preL_cons (y:FN)(l:List FN):Af (y::l)=y::Af (y.ks.list++l):=by rw[preL_append,preL_list];rfl
theorem Fo.pre_len (f:Fo):f.pre.length=f.tr.size:=by
 induction f with
 |nil=>rfl
 |cons x A c k r ihk ihr=>simp[Fo.pre,Fo.tr,Tr.size,ihk,ihr];omega
def nextS:List FN→List FN
 |[]=>[]
 |y::l=>y.ks.list++l
def stS:Nat→List FN→List FN
 |0,l=>l
 |k+1,l=>stS k (nextS l)
theorem stS_succ (k:Nat):∀l,stS (k+1) l=nextS (stS k l):=by
 induction k with
 |zero=>intro l;rfl
 |succ k ih=>intro l;rw[stS,ih];rfl
theorem DP (k:Nat):∀l,(Af l).drop k=Af (stS k l):=by
 induction k with
 |zero=>intro l;rfl
 |succ k ih=>
  intro l;rw [stS,←ih]
  cases l with
  |nil=>simp[nextS,Af]
  |cons y l=>rw[preL_cons,List.drop_succ_cons];rfl
theorem stS_at {k:Nat}{l:List FN}(h:k< (Af l).length):∃y r,stS k l=y::r∧stS (k+1) l=y.ks.list++r∧(Af l)[k]=y:=by
 have h1:=DP k l;rw [List.drop_eq_getElem_cons h] at h1
 cases hs:stS k l with
 |nil=>rw[hs] at h1;cases h1
 |cons y r=>
  refine⟨y,r,rfl,by rw[stS_succ,hs];rfl,?_⟩;rw [hs,Af] at h1;exact (List.cons.inj h1).1
theorem stS_end (l:List FN):stS (Af l).length l=[]:=by
 have h1:=DP (Af l).length l;rw [List.drop_length] at h1
 cases hs:stS (Af l).length l with
 |nil=>rfl
 |cons y r=>rw[hs] at h1;cases h1
theorem Fo.AtP.list {p:Nat→Prop}{w:World}:∀{f:Fo} {b off:Nat},f.AtP p w b off→∀j u,(f.list.flatMap fnc)[j]?=some u→w.cell? ⟨b,off+j,none⟩=some u
 |.nil,_,_,_,j,u,hu=>by simp[Fo.list] at hu
 |.cons x A c ks r,b,off,⟨_,_,h3,_,_,_,h7⟩,j,u,hu=>by
  rw[Fo.list,List.flatMap_cons] at hu;by_cases hj:j<7
  ·rw[List.getElem?_append_left (by rw[BD];exact hj)] at hu;exact h3 j u hu
  ·rw[List.getElem?_append_right (by rw[BD];omega),BD] at hu;have:=h7.list (j-7) u hu;rwa [show off+7+(j-7)=off+j by omega] at this
theorem Fo.AtP.lt0 {p:Nat→Prop}{w:World}{f:Fo}{b off:Nat}(h:f.AtP p w b off)(hn:0<f.len):p b∧b<w.heap.size:=by
 cases f with
 |nil=>simp[Fo.len] at hn
 |cons x A c ks r=>exact⟨h.1,h.2.1⟩
theorem AJ.list {p:Nat→Prop}{w:World}{A:Option Addr}{c:Nat}{f:Fo}(h:AJ p w A c f):Sl w 7 A f.len c (f.list.flatMap fnc):=by
 refine⟨by rw[Ad fnc 7 BD,Fo.list_len],h.ok.le,h.ok.max,h.ok.nil,fun hn=>?_⟩;obtain ⟨b,off,hA⟩:=h.some_ hn;exact ⟨b,off,hA,((h.at_ b off hA).lt0 hn).2,(h.at_ b off hA).list⟩
def FnP (p:Nat→Prop)(w:World)(y:FN):Prop:=AJ p w y.A y.c y.ks
theorem FnP.fr {p:Nat→Prop}{w w':World}{y:FN}(h:FnP p w y)(hf:Fr Nob w w'):FnP p w' y:=AJ.fr h hf
end Go.Proofs.YtoegdmpmagbaiaaGreatDoor
namespace Go.Proofs.YtoegdmpmagbaiaaGreatDoor
open Go.RowKit Go.Sort Go.Lib
section
variable {α:Type} [Inhabited α]
theorem G0 (enc:α→List Value)(k:Nat)(hk:∀x,(enc x).length=k)(hk0:0<k)(l:List α):(flatK enc k l.toArray).toList=l.flatMap enc:=by
 apply List.ext_getElem?;intro t;have hm:t%k<k:=Nat.mod_lt _ hk0;by_cases h:t<l.length*k
 ·have h1:t/k<l.length:=(Nat.div_lt_iff_lt_mul hk0).2 h;have hd:=Nat.div_add_mod t k;have h2:=Bw enc k hk l (t/k) (t%k) h1 hm;rw [show t/k*k+t%k=t by rw[Nat.mul_comm];exact hd] at h2;have h3:=get_flatK enc k l.toArray t (by simpa using h);have h4:t< (flatK enc k l.toArray).size:=by simpa using h
  rw[getElem!_pos (flatK enc k l.toArray) t h4,getElem!_pos l.toArray (t/k) (by simpa using h1)] at h3;have h5:t%k< (enc l[t/k]).length:=by rw[hk];exact hm
  rw[h2,List.getElem?_eq_getElem h5,List.getElem?_eq_getElem (by simpa using h4)];congr 1;simp only[Array.getElem_toList,h3,List.getElem_toArray];rw [getElem!_pos (enc l[t/k]) (t%k) h5]
 ·rw[List.getElem?_eq_none (by simp;omega),List.getElem?_eq_none (by rw[Ad enc k hk];omega)]
theorem swk_blk {enc:α→List Value}{k:Nat}(hk:∀x,(enc x).length=k)(hk0:0<k){w W:World}{b t off:Nat}{cur:Array Value}{pre post:List Value}{l m:List α}(hb:Blk w b t cur)(hc:cur.toList=pre++(l.flatMap enc++post))(ho:pre.length=off)
 (hm:m.length=l.length)(h:SWK enc k w b off m.toArray W):∃cur',Blk W b t cur'∧cur'.toList=pre++(m.flatMap enc++post)∧cur'.size=cur.size:=by
 obtain⟨n,os,rfl⟩:=h;refine ⟨putCells id off (flatK enc k m.toArray) cur,?_,?_,by simp[putCells]⟩
 ·unfold Blk sortWorldK;rw [heap_grow_old _ _ (by rw[size_putRowK];exact hb.lt)];show (w.heap.modify b _)[b]?=_;rw [Array.getElem?_modify,if_pos rfl];unfold Blk at hb;rw [hb];rfl
 ·have hfl:=G0 enc k hk hk0 m;have hfs:(flatK enc k m.toArray).size=m.length*k:=by simp
  have hll:=Ad enc k hk l;have hml:=Ad enc k hk m;have hlm:l.length*k=m.length*k:=by rw[hm]
  rw[hlm] at hll;generalize m.length*k=q at*;clear hlm;apply List.ext_getElem?;intro i;have hci:cur[i]?=(pre++(l.flatMap enc++post))[i]?:=by rw[←hc,Array.getElem?_toList]
  rw[Array.getElem?_toList];unfold putCells;rw [Array.getElem?_mapIdx,hci];by_cases h1:i<off;·rw[List.getElem?_append_left (by omega),List.getElem?_append_left (by omega),List.getElem?_eq_getElem (by omega),Option.map_some,if_neg (by omega)]
  ·have hap:∀X:List Value,(pre++(X++post))[i]?=(X++post)[i-off]?:=fun X=>by rw[List.getElem?_append_right (by omega),ho]
   rw[hap,hap];by_cases h2:i-off<q
   ·rw[List.getElem?_append_left (by omega),List.getElem?_append_left (by omega),List.getElem?_eq_getElem (by omega),Option.map_some,if_pos (by omega),←hfl,Array.getElem?_toList,Array.getElem?_eq_getElem (by omega),getElem!_pos _ _ (by omega)];rfl
   ·have hr:∀X:List Value,X.length=q→(X++post)[i-off]?=post[i-off-q]?:=fun X e=>by rw[List.getElem?_append_right (by omega),e]
    rw[hr _ hll,hr _ hml]
    cases post[i-off-q]? with
    |none=>rfl
    |some v=>rw[Option.map_some,if_neg (by omega)]
theorem swk_frk {enc:α→List Value}{k:Nat}{w W:World}{b off:Nat}{d:Array α}(h:SWK enc k w b off d W):Fr (Ah b) w W:=by
 obtain⟨n,os,rfl⟩:=h
 have hs:(sortWorldK enc k w b off n d os).heap.size=w.heap.size+os.size:=by
  unfold sortWorldK;rw[size_grow,size_putRowK];rfl
 refine⟨rfl,rfl,rfl,by omega,fun j hj hn=>?_⟩;unfold sortWorldK;rw [heap_grow_old _ _ (by rw[size_putRowK];exact hj)];show (w.heap.modify b _)[j]?=_;rw [Array.getElem?_modify,if_neg (fun e=>hn e.symm)]
theorem holdsG_of {enc:α→List Value}{k:Nat}(hk:∀x,(enc x).length=k)(hk0:0<k){w:World}{b t off:Nat}{cur:Array Value}{pre post:List Value}{l:List α}(hb:Blk w b t cur)(hc:cur.toList=pre++(l.flatMap enc++post))(ho:pre.length=off):HoldsK enc k w b off l.toArray:=by
 intro j hj;have hj':j<l.length*k:=by simpa using hj
 refine⟨?_,hb.frozen _⟩;have hll:=Ad enc k hk l;rw [hb.cell,←Array.getElem?_toList,hc,List.getElem?_append_right (by omega),ho,Nat.add_sub_cancel_left,List.getElem?_append_left (by omega),←G0 enc k hk hk0 l,getElem!_pos (flatK enc k l.toArray) j hj,Array.getElem?_toList,Array.getElem?_eq_getElem hj];rfl
def RevI (l m : Array α) (n i : Nat) : Prop := m.size = n ∧ l.size = n ∧ ∀ k, k < n → m[k]! = if k < i ∨ n ≤ k + i then l[n - 1 - k]! else l[k]!
theorem RevI.step {l m:Array α}{n i:Nat}(h:RevI l m n i)(hi:i+i+1<n):RevI l (swp m i (n-1-i)) n (i+1):=by
 obtain⟨h1,h2,h3⟩:=h;refine ⟨by simpa[swp] using h1,h2,fun k hk=>?_⟩;have hmi:=h3 i (by omega);have hmj:=h3 (n-1-i) (by omega);rw [if_neg (by omega)] at hmi hmj;unfold swp;by_cases e1:k=n-1-i
 ·subst e1;rw [getElem!_set_same _ _ _ (by simp;omega),hmi,if_pos (by omega)];congr 1;omega
 ·rw[getElem!_set_other _ _ _ _ e1];by_cases e2:k=i
  ·subst e2;rw [getElem!_set_same _ _ _ (by omega),hmj,if_pos (by omega)]
  ·rw[getElem!_set_other _ _ _ _ e2,h3 k hk];by_cases e3:k<i∨n≤k+i;·rw[if_pos e3,if_pos (by omega)]
   ·rw[if_neg e3,if_neg (by omega)]
theorem RevI.done {l m:Array α}{n i:Nat}(h:RevI l m n i)(hi:n≤i+i+1):m=l.toList.reverse.toArray:=by
 obtain⟨h1,h2,h3⟩:=h;apply Array.ext;·simp;omega
 ·intro k hk1 hk2;have:=h3 k (by omega);rw [getElem!_pos m k hk1] at this;rw [this];simp only[List.getElem_toArray,List.getElem_reverse,Array.getElem_toList,Array.length_toList,h2];split;·rw[getElem!_pos l _ (by omega)]
  ·rename_i hn;have:k=n-1-k:=by omega
   rw[getElem!_pos l k (by omega)];congr 1
end
theorem RevI.start {α:Type}[Inhabited α](l:Array α):RevI l l l.size 0:=⟨rfl,rfl,fun k hk=>by rw[if_neg (by omega)]⟩
structure FnAt (W:World) (blk o:Nat) (x:FN):Prop where
 c0:W.cell? ⟨blk,o,none⟩=some (.int .i64 x.x.op)
 c1:W.cell? ⟨blk,o+1,none⟩=some (.string x.x.name)
 c2:W.cell? ⟨blk,o+2,none⟩=some (.int .i64 x.x.cmp)
 c3:W.cell? ⟨blk,o+3,none⟩=some (.int .i64 x.x.val)
 c4:W.cell? ⟨blk,o+4,none⟩=some (.int .i64 x.x.lo)
 c5:W.cell? ⟨blk,o+5,none⟩=some (.int .i64 x.x.hi)
 c6:W.cell? ⟨blk,o+6,none⟩=some (.slice x.A x.ks.len x.c)
 f0:W.frozen? ⟨blk,o,none⟩=false
 f1:W.frozen? ⟨blk,o+1,none⟩=false
 f2:W.frozen? ⟨blk,o+2,none⟩=false
 f3:W.frozen? ⟨blk,o+3,none⟩=false
 f4:W.frozen? ⟨blk,o+4,none⟩=false
 f5:W.frozen? ⟨blk,o+5,none⟩=false
 f6:W.frozen? ⟨blk,o+6,none⟩=false
theorem swk_fn {w0 W:World}{blk off:Nat}{d0 dk:Array FN}(h:SWK fnc 7 w0 blk off dk W)(R:RowK fnc 7 w0 blk off d0)(hs:dk.size=d0.size)(i:Nat)(hi:i<dk.size):FnAt W blk (off+i*7) dk[i]!:=by
 have hH:=h.holds R.hblk R.hH hs;have g:=fun c (hc:c<7)=>hH.cell hi hc;exact ⟨(g 0 (by omega)).1,(g 1 (by omega)).1,(g 2 (by omega)).1,(g 3 (by omega)).1,(g 4 (by omega)).1,(g 5 (by omega)).1,(g 6 (by omega)).1,(g 0 (by omega)).2,(g 1 (by omega)).2,(g 2 (by omega)).2,(g 3 (by omega)).2,(g 4 (by omega)).2,(g 5 (by omega)).2,(g 6 (by omega)).2⟩
theorem sl_RevF {w0 : World} {blk off cap : Nat} {d0 : Array FN} (R : RowK fnc 7 w0 blk off d0) (hsz : d0.size ≤ 1000000) :
    Calls Tryz.prog 86 #[.slice (some ⟨blk, off, none⟩) d0.size cap] w0 fun e w' => e = .returned (.tuple #[]) ∧ SWK fnc 7 w0 blk off d0.toList.reverse.toArray w' := by
  have HS := AA (SWK.start R.hH)
  have HR := AA R
  clear R
  have HI := AA (RevI.start d0)
  generalize hn : d0.size = n at *
  have HN := AA hn
  clear hn
  go_enter Tryz.func86, Tryz.ntmps86
  go_wp2_with fail
  go_loopw [2, 3] (fun iv jv wr => ∃ (i : Nat) (d : Array FN), i ≤ n ∧ iv = .int .i64 i ∧ jv = .int .i64 ((n : Int) - 1 - i) ∧ Hid (SWK fnc 7 w0 blk off d wr ∧ RevI d0 d n i)) (fun iv _ _ => n - (intOf iv).toNat)
  case atStart => exact ⟨0, d0, Nat.zero_le _, rfl, by first | rfl | simp, AA ⟨HS.out, HI.out⟩⟩
  case round =>
    obtain ⟨i, d, hin, rfl, rfl, hi⟩ := hrel
    by_cases hlt : i + i + 1 < n
    · have hI : (i : Int) < (n : Int) - 1 - i := by omega
      have hI3 : 0 ≤ (i : Int) := by omega
      have hds := hi.out.2.1
      have R := HR.out
      have i1 : i < d.size := by omega
      have i2 : n - 1 - i < d.size := by omega
      have hq := hi.out.2.step hlt
      obtain ⟨c0, c1, c2, c3, c4, c5, c6, f0, f1, f2, f3, f4, f5, f6⟩ := swk_fn hi.out.1 R (by have := HN.out; omega) i i1
      obtain ⟨d0, d1, d2, d3, d4, d5, d6, g0, g1, g2, g3, g4, g5, g6⟩ := swk_fn hi.out.1 R (by have := HN.out; omega) (n - 1 - i) i2
      have HNX := AA (hi.out.1.swap R.hk R.hblk i (n - 1 - i) i1 i2).drew
      have HQ := AA hq
      clear hi R hq
      have e1 : (i : Int) < n := by omega
      have e2 : (n : Int) - 1 - i < n := by omega
      have e4 : (0 : Int) ≤ (n : Int) - 1 - i := by omega
      have e6 : ((n : Int) - 1 - i).toNat = n - 1 - i := by omega
      generalize hj : n - 1 - i = j at *
      generalize hx : d[j]! = x at *
      generalize hy : d[i]! = y at *
      clear hx hy
      obtain ⟨⟨x0, x1, x2, x3, x4, x5⟩, xA, xc, xk⟩ := x
      obtain ⟨⟨y0, y1, y2, y3, y4, y5⟩, yA, yc, yk⟩ := y
      dsimp only at *
      unfold fnc fcs at HNX
      simp only [World.setCells] at HNX
      have mixed : Tryz.prog.follows Departure.mixedOrders = true := by kernel_rfl
      go_wp2_with fail
      go_big_region_o
      all_goals go_wp2
      go_roundw
      case rel => exact ⟨i + 1, _, by omega, by go_num, by first | (congr 1; omega) | skip, AA ⟨HNX.out, by rw [← hj]; rw [← hj] at HQ; exact HQ.out⟩⟩
      case measure => simp [intOf]; omega
    · have hI : (n : Int) - 1 - i ≤ i := by omega
      have HD := AA (hi.out.2.done (by omega))
      go_wp2_with fail
      go_end0
      exact ⟨rfl, by rw [← HD.out]; exact hi.out.1⟩
end Go.Proofs.YtoegdmpmagbaiaaGreatDoor
