/- A row of rows of the call's own: what was made so far, and one more. -/
import Derived.Test.YtoegdmpmagbaiaaGreatDoorKK
import Derived.Test.YtoegdmpmagbaiaaGreatDoorKA
import Derived.Test.YtoegdmpmagbaiaaGreatDoorKR
namespace Go.Proofs.YtoegdmpmagbaiaaGreatDoor
open Go.RowKit Go.Lib
structure RV (α:Type) where
 g:Nat
 x:List α
def rvc {α:Type}(r:RV α):List Value:=[.slice (some ⟨r.g,0,none⟩) r.x.length r.x.length]
def rv1 (g n:Nat):List Value:=[.slice (some ⟨g,0,none⟩) n n]
theorem rv1_one (g n:Nat):∀v∈rv1 g n,v.oneCell'=true:=by intro u hu;simp[rv1] at hu;subst hu;rfl
theorem EI {α:Type}(r:RV α):(rvc r).length=1:=rfl
theorem map_app_inv {α β:Type}{f:α→β}{l:List α}{a b:List β}(h:l.map f=a++b):∃l1 l2,l=l1++l2∧l1.map f=a∧l2.map f=b:=by
 refine⟨l.take a.length,l.drop a.length,(List.take_append_drop _ _).symm,?_,?_⟩;·rw[List.map_take,h,List.take_left]
 ·rw[List.map_drop,h,List.drop_left]
structure Ff {α:Type} (iv:α→Value) (te ts:TypeId) (N0:Nat) (wr:World) (vals:List (List α)) (AM:Option Addr) (cM:Nat) (M:List (RV α)):Prop where
 own:wr.ownsRow N0 ts 1 (.slice AM M.length cM) M.length (M.flatMap rvc)
 val:M.reverse.map RV.x=vals
 mem:∀r∈M,Blk wr r.g te (r.x.map iv).toArray∧N0≤r.g∧AM.map (·.block)≠some r.g
section
variable {α:Type} {iv:α→Value} {te ts:TypeId} {N0:Nat} {wr:World} {AM:Option Addr} {cM:Nat} {M:List (RV α)}
theorem Ff.split {a b:List (List α)}(h:Ff iv te ts N0 wr (a++b) AM cM M):∃M0 K,M=M0++K∧K.reverse.map RV.x=a∧M0.reverse.map RV.x=b∧K.length=a.length:=by
 obtain⟨l1,l2,hl,h1,h2⟩:=map_app_inv h.val;refine ⟨l2.reverse,l1.reverse,?_,by rw[List.reverse_reverse];exact h1,by rw[List.reverse_reverse];exact h2,?_⟩;·rw[←List.reverse_append,←hl,List.reverse_reverse]
 ·have:=congrArg List.length h1;rw [List.length_map] at this;simpa using this
theorem Ff.ne {g:Nat}{vals:List (List α)}(h:Ff iv te ts N0 wr vals AM cM M)(hg:wr.heap.size≤g):AM.map (·.block)≠some g:=fun e=>by
 have:=h.own.lt g (by cases AM<;>simp_all [Value.ownBlock]);omega
theorem Ff.next {w4 w5:World}{A5:Option Addr}{c5 m N g:Nat}{M0 K:List (RV α)}{vals rest:List (List α)}{row:List α}(h:Ff iv te ts N0 wr vals AM cM (M0++K))(hm:M0.length=m)(hM0:M0.reverse.map RV.x=rest)
 (hN0:N0≤wr.heap.size)(hg:wr.heap.size≤g)(hf4:Fr (fun k=>AM.map (·.block)=some k∨k=g) wr w4)(hb:Blk w4 g te (row.map iv).toArray)
 (hown:w5.ownsRow N0 ts 1 (.slice A5 (m+1) c5) (m+1) (M0.flatMap rvc++rvc ⟨g,row⟩))(hgr:w4.grownBy w5 (AM.map (·.block)))(hl:Lies A5 AM N)(hN:N=w4.heap.size):
 Ff iv te ts N0 w5 (row::rest) A5 c5 (M0++[⟨g,row⟩]):=by
 subst hN;have hlen:(M0++[(⟨g,row⟩:RV α)]).length=m+1:=by simp[hm]
 have hA:∀k,A5.map (·.block)=some k→AM.map (·.block)=some k∨k=w4.heap.size:=fun k hk=>by
  rcases hl with h|h;·exact .inl (h▸hk)
  ·rw[hk] at h;exact .inr (by simpa using h)
 have hAg:AM.map (·.block)≠some g:=fun e=>by
  have:=h.own.lt g (by cases AM<;>simp_all [Value.ownBlock]);omega
 have hfr:Fr (fun k=>AM.map (·.block)=some k) w4 w5:=(Fr.refl _ _).grown hgr (fun k hk _=>hk);refine ⟨by rw[hlen];simpa using hown,?_,fun r hr=>?_⟩;·rw[List.reverse_append,List.map_append,hM0];simp
 ·rw[List.mem_append,List.mem_singleton] at hr;rcases hr with hr|rfl
  ·obtain⟨h1,h2,h3⟩:=h.mem r (List.mem_append_left _ hr);have hlt:=h1.lt;refine ⟨(h1.fr hf4 (fun e=>?_)).fr hfr (fun e=>h3 e),h2,fun e=>?_⟩
   ·rcases e with e|e;·exact h3 e
    ·omega
   ·rcases hA _ e with e|e;·exact h3 e
    ·have:=hf4.size;omega
  ·refine⟨hb.fr hfr (fun e=>hAg e),(show N0≤g by omega),fun e=>?_⟩;have hlt:=hb.lt;rcases hA _ e with e|e;·exact hAg e
   ·simp only at e;omega
end
section
variable {P:Program} {ops:Array Oper} {rest:List Oper} {o:Oper} {a:Act} {w:World} {Q:Exit→Act→World→Prop}
theorem DC (hgd:o.guard=none)(s:Operand)(t:TypeId)(ho:o.op=.call {callee:=.builtin .clear,args:=#[s],argTypes:=#[t]}){e size:Nat}(hZ:C3 P t e size){A A0:Option Addr}{n c:Nat}(hs:a.eval s=.slice A n c)
 {base m cap:Nat}{xs ys:List Value}(hown:w.ownsRow base e size (.slice A0 (m+n) cap) (m+n) (xs++ys))(hx:xs.length=m*size)(hA:0<n→∃g,A0=some ⟨g,0,none⟩∧A=some ⟨g,m*size,none⟩)
 (h:∀w',w'.ownsRow base e size (.slice A0 m cap) m xs→Fr (fun k=>A0.map (·.block)=some k) w w'→wpList P ops Q rest (a.put o.dst (.tuple #[])) w'):wpList P ops Q (o::rest) a w:=by
 rcases Nat.eq_zero_or_pos n with rfl|hn
 ·refine DD hgd s t ho hZ hs (h w ?_ (Fr.refl _ _));have hl:(xs++ys).length=(m+0)*size:=hown.1
  have hy:ys=[]:=by
   apply List.eq_nil_of_length_eq_zero;rw [List.length_append,Nat.add_zero] at hl;omega
  subst hy;simpa using hown
 ·obtain⟨g,rfl,rfl⟩:=hA hn;exact wpList_clear hgd s t ho hZ hs hown hx (fun _=>rfl) fun w' h1 h2=>h w' h1 (h2.mono fun k _ hk=>by have:k=g:=hk;simp[this])
end
theorem rowsK_list (W:List Pt)(mark:Int)(f:Fo):f.list.map (fun y=>rowS W mark y.s)=Bp W mark f.tr:=by
 induction f with
 |nil=>rfl
 |cons x A c k r _ ih=>simp only[Fo.list,List.map_cons,ih,Fo.tr,Bp];rfl
theorem rowsT_list (W:List Pt)(f:Fo):f.list.map (fun y=>rowTS W y.s)=CJ W f.tr:=by
 induction f with
 |nil=>rfl
 |cons x A c k r _ ih=>simp only[Fo.list,List.map_cons,ih,Fo.tr,CJ];rfl
end Go.Proofs.YtoegdmpmagbaiaaGreatDoor
