/- A number's digits: in plain words, and the reference's walk. -/
import Derived.Test.YtoegdmpmagbaiaaGreatDoorKA
import Derived.Laws.BytesArg
import Derived.IntWalk
import Derived.Test.YtoegdmpmagbaiaaGreatDoorKB
import Derived.Deep.RegionHeld3
namespace Go.Proofs.YtoegdmpmagbaiaaGreatDoor
open Go.RowKit
def pl1 (op:Int):Int:=if op=6 then 4 else if op=7 then 2 else if op=8 then 2 else 5
def Tr.good:Tr→Prop
 |.nil=>True
 |.cons x k r=>wrongN x k.len=0∧k.good∧r.good
theorem Co {x:Nd}{n:Nat}(h:wrongN x n=0):1≤x.op∧x.op≤12∧n=Aq x.op:=by
 unfold wrongN at h;by_cases h1:x.op<1∨12<x.op∨n≠Aq x.op;·rw[if_pos h1] at h;cases h
 ·simp only[not_or,ne_eq,Decidable.not_not] at h1;omega
theorem firstW_zero (l:List (Nd×Nat×Nat)):firstW l=0↔∀y∈l,wrongN y.1 y.2.1=0:=by
 have:∀(l:List (Nd×Nat×Nat)) (e:Int),l.foldl (fun e y=>if e=0 then wrongN y.1 y.2.1 else e) e=0↔e=0∧∀y∈l,wrongN y.1 y.2.1=0:=by
  intro l
  induction l with
  |nil=>intro e;simp
  |cons y l ih=>
   intro e;rw [List.foldl_cons,ih];by_cases he:e=0;·simp[he]
   ·simp[he]
 unfold firstW;rw [this];simp
theorem Tr.good_iff (t:Tr):∀d,(∀y∈t.nodes d,wrongN y.1 y.2.1=0)↔t.good:=by
 induction t with
 |nil=>intro d;simp[Tr.nodes,Tr.good]
 |cons x k r ihk ihr=>
  intro d;simp only[Tr.nodes,Tr.good,List.mem_cons,List.mem_append,←ihk (d+1),←ihr d];constructor;·intro h;exact⟨h (x,k.len,d) (.inl rfl),fun y hy=>h y (.inr (.inl hy)),fun y hy=>h y (.inr (.inr hy))⟩
  ·rintro⟨h1,h2,h3⟩ y (rfl|hy|hy);·exact h1
   ·exact h2 y hy
   ·exact h3 y hy
theorem Bi (x:Nd)(ks:Tr):firstW ((Tr.cons x ks .nil).nodes 1)=0↔wrongN x ks.len=0∧ks.good:=by
 rw[firstW_zero,Tr.good_iff];simp[Tr.good]
def Tr.wt:Tr→Nat
 |.nil=>0
 |.cons x k r=>x.name.size+100+k.wt+r.wt
structure NdOk (x:Nd):Prop where
 op:I64 x.op
 cmp:I64 x.cmp
 val:I64 x.val
 lo:I64 x.lo
 hi:I64 x.hi
def Tr.ok:Tr→Prop
 |.nil=>True
 |.cons x k r=>NdOk x∧k.ok∧r.ok
end Go.Proofs.YtoegdmpmagbaiaaGreatDoor
