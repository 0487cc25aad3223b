/- Words for memory that all my walks use: frames, whole blocks, slices that read as lists, appends. -/
import Derived.Test.YtoegdmpmagbaiaaGreatDoorRows
import Derived.WalkKit
import Derived.Handy
import Derived.WalkLawsBesides
import Derived.WalkSpells
import Derived.BigQuiet
import Derived.Lib.Hide
import Derived.Outline
import Derived.Deep.AppendLies
import Derived.Deep.Draws
import Derived.ProofKit
import Derived.OpenShut
import Derived.JoinedCond
import Derived.Deep.Slices
import Derived.Laws.MakeOwn
import Derived.Deep.RegionHeld3
import Derived.IntWalk
import Derived.Deep.MidRow
import Derived.Lib.SliceRun
import Derived.RangeFuncNested
import Derived.RangeFuncBound
import Derived.RangeFuncCalls
import Derived.RangeFuncLeaves
import Derived.Shelf.Abstract
import Derived.OwnWalkIn
import Derived.TacticsInMore
import Derived.LoopNIn
import Derived.LoopIn
set_option maxHeartbeats 4000000
set_option maxRecDepth 100000
namespace Go.Proofs.YtoegdmpmagbaiaaGreatDoor
open Go.RowKit
theorem AA {p:Prop}(h:p):Go.RowKit.Hid p:=h
theorem Gc {k:IntKind}{a b:Int}(h:a=b):Ending.returned (.int k a)=.returned (.int k b):=by rw[h]
theorem BM {a b:Bool}(h:a=b):Ending.returned (.bool a)=.returned (.bool b):=by rw[h]
theorem vint {k:IntKind}{a b:Int}(h:a=b):Value.int k a=.int k b:=by rw[h]
def I64 (a:Int):Prop:= -9223372036854775808≤a∧a≤9223372036854775807
structure Fr (S:Nat→Prop) (w w':World):Prop where
 os:w'.os=w.os
 tape:w'.tape=w.tape
 output:w'.output=w.output
 size:w.heap.size≤w'.heap.size
 block:∀k,k<w.heap.size→¬S k→w'.heap[k]?=w.heap[k]?
def Nob:Nat→Prop:=fun _=>False
def Ah (b:Nat):Nat→Prop:=fun k=>k=b
section
variable {S S':Nat→Prop} {a w w':World}
theorem Fr.refl (S:Nat→Prop)(w:World):Fr S w w:=⟨rfl,rfl,rfl,Nat.le_refl _,fun _ _ _=>rfl⟩
theorem Fr.trans (h:Fr S a w)(k:Fr S' w w')(hs:∀i,i<a.heap.size→S' i→S i):Fr S a w':=
 ⟨k.os.trans h.os,k.tape.trans h.tape,k.output.trans h.output,Nat.le_trans h.size k.size,fun i hi hn=>
  (k.block i (Nat.lt_of_lt_of_le hi h.size) (fun e=>hn (hs i hi e))).trans (h.block i hi hn)⟩
theorem Fr.mono (h:Fr S a w)(hs:∀i,i<a.heap.size→S i→S' i):Fr S' a w:=
 ⟨h.os,h.tape,h.output,h.size,fun i hi hn=>h.block i hi fun e=>hn (hs i hi e)⟩
theorem Fr.drew (h:Fr S a w):Fr S a w.drew:=⟨h.os,h.tape,h.output,h.size,h.block⟩
theorem Fr.drewN (h:Fr S a w)(n:Nat):Fr S a (w.drewN n):=⟨h.os,h.tape,h.output,h.size,h.block⟩
theorem Fr.alloc (h:Fr S a w)(o:Obj):Fr S a (w.alloc o):=
 ⟨h.os,h.tape,h.output,by simp;have:=h.size;omega,fun i hi hn=>(Below.heap_alloc w o i (by have:=h.size;omega)).trans (h.block i hi hn)⟩
theorem Fr.setCell (h:Fr S a w){p:Addr}(hp:p.block<a.heap.size→S p.block)(v:Value):Fr S a (w.setCell p v):=
 ⟨h.os,h.tape,h.output,by simp;exact h.size,fun i hi hn=>(Below.heap_setCell w p v i (fun e=>hn (by subst e;exact hp hi))).trans (h.block i hi hn)⟩
theorem Fr.grown (h:Fr S a w){row:Option Nat}(hg:w.grownBy w' row)(hr:∀k,row=some k→k<a.heap.size→S k):Fr S a w':=
 ⟨hg.os.trans h.os,hg.tape.trans h.tape,hg.output.trans h.output,Nat.le_trans h.size hg.size,fun i hi hn=>
  (hg.block i (Nat.lt_of_lt_of_le hi h.size) (fun e=>hn (hr i e.symm hi))).trans (h.block i hi hn)⟩
theorem Fr.of_below (h:Below w.heap.size w w'):Fr S w w':=⟨h.os,h.tape,h.output,h.size,fun k hk _=>h.block k hk⟩
theorem Fr.below (h:Fr Nob w w'):Below w.heap.size w w':=⟨h.os,h.tape,h.output,h.size,fun k hk=>h.block k hk (fun e=>e)⟩
theorem Fr.cell (h:Fr S w w'){p:Addr}{v:Value}(hc:w.cell? p=some v)(hp:¬S p.block):w'.cell? p=some v:=
 (World.cell?_of_block (h.block p.block (World.block_lt_of_cell? w p hc) hp)).trans hc
theorem Fr.call (h:Fr S a w)(k:Fr S' w w')(hs:∀i,S' i→i<a.heap.size→S i):Fr S a w':=h.trans k fun i hi e=>hs i e hi
end
def Blk (w:World)(g:Nat)(t:TypeId)(cs:Array Value):Prop:=w.heap[g]?=some (.cells cs t (0,0))
section
variable {S:Nat→Prop} {w w':World} {g:Nat} {t:TypeId} {cs:Array Value}
theorem Blk.lt (h:Blk w g t cs):g<w.heap.size:=by
 rcases Nat.lt_or_ge g w.heap.size with hlt|hge;·exact hlt
 ·unfold Blk at h;rw[Array.getElem?_eq_none hge] at h;cases h
theorem Blk.cell (h:Blk w g t cs)(i:Nat):w.cell? ⟨g,i,none⟩=cs[i]?:=cell_of_row w g i cs t (0,0) h
theorem Blk.frozen (h:Blk w g t cs)(i:Nat):w.frozen? ⟨g,i,none⟩=false:=by
 unfold Blk at h;simp [World.frozen?,h]
theorem Blk.new (w:World)(t:TypeId)(cs:Array Value):Blk (w.alloc (.cells cs t)) w.heap.size t cs:=heap_alloc_new w _
theorem Blk.new_eq {w:World}{g:Nat}{t:TypeId}{cs:Array Value}(h:g=w.heap.size):Blk (w.alloc (.cells cs t)) g t cs:=by subst h;exact Blk.new _ _ _
theorem Blk.drew (h:Blk w g t cs):Blk w.drew g t cs:=h
theorem Blk.drewN (h:Blk w g t cs)(n:Nat):Blk (w.drewN n) g t cs:=h
theorem Blk.alloc (h:Blk w g t cs)(o:Obj):Blk (w.alloc o) g t cs:=(Below.heap_alloc w o g h.lt).trans h
theorem Blk.set (h:Blk w g t cs)(i:Nat)(u:Value):Blk (w.setCell ⟨g,i,none⟩ u) g t (cs.setIfInBounds i u):=by
 unfold Blk at h ⊢;simp [World.setCell,Array.getElem?_modify,h]
theorem Blk.far (h:Blk w g t cs){p:Addr}(hp:g≠p.block)(u:Value):Blk (w.setCell p u) g t cs:=(Below.heap_setCell w p u g hp).trans h
theorem Blk.fr (h:Blk w g t cs)(hb:Fr S w w')(hg:¬S g):Blk w' g t cs:=(hb.block g h.lt hg).trans h
theorem Blk.grown {row:Option Nat}(h:Blk w g t cs)(hb:w.grownBy w' row)(hg:row≠some g):Blk w' g t cs:=(hb.block g h.lt (fun e=>hg e.symm)).trans h
end
structure Sl (w:World) (size:Nat) (A:Option Addr) (n cap:Nat) (xs:List Value):Prop where
 len:xs.length=n*size
 le:n≤cap
 max:cap≤maxLen
 nil:A=none→cap=0
 cells:0<n→∃b off,A=some ⟨b,off,none⟩∧b<w.heap.size∧∀j u,xs[j]?=some u→w.cell? ⟨b,off+j,none⟩=some u
section
variable {S:Nat→Prop} {w w':World} {size n cap:Nat} {A:Option Addr} {xs:List Value}
theorem Sl.none_ (w:World)(size:Nat):Sl w size none 0 0 []:=⟨by simp,Nat.le_refl _,by simp,fun _=>rfl,fun h=>absurd h (by omega)⟩
theorem Sl.keep (h:Sl w size A n cap xs)(hk:∀b off,A=some ⟨b,off,none⟩→0<n→b<w.heap.size→w'.heap[b]?=w.heap[b]?):Sl w' size A n cap xs:=
 ⟨h.len,h.le,h.max,h.nil,fun hn=>by
  obtain⟨b,off,e,hb,hc⟩:=h.cells hn;have hk':=hk b off e hn hb;refine ⟨b,off,e,?_,fun j u hu=>(World.cell?_of_block (w:=w) (w':=w') (a:=⟨b,off+j,none⟩) hk').trans (hc j u hu)⟩;rcases Nat.lt_or_ge b w'.heap.size with hlt|hge;·exact hlt
  ·rw[Array.getElem?_eq_none hge,Array.getElem?_eq_getElem hb] at hk';cases hk'⟩
theorem Sl.fr (h:Sl w size A n cap xs)(hb:Fr S w w')(hs:∀b off,A=some ⟨b,off,none⟩→0<n→¬S b):Sl w' size A n cap xs:=
 h.keep fun b off e hn hlt=>hb.block b hlt (hs b off e hn)
theorem Sl.pure (h:Sl w size A n cap xs)(hb:Fr Nob w w'):Sl w' size A n cap xs:=h.fr hb fun _ _ _ _ e=>e
theorem Sl.alloc (h:Sl w size A n cap xs)(o:Obj):Sl (w.alloc o) size A n cap xs:=h.keep fun b _ _ _ hlt=>Below.heap_alloc w o b hlt
theorem Sl.drew (h:Sl w size A n cap xs):Sl w.drew size A n cap xs:=h.keep fun _ _ _ _ _=>rfl
theorem Sl.drewN (h:Sl w size A n cap xs)(k:Nat):Sl (w.drewN k) size A n cap xs:=h.keep fun _ _ _ _ _=>rfl
theorem Sl.set (h:Sl w size A n cap xs){p:Addr}(hp:∀b off,A=some ⟨b,off,none⟩→b≠p.block)(u:Value):Sl (w.setCell p u) size A n cap xs:=
 h.keep fun b off e _ _=>Below.heap_setCell w p u b (hp b off e)
theorem Sl.of_own {base:Nat}{e:TypeId}(h:w.ownsRow base e size (.slice A n cap) n xs):Sl w size A n cap xs:=by
 refine⟨h.1,?_,?_,?_,fun hn=>?_⟩
 ·rcases h.2 with⟨h1,h2⟩|⟨g,c,cur,h1,_,_,h2,_⟩;·simp only[Value.slice.injEq] at h1;omega
  ·simp only[Value.slice.injEq] at h1;omega
 ·rcases h.2 with⟨h1,h2⟩|⟨g,c,cur,h1,_,_,h2,h3,_⟩;·simp only[Value.slice.injEq] at h1;omega
  ·simp only[Value.slice.injEq] at h1;omega
 ·rcases h.2 with⟨h1,h2⟩|⟨g,c,cur,h1,_,_,h2,h3,_⟩;·simp only[Value.slice.injEq] at h1;exact fun _=>h1.2.2
  ·simp only[Value.slice.injEq] at h1;intro e;rw[e] at h1;exact absurd h1.1 (by simp)
 ·obtain⟨g,c,hv,_,hlt⟩:=h.form hn;simp only[Value.slice.injEq] at hv;refine ⟨g,0,hv.1,hlt,fun j u hu=>?_⟩;have:=h.cells (g:=g) (by rw[hv.1];rfl) j u hu;rw [Nat.zero_add];simpa [Addr.add] using(by unfold Addr.add at this;split at this<;>simp_all:w.cell? ⟨g,j,none⟩=some u)
end
theorem Sl.at_ {w:World}{n cap:Nat}{A:Option Addr}{xs:List Value}{k:Nat}(h:Sl w 1 A n cap xs)(hk:k<n):
 ∃b off u,A=some ⟨b,off,none⟩∧b<w.heap.size∧xs[k]?=some u∧w.cell? ⟨b,off+k,none⟩=some u:=by
 obtain⟨b,off,e,hb,hc⟩:=h.cells (by omega);have hl:k<xs.length:=by rw[h.len];omega
 exact⟨b,off,xs[k],e,hb,List.getElem?_eq_getElem hl,hc k _ (List.getElem?_eq_getElem hl)⟩
def Lies (A' A:Option Addr)(g:Nat):Prop:=A'.map (·.block)=A.map (·.block)∨A'.map (·.block)=some g
def BP (P:Program)(t e:TypeId)(size bytes:Nat):Prop:=
 P.underlying t=some (.slice e)∧0<size∧∃i z,P.info? e=some i∧i.zero=some z∧i.size=size∧i.bytes=bytes∧z.cells.size=size
theorem BP.mk {P:Program}{t e:TypeId}{size bytes:Nat}{z:Value}(ht:P.underlying t=some (.slice e))(h:(P.info? e).map (fun i=>(i.zero,i.size,i.bytes))=some (some z,size,bytes))
 (hz:z.cells.size=size)(hs:0<size):BP P t e size bytes:=by
 obtain⟨i,h1,h2,h3,h4⟩:=info_parts h;exact ⟨ht,hs,i,z,h1,h2,h3,h4,hz⟩
theorem Aa (b off j:Nat):(⟨b,off,none⟩:Addr).add j=⟨b,off+j,none⟩:=by
 unfold Addr.add;split<;>simp_all
section
variable {P:Program} {w:World} {ops:Array Oper} {rest:List Oper} {o:Oper} {a:Act} {Q:Exit→Act→World→Prop}
theorem AP (hgd:o.guard=none)(s x:Operand)(t:TypeId)
 (ho:o.op=.call {callee:=.builtin .append,args:=#[s,x],argTypes:=#[t,t]})
 {e:TypeId}{size bytes:Nat}(hE:BP P t e size bytes){base:Nat}
 {A:Option Addr}{n cap:Nat}{xs:List Value}(hs:a.eval s=.slice A n cap)(hown:w.ownsRow base e size (.slice A n cap) n xs)
 {A2:Option Addr}{m c:Nat}{news:List Value}(hx:a.eval x=.slice A2 m c)(hsrc:Sl w size A2 m c news)(h1:∀u∈news,u.oneCell'=true)
 (h63:n+m≤maxLen)(hbytes:(n+m)*bytes≤140737488355328)(hbase:base≤w.heap.size)
 (h:∀A' cap' w',w'.ownsRow base e size (.slice A' (n+m) cap') (n+m) (xs++news)→w.grownBy w' (A.map (·.block))→
   Lies A' A w.heap.size→wpList P ops Q rest (a.put o.dst (.slice A' (n+m) cap')) w'):wpList P ops Q (o::rest) a w:=by
 obtain⟨ht,hsz,i,z,hi,hz,hsize,hby,hzs⟩:=hE;have hob:(Value.slice A n cap).ownBlock=A.map (·.block):=by cases A<;>rfl
 rcases Nat.eq_zero_or_pos m with hm|hm
 ·subst hm;have hn0:news=[]:=List.eq_nil_of_length_eq_zero (by rw[hsrc.len];omega);subst hn0
  cases A2 with
  |none=>
   have hc:=hsrc.nil rfl;subst hc;refine wpList_plain hgd fun K hK=>?_;have hrun:=run_append_owned_none (P:=P) (w:=w) base t o.type e i size ht hi _ n xs hown;unfold Oper.wp;simp [execOp,ho,resolve,invoke,builtin,hs,hx,hrun,Result.andThen];exact hK _ _ (by simpa using h A cap w (by simpa using hown) ⟨rfl,rfl,rfl,Nat.le_refl _,fun _ _ _=>rfl⟩ (.inl rfl))
  |some ad=>
   obtain⟨v',w',hr,h2,h3,h4,h5⟩:=run_append_own_at (P:=P) w base t o.type e i z size bytes ht hi hz hsize hby hzs hsz _ n xs hown ad 0 c [] (by simp) (by simp) (by simp) h63 hbytes hbase;refine wpList_plain hgd fun K hK=>?_;unfold Oper.wp execOp;simp only[ho,resolve,invoke,builtin,Sem.run_bind,Sem.run_pure,Result.andThen_ok,List.map_toArray,List.map_cons,List.map_nil,hs,hx,hr]
   have hv':∃A' cap',v'=.slice A' (n+0) cap':=by
    rcases h2.2 with⟨h6,h7⟩|⟨g,c',cur,h6,_⟩;·exact⟨none,0,by rw[h6,h7]⟩
    ·exact⟨_,_,h6⟩
   obtain⟨A',cap',rfl⟩:=hv';have hob':(Value.slice A' (n+0) cap').ownBlock=A'.map (·.block):=by cases A'<;>rfl
   rw[hob] at h3 h5;rw [hob'] at h5;exact hK _ _ (h A' cap' w' h2 h3 h5)
 ·obtain⟨b,off,rfl,hb,hc⟩:=hsrc.cells hm;obtain ⟨v',w',hr,h2,h3,h4,h5⟩:=run_append_own_at (P:=P) w base t o.type e i z size bytes ht hi hz hsize hby hzs hsz _ n xs hown ⟨b,off,none⟩ m c news hsrc.len (fun j u hu=>by rw[Aa];exact hc j u hu) h1 h63 hbytes hbase;refine wpList_plain hgd fun K hK=>?_;unfold Oper.wp execOp;simp only[ho,resolve,invoke,builtin,Sem.run_bind,Sem.run_pure,Result.andThen_ok,List.map_toArray,List.map_cons,List.map_nil,hs,hx,hr];obtain ⟨g,cap',rfl,_,_⟩:=h2.form (by omega);rw [hob] at h3 h5;exact hK _ _ (h _ cap' w' h2 h3 h5)
end
theorem Ag {S:Nat→Prop}{w w':World}{base:Nat}{e:TypeId}{size:Nat}{v:Value}{n:Nat}{xs:List Value}(h:w.ownsRow base e size v n xs)(hf:Fr S w w')(hs:∀k,v.ownBlock=some k→base≤k→k<w.heap.size→¬S k):w'.ownsRow base e size v n xs:=by
 refine⟨h.1,?_⟩;rcases h.2 with hn|⟨g,cap,cur,rfl,hb,hgg,rest⟩;·exact .inl hn
 ·have hlt:=(Array.getElem?_eq_some_iff.1 hgg).1;exact .inr ⟨g,cap,cur,rfl,hb,(hf.block g hlt (hs g rfl hb hlt)).trans hgg,rest⟩
theorem AX {w:World}{base:Nat}{e:TypeId}{size:Nat}{A:Option Addr}{c n:Nat}{xs:List Value}(h:w.ownsRow base e size (.slice A n c) n xs):∀k,A.map (·.block)=some k→base≤k:=by
 intro k hk;have:=h.lt k (by cases A<;>simp_all [Value.ownBlock]);exact this.1
theorem B9 {w:World}{base:Nat}{e:TypeId}{size:Nat}{A:Option Addr}{c n:Nat}{xs:List Value}(h:w.ownsRow base e size (.slice A n c) n xs):∀g off,A=some ⟨g,off,none⟩→base≤g:=by
 intro g off hA;exact AX h g (by rw[hA];rfl)
theorem Sl.new1 {w:World}{g:Nat}{t:TypeId}{cs:Array Value}(h:Blk w g t cs)(size n:Nat)(hn:cs.size=n*size)(hmax:n≤maxLen):Sl w size (some ⟨g,0,none⟩) n n cs.toList:=
 ⟨by simpa using hn,Nat.le_refl _,hmax,(fun e=>by cases e),fun _=>⟨g,0,rfl,h.lt,fun j u hu=>by rw[Nat.zero_add,h.cell];simpa using hu⟩⟩
end Go.Proofs.YtoegdmpmagbaiaaGreatDoor
namespace Go.Proofs.YtoegdmpmagbaiaaGreatDoor
open Go.ChangeShapes Go.WideShapes Go.ChangeAt Go.RowKit Go.Deep
theorem exists_list {α:Type}(p:Nat→α→Prop)(n:Nat)(h:∀i,i<n→∃y,p i y):∃l:List α,l.length=n∧∀i (hi:i<l.length),p i l[i]:=by
 induction n with
 |zero=>exact⟨[],rfl,fun i hi=>by simp at hi⟩
 |succ n ih=>
  obtain⟨l,hl,hp⟩:=ih (fun i hi=>h i (by omega));obtain ⟨y,hy⟩:=h n (by omega);refine ⟨l++[y],by simp[hl],fun i hi=>?_⟩;by_cases hin:i<l.length;·rw[List.getElem_append_left hin];exact hp i hin
  ·have:i=n:=by simp at hi;omega
   subst this;rw [List.getElem_append_right (by omega)];simpa [hl] using hy
theorem Bw {α:Type}(f:α→List Value)(size:Nat)(hf:∀y,(f y).length=size):∀(l:List α) (i j:Nat) (hi:i<l.length),j<size→(l.flatMap f)[i*size+j]?=(f l[i])[j]?:=by
 intro l
 induction l with
 |nil=>intro i j hi;simp at hi
 |cons x l ih=>
  intro i j hi hj;rw [List.flatMap_cons]
  cases i with
  |zero=>rw[List.getElem?_append_left (by rw[hf];omega)];simp
  |succ i=>
   rw[List.getElem?_append_right (by rw[hf,Nat.add_mul];omega),hf];have e:(i+1)*size+j-size=i*size+j:=by rw[Nat.add_mul];omega
   rw[e];exact ih i j (by simpa using hi) hj
theorem Ad {α:Type}(f:α→List Value)(size:Nat)(hf:∀y,(f y).length=size)(l:List α):(l.flatMap f).length=l.length*size:=by
 induction l with
 |nil=>simp
 |cons x l ih=>rw[List.flatMap_cons,List.length_append,hf,ih,List.length_cons,Nat.add_mul];omega
theorem Sl.row {α:Type}{f:α→List Value}{size:Nat}(hf:∀y,(f y).length=size){w:World}{A:Option Addr}{c:Nat}{l:List α}{k:Nat}(h:Sl w size A l.length c (l.flatMap f))(hk:k<l.length):
 ∃b off,A=some ⟨b,off,none⟩∧b<w.heap.size∧∀j u,(f l[k])[j]?=some u→w.cell? ⟨b,off+(k*size+j),none⟩=some u:=by
 obtain⟨b,off,hA,hb,hc⟩:=h.cells (by omega);refine ⟨b,off,hA,hb,fun j u hu=>hc _ _ ?_⟩;have hj:j<size:=by rw[←hf l[k]];exact(List.getElem?_eq_some_iff.1 hu).1
 rw[Bw f size hf l k j hk hj];exact hu
section
variable {H:Type} {enc:TypeId×Value→H} {P:Program} {w:World} {base:Nat} {spare:Nat→Bool} {held:Bool}
theorem open_rows {α:Type}{t e:TypeId}{fuel:Nat}{cs:List Value}{x:DataW H×List MemPlace}(f:α→List Value)(good:α→Prop)(size:Nat)(hsz:0<size)(hf:∀y,(f y).length=size)
 (ht:P.underlying t=some (.slice e))(hC:P.cellsOf e=size)
 (hone:∀n cs x,DataW.trod enc P w base spare held n e cs=some x→∃y,cs=f y∧good y)
 (h:DataW.trod enc P w base spare held fuel t cs=some x):
 ∃(A:Option Addr) (cap:Nat) (l:List α),cs=[.slice A l.length cap]∧Sl w size A l.length cap (l.flatMap f)∧∀y∈l,good y:=by
 rcases open_slice ht h with⟨hcs,_⟩|⟨a,len,cap,m,n,D,Pl,hcs,hb,hl,hm,hmm,hx,hi⟩;·exact⟨none,0,[],hcs,Sl.none_ w size,fun y hy=>by cases hy⟩
 ·have hml:len≤m:=by rw[hmm];split<;>omega
  obtain⟨l,hll,hp⟩:=exists_list (fun i y=>(∀j,j<size→w.cell? ((a.add (i*size)).add j)=(f y)[j]?)∧good y) len (fun i hlt=>by
   obtain⟨cs',h1,h2⟩:=hi i (by omega);rw [hC] at h1;obtain ⟨_,_,h3⟩:=World.cells?_some h1;obtain ⟨y,rfl,hy⟩:=hone _ _ _ h2;exact ⟨y,h3,hy⟩);refine ⟨some a,cap,l,by rw[hll];exact hcs,⟨by rw[Ad f size hf],by omega,hm,(fun e=>by cases e),fun hn=>?_⟩,fun y hy=>?_⟩
  ·have h0:=(hp 0 hn).1 0 hsz
   have hz:∃u,w.cell? a=some u:=by
    have e:(a.add (0*size)).add 0=a:=by simp[Addr.add]
    rw[e] at h0;rw [h0,List.getElem?_eq_getElem (by rw[hf];omega)];exact ⟨_,rfl⟩
   obtain⟨u,hu⟩:=hz;obtain ⟨b,off,sp⟩:=a
   have hsp:sp=none:=by
    unfold World.cell? at hu
    cases sp with
    |none=>rfl
    |some s=>simp at hu;split at hu<;>simp at hu
   subst hsp;refine ⟨b,off,rfl,World.block_lt_of_cell? w _ hu,fun j v hv=>?_⟩;have hj:j<l.length*size:=by rw[←Ad f size hf];exact(List.getElem?_eq_some_iff.1 hv).1
   have hd:=Nat.div_add_mod j size;have hmod:j%size<size:=Nat.mod_lt _ hsz;have hdiv:j/size<l.length:=(Nat.div_lt_iff_lt_mul hsz).2 hj;have e:j=j/size*size+j%size:=by rw[Nat.mul_comm];omega
   rw[e,Bw f size hf l _ _ hdiv hmod] at hv;have h4:=(hp (j/size) hdiv).1 (j%size) hmod;rw [Aa,Aa,hv,Nat.add_assoc,←e] at h4;exact h4
  ·obtain⟨i,hi',rfl⟩:=List.getElem_of_mem hy;exact (hp i hi').2
theorem trodAll_below {ts:List TypeId}{W W':World}(hl:laidOutB P=true)(hr:ts.all (fun t=>P.readableRec t&&decide (t<P.types.size))=true)(hb:Below W.heap.size W W'):
 ∀{vs:List Value} {ds:List (DataW H)} {ps:List MemPlace},DataW.TrodAll enc P W 0 (fun _=>true) true ts vs ds ps→(∀x∈ps,x.block<W.heap.size)→
  DataW.TrodAll enc P W' 0 (fun b=>decide (b<W.heap.size)) true ts vs ds ps:=by
 induction ts with
 |nil=>
  intro vs ds ps h _;obtain ⟨rfl,rfl,rfl⟩:=trodAll_nil h;exact trodAll_mk0
 |cons t ts ih=>
  intro vs ds ps h hlt;obtain ⟨v,vs',d,ds',p,q,rfl,rfl,rfl,h0,r0⟩:=trodAll_cons h;simp only[List.all_cons,Bool.and_eq_true,decide_eq_true_eq] at hr;exact trodAll_cons_mk (Below.trod hl hr.1.1 hr.1.2 h0 hb (fun x hx=>hlt x (by simp[hx]))) (ih hr.2 r0 (fun x hx=>hlt x (by simp[hx])))
theorem law_post {f:Func}{s:ChangeSpec}{W W':World}{args:Array Value}{ds gs:List (DataW H)}{before:List MemPlace}{tb:TypeId}
 (hl:laidOutB P=true)(hr:f.params.toList.all (fun t=>P.readableRec t&&decide (t<P.types.size))=true)(hv:s.vars=[])(hrt:f.resultTypes=#[tb])(htb:P.underlying tb=some .bool)
 (hW:DataW.Whole enc P f.params.toList s.vars false W args.toList ds gs before)
 (hres:(s.fn H ds).results=[.lit (.bool true)])(hargs:(s.fn H ds).args=ds)(hvs:(s.fn H ds).vars=[])(hb:Below W.heap.size W W'):
 s.post enc P f false true false false W args (.bool true) W':=by
 have hlt:=hW.lt;have hW':=hW;obtain ⟨p,q,hA,hV,rfl,hfz,hnd⟩:=hW;rw [hv] at hV;obtain ⟨rfl,rfl⟩:=trodVars_none hV;refine ⟨ds,[],p++[],[],p,[],hW',?_,?_,?_,hb.frame _,fun h=>by cases h⟩
 ·rw[hrt,List.append_nil,hres];exact trodAll_cons_mk (shut_bool htb _) trodAll_mk0
 ·rw[List.append_nil,hargs];exact trodAll_below hl hr hb hA (fun x hx=>hlt x (by simp[hx]))
 ·rw[hv,List.append_nil,hvs];exact rfl
end
end Go.Proofs.YtoegdmpmagbaiaaGreatDoor
namespace Go.Proofs.YtoegdmpmagbaiaaGreatDoor
open Go.RowKit
theorem G7 (b off n:Nat):(⟨b,off,none⟩:Addr).add n=⟨b,off+n,none⟩:=Aa b off n
theorem Sl.cut {w:World}{size n cap:Nat}{A:Option Addr}{xs:List Value}(h:Sl w size A n cap xs){k:Nat}(hk:k≤n):
 Sl w size (if cap=k then A else A.map (·.add (k*size))) (n-k) (cap-k) (xs.drop (k*size)):=by
 refine⟨by rw[List.length_drop,h.len,Nat.sub_mul],by have:=h.le;omega,by have:=h.max;omega,fun e=>?_,fun hn=>?_⟩
 ·have:=h.le;split at e;·omega
  ·cases A with
   |none=>have:=h.nil rfl;omega
   |some a=>cases e
 ·obtain⟨b,off,rfl,hb,hc⟩:=h.cells (by omega);have:=h.le;rw [if_neg (by omega)];refine ⟨b,off+k*size,by simp[G7],hb,fun j u hu=>?_⟩;rw [Nat.add_assoc];exact hc _ u (by rw[←hu,List.getElem?_drop])
theorem EJ {P:Program}{t e:TypeId}{size bytes:Nat}(hE:BP P t e size bytes)(A:Option Addr){n cap:Nat}(k:Nat)(hk:k≤n)(W:World):
 (Instr.slice t (.slice A n cap) (some (.int .i64 k)) none none).run P W=.ok (.slice (if cap=k then A else A.map (·.add (k*size))) (n-k) (cap-k)) W:=by
 obtain⟨ht,_,i,z,hi,_,hsize,_,_⟩:=hE;have he:P.elem t=e:=by simp[Program.elem,ht]
 have ht':P.underlying t=some (.slice (P.elem t)):=by rw[he];exact ht
 rw[run_slice_l W t A n cap ht' .i64 k (by omega) (by omega),he];simp [sizeOf,typeInfo,hi,sliced,hsize]
theorem run_mk {P:Program}{t e:TypeId}{size bytes:Nat}(hE:BP P t e size bytes)(n:Nat)(c:Int)(hc:c=n)(hb:bytes*n≤281474976710656)(h63:n≤maxLen):
 ∃cs:Array Value,cs.size=n*size∧∀W:World,(Instr.makeSlice t (.int .i64 0) (.int .i64 c)).run P W=.ok (.slice (some ⟨W.heap.size,0,none⟩) 0 n) (W.alloc (.cells cs e)):=by
 obtain⟨ht,_,i,z,hi,hz,hsize,hby,_⟩:=hE;subst hc;refine ⟨madeCells z.cells (n*size),size_madeCells _ _,fun W=>?_⟩
 have hb':(i.bytes:Int)*(n:Int)≤281474976710656:=by
  rw[hby];have h:((bytes*n:Nat):Int)≤281474976710656:=by omega
  rwa[Int.natCast_mul] at h
 have hr:=run_make (P:=P) W t e i z ht hi hz .i64 .i64 0 n (Int.le_refl _) (by omega) hb' (by unfold maxLen at h63;omega);simp only[Int.toNat_zero,Int.toNat_natCast,hsize] at hr;exact hr
theorem BK (g:Nat):∀(vs:List Value) (o:Nat) (w:World),Fr (Ah g) w (w.setCells g o vs)
 |[],_,w=>Fr.refl _ w
 |v::r,o,w=>(((Fr.refl (Ah g) w).setCell (p:=⟨g,o,none⟩) (fun _=>rfl) v)).call (BK g r (o+1) _) (fun _ h _=>h)
def DE (F:Array Value):Nat→List Value→Array Value
 |_,[]=>F
 |s,v::r=>DE (F.setIfInBounds s v) (s+1) r
theorem BL:∀(vs:List Value) (s:Nat) (F:Array Value),(DE F s vs).size=F.size
 |[],_,_=>rfl
 |v::r,s,F=>by rw[DE,BL r];simp
theorem Cr:∀(vs:List Value) (s:Nat) (F:Array Value) (t:Nat),(DE F s vs)[t]?=if s≤t∧t<s+vs.length∧t<F.size then vs[t-s]? else F[t]?
 |[],s,F,t=>by rw[if_neg (by simp;omega)];rfl
 |v::r,s,F,t=>by
  rw[DE,Cr r];simp only[Array.size_setIfInBounds,Array.getElem?_setIfInBounds,List.length_cons];by_cases h1:t=s
  ·subst h1;rw [if_neg (by omega),if_pos rfl];by_cases h2:t<F.size;·rw[if_pos h2,if_pos (by omega),Nat.sub_self];rfl
   ·rw[if_neg h2,if_neg (by omega),Array.getElem?_eq_none (by omega)]
  ·by_cases h3:s+1≤t∧t<s+1+r.length∧t<F.size;·rw[if_pos h3,if_pos (by omega),show t-s=t-(s+1)+1 by omega,List.getElem?_cons_succ]
   ·rw[if_neg h3,if_neg (fun e=>h1 e.symm),if_neg (by omega)]
theorem Blk.putCells {g t:Nat}:∀(vs:List Value) (o:Nat) {w:World} {arr:Array Value},Blk w g t arr→Blk (w.setCells g o vs) g t (DE arr o vs)
 |[],_,_,_,h=>h
 |v::r,o,_,_,h=>Blk.putCells r (o+1) (h.set o v)
theorem Blk.setAll {g t:Nat}{w:World}{arr:Array Value}(h:Blk w g t arr)(vs:Array Value)(hs:vs.size=arr.size):Blk (w.setCells g 0 vs.toList) g t vs:=by
 have:=h.putCells vs.toList 0
 have e:DE arr 0 vs.toList=vs:=by
  apply Array.ext_getElem?;intro i;rw [Cr];by_cases hi:i<vs.size;·rw[if_pos (by simp;omega),Nat.sub_zero,Array.getElem?_toList]
  ·rw[if_neg (by simp;omega),Array.getElem?_eq_none (by omega),Array.getElem?_eq_none (by omega)]
 rwa[e] at this
section
variable {P:Program} {ops:Array Oper} {rest:List Oper} {o:Oper} {a:Act} {w:World} {Q:Exit→Act→World→Prop}
theorem BI {K:Act→World→Prop}{ty:TypeId}{x y:Operand}(ho:o.op=.store ty x y){g t:Nat}{arr vs:Array Value}(hx:a.eval x=.pointer (some ⟨g,0,none⟩))(hy:a.eval y=.agg vs)
 (hi:(P.info? ty).map (·.size)=some vs.size)(h1:vs.toList.all (·.oneCell')=true)(hB:Blk w g t arr)(hs:vs.size=arr.size)
 (h:∀w',Blk w' g t vs→Fr (Ah g) w w'→K (a.put o.dst undef) w'):o.wp P a w K Q:=
 wp_store_mid ty x y ho g 0 vs hx hy (fun j hj=>⟨by rw[Nat.zero_add,hB.cell,Array.getElem?_eq_getElem (by omega)];rfl,hB.frozen _⟩) hi (by rw[←Array.all_toList];exact h1) (h _ (hB.setAll vs hs) (BK g _ _ _))
theorem AB (hgd:o.guard=none){ty:TypeId}{x y:Operand}(ho:o.op=.store ty x y){g t:Nat}{arr vs:Array Value}(hx:a.eval x=.pointer (some ⟨g,0,none⟩))(hy:a.eval y=.agg vs)
 (hi:(P.info? ty).map (·.size)=some vs.size)(h1:vs.toList.all (·.oneCell')=true)(hB:Blk w g t arr)(hs:vs.size=arr.size)
 (h:∀w',Blk w' g t vs→Fr (Ah g) w w'→wpList P ops Q rest (a.put o.dst undef) w'):wpList P ops Q (o::rest) a w:=
 wpList_store_mid hgd ty x y ho g 0 vs hx hy (fun j hj=>⟨by rw[Nat.zero_add,hB.cell,Array.getElem?_eq_getElem (by omega)];rfl,hB.frozen _⟩) hi (by rw[←Array.all_toList];exact h1) (h _ (hB.setAll vs hs) (BK g _ _ _))
end
structure C3 (P:Program) (t e:TypeId) (size:Nat):Prop where
 ty:P.underlying t=some (.slice e)
 pos:0<size
 zero:∃z:Value,(∀w:World,(zeroValue e).run P w=.ok z w)∧z.cells.size=size∧∀u∈z.cells.toList,u.oneCell'=true
theorem C3.mk' {P:Program}{t e:TypeId}{size bytes:Nat}{z:Value}(ht:P.underlying t=some (.slice e))(h:(P.info? e).map (fun i=>(i.zero,i.size,i.bytes))=some (some z,size,bytes))(hz:z.cells.size=size)(h1:∀u∈z.cells.toList,u.oneCell'=true)(hs:0<size):C3 P t e size:=by
 obtain⟨i,h2,h3,_,_⟩:=info_parts h;exact ⟨ht,hs,z,fun w=>by simp[zeroValue,typeInfo,h2,h3],hz,h1⟩
theorem GR {P:Program}{t e size:Nat}(hZ:C3 P t e size)(w:World)(ty:TypeId)(b o n c:Nat)(hn:0<n)(hc:∀j,j<n*size→(w.cell? ⟨b,o+j,none⟩).isSome=true)(hf:∀j,j<n*size→w.frozen? ⟨b,o+j,none⟩=false):
 ∃vs:List Value,vs.length=n*size∧(Builtin.clear_ #[t] ty #[.slice (some ⟨b,o,none⟩) n c]).run P w=.ok (.tuple #[]) (w.setCells b o vs):=by
 obtain⟨z,hv,hz,h1⟩:=hZ.zero;have hp:=hZ.pos;have hlen:(Builtin.zeroCells z.cells n).toList.length=n*size:=by simp[Builtin.zeroCells,hz]
 refine⟨(Builtin.zeroCells z.cells n).toList,hlen,?_⟩
 have hst:=run_storeCells_cells (P:=P) b o (Builtin.zeroCells z.cells n).toList 0 w (by rw[hlen];simpa using hc) (by rw[hlen];simpa using hf) (by
  intro v hv';simp only[Builtin.zeroCells,Array.toList_map,List.mem_map] at hv';obtain ⟨i,_,rfl⟩:=hv';have hi:i%z.cells.size<z.cells.size:=Nat.mod_lt _ (by omega);rw [getElem!_pos z.cells _ hi];exact h1 _ (by simp));simp only[Nat.add_zero] at hst;obtain ⟨m,rfl⟩:∃m,n=m+1:=⟨n-1,by omega⟩;simp [Builtin.clear_,run_underlying hZ.ty,hv,hst]
section
variable {P:Program} {ops:Array Oper} {rest:List Oper} {o:Oper} {a:Act} {w:World} {Q:Exit→Act→World→Prop}
theorem DD (hgd:o.guard=none)(s:Operand)(t:TypeId)(ho:o.op=.call {callee:=.builtin .clear,args:=#[s],argTypes:=#[t]}){e size:Nat}(hZ:C3 P t e size){A:Option Addr}{c:Nat}(hs:a.eval s=.slice A 0 c)
 (h:wpList P ops Q rest (a.put o.dst (.tuple #[])) w):wpList P ops Q (o::rest) a w:=by
 have hrun:(Builtin.clear_ #[t] o.type #[.slice A 0 c]).run P w=.ok (.tuple #[]) w:=by
  cases A<;>simp[Builtin.clear_,run_underlying hZ.ty]
 refine wpList_plain hgd fun K hK=>?_;unfold Oper.wp execOp;simp only[ho,resolve,invoke,builtin,Sem.run_bind,Sem.run_pure,Result.andThen_ok,List.map_toArray,List.map_cons,List.map_nil,hs,hrun];exact hK _ _ h
theorem wpList_clear (hgd:o.guard=none)(s:Operand)(t:TypeId)(ho:o.op=.call {callee:=.builtin .clear,args:=#[s],argTypes:=#[t]}){e size:Nat}(hZ:C3 P t e size){A:Option Addr}{n c:Nat}(hs:a.eval s=.slice A n c)
 {base g m cap:Nat}{xs ys:List Value}(hown:w.ownsRow base e size (.slice (some ⟨g,0,none⟩) (m+n) cap) (m+n) (xs++ys))(hx:xs.length=m*size)(hA:0<n→A=some ⟨g,m*size,none⟩)
 (h:∀w',w'.ownsRow base e size (.slice (some ⟨g,0,none⟩) m cap) m xs→Fr (Ah g) w w'→wpList P ops Q rest (a.put o.dst (.tuple #[])) w'):wpList P ops Q (o::rest) a w:=by
 have hown':=hown;rcases hown.2 with⟨h1,_⟩|⟨g',cap',cur,hv,hb,hg,hn,hmx,hsz,ht⟩;·cases h1
 simp only[Value.slice.injEq,Option.some.injEq,Addr.mk.injEq,and_true] at hv;obtain ⟨rfl,_,rfl⟩:=hv;have hms:(m+n)*size=m*size+n*size:=Nat.add_mul _ _ _;have hcs:(m+n)*size≤cap*size:=Nat.mul_le_mul_right _ hn
 have htx:cur.toList.take (m*size)=xs:=by
  have h2:cur.toList.take (m*size)=(cur.toList.take ((m+n)*size)).take (m*size):=by rw[List.take_take,Nat.min_eq_left (by omega)]
  rw[h2,ht,←hx,List.take_left]
 rcases Nat.eq_zero_or_pos n with h0|hpos
 ·subst h0
  have hrun:(Builtin.clear_ #[t] o.type #[.slice A 0 c]).run P w=.ok (.tuple #[]) w:=by
   cases A<;>simp[Builtin.clear_,run_underlying hZ.ty]
  refine wpList_plain hgd fun K hK=>?_;unfold Oper.wp execOp;simp only[ho,resolve,invoke,builtin,Sem.run_bind,Sem.run_pure,Result.andThen_ok,List.map_toArray,List.map_cons,List.map_nil,hs,hrun];exact hK _ _ (h w ⟨hx,.inr ⟨g,cap,cur,rfl,hb,hg,by omega,hmx,hsz,htx⟩⟩ (Fr.refl _ _))
 ·obtain rfl:=hA hpos;have hblk:Blk w g e cur:=hg;obtain ⟨vs,hvl,hrun⟩:=GR hZ w o.type g (m*size) n c hpos (fun j hj=>by rw[hblk.cell,Array.getElem?_eq_getElem (by omega)];rfl) (fun j hj=>hblk.frozen _);refine wpList_plain hgd fun K hK=>?_;unfold Oper.wp execOp;simp only[ho,resolve,invoke,builtin,Sem.run_bind,Sem.run_pure,Result.andThen_ok,List.map_toArray,List.map_cons,List.map_nil,hs,hrun];refine hK _ _ (h _ ⟨hx,.inr ⟨g,cap,DE cur (m*size) vs,rfl,hb,hblk.putCells vs _,by omega,hmx,by rw[BL];exact hsz,?_⟩⟩ (BK g _ _ _));rw [←htx];apply List.ext_getElem?;intro i;by_cases hi:i<m*size;·rw[List.getElem?_take_of_lt hi,List.getElem?_take_of_lt hi,Array.getElem?_toList,Array.getElem?_toList,Cr,if_neg (by omega)]
  ·rw[List.getElem?_eq_none (by simp;omega),List.getElem?_eq_none (by simp;omega)]
end
theorem zeroF:C3 Tryz.prog 26 28 7:=C3.mk' (bytes:=80) (z:=.agg #[.int .i64 0,.string default,.int .i64 0,.int .i64 0,.int .i64 0,.int .i64 0,.slice none 0 0]) Tryz.underlying26 (by kernel_rfl) (by kernel_rfl) (by intro u hu;simp[Value.cells] at hu;rcases hu with rfl|rfl|rfl|rfl|rfl|rfl|rfl<;>rfl) (by decide)
theorem zeroRI:C3 Tryz.prog 138 93 1:=C3.mk' (bytes:=24) (z:=.slice none 0 0) Tryz.underlying138 (by kernel_rfl) (by kernel_rfl) (by intro u hu;simp[Value.cells] at hu;subst hu;rfl) (by decide)
theorem zeroRB:C3 Tryz.prog 111 74 1:=C3.mk' (bytes:=24) (z:=.slice none 0 0) Tryz.underlying111 (by kernel_rfl) (by kernel_rfl) (by intro u hu;simp[Value.cells] at hu;subst hu;rfl) (by decide)
structure Nd where
 op:Int
 name:ByteArray
 cmp:Int
 val:Int
 lo:Int
 hi:Int
inductive Tr where
 |nil
 |cons (x:Nd) (ks rest:Tr)
inductive Fo where
 |nil
 |cons (x:Nd) (A:Option Addr) (c:Nat) (ks rest:Fo)
def Fo.tr:Fo→Tr
 |.nil=>.nil
 |.cons x _ _ k r=>.cons x k.tr r.tr
def Fo.len:Fo→Nat
 |.nil=>0
 |.cons _ _ _ _ r=>r.len+1
def Tr.len:Tr→Nat
 |.nil=>0
 |.cons _ _ r=>r.len+1
def Tr.size:Tr→Nat
 |.nil=>0
 |.cons _ k r=>k.size+1+r.size
def Tr.deep:Tr→Nat
 |.nil=>0
 |.cons _ k r=>max (k.deep+1) r.deep
def Tr.nodes:Tr→Nat→List (Nd×Nat×Nat)
 |.nil,_=>[]
 |.cons x k r,d=>(x,k.len,d)::(k.nodes (d+1)++r.nodes d)
theorem Fo.tr_len (f:Fo):f.tr.len=f.len:=by
 induction f with
 |nil=>rfl
 |cons x A c k r _ ih=>simp[Fo.tr,Tr.len,Fo.len,ih]
theorem Tr.nodes_len (t:Tr):∀d,(t.nodes d).length=t.size:=by
 induction t with
 |nil=>intro d;rfl
 |cons x k r ihk ihr=>intro d;simp[Tr.nodes,Tr.size,ihk,ihr];omega
theorem Tr.deep_size (t:Tr):t.deep≤t.size:=by
 induction t with
 |nil=>exact Nat.le_refl _
 |cons x k r ihk ihr=>simp only[Tr.deep,Tr.size];omega
theorem Tr.len_size (t:Tr):t.len≤t.size:=by
 induction t with
 |nil=>exact Nat.le_refl _
 |cons x k r _ ihr=>simp only[Tr.len,Tr.size];omega
def Aq (op:Int):Nat:=if op≤3 then 0 else if op=4∨op=9∨op=10 then 1 else 2
def fcs (x:Nd)(A:Option Addr)(n c:Nat):List Value:=[.int .i64 x.op,.string x.name,.int .i64 x.cmp,.int .i64 x.val,.int .i64 x.lo,.int .i64 x.hi,.slice A n c]
theorem fcs_len (x:Nd)(A:Option Addr)(n c:Nat):(fcs x A n c).length=7:=rfl
structure SlOk (A:Option Addr) (n c:Nat):Prop where
 le:n≤c
 max:c≤maxLen
 nil:A=none→c=0
def Fo.At (N:Nat)(w:World):Nat→Nat→Fo→Prop
 |_,_,.nil=>True
 |b,off,.cons x A c ks rest=>b<N∧b<w.heap.size∧(∀j u,(fcs x A ks.len c)[j]?=some u→w.cell? ⟨b,off+j,none⟩=some u)∧SlOk A ks.len c∧
   (0<ks.len→∃bb oo,A=some ⟨bb,oo,none⟩)∧(∀bb oo,A=some ⟨bb,oo,none⟩→ks.At N w bb oo)∧rest.At N w b (off+7)
structure Au (N:Nat) (w:World) (A:Option Addr) (c:Nat) (f:Fo):Prop where
 ok:SlOk A f.len c
 some_:0<f.len→∃bb oo,A=some ⟨bb,oo,none⟩
 at_:∀bb oo,A=some ⟨bb,oo,none⟩→f.At N w bb oo
theorem Fo.At.keep {N:Nat}{w w':World}(hk:∀k,k<N→k<w.heap.size→w'.heap[k]?=w.heap[k]?):∀{f:Fo} {b off:Nat},f.At N w b off→f.At N w' b off
 |.nil,_,_,_=>trivial
 |.cons _ _ _ _ _,b,off,⟨h1,h2,h3,h4,h5,h6,h7⟩=>by
  have hb:=hk b h1 h2;refine ⟨h1,?_,fun j u hu=>(World.cell?_of_block (w:=w) (w':=w') (a:=⟨b,off+j,none⟩) hb).trans (h3 j u hu),h4,h5,fun bb oo e=>(h6 bb oo e).keep hk,h7.keep hk⟩;rcases Nat.lt_or_ge b w'.heap.size with hlt|hge;·exact hlt
  ·rw[Array.getElem?_eq_none hge,Array.getElem?_eq_getElem h2] at hb;cases hb
theorem Fo.At.mono {N M:Nat}{w:World}(hM:N≤M):∀{f:Fo} {b off:Nat},f.At N w b off→f.At M w b off
 |.nil,_,_,_=>trivial
 |.cons _ _ _ _ _,_,_,⟨h1,h2,h3,h4,h5,h6,h7⟩=>⟨Nat.lt_of_lt_of_le h1 hM,h2,h3,h4,h5,fun bb oo e=>(h6 bb oo e).mono hM,h7.mono hM⟩
theorem Au.keep {N:Nat}{w w':World}{A:Option Addr}{c:Nat}{f:Fo}(h:Au N w A c f)(hk:∀k,k<N→k<w.heap.size→w'.heap[k]?=w.heap[k]?):Au N w' A c f:=⟨h.ok,h.some_,fun bb oo e=>(h.at_ bb oo e).keep hk⟩
theorem Au.mono {N M:Nat}{w:World}{A:Option Addr}{c:Nat}{f:Fo}(h:Au N w A c f)(hM:N≤M):Au M w A c f:=⟨h.ok,h.some_,fun bb oo e=>(h.at_ bb oo e).mono hM⟩
theorem Au.fr {N:Nat}{w w':World}{A:Option Addr}{c:Nat}{f:Fo}(h:Au N w A c f)(hf:Fr Nob w w'):Au N w' A c f:=h.keep fun k _ hlt=>hf.block k hlt (fun e=>e)
theorem Fo.At.fr {N:Nat}{w w':World}{f:Fo}{b off:Nat}(h:f.At N w b off)(hf:Fr Nob w w'):f.At N w' b off:=h.keep fun k _ hlt=>hf.block k hlt (fun e=>e)
theorem Au.nil (N:Nat)(w:World):Au N w none 0 .nil:=⟨⟨Nat.le_refl _,by simp,fun _=>rfl⟩,fun h=>absurd h (by simp[Fo.len]),fun _ _ e=>by cases e⟩
def Fo.get:Fo→Nat→Fo
 |.nil,_=>.nil
 |.cons x A c ks rest,0=>.cons x A c ks rest
 |.cons _ _ _ _ rest,k+1=>rest.get k
theorem Fo.At.get {N:Nat}{w:World}:∀{f:Fo} {b off:Nat} (k:Nat),f.At N w b off→(f.get k).At N w b (off+k*7)
 |.nil,_,_,_,_=>trivial
 |.cons _ _ _ _ _,_,_,0,h=>by simpa[Fo.get] using h
 |.cons _ _ _ _ _,b,off,k+1,⟨_,_,_,_,_,_,h7⟩=>by
  have:=h7.get k;rw [show off+(k+1)*7=off+7+k*7 by omega];exact this
theorem Fo.get_cons:∀{f:Fo} {k:Nat},k<f.len→∃x A c ks rest,f.get k=.cons x A c ks rest∧rest.len+1+k=f.len
 |.nil,_,h=>by simp[Fo.len] at h
 |.cons x A c ks rest,0,_=>⟨x,A,c,ks,rest,rfl,rfl⟩
 |.cons _ _ _ _ rest,k+1,h=>by
  simp only[Fo.len] at h ⊢;obtain ⟨y,B,d,js,rs,h1,h2⟩:=Fo.get_cons (f:=rest) (k:=k) (by omega);exact ⟨y,B,d,js,rs,h1,by omega⟩
structure CG (w:World) (b off:Nat) (x:Nd) (A:Option Addr) (n c:Nat):Prop where
 h0:w.cell? ⟨b,off,none⟩=some (.int .i64 x.op)
 h1:w.cell? ⟨b,off+1,none⟩=some (.string x.name)
 h2:w.cell? ⟨b,off+2,none⟩=some (.int .i64 x.cmp)
 h3:w.cell? ⟨b,off+3,none⟩=some (.int .i64 x.val)
 h4:w.cell? ⟨b,off+4,none⟩=some (.int .i64 x.lo)
 h5:w.cell? ⟨b,off+5,none⟩=some (.int .i64 x.hi)
 h6:w.cell? ⟨b,off+6,none⟩=some (.slice A n c)
theorem CG.of {w:World}{b off:Nat}{x:Nd}{A:Option Addr}{n c:Nat}(h:∀j u,(fcs x A n c)[j]?=some u→w.cell? ⟨b,off+j,none⟩=some u):CG w b off x A n c:=
 ⟨h 0 _ rfl,h 1 _ rfl,h 2 _ rfl,h 3 _ rfl,h 4 _ rfl,h 5 _ rfl,h 6 _ rfl⟩
theorem Fo.At.lt {N:Nat}{w:World}{x:Nd}{A:Option Addr}{c:Nat}{ks rest:Fo}{b off:Nat}(h:(Fo.cons x A c ks rest).At N w b off):b<N∧b<w.heap.size:=⟨h.1,h.2.1⟩
theorem Fo.get_size:∀{f:Fo} {k:Nat} {x:Nd} {A:Option Addr} {c:Nat} {ks rest:Fo},f.get k=.cons x A c ks rest→ks.tr.size+1+rest.tr.size≤f.tr.size
 |.nil,_,_,_,_,_,_,h=>by simp[Fo.get] at h
 |.cons _ _ _ _ _,0,_,_,_,_,_,h=>by
  simp only[Fo.get,Fo.cons.injEq] at h;obtain ⟨rfl,rfl,rfl,rfl,rfl⟩:=h;simp [Fo.tr,Tr.size]
 |.cons _ _ _ _ rest,k+1,_,_,_,_,_,h=>by
  have:=Fo.get_size (f:=rest) (k:=k) h;simp only[Fo.tr,Tr.size];omega
theorem Fo.get_succ:∀{f:Fo} {k:Nat} {x:Nd} {A:Option Addr} {c:Nat} {ks rest:Fo},f.get k=.cons x A c ks rest→f.get (k+1)=rest
 |.nil,_,_,_,_,_,_,h=>by simp[Fo.get] at h
 |.cons _ _ _ _ r,0,_,_,_,_,_,h=>by
  simp only[Fo.get,Fo.cons.injEq] at h;obtain ⟨rfl,rfl,rfl,rfl,rfl⟩:=h;cases r<;>rfl
 |.cons _ _ _ _ rest,k+1,_,_,_,_,_,h=>Fo.get_succ (f:=rest) (k:=k) h
theorem Fo.get_end:∀{f:Fo} {k:Nat},f.len≤k→f.get k=.nil
 |.nil,_,_=>rfl
 |.cons _ _ _ _ _,0,h=>by simp[Fo.len] at h
 |.cons _ _ _ _ rest,k+1,h=>Fo.get_end (f:=rest) (by simp only[Fo.len] at h;omega)
theorem Fo.get_zero (f:Fo):f.get 0=f:=by cases f<;>rfl
theorem Fo.len_size (f:Fo):f.len≤f.tr.size:=by rw[←Fo.tr_len];exact f.tr.len_size
structure KidAt (N:Nat) (w:World) (A:Option Addr) (c:Nat) (f:Fo) (k:Nat) (b off:Nat) (y:Nd) (B:Option Addr) (d:Nat) (js rs:Fo):Prop where
 slice:A=some ⟨b,off,none⟩
 get:f.get k=.cons y B d js rs
 lt:b<w.heap.size
 bN:b<N
 nd:CG w b (off+k*7) y B js.len d
 sl:Au N w B d js
 len:rs.len+1+k=f.len
 size:js.tr.size+1+rs.tr.size≤f.tr.size
theorem Au.kid {N:Nat}{w:World}{A:Option Addr}{c:Nat}{f:Fo}{k:Nat}(h:Au N w A c f)(hk:k<f.len):∃b off y B d js rs,KidAt N w A c f k b off y B d js rs:=by
 obtain⟨b,off,hA⟩:=h.some_ (by omega);obtain ⟨y,B,d,js,rs,hg,hl⟩:=Fo.get_cons hk;have ha:=(h.at_ b off hA).get k;rw [hg] at ha;obtain ⟨h1,h2,h3,h4,h5,h6,_⟩:=ha;exact ⟨b,off,y,B,d,js,rs,hA,hg,h2,h1,CG.of h3,⟨h4,h5,h6⟩,hl,Fo.get_size hg⟩
theorem CG.fr {w w':World}{b off:Nat}{x:Nd}{A:Option Addr}{n c:Nat}(h:CG w b off x A n c)(hf:Fr Nob w w'):CG w' b off x A n c:=
 ⟨hf.cell h.h0 (fun e=>e),hf.cell h.h1 (fun e=>e),hf.cell h.h2 (fun e=>e),hf.cell h.h3 (fun e=>e),hf.cell h.h4 (fun e=>e),hf.cell h.h5 (fun e=>e),hf.cell h.h6 (fun e=>e)⟩
def AF (x:Nd)(A:Option Addr)(n c:Nat):Value:=.agg #[.int .i64 x.op,.string x.name,.int .i64 x.cmp,.int .i64 x.val,.int .i64 x.lo,.int .i64 x.hi,.slice A n c]
theorem ref_Size:∀(m:Nat) (N:Nat) (w:World) (x:Nd) (A:Option Addr) (c:Nat) (ks:Fo),ks.tr.size≤m→ks.tr.size≤100000→Au N w A c ks→
 Calls Tryz.prog 112 #[AF x A ks.len c] w fun e w'=>e=.returned (.int .i64 (ks.tr.size+1:Nat))∧Fr Nob w w':=by
 intro m
 induction m with
 |zero=>
  intro N w x A c ks hm _ hs;have hn:ks.len=0:=by have:=ks.len_size;omega
  have hz:ks.tr.size=0:=by omega
  rw[hn,hz];unfold AF;go_enter Tryz.func112,Tryz.ntmps112;go_wp2_with fail;go_loopw [3,4] (fun s i wr=>s=.int .i64 1∧i=.int .i64 0∧wr=w.alloc (.cells #[.int .i64 x.op,.string x.name,.int .i64 x.cmp,.int .i64 x.val,.int .i64 x.lo,.int .i64 x.hi,.slice A 0 c] 39)) (fun _ _ _=>0);case atStart=>exact⟨rfl,rfl,rfl⟩
  case round=>
   obtain⟨rfl,rfl,rfl⟩:=hrel;go_wp2_with fail;go_ret;exact ⟨rfl,(Fr.refl _ _).alloc _⟩
 |succ m ih=>
  intro N w x A c ks hm hb hs;have IH:=AA ih;have HS:=AA hs;have hlen:=ks.len_size;clear ih hs;unfold AF at*;go_enter Tryz.func112,Tryz.ntmps112;go_wp2_with fail;go_loopw [3,4] (fun s i wr=>∃k:Nat,k≤ks.len∧i=.int .i64 k∧s=.int .i64 ((ks.tr.size-(ks.get k).tr.size+1:Nat):Int)∧Hid ((ks.get k).tr.size≤ks.tr.size)∧Hid (Fr Nob w wr)∧Hid (Blk wr w.heap.size 39 #[.int .i64 x.op,.string x.name,.int .i64 x.cmp,.int .i64 x.val,.int .i64 x.lo,.int .i64 x.hi,.slice A ks.len c])) (fun _ i _=>ks.len-(intOf i).toNat);case atStart=>exact⟨0,Nat.zero_le _,rfl,by rw[Fo.get_zero,Nat.sub_self];rfl,AA (by rw[Fo.get_zero];exact Nat.le_refl _),AA ((Fr.refl _ _).alloc _),AA (Blk.new _ _ _)⟩
  case round=>
   obtain⟨k,hk,rfl,rfl,hle,hfr,hbx⟩:=hrel;have c6:wr.cell? ⟨w.heap.size,6,none⟩=some (.slice A ks.len c):=hbx.out.cell 6;have hbl:=Blk.lt hbx.out;by_cases hlt:k<ks.len
   ·have hI:(k:Int)<ks.len:=by omega
    have hI3:0≤(k:Int):=by omega
    obtain⟨b,off,y,B,d,js,rs,K⟩:=(HS.out.fr hfr.out).kid hlt;obtain ⟨d0,d1,d2,d3,d4,d5,d6⟩:=K.nd;obtain rfl:=K.slice;have hlt2:=K.lt;have hsz:=K.size;have hl1:=hle.out;have hg:=K.get;have hg2:=Fo.get_succ hg;have HC:=AA (IH.out N wr y B d js (by omega) (by omega) K.sl)
    have HE:=AA (show (ks.tr.size-(ks.get k).tr.size+1+(js.tr.size+1)=ks.tr.size-(ks.get (k+1)).tr.size+1)∧(ks.get (k+1)).tr.size≤ks.tr.size by
     rw[hg2];rw[hg] at hl1 ⊢;simp only[Fo.tr,Tr.size] at hl1 ⊢;omega);clear hg hg2 K;generalize ks.tr.size-(ks.get k).tr.size+1=a at*;have ha:a≤100001:=by have:=HE.out.1;omega
    go_wp2_with ((go_at_call 112);refine(HC.out).mono ?_;rintro e w1 ⟨rfl,hf⟩);go_roundw;case rel=>exact⟨k+1,by omega,by go_num,vint (by have:=HE.out.1;omega),AA HE.out.2,AA (hfr.out.call hf (fun _ h _=>h)),AA (hbx.out.fr hf (fun e=>e))⟩
    case measure=>simp[intOf];omega
   ·have HE:=AA (show ks.tr.size-(ks.get k).tr.size+1=ks.tr.size+1 by rw[Fo.get_end (by omega)];rfl);go_wp2_with fail;go_ret;rw [HE.out];exact ⟨rfl,hfr.out⟩
theorem ref_Deep:∀(m:Nat) (N:Nat) (w:World) (x:Nd) (A:Option Addr) (c:Nat) (ks:Fo),ks.tr.size≤m→ks.tr.size≤100000→Au N w A c ks→
 Calls Tryz.prog 113 #[AF x A ks.len c] w fun e w'=>e=.returned (.int .i64 (ks.tr.deep+1:Nat))∧Fr Nob w w':=by
 intro m
 induction m with
 |zero=>
  intro N w x A c ks hm _ hs;have hn:ks.len=0:=by have:=ks.len_size;omega
  have hz:ks.tr.deep=0:=by have:=ks.tr.deep_size;omega
  rw[hn,hz];unfold AF;go_enter Tryz.func113,Tryz.ntmps113;go_wp2_with fail;go_loopw [3,4] (fun s i wr=>s=.int .i64 0∧i=.int .i64 0∧wr=w.alloc (.cells #[.int .i64 x.op,.string x.name,.int .i64 x.cmp,.int .i64 x.val,.int .i64 x.lo,.int .i64 x.hi,.slice A 0 c] 39)) (fun _ _ _=>0);case atStart=>exact⟨rfl,rfl,rfl⟩
  case round=>
   obtain⟨rfl,rfl,rfl⟩:=hrel;go_wp2_with fail;go_ret;exact ⟨rfl,(Fr.refl _ _).alloc _⟩
 |succ m ih=>
  intro N w x A c ks hm hb hs;have IH:=AA ih;have HS:=AA hs;have hlen:=ks.len_size;have hdm:=ks.tr.deep_size;clear ih hs;unfold AF at*;go_enter Tryz.func113,Tryz.ntmps113;go_wp2_with fail;go_loopw [3,4] (fun s i wr=>∃k v:Nat,k≤ks.len∧i=.int .i64 k∧s=.int .i64 v∧Hid (max v (ks.get k).tr.deep=ks.tr.deep)∧Hid (Fr Nob w wr)∧Hid (Blk wr w.heap.size 39 #[.int .i64 x.op,.string x.name,.int .i64 x.cmp,.int .i64 x.val,.int .i64 x.lo,.int .i64 x.hi,.slice A ks.len c])) (fun _ i _=>ks.len-(intOf i).toNat);case atStart=>exact⟨0,0,Nat.zero_le _,rfl,rfl,AA (by rw[Fo.get_zero];omega),AA ((Fr.refl _ _).alloc _),AA (Blk.new _ _ _)⟩
  case round=>
   obtain⟨k,v,hk,rfl,rfl,hle,hfr,hbx⟩:=hrel;have c6:wr.cell? ⟨w.heap.size,6,none⟩=some (.slice A ks.len c):=hbx.out.cell 6;have hbl:=Blk.lt hbx.out;have hv:v≤100000:=by have:=hle.out;omega
   by_cases hlt:k<ks.len
   ·have hI:(k:Int)<ks.len:=by omega
    have hI3:0≤(k:Int):=by omega
    obtain⟨b,off,y,B,d,js,rs,K⟩:=(HS.out.fr hfr.out).kid hlt;obtain ⟨d0,d1,d2,d3,d4,d5,d6⟩:=K.nd;obtain rfl:=K.slice;have hlt2:=K.lt;have hsz:=K.size;have hg:=K.get;have hg2:=Fo.get_succ hg;have HC:=AA (IH.out N wr y B d js (by omega) (by omega) K.sl)
    have HE:=AA (show max (max v (js.tr.deep+1)) (ks.get (k+1)).tr.deep=ks.tr.deep by
     have:=hle.out;rw[hg] at this;rw[hg2];simp only[Fo.tr,Tr.deep] at this;omega);have hjd:js.tr.deep+1≤100000:=by have:=HE.out;omega
    clear hg hg2 K;by_cases hgt:v<js.tr.deep+1
    ·have hgtI:(v:Int)< ((js.tr.deep+1:Nat):Int):=by omega
     generalize js.tr.deep+1=u at*;go_wp2_with ((go_at_call 113);refine(HC.out).mono ?_;rintro e w1 ⟨rfl,hf⟩);go_roundw;case rel=>exact⟨k+1,u,by omega,by go_num,rfl,AA (by have:=HE.out;omega),AA (hfr.out.call hf (fun _ h _=>h)),AA (hbx.out.fr hf (fun e=>e))⟩
     case measure=>simp[intOf];omega
    ·have hgtI:((js.tr.deep+1:Nat):Int)≤v:=by omega
     generalize js.tr.deep+1=u at*;go_wp2_with ((go_at_call 113);refine(HC.out).mono ?_;rintro e w1 ⟨rfl,hf⟩);go_roundw;case rel=>exact⟨k+1,v,by omega,by go_num,rfl,AA (by have:=HE.out;omega),AA (hfr.out.call hf (fun _ h _=>h)),AA (hbx.out.fr hf (fun e=>e))⟩
     case measure=>simp[intOf];omega
   ·have HE:=AA (show v=ks.tr.deep by have:=hle.out;rw[Fo.get_end (by omega)] at this;simpa[Fo.tr,Tr.deep] using this);go_wp2_with fail;go_ret;rw [←HE.out];exact ⟨Gc (by omega),hfr.out⟩
def CO:Tr→Nat→Nat
 |.nil,m=>m
 |.cons x k r,m=>if m=0 then 0 else CO r (if 40<x.name.size then 0 else CO k (m-1))
theorem Ed (t:Tr):CO t 0=0:=by cases t<;>simp[CO]
theorem leftF_le (t:Tr):∀m,CO t m≤m:=by
 induction t with
 |nil=>intro m;exact Nat.le_refl _
 |cons x k r ihk ihr=>
  intro m;unfold CO;split;·omega
  ·split;·rw[Ed];omega
   ·have:=ihk (m-1);have:=ihr (CO k (m-1));omega
def left1 (x:Nd)(ks:Tr)(n:Nat):Nat:=if n=0∨40<x.name.size then 0 else CO ks (n-1)
def Tr.shortN:Tr→Prop
 |.nil=>True
 |.cons x k r=>x.name.size≤40∧k.shortN∧r.shortN
theorem leftF_pos (t:Tr):∀m,0<CO t m→t.size+CO t m=m∧t.shortN:=by
 induction t with
 |nil=>intro m _;simp[Tr.size,CO,Tr.shortN]
 |cons x k r ihk ihr=>
  intro m h;unfold CO at h ⊢;split at h;·omega
  ·rename_i hm;split at h;·rw[Ed] at h;omega
   ·rename_i hx;rw [if_neg hm,if_neg hx];obtain ⟨h1,h2⟩:=ihr _ h;obtain ⟨h3,h4⟩:=ihk (m-1) (by omega);simp only[Tr.size,Tr.shortN];exact ⟨by omega,by omega,h4,h2⟩
theorem left1_pos {x:Nd}{ks:Tr}{n:Nat}(h:0<left1 x ks n):ks.size+1≤n∧x.name.size≤40∧ks.shortN:=by
 unfold left1 at h;split at h;·omega
 ·obtain⟨h1,h2⟩:=leftF_pos ks _ h;exact ⟨by omega,by omega,h2⟩
end Go.Proofs.YtoegdmpmagbaiaaGreatDoor
namespace Go.Proofs.YtoegdmpmagbaiaaGreatDoor
open Go.RowKit Go.Shelf
def Far {β:Type}(B:Nat)(J:β→World→Prop):Prop:=∀s W W' row,J s W→W.grownBy W' row→(∀r,row=some r→B≤r)→J s W'
theorem Far.put {β:Type}{B:Nat}{J:β→World→Prop}(h:Far B J){s:β}{W:World}{l:Nat}(o:Obj)(hs:J s W)(hl:B≤l):J s (W.putObj l o):=
 h s W _ (some l) hs (grownBy_putObj' W l o) (fun r e=>by cases e;exact hl)
theorem Far.alloc {β:Type}{B:Nat}{J:β→World→Prop}(h:Far B J){s:β}{W:World}(o:Obj)(hs:J s W):J s (W.alloc o):=
 h s W _ none hs (World.grownBy_alloc W o none) (fun r e=>by cases e)
theorem Far.and {β:Type}{B:Nat}{J K:β→World→Prop}(h:Far B J)(k:Far B K):Far B (fun s W=>J s W∧K s W):=fun s W W' row hs hg hr=>⟨h s W W' row hs.1 hg hr,k s W W' row hs.2 hg hr⟩
theorem Far.mono {β:Type}{B C:Nat}{J:β→World→Prop}(h:Far B J)(hc:B≤C):Far C J:=fun s W W' row hs hg hr=>h s W W' row hs hg fun r e=>Nat.le_trans hc (hr r e)
theorem DW {β:Type}{B k:Nat}{o:Obj}(hk:k<B):Far B (fun (_:β) W=>W.heap[k]?=some o):=fun _ _ _ _ hs hg hr=>
 (hg.block k (Array.getElem?_eq_some_iff.1 hs).1 (fun e=>by have:=hr k e.symm;omega)).trans hs
theorem ES {β:Type}{B m:Nat}{w0:World}(hm:m≤w0.heap.size)(hB:m≤B):Far B (fun (_:β) W=>Below m w0 W):=fun _ _ _ _ hs hg hr=>
 hs.grown hg (Nat.le_trans hm hs.size) (fun k e=>Nat.le_trans hB (hr k e))
theorem D8 {β:Type}{B:Nat}{J:β→Prop}:Far B (fun s _=>J s):=fun _ _ _ _ hs _ _=>hs
def KpS (S:Nat→Prop)(W W':World):Prop:=W.heap.size≤W'.heap.size∧∀k o,W.heap[k]?=some o→o.isCells=true→¬S k→W'.heap[k]?=some o
theorem KpS.refl (S:Nat→Prop)(W:World):KpS S W W:=⟨Nat.le_refl _,fun _ _ h _ _=>h⟩
theorem KpS.trans {S:Nat→Prop}{A B C:World}(h:KpS S A B)(k:KpS S B C):KpS S A C:=⟨Nat.le_trans h.1 k.1,fun i o hi hc hn=>k.2 i o (h.2 i o hi hc hn) hc hn⟩
theorem KpS.put {S:Nat→Prop}(W:World)(l:Nat)(o o':Obj)(h:W.heap[l]?=some o)(hc:o.isCells=false):KpS S W (W.putObj l o'):=
 ⟨by simp,fun _ q hk hq _=>(World.putObj_heap_other (fun e=>by subst e;rw[h] at hk;cases hk;rw[hc] at hq;cases hq)).trans hk⟩
theorem KpS.fr {S:Nat→Prop}{W W':World}(h:Fr S W W'):KpS S W W':=⟨h.size,fun k _ hk _ hn=>(h.block k (Array.getElem?_eq_some_iff.1 hk).1 hn).trans hk⟩
variable {F:Fence} {n:Nat} {P:Program}
def SeqFar {α:Type}(F:Fence)(n:Nat)(P:Program)(g:Nat)(lb:Array Value)(encs:α→Array Value)(S:Nat→Prop)(xs:List α)(w:World):Prop:=
 ∀(l:Nat) (J Jx:List α→World→Prop) (W:World),Below w.heap.size w W→Far W.heap.size J→Far W.heap.size Jx→
  (∀pre x W1,J pre W1→pre++[x]<+:xs→YieldAt F (n-1) P l (encs x) W1 fun e W'=>
    (e=.returned (.bool true)∧J (pre++[x]) W'∧KpS S W1 W'∧KeepsFrom W.heap.size W1 W')∨(e=.returned (.bool false)∧Jx (pre++[x]) W'∧KeepsFrom W.heap.size W1 W'))→
  J [] W→
  CallsIn F n P g (#[.func (.yield l) #[] #[]]++lb) W fun e W'=>(∃v,e=.returned v)∧(J xs W'∨∃pre,pre<+:xs∧Jx pre W')
theorem range_farG {α:Type}{g:Operand}{ps:Array Tmp}{assign body:Code}{Q:Exit→Act→World→Prop}{a:Act}{w:World}
 (hro:F.round=none)(h1:1≤n){gf:Nat}{lb:Array Value}(hg:a.eval g=.func (.func gf) #[] lb)(hFg:F.fn gf)(eg:∀args w,(callFunc gf args).run P w=.ok (.enter gf args) w)
 {encs:α→Array Value}{S:Nat→Prop}{xs:List α}{w0:World}(hseq:SeqFar F (n-1) P gf lb encs S xs w0)(hb0:Below w0.heap.size w0 w)(hps:∀x,(encs x).size=ps.size)
 (I:List α→World→Prop)(Ix:Code→List α→World→Prop)(hI:Far w.heap.size I)(hIx:∀c,Far w.heap.size (Ix c))(h0:I [] w)(a₁:α→Act)
 (hassign:∀(l:Nat) (x:α) (W:World) (K:Act→World→Prop),K (a₁ x) W→
   assign.wpIn (F.inRound l) (n-1-1) P (Exit.then K (fun _ _ _=>False)) {tmps:=(ps.zip (encs x)).foldl (fun t (p,v)=>t.setIfInBounds p v) a.tmps,defers:=[]} W)
 (hbody:∀(l:Nat) (pre:List α) (x:α) (W:World),I pre W→pre++[x]<+:xs→body.wpIn (F.inRound l) (n-1-1) P (ownPostG w.heap.size (KpS S) I Ix (pre++[x]) W) (a₁ x) W)
 (hdone:∀(D:Nat) (W:World),w.heap.size≤D→I xs W→W.heap[D]?=some (.deferred (some []))→Q .normal {a with defers:={target:=.collected D,args:=#[]}::a.defers} W)
 (hstop:∀(D:Nat) (c:Code) (pre:List α) (W:World),w.heap.size≤D→pre<+:xs→Ix c pre W→W.heap[D]?=some (.deferred (some []))→c.wpIn F n P Q {a with defers:={target:=.collected D,args:=#[]}::a.defers} W):
 (Code.rangeFunc g ps assign body).wpIn F n P Q a w:=by
 refine wpIn_rangeFunc fun fn hfn=>?_;rw [hro];obtain ⟨B,hB⟩:∃B,w.heap.size=B:=⟨_,rfl⟩;obtain ⟨rec,hrec⟩:∃rec:LoopState→Option Code→Loop,rec=fun st pe=>{state:=st,pending:=pe,fn,tmps:=a.tmps,params:=ps,assign,body,defers:=B}:=⟨_,rfl⟩;obtain ⟨W1,hW1⟩:∃W1,(w.alloc (.deferred (some []))).alloc (.loop (rec .ready none))=W1:=⟨_,rfl⟩;have hsz:W1.heap.size=B+2:=by rw[←hW1];simp[hB]
 have hL1:W1.heap[B+1]?=some (.loop (rec .ready none)):=by
  have:=World.alloc_heap_new (w.alloc (.deferred (some []))) (.loop (rec .ready none));rw [World.size_alloc,hB,hW1] at this;exact this
 have hK1:W1.heap[B]?=some (.deferred (some [])):=by
  have h:=World.alloc_heap_new w (.deferred (some []));rw [hB] at h;rw [←hW1];exact(Below.heap_alloc _ _ B (by simp[hB])).trans h
 rw[hB] at hI hIx;have hI1:I [] W1:=by rw[←hW1];exact hI.alloc _ (hI.alloc _ h0)
 have hb1:Below w0.heap.size w0 W1:=by
  have:=hb0.size;rw [←hW1];exact(hb0.alloc (by omega) _).alloc (by simp;omega) _
 refine⟨B+1,[{target:=.collected B,args:=#[]}],W1,{target:=.fn (.func gf) lb,args:=#[.func (.yield (B+1)) #[] #[]]},W1,gf,
  #[.func (.yield (B+1)) #[] #[]]++lb,W1,?_,?_,?_,?_,fun _=>h1,?_⟩;·rw[←hW1,hrec,←hB];exact run_enterLoop_outer _ _ _ _ _
 ·simp only[resolve,hg];simp [go_sem]
 ·intro f' hf';simp[Target.leads] at hf';subst hf';exact hFg
 ·simp[invoke,go_sem,eg]
 let Jb:World→Prop:=fun W=>W.heap[B]?=some (.deferred (some []))
 refine(hseq (B+1) (fun pre W=>I pre W∧W.heap[B+1]?=some (.loop (rec .ready none))∧Jb W)
  (fun pre W=>∃c,Ix c pre W∧W.heap[B+1]?=some (.loop (rec .done (some c)))∧Jb W) W1 hb1
  ((hI.mono (by omega)).and ((DW (by omega)).and (DW (by omega)))) ?_ ?_ ⟨hI1,hL1,hK1⟩).mono ?_
 ·rintro s A C row ⟨c,hc,hl,hk⟩ hgr hr;exact ⟨c,(hIx c).mono (by omega) s A C row hc hgr hr,DW (β:=Unit) (by omega) () A C row hl hgr hr,DW (β:=Unit) (by omega) () A C row hk hgr hr⟩
 ·rintro pre x W ⟨hi,hl,hk⟩ hpre;have hlt:B+1<W.heap.size:=(Array.getElem?_eq_some_iff.1 hl).1;have hy:=run_yield (P:=P) (args:=encs x) hl (by rw[hrec];exact hps x);rw [hrec] at hy;refine ⟨fn,_,assign,body,hy,roundIn_of_wpIn hfn (hassign _ x W _ ⟨_,run_beginRound hl (by rw[hrec]),?_⟩)⟩;obtain ⟨W2,hW2⟩:∃W2,W.putObj (B+1) (.loop {rec .ready none with state:=.busy})=W2:=⟨_,rfl⟩;rw [hW2];have hl2:W2.heap[B+1]?=some (.loop {rec .ready none with state:=.busy}):=by rw[←hW2];exact World.putObj_heap_same hlt
  have hk2:Jb W2:=by rw[←hW2];exact(World.putObj_heap_other (by omega)).trans hk
  have hw2:KpS S W W2:=by rw[←hW2];exact KpS.put _ _ _ _ hl rfl
  refine wpIn_mono (hbody _ pre x _ (by rw[←hW2];exact hI.put _ hi (by omega)) hpre) ?_
  have fin:∀(jump:Option Code) (W3:World),KeepsFrom w.heap.size W2 W3→
   (Instr.endRound (B+1) jump).run P W3=.ok (.bool jump.isNone) (W3.putObj (B+1) (.loop (rec (if jump.isNone then .ready else .done) jump)))∧
   W3.heap[B+1]?=some (.loop {rec .ready none with state:=.busy})∧
   (W3.putObj (B+1) (.loop (rec (if jump.isNone then .ready else .done) jump))).heap[B+1]?=some (.loop (rec (if jump.isNone then .ready else .done) jump))∧
   Jb (W3.putObj (B+1) (.loop (rec (if jump.isNone then .ready else .done) jump))):=fun jump W3 hk3=>by
   have hl3:=hk3.same _ _ (by omega) hl2 rfl;have hr:=run_endRound (P:=P) jump hl3;rw [hrec] at hr ⊢;exact ⟨hr,by rw[hrec] at hl3;exact hl3,World.putObj_heap_same (Array.getElem?_eq_some_iff.1 hl3).1,(World.putObj_heap_other (by omega)).trans (hk3.same _ _ (by omega) hk2 rfl)⟩
  have keep:∀(W3:World) (o:Obj),KeepsFrom w.heap.size W2 W3→KeepsFrom W1.heap.size W (W3.putObj (B+1) o):=fun W3 o hk3=>by
   have h1:KeepsFrom W1.heap.size W W2:=by rw[←hW2];exact KeepsFrom.of_grownBy (grownBy_putObj' _ _ _) (fun j e=>by cases e;omega)
   have h2:KeepsFrom W1.heap.size W2 W3:=⟨hk3.size,fun k o hk=>hk3.same k o (by omega)⟩;exact (h1.trans h2).trans (KeepsFrom.of_grownBy (grownBy_putObj' _ _ _) (fun j e=>by cases e;omega))
  rintro e a3 W3 hp
  cases e with
  |normal=>
   obtain⟨hk3,hkp3,hi3⟩:=hp;obtain ⟨hr,hl3,hl4,hk4⟩:=fin none W3 hk3;exact ⟨_,_,hr,.inl ⟨rfl,⟨hI.put _ hi3 (by omega),hl4,hk4⟩,(hw2.trans hkp3).trans (KpS.put _ _ _ _ hl3 rfl),keep _ _ hk3⟩⟩
  |ret=>
   obtain⟨hk3,hi3⟩:=hp;obtain ⟨hr,hl3,hl4,hk4⟩:=fin (some .ret) W3 hk3;exact ⟨_,_,hr,.inr ⟨rfl,⟨.ret,(hIx _).put _ hi3 (by omega),hl4,hk4⟩,keep _ _ hk3⟩⟩
  |exit id=>
   obtain⟨hk3,hi3⟩:=hp;obtain ⟨hr,hl3,hl4,hk4⟩:=fin (some (.exit id)) W3 hk3;exact ⟨_,_,hr,.inr ⟨rfl,⟨.exit id,(hIx _).put _ hi3 (by omega),hl4,hk4⟩,keep _ _ hk3⟩⟩
  |goto t=>
   obtain⟨hk3,hi3⟩:=hp;obtain ⟨hr,hl3,hl4,hk4⟩:=fin (some (.goto t)) W3 hk3;exact ⟨_,_,hr,.inr ⟨rfl,⟨.goto t,(hIx _).put _ hi3 (by omega),hl4,hk4⟩,keep _ _ hk3⟩⟩
  |panic ch=>exact hp.elim
  |outgrown=>exact hp.elim
 ·rintro e W2 ⟨⟨v,rfl⟩,(⟨hi,hl,hk⟩|⟨pre,hpre,c,hi,hl,hk⟩)⟩;·exact⟨none,_,by have:=run_endLoop (P:=P) hl (by rw[hrec];simp);rw[hrec] at this;exact this,hdone B _ (by omega) (hI.put _ hi (by omega)) ((World.putObj_heap_other (by omega)).trans hk)⟩
  ·exact⟨some c,_,by have:=run_endLoop (P:=P) hl (by rw[hrec];simp);rw[hrec] at this;exact this,hstop B c pre _ (by omega) hpre ((hIx c).put _ hi (by omega)) ((World.putObj_heap_other (by omega)).trans hk)⟩
theorem range_far {α:Type}{g:Operand}{ps:Array Tmp}{assign body:Code}{Q:Exit→Act→World→Prop}{a:Act}{w:World}
 (hro:F.round=none)(h1:1≤n){gf:Nat}{lb:Array Value}(hg:a.eval g=.func (.func gf) #[] lb)(hFg:F.fn gf)(eg:∀args w,(callFunc gf args).run P w=.ok (.enter gf args) w)
 {encs:α→Array Value}{S:Nat→Prop}{xs:List α}{w0:World}(hseq:SeqFar F (n-1) P gf lb encs S xs w0)(hb0:Below w0.heap.size w0 w)(hps:∀x,(encs x).size=ps.size)
 (I:List α→World→Prop)(Ix:Code→List α→World→Prop)(hI:Far w.heap.size I)(hIx:∀c,Far w.heap.size (Ix c))(h0:I [] w)(a₁:α→Act)
 (hassign:∀(l:Nat) (x:α) (W:World) (K:Act→World→Prop),K (a₁ x) W→
   assign.wpIn (F.inRound l) (n-1-1) P (Exit.then K (fun _ _ _=>False)) {tmps:=(ps.zip (encs x)).foldl (fun t (p,v)=>t.setIfInBounds p v) a.tmps,defers:=[]} W)
 (hbody:∀(l:Nat) (pre:List α) (x:α) (W:World),I pre W→pre++[x]<+:xs→body.wpIn (F.inRound l) (n-1-1) P (ownPostK (KpS S) I Ix (pre++[x]) W) (a₁ x) W)
 (hdone:∀(D:Nat) (W:World),w.heap.size≤D→I xs W→W.heap[D]?=some (.deferred (some []))→Q .normal {a with defers:={target:=.collected D,args:=#[]}::a.defers} W)
 (hstop:∀(D:Nat) (c:Code) (pre:List α) (W:World),w.heap.size≤D→pre<+:xs→Ix c pre W→W.heap[D]?=some (.deferred (some []))→c.wpIn F n P Q {a with defers:={target:=.collected D,args:=#[]}::a.defers} W):
 (Code.rangeFunc g ps assign body).wpIn F n P Q a w:=
 range_farG hro h1 hg hFg eg hseq hb0 hps I Ix hI hIx h0 a₁ hassign (fun l pre x W hi hp=>wpIn_mono (hbody l pre x W hi hp) ownPostG_of_ownPostK) hdone hstop
end Go.Proofs.YtoegdmpmagbaiaaGreatDoor
