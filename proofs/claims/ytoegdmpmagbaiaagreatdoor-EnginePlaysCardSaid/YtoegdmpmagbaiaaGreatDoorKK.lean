/- A formula's nodes in a row, kids ahead of their node. -/
import Derived.Test.YtoegdmpmagbaiaaGreatDoorKH
import Derived.StillTailTactics
set_option maxHeartbeats 16000000
set_option maxRecDepth 100000
namespace Go.Proofs.YtoegdmpmagbaiaaGreatDoor
open Go.RowKit Go.Lib Go.Sort
theorem own_pre {w:World}{base e size:Nat}{A:Option Addr}{n c m:Nat}{xs ys:List Value}(h:w.ownsRow base e size (.slice A n c) n (xs++ys))(hx:xs.length=m*size)(hm:m≤n)(hA:∃a,A=some a):w.ownsRow base e size (.slice A m c) m xs:=by
 obtain⟨a,rfl⟩:=hA;refine ⟨hx,.inr ?_⟩;rcases h.2 with⟨h1,_⟩|⟨g,cap,cur,hv,hb,hg,hn,hmx,hs,ht⟩;·cases h1
 ·simp only[Value.slice.injEq] at hv;obtain ⟨h1,_,rfl⟩:=hv;cases h1;refine ⟨g,c,cur,rfl,hb,hg,Nat.le_trans hm hn,hmx,hs,?_⟩
  have h2:cur.toList.take (m*size)=(cur.toList.take (n*size)).take (m*size):=by
   rw[List.take_take,Nat.min_eq_left (Nat.mul_le_mul_right _ hm)]
  rw[h2,ht,←hx,List.take_left]
theorem Cb {w:World}{base e size:Nat}{A:Option Addr}{n c:Nat}{xs:List Value}(h:w.ownsRow base e size (.slice A n c) n xs)(hA:∃a,A=some a):∃g cur post,A=some ⟨g,0,none⟩∧base≤g∧Blk w g e cur∧cur.toList=xs++post∧n≤c∧c≤maxLen∧cur.size=c*size:=by
 obtain⟨a,rfl⟩:=hA;rcases h.2 with⟨h1,_⟩|⟨g,cap,cur,hv,hb,hg,hn,hmx,hs,ht⟩;·cases h1
 ·simp only[Value.slice.injEq] at hv;obtain ⟨h1,_,rfl⟩:=hv;cases h1;exact ⟨g,cur,cur.toList.drop (n*size),rfl,hb,hg,by rw[←ht,List.take_append_drop],hn,hmx,hs⟩
theorem own_of {w:World}{base e size:Nat}{g n c:Nat}{cur:Array Value}{xs post:List Value}(hb:base≤g)(hg:Blk w g e cur)(hc:cur.toList=xs++post)(hx:xs.length=n*size)(hn:n≤c)(hm:c≤maxLen)(hs:cur.size=c*size):w.ownsRow base e size (.slice (some ⟨g,0,none⟩) n c) n xs:=
 ⟨hx,.inr ⟨g,c,cur,rfl,hb,hg,hn,hm,hs,by rw[hc,←hx,List.take_left]⟩⟩
theorem F5 {w:World}{base g n c:Nat}{pre l:List FN}(h:w.ownsRow base 28 7 (.slice (some ⟨g,0,none⟩) n c) n ((pre++l).flatMap fnc))(hn:(pre++l).length=n)(hsz:l.length≤1000000)(cap:Nat):
 Calls Tryz.prog 86 #[.slice (some ⟨g,pre.length*7,none⟩) l.length cap] w fun e w'=>e=.returned (.tuple #[])∧w'.ownsRow base 28 7 (.slice (some ⟨g,0,none⟩) n c) n ((pre++l.reverse).flatMap fnc)∧Fr (Ah g) w w':=by
 obtain⟨g',cur,post,hA,hb,hblk,hc,hn1,hmx,hs⟩:=Cb h ⟨_,rfl⟩;cases hA;rw [List.flatMap_append,List.append_assoc] at hc;have ho:(pre.flatMap fnc).length=pre.length*7:=Ad fnc 7 BD pre;have R:RowK fnc 7 w g (pre.length*7) l.toArray:=⟨BD,ER,holdsG_of BD (by decide) hblk hc ho,hblk.lt⟩;have hC:=sl_RevF (cap:=cap) R (by simpa using hsz);rw [List.size_toArray] at hC;refine hC.mono fun e w' ⟨he,hw⟩=>⟨he,?_,swk_frk hw⟩;obtain ⟨cur',hb',hc',hs'⟩:=swk_blk BD (by decide) (m:=l.reverse) hblk hc ho (by simp) hw;refine own_of hb hb' (by rw[hc',List.flatMap_append,List.append_assoc]) ?_ hn1 hmx (by rw[hs',hs]);rw [Ad fnc 7 BD,←hn];simp
theorem DB:BP Tryz.prog 26 28 7 80:=BP.mk (z:=.agg #[.int .i64 0,.string default,.int .i64 0,.int .i64 0,.int .i64 0,.int .i64 0,.slice none 0 0]) Tryz.underlying26 (by kernel_rfl) (by kernel_rfl) (by decide)
theorem fnc_all {l:List FN}:∀u∈l.flatMap fnc,u.oneCell'=true:=by
 intro u hu;obtain ⟨y,_,hy⟩:=List.mem_flatMap.1 hu;exact ER y u hy
theorem sl_Rev0 (w:World)(A:Option Addr)(c:Nat):Calls Tryz.prog 86 #[.slice A 0 c] w fun e w'=>e=.returned (.tuple #[])∧w'=w:=by
 go_enter Tryz.func86,Tryz.ntmps86;go_wp2_with fail;go_loopw [2,3] (fun iv jv wr=>iv=.int .i64 0∧jv=.int .i64 (-1)∧Hid (wr=w)) (fun _ _ _=>0);case atStart=>exact⟨rfl,rfl,AA rfl⟩
 case round=>
  obtain⟨rfl,rfl,hw⟩:=hrel;go_wp2_with fail;go_end0;exact ⟨rfl,hw.out⟩
theorem Fo.pre_fn {p:Nat→Prop}{w:World}:∀{f:Fo} {b off:Nat},f.AtP p w b off→∀y∈f.pre,FnP p w y
 |.nil,_,_,_,y,hy=>by simp[Fo.pre] at hy
 |.cons x A c ks r,b,off,⟨_,_,_,h4,h5,h6,h7⟩,y,hy=>by
  rw[Fo.pre,List.mem_cons,List.mem_append] at hy;rcases hy with rfl|hy|hy;·exact⟨h4,h5,h6⟩
  ·have hn:0<ks.len:=by cases ks with|nil=>simp[Fo.pre] at hy|cons=>simp[Fo.len]
   obtain⟨bb,oo,hA⟩:=h5 hn;exact Fo.pre_fn (h6 bb oo hA) y hy
  ·exact Fo.pre_fn h7 y hy
theorem D0 (l:List FN):l.length≤(Af l).length:=by
 induction l with
 |nil=>exact Nat.le_refl _
 |cons x l ih=>simp only[Af,List.length_cons,List.length_append];omega
structure UpI (w W:World) (whole:List FN) (AL:Option Addr) (cL:Nat) (L:List FN) (AS:Option Addr) (cS:Nat) (S:List FN):Prop where
 ownL:W.ownsRow (w.heap.size+1) 28 7 (.slice AL L.length cL) L.length (L.flatMap fnc)
 ownS:W.ownsRow (w.heap.size+1) 28 7 (.slice AS S.length cS) S.length (S.flatMap fnc)
 someS:∃a,AS=some a
 apart:∀g,AL.map (·.block)=some g→AS.map (·.block)≠some g
 list:L++Af S.reverse=whole
 fr:Fr Nob w W
def UpR (w:World)(whole:List FN)(lv sv:Value)(wr:World):Prop:=∃AL cL L AS cS S,lv=.slice AL (List.length L) cL∧sv=.slice AS (List.length S) cS∧UpI w wr whole AL cL L AS cS S
def DJ:Value→Nat
 |.slice _ n _=>n
 |_=>0
theorem snoc_of {α:Type}{l:List α}(h:l≠[]):∃a y,l=a++[y]:=⟨l.dropLast,l.getLast h,(List.dropLast_concat_getLast h).symm⟩
theorem Ew {w:World}{base e:Nat}{A:Option Addr}{n c:Nat}{S:List FN}{y:FN}(h:w.ownsRow base e 7 (.slice A n c) n ((S++[y]).flatMap fnc))(hA:∃a,A=some a)(hn:n=S.length+1):∃g,A=some ⟨g,0,none⟩∧base≤g∧g<w.heap.size∧CG w g (S.length*7) y.x y.A y.ks.len y.c∧S.length+1≤c∧c≤maxLen:=by
 obtain⟨g,cur,post,rfl,hb,hblk,hc,hn1,hmx,hs⟩:=Cb h hA;refine ⟨g,rfl,hb,hblk.lt,CG.of fun j u hu=>?_,by omega,hmx⟩;rw [hblk.cell,←Array.getElem?_toList,hc,List.flatMap_append,List.append_assoc,List.getElem?_append_right (by rw[Ad fnc 7 BD];omega),Ad fnc 7 BD,Nat.add_sub_cancel_left];have hj:j<7:=(List.getElem?_eq_some_iff.1 hu).1;rw [List.getElem?_append_left (by simp[fnc,fcs];exact hj)];simpa [fnc] using hu
theorem UpI.len {w W:World}{whole:List FN}{AL:Option Addr}{cL:Nat}{L:List FN}{AS:Option Addr}{cS:Nat}{S:List FN}(h:UpI w W whole AL cL L AS cS S):L.length+S.length≤whole.length:=by
 rw[←h.list,List.length_append];have:=D0 S.reverse;rw [List.length_reverse] at this;omega
theorem UpI.kids {w W:World}{whole:List FN}{AL:Option Addr}{cL:Nat}{L:List FN}{AS:Option Addr}{cS:Nat}{S:List FN}{y:FN}(h:UpI w W whole AL cL L AS cS (S++[y])):y∈whole∧(L++[y])++Af (S++y.ks.list.reverse).reverse=whole∧L.length+1+(S.length+y.ks.len)≤whole.length:=by
 have h1:=h.list;rw [List.reverse_append,List.reverse_singleton,List.singleton_append,preL_cons] at h1
 have h2:(L++[y])++Af (S++y.ks.list.reverse).reverse=whole:=by
  rw[List.reverse_append,List.reverse_reverse,←h1];simp
 refine⟨by rw[←h1];simp,h2,?_⟩;rw [←h2,List.length_append,List.length_append,List.length_singleton];have:=D0 (S++y.ks.list.reverse).reverse;simp only[List.length_reverse,List.length_append,Fo.list_len] at this;omega
theorem UpI.took {w W W2 W3:World}{whole:List FN}{AL A':Option Addr}{cL c':Nat}{L:List FN}{g cS n:Nat}{S:List FN}{y:FN}(h:UpI w W whole AL cL L (some ⟨g,0,none⟩) cS (S++[y]))(hn:n=(S++[y]).length)(hf:Fr Nob W W2)
 (hown:W3.ownsRow (w.heap.size+1) 28 7 (.slice A' (L.length+1) c') (L.length+1) (L.flatMap fnc++fnc y))(hg:W2.grownBy W3 (AL.map (·.block))){N:Nat}(hl:Lies A' AL N)(hN:N=W2.heap.size):
 W3.ownsRow (w.heap.size+1) 28 7 (.slice A' (L++[y]).length c') (L++[y]).length ((L++[y]).flatMap fnc)∧W3.ownsRow (w.heap.size+1) 28 7 (.slice (some ⟨g,0,none⟩) n cS) n ((S++[y]).flatMap fnc)∧(∀k,A'.map (·.block)=some k→k≠g)∧Fr Nob w W3∧(∀b t cs,Blk W2 b t cs→W.heap.size≤b→Blk W3 b t cs):=by
 subst hN
 have hgl:g<W.heap.size:=by
  obtain⟨g',cur,post,hA,hb,hblk,_⟩:=Cb h.ownS ⟨_,rfl⟩;cases hA;exact hblk.lt
 have hfr:Fr (fun k=>AL.map (·.block)=some k) W2 W3:=(Fr.refl _ _).grown hg (fun k hk _=>hk);refine ⟨by simpa using hown,?_,fun k hk=>?_,?_,fun b t cs hb hW=>hb.fr hfr (fun e=>?_)⟩
 ·subst hn;refine Ag (Ag h.ownS hf (fun _ _ _ _ e=>e)) hfr (fun k hk _ _ e=>?_);exact h.apart k e hk
 ·rcases hl with hl|hl
  ·rw[hk] at hl;intro e;subst e;exact h.apart k hl.symm rfl
  ·rw[hk] at hl;have:=hf.size;have e:k=W2.heap.size:=by simpa using hl
   omega
 ·refine(h.fr.call hf (fun _ e _=>e)).call hfr (fun k hk hlt=>?_);have:=AX h.ownL k hk;omega
 ·have:=(h.ownL.lt b (by cases AL<;>simp_all [Value.ownBlock])).2;omega
theorem Fe {P:Program}{t e:TypeId}{size bytes:Nat}(hE:BP P t e size bytes)(A:Option Addr){n cap:Nat}(k:Nat)(hk:k≤cap)(W:World):
 (Instr.slice t (.slice A n cap) none (some (.int .i64 k)) none).run P W=.ok (.slice A k cap) W:=by
 obtain⟨ht,_,i,z,hi,_,hsize,_,_⟩:=hE;have he:P.elem t=e:=by simp[Program.elem,ht]
 have ht':P.underlying t=some (.slice (P.elem t)):=by rw[he];exact ht
 rw[run_slice_h W t A n cap ht' .i64 k (by omega) (by omega),he];simp [sizeOf,typeInfo,hi,sliced,hsize];intro _
 cases A with
 |none=>rfl
 |some a=>simp[Addr.add];(try (obtain ⟨b,o,s⟩:=a;cases s<;>rfl))
theorem cut_lo {P:Program}{t e:TypeId}{size bytes:Nat}(hE:BP P t e size bytes)(A:Option Addr){n cap:Nat}(k:Nat)(hk:k≤n)(W:World):
 (Instr.slice t (.slice A n cap) (some (.int .i64 k)) none none).run P W=.ok (.slice (if cap=k then A else A.map (·.add (k*size))) (n-k) (cap-k)) W:=by
 obtain⟨ht,_,i,z,hi,_,hsize,_,_⟩:=hE;have he:P.elem t=e:=by simp[Program.elem,ht]
 have ht':P.underlying t=some (.slice (P.elem t)):=by rw[he];exact ht
 rw[run_slice_l W t A n cap ht' .i64 k (by omega) (by omega),he];simp [sizeOf,typeInfo,hi,sliced,hsize]
theorem UpI.put {w W4 W5:World}{L:List FN}{A3 A5:Option Addr}{c3 g m c5 k:Nat}{S K:List FN}(ownL:W4.ownsRow (w.heap.size+1) 28 7 (.slice A3 L.length c3) L.length (L.flatMap fnc))(hA3:∀k,A3.map (·.block)=some k→k≠g)(hgb:w.heap.size+1≤g)(hf:Fr Nob w W4)
 (hown:W5.ownsRow (w.heap.size+1) 28 7 (.slice A5 (m+k) c5) (m+k) (S.flatMap fnc++K.flatMap fnc))(hg:W4.grownBy W5 ((some ⟨g,0,none⟩:Option Addr).map (·.block))){N:Nat}(hl:Lies A5 (some ⟨g,0,none⟩) N)(hN:N=W4.heap.size):
 W5.ownsRow (w.heap.size+1) 28 7 (.slice A3 L.length c3) L.length (L.flatMap fnc)∧W5.ownsRow (w.heap.size+1) 28 7 (.slice A5 (m+k) c5) (m+k) ((S++K).flatMap fnc)∧(∃g5,A5=some ⟨g5,0,none⟩∧w.heap.size+1≤g5∧m+k≤c5∧c5≤maxLen∧g5<W5.heap.size)∧(∀j,A3.map (·.block)=some j→A5.map (·.block)≠some j)∧Fr Nob w W5:=by
 subst hN;have hfr:Fr (Ah g) W4 W5:=(Fr.refl _ _).grown hg (fun k hk _=>by unfold Ah;simpa using hk.symm);refine ⟨Ag ownL hfr (fun j hj _ _ e=>?_),by rw[List.flatMap_append];exact hown,?_,fun j hj e=>?_,hf.call hfr (fun j hj hlt=>by have:j=g:=hj;omega)⟩
 ·refine hA3 j ?_ e
  cases A3 with
  |none=>simp[Value.ownBlock] at hj
  |some a=>simpa[Value.ownBlock] using hj
 ·have hs:∃a,A5=some a:=by
   rcases hl with h|h
   ·cases A5 with
    |none=>simp at h
    |some a=>exact⟨a,rfl⟩
   ·cases A5 with
    |none=>simp at h
    |some a=>exact⟨a,rfl⟩
  obtain⟨g5,cur,post,h1,h2,h3,_,h4,h5,_⟩:=Cb hown hs;exact ⟨g5,h1,h2,h4,h5,h3.lt⟩
 ·rcases hl with h|h
  ·rw[e] at h;have:j=g:=by simpa using h
   exact hA3 j hj this
  ·rw[e] at h;have h1:j=W4.heap.size:=by simpa using h
   have h2:=(ownL.lt j (by cases A3<;>simp_all [Value.ownBlock])).2;omega
theorem UpI.turned {w W5 W6:World}{whole L S K:List FN}{A3:Option Addr}{c3 g5 m c5 k:Nat}(ownL:W5.ownsRow (w.heap.size+1) 28 7 (.slice A3 L.length c3) L.length (L.flatMap fnc))(apart:∀j,A3.map (·.block)=some j→(some ⟨g5,0,none⟩:Option Addr).map (·.block)≠some j)(hg:w.heap.size+1≤g5)(hf:Fr Nob w W5)
 (hown:W6.ownsRow (w.heap.size+1) 28 7 (.slice (some ⟨g5,0,none⟩) (m+k) c5) (m+k) ((S++K.reverse).flatMap fnc))(hr:Fr (Ah g5) W5 W6)(hm:S.length=m)(hk:K.length=k)(hl:L++Af (S++K.reverse).reverse=whole){q:Nat}(hq:q=L.length):
 UpR w whole (.slice A3 q c3) (.slice (some ⟨g5,0,none⟩) (m+k) c5) W6:=by
 subst hq;have hlen:(S++K.reverse).length=m+k:=by simp[hm,hk]
 refine⟨A3,c3,L,some ⟨g5,0,none⟩,c5,S++K.reverse,rfl,by rw[hlen],Ag ownL hr (fun j hj _ _ e=>?_),by rw[hlen];exact hown,⟨_,rfl⟩,fun j hj e=>apart j hj e,hl,hf.call hr (fun j hj hlt=>by have:j=g5:=hj;omega)⟩
 have hj':A3.map (·.block)=some j:=by
  cases A3 with
  |none=>simp[Value.ownBlock] at hj
  |some a=>simpa[Value.ownBlock] using hj
 have e':j=g5:=e;exact apart j hj' (by simp[e'])
theorem rev_end {w5:World}{base g5 m c5 k:Nat}{S K:List FN}(h:w5.ownsRow base 28 7 (.slice (some ⟨g5,0,none⟩) (m+k) c5) (m+k) ((S++K).flatMap fnc))(hm:S.length=m)(hk:K.length=k)(hsz:k≤1000000)(hc:m+k≤c5):
 ∃A6,(∀W,(Instr.slice 26 (.slice (some ⟨g5,0,none⟩) (m+k) c5) (some (.int .i64 m)) none none).run Tryz.prog W=.ok (.slice A6 k (c5-m)) W)∧
  Calls Tryz.prog 86 #[.slice A6 k (c5-m)] w5 fun e w'=>e=.returned (.tuple #[])∧w'.ownsRow base 28 7 (.slice (some ⟨g5,0,none⟩) (m+k) c5) (m+k) ((S++K.reverse).flatMap fnc)∧Fr (Ah g5) w5 w':=by
 have hcut:=fun W=>cut_lo DB (some ⟨g5,0,none⟩) (n:=m+k) (cap:=c5) m (by omega) W;by_cases h0:k=0
 ·subst h0;have hK:K=[]:=List.eq_nil_of_length_eq_zero hk;subst hK;refine ⟨_,fun W=>by rw[hcut W,show m+0-m=0 by omega],?_⟩;exact (sl_Rev0 w5 _ _).mono fun e w' ⟨h1,h2⟩=>⟨h1,by subst h2;simpa using h,by subst h2;exact Fr.refl _ _⟩
 ·refine⟨some ⟨g5,m*7,none⟩,fun W=>?_,?_⟩
  ·rw[hcut W,if_neg (by omega),show m+k-m=k by omega];simp [Addr.add];intro e;omega
  ·have:=F5 h (by simp[hm,hk]) (by omega) (c5-m);rw [hm,hk] at this;exact this
theorem n_upward (w:World)(x:Nd)(B:Option Addr)(d:Nat)(ks:Fo)(hs:AJ (fun k=>k<w.heap.size) w B d ks)(hsz:ks.tr.size≤100000):
 Calls Tryz.prog 110 #[AF x B ks.len d] w fun e w'=>∃A c,e=.returned (.slice A (Af [⟨x,B,d,ks⟩]).length c)∧Sl w' 7 A (Af [⟨x,B,d,ks⟩]).length c ((Af [⟨x,B,d,ks⟩]).reverse.flatMap fnc)∧Fr Nob w w'∧(∀g off,A=some ⟨g,off,none⟩→w.heap.size≤g):=by
 have HW:=AA (show (Af [(⟨x,B,d,ks⟩:FN)]).length=ks.tr.size+1 by simp[Af,Fo.pre_len])
 have HFN:=AA (show ∀y∈Af [(⟨x,B,d,ks⟩:FN)],FnP (fun k=>k<w.heap.size) w y by
  intro y hy;simp only[Af,List.append_nil,List.mem_cons] at hy;rcases hy with rfl|hy;·exact hs
  ·have hn:0<ks.len:=by cases ks with|nil=>simp[Fo.pre] at hy|cons=>simp[Fo.len]
   obtain⟨bb,oo,hA⟩:=hs.some_ hn;exact Fo.pre_fn (hs.at_ bb oo hA) y hy);have hw1:(Af [(⟨x,B,d,ks⟩:FN)]).length≤100001:=by rw[HW.out];omega
 have HL0:=AA (show Af [(⟨x,B,d,ks⟩:FN)]=Af [(⟨x,B,d,ks⟩:FN)] from rfl);obtain ⟨whole,hwh⟩:∃l,l=Af [(⟨x,B,d,ks⟩:FN)]:=⟨_,rfl⟩;rw [←hwh] at HFN hw1 HW ⊢;have HWH:=AA hwh;clear hs hsz hwh HL0;unfold AF;go_enter Tryz.func110,Tryz.ntmps110;go_wp2_with fail;go_loopw [3,4] (fun lv sv wr=>UpR w whole lv sv wr) (fun lv _ _=>whole.length-DJ lv)
 case atStart=>
  refine⟨none,0,[],some ⟨w.heap.size+1,0,none⟩,1,[⟨x,B,d,ks⟩],rfl,rfl,World.ownsRow_nil _ _ _ _,?_,⟨_,rfl⟩,(fun g e=>by cases e),by rw[HWH.out];rfl,((Fr.refl _ _).alloc _).alloc _⟩;exact own_of (Nat.le_refl _) (Blk.new_eq (by simp)) (post:=[]) (by simp[fnc,fcs]) (by simp[fnc,fcs]) (Nat.le_refl _) (by decide) (by simp)
 case round=>
  obtain⟨AL,cL,L,AS,cS,St,rfl,rfl,hi⟩:=hrel;by_cases hS:St=[]
  ·subst hS;have hL:L=whole:=by have:=hi.list;simpa[Af] using this
   subst hL;have hlp:0<L.length:=by rw[HW.out];omega
   have hAs:∃a,AL=some a:=by
    rcases hi.ownL.2 with⟨_,h2⟩|⟨g,cap,cur,h1,_⟩;·omega
    ·simp only[Value.slice.injEq] at h1;exact⟨_,h1.1⟩
   obtain⟨gl,cur,post,rfl,hb,hblk,_,hle,hmx,_⟩:=Cb hi.ownL hAs;have HRV:=AA (F5 (pre:=[]) (n:=L.length) (c:=cL) (by simpa using hi.ownL) rfl (by omega) cL);have HFW:=AA hi.fr;have hgl:=hb;simp only[List.length_nil,Nat.zero_mul] at HRV;clear hi hb hblk hAs HWH HFN;have HLN:=AA (show L.length≤cL from hle);generalize hn:L.length=n at*;go_wp2_with (first|((go_at_call 86);(with_reducible refine(HRV.out).mono ?_);rintro e w6 ⟨rfl,hown6,hfr6⟩;have HO6:=AA hown6;have HF6:=AA hfr6;clear hown6 hfr6)|fail);go_ret;rw [hn];refine ⟨some ⟨gl,0,none⟩,cL,rfl,?_,HFW.out.call HF6.out (fun j hj hlt=>by have:j=gl:=hj;omega),fun g off e=>by cases e;omega⟩;have:=Sl.of_own HO6.out;simpa using this
  ·obtain⟨S,y,rfl⟩:=snoc_of hS;have hlen:(S++[y]).length=S.length+1:=by simp
   rw[hlen];obtain ⟨g,rfl,hgb,hgl,hnd,hc1,hc2⟩:=Ew hi.ownS hi.someS hlen;obtain ⟨d0,d1,d2,d3,d4,d5,d6⟩:=hnd;obtain ⟨⟨y0,y1,y2,y3,y4,y5⟩,yA,yc,yk⟩:=y;have HI:=AA hi;generalize hm:S.length=m at*;have HM:=AA hm;clear hi hS hlen hm;have hmI:(m:Int)< (m:Int)+1:=by omega
   obtain⟨hyw,hlist,hlen3⟩:=HI.out.kids;dsimp only at hlen3;rw [HM.out] at hlen3;have hmB:(m:Int)≤100001:=by omega
   have hLB:L.length≤100001:=by omega
   have HY:=AA (HFN.out _ hyw);have HLS:=AA hlist;have hkb:yk.len≤100001:=by omega
   clear hyw hlist;dsimp only at*;go_upto_region 6 with fail;have HXB:=AA (show Blk (wr.alloc (.cells #[.int .i64 y0,.string y1,.int .i64 y2,.int .i64 y3,.int .i64 y4,.int .i64 y5,.slice yA yk.len yc] 28)) wr.heap.size _ _ from Blk.new _ _ _);go_upto_region 7 with(first|(at_builtin;refine AP rfl _ _ 26 rfl DB (base:=w.heap.size+1) (xs:=L.flatMap fnc) (news:=fnc ⟨⟨y0,y1,y2,y3,y4,y5⟩,yA,yc,yk⟩) rfl ?own rfl ?src ?one ?h63 ?hby ?hbase ?_)|fail);case own=>exact Ag HI.out.ownL (S:=Nob) (((Fr.refl _ _).alloc _).alloc _) (fun _ _ _ _ e=>e)
   case src=>exact Sl.new1 (t:=28) (cs:=#[.int .i64 y0,.string y1,.int .i64 y2,.int .i64 y3,.int .i64 y4,.int .i64 y5,.slice yA yk.len yc]) (Blk.new_eq (by simp)) 7 1 (by rfl) (by decide)
   case one=>exact ER _
   case h63=>unfold maxLen;omega
   case hby=>omega
   case hbase=>have:=HI.out.fr.size;have:=HI.out.ownS;simp;omega
   intro A3 c3 w3 hown hg hl;obtain ⟨t1,t2,t3,t4,t5⟩:=HI.out.took (n:=m+1) (by rw[List.length_append,HM.out];rfl) (((Fr.refl Nob wr).alloc _).alloc _) hown hg hl (by simp);have HL3:=AA t1;have HS3:=AA t2;have HA3:=AA t3;have HF3:=AA t4;have HX3:=AA (t5 _ _ _ (HXB.out.alloc _) (Nat.le_refl _));have xc:=HX3.out.cell;have xl:=HX3.out.lt;clear t1 t2 t3 t4 t5 hown hg hl HXB d0 d1 d2 d3 d4 d5 d6;go_upto_region 7 with fail;have hcut1:=fun W=>Fe DB (some ⟨g,0,none⟩) (n:=m+1) (cap:=cS) m (by omega) W;have hmc:(m:Int)≤cS:=by omega
   go_still_tail 5,(by kernel_rfl);change wpList _ _ _ _ _ w3.drew;obtain ⟨w4,hw4⟩:∃w4,w3.drew=w4:=⟨_,rfl⟩;rw [hw4];replace HL3:=AA (Ag HL3.out (Fr.refl Nob w3).drew (fun _ _ _ _ e=>e));replace HS3:=AA (Ag HS3.out (Fr.refl Nob w3).drew (fun _ _ _ _ e=>e));replace HF3:=AA HF3.out.drew;rw [hw4] at HL3 HS3 HF3;clear hw4 hcut1 xc xl HX3 hmc;go_upto_region 8 with(first|(at_builtin;refine AP rfl _ _ 26 rfl DB (base:=w.heap.size+1) (xs:=S.flatMap fnc) (news:=yk.list.flatMap fnc) rfl ?own rfl ?src ?one ?h63 ?hby ?hbase ?_)|fail);case own=>exact own_pre (by rw[List.flatMap_append] at HS3;exact HS3.out) (by rw[Ad fnc 7 BD,HM.out]) (by omega) ⟨_,rfl⟩
   case src=>exact(AJ.fr HY.out HF3.out).list
   case one=>exact fnc_all
   case h63=>unfold maxLen;omega
   case hby=>omega
   case hbase=>have:=(HS3.out.lt g rfl).2;omega
   intro A5 c5 w5 hown hg hl;obtain ⟨t1,t2,⟨g5,rfl,t3,t4,t5,t6⟩,t7,t8⟩:=UpI.put HL3.out HA3.out hgb HF3.out hown hg hl rfl;have HL5:=AA t1;have HS5:=AA t2;have HA5:=AA t7;have HF5:=AA t8;clear t1 t2 t7 t8 hown hg hl HL3 HS3 HF3 HA3;obtain ⟨A6,hc6,hrv⟩:=rev_end HS5.out HM.out (Fo.list_len yk) (by omega) t4;have HRV:=AA hrv;clear hrv;go_wp2_with (first|((go_at_call 86);(with_reducible refine(HRV.out).mono ?_);rintro e w6 ⟨rfl,hown6,hfr6⟩;have HO6:=AA hown6;have HF6:=AA hfr6;clear hown6 hfr6)|fail);go_roundw;case rel=>exact UpI.turned HL5.out HA5.out t3 HF5.out HO6.out HF6.out HM.out (Fo.list_len yk) HLS.out (by simp)
   case measure=>simp[DJ];omega
theorem t_upward (w:World)(x:Nd)(B:Option Addr)(d:Nat)(ks:Fo)(hs:AJ (fun k=>k<w.heap.size) w B d ks)(hsz:ks.tr.size≤100000):
 Calls Tryz.prog 73 #[AF x B ks.len d] w fun e w'=>∃A c,e=.returned (.slice A (Af [⟨x,B,d,ks⟩]).length c)∧Sl w' 7 A (Af [⟨x,B,d,ks⟩]).length c ((Af [⟨x,B,d,ks⟩]).reverse.flatMap fnc)∧Fr Nob w w'∧(∀g off,A=some ⟨g,off,none⟩→w.heap.size≤g):=by
 have HW:=AA (show (Af [(⟨x,B,d,ks⟩:FN)]).length=ks.tr.size+1 by simp[Af,Fo.pre_len])
 have HFN:=AA (show ∀y∈Af [(⟨x,B,d,ks⟩:FN)],FnP (fun k=>k<w.heap.size) w y by
  intro y hy;simp only[Af,List.append_nil,List.mem_cons] at hy;rcases hy with rfl|hy;·exact hs
  ·have hn:0<ks.len:=by cases ks with|nil=>simp[Fo.pre] at hy|cons=>simp[Fo.len]
   obtain⟨bb,oo,hA⟩:=hs.some_ hn;exact Fo.pre_fn (hs.at_ bb oo hA) y hy);have hw1:(Af [(⟨x,B,d,ks⟩:FN)]).length≤100001:=by rw[HW.out];omega
 have HL0:=AA (show Af [(⟨x,B,d,ks⟩:FN)]=Af [(⟨x,B,d,ks⟩:FN)] from rfl);obtain ⟨whole,hwh⟩:∃l,l=Af [(⟨x,B,d,ks⟩:FN)]:=⟨_,rfl⟩;rw [←hwh] at HFN hw1 HW ⊢;have HWH:=AA hwh;clear hs hsz hwh HL0;unfold AF;go_enter Tryz.func73,Tryz.ntmps73;go_wp2_with fail;go_loopw [3,4] (fun lv sv wr=>UpR w whole lv sv wr) (fun lv _ _=>whole.length-DJ lv)
 case atStart=>
  refine⟨none,0,[],some ⟨w.heap.size+1,0,none⟩,1,[⟨x,B,d,ks⟩],rfl,rfl,World.ownsRow_nil _ _ _ _,?_,⟨_,rfl⟩,(fun g e=>by cases e),by rw[HWH.out];rfl,((Fr.refl _ _).alloc _).alloc _⟩;exact own_of (Nat.le_refl _) (Blk.new_eq (by simp)) (post:=[]) (by simp[fnc,fcs]) (by simp[fnc,fcs]) (Nat.le_refl _) (by decide) (by simp)
 case round=>
  obtain⟨AL,cL,L,AS,cS,St,rfl,rfl,hi⟩:=hrel;by_cases hS:St=[]
  ·subst hS;have hL:L=whole:=by have:=hi.list;simpa[Af] using this
   subst hL;have hlp:0<L.length:=by rw[HW.out];omega
   have hAs:∃a,AL=some a:=by
    rcases hi.ownL.2 with⟨_,h2⟩|⟨g,cap,cur,h1,_⟩;·omega
    ·simp only[Value.slice.injEq] at h1;exact⟨_,h1.1⟩
   obtain⟨gl,cur,post,rfl,hb,hblk,_,hle,hmx,_⟩:=Cb hi.ownL hAs;have HRV:=AA (F5 (pre:=[]) (n:=L.length) (c:=cL) (by simpa using hi.ownL) rfl (by omega) cL);have HFW:=AA hi.fr;have hgl:=hb;simp only[List.length_nil,Nat.zero_mul] at HRV;clear hi hb hblk hAs HWH HFN;have HLN:=AA (show L.length≤cL from hle);generalize hn:L.length=n at*;go_wp2_with (first|((go_at_call 86);(with_reducible refine(HRV.out).mono ?_);rintro e w6 ⟨rfl,hown6,hfr6⟩;have HO6:=AA hown6;have HF6:=AA hfr6;clear hown6 hfr6)|fail);go_ret;rw [hn];refine ⟨some ⟨gl,0,none⟩,cL,rfl,?_,HFW.out.call HF6.out (fun j hj hlt=>by have:j=gl:=hj;omega),fun g off e=>by cases e;omega⟩;have:=Sl.of_own HO6.out;simpa using this
  ·obtain⟨S,y,rfl⟩:=snoc_of hS;have hlen:(S++[y]).length=S.length+1:=by simp
   rw[hlen];obtain ⟨g,rfl,hgb,hgl,hnd,hc1,hc2⟩:=Ew hi.ownS hi.someS hlen;obtain ⟨d0,d1,d2,d3,d4,d5,d6⟩:=hnd;obtain ⟨⟨y0,y1,y2,y3,y4,y5⟩,yA,yc,yk⟩:=y;have HI:=AA hi;generalize hm:S.length=m at*;have HM:=AA hm;clear hi hS hlen hm;have hmI:(m:Int)< (m:Int)+1:=by omega
   obtain⟨hyw,hlist,hlen3⟩:=HI.out.kids;dsimp only at hlen3;rw [HM.out] at hlen3;have hmB:(m:Int)≤100001:=by omega
   have hLB:L.length≤100001:=by omega
   have HY:=AA (HFN.out _ hyw);have HLS:=AA hlist;have hkb:yk.len≤100001:=by omega
   clear hyw hlist;dsimp only at*;go_upto_region 6 with fail;have HXB:=AA (show Blk (wr.alloc (.cells #[.int .i64 y0,.string y1,.int .i64 y2,.int .i64 y3,.int .i64 y4,.int .i64 y5,.slice yA yk.len yc] 28)) wr.heap.size _ _ from Blk.new _ _ _);go_upto_region 7 with(first|(at_builtin;refine AP rfl _ _ 26 rfl DB (base:=w.heap.size+1) (xs:=L.flatMap fnc) (news:=fnc ⟨⟨y0,y1,y2,y3,y4,y5⟩,yA,yc,yk⟩) rfl ?own rfl ?src ?one ?h63 ?hby ?hbase ?_)|fail);case own=>exact Ag HI.out.ownL (S:=Nob) (((Fr.refl _ _).alloc _).alloc _) (fun _ _ _ _ e=>e)
   case src=>exact Sl.new1 (t:=28) (cs:=#[.int .i64 y0,.string y1,.int .i64 y2,.int .i64 y3,.int .i64 y4,.int .i64 y5,.slice yA yk.len yc]) (Blk.new_eq (by simp)) 7 1 (by rfl) (by decide)
   case one=>exact ER _
   case h63=>unfold maxLen;omega
   case hby=>omega
   case hbase=>have:=HI.out.fr.size;have:=HI.out.ownS;simp;omega
   intro A3 c3 w3 hown hg hl;obtain ⟨t1,t2,t3,t4,t5⟩:=HI.out.took (n:=m+1) (by rw[List.length_append,HM.out];rfl) (((Fr.refl Nob wr).alloc _).alloc _) hown hg hl (by simp);have HL3:=AA t1;have HS3:=AA t2;have HA3:=AA t3;have HF3:=AA t4;have HX3:=AA (t5 _ _ _ (HXB.out.alloc _) (Nat.le_refl _));have xc:=HX3.out.cell;have xl:=HX3.out.lt;clear t1 t2 t3 t4 t5 hown hg hl HXB d0 d1 d2 d3 d4 d5 d6;go_upto_region 7 with fail;have hcut1:=fun W=>Fe DB (some ⟨g,0,none⟩) (n:=m+1) (cap:=cS) m (by omega) W;have hmc:(m:Int)≤cS:=by omega
   go_still_tail 5,(by kernel_rfl);change wpList _ _ _ _ _ w3.drew;obtain ⟨w4,hw4⟩:∃w4,w3.drew=w4:=⟨_,rfl⟩;rw [hw4];replace HL3:=AA (Ag HL3.out (Fr.refl Nob w3).drew (fun _ _ _ _ e=>e));replace HS3:=AA (Ag HS3.out (Fr.refl Nob w3).drew (fun _ _ _ _ e=>e));replace HF3:=AA HF3.out.drew;rw [hw4] at HL3 HS3 HF3;clear hw4 hcut1 xc xl HX3 hmc;go_upto_region 8 with(first|(at_builtin;refine AP rfl _ _ 26 rfl DB (base:=w.heap.size+1) (xs:=S.flatMap fnc) (news:=yk.list.flatMap fnc) rfl ?own rfl ?src ?one ?h63 ?hby ?hbase ?_)|fail);case own=>exact own_pre (by rw[List.flatMap_append] at HS3;exact HS3.out) (by rw[Ad fnc 7 BD,HM.out]) (by omega) ⟨_,rfl⟩
   case src=>exact(AJ.fr HY.out HF3.out).list
   case one=>exact fnc_all
   case h63=>unfold maxLen;omega
   case hby=>omega
   case hbase=>have:=(HS3.out.lt g rfl).2;omega
   intro A5 c5 w5 hown hg hl;obtain ⟨t1,t2,⟨g5,rfl,t3,t4,t5,t6⟩,t7,t8⟩:=UpI.put HL3.out HA3.out hgb HF3.out hown hg hl rfl;have HL5:=AA t1;have HS5:=AA t2;have HA5:=AA t7;have HF5:=AA t8;clear t1 t2 t7 t8 hown hg hl HL3 HS3 HF3 HA3;obtain ⟨A6,hc6,hrv⟩:=rev_end HS5.out HM.out (Fo.list_len yk) (by omega) t4;have HRV:=AA hrv;clear hrv;go_wp2_with (first|((go_at_call 86);(with_reducible refine(HRV.out).mono ?_);rintro e w6 ⟨rfl,hown6,hfr6⟩;have HO6:=AA hown6;have HF6:=AA hfr6;clear hown6 hfr6)|fail);go_roundw;case rel=>exact UpI.turned HL5.out HA5.out t3 HF5.out HO6.out HF6.out HM.out (Fo.list_len yk) HLS.out (by simp)
   case measure=>simp[DJ];omega
theorem th_upward (w:World)(x:Nd)(B:Option Addr)(d:Nat)(ks:Fo)(hs:AJ (fun k=>k<w.heap.size) w B d ks)(hsz:ks.tr.size≤100000):
 Calls Tryz.prog 54 #[AF x B ks.len d] w fun e w'=>∃A c,e=.returned (.slice A (Af [⟨x,B,d,ks⟩]).length c)∧Sl w' 7 A (Af [⟨x,B,d,ks⟩]).length c ((Af [⟨x,B,d,ks⟩]).reverse.flatMap fnc)∧Fr Nob w w'∧(∀g off,A=some ⟨g,off,none⟩→w.heap.size≤g):=by
 have HW:=AA (show (Af [(⟨x,B,d,ks⟩:FN)]).length=ks.tr.size+1 by simp[Af,Fo.pre_len])
 have HFN:=AA (show ∀y∈Af [(⟨x,B,d,ks⟩:FN)],FnP (fun k=>k<w.heap.size) w y by
  intro y hy;simp only[Af,List.append_nil,List.mem_cons] at hy;rcases hy with rfl|hy;·exact hs
  ·have hn:0<ks.len:=by cases ks with|nil=>simp[Fo.pre] at hy|cons=>simp[Fo.len]
   obtain⟨bb,oo,hA⟩:=hs.some_ hn;exact Fo.pre_fn (hs.at_ bb oo hA) y hy);have hw1:(Af [(⟨x,B,d,ks⟩:FN)]).length≤100001:=by rw[HW.out];omega
 have HL0:=AA (show Af [(⟨x,B,d,ks⟩:FN)]=Af [(⟨x,B,d,ks⟩:FN)] from rfl);obtain ⟨whole,hwh⟩:∃l,l=Af [(⟨x,B,d,ks⟩:FN)]:=⟨_,rfl⟩;rw [←hwh] at HFN hw1 HW ⊢;have HWH:=AA hwh;clear hs hsz hwh HL0;unfold AF;go_enter Tryz.func54,Tryz.ntmps54;go_wp2_with fail;go_loopw [3,4] (fun lv sv wr=>UpR w whole lv sv wr) (fun lv _ _=>whole.length-DJ lv)
 case atStart=>
  refine⟨none,0,[],some ⟨w.heap.size+1,0,none⟩,1,[⟨x,B,d,ks⟩],rfl,rfl,World.ownsRow_nil _ _ _ _,?_,⟨_,rfl⟩,(fun g e=>by cases e),by rw[HWH.out];rfl,((Fr.refl _ _).alloc _).alloc _⟩;exact own_of (Nat.le_refl _) (Blk.new_eq (by simp)) (post:=[]) (by simp[fnc,fcs]) (by simp[fnc,fcs]) (Nat.le_refl _) (by decide) (by simp)
 case round=>
  obtain⟨AL,cL,L,AS,cS,St,rfl,rfl,hi⟩:=hrel;by_cases hS:St=[]
  ·subst hS;have hL:L=whole:=by have:=hi.list;simpa[Af] using this
   subst hL;have hlp:0<L.length:=by rw[HW.out];omega
   have hAs:∃a,AL=some a:=by
    rcases hi.ownL.2 with⟨_,h2⟩|⟨g,cap,cur,h1,_⟩;·omega
    ·simp only[Value.slice.injEq] at h1;exact⟨_,h1.1⟩
   obtain⟨gl,cur,post,rfl,hb,hblk,_,hle,hmx,_⟩:=Cb hi.ownL hAs;have HRV:=AA (F5 (pre:=[]) (n:=L.length) (c:=cL) (by simpa using hi.ownL) rfl (by omega) cL);have HFW:=AA hi.fr;have hgl:=hb;simp only[List.length_nil,Nat.zero_mul] at HRV;clear hi hb hblk hAs HWH HFN;have HLN:=AA (show L.length≤cL from hle);generalize hn:L.length=n at*;go_wp2_with (first|((go_at_call 86);(with_reducible refine(HRV.out).mono ?_);rintro e w6 ⟨rfl,hown6,hfr6⟩;have HO6:=AA hown6;have HF6:=AA hfr6;clear hown6 hfr6)|fail);go_ret;rw [hn];refine ⟨some ⟨gl,0,none⟩,cL,rfl,?_,HFW.out.call HF6.out (fun j hj hlt=>by have:j=gl:=hj;omega),fun g off e=>by cases e;omega⟩;have:=Sl.of_own HO6.out;simpa using this
  ·obtain⟨S,y,rfl⟩:=snoc_of hS;have hlen:(S++[y]).length=S.length+1:=by simp
   rw[hlen];obtain ⟨g,rfl,hgb,hgl,hnd,hc1,hc2⟩:=Ew hi.ownS hi.someS hlen;obtain ⟨d0,d1,d2,d3,d4,d5,d6⟩:=hnd;obtain ⟨⟨y0,y1,y2,y3,y4,y5⟩,yA,yc,yk⟩:=y;have HI:=AA hi;generalize hm:S.length=m at*;have HM:=AA hm;clear hi hS hlen hm;have hmI:(m:Int)< (m:Int)+1:=by omega
   obtain⟨hyw,hlist,hlen3⟩:=HI.out.kids;dsimp only at hlen3;rw [HM.out] at hlen3;have hmB:(m:Int)≤100001:=by omega
   have hLB:L.length≤100001:=by omega
   have HY:=AA (HFN.out _ hyw);have HLS:=AA hlist;have hkb:yk.len≤100001:=by omega
   clear hyw hlist;dsimp only at*;go_upto_region 6 with fail;have HXB:=AA (show Blk (wr.alloc (.cells #[.int .i64 y0,.string y1,.int .i64 y2,.int .i64 y3,.int .i64 y4,.int .i64 y5,.slice yA yk.len yc] 28)) wr.heap.size _ _ from Blk.new _ _ _);go_upto_region 7 with(first|(at_builtin;refine AP rfl _ _ 26 rfl DB (base:=w.heap.size+1) (xs:=L.flatMap fnc) (news:=fnc ⟨⟨y0,y1,y2,y3,y4,y5⟩,yA,yc,yk⟩) rfl ?own rfl ?src ?one ?h63 ?hby ?hbase ?_)|fail);case own=>exact Ag HI.out.ownL (S:=Nob) (((Fr.refl _ _).alloc _).alloc _) (fun _ _ _ _ e=>e)
   case src=>exact Sl.new1 (t:=28) (cs:=#[.int .i64 y0,.string y1,.int .i64 y2,.int .i64 y3,.int .i64 y4,.int .i64 y5,.slice yA yk.len yc]) (Blk.new_eq (by simp)) 7 1 (by rfl) (by decide)
   case one=>exact ER _
   case h63=>unfold maxLen;omega
   case hby=>omega
   case hbase=>have:=HI.out.fr.size;have:=HI.out.ownS;simp;omega
   intro A3 c3 w3 hown hg hl;obtain ⟨t1,t2,t3,t4,t5⟩:=HI.out.took (n:=m+1) (by rw[List.length_append,HM.out];rfl) (((Fr.refl Nob wr).alloc _).alloc _) hown hg hl (by simp);have HL3:=AA t1;have HS3:=AA t2;have HA3:=AA t3;have HF3:=AA t4;have HX3:=AA (t5 _ _ _ (HXB.out.alloc _) (Nat.le_refl _));have xc:=HX3.out.cell;have xl:=HX3.out.lt;clear t1 t2 t3 t4 t5 hown hg hl HXB d0 d1 d2 d3 d4 d5 d6;go_upto_region 7 with fail;have hcut1:=fun W=>Fe DB (some ⟨g,0,none⟩) (n:=m+1) (cap:=cS) m (by omega) W;have hmc:(m:Int)≤cS:=by omega
   go_still_tail 5,(by kernel_rfl);change wpList _ _ _ _ _ w3.drew;obtain ⟨w4,hw4⟩:∃w4,w3.drew=w4:=⟨_,rfl⟩;rw [hw4];replace HL3:=AA (Ag HL3.out (Fr.refl Nob w3).drew (fun _ _ _ _ e=>e));replace HS3:=AA (Ag HS3.out (Fr.refl Nob w3).drew (fun _ _ _ _ e=>e));replace HF3:=AA HF3.out.drew;rw [hw4] at HL3 HS3 HF3;clear hw4 hcut1 xc xl HX3 hmc;go_upto_region 8 with(first|(at_builtin;refine AP rfl _ _ 26 rfl DB (base:=w.heap.size+1) (xs:=S.flatMap fnc) (news:=yk.list.flatMap fnc) rfl ?own rfl ?src ?one ?h63 ?hby ?hbase ?_)|fail);case own=>exact own_pre (by rw[List.flatMap_append] at HS3;exact HS3.out) (by rw[Ad fnc 7 BD,HM.out]) (by omega) ⟨_,rfl⟩
   case src=>exact(AJ.fr HY.out HF3.out).list
   case one=>exact fnc_all
   case h63=>unfold maxLen;omega
   case hby=>omega
   case hbase=>have:=(HS3.out.lt g rfl).2;omega
   intro A5 c5 w5 hown hg hl;obtain ⟨t1,t2,⟨g5,rfl,t3,t4,t5,t6⟩,t7,t8⟩:=UpI.put HL3.out HA3.out hgb HF3.out hown hg hl rfl;have HL5:=AA t1;have HS5:=AA t2;have HA5:=AA t7;have HF5:=AA t8;clear t1 t2 t7 t8 hown hg hl HL3 HS3 HF3 HA3;obtain ⟨A6,hc6,hrv⟩:=rev_end HS5.out HM.out (Fo.list_len yk) (by omega) t4;have HRV:=AA hrv;clear hrv;go_wp2_with (first|((go_at_call 86);(with_reducible refine(HRV.out).mono ?_);rintro e w6 ⟨rfl,hown6,hfr6⟩;have HO6:=AA hown6;have HF6:=AA hfr6;clear hown6 hfr6)|fail);go_roundw;case rel=>exact UpI.turned HL5.out HA5.out t3 HF5.out HO6.out HF6.out HM.out (Fo.list_len yk) HLS.out (by simp)
   case measure=>simp[DJ];omega
end Go.Proofs.YtoegdmpmagbaiaaGreatDoor
