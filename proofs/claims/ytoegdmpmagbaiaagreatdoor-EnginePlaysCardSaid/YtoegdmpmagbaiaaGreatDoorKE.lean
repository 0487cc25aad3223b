/- The law's plain, walked. -/
import Derived.Test.YtoegdmpmagbaiaaGreatDoorKD
import Derived.Deep.AppendLies
import Derived.Deep.RegionLaw
import Derived.Test.YtoegdmpmagbaiaaGreatDoorKC
import Derived.Test.YtoegdmpmagbaiaaGreatDoorKDS
import Derived.Lib.QuietBelow
namespace Go.Proofs.YtoegdmpmagbaiaaGreatDoor
open Go.RowKit
structure PlI (w wr:World) (x:Nd) (B:Option Addr) (d:Nat) (ks:Fo) (k:Nat) (A:Option Addr) (c:Nat) (ks1:Fo):Prop where
 fr:Fr Nob w wr
 fbox:Blk wr w.heap.size 28 #[.int .i64 x.op,.string x.name,.int .i64 x.cmp,.int .i64 x.val,.int .i64 x.lo,.int .i64 x.hi,.slice B ks.len d]
 rbox:Blk wr (w.heap.size+1) 39 #[.int .i64 0,.string default,.int .i64 0,.int .i64 0,.int .i64 0,.int .i64 0,.slice none 0 0]
 xbox:Blk wr (w.heap.size+2) 39 #[.int .i64 x.op,.string x.name,.int .i64 x.cmp,.int .i64 x.val,.int .i64 x.lo,.int .i64 x.hi,.slice A k c]
 own:wr.ownsRow (w.heap.size+3) 39 7 (.slice A k c) k ks1.tops
 len:ks1.len=k
 subs:ks1.subs (fun b=>w.heap.size+3≤b∧b<wr.heap.size∧∀g,A.map (·.block)=some g→b≠g) wr
 tr:ks1.tr.app (ks.get k).tr=ks.tr
theorem PlI.step {w wr w2 w4:World}{x y:Nd}{B A A3:Option Addr}{d c c3 k g4 c4:Nat}{ks ks1 js js':Fo}(hi:PlI w wr x B d ks k A c ks1)(hG:(ks.get k).tr=.cons y js.tr (ks.get (k+1)).tr)(hF:Fr Nob wr w2)(htr:js'.tr=js.tr)
 (hsl:AJ (fun b=>wr.drew.heap.size≤b∧b<w2.heap.size) w2 A3 c3 js'){o:Obj}(hgr:(w2.alloc o).grownBy w4 (Value.slice A k c).ownBlock)
 (hown4:w4.ownsRow (w.heap.size+3) 39 7 (.slice (some ⟨g4,0,none⟩) (k+1) c4) (k+1) (ks1.tops++fcs y A3 js'.len c3))(hat4:(Value.slice A k c).ownBlock=some g4∨g4=w2.heap.size+1):
 PlI w (w4.setCell ⟨w.heap.size+2,6,none⟩ (.slice (some ⟨g4,0,none⟩) (k+1) c4)) x B d ks (k+1) (some ⟨g4,0,none⟩) c4 (ks1.snoc y A3 c3 js'):=by
 have hs1:w.heap.size+2<wr.heap.size:=Blk.lt hi.xbox;have hs2:=hF.size;have hs4:=hgr.size;rw [World.size_alloc] at hs4;have hrow:=hi.own.lt;have hne:∀q,q<w.heap.size+3→(Value.slice A k c).ownBlock≠some q:=fun q hq e=>by have:=(hrow q e).1;omega
 have hob:(Value.slice A k c).ownBlock=A.map (·.block):=by cases A<;>rfl
 have hg4lt:∀b,((w.heap.size+3≤b∧b<wr.heap.size∧∀g,A.map (·.block)=some g→b≠g)∨(wr.heap.size≤b∧b<w2.heap.size))→b≠g4:=by
  intro b hb e;subst e;rcases hat4 with h4|h4
  ·have h5:=hrow _ h4;rw [hob] at h4;rcases hb with hb|hb;·exact hb.2.2 _ h4 rfl
   ·omega
  ·omega
 have hkeep:∀b,b<w2.heap.size→w.heap.size+3≤b→(Value.slice A k c).ownBlock≠some b→(w4.setCell ⟨w.heap.size+2,6,none⟩ (.slice (some ⟨g4,0,none⟩) (k+1) c4)).heap[b]?=w2.heap[b]?:=fun b h1 h2 h3=>
  (Below.heap_setCell w4 ⟨w.heap.size+2,6,none⟩ _ b (fun e=>by simp at e;omega)).trans ((hgr.block b (by rw[World.size_alloc];omega) (fun e=>h3 e.symm)).trans (Below.heap_alloc w2 o b h1));refine ⟨(((hi.fr.call hF (fun _ h _=>h)).alloc o).grown hgr (fun q e hlt=>by have:=(hrow q e).1;omega)).setCell (fun h=>absurd h (by simp)) _,?_,?_,?_,?_,by rw[Fo.snoc_len,hi.len],?_,?_⟩;·exact(((hi.fbox.fr hF (fun e=>e)).alloc o).grown hgr (hne _ (by omega))).far (by simp) _
 ·exact(((hi.rbox.fr hF (fun e=>e)).alloc o).grown hgr (hne _ (by omega))).far (by simp) _
 ·exact(((hi.xbox.fr hF (fun e=>e)).alloc o).grown hgr (hne _ (by omega))).set 6 _
 ·rw[Fo.snoc_tops];exact Ag hown4 ((Fr.refl (Ah (w.heap.size+2)) w4).setCell (p:=⟨w.heap.size+2,6,none⟩) (fun _=>rfl) _) (fun q _ hq _ e=>by have:q=w.heap.size+2:=e;omega)
 ·refine Fo.subs_snoc ((hsl.keep (fun b hb _=>hkeep b hb.2 (by have:wr.heap.size≤b:=hb.1;omega) (fun e=>by have:=(hrow b e).2;have:wr.heap.size≤b:=hb.1;omega))).mono (fun b hb=>⟨by have:wr.heap.size≤b:=hb.1;omega,by have:=hb.2;simp;omega,fun g hg e=>hg4lt b (.inr hb) (by simp at hg;omega)⟩))
   (Fo.subs_mono (fun b hb=>⟨hb.1,by have:=hb.2.1;simp;omega,fun g hg e=>hg4lt b (.inl hb) (by simp at hg;omega)⟩)
     (Fo.subs_keep (fun b hb hlt=>(hkeep b (by omega) hb.1 (fun e=>hb.2.2 b (by rw[←hob];exact e) rfl)).trans (hF.block b hlt (fun e=>e))) hi.subs))
 ·rw[Fo.snoc_tr,htr,←hG,hi.tr]
theorem PlI.done {w wr:World}{x:Nd}{B A:Option Addr}{d c k:Nat}{ks ks1:Fo}(hi:PlI w wr x B d ks k A c ks1)(hk:ks.get k=.nil):ks1.tr=ks.tr∧AJ (fun b=>w.heap.size+3≤b∧b<wr.heap.size) wr A c ks1:=by
 have ht:=hi.tr;rw [hk,show Fo.nil.tr=.nil from rfl,Tr.app_nil] at ht;have hsl:=Sl.of_own hi.own;refine ⟨ht,⟨by rw[hi.len];exact hsl.le,hsl.max,hsl.nil⟩,fun h0=>?_,fun bb oo e=>?_⟩
 ·obtain⟨bb,oo,e,_⟩:=hsl.cells (by rw[←hi.len];exact h0);exact ⟨bb,oo,e⟩
 ·subst e;have hl:=hi.own.lt bb rfl;refine Fo.at_of ⟨hl.1,hl.2⟩ hl.2 (fun j u hu=>?_) (Fo.subs_mono (fun b hb=>⟨hb.1,hb.2.1⟩) hi.subs)
  have hpos:0<k:=by
   have:=(List.getElem?_eq_some_iff.1 hu).1;rw [Fo.tops_len,hi.len] at this;omega
  obtain⟨b2,o2,e,_,hc⟩:=hsl.cells hpos;simp only[Option.some.injEq,Addr.mk.injEq,and_true] at e;obtain ⟨rfl,rfl⟩:=e;exact hc j u hu
def set7 (w:World)(g:Nat)(b0 b1 b2 b3 b4 b5 b6:Value):World:=((((((w.setCell ⟨g,0,none⟩ b0).setCell ⟨g,1,none⟩ b1).setCell ⟨g,2,none⟩ b2).setCell ⟨g,3,none⟩ b3).setCell ⟨g,4,none⟩ b4).setCell ⟨g,5,none⟩ b5).setCell ⟨g,6,none⟩ b6
theorem Br {w:World}{g:Nat}{t:TypeId}{a0 a1 a2 a3 a4 a5 a6:Value}(h:Blk w g t #[a0,a1,a2,a3,a4,a5,a6])(b0 b1 b2 b3 b4 b5 b6:Value):Blk (set7 w g b0 b1 b2 b3 b4 b5 b6) g t #[b0,b1,b2,b3,b4,b5,b6]:=by
 have h7:=((((((h.set 0 b0).set 1 b1).set 2 b2).set 3 b3).set 4 b4).set 5 b5).set 6 b6;simpa [set7] using h7
theorem CD (w:World)(g:Nat)(b0 b1 b2 b3 b4 b5 b6:Value):Fr (Ah g) w (set7 w g b0 b1 b2 b3 b4 b5 b6):=
 (((((((Fr.refl (Ah g) w).setCell (p:=⟨g,0,none⟩) (fun _=>rfl) b0).setCell (p:=⟨g,1,none⟩) (fun _=>rfl) b1).setCell (p:=⟨g,2,none⟩) (fun _=>rfl) b2).setCell (p:=⟨g,3,none⟩) (fun _=>rfl) b3).setCell (p:=⟨g,4,none⟩) (fun _=>rfl) b4).setCell (p:=⟨g,5,none⟩) (fun _=>rfl) b5).setCell (p:=⟨g,6,none⟩) (fun _=>rfl) b6
theorem infoRF:(Tryz.prog.info? 39).map (fun i=>(i.zero,i.size,i.bytes))=some (some (.agg #[.int .i64 0,.string default,.int .i64 0,.int .i64 0,.int .i64 0,.int .i64 0,.slice none 0 0]),7,80):=by kernel_rfl
end Go.Proofs.YtoegdmpmagbaiaaGreatDoor
namespace Go.Proofs.YtoegdmpmagbaiaaGreatDoor
open Go.RowKit Go.Shelf Go.Sort
theorem shortN_nodes (t:Tr):t.shortN→∀d,∀y∈t.nodes d,y.1.name.size≤40:=by
 induction t with
 |nil=>intro _ d y hy;simp[Tr.nodes] at hy
 |cons x k r ihk ihr=>
  rintro⟨h1,h2,h3⟩ d y hy;simp only[Tr.nodes,List.mem_cons,List.mem_append] at hy;rcases hy with rfl|hy|hy;·exact h1
  ·exact ihk h2 _ y hy
  ·exact ihr h3 _ y hy
theorem shortN_wt (t:Tr):t.shortN→t.wt≤t.size*140:=by
 induction t with
 |nil=>intro _;exact Nat.le_refl _
 |cons x k r ihk ihr=>
  rintro⟨h1,h2,h3⟩;have:=ihk h2;have:=ihr h3;simp only[Tr.wt,Tr.size];omega
structure Few (x:Nd) (ks:Tr) (n:Nat):Prop where
 size:ks.size+1≤n
 names:∀y∈(Tr.cons x ks .nil).nodes 1,y.1.name.size≤9223372036854775807
 wt:x.name.size+ks.wt≤140*n
theorem few_of {x:Nd}{ks:Tr}{n:Nat}(h:0<left1 x ks n):Few x ks n:=by
 obtain⟨h1,h2,h3⟩:=left1_pos h;refine ⟨h1,fun y hy=>?_,?_⟩
 ·have:=shortN_nodes (.cons x ks .nil) ⟨h2,h3,trivial⟩ 1 y hy;omega
 ·have:=shortN_wt ks h3;omega
end Go.Proofs.YtoegdmpmagbaiaaGreatDoor
