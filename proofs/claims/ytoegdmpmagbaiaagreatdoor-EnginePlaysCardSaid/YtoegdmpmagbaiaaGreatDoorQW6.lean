/- Words: the model's word with one more event. -/
import Derived.Test.YtoegdmpmagbaiaaGreatDoorKQS
set_option maxHeartbeats 4000000
set_option maxRecDepth 100000
namespace Go.Proofs.YtoegdmpmagbaiaaGreatDoor
open Go.RowKit Go.Sort Go.Lib
theorem GQ {P:Program}{t e:TypeId}{size bytes:Nat}(hE:BP P t e size bytes)(A:Option Addr){n cap:Nat}(k:Nat)(hk:k≤cap)(W:World):
 (Instr.slice t (.slice A n cap) none (some (.int .i64 k)) none).run P W=.ok (.slice A k cap) W:=by
 obtain⟨ht,_,i,z,hi,_,hsize,_,_⟩:=hE;have he:P.elem t=e:=by simp[Program.elem,ht]
 have ht':P.underlying t=some (.slice (P.elem t)):=by rw[he];exact ht
 rw[run_slice_h W t A n cap ht' .i64 k (by omega) (by omega),he];simp [sizeOf,typeInfo,hi,sliced,hsize];intro _
 cases A with
 |none=>rfl
 |some a=>simp[Addr.add];(try (obtain ⟨b,o,s⟩:=a;cases s<;>rfl))
theorem Sl.pre {w:World}{size n cap:Nat}{A:Option Addr}{xs:List Value}(h:Sl w size A n cap xs){k:Nat}(hk:k≤n):Sl w size A k cap (xs.take (k*size)):=by
 refine⟨by rw[List.length_take,h.len];exact Nat.min_eq_left (Nat.mul_le_mul_right _ hk),by have:=h.le;omega,h.max,h.nil,fun hn=>?_⟩;obtain ⟨b,off,rfl,hb,hc⟩:=h.cells (by omega);refine ⟨b,off,rfl,hb,fun j u hu=>hc j u ?_⟩;rw [List.getElem?_take] at hu;split at hu;·exact hu
 ·cases hu
theorem GL:∀(ps:List Pn) (k:Nat),(ps.flatMap pnc).take (k*2)=(ps.take k).flatMap pnc
 |[],_=>by simp
 |p::ps,0=>by simp
 |p::ps,k+1=>by
  have h:=GL ps k;rw [List.flatMap_cons,List.take_succ_cons,List.flatMap_cons,←h,show(k+1)*2=k*2+1+1 by omega];rfl
theorem Ca:BP Tryz.prog 40 103 2 32:=BP.mk (z:=.agg #[.int .i64 0,.slice none 0 0]) Tryz.underlying40 (by kernel_rfl) (by kernel_rfl) (by decide)
def Fw (ps:List Pn)(k j:Nat)(q:Pn):List Pn:=ps.take k++q::ps.drop j
theorem insJ_len {ps:List Pn}{k j:Nat}{q:Pn}(hk:k≤ps.length):(Fw ps k j q).length=k+1+(ps.length-j):=by
 unfold Fw;rw[List.length_append,List.length_cons,List.length_take,List.length_drop];omega
theorem insJ_sl {w w5:World}{A A5:Option Addr}{c c5 m:Nat}{ps:List Pn}{k j base T:Nat}{q:Pn}(hk:k≤ps.length)(hm:m=k+1+(ps.length-j))(h:WSl w A c ps)(hq:Sl w5 2 q.A q.l.length q.c (q.l.flatMap pcs))(hf:Fr Nob w w5)
 (hown:w5.ownsRow base T 2 (.slice A5 m c5) m ((ps.take k).flatMap pnc++(pnc q++(ps.drop j).flatMap pnc))):m=(Fw ps k j q).length∧WSl w5 A5 c5 (Fw ps k j q):=by
 have e:m=(Fw ps k j q).length:=by rw[insJ_len hk,hm]
 refine⟨e,?_,fun p hp=>?_⟩
 ·have h1:=Sl.of_own hown;rw [e] at h1;have e2:(Fw ps k j q).flatMap pnc=(ps.take k).flatMap pnc++(pnc q++(ps.drop j).flatMap pnc):=by unfold Fw;simp
  rw[e2];exact h1
 ·unfold Fw at hp;rw [List.mem_append,List.mem_cons] at hp;rcases hp with hp|rfl|hp;·exact(h.inn p (List.mem_of_mem_take hp)).pure hf
  ·exact hq
  ·exact(h.inn p (List.mem_of_mem_drop hp)).pure hf
theorem Gh {ps:List Pn}{k j:Nat}{q:Pn}:pts (Fw ps k j q)=(pts ps).take k++q.pt::(pts ps).drop j:=by
 unfold pts Fw;rw[List.map_append,List.map_cons,List.map_take,List.map_drop]
def RPutL (w:World)(A:Option Addr)(ps:List Pn)(q:List Pt×Nat×Bool)(e:Ending)(w':World):Prop:=∃(A':Option Addr) (c':Nat) (qs:List Pn),e=.returned (.tuple #[.slice A' qs.length c',.int .i64 q.2.1,.bool q.2.2])∧pts qs=q.1∧WSl w' A' c' qs∧Fr Nob w w'∧((A'=A∧qs=ps)∨∀b o,A'=some ⟨b,o,none⟩→w.heap.size≤b)∧∀y∈qs,y∈ps∨∀b o,y.A=some ⟨b,o,none⟩→w.heap.size≤b
theorem Gt {N:Nat}{ps:List Pn}{k j:Nat}{q:Pn}(hq:∀b o,q.A=some ⟨b,o,none⟩→N≤b):∀y∈Fw ps k j q,y∈ps∨∀b o,y.A=some ⟨b,o,none⟩→N≤b:=by
 intro y hy;unfold Fw at hy;rw [List.mem_append,List.mem_cons] at hy;rcases hy with hy|rfl|hy;·exact .inl (List.mem_of_mem_take hy)
 ·exact .inr hq
 ·exact .inl (List.mem_of_mem_drop hy)
def Mid (lo hi:Nat)(i:Nat):Prop:=i<lo∨hi≤i
theorem rw_PutL (w:World)(A:Option Addr)(c:Nat)(ps:List Pn)(t:Int)(B:Option Addr)(d:Nat)(l:List PP)(h:WSl w A c ps)(hnm:NmW ps)(hfew:ps.length≤900)(hpl:∀p∈ps,p.l.length+l.length≤900)
 (hl:Sl w 2 B l.length d (l.flatMap pcs))(hln:∀x∈l,x.name.size≤9223372036854775807)(hlf:l.length≤900):
 Calls Tryz.prog 46 #[.slice A ps.length c,.int .i64 t,.slice B l.length d] w (RPutL w A ps (putW (pts ps) t l)):=by
 have HR:=AA (GP w A c ps h hnm (by omega))
 have HO:=AA (fun X (hf:Fr Nob w X)=>(show Calls Tryz.prog 45 #[.slice B l.length d] X fun e w'=>MadeN X w' e (lof l) by
  have:=ref_OfN X B d l (hl.pure hf) (by omega);rwa [Gg] at this));have HRR:=AA (fun X A' c' hs=>Ec X A' c' (lof l) hs (fun p hp=>hln p ((BZ l p).1 hp)));have HL:=AA h;unfold putW;cases hr:AU (pts ps)
 ·rw[hr] at HR;rw [if_pos rfl];clear h hl hnm hln hr hpl;unfold RPutL;go_enter Tryz.func46,Tryz.ntmps46
  go_wp2_with (first
   |((go_at_call 78);(with_reducible refine(HR.out).mono ?_);rintro e w1 ⟨rfl,hf1⟩;have HF:=AA hf1;clear hf1)
   );go_ret3;exact ⟨none,0,[],rfl,rfl,⟨Sl.none_ _ _,fun p hp=>by cases hp⟩,HF.out,.inr (fun b o e=>by cases e),fun y hy=>by cases hy⟩
 ·rw[hr] at HR;rw [if_neg (by simp)]
  have HFM:=AA (fun X (hf:Fr Nob w X)=>(show Calls Tryz.prog 79 #[.slice A ps.length c,.int .i64 t] X fun e w'=>e=.returned (.int .i64 (fromI (pts ps) t:Nat))∧Fr Nob X w' by
   have:=rw_From X A c ps t (h.pure hf) hnm (by omega);unfold fromW at this;rwa [hr,if_pos rfl] at this));have hkl:=Cg (pts ps) t;rw [AC] at hkl;cases hm:(decide (0≤t)&&Am (lof l))
  ·rw[if_pos rfl];clear HFM hkl;have HE:=AA (fun X (hf:Fr Nob w X)=>(show RPutL w A ps (pts ps,0,false) (.returned (.tuple #[.slice A ps.length c,.int .i64 (0:Nat),.bool false])) X from⟨A,c,ps,rfl,rfl,HL.out.pure hf,hf,.inl ⟨rfl,rfl⟩,fun y hy=>.inl hy⟩));by_cases ht:0≤t
   ·have ht2:¬t<0:=by omega
    rw[decide_eq_true ht,Bool.true_and] at hm;rw [hm] at HRR;have htb:decide (t<0)=false:=by simpa using ht
    clear h hl hnm hln hr hpl hm;go_enter Tryz.func46,Tryz.ntmps46
    go_wp2_with (first
     |((go_at_call 78);(with_reducible refine(HR.out).mono ?_);rintro e w1 ⟨rfl,hf1⟩;have HF:=AA hf1;clear hf1)
     |((go_at_call 45);(with_reducible refine(HO.out _ HF.out).mono ?_);rintro e w2 ⟨B',d',rfl,hs2,hf2,hn2⟩;have HN2:=AA (fun g off e=>Nat.le_trans HF.out.size (hn2 g off e));clear hn2;have HS2:=AA hs2;replace HF:=AA (HF.out.call hf2 (fun _ h _=>h));clear hf2 hs2)
     |((go_at_call 44);(with_reducible refine(HRR.out _ _ _ HS2.out).mono ?_);rintro e w3 ⟨rfl,hf3⟩;replace HS2:=AA (HS2.out.pure hf3);replace HF:=AA (HF.out.call hf3 (fun _ h _=>h));clear hf3)
     |((go_at_call 79);(with_reducible refine(HFM.out _ HF.out).mono ?_);rintro e w4 ⟨rfl,hf4⟩;replace HS2:=AA (HS2.out.pure hf4);replace HF:=AA (HF.out.call hf4 (fun _ h _=>h));clear hf4)
     );go_ret3;exact HE.out _ HF.out
   ·have ht2:t<0:=by omega
    have htb:decide (t<0)=true:=by simpa using ht
    clear h hl hnm hln hr hpl hm;go_enter Tryz.func46,Tryz.ntmps46
    go_wp2_with (first
     |((go_at_call 78);(with_reducible refine(HR.out).mono ?_);rintro e w1 ⟨rfl,hf1⟩;have HF:=AA hf1;clear hf1)
     |((go_at_call 45);(with_reducible refine(HO.out _ HF.out).mono ?_);rintro e w2 ⟨B',d',rfl,hs2,hf2,hn2⟩;have HN2:=AA (fun g off e=>Nat.le_trans HF.out.size (hn2 g off e));clear hn2;have HS2:=AA hs2;replace HF:=AA (HF.out.call hf2 (fun _ h _=>h));clear hf2 hs2)
     |((go_at_call 44);(with_reducible refine(HRR.out _ _ _ HS2.out).mono ?_);rintro e w3 ⟨rfl,hf3⟩;replace HS2:=AA (HS2.out.pure hf3);replace HF:=AA (HF.out.call hf3 (fun _ h _=>h));clear hf3)
     |((go_at_call 79);(with_reducible refine(HFM.out _ HF.out).mono ?_);rintro e w4 ⟨rfl,hf4⟩;replace HS2:=AA (HS2.out.pure hf4);replace HF:=AA (HF.out.call hf4 (fun _ h _=>h));clear hf4)
     );go_ret3;exact HE.out _ HF.out
  ·have ht:0≤t:=by
    cases h0:decide (0≤t);·rw[h0] at hm;simp at hm
    ·simpa using h0
   have htb:decide (t<0)=false:=by simpa using ht
   have ht2:¬t<0:=by omega
   rw[decide_eq_true ht,Bool.true_and] at hm;rw [hm] at HRR;rw [if_neg (by simp)];have hcl:ps.length≤c:=h.sl.le;have hll:=EP l;obtain ⟨lv,hlv⟩:∃lv,lof l=lv:=⟨_,rfl⟩;have HLV:=AA hlv;rw [hlv] at HO HRR hll;have HPL:=AA hpl;by_cases H:∃hk:fromI (pts ps) t< (pts ps).length,(pts ps)[fromI (pts ps) t].1=t
   ·rw[dif_pos H];obtain ⟨hk,hkt⟩:=H;have hkp:fromI (pts ps) t<ps.length:=by rw[←AC ps];exact hk
    have ht3:(ps[fromI (pts ps) t]'hkp).t=t:=by rw[Ck hkp hk] at hkt;exact hkt
    rw[show ((pts ps)[fromI (pts ps) t]'hk).2=(ps[fromI (pts ps) t]'hkp).l by rw[Ck hkp hk];rfl];clear hkt;generalize fromI (pts ps) t=k at*;have hkI:(k:Int)<ps.length:=by omega
    have hk0:0≤(k:Int):=by omega
    obtain⟨b,off,hA,hb,d0,d1⟩:=h.at_ hkp;rw [ht3] at d0;have HD:=AA (fun X (hf:Fr Nob w X)=>(⟨hf.cell d0 (fun e=>e),hf.cell d1 (fun e=>e),Nat.lt_of_lt_of_le hb hf.size⟩:X.cell? ⟨b,off+k*2,none⟩=some (.int .i64 t)∧X.cell? ⟨b,off+k*2+1,none⟩=some (.slice ps[k].A ps[k].l.length ps[k].c)∧b<X.heap.size))
    have HU:=AA (fun X D f (hs:Sl X 2 D lv.length f (lv.flatMap pcs)) (hf:Fr Nob w X)=>(show Calls Tryz.prog 80 #[.slice ps[k].A ps[k].l.length ps[k].c,.slice D lv.length f] X fun e w'=>MadeN X w' e (lof (ps[k].l++l)) by
     have:=ref_UnionN X ps[k].A ps[k].c ps[k].l D f lv ((HL.out.inn _ (List.getElem_mem hkp)).pure hf) hs (by have:=HPL.out ps[k] (List.getElem_mem hkp);omega)
     have e1:lof (ps[k].l++lv)=lof (ps[k].l++l):=by
      rw[←HLV.out];exact FW (DA _) fun x=>by rw[BZ,List.mem_append,List.mem_append,BZ]
     rw[putAll_two,e1] at this;exact this));have hcut:=fun W=>GQ (P:=Tryz.prog) Ca A (n:=ps.length) (cap:=c) k (by omega) W
    obtain⟨A2,hcc,hcs⟩:∃A2,(∀W,(Instr.slice 40 (.slice A ps.length c) (some (.int .i64 ((k:Int)+1))) none none).run Tryz.prog W=.ok (.slice A2 (ps.length-(k+1)) (c-(k+1))) W)∧∀W,Fr Nob w W→Sl W 2 A2 (ps.length-(k+1)) (c-(k+1)) ((ps.drop (k+1)).flatMap pnc):=by
     refine⟨_,fun W=>EJ (P:=Tryz.prog) Ca A (n:=ps.length) (cap:=c) (k+1) (by omega) W,fun W hf=>?_⟩;have h1:=(h.sl.pure hf).cut (show k+1≤ps.length by omega);rwa [FB] at h1
    have HCS:=AA hcs
    have HCP:=AA (fun W (hf:Fr Nob w W)=>(show Sl W 2 A k c ((ps.take k).flatMap pnc) by
     have h1:=(h.sl.pure hf).pre hkl;rwa [GL] at h1));clear h hl hnm hln hr hpl hm d0 d1 ht3 hb hcs hlv;have HDP:=AA (show ∀u:List Pt,True from fun _=>trivial);generalize hml:ps[k].l=m at*;generalize hmA:ps[k].A=mA at*;generalize hmc:ps[k].c=mc at*;clear hml hmA hmc;subst hA;go_enter Tryz.func46,Tryz.ntmps46
    go_upto_region 8 with(first
     |((go_at_call 78);(with_reducible refine(HR.out).mono ?_);rintro e w1 ⟨rfl,hf1⟩;have HF:=AA hf1;clear hf1)
     |((go_at_call 45);(with_reducible refine(HO.out _ HF.out).mono ?_);rintro e w2 ⟨B',d',rfl,hs2,hf2,hn2⟩;have HN2:=AA (fun g off e=>Nat.le_trans HF.out.size (hn2 g off e));clear hn2;have HS2:=AA hs2;replace HF:=AA (HF.out.call hf2 (fun _ h _=>h));clear hf2 hs2)
     |((go_at_call 44);(with_reducible refine(HRR.out _ _ _ HS2.out).mono ?_);rintro e w3 ⟨rfl,hf3⟩;replace HS2:=AA (HS2.out.pure hf3);replace HF:=AA (HF.out.call hf3 (fun _ h _=>h));clear hf3)
     |((go_at_call 79);(with_reducible refine(HFM.out _ HF.out).mono ?_);rintro e w4 ⟨rfl,hf4⟩;replace HS2:=AA (HS2.out.pure hf4);replace HF:=AA (HF.out.call hf4 (fun _ h _=>h));clear hf4)
     );go_upto_region 9 with(first|(at_builtin;refine AP rfl _ _ 40 rfl Ca (base:=w4.heap.size) (xs:=[]) (news:=(ps.take k).flatMap pnc) rfl ?ow1 rfl ?sr1 ?oe1 ?h61 ?by1 ?bs1 ?_));case ow1=>exact World.ownsRow_nil _ _ _ _
    case sr1=>exact HCP.out _ HF.out
    case oe1=>exact Bu _
    case h61=>unfold maxLen;omega
    case by1=>omega
    case bs1=>exact Nat.le_refl _
    have HS4:=AA HS2.out;have hs04:=HF.out.size;intro A5 c5 w5 hown5 hgr5 _;have HOW:=AA hown5;have hst:=(Fr.refl Nob w4).grown hgr5 (fun q e _=>by cases e);have hst45:=hst.size;replace HS2:=AA (HS2.out.pure hst);replace HF:=AA (HF.out.call hst (fun _ h _=>h));clear hown5 hgr5 hst;have HM5:=AA (fun q (e:A5.map (·.block)=some q)=>(show q<w5.heap.size from(HOW.out.lt q (by cases A5<;>simp_all [Value.ownBlock])).2));obtain ⟨d0,d1,hb⟩:=HD.out _ HF.out;have HL5:=AA HS2.out;have hu63:=EP (m++l);obtain ⟨u,hu⟩:∃u,lof (m++l)=u:=⟨_,rfl⟩;rw [hu] at HU ⊢;have HUE:=AA hu;clear hu
    go_wp2_with (first
     |((go_at_call 80);(with_reducible refine(HU.out _ _ _ HS2.out HF.out).mono ?_);rintro e w6 ⟨D6,f6,rfl,hs6,hf6,hn6⟩;have HS6:=AA hs6;have HN6:=AA hn6;have hM6:=hf6.size;replace HF:=AA (HF.out.call hf6 (fun _ h _=>h));replace HM5:=AA (show ∀q,A5.map (·.block)=some q→Mid w5.heap.size w6.heap.size q from fun q e=>.inl (HM5.out q e));have HOW6:=AA (Ag HOW.out hf6 (fun _ _ _ _ e=>e));clear hs6 hf6 hn6)
     |(at_builtin;refine AP rfl _ _ 40 rfl Ca (base:=w4.heap.size) (xs:=(ps.take k).flatMap pnc) (news:=pnc ⟨t,D6,f6,u⟩) rfl ?ow2 rfl ?sr2 ?oe2 ?h62 ?by2 ?bs2 ?_));case ow2=>exact Ag HOW6.out ((Fr.refl _ _).alloc _) (fun _ _ _ _ e=>e)
    case sr2=>exact Sl.new1 (Blk.new _ _ _) 2 1 rfl (by decide)
    case oe2=>exact C7 _
    case h62=>unfold maxLen;omega
    case by2=>omega
    case bs2=>have:=HF.out.size;simp;omega
    intro A7 c7 w7 hown7 hgr7 hli7;have HG7:=AA (((Fr.refl (Mid w5.heap.size w6.heap.size) w6).alloc _).grown hgr7 (fun q e _=>HM5.out q e));have HF7:=AA ((HF.out.alloc _).grown hgr7 (fun q e hlt=>by have:=AX HOW6.out q e;omega))
    have HM7:=AA (show ∀q,A7.map (·.block)=some q→Mid w5.heap.size w6.heap.size q from fun q e=>by
     rcases hli7 with h7|h7;·exact HM5.out q (h7▸e)
     ·rw[e] at h7;have h8:q=(w6).heap.size+1:=by simpa using h7
      have h9:=hM6;exact .inr (by omega));have HOW7:=AA hown7;clear hown7 hgr7 hli7
    go_wp2_with (first
     |(at_builtin;refine AP rfl _ _ 40 rfl Ca (base:=w4.heap.size) (xs:=(ps.take k).flatMap pnc++pnc ⟨t,D6,f6,u⟩) (news:=(ps.drop (k+1)).flatMap pnc) rfl ?ow3 rfl ?sr3 ?oe3 ?h63 ?by3 ?bs3 ?_));case ow3=>exact HOW7.out
    case sr3=>exact HCS.out _ HF7.out
    case oe3=>exact Bu _
    case h63=>unfold maxLen;omega
    case by3=>omega
    case bs3=>have:=HG7.out.size;omega
    intro A8 c8 w8 hown8 hgr8 _;have HG8:=AA (HG7.out.grown hgr8 (fun q e _=>HM7.out q e));have HF8:=AA (HF7.out.grown hgr8 (fun q e hlt=>by have:=AX HOW7.out q e;omega));clear hgr8
    have HS8:=HS6.out.fr HG8.out (fun b' off' e hn=>by
     obtain⟨b2,off2,e2,hlt2,_⟩:=HS6.out.cells hn;rw [e] at e2;have e3:b'=b2:=by simpa using congrArg (Option.map (·.block)) e2
     have:=HN6.out _ _ e;unfold Mid;omega);obtain ⟨hm8,hw8⟩:=insJ_sl hkl rfl HL.out (q:=⟨t,D6,f6,u⟩) HS8 HF8.out hown8;go_wp2_with fail;rw [hm8];go_ret3;rw [HUE.out];refine ⟨_,_,_,rfl,?_,hw8,HF8.out,.inr (fun b o e=>by have:=AX hown8 b (by rw[e];rfl);omega),Gt (fun b o e=>by have:=HN6.out b o e;omega)⟩;rw [Gh,List.set_eq_take_append_cons_drop,if_pos hk];rfl
   ·rw[dif_neg H];have hne:∀hk:fromI (pts ps) t<ps.length,¬(ps[fromI (pts ps) t]'hk).t=t:=fun hk e=>H ⟨by rw[AC];exact hk,by rw[Ck hk];exact e⟩;clear H hm hr hnm hln;generalize fromI (pts ps) t=k at*;have hcut:=fun W=>GQ (P:=Tryz.prog) Ca A (n:=ps.length) (cap:=c) k (by omega) W
    obtain⟨A2,hcc,hcs⟩:∃A2,(∀W,(Instr.slice 40 (.slice A ps.length c) (some (.int .i64 k)) none none).run Tryz.prog W=.ok (.slice A2 (ps.length-k) (c-k)) W)∧∀W,Fr Nob w W→Sl W 2 A2 (ps.length-k) (c-k) ((ps.drop k).flatMap pnc):=by
     refine⟨_,fun W=>EJ (P:=Tryz.prog) Ca A (n:=ps.length) (cap:=c) k hkl W,fun W hf=>?_⟩;have h1:=(h.sl.pure hf).cut hkl;rwa [FB] at h1
    have HCS:=AA hcs
    have HCP:=AA (fun W (hf:Fr Nob w W)=>(show Sl W 2 A k c ((ps.take k).flatMap pnc) by
     have h1:=(h.sl.pure hf).pre hkl;rwa [GL] at h1));clear hl hpl hcs hlv;have hk0:0≤(k:Int):=by omega
    by_cases hkn:k<ps.length
    ·have hkI:(k:Int)<ps.length:=by omega
     obtain⟨b,off,hA,hb,d0,d1⟩:=h.at_ hkn;have hnt:(ps[k].t==t)=false:=by simpa using hne hkn
     have HD:=AA (fun X (hf:Fr Nob w X)=>(⟨hf.cell d0 (fun e=>e),Nat.lt_of_lt_of_le hb hf.size⟩:X.cell? ⟨b,off+k*2,none⟩=some (.int .i64 ps[k].t)∧b<X.heap.size));clear d0 d1 hb hne h;generalize ps[k].t=t0 at*;subst hA;go_enter Tryz.func46,Tryz.ntmps46
     go_upto_region 8 with(first
      |((go_at_call 78);(with_reducible refine(HR.out).mono ?_);rintro e w1 ⟨rfl,hf1⟩;have HF:=AA hf1;clear hf1)
      |((go_at_call 45);(with_reducible refine(HO.out _ HF.out).mono ?_);rintro e w2 ⟨B',d',rfl,hs2,hf2,hn2⟩;have HN2:=AA (fun g off e=>Nat.le_trans HF.out.size (hn2 g off e));clear hn2;have HS2:=AA hs2;replace HF:=AA (HF.out.call hf2 (fun _ h _=>h));clear hf2 hs2)
      |((go_at_call 44);(with_reducible refine(HRR.out _ _ _ HS2.out).mono ?_);rintro e w3 ⟨rfl,hf3⟩;replace HS2:=AA (HS2.out.pure hf3);replace HF:=AA (HF.out.call hf3 (fun _ h _=>h));clear hf3)
      |((go_at_call 79);(with_reducible refine(HFM.out _ HF.out).mono ?_);rintro e w4 ⟨rfl,hf4⟩;replace HS2:=AA (HS2.out.pure hf4);replace HF:=AA (HF.out.call hf4 (fun _ h _=>h));clear hf4)
      );go_upto_region 9 with(first|(at_builtin;refine AP rfl _ _ 40 rfl Ca (base:=w4.heap.size) (xs:=[]) (news:=(ps.take k).flatMap pnc) rfl ?ow4 rfl ?sr4 ?oe4 ?h64 ?by4 ?bs4 ?_));case ow4=>exact World.ownsRow_nil _ _ _ _
     case sr4=>exact HCP.out _ HF.out
     case oe4=>exact Bu _
     case h64=>unfold maxLen;omega
     case by4=>omega
     case bs4=>exact Nat.le_refl _
     have HS4:=AA HS2.out;have hs04:=HF.out.size;intro A5 c5 w5 hown5 hgr5 _;have HOW:=AA hown5;have hst:=(Fr.refl Nob w4).grown hgr5 (fun q e _=>by cases e);have hst45:=hst.size;replace HS2:=AA (HS2.out.pure hst);replace HF:=AA (HF.out.call hst (fun _ h _=>h));clear hown5 hgr5 hst;obtain ⟨d0,hb⟩:=HD.out _ HF.out;have HOW6:=HOW;have hM6:=hst45;have HM5:=AA (show ∀q,A5.map (·.block)=some q→Mid 0 w4.heap.size q from fun q e=>.inr (AX HOW.out q e))
     go_wp2_with (first
      |(at_builtin;refine AP rfl _ _ 40 rfl Ca (base:=w4.heap.size) (xs:=(ps.take k).flatMap pnc) (news:=pnc ⟨t,B',d',lv⟩) rfl ?ow5 rfl ?sr5 ?oe5 ?h65 ?by5 ?bs5 ?_));case ow5=>exact Ag HOW6.out ((Fr.refl _ _).alloc _) (fun _ _ _ _ e=>e)
     case sr5=>exact Sl.new1 (Blk.new _ _ _) 2 1 rfl (by decide)
     case oe5=>exact C7 _
     case h65=>unfold maxLen;omega
     case by5=>omega
     case bs5=>have:=HF.out.size;simp;omega
     intro A7 c7 w7 hown7 hgr7 hli7;have HG7:=AA (((Fr.refl (Mid 0 w4.heap.size) w5).alloc _).grown hgr7 (fun q e _=>HM5.out q e));have HF7:=AA ((HF.out.alloc _).grown hgr7 (fun q e hlt=>by have:=AX HOW6.out q e;omega))
     have HM7:=AA (show ∀q,A7.map (·.block)=some q→Mid 0 w4.heap.size q from fun q e=>by
      rcases hli7 with h7|h7;·exact HM5.out q (h7▸e)
      ·rw[e] at h7;have h8:q=(w5).heap.size+1:=by simpa using h7
       have h9:=hM6;exact .inr (by omega));have HOW7:=AA hown7;clear hown7 hgr7 hli7
     go_wp2_with (first
      |(at_builtin;refine AP rfl _ _ 40 rfl Ca (base:=w4.heap.size) (xs:=(ps.take k).flatMap pnc++pnc ⟨t,B',d',lv⟩) (news:=(ps.drop k).flatMap pnc) rfl ?ow6 rfl ?sr6 ?oe6 ?h66 ?by6 ?bs6 ?_));case ow6=>exact HOW7.out
     case sr6=>exact HCS.out _ HF7.out
     case oe6=>exact Bu _
     case h66=>unfold maxLen;omega
     case by6=>omega
     case bs6=>have:=HG7.out.size;omega
     intro A8 c8 w8 hown8 hgr8 _;have HG8:=AA (HG7.out.grown hgr8 (fun q e _=>HM7.out q e));have HF8:=AA (HF7.out.grown hgr8 (fun q e hlt=>by have:=AX HOW7.out q e;omega));clear hgr8
     have HS8:=HS2.out.fr HG8.out (fun b' off' e hn=>by
      obtain⟨b2,off2,e2,hlt2,_⟩:=HS4.out.cells hn;rw [e] at e2;have e3:b'=b2:=by simpa using congrArg (Option.map (·.block)) e2
      unfold Mid;omega);obtain ⟨hm8,hw8⟩:=insJ_sl hkl rfl HL.out (q:=⟨t,B',d',lv⟩) HS8 HF8.out hown8;go_wp2_with fail;rw [hm8];go_ret3;rw [HLV.out];refine ⟨_,_,_,rfl,?_,hw8,HF8.out,.inr (fun b o e=>by have:=AX hown8 b (by rw[e];rfl);omega),Gt HN2.out⟩;rw [Gh];rfl
    ·have hkI:(ps.length:Int)≤k:=by omega
     clear hne h;go_enter Tryz.func46,Tryz.ntmps46
     go_upto_region 8 with(first
      |((go_at_call 78);(with_reducible refine(HR.out).mono ?_);rintro e w1 ⟨rfl,hf1⟩;have HF:=AA hf1;clear hf1)
      |((go_at_call 45);(with_reducible refine(HO.out _ HF.out).mono ?_);rintro e w2 ⟨B',d',rfl,hs2,hf2,hn2⟩;have HN2:=AA (fun g off e=>Nat.le_trans HF.out.size (hn2 g off e));clear hn2;have HS2:=AA hs2;replace HF:=AA (HF.out.call hf2 (fun _ h _=>h));clear hf2 hs2)
      |((go_at_call 44);(with_reducible refine(HRR.out _ _ _ HS2.out).mono ?_);rintro e w3 ⟨rfl,hf3⟩;replace HS2:=AA (HS2.out.pure hf3);replace HF:=AA (HF.out.call hf3 (fun _ h _=>h));clear hf3)
      |((go_at_call 79);(with_reducible refine(HFM.out _ HF.out).mono ?_);rintro e w4 ⟨rfl,hf4⟩;replace HS2:=AA (HS2.out.pure hf4);replace HF:=AA (HF.out.call hf4 (fun _ h _=>h));clear hf4)
      );go_upto_region 9 with(first|(at_builtin;refine AP rfl _ _ 40 rfl Ca (base:=w4.heap.size) (xs:=[]) (news:=(ps.take k).flatMap pnc) rfl ?ow7 rfl ?sr7 ?oe7 ?h67 ?by7 ?bs7 ?_));case ow7=>exact World.ownsRow_nil _ _ _ _
     case sr7=>exact HCP.out _ HF.out
     case oe7=>exact Bu _
     case h67=>unfold maxLen;omega
     case by7=>omega
     case bs7=>exact Nat.le_refl _
     have HS4:=AA HS2.out;have hs04:=HF.out.size;intro A5 c5 w5 hown5 hgr5 _;have HOW:=AA hown5;have hst:=(Fr.refl Nob w4).grown hgr5 (fun q e _=>by cases e);have hst45:=hst.size;replace HS2:=AA (HS2.out.pure hst);replace HF:=AA (HF.out.call hst (fun _ h _=>h));clear hown5 hgr5 hst;have HOW6:=HOW;have hM6:=hst45;have HM5:=AA (show ∀q,A5.map (·.block)=some q→Mid 0 w4.heap.size q from fun q e=>.inr (AX HOW.out q e))
     go_wp2_with (first
      |(at_builtin;refine AP rfl _ _ 40 rfl Ca (base:=w4.heap.size) (xs:=(ps.take k).flatMap pnc) (news:=pnc ⟨t,B',d',lv⟩) rfl ?ow8 rfl ?sr8 ?oe8 ?h68 ?by8 ?bs8 ?_));case ow8=>exact Ag HOW6.out ((Fr.refl _ _).alloc _) (fun _ _ _ _ e=>e)
     case sr8=>exact Sl.new1 (Blk.new _ _ _) 2 1 rfl (by decide)
     case oe8=>exact C7 _
     case h68=>unfold maxLen;omega
     case by8=>omega
     case bs8=>have:=HF.out.size;simp;omega
     intro A7 c7 w7 hown7 hgr7 hli7;have HG7:=AA (((Fr.refl (Mid 0 w4.heap.size) w5).alloc _).grown hgr7 (fun q e _=>HM5.out q e));have HF7:=AA ((HF.out.alloc _).grown hgr7 (fun q e hlt=>by have:=AX HOW6.out q e;omega))
     have HM7:=AA (show ∀q,A7.map (·.block)=some q→Mid 0 w4.heap.size q from fun q e=>by
      rcases hli7 with h7|h7;·exact HM5.out q (h7▸e)
      ·rw[e] at h7;have h8:q=(w5).heap.size+1:=by simpa using h7
       have h9:=hM6;exact .inr (by omega));have HOW7:=AA hown7;clear hown7 hgr7 hli7
     go_wp2_with (first
      |(at_builtin;refine AP rfl _ _ 40 rfl Ca (base:=w4.heap.size) (xs:=(ps.take k).flatMap pnc++pnc ⟨t,B',d',lv⟩) (news:=(ps.drop k).flatMap pnc) rfl ?ow9 rfl ?sr9 ?oe9 ?h69 ?by9 ?bs9 ?_));case ow9=>exact HOW7.out
     case sr9=>exact HCS.out _ HF7.out
     case oe9=>exact Bu _
     case h69=>unfold maxLen;omega
     case by9=>omega
     case bs9=>have:=HG7.out.size;omega
     intro A8 c8 w8 hown8 hgr8 _;have HG8:=AA (HG7.out.grown hgr8 (fun q e _=>HM7.out q e));have HF8:=AA (HF7.out.grown hgr8 (fun q e hlt=>by have:=AX HOW7.out q e;omega));clear hgr8
     have HS8:=HS2.out.fr HG8.out (fun b' off' e hn=>by
      obtain⟨b2,off2,e2,hlt2,_⟩:=HS4.out.cells hn;rw [e] at e2;have e3:b'=b2:=by simpa using congrArg (Option.map (·.block)) e2
      unfold Mid;omega);obtain ⟨hm8,hw8⟩:=insJ_sl hkl rfl HL.out (q:=⟨t,B',d',lv⟩) HS8 HF8.out hown8;go_wp2_with fail;rw [hm8];go_ret3;rw [HLV.out];refine ⟨_,_,_,rfl,?_,hw8,HF8.out,.inr (fun b o e=>by have:=AX hown8 b (by rw[e];rfl);omega),Gt HN2.out⟩;rw [Gh];rfl
end Go.Proofs.YtoegdmpmagbaiaaGreatDoor
