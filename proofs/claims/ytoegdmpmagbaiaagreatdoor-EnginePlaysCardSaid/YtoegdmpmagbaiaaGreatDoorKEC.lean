/- Engines in memory; what is known is forgotten; the mark; what is asked of an engine. -/
import Derived.Test.YtoegdmpmagbaiaaGreatDoorKEB
import Derived.Test.YtoegdmpmagbaiaaGreatDoorKT
import Derived.Test.YtoegdmpmagbaiaaGreatDoorKQS
set_option maxHeartbeats 8000000
set_option maxRecDepth 100000
namespace Go.Proofs.YtoegdmpmagbaiaaGreatDoor
open Go.RowKit Go.Lib
def CP (x:Nd)(B:Option Addr)(n d:Nat)(far mark top:Int)(L S K:Value):Array Value:=
 #[.int .i64 x.op,.string x.name,.int .i64 x.cmp,.int .i64 x.val,.int .i64 x.lo,.int .i64 x.hi,.slice B n d,.int .i64 far,.int .i64 mark,.int .i64 top,L,S,K]
def Mown (E:Nat)(A D K:Option Addr)(ps:List Pn)(k:Nat):Prop:=k=E∨InB A k∨InB D k∨InB K k∨∃p∈ps,InB p.A k
structure Be (N:Nat) (w:World) (E:Nat) (x:Nd) (far:Int) (g:EG) (B:Option Addr) (d:Nat) (ks:Fo) (A:Option Addr) (c:Nat) (ps:List Pn) (D:Option Addr) (f:Nat) (K:Option Addr) (h:Nat) (kn:List Int):Prop where
 box:Blk w E 95 (CP x B ks.len d far g.mark (topE g.W) (.slice A ps.length c) (.slice D g.since.length f) (.slice K kn.length h))
 kids:Au N w B d ks
 live:WSl w A c ps
 lblk:∀k,InB A k→Pb w k
 since:Bd w 2 D f g.since
 known:Bd w 3 K h kn
 ptsE:pts ps=g.live
 kn:kn=[]∨kn=rowS g.live g.mark (madeS x ks.tr)
 ok:g.Ok
 nE:N≤E
 low:∀k,Mown E A D K ps k→N≤k∧k<w.heap.size
 eA:¬InB A E
 eD:¬InB D E
 eK:¬InB K E
 ad:∀k,InB A k→¬InB D k
 ak:∀k,InB A k→¬InB K k
 dk:∀k,InB D k→¬InB K k
 pp:∀p∈ps,∀k,InB p.A k→k≠E∧¬InB A k∧¬InB D k∧¬InB K k
def Eng (N:Nat)(w:World)(E:Nat)(M:Nat→Prop)(x:Nd)(t:Tr)(far:Int)(g:EG):Prop:=
 ∃B d ks A c ps D f K h kn,Fo.tr ks=t∧(∀k,M k↔Mown E A D K ps k)∧Be N w E x far g B d ks A c ps D f K h kn
def Dq (N:Nat)(w w':World)(E:Nat)(M:Nat→Prop)(x:Nd)(t:Tr)(far:Int)(g:EG):Prop:=
 ∃M',Eng N w' E M' x t far g∧Fr M w w'∧∀k,M' k→M k∨w.heap.size≤k
section
variable {N:Nat} {w w':World} {E:Nat} {M:Nat→Prop} {x:Nd} {t:Tr} {far:Int} {g:EG} {B:Option Addr} {d:Nat} {ks:Fo} {A:Option Addr} {c:Nat} {ps:List Pn} {D:Option Addr} {f:Nat} {K:Option Addr} {h:Nat} {kn:List Int}
theorem Be.fr {S:Nat→Prop}(H:Be N w E x far g B d ks A c ps D f K h kn)(hf:Fr S w w')(hN:∀k,S k→k<w.heap.size→N≤k)(hS:∀k,S k→¬Mown E A D K ps k):Be N w' E x far g B d ks A c ps D f K h kn:=by
 have hn:∀k,Mown E A D K ps k→¬S k:=fun k hk hs=>hS k hs hk
 refine⟨H.box.fr hf (hn E (.inl rfl)),H.kids.keep (fun k hk hlt=>hf.block k hlt (fun hs=>by have:=hN k hs hlt;omega)),⟨H.live.sl.fr hf fun b off e _=>hn b (.inr (.inl ⟨off,e⟩)),fun p hp=>(H.live.inn p hp).fr hf fun b off e _=>hn b (.inr (.inr (.inr (.inr ⟨p,hp,off,e⟩))))⟩,
  (fun k hk=>(H.lblk k hk).fr hf (hn k (.inr (.inl hk)))),H.since.fr hf fun b off e=>hn b (.inr (.inr (.inl ⟨off,e⟩))),H.known.fr hf fun b off e=>hn b (.inr (.inr (.inr (.inl ⟨off,e⟩)))),H.ptsE,H.kn,H.ok,H.nE,
  fun k hk=>⟨(H.low k hk).1,Nat.lt_of_lt_of_le (H.low k hk).2 hf.size⟩,H.eA,H.eD,H.eK,H.ad,H.ak,H.dk,H.pp⟩
theorem Be.upd {g':EG}(H:Be N w E x far g B d ks A c ps D f K h kn)(hf:Fr (fun k=>k=E∨InB K k) w w')(hb:Blk w' E 95 (CP x B ks.len d far g'.mark (topE g'.W) (.slice A ps.length c) (.slice D g'.since.length f) (.slice K ([]:List Int).length h)))
 (hk:Bd w' 3 K h [])(hg:g'.Ok)(hl:g'.live=g.live)(hs:g'.since=g.since):Be N w' E x far g' B d ks A c ps D f K h []:=by
 have hS:∀k,(k=E∨InB K k)→Mown E A D K ps k:=fun k hk=>by
  rcases hk with hk|hk;·exact .inl hk
  ·exact .inr (.inr (.inr (.inl hk)))
 have nA:∀k,InB A k→¬(k=E∨InB K k):=fun k hk e=>by
  rcases e with rfl|e;·exact H.eA hk
  ·exact H.ak k hk e
 have nD:∀k,InB D k→¬(k=E∨InB K k):=fun k hk e=>by
  rcases e with rfl|e;·exact H.eD hk
  ·exact H.dk k hk e
 have nP:∀p∈ps,∀k,InB p.A k→¬(k=E∨InB K k):=fun p hp k hk e=>by
  have:=H.pp p hp k hk;rcases e with e|e;·exact this.1 e
  ·exact this.2.2.2 e
 exact⟨hb,H.kids.keep (fun k hk hlt=>hf.block k hlt (fun hs=>by have:=(H.low k (hS k hs)).1;omega)),⟨H.live.sl.fr hf fun b off e _=>nA b ⟨off,e⟩,fun p hp=>(H.live.inn p hp).fr hf fun b off e _=>nP p hp b ⟨off,e⟩⟩,
  (fun k hk=>(H.lblk k hk).fr hf (nA k hk)),by rw[hs];exact H.since.fr hf fun b off e=>nD b ⟨off,e⟩,hk,by rw[hl];exact H.ptsE,.inl rfl,hg,H.nE,
  fun k hk=>⟨(H.low k hk).1,Nat.lt_of_lt_of_le (H.low k hk).2 hf.size⟩,H.eA,H.eD,H.eK,H.ad,H.ak,H.dk,H.pp⟩
theorem Eng.fr {S:Nat→Prop}(H:Eng N w E M x t far g)(hf:Fr S w w')(hN:∀k,S k→k<w.heap.size→N≤k)(hS:∀k,S k→¬M k):Eng N w' E M x t far g:=
 let⟨B,d,ks,A,c,ps,D,f,K,h,kn,h1,h2,h3⟩:=H
 ⟨B,d,ks,A,c,ps,D,f,K,h,kn,h1,h2,h3.fr hf hN fun k hs hk=>hS k hs ((h2 k).2 hk)⟩
theorem Eng.pure (H:Eng N w E M x t far g)(hf:Fr Nob w w'):Eng N w' E M x t far g:=H.fr hf (fun _ e=>e.elim) (fun _ e=>e.elim)
theorem Be.pure (H:Be N w E x far g B d ks A c ps D f K h kn)(hf:Fr Nob w w'):Be N w' E x far g B d ks A c ps D f K h kn:=H.fr hf (fun _ e=>e.elim) (fun _ e=>e.elim)
theorem Eng.ok (H:Eng N w E M x t far g):g.Ok:=let⟨_,_,_,_,_,_,_,_,_,_,_,_,_,h⟩:=H;h.ok
theorem Eng.low (H:Eng N w E M x t far g):∀k,M k→N≤k∧k<w.heap.size:=let⟨_,_,_,_,_,_,_,_,_,_,_,_,h2,h⟩:=H;fun k hk=>h.low k ((h2 k).1 hk)
theorem Dq.refl (H:Eng N w E M x t far g):Dq N w w E M x t far g:=⟨M,H,Fr.refl _ _,fun _ h=>.inl h⟩
theorem Dq.pure (H:Eng N w E M x t far g)(hf:Fr Nob w w'):Dq N w w' E M x t far g:=⟨M,H.pure hf,hf.mono fun _ _ h=>h.elim,fun _ h=>.inl h⟩
end
theorem zeroI:C3 Tryz.prog 93 3 1:=C3.mk' (bytes:=8) (z:=.int .i64 0) Tryz.underlying93 (by kernel_rfl) (by kernel_rfl) (by intro u hu;simp[Value.cells] at hu;subst hu;rfl) (by decide)
section
variable {P:Program} {ops:Array Oper} {rest:List Oper} {o:Oper} {a:Act} {w:World} {Q:Exit→Act→World→Prop}
theorem wpList_clearI (hgd:o.guard=none)(s:Operand)(t:TypeId)(ho:o.op=.call {callee:=.builtin .clear,args:=#[s],argTypes:=#[t]}){e:TypeId}(hZ:C3 P t e 1){A:Option Addr}{c:Nat}{kn:List Int}(hs:a.eval s=.slice A kn.length c)(hk:Bd w e A c kn)
 (h:∀w',Bd w' e A c []→Fr (InB A) w w'→wpList P ops Q rest (a.put o.dst (.tuple #[])) w'):wpList P ops Q (o::rest) a w:=by
 have hle:=hk.sl.le;have hmax:=hk.sl.max;rcases hk.blk with⟨rfl,rfl⟩|⟨b,off,cs,rfl,hB,hsz⟩
 ·have h0:kn.length=0:=by omega
  rw[h0] at hs;exact DD hgd s t ho hZ hs (h w (Bd.nil w e) (Fr.refl _ _))
 ·rcases Nat.eq_zero_or_pos kn.length with h0|h0
  ·rw[h0] at hs;exact DD hgd s t ho hZ hs (h w (Bd.of hB hsz (Nat.zero_le _) hmax (fun j u hu=>by simp at hu)) (Fr.refl _ _))
  ·obtain⟨vs,hvl,hrun⟩:=GR hZ w o.type b off kn.length c h0 (fun j hj=>by rw[hB.cell,Array.getElem?_eq_getElem (by omega)];rfl) (fun j hj=>hB.frozen _);refine wpList_plain hgd fun K hK=>?_;unfold Oper.wp execOp;simp only[ho,resolve,invoke,builtin,Sem.run_bind,Sem.run_pure,Result.andThen_ok,List.map_toArray,List.map_cons,List.map_nil,hs,hrun];exact hK _ _ (h _ (Bd.of (hB.putCells vs off) (by rw[BL];exact hsz) (Nat.zero_le _) hmax (fun j u hu=>by simp at hu)) ((BK b _ _ _).mono (fun k _ e=>⟨off,by have:k=b:=e;rw[this]⟩)))
end
theorem Ee (w:World)(E:Nat)(x:Nd)(B:Option Addr)(n d:Nat)(far mark top:Int)(L S:Value)(K:Option Addr)(h:Nat)(kn:List Int)(hB:Blk w E 95 (CP x B n d far mark top L S (.slice K kn.length h)))(hk:Bd w 3 K h kn)(hE:¬InB K E):
 Calls Tryz.prog 42 #[.pointer (some ⟨E,0,none⟩)] w fun e w'=>e=.returned (.tuple #[])∧Blk w' E 95 (CP x B n d far mark top L S (.slice K ([]:List Int).length h))∧Bd w' 3 K h []∧Fr (fun k=>k=E∨InB K k) w w':=by
 have HB:=AA hB;have HK:=AA hk;unfold CP at HB;have bc:=HB.out.cell;have bl:=HB.out.lt;clear hB hk;go_enter Tryz.func42,Tryz.ntmps42;go_wp2_with (refine wpList_clearI rfl _ 93 rfl zeroI rfl HK.out ?_;intro w1 hk1 hf1;have HK1:=AA hk1;have HF1:=AA hf1;have HB1:=AA (HB.out.fr hf1 hE);have bc1:=HB1.out.cell;have bf1:=HB1.out.frozen;have bl1:=HB1.out.lt;clear hk1 hf1);go_end0;have hb2:=HB1.out.set 12 (.slice K 0 h);exact ⟨rfl,by unfold CP;simpa using hb2,HK1.out.fr ((Fr.refl (Ah E) w1).setCell (p:=⟨E,12,none⟩) (fun _=>rfl) _) (fun b off e hE2=>hE ⟨off,by have:b=E:=hE2;rw[←this];exact e⟩),((HF1.out.mono (fun k _ hk=>(.inr hk:k=E∨InB K k))).setCell (p:=⟨E,12,none⟩) (fun _=>.inl rfl) _)⟩
theorem E9 (w:World):
 Calls Tryz.prog 18 #[.pointer none] w (fun e w'=>e=.returned (.int .i64 (-1))∧w'=w)∧Calls Tryz.prog 19 #[.pointer none] w (fun e w'=>e=.returned (.int .i64 (-1))∧w'=w)∧
 Calls Tryz.prog 17 #[.pointer none] w (fun e w'=>e=.returned (.slice none 0 0)∧w'=w)∧(∀m,Calls Tryz.prog 16 #[.pointer none,.int .i64 m] w (fun e w'=>e=.returned (.bool false)∧w'=w))∧
 (∀t l now,Calls Tryz.prog 14 #[.pointer none,.int .i64 t,l,.int .i64 now] w (fun e w'=>e=.returned (.tuple #[.bool false,.bool false])∧w'=w)):=by
 refine⟨?_,?_,?_,fun m=>?_,fun t l now=>?_⟩
 ·go_enter Tryz.func18,Tryz.ntmps18;go_wp2_with fail;go_ret;exact ⟨rfl,rfl⟩
 ·go_enter Tryz.func19,Tryz.ntmps19;go_wp2_with fail;go_ret;exact ⟨rfl,rfl⟩
 ·go_enter Tryz.func17,Tryz.ntmps17;go_wp2_with fail;go_ret;exact ⟨rfl,rfl⟩
 ·go_enter Tryz.func16,Tryz.ntmps16;go_wp2_with fail;go_ret;exact ⟨rfl,rfl⟩
 ·go_enter Tryz.func14,Tryz.ntmps14;go_wp2_with fail;go_ret2;exact ⟨rfl,rfl⟩
theorem eng_nilNext (w:World):Calls Tryz.prog 15 #[.pointer none] w (fun e w'=>e=.returned (.tuple #[.agg #[.int .i64 0,.int .i64 0,.bool false],.bool false])∧Fr Nob w w'):=by
 go_enter Tryz.func15,Tryz.ntmps15;go_upto_region 1 with fail;go_quiet (fail);go_wp2_with fail;refine bodyPost_ret (v:=.tuple #[.agg #[.int .i64 0,.int .i64 0,.bool false],.bool false]) (by simp[results,Tryz.results15,go_sem]) rfl ⟨rfl,?_⟩;exact (((((Fr.refl Nob w).alloc _).drewN _).setCell (p:=⟨w.heap.size,0,none⟩) (fun h=>absurd h (by simp)) _).setCell (p:=⟨w.heap.size,1,none⟩) (fun h=>absurd h (by simp)) _).setCell (p:=⟨w.heap.size,2,none⟩) (fun h=>absurd h (by simp)) _
section
variable {N:Nat} {w:World} {E:Nat} {M:Nat→Prop} {x:Nd} {t:Tr} {far:Int} {g:EG}
theorem eng_Mark (H:Eng N w E M x t far g):Calls Tryz.prog 18 #[.pointer (some ⟨E,0,none⟩)] w fun e w'=>e=.returned (.int .i64 g.mark)∧w'=w:=by
 obtain⟨B,d,ks,A,c,ps,D,f,K,h,kn,_,_,h3⟩:=H;have HB:=h3.box;unfold CP at HB;have bc:=HB.cell;have bl:=HB.lt;clear h3 HB;go_enter Tryz.func18,Tryz.ntmps18;go_wp2_with fail;go_ret;exact ⟨rfl,rfl⟩
theorem eng_Top (H:Eng N w E M x t far g):Calls Tryz.prog 19 #[.pointer (some ⟨E,0,none⟩)] w fun e w'=>e=.returned (.int .i64 (topE g.W))∧w'=w:=by
 obtain⟨B,d,ks,A,c,ps,D,f,K,h,kn,_,_,h3⟩:=H;have HB:=h3.box;unfold CP at HB;have bc:=HB.cell;have bl:=HB.lt;clear h3 HB;go_enter Tryz.func19,Tryz.ntmps19;go_wp2_with fail;go_ret;exact ⟨rfl,rfl⟩
theorem eng_Horizon (H:Eng N w E M x t far g):Calls Tryz.prog 25 #[.pointer (some ⟨E,0,none⟩)] w fun e w'=>e=.returned (.int .i64 far)∧w'=w:=by
 obtain⟨B,d,ks,A,c,ps,D,f,K,h,kn,_,_,h3⟩:=H;have HB:=h3.box;unfold CP at HB;have bc:=HB.cell;have bl:=HB.lt;clear h3 HB;go_enter Tryz.func25,Tryz.ntmps25;go_wp2_with fail;go_ret;exact ⟨rfl,rfl⟩
def RaiseR (N:Nat)(w:World)(E:Nat)(M:Nat→Prop)(x:Nd)(t:Tr)(far:Int)(g:EG)(m:Int)(e:Ending)(w':World):Prop:=
 e=.returned (.bool (decide (g.mark<m)))∧Dq N w w' E M x t far (if g.mark<m then g.raise m else g)
theorem eng_Raise (H:Eng N w E M x t far g)(m:Int)(hm:m≤AO):Calls Tryz.prog 16 #[.pointer (some ⟨E,0,none⟩),.int .i64 m] w (RaiseR N w E M x t far g m):=by
 unfold RaiseR;by_cases hlt:g.mark<m
 ·obtain⟨B,d,ks,A,c,ps,D,f,K,h,kn,ht,hM,h3⟩:=H;have H3:=AA h3;have HM:=AA hM;have HT:=AA ht;have HB:=AA h3.box;unfold CP at HB;have bc:=HB.out.cell;have bf:=HB.out.frozen;have bl:=HB.out.lt;have HFG:=AA (fun W (hb:Blk W E 95 (CP x B ks.len d far m (topE g.W) (.slice A ps.length c) (.slice D g.since.length f) (.slice K kn.length h))) (hk:Bd W 3 K h kn)=>Ee W E x B ks.len d far m (topE g.W) _ _ K h kn hb hk h3.eK)
  have HST:=AA (show Blk (w.setCell ⟨E,8,none⟩ (.int .i64 m)) E 95 (CP x B ks.len d far m (topE g.W) (.slice A ps.length c) (.slice D g.since.length f) (.slice K kn.length h)) by
   have:=HB.out.set 8 (.int .i64 m);unfold CP;simpa using this);have HF1:=AA ((Fr.refl (Ah E) w).setCell (p:=⟨E,8,none⟩) (fun _=>rfl) (.int .i64 m));have HK1:=AA (h3.known.fr HF1.out (fun b off e hb=>h3.eK ⟨off,by have:b=E:=hb;rw[←this];exact e⟩));clear h3 hM ht;rw [show decide (g.mark<m)=true by simpa using hlt,if_pos hlt];go_enter Tryz.func16,Tryz.ntmps16;go_wp2_with ((go_at_call 42);(refine (HFG.out _ HST.out HK1.out).mono ?_);rintro e w1 ⟨rfl,hb1,hk1,hf1⟩;have HB1:=AA hb1;have HK2:=AA hk1;have HF2:=AA (HF1.out.mono (fun k _ hk=>(.inl hk:k=E∨InB K k))|>.call hf1 (fun _ h _=>h));clear hb1 hk1 hf1);go_ret;refine ⟨rfl,M,⟨B,d,ks,A,c,ps,D,f,K,h,[],HT.out,HM.out,?_⟩,HF2.out.mono (fun k _ hk=>(HM.out k).2 (by rcases hk with hk|hk;exact .inl hk;exact .inr (.inr (.inr (.inl hk))))),fun k hk=>.inl hk⟩;exact Be.upd H3.out HF2.out HB1.out HK2.out (H3.out.ok.raise hlt hm) rfl rfl
 ·have hge:decide (g.mark<m)=false:=by simpa using hlt
  have HR:=AA (Dq.refl H);obtain ⟨B,d,ks,A,c,ps,D,f,K,h,kn,_,_,h3⟩:=H;have HB:=h3.box;unfold CP at HB;have bc:=HB.cell;have bl:=HB.lt;clear h3 HB;rw [hge,if_neg hlt];go_enter Tryz.func16,Tryz.ntmps16;go_wp2_with fail;go_ret;exact ⟨rfl,HR.out⟩
end
theorem Bd.lt {w:World}{t:TypeId}{A:Option Addr}{c:Nat}{S:List Int}(h:Bd w t A c S):∀k,InB A k→k<w.heap.size:=fun k ⟨off,e⟩=>by
 rcases h.blk with⟨h1,_⟩|⟨b,o,cs,h1,h2,_⟩;·rw[h1] at e;cases e
 ·rw[h1] at e;simp only[Option.some.injEq,Addr.mk.injEq,and_true] at e;rw [←e.1];exact h2.lt
section
variable {N:Nat} {w w4 w7:World} {E:Nat} {M:Nat→Prop} {x:Nd} {far:Int} {g g':EG} {B:Option Addr} {d:Nat} {ks:Fo} {A A4:Option Addr} {c c4:Nat} {ps qs:List Pn} {D D':Option Addr} {f f':Nat} {K:Option Addr} {h:Nat} {kn:List Int} {M0:Nat}
theorem Be.putA (H:Be N w E x far g B d ks A c ps D f K h kn)(h4:Fr Nob w w4)(hq:DH M0 w4 A4 c4 qs)(hM0:w.heap.size≤M0)(hf:Fr (fun k=>k=E∨InB D k∨InB K k) w4 w7)
 (hb:Blk w7 E 95 (CP x B ks.len d far g'.mark (topE g'.W) (.slice A4 qs.length c4) (.slice D' g'.since.length f') (.slice K ([]:List Int).length h)))
 (hs:Bd w7 2 D' f' g'.since)(hk:Bd w7 3 K h [])(hD:∀k,InB D' k→InB D k∨w4.heap.size≤k)(hp:pts qs=g'.live)(hg:g'.Ok):Be N w7 E x far g' B d ks A4 c4 qs D' f' K h []:=by
 have hlo:=fun k hk=>H.low k hk;have lE:=hlo E (.inl rfl);have lD:∀k,InB D k→k<w.heap.size:=fun k hk=>(hlo k (.inr (.inr (.inl hk)))).2;have lK:∀k,InB K k→k<w.heap.size:=fun k hk=>(hlo k (.inr (.inr (.inr (.inl hk))))).2;have hs4:=h4.size;have hs7:=hf.size
 have nS:∀k,w.heap.size≤k→¬(k=E∨InB D k∨InB K k):=fun k hk e=>by
  rcases e with e|e|e;·omega
  ·have:=lD k e;omega
  ·have:=lK k e;omega
 have tA:∀k,InB A4 k→w.heap.size≤k∧k<w4.heap.size:=fun k ⟨off,e⟩=>⟨by have:=hq.top k off e;omega,(hq.tfree k off e).lt⟩;have tP:∀p∈qs,∀k,InB p.A k→w.heap.size≤k∧k<w4.heap.size:=fun p hp k ⟨off,e⟩=>⟨by have:=(hq.low p hp k off e).1;omega,(hq.free p hp k off e).lt⟩
 refine⟨hb,H.kids.keep (fun k hk hlt=>(hf.block k (by omega) (fun e=>by
  have:N≤k:=by
   rcases e with e|e|e;·exact e▸lE.1
   ·exact(hlo k (.inr (.inr (.inl e)))).1
   ·exact(hlo k (.inr (.inr (.inr (.inl e))))).1
  omega)).trans (h4.block k hlt (fun e=>e))),
  ⟨hq.wsl.sl.fr hf fun b off e _=>nS b (tA b ⟨off,e⟩).1,fun p hp=>(hq.wsl.inn p hp).fr hf fun b off e _=>nS b (tP p hp b ⟨off,e⟩).1⟩,
  fun k ⟨off,e⟩=>(hq.tfree k off e).fr hf (nS k (tA k ⟨off,e⟩).1),hs,hk,hp,.inl rfl,hg,H.nE,?_,?_,?_,H.eK,?_,?_,?_,?_⟩
 ·rintro k (rfl|hk'|hk'|hk'|⟨p,hp,hk'⟩);·exact⟨lE.1,by omega⟩
  ·have:=tA k hk';exact⟨by omega,by omega⟩
  ·refine⟨?_,hs.lt k hk'⟩;rcases hD k hk' with h5|h5;·exact(hlo k (.inr (.inr (.inl h5)))).1
   ·omega
  ·exact⟨(hlo k (.inr (.inr (.inr (.inl hk'))))).1,by have:=lK k hk';omega⟩
  ·have:=tP p hp k hk';exact⟨by omega,by omega⟩
 ·exact fun e=>by have:=tA E e;omega
 ·exact fun e=>by
   rcases hD E e with h5|h5;·exact H.eD h5
   ·omega
 ·exact fun k h1 h2=>by
   have h3:=tA k h1;rcases hD k h2 with h5|h5;·have:=lD k h5;omega
   ·omega
 ·exact fun k h1 h2=>by have h3:=tA k h1;have:=lK k h2;omega
 ·exact fun k h1 h2=>by
   rcases hD k h1 with h5|h5;·exact H.dk k h5 h2
   ·have:=lK k h2;omega
 ·exact fun p hp k ⟨off,e⟩=>by
   have h3:=tP p hp k ⟨off,e⟩;refine ⟨by omega,fun⟨o',e'⟩=>(hq.low p hp k off e).2 k o' e' rfl,fun h5=>?_,fun h5=>by have:=lK k h5;omega⟩;rcases hD k h5 with h5|h5;·have:=lD k h5;omega
   ·omega
theorem Dq.putA {t:Tr}(H:Be N w E x far g B d ks A c ps D f K h kn)(hM:∀k,M k↔Mown E A D K ps k)(ht:ks.tr=t)(h4:Fr Nob w w4)(hq:DH M0 w4 A4 c4 qs)(hM0:w.heap.size≤M0)(hf:Fr (fun k=>k=E∨InB D k∨InB K k) w4 w7)
 (hb:Blk w7 E 95 (CP x B ks.len d far g'.mark (topE g'.W) (.slice A4 qs.length c4) (.slice D' g'.since.length f') (.slice K ([]:List Int).length h)))
 (hs:Bd w7 2 D' f' g'.since)(hk:Bd w7 3 K h [])(hD:∀k,InB D' k→InB D k∨w4.heap.size≤k)(hp:pts qs=g'.live)(hg:g'.Ok):Dq N w w7 E M x t far g':=by
 refine⟨_,⟨B,d,ks,A4,c4,qs,D',f',K,h,[],ht,fun k=>Iff.rfl,H.putA h4 hq hM0 hf hb hs hk hD hp hg⟩,?_,?_⟩
 ·refine(h4.mono (S':=M) (fun _ _ e=>e.elim)).call hf (fun k hk _=>(hM k).2 ?_);rcases hk with hk|hk|hk;·exact .inl hk
  ·exact .inr (.inr (.inl hk))
  ·exact .inr (.inr (.inr (.inl hk)))
 ·rintro k (rfl|⟨off,e⟩|hk'|hk'|⟨p,hp,off,e⟩);·exact .inl ((hM _).2 (.inl rfl))
  ·exact .inr (by have:=hq.top k off e;omega)
  ·rcases hD k hk' with h5|h5;·exact .inl ((hM k).2 (.inr (.inr (.inl h5))))
   ·exact .inr (by have:=h4.size;omega)
  ·exact .inl ((hM k).2 (.inr (.inr (.inr (.inl hk')))))
  ·exact .inr (by have:=(hq.low p hp k off e).1;omega)
end
def PutE (N:Nat)(w:World)(E:Nat)(M:Nat→Prop)(x:Nd)(t:Tr)(far:Int)(g:EG)(tm:Int)(l:List PP)(now:Int)(e:Ending)(w':World):Prop:=
 e=.returned (.tuple #[.bool (g.may tm l),.bool (g.may tm l&&(putW g.W tm l).2.2)])∧Dq N w w' E M x t far (if g.may tm l then g.put tm l now else g)
theorem Cz {g:EG}{n m:Nat}(h:CQ g.W n m){ps:List Pn}(hp:pts ps=g.live):ps.length≤n∧∀p∈ps,p.l.length≤m∧∀y∈p.l,y.name.size≤40:=by
 refine⟨?_,fun p hq=>?_⟩
 ·have h1:=congrArg List.length hp;rw [AC] at h1;have h2:=h.1;unfold EG.live at h1;rw [List.length_drop] at h1;omega
 ·have h1:p.pt∈g.live:=by rw[←hp];exact List.mem_map_of_mem hq
  exact h.2 p.pt (List.mem_of_mem_drop h1)
theorem eng_Put {N:Nat}{w:World}{E:Nat}{M:Nat→Prop}{x:Nd}{t:Tr}{far:Int}{g:EG}(H:Eng N w E M x t far g)(hbd:CQ g.W 800 800)(tm:Int)(htm:tm≤AO)(LA:Option Addr)(Lc:Nat)(l:List PP)(hl:Sl w 2 LA l.length Lc (l.flatMap pcs))(hll:l.length≤800)(hln:∀y∈l,y.name.size≤40)(now:Int):
 Calls Tryz.prog 14 #[.pointer (some ⟨E,0,none⟩),.int .i64 tm,.slice LA l.length Lc,.int .i64 now] w (PutE N w E M x t far g tm l now):=by
 unfold PutE;have HR:=AA (fun W (hf:Fr Nob w W)=>Dq.pure H hf);obtain ⟨B,d,ks,A,c,ps,D,f,K,h,kn,ht,hM,h3⟩:=H;have H3:=AA h3;have HM:=AA hM;have HT:=AA ht;have HB:=AA h3.box;unfold CP at HB;have bc:=HB.out.cell;have bl:=HB.out.lt;have HO:=AA (lab_Of w LA Lc l hl (by omega));have HRG:=AA (fun W A' c' (hs:Sl W 2 A' (lof l).length c' ((lof l).flatMap pcs))=>FX W A' c' (lof l) hs (fun p hp=>by have:=hln p ((BZ l p).1 hp);omega));have HWP:=AA (fun W (hf:Fr Nob w W) A' c' (hs:Sl W 2 A' (lof l).length c' ((lof l).flatMap pcs))=>wd_Put W A c ps tm A' c' (lof l) (h3.live.pure hf) (fun p hp y hy=>by have:=((Cz hbd h3.ptsE).2 p hp).2 y hy;omega) (by have:=(Cz hbd h3.ptsE).1;omega) (fun p hp=>by have:=((Cz hbd h3.ptsE).2 p hp).1;omega) hs (fun y hy=>by have:=hln y ((BZ l y).1 hy);omega) (by have:=EP l;omega));rw [h3.ptsE] at HWP;have HOK:=AA h3.ok;by_cases h0:tm<0
 ·have hm:g.may tm l=false:=by unfold EG.may;simp;omega
  rw[hm];clear h3 hM ht;go_enter Tryz.func14,Tryz.ntmps14;go_wp2_with fail;go_ret2;exact ⟨rfl,HR.out _ (Fr.refl _ _)⟩
 ·by_cases h1:tm≤g.mark
  ·have hm:g.may tm l=false:=by unfold EG.may;simp;omega
   rw[hm];clear h3 hM ht;go_enter Tryz.func14,Tryz.ntmps14;go_wp2_with fail;go_ret2;exact ⟨rfl,HR.out _ (Fr.refl _ _)⟩
  ·cases hr:Am (lof l)
   ·have hm:g.may tm l=false:=by unfold EG.may;simp[hr]
    rw[hm];rw [hr] at HRG;clear h3 hM ht hm hr;go_enter Tryz.func14,Tryz.ntmps14
    go_wp2_with (first
     |((go_at_call 30);(with_reducible refine(HO.out).mono ?_);rintro e w1 ⟨A1,c1,rfl,hs1,hf1,_⟩;have HS1:=AA hs1;have HF1:=AA hf1;clear hs1 hf1)
     |((go_at_call 29);(with_reducible refine(HRG.out _ _ _ HS1.out).mono ?_);rintro e w2 ⟨rfl,hf2⟩));go_ret2;exact ⟨rfl,HR.out _ (HF1.out.call hf2 (fun _ h _=>h))⟩
   ·have hm:g.may tm l=true:=EN.2 ⟨by omega,by omega,hr⟩;have HMY:=AA hm;obtain ⟨e1,e2,e3⟩:=EG.put_live h3.ok hm;have HLV:=AA (show (g.put tm l now).live=(putW g.live tm (lof l)).1 from e1);have HPL:=AA e2;have HFS:=AA e3;have HTP:=AA (show topE (g.put tm l now).W=max (topE g.W) tm from topE_put h3.ok.right (DT hm));rw [hm,Bool.true_and,e3];rw [hr] at HRG;have hsl:g.since.length≤800:=by rw[h3.ok.slen];have:=hbd.1;unfold EG.live;rw[List.length_drop];omega
    have hkle:(putW g.live tm (lof l)).2.1≤g.since.length:=by
     rw[EZ h3.ok.lright (by rw[lof_one];exact DT hm),h3.ok.slen];exact Cg _ _
    have HKL:=AA hkle
    have HSI:=AA (show (putW g.live tm (lof l)).2.2=true→(g.put tm l now).since=Dn g.since (putW g.live tm (lof l)).2.1 now from fun e=>by
     unfold EG.since EG.put;dsimp only;rw [e3,e,if_pos rfl,e2,insI_drop (by rw[h3.ok.len];exact h3.ok.told)])
    have HSJ:=AA (show (putW g.live tm (lof l)).2.2=false→(g.put tm l now).since=g.since from fun e=>by
     unfold EG.since EG.put;dsimp only;rw [e3,e,if_neg (by simp)]);have HPO:=AA (h3.ok.put now hm htm);have HMK:=AA (show (g.put tm l now).mark=g.mark from rfl);have HSIN:=AA h3.since;have HKN:=AA h3.known;have HeD:=AA h3.eD;have HeK:=AA h3.eK;have HdK:=AA h3.dk;have HLO:=AA h3.low;have HGP:=AA (show (if true=true then g.put tm l now else g)=g.put tm l now from if_pos rfl);rw [HGP.out];generalize g.put tm l now=g' at*;generalize putW g.live tm (lof l)=q at*;obtain ⟨qw,qk,qf⟩:=q;dsimp only at*;unfold PutR at HWP;clear h3 hM ht hm hr e1 e2 e3 hkle HR HOK HMY;have htop:(-1:Int)≤tm:=by omega
    generalize hGT:topE g.W=tp at*;have HGT:=AA hGT;generalize g.since=si at*;clear hGT;cases qf
    ·replace HSJ:=AA (HSJ.out rfl);clear HSI;go_enter Tryz.func14,Tryz.ntmps14
     go_upto_region 7 with(first
      |((go_at_call 30);(with_reducible refine(HO.out).mono ?_);rintro e w1 ⟨A1,c1,rfl,hs1,hf1,_⟩;have HS1:=AA hs1;have HF1:=AA hf1;clear hs1 hf1)
      |((go_at_call 29);(with_reducible refine(HRG.out _ _ _ HS1.out).mono ?_);rintro e w2 ⟨rfl,hf2⟩;have HF2:=AA (HF1.out.call hf2 (fun _ h _=>h));have HS2:=AA (HS1.out.pure hf2);have bc2:=(HB.out.fr HF2.out (fun e=>e)).cell;have bl2:=(HB.out.fr HF2.out (fun e=>e)).lt;clear hf2)
      |((go_at_call 26);(with_reducible refine(HWP.out _ HF2.out _ _ HS2.out).mono ?_);rintro e w4 ⟨A4,c4,qs,rfl,hp4,hq4,hf4⟩;have HP4:=AA hp4;have HQ4:=AA hq4;have HF4:=AA (HF2.out.call hf4 (fun _ h _=>h));clear hp4 hq4 hf4));have HB4:=AA (HB.out.fr HF4.out (fun e=>e));have bc4:=HB4.out.cell;have bf4:=HB4.out.frozen;have bl4:=HB4.out.lt;clear bc bl bc2 bl2;go_upto_region 11 with fail;obtain ⟨W6,hW6⟩:∃W6,W6=(w4.setCell ⟨E,10,none⟩ (.slice A4 qs.length c4)).setCell ⟨E,9,none⟩ (.int .i64 (max tp tm)):=⟨_,rfl⟩
     have HB6:=AA (show Blk W6 E 95 (CP x B ks.len d far g'.mark (topE g'.W) (.slice A4 qs.length c4) (.slice D si.length f) (.slice K kn.length h)) by
      have:=(HB4.out.set 10 (.slice A4 qs.length c4)).set 9 (.int .i64 (max tp tm));rw [hW6,HMK.out,HTP.out];unfold CP;simpa using this);have HF6:=AA (show Fr (Ah E) w4 W6 by rw[hW6];exact((Fr.refl (Ah E) w4).setCell (p:=⟨E,10,none⟩) (fun _=>rfl) _).setCell (p:=⟨E,9,none⟩) (fun _=>rfl) _);have HK6:=AA ((HKN.out.pure HF4.out).fr HF6.out (fun b off e hb=>HeK.out ⟨off,by have:b=E:=hb;rw[←this];exact e⟩));rw [←hW6];clear hW6 bc4 bf4 bl4;have HFG:=AA (fun W (hb:Blk W E 95 (CP x B ks.len d far g'.mark (topE g'.W) (.slice A4 qs.length c4) (.slice D si.length f) (.slice K kn.length h))) (hk:Bd W 3 K h kn)=>Ee W E x B ks.len d far g'.mark (topE g'.W) _ _ K h kn hb hk HeK.out);go_wp2_with ((go_at_call 42);(refine (HFG.out _ HB6.out HK6.out).mono ?_);rintro e w7 ⟨rfl,hb7,hk7,hf7⟩;have HB7:=AA hb7;have HK7:=AA hk7;have HF7:=AA hf7;clear hb7 hk7 hf7);go_ret2;refine ⟨rfl,Dq.putA (D':=D) (f':=f) H3.out HM.out HT.out HF4.out HQ4.out HF2.out.size ?_ ?_ ?_ HK7.out (fun k hk=>.inl hk) (HP4.out.trans HLV.out.symm) HPO.out⟩
     ·refine(HF6.out.mono (S':=fun k=>k=E∨InB D k∨InB K k) (fun k _ hk=>.inl hk)).call HF7.out (fun k hk _=>?_);rcases hk with hk|hk;·exact .inl hk
      ·exact .inr (.inr hk)
     ·rw[HSJ.out];exact HB7.out
     ·rw[HSJ.out]
      exact((HSIN.out.pure HF4.out).fr HF6.out (fun b off e hb=>HeD.out ⟨off,by have:b=E:=hb;rw[←this];exact e⟩)).fr HF7.out (fun b off e hb=>by
       rcases hb with hb|hb;·exact HeD.out ⟨off,by rw[←hb];exact e⟩
       ·exact HdK.out b ⟨off,e⟩ hb)
    ·replace HSI:=AA (HSI.out rfl);clear HSJ;go_enter Tryz.func14,Tryz.ntmps14
     go_upto_region 7 with(first
      |((go_at_call 30);(with_reducible refine(HO.out).mono ?_);rintro e w1 ⟨A1,c1,rfl,hs1,hf1,_⟩;have HS1:=AA hs1;have HF1:=AA hf1;clear hs1 hf1)
      |((go_at_call 29);(with_reducible refine(HRG.out _ _ _ HS1.out).mono ?_);rintro e w2 ⟨rfl,hf2⟩;have HF2:=AA (HF1.out.call hf2 (fun _ h _=>h));have HS2:=AA (HS1.out.pure hf2);have bc2:=(HB.out.fr HF2.out (fun e=>e)).cell;have bl2:=(HB.out.fr HF2.out (fun e=>e)).lt;clear hf2)
      |((go_at_call 26);(with_reducible refine(HWP.out _ HF2.out _ _ HS2.out).mono ?_);rintro e w4 ⟨A4,c4,qs,rfl,hp4,hq4,hf4⟩;have HP4:=AA hp4;have HQ4:=AA hq4;have HF4:=AA (HF2.out.call hf4 (fun _ h _=>h));clear hp4 hq4 hf4));have HB4:=AA (HB.out.fr HF4.out (fun e=>e));have bc4:=HB4.out.cell;have bf4:=HB4.out.frozen;have bl4:=HB4.out.lt;clear bc bl bc2 bl2;go_upto_region 9 with fail;obtain ⟨W5,hW5⟩:∃W5,W5=w4.setCell ⟨E,10,none⟩ (.slice A4 qs.length c4):=⟨_,rfl⟩
     have HB5:=AA (show Blk W5 E 95 #[.int .i64 x.op,.string x.name,.int .i64 x.cmp,.int .i64 x.val,.int .i64 x.lo,.int .i64 x.hi,.slice B ks.len d,.int .i64 far,.int .i64 g.mark,.int .i64 tp,.slice A4 qs.length c4,.slice D si.length f,.slice K kn.length h] by
      have:=HB4.out.set 10 (.slice A4 qs.length c4);rw [hW5];simpa using this);have HF5:=AA (show Fr (Ah E) w4 W5 by rw[hW5];exact(Fr.refl (Ah E) w4).setCell (p:=⟨E,10,none⟩) (fun _=>rfl) _);have HK5:=AA ((HKN.out.pure HF4.out).fr HF5.out (fun b off e hb=>HeK.out ⟨off,by have:b=E:=hb;rw[←this];exact e⟩));have HD5:=AA ((HSIN.out.pure HF4.out).fr HF5.out (fun b off e hb=>HeD.out ⟨off,by have:b=E:=hb;rw[←this];exact e⟩));have HIN:=AA (sl_Insert (W5.alloc (.cells #[.int .i64 now] 2)) D f qk W5.heap.size si now (HD5.out.pure ((Fr.refl _ _).alloc _)) HKL.out (Blk.new _ _ _) (fun e=>by have:=HD5.out.lt _ e;omega) (by omega));have HS5:=AA (show W5.heap.size=w4.heap.size by rw[hW5];simp);rw [←hW5];have bc5:=HB5.out.cell;have bf5:=HB5.out.frozen;have bl5:=HB5.out.lt;unfold InsR at HIN;clear hW5 bc4 bf4 bl4;go_upto_region 10 with((go_at_call 41);(with_reducible refine(HIN.out).mono ?_);rintro e w6 ⟨D',f',rfl,hi6,hf6,hd6⟩;have HI6:=AA hi6;have HF6:=AA (((Fr.refl (InB D) W5).alloc (.cells #[.int .i64 now] 2)).call hf6 (fun _ h _=>h));have HD6:=AA hd6;have HBx:=AA (HB5.out.fr HF6.out HeD.out);have bc6:=HBx.out.cell;have bf6:=HBx.out.frozen;have bl6:=HBx.out.lt;have hs6:=HF6.out.size;clear hi6 hf6 hd6);go_upto_region 11 with fail;obtain ⟨W6,hW6⟩:∃W6,W6=(w6.setCell ⟨E,11,none⟩ (.slice D' (si.length+1) f')).setCell ⟨E,9,none⟩ (.int .i64 (max tp tm)):=⟨_,rfl⟩
     have HB6:=AA (show Blk W6 E 95 (CP x B ks.len d far g'.mark (topE g'.W) (.slice A4 qs.length c4) (.slice D' (si.length+1) f') (.slice K kn.length h)) by
      have:=(HBx.out.set 11 (.slice D' (si.length+1) f')).set 9 (.int .i64 (max tp tm));rw [hW6,HMK.out,HTP.out];unfold CP;simpa using this);have HG6:=AA (show Fr (Ah E) w6 W6 by rw[hW6];exact((Fr.refl (Ah E) w6).setCell (p:=⟨E,11,none⟩) (fun _=>rfl) _).setCell (p:=⟨E,9,none⟩) (fun _=>rfl) _);have HK6:=AA ((HK5.out.fr HF6.out (fun b off e hb=>HdK.out b hb ⟨off,e⟩)).fr HG6.out (fun b off e hb=>HeK.out ⟨off,by have:b=E:=hb;rw[←this];exact e⟩));rw [←hW6];clear hW6 bc5 bf5 bl5 bc6 bf6 bl6 HIN;have HFG:=AA (fun W (hb:Blk W E 95 (CP x B ks.len d far g'.mark (topE g'.W) (.slice A4 qs.length c4) (.slice D' (si.length+1) f') (.slice K kn.length h))) (hk:Bd W 3 K h kn)=>Ee W E x B ks.len d far g'.mark (topE g'.W) _ _ K h kn hb hk HeK.out);go_wp2_with ((go_at_call 42);(refine (HFG.out _ HB6.out HK6.out).mono ?_);rintro e w7 ⟨rfl,hb7,hk7,hf7⟩;have HB7:=AA hb7;have HK7:=AA hk7;have HF7:=AA hf7;clear hb7 hk7 hf7);go_ret2;have hil:=E8 HKL.out now
     have hDD:∀k,InB D' k→InB D k∨w4.heap.size≤k:=fun k hk=>by
      rcases HD6.out k hk with h5|h5;·exact .inl h5
      ·rw[World.size_alloc] at h5;exact .inr (by have:=HS5.out;omega)
     have hDE:∀k,InB D' k→k≠E:=fun k hk e=>by
      rcases hDD k hk with h5|h5;·exact HeD.out (e▸h5)
      ·have:=(HLO.out E (.inl rfl)).2;have:=HF4.out.size;omega
     have hDK:∀k,InB D' k→¬InB K k:=fun k hk e=>by
      rcases hDD k hk with h5|h5;·exact HdK.out k h5 e
      ·have:=(HLO.out k (.inr (.inr (.inr (.inl e))))).2;have:=HF4.out.size;omega
     refine⟨rfl,Dq.putA (D':=D') (f':=f') H3.out HM.out HT.out HF4.out HQ4.out HF2.out.size ?_ ?_ ?_ HK7.out hDD (HP4.out.trans HLV.out.symm) HPO.out⟩
     ·refine(((HF5.out.mono (S':=fun k=>k=E∨InB D k∨InB K k) (fun k _ hk=>.inl hk)).call HF6.out (fun k hk _=>.inr (.inl hk))).call HG6.out (fun k hk _=>.inl hk)).call HF7.out (fun k hk _=>?_);rcases hk with hk|hk;·exact .inl hk
      ·exact .inr (.inr hk)
     ·rw[HSI.out,hil];exact HB7.out
     ·rw[HSI.out]
      exact(HI6.out.fr HG6.out (fun b off e hb=>hDE b ⟨off,e⟩ hb)).fr HF7.out (fun b off e hb=>by
       rcases hb with hb|hb;·exact hDE b ⟨off,e⟩ hb
       ·exact hDK b ⟨off,e⟩ hb)
end Go.Proofs.YtoegdmpmagbaiaaGreatDoor
