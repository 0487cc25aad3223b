/- What the closes of all laws share. -/
import Derived.Test.YtoegdmpmagbaiaaGreatDoorKA
import Derived.Lib.SmallJoins
import Derived.ChangeMaps5
import Derived.Test.YtoegdmpmagbaiaaGreatDoorKC
import Derived.Test.YtoegdmpmagbaiaaGreatDoorKO
import Derived.Test.YtoegdmpmagbaiaaGreatDoorKS
import Derived.Test.YtoegdmpmagbaiaaGreatDoorKT
import Derived.LaidMore
import Derived.MakeChecks
import Derived.LaidHandle
import Derived.Stop.LaidErr
import Derived.Stop.Joined
import Derived.OpenShut
import Derived.Lib.LaidTab
import Derived.Test.YtoegdmpmagbaiaaGreatDoorKEF
import Derived.ChangeShapes
set_option maxRecDepth 100000
namespace Go.Proofs.YtoegdmpmagbaiaaGreatDoor
open Go.ChangeShapes Go.WideShapes Go.ChangeAt Go.RowKit Go.Deep
theorem own_knob:ownKnob Tryz.prog.godebug=none:=by kernel_rfl
theorem laid_out:laidOutB Tryz.prog=true:=by kernel_rfl
theorem Dr {n:Int}(h:(Lit.int .i64 n).wf=true):I64 n:=by
 simp[Lit.wf,IntKind.min,IntKind.max,IntKind.signed,IntKind.bits] at h;unfold I64;omega
section
variable {H:Type} {enc:TypeId×Value→H} {P:Program} {w:World} {base:Nat} {spare:Nat→Bool} {held:Bool}
theorem open_list {α:Type}{t e:TypeId}{r:Reach}{b0:Nat}{v:Value}{d:DataW H}{ps:List MemPlace}(f:α→List Value)(good:α→Prop)(size:Nat)(hsz:0<size)(hf:∀y,(f y).length=size)
 (ht:P.underlying t=some (.slice e))(hC:P.cellsOf e=size)(hone:∀n cs x,DataW.trod enc P w base spare held n e cs=some x→∃y,cs=f y∧good y)
 (hval:Value.okWide P w r b0 t v)(h:DataW.Trod enc P w base spare held t v d ps):
 ∃A cap l,v=.slice A (List.length l) cap∧Sl w size A l.length cap (l.flatMap f)∧∀y∈l,good y:=by
 obtain⟨fuel,hfu⟩:=h;obtain ⟨a0,len0,cap0,rfl⟩:=okWide_slice ht hval;obtain ⟨A,cap,l,hcs,hsl,hg⟩:=open_rows f good size hsz hf ht hC hone hfu;have:Value.slice a0 len0 cap0=.slice A l.length cap:=by simpa[Value.cells] using hcs
 exact⟨A,cap,l,this,hsl,hg⟩
end
section
variable {H:Type} {enc:TypeId×Value→H} {w:World} {base:Nat} {spare:Nat→Bool} {held:Bool}
def FoCame (w:World)(cs:List Value):Prop:=∃x A c ks,cs=fcs x A (Fo.len ks) c∧NdOk x∧ks.tr.ok∧Au w.heap.size w A c ks
theorem fo_build (w:World)(b:Nat)(hb:b<w.heap.size):∀(n off:Nat),(∀i,i<n→∃cs,FoCame w cs∧∀j u,cs[j]?=some u→w.cell? ⟨b,off+(i*7+j),none⟩=some u)→∃f:Fo,f.len=n∧f.tr.ok∧f.At w.heap.size w b off:=by
 intro n
 induction n with
 |zero=>intro off _;exact⟨.nil,rfl,trivial,trivial⟩
 |succ n ih=>
  intro off h
  obtain⟨f,hl,hok,hat⟩:=ih (off+7) (fun i hi=>by
   obtain⟨cs,h1,h2⟩:=h (i+1) (by omega);refine ⟨cs,h1,fun j u hu=>?_⟩;have:=h2 j u hu;rwa [show off+((i+1)*7+j)=off+7+(i*7+j) by omega] at this);obtain ⟨cs,⟨x,A,c,ks,rfl,hx,hk,hs⟩,h2⟩:=h 0 (by omega);refine ⟨.cons x A c ks f,by simp[Fo.len,hl],⟨hx,hk,hok⟩,hb,hb,fun j u hu=>?_,hs.ok,hs.some_,hs.at_,hat⟩;have:=h2 j u hu;simpa using this
theorem open_f:∀(fuel:Nat) (cs:List Value) (x:DataW H×List MemPlace),DataW.trod enc Tryz.prog w base spare held fuel 28 cs=some x→FoCame w cs:=by
 intro fuel
 induction fuel using Nat.strongRecOn with
 |_ fuel ih=>
  intro cs x h;obtain ⟨xs,m,rfl,rfl,hlen,hxs,hf⟩:=DataW.trod_struct Tryz.underlying28 h;have hl:cs.length=7:=hlen.trans (by kernel_rfl)
  match cs,hl with
  |[v0,v1,v2,v3,v4,v5,v6],_=>
   have e0:=hf 0 _ rfl;have e1:=hf 1 _ rfl;have e2:=hf 2 _ rfl;have e3:=hf 3 _ rfl;have hx:xs.length=4:=hxs;rw [List.getElem?_eq_getElem (by omega)] at e0 e1 e2 e3;obtain ⟨o,ho,_,wo⟩:=DataW.trod_int (k:=.i64) (by kernel_rfl) e0;have h0:[v0]=[Value.int .i64 o]:=ho;simp only[List.cons.injEq,and_true] at h0;subst h0;obtain ⟨ys,m1,_,_,_,hys,hg⟩:=DataW.trod_struct Tryz.underlying23 e1;have g0:=hg 0 _ rfl;have g1:=hg 1 _ rfl;have g2:=hg 2 _ rfl;have hy:ys.length=3:=hys;rw [List.getElem?_eq_getElem (by omega)] at g0 g1 g2;obtain ⟨s,hs,_,_⟩:=DataW.trod_string (by kernel_rfl) g0;obtain ⟨p,hp,_,wp⟩:=DataW.trod_int (k:=.i64) (by kernel_rfl) g1;obtain ⟨q,hq,_,wq⟩:=DataW.trod_int (k:=.i64) (by kernel_rfl) g2;have h1:[v1]=[Value.string s]:=hs;have h2:[v2]=[Value.int .i64 p]:=hp;have h3:[v3]=[Value.int .i64 q]:=hq;simp only[List.cons.injEq,and_true] at h1 h2 h3;subst h1 h2 h3;obtain ⟨zs,m2,_,_,_,hzs,hk⟩:=DataW.trod_struct Tryz.underlying25 e2;have k0:=hk 0 _ rfl;have k1:=hk 1 _ rfl;have hz:zs.length=2:=hzs;rw [List.getElem?_eq_getElem (by omega)] at k0 k1;obtain ⟨lo,hlo,_,wlo⟩:=DataW.trod_int (k:=.i64) (by kernel_rfl) k0;obtain ⟨hi,hhi,_,whi⟩:=DataW.trod_int (k:=.i64) (by kernel_rfl) k1;have h4:[v4]=[Value.int .i64 lo]:=hlo;have h5:[v5]=[Value.int .i64 hi]:=hhi;simp only[List.cons.injEq,and_true] at h4 h5;subst h4 h5;have hnd:NdOk ⟨o,s,p,q,lo,hi⟩:=⟨Dr wo,Dr wp,Dr wq,Dr wlo,Dr whi⟩;have e3':DataW.trod enc Tryz.prog w base spare held m 26 [v6]=some xs[3]:=e3;rcases DataW.trod_slice Tryz.underlying26 e3' with⟨hn,_⟩|⟨a,len,cap,elems,rest,n,rfl,hv,_,_,hlc,hcm,hel,helt,_⟩
   ·simp only[List.cons.injEq,and_true] at hn;subst hn;exact ⟨⟨o,s,p,q,lo,hi⟩,none,0,.nil,rfl,hnd,trivial,Au.nil _ _⟩
   ·simp only[List.cons.injEq,and_true] at hv;subst hv;have hC:(Tryz.prog).cellsOf 28=7:=by kernel_rfl
    rw[hC] at helt
    have hone:∀i,i<len→∃cs,FoCame w cs∧cs.length=7∧∀j,j<7→w.cell? ((a.add (i*7)).add j)=cs[j]?:=by
     intro i hi;have h6:=helt i hi;rw [List.getElem?_eq_getElem (by omega)] at h6;obtain ⟨cs',hc1,hc2⟩:=Option.bind_eq_some_iff.1 h6;obtain ⟨_,hc3,hc4⟩:=World.cells?_some hc1;exact ⟨cs',ih n (by omega) cs' _ hc2,hc3,hc4⟩
    rcases Nat.eq_zero_or_pos len with hz0|hpos
    ·subst hz0;exact ⟨⟨o,s,p,q,lo,hi⟩,some a,cap,.nil,rfl,hnd,trivial,⟨⟨Nat.zero_le _,hcm,fun e=>by cases e⟩,fun h=>absurd h (by simp[Fo.len]),fun _ _ _=>trivial⟩⟩
    ·obtain⟨cs0,_,hl0,hc0⟩:=hone 0 hpos
     have hz:∃u,w.cell? a=some u:=by
      have h7:=hc0 0 (by omega);have e:(a.add (0*7)).add 0=a:=by simp[Addr.add]
      rw[e,List.getElem?_eq_getElem (by omega)] at h7;exact ⟨_,h7⟩
     obtain⟨u,hu⟩:=hz;obtain ⟨b,off,sp⟩:=a
     have hsp:sp=none:=by
      unfold World.cell? at hu
      cases sp with
      |none=>rfl
      |some s=>simp at hu;split at hu<;>simp at hu
     subst hsp
     obtain⟨f,hfl,hfo,hfa⟩:=fo_build w b (World.block_lt_of_cell? w _ hu) len off (fun i hi=>by
      obtain⟨cs,h1,h2,h3⟩:=hone i hi;refine ⟨cs,h1,fun j u hu=>?_⟩;have hj:j<7:=by rw[←h2];exact(List.getElem?_eq_some_iff.1 hu).1
      have h4:=h3 j hj;rw [Aa,Aa,hu,Nat.add_assoc] at h4;exact h4);subst hfl;refine ⟨⟨o,s,p,q,lo,hi⟩,some ⟨b,off,none⟩,cap,f,rfl,hnd,hfo,⟨hlc,hcm,fun e=>by cases e⟩,fun _=>⟨b,off,rfl⟩,fun bb oo e=>?_⟩;simp only[Option.some.injEq,Addr.mk.injEq,and_true] at e;obtain ⟨rfl,rfl⟩:=e;exact hfa
theorem open_formula {r:Reach}{b0:Nat}{v:Value}{d:DataW H}{ps:List MemPlace}(hval:Value.okWide Tryz.prog w r b0 28 v)(h:DataW.Trod enc Tryz.prog w base spare held 28 v d ps):
 ∃x A c ks,v=AF x A (Fo.len ks) c∧NdOk x∧ks.tr.ok∧Au w.heap.size w A c ks:=by
 obtain⟨fuel,hfu⟩:=h;obtain ⟨cs,rfl,hsize⟩:=okWide_struct Tryz.underlying28 hval;obtain ⟨x,A,c,ks,hy,h1,h2,h3⟩:=open_f _ _ _ hfu;refine ⟨x,A,c,ks,?_,h1,h2,h3⟩;have:cs.toList=fcs x A ks.len c:=by simpa[Value.cells] using hy
 unfold AF;rw [show cs=(fcs x A ks.len c).toArray by rw[←this]];rfl
end
def ppok (p:PP):Prop:=p.name.size≤9223372036854775807∧I64 p.value
section
variable {H:Type} {enc:TypeId×Value→H} {w:World} {base:Nat} {spare:Nat→Bool} {held:Bool}
theorem open_pp {n:Nat}{cs:List Value}{x:DataW H×List MemPlace}(h:DataW.trod enc Tryz.prog w base spare held n 91 cs=some x):∃y:PP,cs=pcs y∧ppok y:=by
 obtain⟨xs,m,_,rfl,hlen,hxs,hf⟩:=DataW.trod_struct Tryz.underlying91 h;have hl:cs.length=2:=hlen.trans (by kernel_rfl)
 match cs,hl with
 |[v0,v1],_=>
  have e0:=hf 0 _ rfl;have e1:=hf 1 _ rfl;have hx:xs.length=2:=hxs;rw [List.getElem?_eq_getElem (by omega)] at e0 e1;obtain ⟨s,hs,_,ws⟩:=DataW.trod_string (by kernel_rfl) e0;obtain ⟨m,hm,_,wm⟩:=DataW.trod_int (k:=.i64) (by kernel_rfl) e1;have h0:[v0]=[Value.string s]:=hs;have h1:[v1]=[Value.int .i64 m]:=hm;simp only[List.cons.injEq,and_true] at h0 h1;subst h0 h1;exact ⟨⟨s,m⟩,rfl,by simpa[maxLen] using ws,Dr wm⟩
end
section
variable {H:Type} {enc:TypeId×Value→H} {w:World} {base:Nat} {spare:Nat→Bool} {held:Bool}
theorem open_propsIn {n:Nat}{cs:List Value}{x:DataW H×List MemPlace}(h:DataW.trod enc Tryz.prog w base spare held n 57 cs=some x):
 ∃(A:Option Addr) (cap:Nat) (l:List PP),cs=[.slice A l.length cap]∧Sl w 2 A l.length cap (l.flatMap pcs)∧∀y∈l,ppok y:=
 open_rows pcs ppok 2 (by decide) Bh Tryz.underlying57 (by kernel_rfl) (fun _ _ _ hx=>open_pp hx) h
end
end Go.Proofs.YtoegdmpmagbaiaaGreatDoor
namespace Go.Proofs.YtoegdmpmagbaiaaGreatDoor
open Go.ChangeShapes Go.WideShapes Go.ChangeAt Go.ChangeMaps Go.RowKit
def Gp:List (String×DataW Unit):=[( "lookout/formula.shapes" ,Rows.laid_lookout_formula_shapes),( "lookout/three.not" ,Rows.laid_lookout_three_not),( "lookout/three.and" ,Rows.laid_lookout_three_and),( "lookout/three.iff" ,Rows.laid_lookout_three_iff)]
theorem door_met (os:Os)(args:Array Value):laidMetH Tryz.prog Gp ((World.doorLaid Tryz.prog 400 os).forCall (fun _ _=>0) ⟨#[],args,[]⟩).memory:=
 laidMetH_of_parts3 (fuel:=8) (laidMet_of_run' 8 (by kernel_rfl) (by kernel_rfl)) (by kernel_rfl) (by kernel_rfl)
section
variable {H:Type} {enc:TypeId×Value→H} {w:World} {base:Nat} {sp:Nat→Bool} {held:Bool}
theorem Dv {fuel:Nat}{t e:TypeId}{n:Nat}{cs:List Value}{ds:List (DataW H)}{p:List MemPlace}(ht:Tryz.prog.underlying t=some (.array n e))(h:DataW.trod enc Tryz.prog w base sp held fuel t cs=some (DataW.agg ds,p)):
 cs.length=Tryz.prog.cellsOf t∧∃f',∀i d,ds[i]?=some d→∃q,DataW.trod enc Tryz.prog w base sp held f' e ((cs.drop (i*Tryz.prog.cellsOf e)).take (Tryz.prog.cellsOf e))=some (d,q):=by
 cases fuel with
 |zero=>simp[DataW.trod] at h
 |succ fuel=>
  simp only[DataW.trod,ht] at h;split at h
  ·rename_i hl;obtain ⟨xs,hm,hx⟩:=Option.map_eq_some_iff.1 h
   have hxs:xs.map (·.1)=ds:=by
    have:=congrArg Prod.fst hx;simpa using this
   refine⟨by simpa using hl,fuel,fun i d hd=>?_⟩;have hxl:=Lib.mapM_length hm;rw [←hxs,List.getElem?_map,Option.map_eq_some_iff] at hd;obtain ⟨x,hx1,rfl⟩:=hd
   have hi:i<n:=by
    have:=(List.getElem?_eq_some_iff.1 hx1).1;rw [hxl] at this;simpa using this
   obtain⟨b,hb,hf⟩:=Lib.mapM_at hm i i (by simp[hi]);rw [hb] at hx1;simp only[Option.some.injEq] at hx1;subst hx1;exact ⟨b.2,hf⟩
  ·cases h
def shapeD (r:Int×Int×Int×Int):DataW H:=.agg [.lit (.int .i64 r.1),.lit (.int .i64 r.2.1),.agg [.lit (.int .i64 r.2.2.1),.lit (.int .i64 r.2.2.2)]]
theorem shape_read {fuel:Nat}{cs:List Value}{r:Int×Int×Int×Int}{p:List MemPlace}(h:DataW.trod enc Tryz.prog w base sp held fuel 179 cs=some (shapeD r,p)):
 cs=[.int .i64 r.1,.int .i64 r.2.1,.int .i64 r.2.2.1,.int .i64 r.2.2.2]:=by
 obtain⟨xs,m,_,hx,hlen,hxs,hf⟩:=DataW.trod_struct Tryz.underlying179 h;have hl:cs.length=4:=hlen.trans (by kernel_rfl)
 match cs,hl with
 |[v0,v1,v2,v3],_=>
  have hxl:xs.length=3:=hxs;have e0:=hf 0 _ rfl;have e1:=hf 1 _ rfl;have e2:=hf 2 _ rfl;rw [List.getElem?_eq_getElem (by omega)] at e0 e1 e2
  match xs,hxl with
  |[x0,x1,x2],_=>
   simp only[shapeD,List.map_cons,List.map_nil,Prod.mk.injEq,DataW.agg.injEq,List.cons.injEq,and_true] at hx;obtain ⟨⟨h0,h1,h2⟩,_⟩:=hx;obtain ⟨a,ha,ga,_⟩:=DataW.trod_int (k:=.i64) (by kernel_rfl) e0;obtain ⟨b,hb,gb,_⟩:=DataW.trod_int (k:=.i64) (by kernel_rfl) e1;have e2':DataW.trod enc Tryz.prog w base sp held m 177 [v2,v3]=some x2:=e2;have e3:DataW.trod enc Tryz.prog w base sp held m 177 [v2,v3]=some (.agg [.lit (.int .i64 r.2.2.1),.lit (.int .i64 r.2.2.2)],x2.2):=by rw[e2',h2]
   obtain⟨_,f',hg⟩:=Dv Tryz.underlying177 e3;rw [show Tryz.prog.cellsOf 3=1 by kernel_rfl] at hg;obtain ⟨q0,g0⟩:=hg 0 _ rfl;obtain ⟨q1,g1⟩:=hg 1 _ rfl;obtain ⟨c,hc,gc,_⟩:=DataW.trod_int (k:=.i64) Tryz.underlying3 g0;obtain ⟨d,hd,gd,_⟩:=DataW.trod_int (k:=.i64) Tryz.underlying3 g1;have a1:a=r.1:=by rw[show x0.1=.lit (.int .i64 a) from congrArg Prod.fst ga] at h0;simp at h0;exact h0.symm
   have b1:b=r.2.1:=by rw[show x1.1=.lit (.int .i64 b) from congrArg Prod.fst gb] at h1;simp at h1;exact h1.symm
   have c1:c=r.2.2.1:=by simp only[Prod.mk.injEq,DataW.lit.injEq,Lit.int.injEq,true_and] at gc;exact gc.1.symm
   have d1:d=r.2.2.2:=by simp only[Prod.mk.injEq,DataW.lit.injEq,Lit.int.injEq,true_and] at gd;exact gd.1.symm
   subst a1 b1 c1 d1;have ha':[v0]=[Value.int .i64 r.1]:=ha;have hb':[v1]=[Value.int .i64 r.2.1]:=hb;have hc':[v2]=[Value.int .i64 r.2.2.1]:=hc;have hd':[v3]=[Value.int .i64 r.2.2.2]:=hd;simp only[List.cons.injEq,and_true] at ha' hb' hc' hd';rw [ha',hb',hc',hd']
end
section
variable {H:Type} {enc:TypeId×Value→H} {w:World} {base:Nat} {sp:Nat→Bool} {held:Bool}
def Ci (a b c:Int):DataW H:=.agg [.lit (.int .i64 a),.lit (.int .i64 b),.lit (.int .i64 c)]
theorem FY {fuel:Nat}{cs:List Value}{a b c:Int}{p:List MemPlace}(h:DataW.trod enc Tryz.prog w base sp held fuel 167 cs=some (Ci a b c,p)):cs=[.int .i64 a,.int .i64 b,.int .i64 c]:=by
 obtain⟨hl,f',hg⟩:=Dv Tryz.underlying167 h;rw [show Tryz.prog.cellsOf 167=3 by kernel_rfl] at hl;rw [show Tryz.prog.cellsOf 3=1 by kernel_rfl] at hg
 match cs,hl with
 |[v0,v1,v2],_=>
  obtain⟨q0,g0⟩:=hg 0 _ rfl;obtain ⟨q1,g1⟩:=hg 1 _ rfl;obtain ⟨q2,g2⟩:=hg 2 _ rfl;obtain ⟨x,hx,gx,_⟩:=DataW.trod_int (k:=.i64) Tryz.underlying3 g0;obtain ⟨y,hy,gy,_⟩:=DataW.trod_int (k:=.i64) Tryz.underlying3 g1;obtain ⟨z,hz,gz,_⟩:=DataW.trod_int (k:=.i64) Tryz.underlying3 g2;have x1:x=a:=by simp only[Prod.mk.injEq,DataW.lit.injEq,Lit.int.injEq,true_and] at gx;exact gx.1.symm
  have y1:y=b:=by simp only[Prod.mk.injEq,DataW.lit.injEq,Lit.int.injEq,true_and] at gy;exact gy.1.symm
  have z1:z=c:=by simp only[Prod.mk.injEq,DataW.lit.injEq,Lit.int.injEq,true_and] at gz;exact gz.1.symm
  subst x1 y1 z1;have hx':[v0]=[Value.int .i64 x]:=hx;have hy':[v1]=[Value.int .i64 y]:=hy;have hz':[v2]=[Value.int .i64 z]:=hz;simp only[List.cons.injEq,and_true] at hx' hy' hz';rw [hx',hy',hz']
end
theorem sh_data:Rows.laid_lookout_formula_shapes (H:=Unit)=.agg (CE.map shapeD):=by kernel_rfl
theorem sh_name:Tryz.prog.globalNamed "lookout/formula.shapes" =some 3:=by kernel_rfl
theorem sh_type:(Tryz.prog.globals[3]?).map (·.type)=some 180:=by kernel_rfl
theorem sh_of_laid {w:World}(h:laidMetH Tryz.prog Gp w):BR w:=by
 rw[MakeChecks.laidMetH_plain _ _ _ (by kernel_rfl)] at h;obtain ⟨ps,⟨g',t',cs,fuel,p,q,hg',ht',hvar,hd,_,_⟩,_⟩:=h;obtain rfl:=Option.some.inj (sh_name.symm.trans hg');obtain rfl:=Option.some.inj (sh_type.symm.trans ht');rw [sh_data] at hd;obtain ⟨hl,f',hg⟩:=Dv Tryz.underlying180 hd;rw [show Tryz.prog.cellsOf 179=4 by kernel_rfl] at hg;intro k hk;obtain ⟨q,hq⟩:=hg k (shapeD CE[k]) (by rw[List.getElem?_map,List.getElem?_eq_getElem hk];rfl);have hr:=shape_read hq
 have hc:∀j v,[Value.int .i64 CE[k].1,.int .i64 CE[k].2.1,.int .i64 CE[k].2.2.1,.int .i64 CE[k].2.2.2][j]?=some v→w.cell? ⟨3,k*4+j,none⟩=some v:=fun j v hv=>by
  rw[World.var?_cell sh_name hvar];rw [←hr,List.getElem?_take] at hv;split at hv;·rw[List.getElem?_drop] at hv;simpa using hv
  ·cases hv
 exact⟨hc 0 _ rfl,hc 1 _ rfl,hc 2 _ rfl,hc 3 _ rfl⟩
theorem not_data:Rows.laid_lookout_three_not (H:=Unit)=Ci 1 0 2:=by kernel_rfl
theorem and_data:Rows.laid_lookout_three_and (H:=Unit)=.agg [Ci 0 0 0,Ci 0 1 2,Ci 0 2 2]:=by kernel_rfl
theorem iff_data:Rows.laid_lookout_three_iff (H:=Unit)=.agg [Ci 1 0 2,Ci 0 1 2,Ci 2 2 2]:=by kernel_rfl
theorem not_name:Tryz.prog.globalNamed "lookout/three.not" =some 0:=by kernel_rfl
theorem not_type:(Tryz.prog.globals[0]?).map (·.type)=some 167:=by kernel_rfl
theorem and_name:Tryz.prog.globalNamed "lookout/three.and" =some 1:=by kernel_rfl
theorem and_type:(Tryz.prog.globals[1]?).map (·.type)=some 168:=by kernel_rfl
theorem iff_name:Tryz.prog.globalNamed "lookout/three.iff" =some 2:=by kernel_rfl
theorem iff_type:(Tryz.prog.globals[2]?).map (·.type)=some 168:=by kernel_rfl
theorem th_of_laid {w:World}(h:laidMetH Tryz.prog Gp w):Cj w:=by
 rw[MakeChecks.laidMetH_plain _ _ _ (by kernel_rfl)] at h;refine ⟨?_,?_,?_⟩
 ·obtain⟨ps,⟨g',t',cs,fuel,p,q,hg',ht',hvar,hd,_,_⟩,_⟩:=h.tail;obtain rfl:=Option.some.inj (not_name.symm.trans hg');obtain rfl:=Option.some.inj (not_type.symm.trans ht');rw [not_data] at hd;have hr:=FY hd;intro v hv;rw [World.var?_cell not_name hvar,←Array.getElem?_toList,hr];rcases hv with rfl|rfl|rfl<;>rfl
 ·skip;obtain ⟨ps,⟨g',t',cs,fuel,p,q,hg',ht',hvar,hd,_,_⟩,_⟩:=h.tail.tail;obtain rfl:=Option.some.inj (and_name.symm.trans hg');obtain rfl:=Option.some.inj (and_type.symm.trans ht');rw [and_data] at hd;obtain ⟨hl,f',hg⟩:=Dv Tryz.underlying168 hd;rw [show Tryz.prog.cellsOf 167=3 by kernel_rfl] at hg
  have hc:∀(i j:Nat) (a b c:Int) (v:Value),([Ci 0 0 0,Ci 0 1 2,Ci 0 2 2]:List (DataW Unit))[i]?=some (Ci a b c)→[Value.int .i64 a,.int .i64 b,.int .i64 c][j]?=some v→w.cell? ⟨1,i*3+j,none⟩=some v:=fun i j a b c v h1 h2=>by
   obtain⟨q,hq⟩:=hg i _ h1;have hr:=FY hq;rw [World.var?_cell and_name hvar];rw [←hr,List.getElem?_take] at h2;split at h2;·rw[List.getElem?_drop] at h2;simpa using h2
   ·cases h2
  intro v u hv hu;rcases hv with rfl|rfl|rfl<;>rcases hu with rfl|rfl|rfl;·exact hc 0 0 _ _ _ _ rfl rfl
  ·exact hc 0 1 _ _ _ _ rfl rfl
  ·exact hc 0 2 _ _ _ _ rfl rfl
  ·exact hc 1 0 _ _ _ _ rfl rfl
  ·exact hc 1 1 _ _ _ _ rfl rfl
  ·exact hc 1 2 _ _ _ _ rfl rfl
  ·exact hc 2 0 _ _ _ _ rfl rfl
  ·exact hc 2 1 _ _ _ _ rfl rfl
  ·exact hc 2 2 _ _ _ _ rfl rfl
 ·skip;obtain ⟨ps,⟨g',t',cs,fuel,p,q,hg',ht',hvar,hd,_,_⟩,_⟩:=h.tail.tail.tail;obtain rfl:=Option.some.inj (iff_name.symm.trans hg');obtain rfl:=Option.some.inj (iff_type.symm.trans ht');rw [iff_data] at hd;obtain ⟨hl,f',hg⟩:=Dv Tryz.underlying168 hd;rw [show Tryz.prog.cellsOf 167=3 by kernel_rfl] at hg
  have hc:∀(i j:Nat) (a b c:Int) (v:Value),([Ci 1 0 2,Ci 0 1 2,Ci 2 2 2]:List (DataW Unit))[i]?=some (Ci a b c)→[Value.int .i64 a,.int .i64 b,.int .i64 c][j]?=some v→w.cell? ⟨2,i*3+j,none⟩=some v:=fun i j a b c v h1 h2=>by
   obtain⟨q,hq⟩:=hg i _ h1;have hr:=FY hq;rw [World.var?_cell iff_name hvar];rw [←hr,List.getElem?_take] at h2;split at h2;·rw[List.getElem?_drop] at h2;simpa using h2
   ·cases h2
  intro v u hv hu;rcases hv with rfl|rfl|rfl<;>rcases hu with rfl|rfl|rfl;·exact hc 0 0 _ _ _ _ rfl rfl
  ·exact hc 0 1 _ _ _ _ rfl rfl
  ·exact hc 0 2 _ _ _ _ rfl rfl
  ·exact hc 1 0 _ _ _ _ rfl rfl
  ·exact hc 1 1 _ _ _ _ rfl rfl
  ·exact hc 1 2 _ _ _ _ rfl rfl
  ·exact hc 2 0 _ _ _ _ rfl rfl
  ·exact hc 2 1 _ _ _ _ rfl rfl
  ·exact hc 2 2 _ _ _ _ rfl rfl
end Go.Proofs.YtoegdmpmagbaiaaGreatDoor
namespace Go.Proofs.YtoegdmpmagbaiaaGreatDoor
open Go.ChangeShapes Go.WideShapes Go.ChangeAt Go.RowKit Go.Deep
section
variable {H:Type} {enc:TypeId×Value→H} {w:World} {base:Nat} {spare:Nat→Bool} {held:Bool}
def acok (w:World)(e:Ac):Prop:=I64 e.t∧I64 e.n∧Sl w 2 e.A e.l.length e.c (e.l.flatMap pcs)
theorem open_ac {n:Nat}{cs:List Value}{x:DataW H×List MemPlace}(h:DataW.trod enc Tryz.prog w base spare held n 59 cs=some x):∃y:Ac,cs=acc y∧acok w y:=by
 obtain⟨xs,m,_,rfl,hlen,hxs,hf⟩:=DataW.trod_struct Tryz.underlying59 h;have hl:cs.length=4:=hlen.trans (by kernel_rfl)
 match cs,hl with
 |[v0,v1,v2,v3],_=>
  have e0:=hf 0 _ rfl;have e1:=hf 1 _ rfl;have e2:=hf 2 _ rfl;have e3:=hf 3 _ rfl;have hx:xs.length=4:=hxs;rw [List.getElem?_eq_getElem (by omega)] at e0 e1 e2 e3;obtain ⟨s,hs,_,_⟩:=DataW.trod_int (k:=.u8) (by kernel_rfl) e0;obtain ⟨t,ht,_,wt⟩:=DataW.trod_int (k:=.i64) (by kernel_rfl) e1;obtain ⟨A,c,l,hsl,h1,_⟩:=open_propsIn e2;obtain ⟨q,hq,_,wq⟩:=DataW.trod_int (k:=.i64) (by kernel_rfl) e3;have h3:[v0]=[Value.int .u8 s]:=hs;have h4:[v1]=[Value.int .i64 t]:=ht;have h5:[v2]=[Value.slice A l.length c]:=hsl;have h6:[v3]=[Value.int .i64 q]:=hq;simp only[List.cons.injEq,and_true] at h3 h4 h5 h6;subst h3 h4 h5 h6;exact ⟨⟨s,t,A,c,l,q⟩,rfl,Dr wt,Dr wq,h1⟩
theorem open_acts {r:Reach}{b0:Nat}{v:Value}{d:DataW H}{ps:List MemPlace}(hval:Value.okWide Tryz.prog w r b0 29 v)(h:DataW.Trod enc Tryz.prog w base spare held 29 v d ps):
 ∃A cap al,v=.slice A (List.length al) cap∧ASl w A cap al∧∀a∈al,I64 a.t∧I64 a.n:=by
 obtain⟨A,cap,l,h1,h2,h3⟩:=open_list acc (acok w) 4 (by decide) acc_len Tryz.underlying29 (by kernel_rfl) (fun _ _ _ hx=>open_ac hx) hval h;exact ⟨A,cap,l,h1,⟨h2,fun p hp=>(h3 p hp).2.2⟩,fun p hp=>⟨(h3 p hp).1,(h3 p hp).2.1⟩⟩
end
end Go.Proofs.YtoegdmpmagbaiaaGreatDoor
