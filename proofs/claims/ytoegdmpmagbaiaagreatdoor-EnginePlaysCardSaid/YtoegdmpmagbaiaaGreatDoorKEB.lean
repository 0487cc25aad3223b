/- slices.Insert at []int64, one element: in place where there is room, else in a new row. -/
import Derived.Test.YtoegdmpmagbaiaaGreatDoorKEA
import Derived.Test.YtoegdmpmagbaiaaGreatDoorKA
import Derived.Test.YtoegdmpmagbaiaaGreatDoorKS
import Derived.Lib.Walk
import Derived.Lib.SliceRun
import Derived.Lib.JoinLaws
import Derived.Lib.AppendZeros
import Derived.Lib.AppendZerosOnto
import Derived.Lib.Overlaps
import Derived.Laws.Externs
import Derived.Laws.IdiomCopy
import Derived.Laws.NewBlocks
import Derived.Shelf.Spec.SlicesInsert
import Derived.Test.YtoegdmpmagbaiaaGreatDoorKK
import Derived.Test.YtoegdmpmagbaiaaGreatDoorKE
set_option maxHeartbeats 8000000
set_option maxRecDepth 100000
namespace Go.Proofs.YtoegdmpmagbaiaaGreatDoor
open Go.RowKit Go.Lib
theorem el_i64:(Tryz.prog.info? 2).map (fun i=>(i.zero,i.size,i.bytes))=some (some (.int .i64 0),1,8):=by kernel_rfl
theorem iv1 (S:List Int):∀v∈S.map ivI,v.oneCell'=true:=by intro u hu;rw[List.mem_map] at hu;obtain⟨x,_,rfl⟩:=hu;rfl
theorem one1 (now:Int):∀v∈[ivI now],v.oneCell'=true:=by intro u hu;simp at hu;subst hu;rfl
structure Bd (w:World) (t:TypeId) (A:Option Addr) (c:Nat) (S:List Int):Prop where
 sl:Sl w 1 A S.length c (S.map ivI)
 blk:(A=none∧c=0)∨∃b off cs,A=some ⟨b,off,none⟩∧Blk w b t cs∧off+c≤cs.size
theorem Bd.fr {w w':World}{S0:Nat→Prop}{t:TypeId}{A:Option Addr}{c:Nat}{S:List Int}(h:Bd w t A c S)(hf:Fr S0 w w')(hs:∀b off,A=some ⟨b,off,none⟩→¬S0 b):Bd w' t A c S:=
 ⟨h.sl.fr hf fun b off e _=>hs b off e,h.blk.imp_right fun⟨b,off,cs,e,h1,h2⟩=>⟨b,off,cs,e,h1.fr hf (hs b off e),h2⟩⟩
theorem Bd.pure {w w':World}{t:TypeId}{A:Option Addr}{c:Nat}{S:List Int}(h:Bd w t A c S)(hf:Fr Nob w w'):Bd w' t A c S:=h.fr hf fun _ _ _ e=>e
theorem Bd.nil (w:World)(t:TypeId):Bd w t none 0 []:=⟨Sl.none_ _ _,.inl ⟨rfl,rfl⟩⟩
theorem Bd.of {w:World}{t:TypeId}{g off c:Nat}{arr:Array Value}{S:List Int}(hB:Blk w g t arr)(hs:off+c≤arr.size)(hn:S.length≤c)(hm:c≤maxLen)(hc:∀j u,(S.map ivI)[j]?=some u→arr[off+j]?=some u):Bd w t (some ⟨g,off,none⟩) c S:=
 ⟨⟨by simp,hn,hm,(fun e=>by cases e),fun _=>⟨g,off,rfl,hB.lt,fun j u hu=>by rw[hB.cell];exact hc j u hu⟩⟩,.inr ⟨g,off,arr,rfl,hB,hs⟩⟩
theorem Gu {S:List Int}{i:Nat}(hi:i≤S.length)(now:Int)(j:Nat):((Dn S i now).map ivI)[j]?=if j<i then(S.map ivI)[j]? else if j=i then some (ivI now) else(S.map ivI)[j-1]?:=by
 unfold Dn;rw [List.map_append,List.map_cons,List.map_take,List.map_drop];have hl:((S.map ivI).take i).length=i:=by rw[List.length_take,List.length_map];omega
 split;·rename_i h;rw[List.getElem?_append_left (by omega),List.getElem?_take_of_lt h]
 ·rename_i h;rw [List.getElem?_append_right (by omega),hl];split;·rename_i h2;subst h2;rw[Nat.sub_self];rfl
  ·rename_i h2;rw [show j-i=(j-i-1)+1 by omega,List.getElem?_cons_succ,List.getElem?_drop,show i+(j-i-1)=j-1 by omega]
def InB (A:Option Addr)(k:Nat):Prop:=∃off,A=some ⟨k,off,none⟩
def InsR (w:World)(A:Option Addr)(S:List Int)(i:Nat)(now:Int)(e:Ending)(w':World):Prop:=
 ∃A' c',e=.returned (.slice A' (S.length+1) c')∧Bd w' 2 A' c' (Dn S i now)∧Fr (InB A) w w'∧∀k,InB A' k→InB A k∨w.heap.size≤k
theorem shape_blk {w:World}{g:Nat}{t:TypeId}{cs:Array Value}(h:Blk w g t cs):w.shape? g=some (t,cs.size):=by
 unfold Blk at h;simp [World.shape?,h]
theorem ins_shift (w:World)(b off c i vb:Nat)(S:List Int)(now:Int)(hi:i<S.length)(hroom:S.length+1≤c)(hc63:c≤9223372036854775807)(hvb:vb≠b)
 (hcs:∀j v,(S.map ivI)[j]?=some v→w.cell? ⟨b,off+j,none⟩=some v){t:TypeId}{cs:Array Value}(hB:Blk w b t cs)(hsz0:off+c≤cs.size)(hV:Blk w vb 2 #[ivI now]):
 Calls Tryz.prog 41 #[.slice (some ⟨b,off,none⟩) S.length c,.int .i64 i,.slice (some ⟨vb,0,none⟩) 1 1] w fun e w'=>
  e=.returned (.slice (some ⟨b,off,none⟩) (S.length+1) c)∧w'=(w.drew.setCells b (off+(i+1)) ((S.map ivI).drop i)).setCells b (off+i) [ivI now]:=by
 obtain⟨n,hn⟩:∃n,n=S.length:=⟨_,rfl⟩;have hcl:(S.map ivI).length=n:=by rw[List.length_map,hn]
 have h1c:=iv1 S;have h1v:=one1 now;rw [←hn] at hi hroom ⊢;generalize S.map ivI=xs at*;clear hn;have hsp:∀j,j<n+1→(w.cell? ⟨b,off+j,none⟩).isSome=true:=fun j hj=>by rw[hB.cell,Array.getElem?_eq_getElem (by omega)];rfl
 have hfz:∀j,w.frozen? ⟨b,off+j,none⟩=false:=fun j=>hB.frozen _;have hvs:∀j v,[ivI now][j]?=some v→w.cell? ⟨vb,j,none⟩=some v:=fun j v hj=>by rw[hV.cell,←Array.getElem?_toList];exact hj
 have hsa:=shape_blk hV;have hsb:=shape_blk hB;have hz2:¬((i:Int)=(n:Int)):=by omega
 have mixed:Tryz.prog.follows .mixedOrders=true:=by kernel_rfl
 have hsz:(Tryz.prog.info? 2).map (·.size)=some 1:=by kernel_rfl
 have hov:∀lb cb,(callFunc 71 #[.slice (some ⟨vb,0,none⟩) 1 1,.slice (some ⟨b,off+(i+1),none⟩) lb cb]).run Tryz.prog w=.ok (.value (.bool false)) w:=fun lb cb=>by
  rw[run_callFunc_extern Tryz.func71 (by kernel_rfl) (by kernel_rfl) (by kernel_rfl) (e:=Extern.SlicesOverlaps.overlaps #[41,41] #[4]) (by kernel_rfl),
   Lib.run_overlaps_apart w 41 4 2 Tryz.underlying41 1 (fun w=>by obtain⟨i0,hi0,h0,h1,h2⟩:=info_parts el_i64;simp[Go.sizeOf,typeInfo,hi0,h1]) ⟨vb,0,none⟩ ⟨b,off+(i+1),none⟩ 1 1 lb cb hvb 2 t 1 cs.size hsa hsb (by omega) (hV.frozen 0) (hV.frozen 1)];rfl
 have hdl:(xs.drop i).length=n-i:=by rw[List.length_drop,hcl]
 have hw1:IntKind.i64.wrap ((i:Int)+1)=(i:Int)+1:=by rw[IntKind.wrap_i64];omega
 have hw2:IntKind.i64.wrap ((n:Int)+1)=(n:Int)+1:=by rw[IntKind.wrap_i64];omega
 have hb1:(0:Int)≤(i:Int)+1:=by omega
 have hin:i≤n:=by omega
 have htn:((i:Int)+1).toNat=i+1:=by omega
 have htn2:((n:Int)+1).toNat=n+1:=by omega
 have hb2:¬(c=i+1):=by omega
 have hb3:(i:Int)≤(n:Int)+1:=by omega
 have hb4:¬(c=i):=by omega
 have hcp1:∀ty dc sc,(Builtin.copy_ #[41,41] ty #[.slice (some ⟨b,off+(i+1),none⟩) (n-i) dc,.slice (some ⟨b,off+i,none⟩) (n+1-i) sc]).run Tryz.prog w.drew=.ok (goInt (xs.drop i).length) (w.drew.setCells b (off+(i+1)) (xs.drop i)):=fun ty dc sc=>
  run_copy_cells w.drew _ _ ty 2 b (off+(i+1)) (n-i) dc ⟨b,off+i,none⟩ (n+1-i) sc (xs.drop i) Tryz.underlying41 hsz (by rw[hdl];simp only[Nat.min_def];split<;>omega)
   (fun j v hj=>by rw[Addr.add_lit,Nat.add_assoc];exact hcs (i+j) v (by rwa[List.getElem?_drop] at hj))
   (fun j hj=>by rw[Nat.add_assoc];exact hsp _ (by omega)) (fun j hj=>by rw[Nat.add_assoc];exact hfz _) (fun v hv=>h1c v (List.mem_of_mem_drop hv));obtain ⟨W1,hW1⟩:∃W1,W1=w.drew.setCells b (off+(i+1)) (xs.drop i):=⟨_,rfl⟩
 have hsp1:∀k,k<n+1→(W1.cell? ⟨b,off+k,none⟩).isSome=true:=fun k hk=>by
  rw[hW1];exact isSome_setCells b _ _ _ (fun j hj=>by rw[Nat.add_assoc];exact hsp _ (by omega)) _ (hsp k hk)
 have hcp2:∀(W:World),(∀x,W.cell? x=W1.cell? x)→(∀x,W.frozen? x=W1.frozen? x)→∀ty dc,(Builtin.copy_ #[41,41] ty #[.slice (some ⟨b,off+i,none⟩) (n+1-i) dc,.slice (some ⟨vb,0,none⟩) 1 1]).run Tryz.prog W=.ok (goInt [ivI now].length) (W.setCells b (off+i) [ivI now]):=fun W hWc hWf ty dc=>
  run_copy_cells W _ _ ty 2 b (off+i) (n+1-i) dc ⟨vb,0,none⟩ 1 1 [ivI now] Tryz.underlying41 hsz (by simp only[Nat.min_def,List.length_singleton];split<;>omega)
   (fun j v hj=>by
     rw[Addr.add_lit,hWc,hW1,World.cell?_setCells_out b _ _ _ _ (fun h _=>absurd h hvb),Nat.zero_add];exact hvs j v hj)
   (fun j hj=>by simp only[List.length_singleton] at hj;rw[hWc,Nat.add_assoc];exact hsp1 _ (by omega)) (fun j hj=>by rw[hWf,hW1,World.frozen?_setCells,Nat.add_assoc];exact hfz _) h1v;rw [←hW1] at hcp1;have HW1:=AA hW1;clear hW1 hsp hfz hvs hsa hsb hsp1 hcs h1c hcl hdl hB hV;go_enter Tryz.func41,Tryz.ntmps41;go_wp2_with (simp only[hov]);go_region_law_o (refine step_copy_runI rfl _ _ 41 41 rfl _ _ (by simp[Act.eval,Act.put]) (by simp[Act.eval,Act.put]) (hcp1 _ _ _) ?_);go_wp2_with (at_builtin;refine wpList_copy_runI _ rfl _ _ 41 41 rfl _ _ rfl rfl (hcp2 _ (fun _=>rfl) (fun _=>rfl) _ _) ?_);go_ret;first|exact⟨rfl,rfl⟩|exact⟨rfl,by rw[HW1.out]⟩
theorem ins_end_room (w:World)(b off c vb:Nat)(S:List Int)(now:Int)(hroom:S.length+1≤c)(hc63:c≤9223372036854775807)
 {t:TypeId}{cs:Array Value}(hB:Blk w b t cs)(hsz0:off+c≤cs.size)(hV:Blk w vb 2 #[ivI now]):
 Calls Tryz.prog 41 #[.slice (some ⟨b,off,none⟩) S.length c,.int .i64 S.length,.slice (some ⟨vb,0,none⟩) 1 1] w fun e w'=>
  e=.returned (.slice (some ⟨b,off,none⟩) (S.length+1) c)∧w'=w.setCells b (off+S.length) [ivI now]:=by
 generalize S.length=n at*;have hsp:∀j,j< [ivI now].length→(w.cell? ⟨b,off+n+j,none⟩).isSome=true:=fun j hj=>by simp only[List.length_singleton] at hj;rw[hB.cell,Array.getElem?_eq_getElem (by omega)];rfl
 have hfz:∀j,j< [ivI now].length→w.frozen? ⟨b,off+n+j,none⟩=false:=fun j _=>hB.frozen _;have hsrc:Src Tryz.prog 1 41 (.slice (some ⟨vb,0,none⟩) 1 1) 1 [ivI now] w:=Src.ofSlice w Tryz.underlying41 ⟨vb,0,none⟩ 1 1 [ivI now] rfl (fun j u hj=>by rw[Addr.add_lit,Nat.zero_add,hV.cell,←Array.getElem?_toList];exact hj) (one1 now);have HSP:=AA hsp;have HFZ:=AA hfz;have HSR:=AA hsrc;clear hsp hfz hsrc hB hV;go_enter Tryz.func41,Tryz.ntmps41;go_wp2_with (at_builtin;refine wpList_append_room1 _ rfl _ _ 41 41 rfl 2 _ _ Tryz.underlying41 el_i64 b off n c rfl _ rfl 1 [ivI now] HSR.out hroom HSP.out HFZ.out ?_);go_ret;exact ⟨rfl,rfl⟩
theorem ins_end_grow (w:World)(A:Option Addr)(c vb:Nat)(S:List Int)(now:Int)(h:Sl w 1 A S.length c (S.map ivI))(hroom:c<S.length+1)(hfew:S.length≤100000)(hV:Blk w vb 2 #[ivI now]):
 Calls Tryz.prog 41 #[.slice A S.length c,.int .i64 S.length,.slice (some ⟨vb,0,none⟩) 1 1] w fun e w'=>
  e=.returned (.slice (some ⟨w.heap.size,0,none⟩) (S.length+1) (grownCap w (S.length+1) c 2))∧
  w'=w.drew.alloc (.cells ((S.map ivI++[ivI now]).toArray++Builtin.zeroCells (Value.int .i64 0).cells (grownCap w (S.length+1) c 2-(S.length+1))) 2):=by
 obtain⟨n,hn⟩:∃n,n=S.length:=⟨_,rfl⟩;have hcl:(S.map ivI).length=n:=by rw[List.length_map,hn]
 rw[←hn] at h hroom hfew ⊢;generalize S.map ivI=xs at*;clear hn;have hnc:=h.le;obtain ⟨i0,hi0,hz0,hzs,hzb⟩:=info_parts el_i64
 have hsrc:Src Tryz.prog i0.size 41 (.slice (some ⟨vb,0,none⟩) 1 1) 1 [ivI now] w:=by
  rw[hzs];exact Src.ofSlice w Tryz.underlying41 ⟨vb,0,none⟩ 1 1 [ivI now] rfl (fun j u hj=>by rw[Addr.add_lit,Nat.zero_add,hV.cell,←Array.getElem?_toList];exact hj) (one1 now)
 have hold:(Builtin.firstCells i0.size n (.slice A n c)).run Tryz.prog w.drew=.ok xs.toArray w.drew:=by
  rw[hzs]
  cases A with
  |none=>
   have h0:n=0:=by have:=h.nil rfl;omega
   subst h0;rw [List.length_eq_zero_iff.1 hcl];exact run_firstCells_none w.drew 1 0 0 c
  |some a=>exact run_firstCells_some w.drew 1 n a n c xs (by omega) (fun j v hj=>by
    have hj2:=(List.getElem?_eq_some_iff.1 hj).1;obtain ⟨b,off,hA,_,hc⟩:=h.cells (by omega);simp only[Option.some.injEq] at hA;subst hA;rw [Addr.add_lit];exact hc j v hj)
 have hrun:∀ty,(Builtin.append_ #[41,41] ty #[.slice A n c,.slice (some ⟨vb,0,none⟩) 1 1]).run Tryz.prog w=_:=fun ty=>
  run_append_grow_src w 41 41 ty 2 i0 _ Tryz.underlying41 hi0 hz0 A n c xs hold _ 1 [ivI now] hsrc hroom (by omega) (by rw[hzb];exact growslice_fits hroom (by omega));have HR:=AA hrun;have h0:A=none→n=0:=fun e=>by have:=h.nil e;omega
 clear hrun hold hsrc h hV hi0 hz0 hzs hzb hcl
 cases A with
 |none=>
  have h0:=h0 rfl;subst h0;go_enter Tryz.func41,Tryz.ntmps41;go_wp2_with (at_builtin;refine Lib.wpList_append_run _ rfl _ _ _ _ rfl _ _ rfl rfl _ _ (HR.out _) ?_);go_ret;exact ⟨rfl,rfl⟩
 |some a=>
  obtain⟨ab,ao,asp⟩:=a;clear h0;go_enter Tryz.func41,Tryz.ntmps41;go_wp2_with (at_builtin;refine Lib.wpList_append_run _ rfl _ _ _ _ rfl _ _ rfl rfl _ _ (HR.out _) ?_);all_goals (go_ret;exact⟨rfl,rfl⟩)
theorem ins_grow (w:World)(b off c i vb:Nat)(S:List Int)(now:Int)(hi:i<S.length)(hnc:S.length≤c)(hroom:c<S.length+1)(hfew:S.length≤100000)
 (hcs:∀j v,(S.map ivI)[j]?=some v→w.cell? ⟨b,off+j,none⟩=some v)(hV:Blk w vb 2 #[ivI now]):
 Calls Tryz.prog 41 #[.slice (some ⟨b,off,none⟩) S.length c,.int .i64 i,.slice (some ⟨vb,0,none⟩) 1 1] w fun e w'=>
  ∃G,S.length+1≤G∧G≤maxLen∧e=.returned (.slice (some ⟨w.heap.size,0,none⟩) (S.length+1) G)∧
  w'=(((w.alloc (.cells (((S.map ivI).take i).toArray++Builtin.zeroCells (Value.int .i64 0).cells (S.length+1-i)++Builtin.zeroCells (Value.int .i64 0).cells (G-(S.length+1))) 2)).drew.setCells w.heap.size i [ivI now]).drew).setCells w.heap.size (i+1) ((S.map ivI).drop i):=by
 obtain⟨n,hn⟩:∃n,n=S.length:=⟨_,rfl⟩;have hcl:(S.map ivI).length=n:=by rw[List.length_map,hn]
 have h1c:=iv1 S;have h1v:=one1 now;rw [←hn] at hi hroom hnc hfew ⊢;generalize S.map ivI=xs at*;clear hn;obtain ⟨i0,hi0,hz0,hzs,hzb⟩:=info_parts el_i64;have hz2:¬((i:Int)=(n:Int)):=by omega
 have mixed:Tryz.prog.follows .mixedOrders=true:=by kernel_rfl
 have hz3:(c:Int)< (n:Int)+1:=by omega
 have hsz:(Tryz.prog.info? 2).map (·.size)=some 1:=by kernel_rfl
 have hbw:b<w.heap.size:=World.block_lt_of_cell? w _ (hcs 0 _ (List.getElem?_eq_getElem (by omega)));have hvw:vb<w.heap.size:=hV.lt;have hkk:(n:Int)+1-(i:Int)=((n+1-i:Nat):Int):=by omega
 have hik:i+(n+1-i)=n+1:=by omega
 have hvs:∀j v,[ivI now][j]?=some v→w.cell? ⟨vb,j,none⟩=some v:=fun j v hj=>by rw[hV.cell,←Array.getElem?_toList];exact hj
 have hold:(Builtin.firstCells i0.size i (.slice (some ⟨b,off,none⟩) i c)).run Tryz.prog w.drew=.ok (xs.take i).toArray w.drew:=by
  rw[hzs]
  exact run_firstCells_some w.drew 1 i ⟨b,off,none⟩ i c (xs.take i) (by rw[List.length_take];omega) (fun j v hj=>by
   rw[Addr.add_lit];rw [List.getElem?_take] at hj;split at hj;·exact hcs j v hj
   ·cases hj)
 have hrz:∀ty,(Builtin.append_ #[41,3] ty #[.slice (some ⟨b,off,none⟩) i c,.int .i64 ((n:Int)+1-(i:Int))]).run Tryz.prog w=
  .ok (.slice (some ⟨w.heap.size,0,none⟩) (n+1) (grownCap w (n+1) c 2)) (w.drew.alloc (.cells ((xs.take i).toArray++Builtin.zeroCells (Value.int .i64 0).cells (n+1-i)++Builtin.zeroCells (Value.int .i64 0).cells (grownCap w (n+1) c 2-(n+1))) 2)):=fun ty=>by
  have h:=Lib.run_append_grow_zeros w 41 3 ty 2 i0 _ .i64 .i64 Tryz.underlying41 Tryz.underlying3 hi0 hz0 (some ⟨b,off,none⟩) i c (xs.take i) hold (n+1-i) (by omega) (by omega) (by omega) (by omega) (by rw[hzb];omega) (by rw[hzb,hik];exact growslice_fits hroom (by omega));rw [hik] at h;rw [hkk];exact h
 obtain⟨G,hG⟩:∃G,G=grownCap w (n+1) c 2:=⟨_,rfl⟩;obtain ⟨ROW,hROW⟩:∃ROW:Array Value,ROW=(xs.take i).toArray++Builtin.zeroCells (Value.int .i64 0).cells (n+1-i)++Builtin.zeroCells (Value.int .i64 0).cells (G-(n+1)):=⟨_,rfl⟩;rw [←hG] at hrz;rw [←hROW] at hrz
 have HFIN:=AA (show ∀(e:Ending) (w':World),(e=.returned (.slice (some ⟨w.heap.size,0,none⟩) (n+1) G)∧w'=(((w.alloc (.cells ROW 2)).drew.setCells w.heap.size i [ivI now]).drew).setCells w.heap.size (i+1) (xs.drop i))→
  ∃G,n+1≤G∧G≤maxLen∧e=.returned (.slice (some ⟨w.heap.size,0,none⟩) (n+1) G)∧
   w'=(((w.alloc (.cells ((xs.take i).toArray++Builtin.zeroCells (Value.int .i64 0).cells (n+1-i)++Builtin.zeroCells (Value.int .i64 0).cells (G-(n+1))) 2)).drew.setCells w.heap.size i [ivI now]).drew).setCells w.heap.size (i+1) (xs.drop i) from
  fun e w' h=>⟨G,by rw[hG];exact grownCap_ge w _ _ _,by rw[hG];exact grownCap_le_maxLen w _ _ _ (by unfold maxLen;omega),h.1,by rw[←hROW];exact h.2⟩)
 have hRl:n+1≤ROW.size:=by
  rw[hROW];simp [Builtin.zeroCells,Value.cells];omega
 obtain⟨W1,hW1⟩:∃W1,W1=w.drew.alloc (.cells ROW 2):=⟨_,rfl⟩;rw [←hW1] at hrz
 have hN:∀j,j<n+1→(W1.cell? ⟨w.heap.size,j,none⟩).isSome=true:=fun j hj=>by
  rw[hW1,World.cell?_alloc_at (w:=w.drew) ROW _ w.heap.size j rfl,Array.getElem?_eq_getElem (by omega)];rfl
 have hNf:∀j,W1.frozen? ⟨w.heap.size,j,none⟩=false:=fun j=>by rw[hW1];exact World.frozen?_alloc_at (w:=w.drew) ROW _ w.heap.size j rfl
 have hOb:∀j v,w.cell? ⟨b,j,none⟩=some v→W1.cell? ⟨b,j,none⟩=some v:=fun j v h=>by rw[hW1,World.cell?_alloc_past (w:=w.drew) _ b j hbw];exact h
 have hOv:∀j v,w.cell? ⟨vb,j,none⟩=some v→W1.cell? ⟨vb,j,none⟩=some v:=fun j v h=>by rw[hW1,World.cell?_alloc_past (w:=w.drew) _ vb j hvw];exact h
 have hcpA:∀(W:World),(∀x,W.cell? x=W1.cell? x)→(∀x,W.frozen? x=W1.frozen? x)→∀ty dc,(Builtin.copy_ #[41,41] ty #[.slice (some ⟨w.heap.size,i,none⟩) (n+1-i) dc,.slice (some ⟨vb,0,none⟩) 1 1]).run Tryz.prog W=.ok (goInt [ivI now].length) (W.setCells w.heap.size i [ivI now]):=fun W hWc hWf ty dc=>
  run_copy_cells W _ _ ty 2 w.heap.size i (n+1-i) dc ⟨vb,0,none⟩ 1 1 [ivI now] Tryz.underlying41 hsz (by simp only[Nat.min_def,List.length_singleton];split<;>omega)
   (fun j v hj=>by rw[Addr.add_lit,hWc,Nat.zero_add];exact hOv _ v (hvs j v hj))
   (fun j hj=>by simp only[List.length_singleton] at hj;rw[hWc];exact hN _ (by omega)) (fun j hj=>by rw[hWf];exact hNf _) h1v;have hGn:n+1≤G:=by rw[hG];exact grownCap_ge w _ _ _
 have hG63:G≤9223372036854775807:=by
  have:=grownCap_le_maxLen w (n+1) c 2 (by unfold maxLen;omega);rw [←hG] at this;unfold maxLen at this;omega
 have hGi:¬(G=i):=by omega
 have hGim:¬(G=i+1):=by omega
 have hci:¬(c=i):=by omega
 have hbN:b≠w.heap.size:=by omega
 have hdl:(xs.drop i).length=n-i:=by rw[List.length_drop,hcl]
 have hcpB:∀(W:World),(∀x,W.cell? x=(W1.setCells w.heap.size i [ivI now]).cell? x)→(∀x,W.frozen? x=(W1.setCells w.heap.size i [ivI now]).frozen? x)→∀ty dc sc,(Builtin.copy_ #[41,41] ty #[.slice (some ⟨w.heap.size,i+1,none⟩) (n-i) dc,.slice (some ⟨b,off+i,none⟩) (n-i) sc]).run Tryz.prog W=.ok (goInt (xs.drop i).length) (W.setCells w.heap.size (i+1) (xs.drop i)):=fun W hWc hWf ty dc sc=>
  run_copy_cells W _ _ ty 2 w.heap.size (i+1) (n-i) dc ⟨b,off+i,none⟩ (n-i) sc (xs.drop i) Tryz.underlying41 hsz (by rw[hdl];simp only[Nat.min_def];split<;>omega)
   (fun j v hj=>by
     rw[Addr.add_lit,hWc,World.cell?_setCells_out _ _ _ _ _ (fun h _=>absurd h hbN),Nat.add_assoc];exact hOb _ v (hcs (i+j) v (by rwa[List.getElem?_drop] at hj)))
   (fun j hj=>by rw[hWc];exact isSome_setCells _ _ _ _ (fun t ht=>hN _ (by simp only[List.length_singleton] at ht;omega)) _ (hN _ (by omega)))
   (fun j hj=>by rw[hWf,World.frozen?_setCells];exact hNf _) (fun v hv=>h1c v (List.mem_of_mem_drop hv));subst hW1;have hE1:∀x,((w.alloc (.cells ROW 2)).drew).cell? x=(w.drew.alloc (.cells ROW 2)).cell? x:=fun x=>rfl;have hE2:∀x,((w.alloc (.cells ROW 2)).drew).frozen? x=(w.drew.alloc (.cells ROW 2)).frozen? x:=fun x=>rfl;have hF1:∀x,(((w.alloc (.cells ROW 2)).drew.setCells w.heap.size i [ivI now]).drew).cell? x=((w.drew.alloc (.cells ROW 2)).setCells w.heap.size i [ivI now]).cell? x:=fun x=>rfl;have hF2:∀x,(((w.alloc (.cells ROW 2)).drew.setCells w.heap.size i [ivI now]).drew).frozen? x=((w.drew.alloc (.cells ROW 2)).setCells w.heap.size i [ivI now]).frozen? x:=fun x=>rfl;have hw1:IntKind.i64.wrap ((i:Int)+1)=(i:Int)+1:=by rw[IntKind.wrap_i64];omega
 have hb1:(0:Int)≤(i:Int)+1:=by omega
 have hin:i≤n:=by omega
 have htn:((i:Int)+1).toNat=i+1:=by omega
 have hb3:(i:Int)≤(n:Int):=by omega
 have HA:=AA (hcpA _ hE1 hE2);have HB:=AA (fun W h1 h2=>hcpB W h1 h2);have HRZ:=AA hrz;have HF:=AA (show (∀x,(((w.alloc (.cells ROW 2)).drew.setCells w.heap.size i [ivI now]).drew).cell? x=((w.drew.alloc (.cells ROW 2)).setCells w.heap.size i [ivI now]).cell? x)∧∀x,(((w.alloc (.cells ROW 2)).drew.setCells w.heap.size i [ivI now]).drew).frozen? x=((w.drew.alloc (.cells ROW 2)).setCells w.heap.size i [ivI now]).frozen? x from⟨hF1,hF2⟩);clear hkk hik hold hROW hG hRl hcpA hcpB hrz hE1 hE2 hF1 hF2 hN hNf hOb hOv hvs hcs h1c h1v hi0 hz0 hzs hzb hcl hdl hV;refine Calls.mono ?_ HFIN.out;go_enter Tryz.func41,Tryz.ntmps41;go_upto_region 10 with(at_builtin;refine Lib.wpList_append_run _ rfl _ _ _ _ rfl _ _ rfl rfl _ _ (HRZ.out _) ?_);go_upto_region 11 with(refine wpList_copy_runI _ rfl _ _ 41 41 rfl (.slice (some ⟨w.heap.size,i,none⟩) (n+1-i) (G-i)) (.slice (some ⟨vb,0,none⟩) 1 1) rfl rfl (HA.out _ _) ?_);go_region_law_o (refine step_copy_runI rfl _ _ 41 41 rfl (.slice (some ⟨w.heap.size,i+1,none⟩) (n-i) (G-(i+1))) (.slice (some ⟨b,off+i,none⟩) (n-i) (c-i)) (by simp[Act.eval,Act.put]) (by simp[Act.eval,Act.put]) (HB.out _ HF.out.1 HF.out.2 3 (G-(i+1)) (c-i)) ?_);go_wp2;go_ret;exact ⟨rfl,rfl⟩
theorem CF {vs:List Value}{s t:Nat}{F:Array Value}(h:t<s∨s+vs.length≤t):(DE F s vs)[t]?=F[t]?:=by
 rw[Cr,if_neg (by omega)]
theorem DK {vs:List Value}{s t:Nat}{F:Array Value}(h1:s≤t)(h2:t<s+vs.length)(h3:t<F.size):(DE F s vs)[t]?=vs[t-s]?:=by
 rw[Cr,if_pos ⟨h1,h2,h3⟩]
theorem sl_Insert (w:World)(A:Option Addr)(c i vb:Nat)(S:List Int)(now:Int)(h:Bd w 2 A c S)(hi:i≤S.length)(hV:Blk w vb 2 #[ivI now])(hvb:¬InB A vb)(hfew:S.length≤100000):
 Calls Tryz.prog 41 #[.slice A S.length c,.int .i64 i,.slice (some ⟨vb,0,none⟩) 1 1] w (InsR w A S i now):=by
 have hmax:=h.sl.max;have hle:=h.sl.le;have hil:=E8 hi now;have hc63:c≤9223372036854775807:=by unfold maxLen at hmax;omega
 by_cases hin:i=S.length
 ·by_cases hroom:S.length+1≤c
  ·obtain⟨b,off,cs,rfl,hB,hsz⟩:=h.blk.resolve_left (fun e=>by omega)
   have hcs:∀j u,(S.map ivI)[j]?=some u→cs[off+j]?=some u:=fun j u hu=>by
    have hj:=(List.getElem?_eq_some_iff.1 hu).1;rw [List.length_map] at hj;obtain ⟨b',off',e,_,hc⟩:=h.sl.cells (by omega);simp only[Option.some.injEq,Addr.mk.injEq,and_true] at e;obtain ⟨rfl,rfl⟩:=e;rw [←hB.cell];exact hc j u hu
   subst hin;refine (ins_end_room w b off c vb S now hroom hc63 hB hsz hV).mono ?_;rintro e w' ⟨rfl,rfl⟩;refine ⟨some ⟨b,off,none⟩,c,rfl,Bd.of (hB.putCells [ivI now] (off+S.length)) (by rw[BL];exact hsz) (by omega) hmax fun j u hu=>?_,(BK b _ _ _).mono (fun k _ e=>⟨off,by have:k=b:=e;rw[this]⟩),fun k hk=>.inl hk⟩;rw [Gu hi] at hu;have hlen:([ivI now]:List Value).length=1:=rfl;split at hu;·rw[CF (by omega)];exact hcs j u hu
   ·split at hu
    ·rename_i h2;subst h2;rw [DK (by omega) (by omega) (by omega),Nat.sub_self];exact hu
    ·have:=(List.getElem?_eq_some_iff.1 hu).1;rw [List.length_map] at this;omega
  ·subst hin;refine (ins_end_grow w A c vb S now h.sl (by omega) hfew hV).mono ?_;rintro e w' ⟨rfl,rfl⟩;have hG:=grownCap_ge w (S.length+1) c 2;have hGm:=grownCap_le_maxLen w (S.length+1) c 2 (by unfold maxLen;omega);generalize grownCap w (S.length+1) c 2=G at*;refine ⟨_,_,rfl,Bd.of (Blk.new_eq rfl) (by simp[Builtin.zeroCells,Value.cells];omega) (by omega) hGm fun j u hu=>?_,(Fr.refl _ _).drew.alloc _,fun k ⟨off,e⟩=>by simp only[Option.some.injEq,Addr.mk.injEq] at e;exact .inr (by omega)⟩;have hj:=(List.getElem?_eq_some_iff.1 hu).1;rw [List.length_map,hil] at hj;rw [Nat.zero_add,Array.getElem?_append_left (by simp;omega),List.getElem?_toArray];rw [show Dn S S.length now=S++[now] by unfold Dn;rw[List.take_length,List.drop_length]] at hu;simpa using hu
 ·have hin2:i<S.length:=by omega
  obtain⟨b,off,cs,rfl,hB,hsz⟩:=h.blk.resolve_left (fun e=>by omega)
  have hcl:∀j u,(S.map ivI)[j]?=some u→w.cell? ⟨b,off+j,none⟩=some u:=fun j u hu=>by
   obtain⟨b',off',e,_,hc⟩:=h.sl.cells (by omega);simp only[Option.some.injEq,Addr.mk.injEq,and_true] at e;obtain ⟨rfl,rfl⟩:=e;exact hc j u hu
  have hcs:∀j u,(S.map ivI)[j]?=some u→cs[off+j]?=some u:=fun j u hu=>by rw[←hB.cell];exact hcl j u hu
  have hne:vb≠b:=fun e=>hvb ⟨off,by rw[e]⟩;have hdl:((S.map ivI).drop i).length=S.length-i:=by rw[List.length_drop,List.length_map]
  have hl1:([ivI now]:List Value).length=1:=rfl;by_cases hroom:S.length+1≤c
  ·refine(ins_shift w b off c i vb S now hin2 hroom hc63 hne hcl hB hsz hV).mono ?_;rintro e w' ⟨rfl,rfl⟩
   refine⟨some ⟨b,off,none⟩,c,rfl,Bd.of ((hB.drew.putCells ((S.map ivI).drop i) (off+(i+1))).putCells [ivI now] (off+i)) (by rw[BL,BL];exact hsz) (by omega) hmax fun j u hu=>?_,
    (((Fr.refl (Ah b) w).drew.call (BK b _ _ _) (fun _ h _=>h)).call (BK b _ _ _) (fun _ h _=>h)).mono (fun k _ e=>⟨off,by have:k=b:=e;rw[this]⟩),fun k hk=>.inl hk⟩;rw [Gu hi] at hu;split at hu;·rw[CF (by omega),CF (by omega)];exact hcs j u hu
   ·split at hu
    ·rename_i h2;subst h2;rw [DK (by omega) (by omega) (by rw[BL];omega),Nat.sub_self];exact hu
    ·have hj:=(List.getElem?_eq_some_iff.1 hu).1;rw [List.length_map] at hj;rw [CF (by omega),DK (by omega) (by omega) (by omega),List.getElem?_drop,show i+(off+j-(off+(i+1)))=j-1 by omega];exact hu
  ·refine(ins_grow w b off c i vb S now hin2 hle (by omega) hfew hcl hV).mono ?_;rintro e w' ⟨G,hG,hGm,rfl,rfl⟩;have hb0:Blk (w.alloc (.cells (((S.map ivI).take i).toArray++Builtin.zeroCells (Value.int .i64 0).cells (S.length+1-i)++Builtin.zeroCells (Value.int .i64 0).cells (G-(S.length+1))) 2)) w.heap.size 2 _:=Blk.new _ _ _
   have hasz:(((S.map ivI).take i).toArray++Builtin.zeroCells (Value.int .i64 0).cells (S.length+1-i)++Builtin.zeroCells (Value.int .i64 0).cells (G-(S.length+1))).size=G:=by
    simp[Builtin.zeroCells,Value.cells];omega
   have hat:∀j u,j<i→(S.map ivI)[j]?=some u→(((S.map ivI).take i).toArray++Builtin.zeroCells (Value.int .i64 0).cells (S.length+1-i)++Builtin.zeroCells (Value.int .i64 0).cells (G-(S.length+1)))[j]?=some u:=fun j u hj hu=>by
    rw[Array.append_assoc,Array.getElem?_append_left (by simp;omega),List.getElem?_toArray,List.getElem?_take_of_lt hj];exact hu
   generalize(((S.map ivI).take i).toArray++Builtin.zeroCells (Value.int .i64 0).cells (S.length+1-i)++Builtin.zeroCells (Value.int .i64 0).cells (G-(S.length+1)))=arr at*
   refine⟨_,_,rfl,Bd.of ((hb0.drew.putCells [ivI now] i).drew.putCells ((S.map ivI).drop i) (i+1)) (by rw[BL,BL];omega) (by omega) hGm fun j u hu=>?_,
    ((((Fr.refl (fun k=>w.heap.size≤k) w).alloc _).drew.call (BK w.heap.size _ _ _) (fun k h hlt=>absurd hlt (by have:k=w.heap.size:=h;omega))).drew.call (BK w.heap.size _ _ _) (fun k h hlt=>absurd hlt (by have:k=w.heap.size:=h;omega))).mono (fun k hk e=>absurd hk (by omega)),
    fun k ⟨off',e⟩=>by simp only[Option.some.injEq,Addr.mk.injEq] at e;exact .inr (by omega)⟩;rw [Nat.zero_add];rw [Gu hi] at hu;split at hu
   ·rename_i hji;rw [CF (by omega),CF (by omega)];exact hat j u hji hu
   ·split at hu
    ·rename_i h2;subst h2;rw [CF (by omega),DK (by omega) (by omega) (by omega),Nat.sub_self];exact hu
    ·have hj:=(List.getElem?_eq_some_iff.1 hu).1;rw [List.length_map] at hj;rw [DK (by omega) (by omega) (by rw[BL];omega),List.getElem?_drop,show i+(j-(i+1))=j-1 by omega];exact hu
theorem run_mk0 {P:Program}{t e:TypeId}{size bytes:Nat}(hE:BP P t e size bytes)(n:Nat)(hb:bytes*n≤281474976710656)(h63:n≤maxLen):
 ∃cs:Array Value,cs.size=n*size∧∀W:World,(Instr.makeSlice t (.int .i64 0) (.int .i64 n)).run P W=.ok (.slice (some ⟨W.heap.size,0,none⟩) 0 n) (W.alloc (.cells cs e)):=by
 obtain⟨ht,_,i,z,hi,hz,hsize,hby,_⟩:=hE;refine ⟨madeCells z.cells (n*size),size_madeCells _ _,fun W=>?_⟩
 have hb':(i.bytes:Int)*(n:Int)≤281474976710656:=by
  rw[hby];have h:((bytes*n:Nat):Int)≤281474976710656:=by omega
  rwa[Int.natCast_mul] at h
 have hr:=run_make (P:=P) W t e i z ht hi hz .i64 .i64 0 n (by omega) (by omega) hb' (by unfold maxLen at h63;omega);simp only[Int.toNat_natCast,hsize] at hr;exact hr
theorem own_mk0 {w:World}{base e size g n:Nat}{cs:Array Value}(h:Blk w g e cs)(hs:cs.size=n*size)(hb:base≤g)(hm:n≤maxLen):w.ownsRow base e size (.slice (some ⟨g,0,none⟩) 0 n) 0 []:=
 ⟨by simp,.inr ⟨g,n,cs,rfl,hb,h,Nat.zero_le _,hm,hs,by simp⟩⟩
theorem infoFn:(Tryz.prog.info? 28).map (·.size)=some 7:=by kernel_rfl
structure ClI (w wr:World) (x:Nd) (B:Option Addr) (d:Nat) (ks:Fo) (k:Nat) (A:Option Addr) (c:Nat) (ks1:Fo):Prop where
 fr:Fr Nob w wr
 fbox:Blk wr w.heap.size 28 #[.int .i64 x.op,.string x.name,.int .i64 x.cmp,.int .i64 x.val,.int .i64 x.lo,.int .i64 x.hi,.slice B ks.len d]
 rbox:Blk wr (w.heap.size+1) 28 #[.int .i64 0,.string ⟨#[]⟩,.int .i64 0,.int .i64 0,.int .i64 0,.int .i64 0,.slice none 0 0]
 own:wr.ownsRow (w.heap.size+2) 28 7 (.slice A k c) k ks1.tops
 len:ks1.len=k
 subs:ks1.subs (fun b=>w.heap.size+2≤b∧b<wr.heap.size∧∀g,A.map (·.block)=some g→b≠g) wr
 tr:ks1.tr.app (ks.get k).tr=ks.tr
theorem ClI.step {w wr w2 w4:World}{x y:Nd}{B A A3 A4:Option Addr}{d c c3 k c4:Nat}{ks ks1 js js':Fo}(hi:ClI w wr x B d ks k A c ks1)(hG:(ks.get k).tr=.cons y js.tr (ks.get (k+1)).tr)(hF:Fr Nob wr w2)(htr:js'.tr=js.tr)
 (hsl:AJ (fun b=>wr.heap.size≤b∧b<w2.heap.size) w2 A3 c3 js'){o:Obj}(hgr:(w2.alloc o).grownBy w4 (A.map (·.block)))
 (hown4:w4.ownsRow (w.heap.size+2) 28 7 (.slice A4 (k+1) c4) (k+1) (ks1.tops++fcs y A3 js'.len c3))(hat4:Lies A4 A (w2.heap.size+1)):
 ClI w w4 x B d ks (k+1) A4 c4 (ks1.snoc y A3 c3 js'):=by
 have hs1:w.heap.size+1<wr.heap.size:=Blk.lt hi.rbox;have hs2:=hF.size;have hs4:=hgr.size;rw [World.size_alloc] at hs4;have hob:(Value.slice A k c).ownBlock=A.map (·.block):=by cases A<;>rfl
 have hrow:=hi.own.lt;rw [hob] at hrow;have hne:∀q,q<w.heap.size+2→A.map (·.block)≠some q:=fun q hq e=>by have:=(hrow q e).1;omega
 have hg4:∀b,((w.heap.size+2≤b∧b<wr.heap.size∧∀g,A.map (·.block)=some g→b≠g)∨(wr.heap.size≤b∧b<w2.heap.size))→∀g,A4.map (·.block)=some g→b≠g:=by
  intro b hb g hg e;subst e;rcases hat4 with h4|h4
  ·rw[h4] at hg;have h5:=hrow _ hg;rcases hb with hb|hb;·exact hb.2.2 _ hg rfl
   ·omega
  ·rw[h4] at hg;simp only[Option.some.injEq] at hg;omega
 have hkeep:∀b,b<w2.heap.size→w.heap.size+2≤b→A.map (·.block)≠some b→w4.heap[b]?=w2.heap[b]?:=fun b h1 h2 h3=>
  (hgr.block b (by rw[World.size_alloc];omega) (fun e=>h3 e.symm)).trans (Below.heap_alloc w2 o b h1);refine ⟨((hi.fr.call hF (fun _ h _=>h)).alloc o).grown hgr (fun q e hlt=>by have:=(hrow q e).1;omega),?_,?_,?_,by rw[Fo.snoc_len,hi.len],?_,?_⟩;·exact((hi.fbox.fr hF (fun e=>e)).alloc o).grown hgr (hne _ (by omega))
 ·exact((hi.rbox.fr hF (fun e=>e)).alloc o).grown hgr (hne _ (by omega))
 ·rw[Fo.snoc_tops];exact hown4
 ·refine Fo.subs_snoc ((hsl.keep (fun b hb _=>hkeep b hb.2 (by have:wr.heap.size≤b:=hb.1;omega) (fun e=>by have:=(hrow b e).2;have:wr.heap.size≤b:=hb.1;omega))).mono (fun b hb=>⟨by have:wr.heap.size≤b:=hb.1;omega,by have:=hb.2;omega,hg4 b (.inr hb)⟩))
   (Fo.subs_mono (fun b hb=>⟨hb.1,by have:=hb.2.1;omega,hg4 b (.inl hb)⟩)
     (Fo.subs_keep (fun b hb hlt=>(hkeep b (by omega) hb.1 (fun e=>hb.2.2 b e rfl)).trans (hF.block b hlt (fun e=>e))) hi.subs))
 ·rw[Fo.snoc_tr,htr,←hG,hi.tr]
theorem ClI.done {w wr:World}{x:Nd}{B A:Option Addr}{d c k:Nat}{ks ks1:Fo}(hi:ClI w wr x B d ks k A c ks1)(hk:ks.get k=.nil):ks1.tr=ks.tr∧AJ (fun b=>w.heap.size+2≤b∧b<wr.heap.size) wr A c ks1:=by
 have ht:=hi.tr;rw [hk,show Fo.nil.tr=.nil from rfl,Tr.app_nil] at ht;have hsl:=Sl.of_own hi.own;refine ⟨ht,⟨by rw[hi.len];exact hsl.le,hsl.max,hsl.nil⟩,fun h0=>?_,fun bb oo e=>?_⟩
 ·obtain⟨bb,oo,e,_⟩:=hsl.cells (by rw[←hi.len];exact h0);exact ⟨bb,oo,e⟩
 ·subst e;have hl:=hi.own.lt bb rfl;refine Fo.at_of ⟨hl.1,hl.2⟩ hl.2 (fun j u hu=>?_) (Fo.subs_mono (fun b hb=>⟨hb.1,hb.2.1⟩) hi.subs)
  have hpos:0<k:=by
   have:=(List.getElem?_eq_some_iff.1 hu).1;rw [Fo.tops_len,hi.len] at this;omega
  obtain⟨b2,o2,e,_,hc⟩:=hsl.cells hpos;simp only[Option.some.injEq,Addr.mk.injEq,and_true] at e;obtain ⟨rfl,rfl⟩:=e;exact hc j u hu
theorem eng_clone:∀(m:Nat) (N:Nat) (w:World) (x:Nd) (B:Option Addr) (d:Nat) (ks:Fo),ks.tr.size≤m→ks.tr.size≤100000→Au N w B d ks→N≤w.heap.size→
 Calls Tryz.prog 38 #[AF x B ks.len d] w fun e w'=>∃A c ks',e=.returned (AF x A ks'.len c)∧ks'.tr=ks.tr∧AJ (fun b=>w.heap.size≤b∧b<w'.heap.size) w' A c ks'∧Fr Nob w w':=by
 intro m
 induction m using Nat.strongRecOn with
 |_ m ih=>
  intro N w x B d ks hm hb hs hN;have IH:=AA ih;have HS:=AA hs;have hlen:=ks.len_size;obtain ⟨cs,hcs,hmk⟩:=run_mk0 DB ks.len (by omega) (by unfold maxLen;omega);have HCS:=AA hcs;clear ih hs hcs;unfold AF at*;go_enter Tryz.func38,Tryz.ntmps38;go_wp2_with fail;have hl9:ks.len≤100000:=by omega
  have HI:=AA (show ClI w (((w.alloc (.cells #[.int .i64 x.op,.string x.name,.int .i64 x.cmp,.int .i64 x.val,.int .i64 x.lo,.int .i64 x.hi,.slice B ks.len d] 28)).alloc (.cells #[.int .i64 0,.string ⟨#[]⟩,.int .i64 0,.int .i64 0,.int .i64 0,.int .i64 0,.slice none 0 0] 28)).alloc (.cells cs 28)) x B d ks 0 (some ⟨w.heap.size+1+1,0,none⟩) ks.len .nil from
   ⟨(((Fr.refl _ _).alloc _).alloc _).alloc _,((Blk.new _ _ _).alloc _).alloc _,(Blk.new_eq (by simp)).alloc _,own_mk0 (Blk.new_eq (by simp)) HCS.out (by omega) (by unfold maxLen;omega),rfl,trivial,by rw[Fo.get_zero];rfl⟩);clear hmk;go_loopw [3,13] (fun s i wr=>∃(k:Nat) (A:Option Addr) (c:Nat) (ks1:Fo),k≤ks.len∧i=.int .i64 k∧s=.slice A k c∧Hid (ClI w wr x B d ks k A c ks1)) (fun _ i _=>ks.len-(RowKit.intOf i).toNat);case atStart=>exact⟨0,_,_,.nil,Nat.zero_le _,rfl,rfl,HI⟩
  case round=>
   clear HI HCS;obtain ⟨k,A,c,ks1,hk,rfl,rfl,hi⟩:=hrel;have hbl:=Blk.lt hi.out.rbox;have e6:wr.cell? ⟨w.heap.size,6,none⟩=some (.slice B ks.len d):=hi.out.fbox.cell 6;by_cases hlt:k<ks.len
   ·have hI:(k:Int)<ks.len:=by omega
    have hI3:0≤(k:Int):=by omega
    obtain⟨b,off,y,B2,d2,js,rs,K⟩:=(HS.out.fr hi.out.fr).kid hlt;obtain ⟨d0,d1,d2',d3,d4,d5,d6⟩:=K.nd;obtain rfl:=K.slice;have hlt2:=K.lt;have hsz:=K.size;have hg:=K.get;have hg2:=Fo.get_succ hg;have HC:=AA (fun W (h:Fr Nob wr W)=>IH.out js.tr.size (by omega) N W y B2 d2 js (Nat.le_refl _) (by omega) (K.sl.fr h) (by have:=h.size;have:=hi.out.fr.size;omega));have HG:=AA (show (ks.get k).tr=.cons y js.tr (ks.get (k+1)).tr by rw[hg,hg2];rfl);have HOW:=AA hi.out.own;have hbw:=hi.out.fr.size;have hk9:k≤100000:=by omega
    clear hg hg2 K
    go_wp2_with (first
     |((go_at_call 38);refine(HC.out _ ((Fr.refl _ _).alloc _)).mono ?_;rintro e w2 ⟨A3,c3,js',rfl,htr,hsl,hf2⟩;have HTR:=AA htr;have HSL:=AA hsl;have HF2:=AA (((Fr.refl Nob wr).alloc (.cells #[.int .i64 y.op,.string y.name,.int .i64 y.cmp,.int .i64 y.val,.int .i64 y.lo,.int .i64 y.hi,.slice B2 js.len d2] 28)).call hf2 (fun _ h _=>h));have hw2:=HF2.out.size;clear htr hsl hf2)
     |(at_builtin;refine AP rfl _ _ 26 rfl DB (base:=w.heap.size+2) (xs:=ks1.tops) (news:=fcs y A3 js'.len c3) rfl ?own rfl ?src ?one ?h63 ?hby ?hbase ?_));case own=>exact World.ownsRow.alloc (Ag HOW.out HF2.out (fun _ _ _ _ e=>e)) _
    case src=>exact Sl.new1 (Blk.new _ _ _) 7 1 rfl (by decide)
    case one=>exact nd_one _ _ _ _
    case h63=>unfold maxLen;omega
    case hby=>omega
    case hbase=>simp;omega
    intro A4 c4 w4 hown4 hgr hat4;have HI2:=AA (ClI.step hi.out HG.out HF2.out HTR.out (HSL.out.mono (fun b hb=>⟨by have:=hb.1;simp at this;omega,hb.2⟩)) hgr hown4 (by simpa using hat4));clear hi HSL HF2 hgr hown4 hat4;go_wp2_with fail;go_roundw;case rel=>exact⟨k+1,_,_,_,by omega,by go_num,rfl,HI2⟩
    case measure=>simp[RowKit.intOf];omega
   ·obtain rfl:k=ks.len:=by omega
    obtain⟨htr,hsl⟩:=hi.out.done (Fo.get_end (by omega));have HTR:=AA htr;have HSL:=AA hsl;have HLN:=AA hi.out.len;have fc:=hi.out.fbox.cell;have ff:=hi.out.fbox.frozen;have fl:=hi.out.fbox.lt;have HB0:=AA (hi.out.fbox.set 6 (.slice A ks.len c));have HR0:=AA (hi.out.rbox.far (p:=⟨w.heap.size,6,none⟩) (by simp) (.slice A ks.len c));have HF0:=AA (hi.out.fr.setCell (p:=⟨w.heap.size,6,none⟩) (fun h=>absurd h (by simp)) (.slice A ks.len c));have hII:¬(ks.len:Int)<ks.len:=by omega
    clear htr hsl hi;go_upto_region 8 with fail;obtain ⟨W8,hW8⟩:∃W8,W8=wr.setCell ⟨w.heap.size,6,none⟩ (.slice A ks.len c):=⟨_,rfl⟩;have HB8:=AA (show Blk W8 w.heap.size 28 #[.int .i64 x.op,.string x.name,.int .i64 x.cmp,.int .i64 x.val,.int .i64 x.lo,.int .i64 x.hi,.slice A ks.len c] by rw[hW8];simpa using HB0.out);have HR8:=AA (show Blk W8 (w.heap.size+1) 28 #[.int .i64 0,.string ⟨#[]⟩,.int .i64 0,.int .i64 0,.int .i64 0,.int .i64 0,.slice none 0 0] by rw[hW8];exact HR0.out);have HF8:=AA (show Fr Nob w W8 by rw[hW8];exact HF0.out)
    have HS8:=AA (show AJ (fun b=>w.heap.size+2≤b∧b<W8.heap.size) W8 A c ks1 by
     rw[hW8];exact (HSL.out.keep (fun k hk _=>Below.heap_setCell _ ⟨w.heap.size,6,none⟩ _ k (fun e=>by have:=hk.1;simp at e;omega))).mono (fun k hk=>⟨hk.1,by have:=hk.2;simpa using this⟩));rw [←hW8];clear hW8 HB0 HR0 HF0 HSL fc ff fl e6;have gc:=HB8.out.cell;have gl:=HB8.out.lt;go_wp2_with (refine AB rfl rfl (by rfl) (by rfl) (by exact infoFn) (by rfl) (by exact HR8.out) (by rfl) ?_;intro w9 hb9 hf9;have HB9:=AA hb9;have HF9:=AA hf9;clear hb9 hf9);have rc9:=HB9.out.cell;refine bodyPost_ret (v:=.agg #[.int .i64 x.op,.string x.name,.int .i64 x.cmp,.int .i64 x.val,.int .i64 x.lo,.int .i64 x.hi,.slice A ks.len c]) (by simp[results,Tryz.results38,go_sem,rc9]) rfl ⟨A,c,ks1,by rw[HLN.out],HTR.out,?_,HF8.out.call HF9.out (fun i e hlt=>by have:i=w.heap.size+1:=e;omega)⟩;exact (HS8.out.keep (fun k hk hlt=>HF9.out.block k hlt (fun e=>by have:k=w.heap.size+1:=e;have:=hk.1;omega))).mono (fun k hk=>⟨by have:=hk.1;omega,by have:=hk.2;have:=HF9.out.size;omega⟩)
end Go.Proofs.YtoegdmpmagbaiaaGreatDoor
