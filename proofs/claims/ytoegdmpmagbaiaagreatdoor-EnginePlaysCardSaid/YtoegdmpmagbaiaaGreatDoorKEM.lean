/- The document's truth of one node (ref13.holds), walked: nodes that look at one point. -/
import Derived.Test.YtoegdmpmagbaiaaGreatDoorKEK
import Derived.Test.YtoegdmpmagbaiaaGreatDoorKU
import Derived.Test.YtoegdmpmagbaiaaGreatDoorKY
import Derived.Test.YtoegdmpmagbaiaaGreatDoorQE23
import Derived.Test.YtoegdmpmagbaiaaGreatDoorQE23b
import Derived.Test.YtoegdmpmagbaiaaGreatDoorQH27
import Derived.Test.YtoegdmpmagbaiaaGreatDoorQH32
set_option maxHeartbeats 8000000
set_option maxRecDepth 100000
namespace Go.Proofs.YtoegdmpmagbaiaaGreatDoor
open Go.RowKit Go.Lib Go.Sort
theorem Da (w:World)(A:Option Addr)(c:Nat)(ps:List Pn)(h:WSl w A c ps)(i:Nat)(hi':i<ps.length)(n:Nd)(NA:Option Addr)(nn nc:Nat)
 (X:Option Addr)(cx:Nat)(xs:List Bool)(hx:Sl w 1 X xs.length cx (xs.map ivB))(Y:Option Addr)(cy:Nat)(ys:List Bool)(hy:Sl w 1 Y ys.length cy (ys.map ivB))
 (hop:n.op=1∨n.op=2∨n.op=4∨n.op=5∨n.op=6∨n.op=7∨n.op=8)(hxl:4≤n.op→xs.length=ps.length)(hyl:5≤n.op→ys.length=ps.length)(_hfew:ps.length≤1000):
 Calls Tryz.prog 128 #[AF n NA nn nc,.slice A ps.length c,.int .i64 i,.slice X xs.length cx,.slice Y ys.length cy] w fun e w'=>e=.returned (.bool (knT (pts ps) n i xs ys))∧Fr Nob w w':=by
 obtain⟨r,hr⟩:∃r,r=knT (pts ps) n i xs ys:=⟨_,rfl⟩;rw [←hr];have hI:(i:Int)<ps.length:=by omega
 have hI3:0≤(i:Int):=by omega
 have HL:=AA h;obtain ⟨op,nm,cm,va,lo,hi⟩:=n;dsimp only at hop hxl hyl;unfold AF at*;dsimp only at*;rcases hop with rfl|rfl|rfl|rfl|rfl|rfl|rfl
 ·have HR:=AA (show r=true by rw[hr];simp[knT]);clear h hx hy hr hxl hyl;go_enter Tryz.func128,Tryz.ntmps128;go_upto_region 1 with fail;obtain ⟨W0,hW0⟩:∃W0,w.alloc (.cells #[.int .i64 1,.string nm,.int .i64 cm,.int .i64 va,.int .i64 lo,.int .i64 hi,.slice NA nn nc] 39)=W0:=⟨_,rfl⟩;have HB0:=AA (show Blk W0 w.heap.size 39 #[.int .i64 1,.string nm,.int .i64 cm,.int .i64 va,.int .i64 lo,.int .i64 hi,.slice NA nn nc] by rw[←hW0];exact Blk.new _ _ _);have HF0:=AA (show Fr Nob w W0 by rw[←hW0];exact(Fr.refl _ _).alloc _);rw [hW0];clear hW0;have bc:=HB0.out.cell;have bl:=HB0.out.lt;go_wp2_with fail;go_ret;rw [HR.out];exact ⟨rfl,HF0.out⟩
 ·have HR:=AA (show r=false by rw[hr];simp[knT]);clear h hx hy hr hxl hyl;go_enter Tryz.func128,Tryz.ntmps128;go_upto_region 1 with fail;obtain ⟨W0,hW0⟩:∃W0,w.alloc (.cells #[.int .i64 2,.string nm,.int .i64 cm,.int .i64 va,.int .i64 lo,.int .i64 hi,.slice NA nn nc] 39)=W0:=⟨_,rfl⟩;have HB0:=AA (show Blk W0 w.heap.size 39 #[.int .i64 2,.string nm,.int .i64 cm,.int .i64 va,.int .i64 lo,.int .i64 hi,.slice NA nn nc] by rw[←hW0];exact Blk.new _ _ _);have HF0:=AA (show Fr Nob w W0 by rw[←hW0];exact(Fr.refl _ _).alloc _);rw [hW0];clear hW0;have bc:=HB0.out.cell;have bl:=HB0.out.lt;go_wp2_with fail;go_ret;rw [HR.out];exact ⟨rfl,HF0.out⟩
 ·have hl:=hxl (by decide);obtain ⟨bx,ofx,rfl,hbx,x0⟩:=Ak hx (k:=i) (by rw[hl];exact hi');have HRQ:=AA (show r=!(bAt xs i) by rw[hr];simp[knT]);rw [hl];clear h hx hy hxl hyl hl HL hr;generalize bAt xs i=xa at*;go_enter Tryz.func128,Tryz.ntmps128;go_upto_region 1 with fail;obtain ⟨W0,hW0⟩:∃W0,w.alloc (.cells #[.int .i64 4,.string nm,.int .i64 cm,.int .i64 va,.int .i64 lo,.int .i64 hi,.slice NA nn nc] 39)=W0:=⟨_,rfl⟩;have HB0:=AA (show Blk W0 w.heap.size 39 #[.int .i64 4,.string nm,.int .i64 cm,.int .i64 va,.int .i64 lo,.int .i64 hi,.slice NA nn nc] by rw[←hW0];exact Blk.new _ _ _);have HF0:=AA (show Fr Nob w W0 by rw[←hW0];exact(Fr.refl _ _).alloc _);rw [hW0];clear hW0;have bc:=HB0.out.cell;have bl:=HB0.out.lt;replace x0:=HF0.out.cell x0 (fun e=>e);replace hbx:=Nat.lt_of_lt_of_le hbx HF0.out.size;cases xa
  all_goals
   go_wp2_with fail;go_ret;rw [HRQ.out];exact ⟨by simp,HF0.out⟩
 ·skip;have hl:=hxl (by decide);have hl2:=hyl (by decide);obtain ⟨bx,ofx,rfl,hbx,x0⟩:=Ak hx (k:=i) (by rw[hl];exact hi');obtain ⟨b_y,ofy,rfl,hby,y0⟩:=Ak hy (k:=i) (by rw[hl2];exact hi');have HRQ:=AA (show r=(bAt xs i&&bAt ys i) by rw[hr];simp[knT]);rw [hl,hl2];clear h hx hy hxl hyl hl hl2 HL hr;generalize bAt xs i=xa at*;generalize bAt ys i=ya at*;go_enter Tryz.func128,Tryz.ntmps128;go_upto_region 1 with fail;obtain ⟨W0,hW0⟩:∃W0,w.alloc (.cells #[.int .i64 5,.string nm,.int .i64 cm,.int .i64 va,.int .i64 lo,.int .i64 hi,.slice NA nn nc] 39)=W0:=⟨_,rfl⟩;have HB0:=AA (show Blk W0 w.heap.size 39 #[.int .i64 5,.string nm,.int .i64 cm,.int .i64 va,.int .i64 lo,.int .i64 hi,.slice NA nn nc] by rw[←hW0];exact Blk.new _ _ _);have HF0:=AA (show Fr Nob w W0 by rw[←hW0];exact(Fr.refl _ _).alloc _);rw [hW0];clear hW0;have bc:=HB0.out.cell;have bl:=HB0.out.lt;replace x0:=HF0.out.cell x0 (fun e=>e);replace y0:=HF0.out.cell y0 (fun e=>e);replace hbx:=Nat.lt_of_lt_of_le hbx HF0.out.size;replace hby:=Nat.lt_of_lt_of_le hby HF0.out.size;cases xa<;>cases ya
  all_goals
   (try (go_wp2_with fail));(try (go_quiet (fail)));(try (go_wp2_with fail));go_ret;rw [HRQ.out]
   first
    |exact⟨by simp,HF0.out⟩
    |exact⟨by simp,HF0.out.drewN _⟩
 ·skip;have hl:=hxl (by decide);have hl2:=hyl (by decide);obtain ⟨bx,ofx,rfl,hbx,x0⟩:=Ak hx (k:=i) (by rw[hl];exact hi');obtain ⟨b_y,ofy,rfl,hby,y0⟩:=Ak hy (k:=i) (by rw[hl2];exact hi');have HRQ:=AA (show r=(Bool.or (bAt xs i) (bAt ys i)) by rw[hr];simp[knT]);rw [hl,hl2];clear h hx hy hxl hyl hl hl2 HL hr;generalize bAt xs i=xa at*;generalize bAt ys i=ya at*;go_enter Tryz.func128,Tryz.ntmps128;go_upto_region 1 with fail;obtain ⟨W0,hW0⟩:∃W0,w.alloc (.cells #[.int .i64 6,.string nm,.int .i64 cm,.int .i64 va,.int .i64 lo,.int .i64 hi,.slice NA nn nc] 39)=W0:=⟨_,rfl⟩;have HB0:=AA (show Blk W0 w.heap.size 39 #[.int .i64 6,.string nm,.int .i64 cm,.int .i64 va,.int .i64 lo,.int .i64 hi,.slice NA nn nc] by rw[←hW0];exact Blk.new _ _ _);have HF0:=AA (show Fr Nob w W0 by rw[←hW0];exact(Fr.refl _ _).alloc _);rw [hW0];clear hW0;have bc:=HB0.out.cell;have bl:=HB0.out.lt;replace x0:=HF0.out.cell x0 (fun e=>e);replace y0:=HF0.out.cell y0 (fun e=>e);replace hbx:=Nat.lt_of_lt_of_le hbx HF0.out.size;replace hby:=Nat.lt_of_lt_of_le hby HF0.out.size;cases xa<;>cases ya
  all_goals
   (try (go_wp2_with fail));(try (go_quiet (fail)));(try (go_wp2_with fail));go_ret;rw [HRQ.out]
   first
    |exact⟨by simp,HF0.out⟩
    |exact⟨by simp,HF0.out.drewN _⟩
 ·skip;have hl:=hxl (by decide);have hl2:=hyl (by decide);obtain ⟨bx,ofx,rfl,hbx,x0⟩:=Ak hx (k:=i) (by rw[hl];exact hi');obtain ⟨b_y,ofy,rfl,hby,y0⟩:=Ak hy (k:=i) (by rw[hl2];exact hi');have HRQ:=AA (show r=(Bool.or (!(bAt xs i)) (bAt ys i)) by rw[hr];simp[knT]);rw [hl,hl2];clear h hx hy hxl hyl hl hl2 HL hr;generalize bAt xs i=xa at*;generalize bAt ys i=ya at*;go_enter Tryz.func128,Tryz.ntmps128;go_upto_region 1 with fail;obtain ⟨W0,hW0⟩:∃W0,w.alloc (.cells #[.int .i64 7,.string nm,.int .i64 cm,.int .i64 va,.int .i64 lo,.int .i64 hi,.slice NA nn nc] 39)=W0:=⟨_,rfl⟩;have HB0:=AA (show Blk W0 w.heap.size 39 #[.int .i64 7,.string nm,.int .i64 cm,.int .i64 va,.int .i64 lo,.int .i64 hi,.slice NA nn nc] by rw[←hW0];exact Blk.new _ _ _);have HF0:=AA (show Fr Nob w W0 by rw[←hW0];exact(Fr.refl _ _).alloc _);rw [hW0];clear hW0;have bc:=HB0.out.cell;have bl:=HB0.out.lt;replace x0:=HF0.out.cell x0 (fun e=>e);replace y0:=HF0.out.cell y0 (fun e=>e);replace hbx:=Nat.lt_of_lt_of_le hbx HF0.out.size;replace hby:=Nat.lt_of_lt_of_le hby HF0.out.size;cases xa<;>cases ya
  all_goals
   (try (go_wp2_with fail));(try (go_quiet (fail)));(try (go_wp2_with fail));go_ret;rw [HRQ.out]
   first
    |exact⟨by simp,HF0.out⟩
    |exact⟨by simp,HF0.out.drewN _⟩
 ·skip;have hl:=hxl (by decide);have hl2:=hyl (by decide);obtain ⟨bx,ofx,rfl,hbx,x0⟩:=Ak hx (k:=i) (by rw[hl];exact hi');obtain ⟨b_y,ofy,rfl,hby,y0⟩:=Ak hy (k:=i) (by rw[hl2];exact hi');have HRQ:=AA (show r=(bAt xs i==bAt ys i) by rw[hr];simp[knT]);rw [hl,hl2];clear h hx hy hxl hyl hl hl2 HL hr;generalize bAt xs i=xa at*;generalize bAt ys i=ya at*;go_enter Tryz.func128,Tryz.ntmps128;go_upto_region 1 with fail;obtain ⟨W0,hW0⟩:∃W0,w.alloc (.cells #[.int .i64 8,.string nm,.int .i64 cm,.int .i64 va,.int .i64 lo,.int .i64 hi,.slice NA nn nc] 39)=W0:=⟨_,rfl⟩;have HB0:=AA (show Blk W0 w.heap.size 39 #[.int .i64 8,.string nm,.int .i64 cm,.int .i64 va,.int .i64 lo,.int .i64 hi,.slice NA nn nc] by rw[←hW0];exact Blk.new _ _ _);have HF0:=AA (show Fr Nob w W0 by rw[←hW0];exact(Fr.refl _ _).alloc _);rw [hW0];clear hW0;have bc:=HB0.out.cell;have bl:=HB0.out.lt;replace x0:=HF0.out.cell x0 (fun e=>e);replace y0:=HF0.out.cell y0 (fun e=>e);replace hbx:=Nat.lt_of_lt_of_le hbx HF0.out.size;replace hby:=Nat.lt_of_lt_of_le hby HF0.out.size;cases xa<;>cases ya
  all_goals
   (try (go_wp2_with fail));(try (go_quiet (fail)));(try (go_wp2_with fail));go_ret;rw [HRQ.out]
   first
    |exact⟨by simp,HF0.out⟩
    |exact⟨by simp,HF0.out.drewN _⟩
theorem r13_atom (w:World)(A:Option Addr)(c:Nat)(ps:List Pn)(h:WSl w A c ps)(i:Nat)(hi':i<ps.length)(n:Nd)(NA:Option Addr)(nn nc:Nat)(X Y:Value)(xs ys:List Bool)(hop:n.op=3)(_hfew:ps.length≤1000):
 Calls Tryz.prog 128 #[AF n NA nn nc,.slice A ps.length c,.int .i64 i,X,Y] w fun e w'=>e=.returned (.bool (knT (pts ps) n i xs ys))∧Fr Nob w w':=by
 obtain⟨r,hr⟩:∃r,r=knT (pts ps) n i xs ys:=⟨_,rfl⟩;rw [←hr];have hI:(i:Int)<ps.length:=by omega
 have hI3:0≤(i:Int):=by omega
 obtain⟨op,nm,cm,va,lo,hi⟩:=n;dsimp only at hop;unfold AF at*;dsimp only at*;subst hop;have HP:=AA (h.inn _ (List.getElem_mem hi'));obtain ⟨b,off,hA,hb,d0,d1⟩:=h.at_ hi';have HR:=AA (show r=holdsB ps[i].l nm cm va by rw[hr];simp[knT,F0 hi']);generalize ps[i]=p at*;obtain ⟨t,pA,pc,l⟩:=p;dsimp only at d0 d1 HP HR;have HH:=AA (fun W (hf:Fr Nob w W)=>ref_Holds W pA pc l nm cm va (HP.out.pure hf));clear h hr;subst hA;generalize holdsB l nm cm va=hv at*;go_enter Tryz.func128,Tryz.ntmps128;go_upto_region 1 with fail;obtain ⟨W0,hW0⟩:∃W0,w.alloc (.cells #[.int .i64 3,.string nm,.int .i64 cm,.int .i64 va,.int .i64 lo,.int .i64 hi,.slice NA nn nc] 39)=W0:=⟨_,rfl⟩;have HB0:=AA (show Blk W0 w.heap.size 39 #[.int .i64 3,.string nm,.int .i64 cm,.int .i64 va,.int .i64 lo,.int .i64 hi,.slice NA nn nc] by rw[←hW0];exact Blk.new _ _ _);have HF0:=AA (show Fr Nob w W0 by rw[←hW0];exact(Fr.refl _ _).alloc _);rw [hW0];clear hW0;have bc:=HB0.out.cell;have bl:=HB0.out.lt;replace d0:=HF0.out.cell d0 (fun e=>e);replace d1:=HF0.out.cell d1 (fun e=>e);replace hb:=Nat.lt_of_lt_of_le hb HF0.out.size;go_upto_region 6 with fail;have k0:=cell_regrown d0;have k1:=cell_regrown d1;have k2:=cell_regrown (HB0.out.cell 1);have k3:=cell_regrown (HB0.out.cell 2);have k4:=cell_regrown (HB0.out.cell 3);have C1:=AA (Cc fun X hf=>HH.out X (HF0.out.call hf (fun _ h _=>h)));refine wp_region_quiet_below (by kernel_rfl) (by kernel_rfl) ?_;repeat (go_big_quiet_step (first|exact C1.out _ _))
 refine wpQuiet_nil ?_;intro _ hw';obtain ⟨⟨dq,osq⟩,hw''⟩:=hw';subst hw'';go_wp2_with fail;go_ret;rw [HR.out];exact ⟨rfl,Bt HF0.out _ _⟩
theorem r13_holds0 (w:World)(A:Option Addr)(c:Nat)(ps:List Pn)(h:WSl w A c ps)(i:Nat)(hi':i<ps.length)(n:Nd)(NA:Option Addr)(nn nc:Nat)(hop:n.op=1∨n.op=2∨n.op=3)(hfew:ps.length≤1000):
 Calls Tryz.prog 128 #[AF n NA nn nc,.slice A ps.length c,.int .i64 i,.slice none 0 0,.slice none 0 0] w fun e w'=>e=.returned (.bool (knT (pts ps) n i [] []))∧Fr Nob w w':=by
 have hn:Sl w 1 none ([]:List Bool).length 0 (([]:List Bool).map ivB):=Sl.none_ _ _;rcases hop with h1|h1|h1;·exact Da w A c ps h i hi' n NA nn nc none 0 [] hn none 0 [] hn (.inl h1) (fun e=>absurd e (by omega)) (fun e=>absurd e (by omega)) hfew
 ·exact Da w A c ps h i hi' n NA nn nc none 0 [] hn none 0 [] hn (.inr (.inl h1)) (fun e=>absurd e (by omega)) (fun e=>absurd e (by omega)) hfew
 ·exact r13_atom w A c ps h i hi' n NA nn nc _ _ [] [] h1 hfew
theorem r13_holds1 (w:World)(A:Option Addr)(c:Nat)(ps:List Pn)(h:WSl w A c ps)(hW:Ay (pts ps))(i:Nat)(hi':i<ps.length)(n:Nd)(NA:Option Addr)(nn nc:Nat)
 (X:Option Addr)(cx:Nat)(xs:List Bool)(hx:Sl w 1 X xs.length cx (xs.map ivB))(hop:n.op=4∨n.op=9∨n.op=10)(hxl:xs.length=ps.length)(hfew:ps.length≤1000):
 Calls Tryz.prog 128 #[AF n NA nn nc,.slice A ps.length c,.int .i64 i,.slice X xs.length cx,.slice none 0 0] w fun e w'=>e=.returned (.bool (knT (pts ps) n i xs []))∧Fr Nob w w':=by
 have hn:Sl w 1 none ([]:List Bool).length 0 (([]:List Bool).map ivB):=Sl.none_ _ _;rcases hop with h1|h1;·exact Da w A c ps h i hi' n NA nn nc X cx xs hx none 0 [] hn (.inr (.inr (.inl h1))) (fun _=>hxl) (fun e=>absurd e (by omega)) hfew
 ·exact r13_some w A c ps h hW i hi' n NA nn nc X cx xs hx [] _ h1 hxl hfew
theorem r13_holds2 (w:World)(A:Option Addr)(c:Nat)(ps:List Pn)(h:WSl w A c ps)(hW:Ay (pts ps))(i:Nat)(hi':i<ps.length)(n:Nd)(NA:Option Addr)(nn nc:Nat)
 (X:Option Addr)(cx:Nat)(xs:List Bool)(hx:Sl w 1 X xs.length cx (xs.map ivB))(Y:Option Addr)(cy:Nat)(ys:List Bool)(hy:Sl w 1 Y ys.length cy (ys.map ivB))
 (hop:n.op=5∨n.op=6∨n.op=7∨n.op=8∨n.op=11∨n.op=12)(hxl:xs.length=ps.length)(hyl:ys.length=ps.length)(hfew:ps.length≤1000):
 Calls Tryz.prog 128 #[AF n NA nn nc,.slice A ps.length c,.int .i64 i,.slice X xs.length cx,.slice Y ys.length cy] w fun e w'=>e=.returned (.bool (knT (pts ps) n i xs ys))∧Fr Nob w w':=by
 rcases hop with h1|h1|h1|h1|h1|h1;·exact Da w A c ps h i hi' n NA nn nc X cx xs hx Y cy ys hy (by omega) (fun _=>hxl) (fun _=>hyl) hfew
 ·exact Da w A c ps h i hi' n NA nn nc X cx xs hx Y cy ys hy (by omega) (fun _=>hxl) (fun _=>hyl) hfew
 ·exact Da w A c ps h i hi' n NA nn nc X cx xs hx Y cy ys hy (by omega) (fun _=>hxl) (fun _=>hyl) hfew
 ·exact Da w A c ps h i hi' n NA nn nc X cx xs hx Y cy ys hy (by omega) (fun _=>hxl) (fun _=>hyl) hfew
 ·exact r13_un w A c ps h hW i hi' n NA nn nc X cx xs hx Y cy ys hy h1 hxl hyl hfew
 ·exact r13_re w A c ps h hW i hi' n NA nn nc X cx xs hx Y cy ys hy h1 hxl hyl hfew
end Go.Proofs.YtoegdmpmagbaiaaGreatDoor
namespace Go.Proofs.YtoegdmpmagbaiaaGreatDoor
open Go.RowKit Go.Lib
def rtV (W:List Pt)(x:Nd)(xs ys:List Bool)(k:Nat):List Value:=((List.range k).map fun i=>knT W x i xs ys).map ivB
theorem rtV_nil (W:List Pt)(x:Nd)(xs ys:List Bool):rtV W x xs ys 0=[]:=rfl
theorem GS (W:List Pt)(x:Nd)(xs ys:List Bool)(k:Nat):rtV W x xs ys (k+1)=rtV W x xs ys k++[ivB (knT W x k xs ys)]:=by
 unfold rtV;rw[List.range_succ,List.map_append,List.map_append];rfl
theorem GU (ps:List Pn)(x:Nd)(xs ys:List Bool):rtV (pts ps) x xs ys ps.length=(EW (pts ps) x xs ys).map ivB:=by
 unfold rtV EW;rw[AC]
theorem iv_oneT (v:Bool):∀u∈[ivB v],u.oneCell'=true:=by intro u hu;simp at hu;subst hu;rfl
theorem nil_slT (w:World):Sl w 1 none ([]:List Bool).length 0 (([]:List Bool).map ivB):=Sl.none_ _ _
theorem tR0 (w:World)(A:Option Addr)(c:Nat)(ps:List Pn)(h:WSl w A c ps)(hfew:ps.length≤1000)(x:Nd)(B:Option Addr)(d:Nat)(hop:x.op=1∨x.op=2∨x.op=3):
 Calls Tryz.prog 82 #[AF x B 0 d,.slice A ps.length c] w fun e w'=>BMN w w' e (EW (pts ps) x [] []) ps.length:=by
 have HL:=AA h;have hmax:=h.sl.max;unfold maxLen at hmax;have HK0:=AA (fun W (hf:Fr Nob w W) i (hi:i<ps.length)=>r13_holds0 W A c ps (HL.out.pure hf) i hi x B 0 d hop hfew);clear h hop;obtain ⟨op,nm,cm,va,lo,hi⟩:=x;unfold AF at*;dsimp only at*;go_enter Tryz.func82,Tryz.ntmps82;go_upto_region 3 with fail;obtain ⟨W0,hW0⟩:∃W0,w.alloc (.cells #[.int .i64 op,.string nm,.int .i64 cm,.int .i64 va,.int .i64 lo,.int .i64 hi,.slice B 0 d] 39)=W0:=⟨_,rfl⟩;have HB0:=AA (show Blk W0 w.heap.size 39 #[.int .i64 op,.string nm,.int .i64 cm,.int .i64 va,.int .i64 lo,.int .i64 hi,.slice B 0 d] by rw[←hW0];exact Blk.new _ _ _);have HF0:=AA (show Fr Nob w W0 by rw[←hW0];exact(Fr.refl _ _).alloc _);rw [hW0];clear hW0;have bc:=HB0.out.cell;have bl:=HB0.out.lt;have HK:=AA (fun W (hf:Fr Nob W0 W) i (hi:i<ps.length)=>HK0.out W (HF0.out.call hf (fun _ h _=>h)) i hi);clear HK0;go_wp2_with fail;go_loopw [7,8] (fun ov iv wr=>∃(k:Nat) (A':Option Addr) (c':Nat),k≤ps.length∧iv=.int .i64 k∧ov=.slice A' k c'∧Hid (Fr Nob W0 wr)∧Hid (wr.ownsRow W0.heap.size 4 1 (.slice A' k c') k (rtV (pts ps) ⟨op,nm,cm,va,lo,hi⟩ [] [] k))) (fun _ iv _=>ps.length-(intOf iv).toNat);case atStart=>exact⟨0,none,0,Nat.zero_le _,rfl,rfl,AA (Fr.refl _ _),AA (by rw[rtV_nil];exact World.ownsRow_nil _ _ _ _)⟩
 case round=>
  obtain⟨i,A',c',hi',rfl,rfl,hfr,hown⟩:=hrel;have HBr:=AA (HB0.out.fr hfr.out (fun e=>e));have bcr:=HBr.out.cell;have blr:=HBr.out.lt;by_cases hlt:i<ps.length
  ·have hI2:(i:Int)<ps.length:=by omega
   have hI3:0≤(i:Int):=by omega
   have HKV:=AA (GS (pts ps) ⟨op,nm,cm,va,lo,hi⟩ [] [] i);have HKN:=AA (HK.out wr hfr.out i hlt);generalize rtV (pts ps) ⟨op,nm,cm,va,lo,hi⟩ [] [] i=ov0 at*;generalize knT (pts ps) ⟨op,nm,cm,va,lo,hi⟩ i [] []=zk at*;have HOW:=AA hown.out
   go_wp2_with (first
    |((go_at_call 128);(with_reducible refine(HKN.out).mono ?_);rintro e w11 ⟨rfl,hf11⟩;have HF11:=AA hf11;have HO1:=AA (Ag HOW.out hf11 (fun _ _ _ _ e=>e));clear hf11)
    |(at_builtin;refine AP rfl _ _ 74 rfl el_b1 (base:=W0.heap.size) (xs:=ov0) (news:=[ivB zk]) rfl ?own rfl ?src ?one ?h63 ?hby ?hbase ?_));case own=>exact Ag HO1.out ((Fr.refl Nob _).alloc _) (fun _ _ _ _ e=>e)
   case src=>exact Sl.new1 (Blk.new_eq (by simp)) 1 1 rfl (by decide)
   case one=>exact iv_oneT _
   case h63=>unfold maxLen;omega
   case hby=>omega
   case hbase=>have h2:=hfr.out.size;have h3:=HF11.out.size;simp;omega
   intro A2 c2 w12 hown2 hgr2 hl2;have HO2:=AA (show w12.ownsRow W0.heap.size 4 1 (.slice A2 (i+1) c2) (i+1) (rtV (pts ps) ⟨op,nm,cm,va,lo,hi⟩ [] [] (i+1)) from by rw[HKV.out];exact hown2);have HF12:=AA (((hfr.out.call HF11.out (fun _ h _=>h)).alloc _).grown hgr2 (fun k hk hlt=>by have:=AX HO1.out k hk;omega));clear hown2 hgr2 hl2;go_wp2_with fail;go_roundw;case rel=>exact⟨i+1,A2,c2,by omega,by go_num,rfl,HF12,HO2⟩
   case measure=>simp[intOf];omega
  ·obtain rfl:i=ps.length:=by omega
   have HOA:=AA (Sl.of_own hown.out);have HFA:=AA (HF0.out.call hfr.out (fun _ h _=>h));have hlt3:¬(ps.length:Int)<ps.length:=by omega
   clear hfr hown;go_wp2_with fail;go_ret;refine ⟨_,_,rfl,?_,HFA.out⟩;rw [←GU];exact HOA.out
section
variable (w:World) (A:Option Addr) (c:Nat) (ps:List Pn) (h:WSl w A c ps) (hW:Ay (pts ps)) (hfew:ps.length≤1000)
include h hW hfew
theorem tR1 (x:Nd)(b off d:Nat)(hb:b<w.heap.size)(y:Nd)(B:Option Addr)(n e:Nat)(hk:CG w b off y B n e)(xs:List Bool)(hxl:xs.length=ps.length)
 (hC:∀W,Fr Nob w W→Calls Tryz.prog 82 #[AF y B n e,.slice A ps.length c] W fun e w'=>BMN W w' e xs ps.length)(hop:x.op=4∨x.op=9∨x.op=10):
 Calls Tryz.prog 82 #[AF x (some ⟨b,off,none⟩) 1 d,.slice A ps.length c] w fun e w'=>BMN w w' e (EW (pts ps) x xs []) ps.length:=by
 have HL:=AA h;have hmax:=h.sl.max;unfold maxLen at hmax;have HKD:=AA hk;have HC:=AA hC
 have HK0:=AA (fun W (hf:Fr Nob w W) X cx (hs:Sl W 1 X ps.length cx (xs.map ivB)) i (hi:i<ps.length)=>(show Calls Tryz.prog 128 #[AF x (some ⟨b,off,none⟩) 1 d,.slice A ps.length c,.int .i64 i,.slice X ps.length cx,.slice none 0 0] W _ from by
  have:=r13_holds1 W A c ps (HL.out.pure hf) hW i hi x (some ⟨b,off,none⟩) 1 d X cx xs (by rw[hxl];exact hs) hop hxl hfew;rw [hxl] at this;exact this));clear h hW hop hC hk hxl;obtain ⟨op,nm,cm,va,lo,hi⟩:=x;unfold AF at*;dsimp only at*;go_enter Tryz.func82,Tryz.ntmps82;go_upto_region 3 with fail;obtain ⟨W0,hW0⟩:∃W0,w.alloc (.cells #[.int .i64 op,.string nm,.int .i64 cm,.int .i64 va,.int .i64 lo,.int .i64 hi,.slice (some ⟨b,off,none⟩) 1 d] 39)=W0:=⟨_,rfl⟩;have HB0:=AA (show Blk W0 w.heap.size 39 #[.int .i64 op,.string nm,.int .i64 cm,.int .i64 va,.int .i64 lo,.int .i64 hi,.slice (some ⟨b,off,none⟩) 1 d] by rw[←hW0];exact Blk.new _ _ _);have HF0:=AA (show Fr Nob w W0 by rw[←hW0];exact(Fr.refl _ _).alloc _);rw [hW0];clear hW0;have bc:=HB0.out.cell;have bl:=HB0.out.lt;obtain ⟨d0,d1,d2,d3,d4,d5,d6⟩:=HKD.out.fr HF0.out;have hbl:=Nat.lt_of_lt_of_le hb HF0.out.size
 go_upto_region 5 with(first
  |((go_at_call 82);(with_reducible refine(HC.out _ HF0.out).mono ?_);rintro e W1 ⟨X,cx,rfl,hxs,hf1⟩;have HXS1:=AA hxs;have HG1:=AA hf1;clear hxs hf1)
  |fail);clear d0 d1 d2 d3 d4 d5 d6 hbl bc bl HC HKD;replace HF0:=AA (HF0.out.call HG1.out (fun _ h _=>h));replace HB0:=AA (HB0.out.fr HG1.out (fun e=>e));have bc:=HB0.out.cell;have bl:=HB0.out.lt;have HK:=AA (fun W (hf:Fr Nob W1 W) i (hi:i<ps.length)=>HK0.out W (HF0.out.call hf (fun _ h _=>h)) X cx (HXS1.out.pure hf) i hi);clear HK0 HG1 HXS1;go_wp2_with fail;go_loopw [7,8] (fun ov iv wr=>∃(k:Nat) (A':Option Addr) (c':Nat),k≤ps.length∧iv=.int .i64 k∧ov=.slice A' k c'∧Hid (Fr Nob W1 wr)∧Hid (wr.ownsRow W1.heap.size 4 1 (.slice A' k c') k (rtV (pts ps) ⟨op,nm,cm,va,lo,hi⟩ xs [] k))) (fun _ iv _=>ps.length-(intOf iv).toNat);case atStart=>exact⟨0,none,0,Nat.zero_le _,rfl,rfl,AA (Fr.refl _ _),AA (by rw[rtV_nil];exact World.ownsRow_nil _ _ _ _)⟩
 case round=>
  obtain⟨i,A',c',hi',rfl,rfl,hfr,hown⟩:=hrel;have HBr:=AA (HB0.out.fr hfr.out (fun e=>e));have bcr:=HBr.out.cell;have blr:=HBr.out.lt;by_cases hlt:i<ps.length
  ·have hI2:(i:Int)<ps.length:=by omega
   have hI3:0≤(i:Int):=by omega
   have HKV:=AA (GS (pts ps) ⟨op,nm,cm,va,lo,hi⟩ xs [] i);have HKN:=AA (HK.out wr hfr.out i hlt);generalize rtV (pts ps) ⟨op,nm,cm,va,lo,hi⟩ xs [] i=ov0 at*;generalize knT (pts ps) ⟨op,nm,cm,va,lo,hi⟩ i xs []=zk at*;have HOW:=AA hown.out
   go_wp2_with (first
    |((go_at_call 128);(with_reducible refine(HKN.out).mono ?_);rintro e w11 ⟨rfl,hf11⟩;have HF11:=AA hf11;have HO1:=AA (Ag HOW.out hf11 (fun _ _ _ _ e=>e));clear hf11)
    |(at_builtin;refine AP rfl _ _ 74 rfl el_b1 (base:=W1.heap.size) (xs:=ov0) (news:=[ivB zk]) rfl ?own rfl ?src ?one ?h63 ?hby ?hbase ?_));case own=>exact Ag HO1.out ((Fr.refl Nob _).alloc _) (fun _ _ _ _ e=>e)
   case src=>exact Sl.new1 (Blk.new_eq (by simp)) 1 1 rfl (by decide)
   case one=>exact iv_oneT _
   case h63=>unfold maxLen;omega
   case hby=>omega
   case hbase=>have h2:=hfr.out.size;have h3:=HF11.out.size;simp;omega
   intro A2 c2 w12 hown2 hgr2 hl2;have HO2:=AA (show w12.ownsRow W1.heap.size 4 1 (.slice A2 (i+1) c2) (i+1) (rtV (pts ps) ⟨op,nm,cm,va,lo,hi⟩ xs [] (i+1)) from by rw[HKV.out];exact hown2);have HF12:=AA (((hfr.out.call HF11.out (fun _ h _=>h)).alloc _).grown hgr2 (fun k hk hlt=>by have:=AX HO1.out k hk;omega));clear hown2 hgr2 hl2;go_wp2_with fail;go_roundw;case rel=>exact⟨i+1,A2,c2,by omega,by go_num,rfl,HF12,HO2⟩
   case measure=>simp[intOf];omega
  ·obtain rfl:i=ps.length:=by omega
   have HOA:=AA (Sl.of_own hown.out);have HFA:=AA (HF0.out.call hfr.out (fun _ h _=>h));have hlt3:¬(ps.length:Int)<ps.length:=by omega
   clear hfr hown;go_wp2_with fail;go_ret;refine ⟨_,_,rfl,?_,HFA.out⟩;rw [←GU];exact HOA.out
theorem tR2 (x:Nd)(b off d:Nat)(hb:b<w.heap.size)(y:Nd)(B:Option Addr)(n e:Nat)(hk:CG w b off y B n e)(xs:List Bool)(hxl:xs.length=ps.length)
 (hC:∀W,Fr Nob w W→Calls Tryz.prog 82 #[AF y B n e,.slice A ps.length c] W fun e w'=>BMN W w' e xs ps.length)(z:Nd)(C:Option Addr)(n2 e2:Nat)(hk2:CG w b (off+7) z C n2 e2)(ys:List Bool)(hyl:ys.length=ps.length)
 (hC2:∀W,Fr Nob w W→Calls Tryz.prog 82 #[AF z C n2 e2,.slice A ps.length c] W fun e w'=>BMN W w' e ys ps.length)(hop:x.op=5∨x.op=6∨x.op=7∨x.op=8∨x.op=11∨x.op=12):
 Calls Tryz.prog 82 #[AF x (some ⟨b,off,none⟩) 2 d,.slice A ps.length c] w fun e w'=>BMN w w' e (EW (pts ps) x xs ys) ps.length:=by
 have HL:=AA h;have hmax:=h.sl.max;unfold maxLen at hmax;have HKD:=AA hk;have HKE:=AA hk2;have HC:=AA hC;have HC2:=AA hC2
 have HK0:=AA (fun W (hf:Fr Nob w W) X cx (hs:Sl W 1 X ps.length cx (xs.map ivB)) Y cy (ht:Sl W 1 Y ps.length cy (ys.map ivB)) i (hi:i<ps.length)=>(show Calls Tryz.prog 128 #[AF x (some ⟨b,off,none⟩) 2 d,.slice A ps.length c,.int .i64 i,.slice X ps.length cx,.slice Y ps.length cy] W _ from by
  have:=r13_holds2 W A c ps (HL.out.pure hf) hW i hi x (some ⟨b,off,none⟩) 2 d X cx xs (by rw[hxl];exact hs) Y cy ys (by rw[hyl];exact ht) hop hxl hyl hfew;rw [hxl,hyl] at this;exact this));clear h hW hop hC hk hxl hC2 hk2 hyl;obtain ⟨op,nm,cm,va,lo,hi⟩:=x;unfold AF at*;dsimp only at*;go_enter Tryz.func82,Tryz.ntmps82;go_upto_region 3 with fail;obtain ⟨W0,hW0⟩:∃W0,w.alloc (.cells #[.int .i64 op,.string nm,.int .i64 cm,.int .i64 va,.int .i64 lo,.int .i64 hi,.slice (some ⟨b,off,none⟩) 2 d] 39)=W0:=⟨_,rfl⟩;have HB0:=AA (show Blk W0 w.heap.size 39 #[.int .i64 op,.string nm,.int .i64 cm,.int .i64 va,.int .i64 lo,.int .i64 hi,.slice (some ⟨b,off,none⟩) 2 d] by rw[←hW0];exact Blk.new _ _ _);have HF0:=AA (show Fr Nob w W0 by rw[←hW0];exact(Fr.refl _ _).alloc _);rw [hW0];clear hW0;have bc:=HB0.out.cell;have bl:=HB0.out.lt;obtain ⟨d0,d1,d2,d3,d4,d5,d6⟩:=HKD.out.fr HF0.out;have hbl:=Nat.lt_of_lt_of_le hb HF0.out.size
 go_upto_region 5 with(first
  |((go_at_call 82);(with_reducible refine(HC.out _ HF0.out).mono ?_);rintro e W1 ⟨X,cx,rfl,hxs,hf1⟩;have HXS1:=AA hxs;have HG1:=AA hf1;clear hxs hf1)
  |fail);clear d0 d1 d2 d3 d4 d5 d6 hbl bc bl HC HKD;replace HF0:=AA (HF0.out.call HG1.out (fun _ h _=>h));replace HB0:=AA (HB0.out.fr HG1.out (fun e=>e));have bc:=HB0.out.cell;have bl:=HB0.out.lt;obtain ⟨d0,d1,d2,d3,d4,d5,d6⟩:=HKE.out.fr HF0.out;have hbl:=Nat.lt_of_lt_of_le hb HF0.out.size
 go_upto_region 7 with(first
  |((go_at_call 82);(with_reducible refine(HC2.out _ HF0.out).mono ?_);rintro e W2 ⟨Y,cy,rfl,hxs,hf1⟩;have HXS2:=AA hxs;have HG2:=AA hf1;clear hxs hf1)
  |fail);clear d0 d1 d2 d3 d4 d5 d6 hbl bc bl HC2 HKE;replace HF0:=AA (HF0.out.call HG2.out (fun _ h _=>h));replace HB0:=AA (HB0.out.fr HG2.out (fun e=>e));have bc:=HB0.out.cell;have bl:=HB0.out.lt;have HK:=AA (fun W (hf:Fr Nob W2 W) i (hi:i<ps.length)=>HK0.out W (HF0.out.call hf (fun _ h _=>h)) X cx (HXS1.out.pure (HG2.out.call hf (fun _ h _=>h))) Y cy (HXS2.out.pure hf) i hi);clear HK0 HG1 HXS1 HG2 HXS2;go_wp2_with fail;go_loopw [7,8] (fun ov iv wr=>∃(k:Nat) (A':Option Addr) (c':Nat),k≤ps.length∧iv=.int .i64 k∧ov=.slice A' k c'∧Hid (Fr Nob W2 wr)∧Hid (wr.ownsRow W2.heap.size 4 1 (.slice A' k c') k (rtV (pts ps) ⟨op,nm,cm,va,lo,hi⟩ xs ys k))) (fun _ iv _=>ps.length-(intOf iv).toNat);case atStart=>exact⟨0,none,0,Nat.zero_le _,rfl,rfl,AA (Fr.refl _ _),AA (by rw[rtV_nil];exact World.ownsRow_nil _ _ _ _)⟩
 case round=>
  obtain⟨i,A',c',hi',rfl,rfl,hfr,hown⟩:=hrel;have HBr:=AA (HB0.out.fr hfr.out (fun e=>e));have bcr:=HBr.out.cell;have blr:=HBr.out.lt;by_cases hlt:i<ps.length
  ·have hI2:(i:Int)<ps.length:=by omega
   have hI3:0≤(i:Int):=by omega
   have HKV:=AA (GS (pts ps) ⟨op,nm,cm,va,lo,hi⟩ xs ys i);have HKN:=AA (HK.out wr hfr.out i hlt);generalize rtV (pts ps) ⟨op,nm,cm,va,lo,hi⟩ xs ys i=ov0 at*;generalize knT (pts ps) ⟨op,nm,cm,va,lo,hi⟩ i xs ys=zk at*;have HOW:=AA hown.out
   go_wp2_with (first
    |((go_at_call 128);(with_reducible refine(HKN.out).mono ?_);rintro e w11 ⟨rfl,hf11⟩;have HF11:=AA hf11;have HO1:=AA (Ag HOW.out hf11 (fun _ _ _ _ e=>e));clear hf11)
    |(at_builtin;refine AP rfl _ _ 74 rfl el_b1 (base:=W2.heap.size) (xs:=ov0) (news:=[ivB zk]) rfl ?own rfl ?src ?one ?h63 ?hby ?hbase ?_));case own=>exact Ag HO1.out ((Fr.refl Nob _).alloc _) (fun _ _ _ _ e=>e)
   case src=>exact Sl.new1 (Blk.new_eq (by simp)) 1 1 rfl (by decide)
   case one=>exact iv_oneT _
   case h63=>unfold maxLen;omega
   case hby=>omega
   case hbase=>have h2:=hfr.out.size;have h3:=HF11.out.size;simp;omega
   intro A2 c2 w12 hown2 hgr2 hl2;have HO2:=AA (show w12.ownsRow W2.heap.size 4 1 (.slice A2 (i+1) c2) (i+1) (rtV (pts ps) ⟨op,nm,cm,va,lo,hi⟩ xs ys (i+1)) from by rw[HKV.out];exact hown2);have HF12:=AA (((hfr.out.call HF11.out (fun _ h _=>h)).alloc _).grown hgr2 (fun k hk hlt=>by have:=AX HO1.out k hk;omega));clear hown2 hgr2 hl2;go_wp2_with fail;go_roundw;case rel=>exact⟨i+1,A2,c2,by omega,by go_num,rfl,HF12,HO2⟩
   case measure=>simp[intOf];omega
  ·obtain rfl:i=ps.length:=by omega
   have HOA:=AA (Sl.of_own hown.out);have HFA:=AA (HF0.out.call hfr.out (fun _ h _=>h));have hlt3:¬(ps.length:Int)<ps.length:=by omega
   clear hfr hown;go_wp2_with fail;go_ret;refine ⟨_,_,rfl,?_,HFA.out⟩;rw [←GU];exact HOA.out
end
theorem kids0 {op:Int}(h1:1≤op)(h:0=Aq op):op=1∨op=2∨op=3:=by
 unfold Aq at h;by_cases e:op≤3;·omega
 ·rw[if_neg e] at h;split at h<;>omega
theorem kids1 {op:Int}(h:1=Aq op):op=4∨op=9∨op=10:=by
 unfold Aq at h;by_cases e:op≤3;·rw[if_pos e] at h;omega
 ·rw[if_neg e] at h;split at h<;>omega
theorem kids2 {op:Int}(h12:op≤12)(h:2=Aq op):op=5∨op=6∨op=7∨op=8∨op=11∨op=12:=by
 unfold Aq at h;by_cases e:op≤3;·rw[if_pos e] at h;omega
 ·rw[if_neg e] at h;split at h<;>omega
theorem kids_le (op:Int):Aq op≤2:=by
 unfold Aq;split;·omega
 ·split<;>omega
theorem r13_rows (A:Option Addr)(c:Nat)(ps:List Pn)(hW:Ay (pts ps))(hfew:ps.length≤1000):∀(m:Nat) (w:World) (p:Nat→Prop) (x:Nd) (B:Option Addr) (d:Nat) (ks:Fo),WSl w A c ps→ks.tr.size≤m→AJ p w B d ks→wrongN x ks.tr.len=0→ks.tr.good→
 Calls Tryz.prog 82 #[AF x B ks.len d,.slice A ps.length c] w fun e w'=>BMN w w' e (rowTS (pts ps) (x,ks.tr)) ps.length:=by
 intro m
 induction m using Nat.strongRecOn with
 |_ m ih=>
  intro w p x B d ks h hm hs hc1 hc2;obtain ⟨h1,h12,hkn⟩:=Co hc1;rw [Fo.tr_len] at hkn;have hk2:=kids_le x.op
  cases ks with
  |nil=>
   simp only[Fo.len] at hkn;exact tR0 w A c ps h hfew x B d (kids0 h1 hkn)
  |cons y B2 e js rs=>
   simp only[Fo.tr,Tr.size] at hm;obtain ⟨g1,g2,g3⟩:=(show wrongN y js.tr.len=0∧js.tr.good∧rs.tr.good from hc2);obtain ⟨b,off,rfl,hbl,hn,hk⟩:=hs.kid;have hC:∀W,Fr Nob w W→Calls Tryz.prog 82 #[AF y B2 js.len e,.slice A ps.length c] W fun e w'=>BMN W w' e (rowTS (pts ps) (y,js.tr)) ps.length:=fun W hf=>ih js.tr.size (by omega) W p y B2 e js (h.pure hf) (Nat.le_refl _) (hk.fr hf) g1 g2
   cases rs with
   |nil=>
    simp only[Fo.len] at hkn;exact tR1 w A c ps h hW hfew x b off d hbl y B2 js.len e hn (rowTS (pts ps) (y,js.tr)) (by rw[CK,AC]) hC (kids1 (by simpa using hkn))
   |cons z C f ls rs2=>
    have hr2:rs2=.nil:=by
     cases rs2 with
     |nil=>rfl
     |cons _ _ _ _ _=>simp only[Fo.len] at hkn;exfalso;omega
    subst hr2;simp only[Fo.tr,Tr.size] at hm;simp only[Fo.len] at hkn;obtain ⟨e1,e2,_⟩:=(show wrongN z ls.tr.len=0∧ls.tr.good∧_ from g3);obtain ⟨b2,off2,hA2,_,hn2,hq2⟩:=hs.kid2;obtain ⟨rfl,rfl⟩:b=b2∧off=off2:=by simpa using hA2
    exact tR2 w A c ps h hW hfew x b off d hbl y B2 js.len e hn (rowTS (pts ps) (y,js.tr)) (by rw[CK,AC]) hC z C ls.len f hn2 (rowTS (pts ps) (z,ls.tr)) (by rw[CK,AC])
     (fun W hf=>ih ls.tr.size (by omega) W p z C f ls (h.pure hf) (Nat.le_refl _) (hq2.fr hf) e1 e2) (kids2 h12 (by simpa using hkn))
theorem r13_Row (w:World)(p:Nat→Prop)(x:Nd)(B:Option Addr)(d:Nat)(ks:Fo)(hs:AJ p w B d ks)(hF:∀W,Fr Nob w W→Calls Tryz.prog 69 #[AF x B ks.len d] W fun e w'=>e=.returned (.int .i64 (firstW ((Tr.cons x ks.tr .nil).nodes 1)))∧Fr Nob W w')(A:Option Addr)(c:Nat)(ps:List Pn)(h:WSl w A c ps)(hnw:NmW ps)(h63:∀p∈ps,p.t≤AO)(hfew:ps.length≤1000):
 Calls Tryz.prog 48 #[AF x B ks.len d,.slice A ps.length c] w fun e w'=>BMN w w' e (rowBA x ks.tr (pts ps)) (rowBA x ks.tr (pts ps)).length:=by
 have HFI:=AA hF;have HRT:=AA (fun W (hf:Fr Nob w W)=>GP W A c ps (h.pure hf) hnw hfew);have HRW:=AA (fun (hg:firstW ((Tr.cons x ks.tr .nil).nodes 1)=0) (hr:AU (pts ps)=true) W (hf:Fr Nob w W)=>r13_rows A c ps (rise_ofT hr h63) hfew ks.tr.size W p x B d ks (h.pure hf) (Nat.le_refl _) (hs.fr hf) ((Bi x ks.tr).1 hg).1 ((Bi x ks.tr).1 hg).2);have HRA:=AA (show rowBA x ks.tr (pts ps)=if firstW ((Tr.cons x ks.tr .nil).nodes 1)=0∧AU (pts ps)=true then rowTS (pts ps) (x,ks.tr) else[] from rfl);have HSL:=AA (CK (pts ps) (x,ks.tr));rw [AC] at HSL;generalize rowBA x ks.tr (pts ps)=r at*;have hmax:=h.sl.max;unfold maxLen at hmax;clear hs h hnw h63 hF;generalize firstW ((Tr.cons x ks.tr .nil).nodes 1)=fe at*;generalize rowTS (pts ps) (x,ks.tr)=rt at*;obtain ⟨op,nm,cm,va,lo,hi⟩:=x;unfold AF at*;dsimp only at*;go_enter Tryz.func48,Tryz.ntmps48;go_upto_region 1 with fail;obtain ⟨W0,hW0⟩:∃W0,w.alloc (.cells #[.int .i64 op,.string nm,.int .i64 cm,.int .i64 va,.int .i64 lo,.int .i64 hi,.slice B ks.len d] 39)=W0:=⟨_,rfl⟩;have HB0:=AA (show Blk W0 w.heap.size 39 #[.int .i64 op,.string nm,.int .i64 cm,.int .i64 va,.int .i64 lo,.int .i64 hi,.slice B ks.len d] by rw[←hW0];exact Blk.new _ _ _);have HF0:=AA (show Fr Nob w W0 by rw[←hW0];exact(Fr.refl _ _).alloc _);rw [hW0];clear hW0;have bc:=HB0.out.cell;have bl:=HB0.out.lt;by_cases hg:fe=0
 case neg=>
  have HR:=AA (show r=[] by rw[HRA.out,if_neg (fun e=>hg e.1)]);have hb1:(fe==0)=false:=by simpa using hg
  have hb2:(fe !=0)=true:=by simpa using hg
  clear HRA HRW HSL
  go_wp2_with (first
   |((go_at_call 69);(with_reducible refine(HFI.out _ HF0.out).mono ?_);rintro e w1 ⟨rfl,hf1⟩;have HF1:=AA (HF0.out.call hf1 (fun _ h _=>h));clear hf1)
   |fail);go_ret;rw [HR.out];exact ⟨none,0,rfl,nil_slT _,HF1.out⟩
 subst hg;replace HRW:=AA (HRW.out rfl);cases hr:AU (pts ps)
 ·have HR:=AA (show r=[] by rw[HRA.out,if_neg (fun e=>by rw[hr] at e;cases e.2)]);rw [hr] at HRT;clear HRA HRW HSL hr
  go_wp2_with (first
   |((go_at_call 69);(with_reducible refine(HFI.out _ HF0.out).mono ?_);rintro e w1 ⟨rfl,hf1⟩;have HF1:=AA (HF0.out.call hf1 (fun _ h _=>h));clear hf1)
   |((go_at_call 78);(with_reducible refine(HRT.out _ HF1.out).mono ?_);rintro e w2 ⟨rfl,hf2⟩;have HF2:=AA (HF1.out.call hf2 (fun _ h _=>h));clear hf2)
   |fail);go_ret;rw [HR.out];exact ⟨none,0,rfl,nil_slT _,HF2.out⟩
 rw[hr] at HRT;have HR:=AA (show r=rt by rw[HRA.out,if_pos ⟨rfl,hr⟩]);replace HRW:=AA (HRW.out hr);clear HRA hr
 go_wp2_with (first
  |((go_at_call 69);(with_reducible refine(HFI.out _ HF0.out).mono ?_);rintro e w1 ⟨rfl,hf1⟩;have HF1:=AA (HF0.out.call hf1 (fun _ h _=>h));have HB1:=AA (HB0.out.fr hf1 (fun e=>e));clear hf1)
  |((go_at_call 78);(with_reducible refine(HRT.out _ HF1.out).mono ?_);rintro e w2 ⟨rfl,hf2⟩;have HF2:=AA (HF1.out.call hf2 (fun _ h _=>h));have HB2:=AA (HB1.out.fr hf2 (fun e=>e));have bc2:=HB2.out.cell;have bl2:=HB2.out.lt;clear hf2)
  |((go_at_call 82);(with_reducible refine(HRW.out _ HF2.out).mono ?_);rintro e w4 ⟨A2,c2,rfl,hs2,hf4⟩;have HF4:=AA (HF2.out.call hf4 (fun _ h _=>h));have HS4:=AA hs2;clear hs2 hf4)
  |fail);go_ret;have hs4:=HS4.out;rw [HR.out];exact ⟨A2,c2,by rw[HSL.out];rfl,by rw[HSL.out];exact hs4,HF4.out⟩
end Go.Proofs.YtoegdmpmagbaiaaGreatDoor
