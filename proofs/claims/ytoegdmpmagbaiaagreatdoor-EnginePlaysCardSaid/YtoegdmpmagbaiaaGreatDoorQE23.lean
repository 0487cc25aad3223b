/- The document's truth of one node (ref13.holds), walked: the scan over two rows. -/
import Derived.Test.YtoegdmpmagbaiaaGreatDoorKEK
set_option maxHeartbeats 16000000
set_option maxRecDepth 100000
namespace Go.Proofs.YtoegdmpmagbaiaaGreatDoor
open Go.RowKit Go.Lib
theorem r13_un (w:World)(A:Option Addr)(c:Nat)(ps:List Pn)(h:WSl w A c ps)(hW:Ay (pts ps))(i:Nat)(hi':i<ps.length)(n:Nd)(NA:Option Addr)(nn nc:Nat)
 (X:Option Addr)(cx:Nat)(xs:List Bool)(hx:Sl w 1 X xs.length cx (xs.map ivB))(Y:Option Addr)(cy:Nat)(ys:List Bool)(hy:Sl w 1 Y ys.length cy (ys.map ivB))
 (hop:n.op=11)(hxl:xs.length=ps.length)(hyl:ys.length=ps.length)(hfew:ps.length≤1000):
 Calls Tryz.prog 128 #[AF n NA nn nc,.slice A ps.length c,.int .i64 i,.slice X xs.length cx,.slice Y ys.length cy] w fun e w'=>e=.returned (.bool (knT (pts ps) n i xs ys))∧Fr Nob w w':=by
 obtain⟨r,hr⟩:∃r,r=knT (pts ps) n i xs ys:=⟨_,rfl⟩;rw [←hr];have hI:(i:Int)<ps.length:=by omega
 have hI3:0≤(i:Int):=by omega
 have HL:=AA h;have HX:=AA hx;have HRI:=AA hW;have HXL:=AA hxl;have HY:=AA hy;have HYL:=AA hyl;obtain ⟨op,nm,cm,va,lo,hi⟩:=n;dsimp only at hop;unfold AF at*;dsimp only at*;rw [hxl,hyl];clear hxl hyl;subst hop;have HR9:=AA (show ∀j,i≤j→j< (pts ps).length→hitB (pts ps) ⟨11,nm,cm,va,lo,hi⟩ i xs ys j=true→r=decide ((11:Int)=9∨(11:Int)=11) from fun j h1 h2 h3=>by rw[hr];exact F8 h1 h2 h3 (show (9:Int)≤11 by decide) (show (11:Int)≤12 by decide));have HRE:=AA (show CB (pts ps) ⟨11,nm,cm,va,lo,hi⟩ i xs ys (pts ps).length→r=decide ((11:Int)=10∨(11:Int)=12) from fun h1=>by rw[hr];exact h1.end_ (show (9:Int)≤11 by decide) (show (11:Int)≤12 by decide));rw [AC] at HR9 HRE;have HHIT:=AA (show ∀j,hitB (pts ps) ⟨11,nm,cm,va,lo,hi⟩ i xs ys j=(inR (pts ps) lo hi i j&&bAt ys j&&shB xs i j) from fun j=>by simp[hitB]);have HNZ:=AA (CB.zero (pts ps) ⟨11,nm,cm,va,lo,hi⟩ i xs ys);clear hr h hx hy hW;go_enter Tryz.func128,Tryz.ntmps128;go_upto_region 1 with fail;obtain ⟨W0,hW0⟩:∃W0,w.alloc (.cells #[.int .i64 11,.string nm,.int .i64 cm,.int .i64 va,.int .i64 lo,.int .i64 hi,.slice NA nn nc] 39)=W0:=⟨_,rfl⟩;have HB0:=AA (show Blk W0 w.heap.size 39 #[.int .i64 11,.string nm,.int .i64 cm,.int .i64 va,.int .i64 lo,.int .i64 hi,.slice NA nn nc] by rw[←hW0];exact Blk.new _ _ _);have HF0:=AA (show Fr Nob w W0 by rw[←hW0];exact(Fr.refl _ _).alloc _);rw [hW0];clear hW0;have bc:=HB0.out.cell;have bl:=HB0.out.lt;go_wp2_with fail;clear bc bl;go_loopw [11,12,13] (fun av sv jv wr=>∃j:Nat,i≤j∧j≤ps.length∧jv=.int .i64 j∧av=.bool (ahB xs i j)∧sv=.bool (shB xs i j)∧Hid (CB (pts ps) ⟨11,nm,cm,va,lo,hi⟩ i xs ys j)∧Hid (Fr Nob W0 wr)) (fun _ _ jv _=>ps.length-(intOf jv).toNat);case atStart=>exact⟨i,Nat.le_refl _,Nat.le_of_lt hi',rfl,by rw[FF],by rw[Ej],HNZ,AA (Fr.refl _ _)⟩
 case round=>
  obtain⟨j,hij,hj,rfl,rfl,rfl,HNH,hfr⟩:=hrel;have HBr:=AA (HB0.out.fr hfr.out (fun e=>e));have HFw:=AA (HF0.out.call hfr.out (fun _ h _=>h));have bc:=HBr.out.cell;have bl:=HBr.out.lt;by_cases hlt:j<ps.length
  ·have hJ:(j:Int)<ps.length:=by omega
   have hJ3:0≤(j:Int):=by omega
   have HIN:=AA (fun W (hf:Fr Nob wr W)=>(show Calls Tryz.prog 156 #[.agg #[.int .i64 11,.string nm,.int .i64 cm,.int .i64 va,.int .i64 lo,.int .i64 hi,.slice NA nn nc],.slice A ps.length c,.int .i64 i,.int .i64 j] W fun e w'=>e=.returned (.bool (inR (pts ps) lo hi i j))∧Fr Nob W w' from rf_In W ⟨11,nm,cm,va,lo,hi⟩ NA nn nc A c ps ((HL.out.pure HFw.out).pure hf) HRI.out i j hij hlt));obtain ⟨bx,ofx,hXe,hbx,x0⟩:=Ak (HX.out.pure HFw.out) (k:=j) (by rw[HXL.out];exact hlt);subst hXe;obtain⟨b_y,ofy,hYe,hby,y0⟩:=Ak (HY.out.pure HFw.out) (k:=j) (by rw[HYL.out];exact hlt);subst hYe;have HHJ:=AA (HHIT.out j);have HRJ:=AA (HR9.out j hij hlt);have HNS:=AA (fun hf=>HNH.out.succ hij hf);have HA1:=AA (FH xs hij);have HS1:=AA (El xs hij);clear HR9 HRE HHIT HNZ;generalize inR (pts ps) lo hi i j=ri at*;generalize bAt xs j=xa at*;generalize bAt ys j=ya at*;generalize ahB xs i j=ah at*;generalize shB xs i j=sh at*;generalize hitB (pts ps) ⟨11,nm,cm,va,lo,hi⟩ i xs ys j=hb at*;cases ri<;>cases xa<;>cases ya<;>cases ah<;>cases sh
   all_goals
    have hhb:=HHJ.out;simp at hhb;subst hhb;have ha1:=HA1.out;have hs1:=HS1.out;simp at ha1 hs1;replace HA1:=AA ha1;replace HS1:=AA hs1;clear ha1 hs1 HHJ
    go_wp2_with (first
     |((go_at_call 156);(with_reducible refine(HIN.out _ (Fr.refl _ _)).mono ?_);rintro e w1 ⟨rfl,hf1⟩;have HF1:=AA (hfr.out.call hf1 (fun _ h _=>h));have bc1:=(HBr.out.fr hf1 (fun e=>e)).cell;have bl1:=(HBr.out.fr hf1 (fun e=>e)).lt;have x1:=hf1.cell x0 (fun e=>e);have hbx1:=Nat.lt_of_lt_of_le hbx hf1.size;have y1:=hf1.cell y0 (fun e=>e);have hby1:=Nat.lt_of_lt_of_le hby hf1.size;clear hf1)
     |fail)
    first
     |(go_roundw;case rel=>exact⟨j+1,by omega,by omega,by go_num,by rw[HA1.out],by rw[HS1.out],AA (HNS.out (by simp)),HF1⟩
       case measure=>simp[intOf];omega)
     |(go_ret;rw [HRJ.out (by simp)];refine ⟨by simp,HF0.out.call HF1.out (fun _ h _=>h)⟩)
  ·have hje:j=ps.length:=by omega
   subst hje;have HR:=AA (HRE.out HNH.out);have hlt3:¬(ps.length:Int)<ps.length:=by omega
   clear HR9 HRE;go_wp2_with fail;go_ret;rw [HR.out];exact ⟨by simp,HFw.out⟩
end Go.Proofs.YtoegdmpmagbaiaaGreatDoor
