/- Words: points, in plain words and in memory; what may be put; whether points make a word. -/
import Derived.Test.YtoegdmpmagbaiaaGreatDoorKO
import Derived.Lib.QuietBelow
set_option maxHeartbeats 4000000
set_option maxRecDepth 100000
namespace Go.Proofs.YtoegdmpmagbaiaaGreatDoor
open Go.RowKit Go.Sort
structure Pn where
 t:Int
 A:Option Addr
 c:Nat
 l:List PP
instance:Inhabited Pn:=⟨⟨0,none,0,[]⟩⟩
def pnc (p:Pn):List Value:=[.int .i64 p.t,.slice p.A p.l.length p.c]
theorem C8 (p:Pn):(pnc p).length=2:=rfl
theorem C7 (p:Pn):∀u∈pnc p,u.oneCell'=true:=by intro u hu;simp[pnc] at hu;rcases hu with rfl|rfl<;>rfl
abbrev Pt:=Int×List PP
def Pn.pt (p:Pn):Pt:=(p.t,p.l)
def pts (ps:List Pn):List Pt:=ps.map Pn.pt
theorem AC (ps:List Pn):(pts ps).length=ps.length:=by simp[pts]
structure WSl (w:World) (A:Option Addr) (c:Nat) (ps:List Pn):Prop where
 sl:Sl w 2 A ps.length c (ps.flatMap pnc)
 inn:∀p∈ps,Sl w 2 p.A p.l.length p.c (p.l.flatMap pcs)
section
variable {w w':World} {A:Option Addr} {c:Nat} {ps:List Pn}
theorem WSl.pure (h:WSl w A c ps)(hf:Fr Nob w w'):WSl w' A c ps:=⟨h.sl.pure hf,fun p hp=>(h.inn p hp).pure hf⟩
theorem WSl.at_ (h:WSl w A c ps){k:Nat}(hk:k<ps.length):∃b off,A=some ⟨b,off,none⟩∧b<w.heap.size∧w.cell? ⟨b,off+k*2,none⟩=some (.int .i64 ps[k].t)∧w.cell? ⟨b,off+k*2+1,none⟩=some (.slice ps[k].A ps[k].l.length ps[k].c):=by
 obtain⟨b,off,hA,hb,hc⟩:=Sl.row (size:=2) C8 h.sl hk;exact ⟨b,off,hA,hb,by simpa using hc 0 _ rfl,by simpa[Nat.add_assoc] using hc 1 _ rfl⟩
end
def NmW (ps:List Pn):Prop:=∀p∈ps,∀x∈p.l,x.name.size≤9223372036854775807
def Df (ps:List Pt)(i:Nat)(p:Pt):Bool:=!(decide (p.1<0))&&(i==0||!(decide (p.1≤(ps.getD (i-1) p).1)))&&Am p.2
def AU (ps:List Pt):Bool:=(List.range ps.length).all fun i=>Df ps i (ps.getD i (0,[]))
theorem Eh {ps:List Pt}{k:Nat}(hk:k<ps.length)(h:Df ps k ps[k]=false):AU ps=false:=by
 unfold AU;rw [List.all_eq_false];exact ⟨k,by simpa using hk,by rw[List.getD_eq_getElem?_getD,List.getElem?_eq_getElem hk];simpa using h⟩
theorem C5 {ps:List Pt}(h:∀k,(hk:k<ps.length)→Df ps k ps[k]=true):AU ps=true:=by
 unfold AU;rw [List.all_eq_true];intro i hi;have hi':i<ps.length:=by simpa using hi
 rw[List.getD_eq_getElem?_getD,List.getElem?_eq_getElem hi'];exact h i hi'
theorem DI {ps:List Pt}(h:AU ps=true){k:Nat}(hk:k<ps.length):Df ps k ps[k]=true:=by
 unfold AU at h;rw [List.all_eq_true] at h;have:=h k (by simpa using hk);rwa [List.getD_eq_getElem?_getD,List.getElem?_eq_getElem hk] at this
theorem DR {ps:List Pt}{p:Pt}:Df ps 0 p=(!(decide (p.1<0))&&Am p.2):=by unfold Df;simp
theorem Cn {ps:List Pt}{k:Nat}(hk:k<ps.length){p:Pt}:Df ps (k+1) p=(!(decide (p.1<0))&&!(decide (p.1≤ps[k].1))&&Am p.2):=by
 unfold Df;rw [Nat.add_sub_cancel,List.getD_eq_getElem?_getD,List.getElem?_eq_getElem hk];simp
theorem wd_may (w:World)(t:Int)(A:Option Addr)(c:Nat)(l:List PP)(hl:Sl w 2 A l.length c (l.flatMap pcs))(hsz:∀p∈l,p.name.size≤9223372036854775807)(h63:l.length≤10000):
 Calls Tryz.prog 50 #[.int .i64 t,.slice A l.length c] w fun e w'=>e=.returned (.bool (decide (0≤t)&&Am (lof l)))∧Fr Nob w w':=by
 have HO:=AA (lab_Of w A c l hl h63);have HR:=AA (fun W A' c' (hs:Sl W 2 A' (lof l).length c' ((lof l).flatMap pcs))=>FX W A' c' (lof l) hs (fun p hp=>hsz p ((BZ l p).1 hp)));clear hl hsz;by_cases h0:0≤t
 ·have h0b:decide (0≤t)=true:=by simpa using h0
  rw[h0b];go_enter Tryz.func50,Tryz.ntmps50
  go_wp2_with (first
   |((go_at_call 30);(with_reducible refine(HO.out).mono ?_);rintro e w1 ⟨A',c',rfl,hs1,hf1,_⟩;have HS1:=AA hs1;have HF1:=AA hf1;clear hs1 hf1)
   |((go_at_call 29);(with_reducible refine(HR.out _ _ _ HS1.out).mono ?_);rintro e w2 ⟨rfl,hf2⟩));go_ret;exact ⟨rfl,HF1.out.call hf2 (fun _ h _=>h)⟩
 ·have h0b:decide (0≤t)=false:=by simpa using h0
  rw[h0b];go_enter Tryz.func50,Tryz.ntmps50;go_wp2_with fail;go_ret;exact ⟨rfl,Fr.refl _ _⟩
theorem Cc {f:FuncId}{args:Array Value}{W:World}{v:Value}(h:∀X,Fr Nob W X→Calls Tryz.prog f args X fun e w'=>e=.returned v∧Fr Nob X w')(d:Nat)(os:Array Obj):
 Calls Tryz.prog f args (grow (redrawn W d) os) fun e w''=>e=.returned v∧∃p:Regrown,w''=grow (redrawn W p.d) p.os:=
 Calls.regrown_of ((h _ (Fr.of_below (below_regrown W d os))).mono fun _ _ ⟨h1,h2⟩=>⟨h1,h2.below⟩)
theorem Bt {w W:World}(h:Fr Nob w W)(d:Nat)(os:Array Obj):Fr Nob w (grow (redrawn W d) os):=h.call (Fr.of_below (S:=Nob) (below_regrown W d os)) (fun _ h _=>h)
theorem Eg (w:World)(A:Option Addr)(c:Nat)(ps:List Pn)(h:WSl w A c ps)(hnm:NmW ps)(hfew:ps.length≤1000):
 Calls Tryz.prog 49 #[.slice A ps.length c] w fun e w'=>e=.returned (.bool (AU (pts ps)))∧Fr Nob w w':=by
 have HL:=AA h;have HNM:=AA hnm;clear h hnm;go_enter Tryz.func49,Tryz.ntmps49;go_wp2_with fail;go_loopw [7] (fun i wr=>∃k:Nat,k≤ps.length∧i=.int .i64 k∧Hid (∀j,(hj:j< (pts ps).length)→j<k→Df (pts ps) j (pts ps)[j]=true)∧Hid (Fr Nob w wr)) (fun i _=>ps.length-(intOf i).toNat);case atStart=>exact⟨0,Nat.zero_le _,rfl,AA (fun j _ hj=>absurd hj (by omega)),AA (Fr.refl _ _)⟩
 case round=>
  obtain⟨k,hk,rfl,hall,hfr⟩:=hrel;by_cases hlt:k<ps.length
  ·have hI:(k:Int)<ps.length:=by omega
   have hI3:0≤(k:Int):=by omega
   have hlp:k< (pts ps).length:=by rw[AC];exact hlt
   have HW:=AA (HL.out.pure hfr.out);obtain ⟨b,off,hA,hb,d0,d1⟩:=HW.out.at_ hlt;have HR:=AA (fun X (hf:Fr Nob wr X)=>FX X ps[k].A ps[k].c ps[k].l ((HW.out.inn _ (List.getElem_mem hlt)).pure hf) (HNM.out _ (List.getElem_mem hlt)));have HN:=AA (fun h=>Eh hlp h)
   have HY:=AA (fun (h:Df (pts ps) k (pts ps)[k]=true)=>show∀j,(hj:j< (pts ps).length)→j<k+1→Df (pts ps) j (pts ps)[j]=true from fun j hj hjk=>by
    rcases Nat.lt_succ_iff_lt_or_eq.1 hjk with h'|h';·exact hall.out j hj h'
    ·subst h';exact h);have HP:=AA (show (pts ps)[k]=ps[k].pt by simp[pts]);rw [HP.out] at HN HY;generalize ps[k]=p at*;obtain ⟨t,pA,pc,l⟩:=p;simp only[Pn.pt] at HN HY;dsimp only at d0 d1 HR;by_cases hk0:k=0
   ·subst hk0;rw [DR] at HN HY;simp only[Nat.zero_mul,Nat.add_zero] at d0 d1;subst hA;by_cases ht:t<0
    ·have htb:decide (t<0)=true:=by simpa using ht
     replace HN:=AA (HN.out (by simp[ht]));clear HY;go_wp2_with fail;go_quiet (fail);go_wp2_with fail;go_ret;rw [HN.out];exact ⟨rfl,(hfr.out.alloc _).drewN _⟩
    ·have htb:decide (t<0)=false:=by simpa using ht
     have htI:0≤t:=by omega
     cases hr:Am l
     ·replace HN:=AA (HN.out (by simp[hr]));rw [hr] at HR;clear HY hr;go_wp2_with fail;obtain ⟨W1,hW1⟩:∃W1,wr.alloc (.cells #[.int .i64 t,.slice pA l.length pc] 78)=W1:=⟨_,rfl⟩;have hf1:Fr Nob wr W1:=by rw[←hW1];exact(Fr.refl _ _).alloc _
      have hb1:Blk W1 wr.heap.size 78 #[.int .i64 t,.slice pA l.length pc]:=by rw[←hW1];exact Blk.new _ _ _
      have k0:=cell_regrown (hb1.cell 0);have k1:=cell_regrown (hb1.cell 1);try (have k2:=cell_regrown (hf1.cell e0 (fun e=>e)))
      rw[hW1];have HF:=AA (hfr.out.call hf1 (fun _ h _=>h));have C1:=AA (Cc fun X hf=>HR.out X (hf1.call hf (fun _ h _=>h)));have hbl:=Nat.lt_of_lt_of_le hb hf1.size;clear hW1 hf1 hb1;refine wp_region_quiet_below (by kernel_rfl) (by kernel_rfl) ?_;repeat (go_big_quiet_step (first|exact C1.out _ _))
      refine wpQuiet_nil ?_;intro _ hw';obtain ⟨⟨dq,osq⟩,hw''⟩:=hw';subst hw'';go_wp2_with fail;go_ret;rw [HN.out];exact ⟨rfl,Bt HF.out _ _⟩
     ·replace HY:=AA (HY.out (by simp[ht,hr]));rw [hr] at HR;clear HN hr;go_wp2_with fail;obtain ⟨W1,hW1⟩:∃W1,wr.alloc (.cells #[.int .i64 t,.slice pA l.length pc] 78)=W1:=⟨_,rfl⟩;have hf1:Fr Nob wr W1:=by rw[←hW1];exact(Fr.refl _ _).alloc _
      have hb1:Blk W1 wr.heap.size 78 #[.int .i64 t,.slice pA l.length pc]:=by rw[←hW1];exact Blk.new _ _ _
      have k0:=cell_regrown (hb1.cell 0);have k1:=cell_regrown (hb1.cell 1);try (have k2:=cell_regrown (hf1.cell e0 (fun e=>e)))
      rw[hW1];have HF:=AA (hfr.out.call hf1 (fun _ h _=>h));have C1:=AA (Cc fun X hf=>HR.out X (hf1.call hf (fun _ h _=>h)));have hbl:=Nat.lt_of_lt_of_le hb hf1.size;clear hW1 hf1 hb1;refine wp_region_quiet_below (by kernel_rfl) (by kernel_rfl) ?_;repeat (go_big_quiet_step (first|exact C1.out _ _))
      refine wpQuiet_nil ?_;intro _ hw';obtain ⟨⟨dq,osq⟩,hw''⟩:=hw';subst hw'';go_wp2_with fail;go_roundw;case rel=>exact⟨_,by omega,by go_num,HY,AA (Bt HF.out _ _)⟩
      case measure=>simp[intOf];omega
   ·obtain⟨j,hkj⟩:∃j,k=j+1:=⟨k-1,by omega⟩;have hj:j<ps.length:=by omega
    have hjp:j< (pts ps).length:=by rw[AC];exact hj
    obtain⟨b2,off2,hA2,_,e0,_⟩:=HW.out.at_ hj;rw [hA] at hA2;obtain ⟨rfl,rfl⟩:b=b2∧off=off2:=by simpa using hA2
    have HOK:=AA (show ∀q:Pt,Df (pts ps) k q=(!(decide (q.1<0))&&!(decide (q.1≤ps[j].t))&&Am q.2) from fun q=>by
     rw[hkj,Cn hjp,show(pts ps)[j]=ps[j].pt by simp[pts]];rfl);rw [HOK.out] at HN HY;have hpos:decide (0<k)=true:=by simp;omega
    have e2:((k:Int)-1).toNat=j:=by omega
    have e3:(k:Int)-1<ps.length:=by omega
    have e4:0≤(k:Int)-1:=by omega
    clear HOK hkj hk0;generalize ps[j].t=t0 at*;dsimp only at HN HY;by_cases hle:t≤t0
    ·have hleb:decide (t≤t0)=true:=by simpa using hle
     replace HN:=AA (HN.out (by simp[hle]));clear HY HR;subst hA;by_cases ht:t<0
     ·have htb:decide (t<0)=true:=by simpa using ht
      go_wp2_with fail;go_quiet (fail);go_wp2_with fail;go_ret;rw [HN.out];exact ⟨rfl,(hfr.out.alloc _).drewN _⟩
     ·have htb:decide (t<0)=false:=by simpa using ht
      go_wp2_with fail;go_quiet (fail);go_wp2_with fail;go_ret;rw [HN.out];exact ⟨rfl,(hfr.out.alloc _).drewN _⟩
    ·have hleb:decide (t≤t0)=false:=by simpa using hle
     simp only[hleb] at HN HY;subst hA;by_cases ht:t<0
     ·have htb:decide (t<0)=true:=by simpa using ht
      replace HN:=AA (HN.out (by simp[ht]));clear HY;go_wp2_with fail;go_quiet (fail);go_wp2_with fail;go_ret;rw [HN.out];exact ⟨rfl,(hfr.out.alloc _).drewN _⟩
     ·have htb:decide (t<0)=false:=by simpa using ht
      have htI:0≤t:=by omega
      cases hr:Am l
      ·replace HN:=AA (HN.out (by simp[hr]));rw [hr] at HR;clear HY hr;go_wp2_with fail;obtain ⟨W1,hW1⟩:∃W1,wr.alloc (.cells #[.int .i64 t,.slice pA l.length pc] 78)=W1:=⟨_,rfl⟩;have hf1:Fr Nob wr W1:=by rw[←hW1];exact(Fr.refl _ _).alloc _
       have hb1:Blk W1 wr.heap.size 78 #[.int .i64 t,.slice pA l.length pc]:=by rw[←hW1];exact Blk.new _ _ _
       have k0:=cell_regrown (hb1.cell 0);have k1:=cell_regrown (hb1.cell 1);try (have k2:=cell_regrown (hf1.cell e0 (fun e=>e)))
       rw[hW1];have HF:=AA (hfr.out.call hf1 (fun _ h _=>h));have C1:=AA (Cc fun X hf=>HR.out X (hf1.call hf (fun _ h _=>h)));have hbl:=Nat.lt_of_lt_of_le hb hf1.size;clear hW1 hf1 hb1;refine wp_region_quiet_below (by kernel_rfl) (by kernel_rfl) ?_;repeat (go_big_quiet_step (first|exact C1.out _ _))
       refine wpQuiet_nil ?_;intro _ hw';obtain ⟨⟨dq,osq⟩,hw''⟩:=hw';subst hw'';go_wp2_with fail;go_ret;rw [HN.out];exact ⟨rfl,Bt HF.out _ _⟩
      ·replace HY:=AA (HY.out (by simp[ht,hr]));rw [hr] at HR;clear HN hr;go_wp2_with fail;obtain ⟨W1,hW1⟩:∃W1,wr.alloc (.cells #[.int .i64 t,.slice pA l.length pc] 78)=W1:=⟨_,rfl⟩;have hf1:Fr Nob wr W1:=by rw[←hW1];exact(Fr.refl _ _).alloc _
       have hb1:Blk W1 wr.heap.size 78 #[.int .i64 t,.slice pA l.length pc]:=by rw[←hW1];exact Blk.new _ _ _
       have k0:=cell_regrown (hb1.cell 0);have k1:=cell_regrown (hb1.cell 1);try (have k2:=cell_regrown (hf1.cell e0 (fun e=>e)))
       rw[hW1];have HF:=AA (hfr.out.call hf1 (fun _ h _=>h));have C1:=AA (Cc fun X hf=>HR.out X (hf1.call hf (fun _ h _=>h)));have hbl:=Nat.lt_of_lt_of_le hb hf1.size;clear hW1 hf1 hb1;refine wp_region_quiet_below (by kernel_rfl) (by kernel_rfl) ?_;repeat (go_big_quiet_step (first|exact C1.out _ _))
       refine wpQuiet_nil ?_;intro _ hw';obtain ⟨⟨dq,osq⟩,hw''⟩:=hw';subst hw'';go_wp2_with fail;go_roundw;case rel=>exact⟨_,by omega,by go_num,HY,AA (Bt HF.out _ _)⟩
       case measure=>simp[intOf];omega
  ·have HT:=AA (C5 (ps:=pts ps) fun j hj=>hall.out j hj (by rw[AC] at hj;omega));go_wp2_with fail;go_ret;rw [HT.out];exact ⟨rfl,hfr.out⟩
theorem GP (w:World)(A:Option Addr)(c:Nat)(ps:List Pn)(h:WSl w A c ps)(hnm:NmW ps)(hfew:ps.length≤1000):
 Calls Tryz.prog 78 #[.slice A ps.length c] w fun e w'=>e=.returned (.bool (AU (pts ps)))∧Fr Nob w w':=by
 have HL:=AA h;have HNM:=AA hnm;clear h hnm;go_enter Tryz.func78,Tryz.ntmps78;go_wp2_with fail;go_loopw [3] (fun i wr=>∃k:Nat,k≤ps.length∧i=.int .i64 k∧Hid (∀j,(hj:j< (pts ps).length)→j<k→Df (pts ps) j (pts ps)[j]=true)∧Hid (Fr Nob w wr)) (fun i _=>ps.length-(intOf i).toNat);case atStart=>exact⟨0,Nat.zero_le _,rfl,AA (fun j _ hj=>absurd hj (by omega)),AA (Fr.refl _ _)⟩
 case round=>
  obtain⟨k,hk,rfl,hall,hfr⟩:=hrel;by_cases hlt:k<ps.length
  ·have hI:(k:Int)<ps.length:=by omega
   have hI3:0≤(k:Int):=by omega
   have hlp:k< (pts ps).length:=by rw[AC];exact hlt
   have HW:=AA (HL.out.pure hfr.out);obtain ⟨b,off,hA,hb,d0,d1⟩:=HW.out.at_ hlt;have HR:=AA (fun X (hf:Fr Nob wr X)=>Ec X ps[k].A ps[k].c ps[k].l ((HW.out.inn _ (List.getElem_mem hlt)).pure hf) (HNM.out _ (List.getElem_mem hlt)));have HN:=AA (fun h=>Eh hlp h)
   have HY:=AA (fun (h:Df (pts ps) k (pts ps)[k]=true)=>show∀j,(hj:j< (pts ps).length)→j<k+1→Df (pts ps) j (pts ps)[j]=true from fun j hj hjk=>by
    rcases Nat.lt_succ_iff_lt_or_eq.1 hjk with h'|h';·exact hall.out j hj h'
    ·subst h';exact h);have HP:=AA (show (pts ps)[k]=ps[k].pt by simp[pts]);rw [HP.out] at HN HY;generalize ps[k]=p at*;obtain ⟨t,pA,pc,l⟩:=p;simp only[Pn.pt] at HN HY;dsimp only at d0 d1 HR;by_cases hk0:k=0
   ·subst hk0;rw [DR] at HN HY;simp only[Nat.zero_mul,Nat.add_zero] at d0 d1;subst hA;by_cases ht:t<0
    ·have htb:decide (t<0)=true:=by simpa using ht
     replace HN:=AA (HN.out (by simp[ht]));clear HY;go_wp2_with fail;go_quiet (fail);go_wp2_with fail;go_ret;rw [HN.out];exact ⟨rfl,hfr.out.drewN _⟩
    ·have htb:decide (t<0)=false:=by simpa using ht
     have htI:0≤t:=by omega
     cases hr:Am l
     ·replace HN:=AA (HN.out (by simp[hr]));rw [hr] at HR;clear HY hr;go_wp2_with fail;have k0:=cell_regrown d0;have k1:=cell_regrown d1;try (have k2:=cell_regrown e0)
      have C1:=AA (Cc fun X hf=>HR.out X hf);refine wp_region_quiet_below (by kernel_rfl) (by kernel_rfl) ?_;repeat (go_big_quiet_step (first|exact C1.out _ _))
      refine wpQuiet_nil ?_;intro _ hw';obtain ⟨⟨dq,osq⟩,hw''⟩:=hw';subst hw'';go_wp2_with fail;go_ret;rw [HN.out];exact ⟨rfl,Bt hfr.out _ _⟩
     ·replace HY:=AA (HY.out (by simp[ht,hr]));rw [hr] at HR;clear HN hr;go_wp2_with fail;have k0:=cell_regrown d0;have k1:=cell_regrown d1;try (have k2:=cell_regrown e0)
      have C1:=AA (Cc fun X hf=>HR.out X hf);refine wp_region_quiet_below (by kernel_rfl) (by kernel_rfl) ?_;repeat (go_big_quiet_step (first|exact C1.out _ _))
      refine wpQuiet_nil ?_;intro _ hw';obtain ⟨⟨dq,osq⟩,hw''⟩:=hw';subst hw'';go_wp2_with fail;go_roundw;case rel=>exact⟨_,by omega,by go_num,HY,AA (Bt hfr.out _ _)⟩
      case measure=>simp[intOf];omega
   ·obtain⟨j,hkj⟩:∃j,k=j+1:=⟨k-1,by omega⟩;have hj:j<ps.length:=by omega
    have hjp:j< (pts ps).length:=by rw[AC];exact hj
    obtain⟨b2,off2,hA2,_,e0,_⟩:=HW.out.at_ hj;rw [hA] at hA2;obtain ⟨rfl,rfl⟩:b=b2∧off=off2:=by simpa using hA2
    have HOK:=AA (show ∀q:Pt,Df (pts ps) k q=(!(decide (q.1<0))&&!(decide (q.1≤ps[j].t))&&Am q.2) from fun q=>by
     rw[hkj,Cn hjp,show(pts ps)[j]=ps[j].pt by simp[pts]];rfl);rw [HOK.out] at HN HY;have hpos:decide (0<k)=true:=by simp;omega
    have e2:((k:Int)-1).toNat=j:=by omega
    have e3:(k:Int)-1<ps.length:=by omega
    have e4:0≤(k:Int)-1:=by omega
    clear HOK hkj hk0;generalize ps[j].t=t0 at*;dsimp only at HN HY;by_cases hle:t≤t0
    ·have hleb:decide (t≤t0)=true:=by simpa using hle
     replace HN:=AA (HN.out (by simp[hle]));clear HY HR;subst hA;by_cases ht:t<0
     ·have htb:decide (t<0)=true:=by simpa using ht
      go_wp2_with fail;go_quiet (fail);go_wp2_with fail;go_ret;rw [HN.out];exact ⟨rfl,hfr.out.drewN _⟩
     ·have htb:decide (t<0)=false:=by simpa using ht
      go_wp2_with fail;go_quiet (fail);go_wp2_with fail;go_ret;rw [HN.out];exact ⟨rfl,hfr.out.drewN _⟩
    ·have hleb:decide (t≤t0)=false:=by simpa using hle
     simp only[hleb] at HN HY;subst hA;by_cases ht:t<0
     ·have htb:decide (t<0)=true:=by simpa using ht
      replace HN:=AA (HN.out (by simp[ht]));clear HY;go_wp2_with fail;go_quiet (fail);go_wp2_with fail;go_ret;rw [HN.out];exact ⟨rfl,hfr.out.drewN _⟩
     ·have htb:decide (t<0)=false:=by simpa using ht
      have htI:0≤t:=by omega
      cases hr:Am l
      ·replace HN:=AA (HN.out (by simp[hr]));rw [hr] at HR;clear HY hr;go_wp2_with fail;have k0:=cell_regrown d0;have k1:=cell_regrown d1;try (have k2:=cell_regrown e0)
       have C1:=AA (Cc fun X hf=>HR.out X hf);refine wp_region_quiet_below (by kernel_rfl) (by kernel_rfl) ?_;repeat (go_big_quiet_step (first|exact C1.out _ _))
       refine wpQuiet_nil ?_;intro _ hw';obtain ⟨⟨dq,osq⟩,hw''⟩:=hw';subst hw'';go_wp2_with fail;go_ret;rw [HN.out];exact ⟨rfl,Bt hfr.out _ _⟩
      ·replace HY:=AA (HY.out (by simp[ht,hr]));rw [hr] at HR;clear HN hr;go_wp2_with fail;have k0:=cell_regrown d0;have k1:=cell_regrown d1;try (have k2:=cell_regrown e0)
       have C1:=AA (Cc fun X hf=>HR.out X hf);refine wp_region_quiet_below (by kernel_rfl) (by kernel_rfl) ?_;repeat (go_big_quiet_step (first|exact C1.out _ _))
       refine wpQuiet_nil ?_;intro _ hw';obtain ⟨⟨dq,osq⟩,hw''⟩:=hw';subst hw'';go_wp2_with fail;go_roundw;case rel=>exact⟨_,by omega,by go_num,HY,AA (Bt hfr.out _ _)⟩
       case measure=>simp[intOf];omega
  ·have HT:=AA (C5 (ps:=pts ps) fun j hj=>hall.out j hj (by rw[AC] at hj;omega));go_wp2_with fail;go_ret;rw [HT.out];exact ⟨rfl,hfr.out⟩
end Go.Proofs.YtoegdmpmagbaiaaGreatDoor
