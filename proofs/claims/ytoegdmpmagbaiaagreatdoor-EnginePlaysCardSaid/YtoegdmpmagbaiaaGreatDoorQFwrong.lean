/- What is wrong with a node: the program's walk, and the reference's. -/
import Derived.Test.YtoegdmpmagbaiaaGreatDoorKA
import Derived.Test.YtoegdmpmagbaiaaGreatDoorQLname
set_option maxHeartbeats 8000000
set_option maxRecDepth 100000
namespace Go.Proofs.YtoegdmpmagbaiaaGreatDoor
open Go.RowKit
def Cd (lo hi:Int):Bool:=decide (0≤lo)&&decide (lo≤hi)
def wrongN (x:Nd)(n:Nat):Int:=
 if x.op<1∨12<x.op∨n≠Aq x.op then 1
 else if x.op≠3∧(x.name.toList≠[]∨x.cmp≠0∨x.val≠0) then 1
 else if x.op<9∧(x.lo≠0∨x.hi≠0) then 1
 else if x.cmp<0∨6<x.cmp∨(x.cmp=0∧x.val≠0) then 1
 else if x.op=3∧nmOk x.name=false then 21
 else if 9≤x.op∧Cd x.lo x.hi=false then 24 else 0
def CE:List (Int×Int×Int×Int):=[(0,0,0,0),(0,7,0,0),(0,7,0,0),(0,7,0,0),(1,6,6,0),(2,4,4,5),(2,3,3,4),(2,2,3,2),(2,1,1,2),(1,6,6,0),(1,6,6,0),(2,5,6,5),(2,5,6,5)]
def BR (w:World):Prop:=∀k (h:k<CE.length),w.cell? ⟨3,k*4,none⟩=some (.int .i64 CE[k].1)∧w.cell? ⟨3,k*4+1,none⟩=some (.int .i64 CE[k].2.1)∧
 w.cell? ⟨3,k*4+2,none⟩=some (.int .i64 CE[k].2.2.1)∧w.cell? ⟨3,k*4+3,none⟩=some (.int .i64 CE[k].2.2.2)
theorem BR.fr {w w':World}(h:BR w)(hf:Fr Nob w w'):BR w':=fun k hk=>
 ⟨hf.cell (h k hk).1 (fun e=>e),hf.cell (h k hk).2.1 (fun e=>e),hf.cell (h k hk).2.2.1 (fun e=>e),hf.cell (h k hk).2.2.2 (fun e=>e)⟩
theorem shape_kids:∀k (h:k<CE.length),CE[k].1=Aq k:=by
 intro k h;simp only[CE,List.length_cons,List.length_nil] at h;have:k=0∨k=1∨k=2∨k=3∨k=4∨k=5∨k=6∨k=7∨k=8∨k=9∨k=10∨k=11∨k=12:=by omega
 rcases this with rfl|rfl|rfl|rfl|rfl|rfl|rfl|rfl|rfl|rfl|rfl|rfl|rfl<;>rfl
theorem sat_Right (w:World)(lo hi:Int):Calls Tryz.prog 130 #[.agg #[.int .i64 lo,.int .i64 hi]] w fun e w'=>e=.returned (.bool (Cd lo hi))∧Fr Nob w w':=by
 by_cases h1:0≤lo
 ·by_cases h2:lo≤hi
  ·have HR:=AA (show Cd lo hi=true by simp[Cd,h1,h2]);go_enter Tryz.func130,Tryz.ntmps130;go_wp2_with fail;go_ret;rw [HR.out];exact ⟨rfl,(Fr.refl _ _).alloc _⟩
  ·have HR:=AA (show Cd lo hi=false by simp[Cd,h2]);have h2':hi<lo:=by omega
   go_enter Tryz.func130,Tryz.ntmps130;go_wp2_with fail;go_ret;rw [HR.out];exact ⟨rfl,(Fr.refl _ _).alloc _⟩
 ·have HR:=AA (show Cd lo hi=false by simp[Cd,h1]);have h1':lo<0:=by omega
  go_enter Tryz.func130,Tryz.ntmps130;go_wp2_with fail;go_ret;rw [HR.out];exact ⟨rfl,(Fr.refl _ _).alloc _⟩
theorem prg_wrong (w:World)(b off:Nat)(x:Nd)(A:Option Addr)(n c:Nat)(hv:BR w)(hsz:x.name.size≤9223372036854775807)(hn:CG w b off x A n c):
 Calls Tryz.prog 85 #[.pointer (some ⟨b,off,none⟩)] w fun e w'=>e=.returned (.int .i64 (wrongN x n))∧Fr Nob w w':=by
 obtain⟨d0,d1,d2,d3,d4,d5,d6⟩:=hn;obtain ⟨op,nm,cm,va,lo,hi⟩:=x;simp only at d0 d1 d2 d3 d4 d5 d6 hsz;by_cases h1:op<1
 ·have HR:=AA (show wrongN ⟨op,nm,cm,va,lo,hi⟩ n=1 by simp[wrongN,h1]);go_enter Tryz.func85,Tryz.ntmps85;go_wp2_with fail;go_quiet (fail);go_wp2_with fail;go_ret;rw [HR.out];exact ⟨rfl,(Fr.refl _ _).drewN _⟩
 have h1':decide (op<1)=false:=by simpa using h1
 have h1'':1≤op:=by omega
 by_cases h2:12<op
 ·have HR:=AA (show wrongN ⟨op,nm,cm,va,lo,hi⟩ n=1 by simp[wrongN,h2]);go_enter Tryz.func85,Tryz.ntmps85;go_wp2_with fail;go_quiet (fail);go_wp2_with fail;go_ret;rw [HR.out];exact ⟨rfl,(Fr.refl _ _).drewN _⟩
 have h2':decide (12<op)=false:=by simpa using h2
 obtain⟨k,rfl⟩:∃k:Nat,op=k:=⟨op.toNat,by omega⟩;have hk13:(k:Int)<13:=by omega
 have hk0:(0:Int)≤k:=by omega
 have hks:=(hv k (by simp[CE];omega)).1;rw [shape_kids] at hks;by_cases h3:n≠Aq k
 ·have HR:=AA (show wrongN ⟨k,nm,cm,va,lo,hi⟩ n=1 by simp[wrongN,h3]);have h3':((n:Int)==Aq k)=false:=by rw[beq_eq_false_iff_ne];omega
  clear h3;go_enter Tryz.func85,Tryz.ntmps85;go_wp2_with fail;go_quiet (fail);go_wp2_with fail;go_ret;rw [HR.out];exact ⟨rfl,(Fr.refl _ _).drewN _⟩
 have h3:n=Aq k:=by omega
 subst h3;have h3':((Aq k:Int)==Aq k)=true:=by simp
 have hnm:=AA (fun W=>Gr W nm hsz);go_enter Tryz.func85,Tryz.ntmps85;go_wp2_with fail;go_quiet (fail);go_wp2_with (first|((go_at_call 58);refine(hnm.out _).mono ?_;rintro e w1 ⟨rfl,rfl⟩)|((go_at_call 130);refine(sat_Right _ lo hi).mono ?_;rintro e w1 ⟨rfl,hf⟩))
 all_goals
  go_ret;refine ⟨Gc ?_,by first|exact(Fr.refl _ _).drewN _|exact((Fr.refl _ _).drewN _).call hf (fun _ h _=>h)⟩;clear d0 d1 d2 d3 d4 d5 d6 hks hnm h1' h1'' h2' hk13 hk0 h3' h3 hv hsz
 all_goals first
  |(simp_all [wrongN];done)
  |(simp_all [wrongN];omega)
  |skip
open Go.RowKit
theorem ref_kids (w:World)(op:Int):Calls Tryz.prog 149 #[.int .i64 op] w fun e w'=>e=.returned (.int .i64 (Aq op))∧w=w':=by
 go_enter Tryz.func149,Tryz.ntmps149;go_wp2_with fail
 all_goals
  go_ret;refine ⟨Gc ?_,rfl⟩;unfold Aq
 all_goals(split<;>(try split)<;>first|rfl|omega|(exfalso;simp at*;omega))
def FJ (op:Int):Bool:=decide (9≤op)&&decide (op≤12)
theorem ref_spans (w:World)(op:Int):Calls Tryz.prog 150 #[.int .i64 op] w fun e w'=>e=.returned (.bool (FJ op))∧w=w':=by
 go_enter Tryz.func150,Tryz.ntmps150;go_wp2_with fail
 all_goals
  go_ret;refine ⟨BM ?_,rfl⟩;first|(simp_all [FJ];done)|(simp_all [FJ];omega)
theorem ref_Right (w:World)(lo hi:Int):Calls Tryz.prog 151 #[.agg #[.int .i64 lo,.int .i64 hi]] w fun e w'=>e=.returned (.bool (Cd lo hi))∧Fr Nob w w':=by
 go_enter Tryz.func151,Tryz.ntmps151;go_wp2_with fail
 all_goals
  go_ret;refine ⟨BM ?_,(Fr.refl _ _).alloc _⟩;first|(simp_all [Cd];done)|(simp_all [Cd];omega)
theorem ref_Wrong (w:World)(x:Nd)(A:Option Addr)(n c:Nat)(hsz:x.name.size≤9223372036854775807):
 Calls Tryz.prog 116 #[AF x A n c] w fun e w'=>e=.returned (.int .i64 (wrongN x n))∧Fr Nob w w':=by
 obtain⟨op,nm,cm,va,lo,hi⟩:=x;unfold AF;simp only at hsz ⊢;by_cases h1:op<1
 ·have HR:=AA (show wrongN ⟨op,nm,cm,va,lo,hi⟩ n=1 by simp[wrongN,h1]);go_enter Tryz.func116,Tryz.ntmps116;go_wp2_with fail;go_quiet (fail);go_wp2_with fail;go_ret;rw [HR.out];exact ⟨rfl,((Fr.refl _ _).alloc _).drewN _⟩
 have h1':decide (op<1)=false:=by simpa using h1
 have h1'':1≤op:=by omega
 by_cases h2:12<op
 ·have HR:=AA (show wrongN ⟨op,nm,cm,va,lo,hi⟩ n=1 by simp[wrongN,h2]);go_enter Tryz.func116,Tryz.ntmps116;go_wp2_with fail;go_quiet (fail);go_wp2_with fail;go_ret;rw [HR.out];exact ⟨rfl,((Fr.refl _ _).alloc _).drewN _⟩
 have h2':decide (12<op)=false:=by simpa using h2
 have hkd:=AA (fun W=>ref_kids W op);by_cases h3:n≠Aq op
 ·have HR:=AA (show wrongN ⟨op,nm,cm,va,lo,hi⟩ n=1 by simp[wrongN,h3]);have h3':((n:Int)==Aq op)=false:=by rw[beq_eq_false_iff_ne];omega
  clear h3;generalize (Aq op:Int)=kd at*;go_enter Tryz.func116,Tryz.ntmps116;go_wp2_with fail;go_quiet ((go_at_call 149;exact Calls.quiet_of_same ((hkd.out _).mono fun _ _ ⟨h1,h2⟩=>⟨h1,h2.symm⟩)));go_wp2_with fail;go_ret;rw [HR.out];exact ⟨rfl,((Fr.refl _ _).alloc _).drewN _⟩
 have h3:n=Aq op:=by omega
 subst h3;have h3':((Aq op:Int)==Aq op)=true:=by simp
 have hnm:=AA (fun W=>Gd W nm hsz);by_cases h4:op=3
 ·subst h4;have hss:=AA (fun W=>ref_spans W 3);rw [show FJ 3=false from rfl] at hss;rw [show Aq 3=0 from rfl] at*;go_enter Tryz.func116,Tryz.ntmps116;go_wp2_with fail;go_quiet ((go_at_call 149;exact Calls.quiet_of_same ((hkd.out _).mono fun _ _ ⟨h1,h2⟩=>⟨h1,h2.symm⟩)));go_wp2_with (first|((go_at_call 75);refine(hnm.out _).mono ?_;rintro e w1 ⟨rfl,rfl⟩)|((go_at_call 150);refine(hss.out _).mono ?_;rintro e w1 ⟨rfl,rfl⟩)|((go_at_call 151);refine(ref_Right _ lo hi).mono ?_;rintro e w1 ⟨rfl,hf⟩))
  all_goals
   go_ret;refine ⟨Gc ?_,by first|exact((Fr.refl _ _).alloc _).drewN _|exact(((Fr.refl _ _).alloc _).drewN _).call hf (fun _ h _=>h)⟩;clear hnm hss hkd h1' h1'' h2' h3' hsz;skip
  all_goals first
   |(simp_all [wrongN,Aq];done)
   |(simp_all [wrongN,Aq];omega)
   |((unfold wrongN;repeat' split)<;>first|rfl|(exfalso;simp_all;done)|(exfalso;simp_all;omega))
 have h4':(op==3)=false:=by rw[beq_eq_false_iff_ne];exact h4
 have h4'':(op !=3)=true:=by simpa using h4
 have hsp:=AA (show FJ op=decide (9≤op) by unfold FJ;rw[show decide (op≤12)=true by simp;omega,Bool.and_true]);have hss:=AA (fun W=>ref_spans W op);rw [hsp.out] at hss;clear hsp;have H4:=AA h4;clear h4;go_enter Tryz.func116,Tryz.ntmps116;go_wp2_with fail;go_quiet ((go_at_call 149;exact Calls.quiet_of_same ((hkd.out _).mono fun _ _ ⟨h1,h2⟩=>⟨h1,h2.symm⟩)));go_wp2_with (first|((go_at_call 75);refine(hnm.out _).mono ?_;rintro e w1 ⟨rfl,rfl⟩)|((go_at_call 150);refine(hss.out _).mono ?_;rintro e w1 ⟨rfl,rfl⟩)|((go_at_call 151);refine(ref_Right _ lo hi).mono ?_;rintro e w1 ⟨rfl,hf⟩))
 all_goals
  go_ret;refine ⟨Gc ?_,by first|exact((Fr.refl _ _).alloc _).drewN _|exact(((Fr.refl _ _).alloc _).drewN _).call hf (fun _ h _=>h)⟩;clear hnm hss hkd h1' h1'' h2' h3' hsz;clear h4' h4'';have h4:=H4.out
 all_goals first
  |(simp_all [wrongN,Aq];done)
  |(simp_all [wrongN,Aq];omega)
  |((unfold wrongN;repeat' split)<;>first|rfl|(exfalso;simp_all;done)|(exfalso;simp_all;omega))
end Go.Proofs.YtoegdmpmagbaiaaGreatDoor
