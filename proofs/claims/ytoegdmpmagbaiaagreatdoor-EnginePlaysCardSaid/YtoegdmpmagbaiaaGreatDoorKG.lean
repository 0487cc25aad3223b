/- norm's nodes: and, iff, ev, un. -/
import Derived.Test.YtoegdmpmagbaiaaGreatDoorKF
import Derived.Test.YtoegdmpmagbaiaaGreatDoorKA
set_option maxHeartbeats 8000000
set_option maxRecDepth 100000
namespace Go.Proofs.YtoegdmpmagbaiaaGreatDoor
open Go.RowKit Go.Lib
theorem Av:(Tryz.prog.info? 28).map (·.size)=some 7:=by kernel_rfl
theorem AQ.same {p:Nat→Prop}{w w1 W7:World}{g:Nat}{s:S1}{x:Nd}{A:Option Addr}{c:Nat}{ks:Fo}(he:s=(x,ks.tr))(hs:AJ p w A c ks)(hp:∀k,p k→k<w.heap.size)(hf:Fr Nob w w1)(hg:w.heap.size≤g)(h7:Fr (Ah g) w1 W7):
 AQ w p s (.returned (AF x A ks.len c)) W7:=
 AQ.put he.symm (hs.fr hf) (fun k hk _=>⟨.inl hk,by have:=hp k hk;omega⟩) hf hg h7
theorem AQ.lit1 {p:Nat→Prop}{w w1 W7:World}{g t:Nat}{s:S1}{op lo hi:Int}{x:Nd}{A:Option Addr}{c:Nat}{ks:Fo}(he:s=mk1 op lo hi (x,ks.tr))(hs:AJ p w A c ks)(hp:∀k,p k→k<w.heap.size)(hf:Fr Nob w w1)(hg:w.heap.size≤g)(hgl:g<w1.heap.size)
 (h7:Fr (Ah g) (w1.alloc (.cells #[.int .i64 x.op,.string x.name,.int .i64 x.cmp,.int .i64 x.val,.int .i64 x.lo,.int .i64 x.hi,.slice A ks.len c] t)) W7):
 AQ w p s (.returned (.agg #[.int .i64 op,.string ⟨#[]⟩,.int .i64 0,.int .i64 0,.int .i64 lo,.int .i64 hi,.slice (some ⟨w1.heap.size,0,none⟩) 1 1])) W7:=by
 have hsz:=hf.size;refine ⟨op,⟨#[]⟩,0,0,lo,hi,some ⟨w1.heap.size,0,none⟩,1,.cons x A c ks .nil,rfl,he.symm,?_,(hf.alloc _).call h7 (fun i e hlt=>by have:i=g:=e;omega)⟩;have hb:Blk W7 w1.heap.size t (Fs x A ks.len c):=(Blk.new_eq rfl).fr h7 (fun e=>by have:w1.heap.size=g:=e;omega);refine AJ.one hb ?_ (.inr hsz);exact ((hs.fr (hf.alloc _)).keep fun k hk hlt=>h7.block k hlt (fun e=>by have:k=g:=e;have:=hp k hk;omega)).mono fun k hk=>.inl hk
theorem AQ.lit2 {p:Nat→Prop}{w w1 W7:World}{g t:Nat}{s:S1}{op lo hi:Int}{x y:Nd}{A B:Option Addr}{c d:Nat}{ks js:Fo}(he:s=mk2 op lo hi (x,ks.tr) (y,js.tr))(hs:AJ p w A c ks)(ht:AJ p w B d js)(hp:∀k,p k→k<w.heap.size)(hf:Fr Nob w w1)(hg:w.heap.size≤g)(hgl:g<w1.heap.size)
 (h7:Fr (Ah g) (w1.alloc (.cells #[.int .i64 x.op,.string x.name,.int .i64 x.cmp,.int .i64 x.val,.int .i64 x.lo,.int .i64 x.hi,.slice A ks.len c,.int .i64 y.op,.string y.name,.int .i64 y.cmp,.int .i64 y.val,.int .i64 y.lo,.int .i64 y.hi,.slice B js.len d] t)) W7):
 AQ w p s (.returned (.agg #[.int .i64 op,.string ⟨#[]⟩,.int .i64 0,.int .i64 0,.int .i64 lo,.int .i64 hi,.slice (some ⟨w1.heap.size,0,none⟩) 2 2])) W7:=by
 have hsz:=hf.size;refine ⟨op,⟨#[]⟩,0,0,lo,hi,some ⟨w1.heap.size,0,none⟩,2,.cons x A c ks (.cons y B d js .nil),rfl,he.symm,?_,(hf.alloc _).call h7 (fun i e hlt=>by have:i=g:=e;omega)⟩;have hb:Blk W7 w1.heap.size t (Fs x A ks.len c++Fs y B js.len d):=(Blk.new_eq rfl).fr h7 (fun e=>by have:w1.heap.size=g:=e;omega);refine AJ.two hb ?_ ?_ (.inr hsz);·exact((hs.fr (hf.alloc _)).keep fun k hk hlt=>h7.block k hlt (fun e=>by have:k=g:=e;have:=hp k hk;omega)).mono fun k hk=>.inl hk
 ·exact((ht.fr (hf.alloc _)).keep fun k hk hlt=>h7.block k hlt (fun e=>by have:k=g:=e;have:=hp k hk;omega)).mono fun k hk=>.inl hk
theorem n_and (w:World)(p:Nat→Prop)(hp:∀k,p k→k<w.heap.size)(x y:Nd)(A B:Option Addr)(c d:Nat)(ks js:Fo)(hs:AJ p w A c ks)(ht:AJ p w B d js)(hz:js.tr.size≤100000):
 Calls Tryz.prog 168 #[AF x A ks.len c,AF y B js.len d] w (AQ w p (andS (x,ks.tr) (y,js.tr))):=by
 have HS:=AA hs;have HT:=AA ht;have HP:=AA hp;have HN:=AA (show andS (x,ks.tr) (y,js.tr)=if x.op=2∨y.op=2 then mk0 2 else if x.op=1 then(y,js.tr) else if y.op=1∨CX (x,ks.tr) (y,js.tr)=true then(x,ks.tr) else mk2 5 0 0 (x,ks.tr) (y,js.tr) from rfl);have HSM:=AA (fun W (hf:Fr Nob w W)=>prg_Same W y x B A d c js ks (ht.fr hf).whole (hs.fr hf).whole hz)
 have HSY:=AA (show same1 y js.tr x ks.tr=CX (x,ks.tr) (y,js.tr) from by
  show CX (y,js.tr) (x,ks.tr)=_;exact Bool.eq_iff_iff.2 (by rw[EF,EF];exact⟨fun e=>e.symm,fun e=>e.symm⟩));rw [HSY.out] at HSM;clear hs ht hp hz HSY;generalize andS (x,ks.tr) (y,js.tr)=sr at*;obtain ⟨op,nm,cm,va,lo,hi⟩:=x;obtain ⟨op2,nm2,cm2,va2,lo2,hi2⟩:=y;dsimp only at HN;unfold AF at*;go_enter Tryz.func168,Tryz.ntmps168;go_upto_region 1 with fail;obtain ⟨W0,hW0⟩:∃W0,((w.alloc (.cells #[.int .i64 op,.string nm,.int .i64 cm,.int .i64 va,.int .i64 lo,.int .i64 hi,.slice A ks.len c] 28)).alloc (.cells #[.int .i64 op2,.string nm2,.int .i64 cm2,.int .i64 va2,.int .i64 lo2,.int .i64 hi2,.slice B js.len d] 28)).alloc (.cells Ab 28)=W0:=⟨_,rfl⟩;have HX0:=AA (show Blk W0 w.heap.size 28 #[.int .i64 op,.string nm,.int .i64 cm,.int .i64 va,.int .i64 lo,.int .i64 hi,.slice A ks.len c] by rw[←hW0];exact((Blk.new _ _ _).alloc _).alloc _);have HY0:=AA (show Blk W0 (w.heap.size+1) 28 #[.int .i64 op2,.string nm2,.int .i64 cm2,.int .i64 va2,.int .i64 lo2,.int .i64 hi2,.slice B js.len d] by rw[←hW0];exact(Blk.new_eq (by simp)).alloc _);have HZ:=AA (show Blk W0 (w.heap.size+1+1) 28 Ab by rw[←hW0];exact Blk.new_eq (by simp));have HF0:=AA (show Fr Nob w W0 by rw[←hW0];exact(((Fr.refl _ _).alloc _).alloc _).alloc _);have HW0:=AA (show w.heap.size+1+1<W0.heap.size from HZ.out.lt);rw [hW0];clear hW0;have xc:=HX0.out.cell;have xl:=HX0.out.lt;have yc:=HY0.out.cell;have yl:=HY0.out.lt;have rc:=HZ.out.cell;have rf:=HZ.out.frozen;have zl:=HZ.out.lt;by_cases h1:op=2
 ·have HR:=AA (show sr=mk0 2 from by rw[HN.out,if_pos (.inl h1)]);clear HN HSM;have hb1:(op==2)=true:=by simpa using h1
  go_wp2_with (first
   |((go_at_call 178);(with_reducible refine(CS W0 p false).mono ?_);rintro e w2 ⟨o1,n1,m1,v1,l1,i1,A1,c1,k1,rfl,he,hs1,hf1⟩;have HE:=AA he;have HS1:=AA hs1;have HFR:=AA hf1;have HZ2:=AA (HZ.out.fr hf1 (fun e=>e));clear he hs1 hf1)
   |(refine AB rfl rfl (by rfl) (by rfl) (by exact Av) (by rfl) (by first|exact HZ2.out.alloc _|exact HZ2.out) (by rfl) ?_;intro W7 hb7 hf7;have HB7:=AA hb7;have HF7:=AA hf7;have rc7:=hb7.cell;clear hb7 hf7)
   |fail);refine bodyPost_ret (v:=.agg #[.int .i64 o1,.string n1,.int .i64 m1,.int .i64 v1,.int .i64 l1,.int .i64 i1,.slice A1 k1.len c1]) (by simp[results,Tryz.results168,go_sem,rc7]) rfl ?_;exact AQ.put (x:=⟨o1,n1,m1,v1,l1,i1⟩) (HE.out.trans HR.out.symm) HS1.out (fun k hk _=>Al HP.out (by omega) HW0.out k hk) (HF0.out.call HFR.out (fun _ h _=>h)) (by omega) HF7.out
 have hb1:(op==2)=false:=by simpa using h1
 by_cases h2:op2=2
 ·have HR:=AA (show sr=mk0 2 from by rw[HN.out,if_pos (.inr h2)]);clear HN HSM;have hb2:(op2==2)=true:=by simpa using h2
  go_wp2_with (first
   |((go_at_call 178);(with_reducible refine(CS W0 p false).mono ?_);rintro e w2 ⟨o1,n1,m1,v1,l1,i1,A1,c1,k1,rfl,he,hs1,hf1⟩;have HE:=AA he;have HS1:=AA hs1;have HFR:=AA hf1;have HZ2:=AA (HZ.out.fr hf1 (fun e=>e));clear he hs1 hf1)
   |(refine AB rfl rfl (by rfl) (by rfl) (by exact Av) (by rfl) (by first|exact HZ2.out.alloc _|exact HZ2.out) (by rfl) ?_;intro W7 hb7 hf7;have HB7:=AA hb7;have HF7:=AA hf7;have rc7:=hb7.cell;clear hb7 hf7)
   |fail);refine bodyPost_ret (v:=.agg #[.int .i64 o1,.string n1,.int .i64 m1,.int .i64 v1,.int .i64 l1,.int .i64 i1,.slice A1 k1.len c1]) (by simp[results,Tryz.results168,go_sem,rc7]) rfl ?_;exact AQ.put (x:=⟨o1,n1,m1,v1,l1,i1⟩) (HE.out.trans HR.out.symm) HS1.out (fun k hk _=>Al HP.out (by omega) HW0.out k hk) (HF0.out.call HFR.out (fun _ h _=>h)) (by omega) HF7.out
 have hb2:(op2==2)=false:=by simpa using h2
 have HN2:=AA (HN.out.trans (if_neg (by omega)));clear HN;by_cases h3:op=1
 ·have HR:=AA (show sr=(⟨op2,nm2,cm2,va2,lo2,hi2⟩,js.tr) from by rw[HN2.out,if_pos h3]);clear HN2 HSM
  go_wp2_with (first
   |(refine AB rfl rfl (by rfl) (by rfl) (by exact Av) (by rfl) (by first|exact HZ.out.alloc _|exact HZ.out) (by rfl) ?_;intro W7 hb7 hf7;have HB7:=AA hb7;have HF7:=AA hf7;have rc7:=hb7.cell;clear hb7 hf7)
   |fail);refine bodyPost_ret (v:=.agg #[.int .i64 op2,.string nm2,.int .i64 cm2,.int .i64 va2,.int .i64 lo2,.int .i64 hi2,.slice B js.len d]) (by simp[results,Tryz.results168,go_sem,rc7]) rfl ?_;exact AQ.same (x:=⟨op2,nm2,cm2,va2,lo2,hi2⟩) HR.out HT.out HP.out HF0.out (by omega) HF7.out
 have HN3:=AA (HN2.out.trans (if_neg h3));clear HN2;by_cases h4:op2=1
 ·have HR:=AA (show sr=(⟨op,nm,cm,va,lo,hi⟩,ks.tr) from by rw[HN3.out,if_pos (.inl h4)]);clear HN3 HSM
  go_wp2_with (first
   |(refine AB rfl rfl (by rfl) (by rfl) (by exact Av) (by rfl) (by first|exact HZ.out.alloc _|exact HZ.out) (by rfl) ?_;intro W7 hb7 hf7;have HB7:=AA hb7;have HF7:=AA hf7;have rc7:=hb7.cell;clear hb7 hf7)
   |fail);refine bodyPost_ret (v:=.agg #[.int .i64 op,.string nm,.int .i64 cm,.int .i64 va,.int .i64 lo,.int .i64 hi,.slice A ks.len c]) (by simp[results,Tryz.results168,go_sem,rc7]) rfl ?_;exact AQ.same (x:=⟨op,nm,cm,va,lo,hi⟩) HR.out HS.out HP.out HF0.out (by omega) HF7.out
 have hb4:(op2==1)=false:=by simpa using h4
 cases hsm:CX (⟨op,nm,cm,va,lo,hi⟩,ks.tr) (⟨op2,nm2,cm2,va2,lo2,hi2⟩,js.tr)
 ·have HR:=AA (show sr=mk2 5 0 0 (⟨op,nm,cm,va,lo,hi⟩,ks.tr) (⟨op2,nm2,cm2,va2,lo2,hi2⟩,js.tr) from by rw[HN3.out,if_neg (by rw[hsm];simp;exact h4)]);rw [hsm] at HSM;clear HN3 hsm
  go_wp2_with (first
   |((go_at_call 179);(with_reducible refine(HSM.out W0 HF0.out).mono ?_);rintro e w1 ⟨rfl,hf1⟩;replace HF0:=AA (HF0.out.call hf1 (fun _ h _=>h));replace HZ:=AA (HZ.out.fr hf1 (fun e=>e));replace HX0:=AA (HX0.out.fr hf1 (fun e=>e));replace HY0:=AA (HY0.out.fr hf1 (fun e=>e));replace HW0:=AA HZ.out.lt;replace rc:=HZ.out.cell;replace rf:=HZ.out.frozen;replace zl:=HZ.out.lt;replace xc:=HX0.out.cell;replace xl:=HX0.out.lt;replace yc:=HY0.out.cell;replace yl:=HY0.out.lt;clear hf1)
   |(refine AB rfl rfl (by rfl) (by rfl) (by exact Av) (by rfl) (by first|exact HZ.out.alloc _|exact HZ.out) (by rfl) ?_;intro W7 hb7 hf7;have HB7:=AA hb7;have HF7:=AA hf7;have rc7:=hb7.cell;clear hb7 hf7)
   |fail);refine bodyPost_ret (v:=.agg #[.int .i64 5,.string ⟨#[]⟩,.int .i64 0,.int .i64 0,.int .i64 0,.int .i64 0,.slice (some ⟨w1.heap.size,0,none⟩) 2 2]) (by simp[results,Tryz.results168,go_sem,rc7]) rfl ?_;exact AQ.lit2 HR.out HS.out HT.out HP.out HF0.out (by omega) HW0.out HF7.out
 ·have HR:=AA (show sr=(⟨op,nm,cm,va,lo,hi⟩,ks.tr) from by rw[HN3.out,if_pos (.inr hsm)]);rw [hsm] at HSM;clear HN3 hsm
  go_wp2_with (first
   |((go_at_call 179);(with_reducible refine(HSM.out W0 HF0.out).mono ?_);rintro e w1 ⟨rfl,hf1⟩;replace HF0:=AA (HF0.out.call hf1 (fun _ h _=>h));replace HZ:=AA (HZ.out.fr hf1 (fun e=>e));replace HX0:=AA (HX0.out.fr hf1 (fun e=>e));replace HY0:=AA (HY0.out.fr hf1 (fun e=>e));replace HW0:=AA HZ.out.lt;replace rc:=HZ.out.cell;replace rf:=HZ.out.frozen;replace zl:=HZ.out.lt;replace xc:=HX0.out.cell;replace xl:=HX0.out.lt;replace yc:=HY0.out.cell;replace yl:=HY0.out.lt;clear hf1)
   |(refine AB rfl rfl (by rfl) (by rfl) (by exact Av) (by rfl) (by first|exact HZ.out.alloc _|exact HZ.out) (by rfl) ?_;intro W7 hb7 hf7;have HB7:=AA hb7;have HF7:=AA hf7;have rc7:=hb7.cell;clear hb7 hf7)
   |fail);refine bodyPost_ret (v:=.agg #[.int .i64 op,.string nm,.int .i64 cm,.int .i64 va,.int .i64 lo,.int .i64 hi,.slice A ks.len c]) (by simp[results,Tryz.results168,go_sem,rc7]) rfl ?_;exact AQ.same (x:=⟨op,nm,cm,va,lo,hi⟩) HR.out HS.out HP.out HF0.out (by omega) HF7.out
theorem n_iff (w:World)(p:Nat→Prop)(hp:∀k,p k→k<w.heap.size)(x y:Nd)(A B:Option Addr)(c d:Nat)(ks js:Fo)(hs:AJ p w A c ks)(ht:AJ p w B d js)(hx:AR (x,ks.tr))(hy:AR (y,js.tr))(hz:js.tr.size≤100000):
 Calls Tryz.prog 171 #[AF x A ks.len c,AF y B js.len d] w (AQ w p (iffS (x,ks.tr) (y,js.tr))):=by
 have HS:=AA hs;have HT:=AA ht;have HP:=AA hp;have HN:=AA (show iffS (x,ks.tr) (y,js.tr)=if CX (x,ks.tr) (y,js.tr)=true then mk0 1 else if x.op=1 then(y,js.tr) else if y.op=1 then(x,ks.tr) else if x.op=2 then notS (y,js.tr) else if y.op=2 then notS (x,ks.tr) else mk2 8 0 0 (x,ks.tr) (y,js.tr) from rfl);have HSM:=AA (fun W (hf:Fr Nob w W)=>prg_Same W y x B A d c js ks (ht.fr hf).whole (hs.fr hf).whole hz);have HNX:=AA (fun W (hf:Fr Nob w W)=>n_not W p (fun k hk=>Nat.lt_of_lt_of_le (hp k hk) hf.size) x A c ks (hs.fr hf) hx);have HNY:=AA (fun W (hf:Fr Nob w W)=>n_not W p (fun k hk=>Nat.lt_of_lt_of_le (hp k hk) hf.size) y B d js (ht.fr hf) hy)
 have HSY:=AA (show same1 y js.tr x ks.tr=CX (x,ks.tr) (y,js.tr) from by
  show CX (y,js.tr) (x,ks.tr)=_;exact Bool.eq_iff_iff.2 (by rw[EF,EF];exact⟨fun e=>e.symm,fun e=>e.symm⟩));rw [HSY.out] at HSM;clear hs ht hp hz HSY hx hy;generalize iffS (x,ks.tr) (y,js.tr)=sr at*;obtain ⟨op,nm,cm,va,lo,hi⟩:=x;obtain ⟨op2,nm2,cm2,va2,lo2,hi2⟩:=y;dsimp only at HN;unfold AF at*;go_enter Tryz.func171,Tryz.ntmps171;go_upto_region 1 with fail;obtain ⟨W0,hW0⟩:∃W0,((w.alloc (.cells #[.int .i64 op,.string nm,.int .i64 cm,.int .i64 va,.int .i64 lo,.int .i64 hi,.slice A ks.len c] 28)).alloc (.cells #[.int .i64 op2,.string nm2,.int .i64 cm2,.int .i64 va2,.int .i64 lo2,.int .i64 hi2,.slice B js.len d] 28)).alloc (.cells Ab 28)=W0:=⟨_,rfl⟩;have HX0:=AA (show Blk W0 w.heap.size 28 #[.int .i64 op,.string nm,.int .i64 cm,.int .i64 va,.int .i64 lo,.int .i64 hi,.slice A ks.len c] by rw[←hW0];exact((Blk.new _ _ _).alloc _).alloc _);have HY0:=AA (show Blk W0 (w.heap.size+1) 28 #[.int .i64 op2,.string nm2,.int .i64 cm2,.int .i64 va2,.int .i64 lo2,.int .i64 hi2,.slice B js.len d] by rw[←hW0];exact(Blk.new_eq (by simp)).alloc _);have HZ:=AA (show Blk W0 (w.heap.size+1+1) 28 Ab by rw[←hW0];exact Blk.new_eq (by simp));have HF0:=AA (show Fr Nob w W0 by rw[←hW0];exact(((Fr.refl _ _).alloc _).alloc _).alloc _);have HW0:=AA (show w.heap.size+1+1<W0.heap.size from HZ.out.lt);rw [hW0];clear hW0;have xc:=HX0.out.cell;have xl:=HX0.out.lt;have yc:=HY0.out.cell;have yl:=HY0.out.lt;have rc:=HZ.out.cell;have rf:=HZ.out.frozen;have zl:=HZ.out.lt;cases hsm:CX (⟨op,nm,cm,va,lo,hi⟩,ks.tr) (⟨op2,nm2,cm2,va2,lo2,hi2⟩,js.tr)
 case true=>
  have HR:=AA (show sr=mk0 1 from by rw[HN.out,if_pos hsm]);rw [hsm] at HSM;clear HN hsm HNX HNY
  go_wp2_with (first
   |((go_at_call 179);(with_reducible refine(HSM.out W0 HF0.out).mono ?_);rintro e w1 ⟨rfl,hf1⟩;replace HF0:=AA (HF0.out.call hf1 (fun _ h _=>h));replace HZ:=AA (HZ.out.fr hf1 (fun e=>e));replace HX0:=AA (HX0.out.fr hf1 (fun e=>e));replace HY0:=AA (HY0.out.fr hf1 (fun e=>e));replace HW0:=AA HZ.out.lt;replace rc:=HZ.out.cell;replace rf:=HZ.out.frozen;replace zl:=HZ.out.lt;replace xc:=HX0.out.cell;replace xl:=HX0.out.lt;replace yc:=HY0.out.cell;replace yl:=HY0.out.lt;clear hf1)
   |((go_at_call 178);(with_reducible refine(CS w1 p true).mono ?_);rintro e w2 ⟨o1,n1,m1,v1,l1,i1,A1,c1,k1,rfl,he,hs1,hf1⟩;have HE:=AA he;have HS1:=AA hs1;have HFR:=AA hf1;have HZ2:=AA (HZ.out.fr hf1 (fun e=>e));clear he hs1 hf1)
   |(refine AB rfl rfl (by rfl) (by rfl) (by exact Av) (by rfl) (by first|exact HZ2.out.alloc _|exact HZ2.out) (by rfl) ?_;intro W7 hb7 hf7;have HB7:=AA hb7;have HF7:=AA hf7;have rc7:=hb7.cell;clear hb7 hf7)
   |fail);refine bodyPost_ret (v:=.agg #[.int .i64 o1,.string n1,.int .i64 m1,.int .i64 v1,.int .i64 l1,.int .i64 i1,.slice A1 k1.len c1]) (by simp[results,Tryz.results171,go_sem,rc7]) rfl ?_;exact AQ.put (x:=⟨o1,n1,m1,v1,l1,i1⟩) (HE.out.trans HR.out.symm) HS1.out (fun k hk _=>Al HP.out (by omega) HW0.out k hk) (HF0.out.call HFR.out (fun _ h _=>h)) (by omega) HF7.out
 have HN2:=AA (HN.out.trans (if_neg (by rw[hsm];simp)));rw [hsm] at HSM;clear HN hsm;by_cases h3:op=1
 ·have HR:=AA (show sr=(⟨op2,nm2,cm2,va2,lo2,hi2⟩,js.tr) from by rw[HN2.out,if_pos h3]);have hb:(op==1)=true:=by simpa using h3
  clear h3;clear HN2 HNX HNY
  go_wp2_with (first
   |((go_at_call 179);(with_reducible refine(HSM.out W0 HF0.out).mono ?_);rintro e w1 ⟨rfl,hf1⟩;replace HF0:=AA (HF0.out.call hf1 (fun _ h _=>h));replace HZ:=AA (HZ.out.fr hf1 (fun e=>e));replace HX0:=AA (HX0.out.fr hf1 (fun e=>e));replace HY0:=AA (HY0.out.fr hf1 (fun e=>e));replace HW0:=AA HZ.out.lt;replace rc:=HZ.out.cell;replace rf:=HZ.out.frozen;replace zl:=HZ.out.lt;replace xc:=HX0.out.cell;replace xl:=HX0.out.lt;replace yc:=HY0.out.cell;replace yl:=HY0.out.lt;clear hf1)
   |(refine AB rfl rfl (by rfl) (by rfl) (by exact Av) (by rfl) (by first|exact HZ.out.alloc _|exact HZ.out) (by rfl) ?_;intro W7 hb7 hf7;have HB7:=AA hb7;have HF7:=AA hf7;have rc7:=hb7.cell;clear hb7 hf7)
   |fail);refine bodyPost_ret (v:=.agg #[.int .i64 op2,.string nm2,.int .i64 cm2,.int .i64 va2,.int .i64 lo2,.int .i64 hi2,.slice B js.len d]) (by simp[results,Tryz.results171,go_sem,rc7]) rfl ?_;exact AQ.same (x:=⟨op2,nm2,cm2,va2,lo2,hi2⟩) HR.out HT.out HP.out HF0.out (by omega) HF7.out
 have HN3:=AA (HN2.out.trans (if_neg h3));clear HN2;by_cases h4:op2=1
 ·have HR:=AA (show sr=(⟨op,nm,cm,va,lo,hi⟩,ks.tr) from by rw[HN3.out,if_pos h4]);have hb:(op2==1)=true:=by simpa using h4
  clear h4;clear HN3 HNX HNY
  go_wp2_with (first
   |((go_at_call 179);(with_reducible refine(HSM.out W0 HF0.out).mono ?_);rintro e w1 ⟨rfl,hf1⟩;replace HF0:=AA (HF0.out.call hf1 (fun _ h _=>h));replace HZ:=AA (HZ.out.fr hf1 (fun e=>e));replace HX0:=AA (HX0.out.fr hf1 (fun e=>e));replace HY0:=AA (HY0.out.fr hf1 (fun e=>e));replace HW0:=AA HZ.out.lt;replace rc:=HZ.out.cell;replace rf:=HZ.out.frozen;replace zl:=HZ.out.lt;replace xc:=HX0.out.cell;replace xl:=HX0.out.lt;replace yc:=HY0.out.cell;replace yl:=HY0.out.lt;clear hf1)
   |(refine AB rfl rfl (by rfl) (by rfl) (by exact Av) (by rfl) (by first|exact HZ.out.alloc _|exact HZ.out) (by rfl) ?_;intro W7 hb7 hf7;have HB7:=AA hb7;have HF7:=AA hf7;have rc7:=hb7.cell;clear hb7 hf7)
   |fail);refine bodyPost_ret (v:=.agg #[.int .i64 op,.string nm,.int .i64 cm,.int .i64 va,.int .i64 lo,.int .i64 hi,.slice A ks.len c]) (by simp[results,Tryz.results171,go_sem,rc7]) rfl ?_;exact AQ.same (x:=⟨op,nm,cm,va,lo,hi⟩) HR.out HS.out HP.out HF0.out (by omega) HF7.out
 have HN4:=AA (HN3.out.trans (if_neg h4));clear HN3;by_cases h5:op=2
 ·have HR:=AA (show sr=notS (⟨op2,nm2,cm2,va2,lo2,hi2⟩,js.tr) from by rw[HN4.out,if_pos h5]);have hb:(op==2)=true:=by simpa using h5
  clear h5;clear HN4 HNX
  go_wp2_with (first
   |((go_at_call 179);(with_reducible refine(HSM.out W0 HF0.out).mono ?_);rintro e w1 ⟨rfl,hf1⟩;replace HF0:=AA (HF0.out.call hf1 (fun _ h _=>h));replace HZ:=AA (HZ.out.fr hf1 (fun e=>e));replace HX0:=AA (HX0.out.fr hf1 (fun e=>e));replace HY0:=AA (HY0.out.fr hf1 (fun e=>e));replace HW0:=AA HZ.out.lt;replace rc:=HZ.out.cell;replace rf:=HZ.out.frozen;replace zl:=HZ.out.lt;replace xc:=HX0.out.cell;replace xl:=HX0.out.lt;replace yc:=HY0.out.cell;replace yl:=HY0.out.lt;clear hf1)
   |((go_at_call 167);(with_reducible refine(HNY.out w1 HF0.out).mono ?_);rintro e w2 ⟨o1,n1,m1,v1,l1,i1,A1,c1,k1,rfl,he,hs1,hf1⟩;have HE:=AA he;have HS1:=AA hs1;have HFR:=AA hf1;have HZ2:=AA (HZ.out.fr hf1 (fun e=>e));clear he hs1 hf1)
   |(refine AB rfl rfl (by rfl) (by rfl) (by exact Av) (by rfl) (by first|exact HZ2.out.alloc _|exact HZ2.out) (by rfl) ?_;intro W7 hb7 hf7;have HB7:=AA hb7;have HF7:=AA hf7;have rc7:=hb7.cell;clear hb7 hf7)
   |fail);refine bodyPost_ret (v:=.agg #[.int .i64 o1,.string n1,.int .i64 m1,.int .i64 v1,.int .i64 l1,.int .i64 i1,.slice A1 k1.len c1]) (by simp[results,Tryz.results171,go_sem,rc7]) rfl ?_;exact AQ.put (x:=⟨o1,n1,m1,v1,l1,i1⟩) (HE.out.trans HR.out.symm) HS1.out (fun k hk _=>Al HP.out (by omega) HW0.out k hk) (HF0.out.call HFR.out (fun _ h _=>h)) (by omega) HF7.out
 have HN5:=AA (HN4.out.trans (if_neg h5));clear HN4;by_cases h6:op2=2
 ·have HR:=AA (show sr=notS (⟨op,nm,cm,va,lo,hi⟩,ks.tr) from by rw[HN5.out,if_pos h6]);have hb:(op2==2)=true:=by simpa using h6
  clear h6;clear HN5 HNY
  go_wp2_with (first
   |((go_at_call 179);(with_reducible refine(HSM.out W0 HF0.out).mono ?_);rintro e w1 ⟨rfl,hf1⟩;replace HF0:=AA (HF0.out.call hf1 (fun _ h _=>h));replace HZ:=AA (HZ.out.fr hf1 (fun e=>e));replace HX0:=AA (HX0.out.fr hf1 (fun e=>e));replace HY0:=AA (HY0.out.fr hf1 (fun e=>e));replace HW0:=AA HZ.out.lt;replace rc:=HZ.out.cell;replace rf:=HZ.out.frozen;replace zl:=HZ.out.lt;replace xc:=HX0.out.cell;replace xl:=HX0.out.lt;replace yc:=HY0.out.cell;replace yl:=HY0.out.lt;clear hf1)
   |((go_at_call 167);(with_reducible refine(HNX.out w1 HF0.out).mono ?_);rintro e w2 ⟨o1,n1,m1,v1,l1,i1,A1,c1,k1,rfl,he,hs1,hf1⟩;have HE:=AA he;have HS1:=AA hs1;have HFR:=AA hf1;have HZ2:=AA (HZ.out.fr hf1 (fun e=>e));clear he hs1 hf1)
   |(refine AB rfl rfl (by rfl) (by rfl) (by exact Av) (by rfl) (by first|exact HZ2.out.alloc _|exact HZ2.out) (by rfl) ?_;intro W7 hb7 hf7;have HB7:=AA hb7;have HF7:=AA hf7;have rc7:=hb7.cell;clear hb7 hf7)
   |fail);refine bodyPost_ret (v:=.agg #[.int .i64 o1,.string n1,.int .i64 m1,.int .i64 v1,.int .i64 l1,.int .i64 i1,.slice A1 k1.len c1]) (by simp[results,Tryz.results171,go_sem,rc7]) rfl ?_;exact AQ.put (x:=⟨o1,n1,m1,v1,l1,i1⟩) (HE.out.trans HR.out.symm) HS1.out (fun k hk _=>Al HP.out (by omega) HW0.out k hk) (HF0.out.call HFR.out (fun _ h _=>h)) (by omega) HF7.out
 ·have HR:=AA (show sr=mk2 8 0 0 (⟨op,nm,cm,va,lo,hi⟩,ks.tr) (⟨op2,nm2,cm2,va2,lo2,hi2⟩,js.tr) from by rw[HN5.out,if_neg h6]);clear HN5 HNX HNY
  go_wp2_with (first
   |((go_at_call 179);(with_reducible refine(HSM.out W0 HF0.out).mono ?_);rintro e w1 ⟨rfl,hf1⟩;replace HF0:=AA (HF0.out.call hf1 (fun _ h _=>h));replace HZ:=AA (HZ.out.fr hf1 (fun e=>e));replace HX0:=AA (HX0.out.fr hf1 (fun e=>e));replace HY0:=AA (HY0.out.fr hf1 (fun e=>e));replace HW0:=AA HZ.out.lt;replace rc:=HZ.out.cell;replace rf:=HZ.out.frozen;replace zl:=HZ.out.lt;replace xc:=HX0.out.cell;replace xl:=HX0.out.lt;replace yc:=HY0.out.cell;replace yl:=HY0.out.lt;clear hf1)
   |(refine AB rfl rfl (by rfl) (by rfl) (by exact Av) (by rfl) (by first|exact HZ.out.alloc _|exact HZ.out) (by rfl) ?_;intro W7 hb7 hf7;have HB7:=AA hb7;have HF7:=AA hf7;have rc7:=hb7.cell;clear hb7 hf7)
   |fail);refine bodyPost_ret (v:=.agg #[.int .i64 8,.string ⟨#[]⟩,.int .i64 0,.int .i64 0,.int .i64 0,.int .i64 0,.slice (some ⟨w1.heap.size,0,none⟩) 2 2]) (by simp[results,Tryz.results171,go_sem,rc7]) rfl ?_;exact AQ.lit2 HR.out HS.out HT.out HP.out HF0.out (by omega) HW0.out HF7.out
theorem n_ev (w:World)(p:Nat→Prop)(hp:∀k,p k→k<w.heap.size)(m x:Nd)(MA A:Option Addr)(mn mc c:Nat)(ks:Fo)(hs:AJ p w A c ks):
 Calls Tryz.prog 173 #[AF m MA mn mc,AF x A ks.len c] w (AQ w p (evS m.lo m.hi (x,ks.tr))):=by
 have HS:=AA hs;have HP:=AA hp;have HN:=AA (show evS m.lo m.hi (x,ks.tr)=if x.op=2 then mk0 2 else if x.op=1∧m.lo=0 then mk0 1 else mk1 9 m.lo m.hi (x,ks.tr) from rfl);clear hs hp;generalize evS m.lo m.hi (x,ks.tr)=sr at*;obtain ⟨op,nm,cm,va,lo,hi⟩:=x;obtain ⟨mop,mnm,mcm,mva,mlo,mhi⟩:=m;dsimp only at HN;unfold AF at*;go_enter Tryz.func173,Tryz.ntmps173;go_upto_region 1 with fail;obtain ⟨W0,hW0⟩:∃W0,((w.alloc (.cells #[.int .i64 mop,.string mnm,.int .i64 mcm,.int .i64 mva,.int .i64 mlo,.int .i64 mhi,.slice MA mn mc] 194)).alloc (.cells #[.int .i64 op,.string nm,.int .i64 cm,.int .i64 va,.int .i64 lo,.int .i64 hi,.slice A ks.len c] 28)).alloc (.cells Ab 28)=W0:=⟨_,rfl⟩;have HM0:=AA (show Blk W0 w.heap.size 194 #[.int .i64 mop,.string mnm,.int .i64 mcm,.int .i64 mva,.int .i64 mlo,.int .i64 mhi,.slice MA mn mc] by rw[←hW0];exact((Blk.new _ _ _).alloc _).alloc _);have HX0:=AA (show Blk W0 (w.heap.size+1) 28 #[.int .i64 op,.string nm,.int .i64 cm,.int .i64 va,.int .i64 lo,.int .i64 hi,.slice A ks.len c] by rw[←hW0];exact(Blk.new_eq (by simp)).alloc _);have HZ:=AA (show Blk W0 (w.heap.size+1+1) 28 Ab by rw[←hW0];exact Blk.new_eq (by simp));have HF0:=AA (show Fr Nob w W0 by rw[←hW0];exact(((Fr.refl _ _).alloc _).alloc _).alloc _);have HW0:=AA (show w.heap.size+1+1<W0.heap.size from HZ.out.lt);rw [hW0];clear hW0;have mc_:=HM0.out.cell;have ml_:=HM0.out.lt;have xc:=HX0.out.cell;have xl:=HX0.out.lt;have rc:=HZ.out.cell;have rf:=HZ.out.frozen;have zl:=HZ.out.lt;by_cases h1:op=2
 ·have HR:=AA (show sr=mk0 2 from by rw[HN.out,if_pos h1]);clear HN
  go_wp2_with (first
   |((go_at_call 178);(with_reducible refine(CS W0 p false).mono ?_);rintro e w2 ⟨o1,n1,m1,v1,l1,i1,A1,c1,k1,rfl,he,hs1,hf1⟩;have HE:=AA he;have HS1:=AA hs1;have HFR:=AA hf1;have HZ2:=AA (HZ.out.fr hf1 (fun e=>e));clear he hs1 hf1)
   |(refine AB rfl rfl (by rfl) (by rfl) (by exact Av) (by rfl) (by first|exact HZ2.out.alloc _|exact HZ2.out) (by rfl) ?_;intro W7 hb7 hf7;have HB7:=AA hb7;have HF7:=AA hf7;have rc7:=hb7.cell;clear hb7 hf7)
   |fail);refine bodyPost_ret (v:=.agg #[.int .i64 o1,.string n1,.int .i64 m1,.int .i64 v1,.int .i64 l1,.int .i64 i1,.slice A1 k1.len c1]) (by simp[results,Tryz.results173,go_sem,rc7]) rfl ?_;exact AQ.put (x:=⟨o1,n1,m1,v1,l1,i1⟩) (HE.out.trans HR.out.symm) HS1.out (fun k hk _=>Al HP.out (by omega) HW0.out k hk) (HF0.out.call HFR.out (fun _ h _=>h)) (by omega) HF7.out
 have HN2:=AA (HN.out.trans (if_neg h1));clear HN;by_cases h2:op=1
 ·have hb2:(op==1)=true:=by simpa using h2
  by_cases h3:mlo=0
  ·have HR:=AA (show sr=mk0 1 from by rw[HN2.out,if_pos ⟨h2,h3⟩]);clear HN2;have hb3:(mlo==0)=true:=by simpa using h3
   go_wp2_with (first
    |((go_at_call 178);(with_reducible refine(CS W0 p true).mono ?_);rintro e w2 ⟨o1,n1,m1,v1,l1,i1,A1,c1,k1,rfl,he,hs1,hf1⟩;have HE:=AA he;have HS1:=AA hs1;have HFR:=AA hf1;have HZ2:=AA (HZ.out.fr hf1 (fun e=>e));clear he hs1 hf1)
    |(refine AB rfl rfl (by rfl) (by rfl) (by exact Av) (by rfl) (by first|exact HZ2.out.alloc _|exact HZ2.out) (by rfl) ?_;intro W7 hb7 hf7;have HB7:=AA hb7;have HF7:=AA hf7;have rc7:=hb7.cell;clear hb7 hf7)
    |fail);refine bodyPost_ret (v:=.agg #[.int .i64 o1,.string n1,.int .i64 m1,.int .i64 v1,.int .i64 l1,.int .i64 i1,.slice A1 k1.len c1]) (by simp[results,Tryz.results173,go_sem,rc7]) rfl ?_;exact AQ.put (x:=⟨o1,n1,m1,v1,l1,i1⟩) (HE.out.trans HR.out.symm) HS1.out (fun k hk _=>Al HP.out (by omega) HW0.out k hk) (HF0.out.call HFR.out (fun _ h _=>h)) (by omega) HF7.out
  ·have HR:=AA (show sr=mk1 9 mlo mhi (⟨op,nm,cm,va,lo,hi⟩,ks.tr) from by rw[HN2.out,if_neg (fun e=>h3 e.2)]);clear HN2 h2;have hb3:(mlo==0)=false:=by simpa using h3
   go_wp2_with (first
    |(refine AB rfl rfl (by rfl) (by rfl) (by exact Av) (by rfl) (by first|exact HZ.out.alloc _|exact HZ.out) (by rfl) ?_;intro W7 hb7 hf7;have HB7:=AA hb7;have HF7:=AA hf7;have rc7:=hb7.cell;clear hb7 hf7)
    |fail);refine bodyPost_ret (v:=.agg #[.int .i64 9,.string ⟨#[]⟩,.int .i64 0,.int .i64 0,.int .i64 mlo,.int .i64 mhi,.slice (some ⟨W0.heap.size,0,none⟩) 1 1]) (by simp[results,Tryz.results173,go_sem,rc7]) rfl ?_;exact AQ.lit1 HR.out HS.out HP.out HF0.out (by omega) HW0.out HF7.out
 ·have hb2:(op==1)=false:=by simpa using h2
  have HR:=AA (show sr=mk1 9 mlo mhi (⟨op,nm,cm,va,lo,hi⟩,ks.tr) from by rw[HN2.out,if_neg (fun e=>h2 e.1)]);clear HN2
  go_wp2_with (first
   |(refine AB rfl rfl (by rfl) (by rfl) (by exact Av) (by rfl) (by first|exact HZ.out.alloc _|exact HZ.out) (by rfl) ?_;intro W7 hb7 hf7;have HB7:=AA hb7;have HF7:=AA hf7;have rc7:=hb7.cell;clear hb7 hf7)
   |fail);refine bodyPost_ret (v:=.agg #[.int .i64 9,.string ⟨#[]⟩,.int .i64 0,.int .i64 0,.int .i64 mlo,.int .i64 mhi,.slice (some ⟨W0.heap.size,0,none⟩) 1 1]) (by simp[results,Tryz.results173,go_sem,rc7]) rfl ?_;exact AQ.lit1 HR.out HS.out HP.out HF0.out (by omega) HW0.out HF7.out
theorem n_un (w:World)(p:Nat→Prop)(hp:∀k,p k→k<w.heap.size)(m x y:Nd)(MA A B:Option Addr)(mn mc c d:Nat)(ks js:Fo)(hs:AJ p w A c ks)(ht:AJ p w B d js):
 Calls Tryz.prog 175 #[AF m MA mn mc,AF x A ks.len c,AF y B js.len d] w (AQ w p (unS m.lo m.hi (x,ks.tr) (y,js.tr))):=by
 have HS:=AA hs;have HT:=AA ht;have HP:=AA hp;have HN:=AA (show unS m.lo m.hi (x,ks.tr) (y,js.tr)=if y.op=2 then mk0 2 else if x.op=2 then(if m.lo=0 then(y,js.tr) else mk0 2) else if x.op=1 then evS m.lo m.hi (y,js.tr) else if y.op=1∧m.lo=0 then mk0 1 else mk2 11 m.lo m.hi (x,ks.tr) (y,js.tr) from rfl);have HEV:=AA (fun W (hf:Fr Nob w W)=>n_ev W p (fun k hk=>Nat.lt_of_lt_of_le (hp k hk) hf.size) m y MA B mn mc d js (ht.fr hf));clear hs ht hp;generalize unS m.lo m.hi (x,ks.tr) (y,js.tr)=sr at*;obtain ⟨op,nm,cm,va,lo,hi⟩:=x;obtain ⟨op2,nm2,cm2,va2,lo2,hi2⟩:=y;obtain ⟨mop,mnm,mcm,mva,mlo,mhi⟩:=m;dsimp only at HN HEV;unfold AF at*;go_enter Tryz.func175,Tryz.ntmps175;go_upto_region 1 with fail;obtain ⟨W0,hW0⟩:∃W0,(((w.alloc (.cells #[.int .i64 mop,.string mnm,.int .i64 mcm,.int .i64 mva,.int .i64 mlo,.int .i64 mhi,.slice MA mn mc] 194)).alloc (.cells #[.int .i64 op,.string nm,.int .i64 cm,.int .i64 va,.int .i64 lo,.int .i64 hi,.slice A ks.len c] 28)).alloc (.cells #[.int .i64 op2,.string nm2,.int .i64 cm2,.int .i64 va2,.int .i64 lo2,.int .i64 hi2,.slice B js.len d] 28)).alloc (.cells Ab 28)=W0:=⟨_,rfl⟩;have HM0:=AA (show Blk W0 w.heap.size 194 #[.int .i64 mop,.string mnm,.int .i64 mcm,.int .i64 mva,.int .i64 mlo,.int .i64 mhi,.slice MA mn mc] by rw[←hW0];exact(((Blk.new _ _ _).alloc _).alloc _).alloc _);have HX0:=AA (show Blk W0 (w.heap.size+1) 28 #[.int .i64 op,.string nm,.int .i64 cm,.int .i64 va,.int .i64 lo,.int .i64 hi,.slice A ks.len c] by rw[←hW0];exact((Blk.new_eq (by simp)).alloc _).alloc _);have HY0:=AA (show Blk W0 (w.heap.size+1+1) 28 #[.int .i64 op2,.string nm2,.int .i64 cm2,.int .i64 va2,.int .i64 lo2,.int .i64 hi2,.slice B js.len d] by rw[←hW0];exact(Blk.new_eq (by simp)).alloc _);have HZ:=AA (show Blk W0 (w.heap.size+1+1+1) 28 Ab by rw[←hW0];exact Blk.new_eq (by simp));have HF0:=AA (show Fr Nob w W0 by rw[←hW0];exact((((Fr.refl _ _).alloc _).alloc _).alloc _).alloc _);have HW0:=AA (show w.heap.size+1+1+1<W0.heap.size from HZ.out.lt);rw [hW0];clear hW0;have mc_:=HM0.out.cell;have ml_:=HM0.out.lt;have xc:=HX0.out.cell;have xl:=HX0.out.lt;have yc:=HY0.out.cell;have yl:=HY0.out.lt;have rc:=HZ.out.cell;have rf:=HZ.out.frozen;have zl:=HZ.out.lt;by_cases h1:op2=2
 ·have HR:=AA (show sr=mk0 2 from by rw[HN.out,if_pos h1]);clear HN HEV
  go_wp2_with (first
   |((go_at_call 178);(with_reducible refine(CS W0 p false).mono ?_);rintro e w2 ⟨o1,n1,m1,v1,l1,i1,A1,c1,k1,rfl,he,hs1,hf1⟩;have HE:=AA he;have HS1:=AA hs1;have HFR:=AA hf1;have HZ2:=AA (HZ.out.fr hf1 (fun e=>e));clear he hs1 hf1)
   |(refine AB rfl rfl (by rfl) (by rfl) (by exact Av) (by rfl) (by first|exact HZ2.out.alloc _|exact HZ2.out) (by rfl) ?_;intro W7 hb7 hf7;have HB7:=AA hb7;have HF7:=AA hf7;have rc7:=hb7.cell;clear hb7 hf7)
   |fail);refine bodyPost_ret (v:=.agg #[.int .i64 o1,.string n1,.int .i64 m1,.int .i64 v1,.int .i64 l1,.int .i64 i1,.slice A1 k1.len c1]) (by simp[results,Tryz.results175,go_sem,rc7]) rfl ?_;exact AQ.put (x:=⟨o1,n1,m1,v1,l1,i1⟩) (HE.out.trans HR.out.symm) HS1.out (fun k hk _=>Al HP.out (by omega) HW0.out k hk) (HF0.out.call HFR.out (fun _ h _=>h)) (by omega) HF7.out
 have HN2:=AA (HN.out.trans (if_neg h1));clear HN;by_cases h2:op=2
 ·have hb2:(op==2)=true:=by simpa using h2
  have HN3:=AA (HN2.out.trans (if_pos h2));clear HN2 HEV;by_cases h3:mlo=0
  ·have HR:=AA (show sr=(⟨op2,nm2,cm2,va2,lo2,hi2⟩,js.tr) from by rw[HN3.out,if_pos h3]);clear HN3;have hb3:(mlo==0)=true:=by simpa using h3
   go_wp2_with (first
    |(refine AB rfl rfl (by rfl) (by rfl) (by exact Av) (by rfl) (by first|exact HZ.out.alloc _|exact HZ.out) (by rfl) ?_;intro W7 hb7 hf7;have HB7:=AA hb7;have HF7:=AA hf7;have rc7:=hb7.cell;clear hb7 hf7)
    |fail);refine bodyPost_ret (v:=.agg #[.int .i64 op2,.string nm2,.int .i64 cm2,.int .i64 va2,.int .i64 lo2,.int .i64 hi2,.slice B js.len d]) (by simp[results,Tryz.results175,go_sem,rc7]) rfl ?_;exact AQ.same (x:=⟨op2,nm2,cm2,va2,lo2,hi2⟩) HR.out HT.out HP.out HF0.out (by omega) HF7.out
  ·have HR:=AA (show sr=mk0 2 from by rw[HN3.out,if_neg h3]);clear HN3;have hb3:(mlo==0)=false:=by simpa using h3
   go_wp2_with (first
    |((go_at_call 178);(with_reducible refine(CS W0 p false).mono ?_);rintro e w2 ⟨o1,n1,m1,v1,l1,i1,A1,c1,k1,rfl,he,hs1,hf1⟩;have HE:=AA he;have HS1:=AA hs1;have HFR:=AA hf1;have HZ2:=AA (HZ.out.fr hf1 (fun e=>e));clear he hs1 hf1)
    |(refine AB rfl rfl (by rfl) (by rfl) (by exact Av) (by rfl) (by first|exact HZ2.out.alloc _|exact HZ2.out) (by rfl) ?_;intro W7 hb7 hf7;have HB7:=AA hb7;have HF7:=AA hf7;have rc7:=hb7.cell;clear hb7 hf7)
    |fail);refine bodyPost_ret (v:=.agg #[.int .i64 o1,.string n1,.int .i64 m1,.int .i64 v1,.int .i64 l1,.int .i64 i1,.slice A1 k1.len c1]) (by simp[results,Tryz.results175,go_sem,rc7]) rfl ?_;exact AQ.put (x:=⟨o1,n1,m1,v1,l1,i1⟩) (HE.out.trans HR.out.symm) HS1.out (fun k hk _=>Al HP.out (by omega) HW0.out k hk) (HF0.out.call HFR.out (fun _ h _=>h)) (by omega) HF7.out
 have hb2:(op==2)=false:=by simpa using h2
 have HN3:=AA (HN2.out.trans (if_neg h2));clear HN2;by_cases h4:op=1
 ·have HR:=AA (show sr=evS mlo mhi (⟨op2,nm2,cm2,va2,lo2,hi2⟩,js.tr) from by rw[HN3.out,if_pos h4]);clear HN3
  go_wp2_with (first
   |((go_at_call 173);(with_reducible refine(HEV.out W0 HF0.out).mono ?_);rintro e w2 ⟨o1,n1,m1,v1,l1,i1,A1,c1,k1,rfl,he,hs1,hf1⟩;have HE:=AA he;have HS1:=AA hs1;have HFR:=AA hf1;have HZ2:=AA (HZ.out.fr hf1 (fun e=>e));clear he hs1 hf1)
   |(refine AB rfl rfl (by rfl) (by rfl) (by exact Av) (by rfl) (by first|exact HZ2.out.alloc _|exact HZ2.out) (by rfl) ?_;intro W7 hb7 hf7;have HB7:=AA hb7;have HF7:=AA hf7;have rc7:=hb7.cell;clear hb7 hf7)
   |fail);refine bodyPost_ret (v:=.agg #[.int .i64 o1,.string n1,.int .i64 m1,.int .i64 v1,.int .i64 l1,.int .i64 i1,.slice A1 k1.len c1]) (by simp[results,Tryz.results175,go_sem,rc7]) rfl ?_;exact AQ.put (x:=⟨o1,n1,m1,v1,l1,i1⟩) (HE.out.trans HR.out.symm) HS1.out (fun k hk _=>Al HP.out (by omega) HW0.out k hk) (HF0.out.call HFR.out (fun _ h _=>h)) (by omega) HF7.out
 have HN4:=AA (HN3.out.trans (if_neg h4));clear HN3 HEV;by_cases h5:op2=1
 ·have hb5:(op2==1)=true:=by simpa using h5
  by_cases h3:mlo=0
  ·have HR:=AA (show sr=mk0 1 from by rw[HN4.out,if_pos ⟨h5,h3⟩]);clear HN4;have hb3:(mlo==0)=true:=by simpa using h3
   go_wp2_with (first
    |((go_at_call 178);(with_reducible refine(CS W0 p true).mono ?_);rintro e w2 ⟨o1,n1,m1,v1,l1,i1,A1,c1,k1,rfl,he,hs1,hf1⟩;have HE:=AA he;have HS1:=AA hs1;have HFR:=AA hf1;have HZ2:=AA (HZ.out.fr hf1 (fun e=>e));clear he hs1 hf1)
    |(refine AB rfl rfl (by rfl) (by rfl) (by exact Av) (by rfl) (by first|exact HZ2.out.alloc _|exact HZ2.out) (by rfl) ?_;intro W7 hb7 hf7;have HB7:=AA hb7;have HF7:=AA hf7;have rc7:=hb7.cell;clear hb7 hf7)
    |fail);refine bodyPost_ret (v:=.agg #[.int .i64 o1,.string n1,.int .i64 m1,.int .i64 v1,.int .i64 l1,.int .i64 i1,.slice A1 k1.len c1]) (by simp[results,Tryz.results175,go_sem,rc7]) rfl ?_;exact AQ.put (x:=⟨o1,n1,m1,v1,l1,i1⟩) (HE.out.trans HR.out.symm) HS1.out (fun k hk _=>Al HP.out (by omega) HW0.out k hk) (HF0.out.call HFR.out (fun _ h _=>h)) (by omega) HF7.out
  ·have HR:=AA (show sr=mk2 11 mlo mhi (⟨op,nm,cm,va,lo,hi⟩,ks.tr) (⟨op2,nm2,cm2,va2,lo2,hi2⟩,js.tr) from by rw[HN4.out,if_neg (fun e=>h3 e.2)]);clear HN4 h5;have hb3:(mlo==0)=false:=by simpa using h3
   go_wp2_with (first
    |(refine AB rfl rfl (by rfl) (by rfl) (by exact Av) (by rfl) (by first|exact HZ.out.alloc _|exact HZ.out) (by rfl) ?_;intro W7 hb7 hf7;have HB7:=AA hb7;have HF7:=AA hf7;have rc7:=hb7.cell;clear hb7 hf7)
    |fail);refine bodyPost_ret (v:=.agg #[.int .i64 11,.string ⟨#[]⟩,.int .i64 0,.int .i64 0,.int .i64 mlo,.int .i64 mhi,.slice (some ⟨W0.heap.size,0,none⟩) 2 2]) (by simp[results,Tryz.results175,go_sem,rc7]) rfl ?_;exact AQ.lit2 HR.out HS.out HT.out HP.out HF0.out (by omega) HW0.out HF7.out
 ·have hb5:(op2==1)=false:=by simpa using h5
  have HR:=AA (show sr=mk2 11 mlo mhi (⟨op,nm,cm,va,lo,hi⟩,ks.tr) (⟨op2,nm2,cm2,va2,lo2,hi2⟩,js.tr) from by rw[HN4.out,if_neg (fun e=>h5 e.1)]);clear HN4
  go_wp2_with (first
   |(refine AB rfl rfl (by rfl) (by rfl) (by exact Av) (by rfl) (by first|exact HZ.out.alloc _|exact HZ.out) (by rfl) ?_;intro W7 hb7 hf7;have HB7:=AA hb7;have HF7:=AA hf7;have rc7:=hb7.cell;clear hb7 hf7)
   |fail);refine bodyPost_ret (v:=.agg #[.int .i64 11,.string ⟨#[]⟩,.int .i64 0,.int .i64 0,.int .i64 mlo,.int .i64 mhi,.slice (some ⟨W0.heap.size,0,none⟩) 2 2]) (by simp[results,Tryz.results175,go_sem,rc7]) rfl ?_;exact AQ.lit2 HR.out HS.out HT.out HP.out HF0.out (by omega) HW0.out HF7.out
end Go.Proofs.YtoegdmpmagbaiaaGreatDoor
