/- norm.become: what a kind of node becomes. -/
import Derived.Test.YtoegdmpmagbaiaaGreatDoorKH
import Derived.Test.YtoegdmpmagbaiaaGreatDoorQH10b
import Derived.Test.YtoegdmpmagbaiaaGreatDoorKK
import Derived.Test.YtoegdmpmagbaiaaGreatDoorKA
namespace Go.Proofs.YtoegdmpmagbaiaaGreatDoor
open Go.RowKit Go.Lib

abbrev mval (m : Nd) (MA : Option Addr) (mn mc : Nat) : Value := .agg #[.int .i64 m.op, .string m.name, .int .i64 m.cmp, .int .i64 m.val, .int .i64 m.lo, .int .i64 m.hi, .slice MA mn mc]
abbrev marr (m : Nd) (MA : Option Addr) (mn mc : Nat) : Array Value := #[.int .i64 m.op, .string m.name, .int .i64 m.cmp, .int .i64 m.val, .int .i64 m.lo, .int .i64 m.hi, .slice MA mn mc]
/-- The rows, as they are laid. -/
def rowsA (m : Nd) (MA : Option Addr) (mn mc mb : Nat) : Array Value := #[.int .i64 1, .func (.func 165) #[mval m MA mn mc] #[], .int .i64 2, .func (.func 165) #[mval m MA mn mc] #[], .int .i64 3, .func (.func 165) #[mval m MA mn mc] #[], .int .i64 4, .func (.func 166) #[] #[], .int .i64 5, .func (.func 168) #[] #[], .int .i64 6, .func (.func 169) #[] #[], .int .i64 7, .func (.func 170) #[] #[], .int .i64 8, .func (.func 171) #[] #[], .int .i64 9, .func (.func 172) #[] #[.pointer (some ⟨mb, 0, none⟩)], .int .i64 10, .func (.func 174) #[] #[.pointer (some ⟨mb, 0, none⟩)], .int .i64 11, .func (.func 175) #[mval m MA mn mc] #[], .int .i64 12, .func (.func 176) #[] #[.pointer (some ⟨mb, 0, none⟩)]]
theorem rowsA_op (m : Nd) (MA : Option Addr) (mn mc mb k : Nat) (h : k < 12) : (rowsA m MA mn mc mb)[k * 2]? = some (.int .i64 ((k : Int) + 1)) ∧ ∃ f a b, (rowsA m MA mn mc mb)[k * 2 + 1]? = some (.func f a b) := by
  have : k = 0 ∨ k = 1 ∨ k = 2 ∨ k = 3 ∨ k = 4 ∨ k = 5 ∨ k = 6 ∨ k = 7 ∨ k = 8 ∨ k = 9 ∨ k = 10 ∨ k = 11 := by omega
  rcases this with rfl | rfl | rfl | rfl | rfl | rfl | rfl | rfl | rfl | rfl | rfl | rfl <;> exact ⟨rfl, _, _, _, rfl⟩
def RowsR (w : World) (m : Nd) (MA : Option Addr) (mn mc : Nat) (e : Ending) (w' : World) : Prop := ∃ A mb, e = .returned (.slice (some ⟨A, 0, none⟩) 12 12) ∧ Blk w' A 199 (rowsA m MA mn mc mb) ∧ Blk w' mb 194 (marr m MA mn mc) ∧ w.heap.size ≤ A ∧ w.heap.size ≤ mb ∧ Fr Nob w w'
set_option maxRecDepth 100000 in
set_option maxHeartbeats 16000000 in
theorem n_rows (w : World) (m : Nd) (MA : Option Addr) (mn mc : Nat) : Calls Tryz.prog 145 #[fval m MA mn mc] w (RowsR w m MA mn mc) := by
  obtain ⟨mop, mnm, mcm, mva, mlo, mhi⟩ := m
  unfold fval
  dsimp only
  go_enter Tryz.func145, Tryz.ntmps145
  go_wp2_with fail
  go_ret
  exact ⟨w.heap.size + 1, w.heap.size, rfl, Blk.new_eq (by simp), (Blk.new _ _ _).alloc _, by omega, Nat.le_refl _, ((Fr.refl _ _).alloc _).alloc _⟩
end Go.Proofs.YtoegdmpmagbaiaaGreatDoor

/- norm.become: what a kind of node becomes. -/
namespace Go.Proofs.YtoegdmpmagbaiaaGreatDoor
open Go.RowKit Go.Lib

theorem infoRow : (Tryz.prog.info? 199).map (·.size) = some 2 := by kernel_rfl
set_option maxRecDepth 100000 in
set_option maxHeartbeats 16000000 in
theorem become_1 (w : World) (p : Nat → Prop) (hp : ∀ k, p k → k < w.heap.size) (nm0 : ByteArray) (cm0 va0 lo0 hi0 : Int) (x y : Nd) (NA A B : Option Addr) (nn nc c d : Nat) (ks js : Fo) (hs : FoSlP p w A c ks) (ht : FoSlP p w B d js) (hx : (4 : Int) ≤ 1 → coreS (x, ks.tr)) (hy : (4 : Int) ≤ 1 → (1 : Int) ≠ 4 → (1 : Int) ≠ 9 → (1 : Int) ≠ 10 → coreS (y, js.tr)) (hz : szS (y, js.tr) ≤ 90000) :
    Calls Tryz.prog 111 #[fval ⟨1, nm0, cm0, va0, lo0, hi0⟩ NA nn nc, fval x A ks.len c, fval y B js.len d] w (FRes w p (becS ⟨1, nm0, cm0, va0, lo0, hi0⟩ (x, ks.tr) (y, js.tr))) := by
  have HP := Lib.hid hp
  obtain ⟨sr, hsr⟩ : ∃ sr, sr = becS ⟨1, nm0, cm0, va0, lo0, hi0⟩ (x, ks.tr) (y, js.tr) := ⟨_, rfl⟩
  rw [← hsr]
  have HSR := Lib.hid hsr
  have HS := Lib.hid hs
  have HT := Lib.hid ht
  have HX := Lib.hid hx
  have HY := Lib.hid hy
  have hzz := Lib.hid hz
  clear hp hs ht hx hy hz hsr
  have HCX := HX
  clear HX
  obtain ⟨op, nm, cm, va, lo, hi⟩ := x
  obtain ⟨op2, nm2, cm2, va2, lo2, hi2⟩ := y
  have HRC := Lib.hid (fun W => n_rows W ⟨1, nm0, cm0, va0, lo0, hi0⟩ NA nn nc)
  unfold fval at *
  dsimp only at HRC
  go_enter Tryz.func111, Tryz.ntmps111
  go_upto_region 1 with fail
  obtain ⟨W0, hW0⟩ : ∃ W0, (((w.alloc (.cells #[.int .i64 1, .string nm0, .int .i64 cm0, .int .i64 va0, .int .i64 lo0, .int .i64 hi0, .slice NA nn nc] 28)).alloc (.cells #[.int .i64 op, .string nm, .int .i64 cm, .int .i64 va, .int .i64 lo, .int .i64 hi, .slice A ks.len c] 28)).alloc (.cells #[.int .i64 op2, .string nm2, .int .i64 cm2, .int .i64 va2, .int .i64 lo2, .int .i64 hi2, .slice B js.len d] 28)).alloc (.cells zarr 28) = W0 := ⟨_, rfl⟩
  have HNB := Lib.hid (show Blk W0 w.heap.size 28 #[.int .i64 1, .string nm0, .int .i64 cm0, .int .i64 va0, .int .i64 lo0, .int .i64 hi0, .slice NA nn nc] by rw [← hW0]; exact (((Blk.new _ _ _).alloc _).alloc _).alloc _)
  have HX0 := Lib.hid (show Blk W0 (w.heap.size + 1) 28 #[.int .i64 op, .string nm, .int .i64 cm, .int .i64 va, .int .i64 lo, .int .i64 hi, .slice A ks.len c] by rw [← hW0]; exact ((Blk.new_eq (by simp)).alloc _).alloc _)
  have HY0 := Lib.hid (show Blk W0 (w.heap.size + 1 + 1) 28 #[.int .i64 op2, .string nm2, .int .i64 cm2, .int .i64 va2, .int .i64 lo2, .int .i64 hi2, .slice B js.len d] by rw [← hW0]; exact (Blk.new_eq (by simp)).alloc _)
  have HZ := Lib.hid (show Blk W0 (w.heap.size + 1 + 1 + 1) 28 zarr by rw [← hW0]; exact Blk.new_eq (by simp))
  have HF0 := Lib.hid (show Fr Nob w W0 by rw [← hW0]; exact ((((Fr.refl _ _).alloc _).alloc _).alloc _).alloc _)
  have HW0 := Lib.hid (show w.heap.size + 1 + 1 + 1 < W0.heap.size from HZ.out.lt)
  rw [hW0]
  clear hW0
  have hcn := HNB.out.cell
  have hln := HNB.out.lt
  go_upto_region 3 with (first
    | ((go_at_call 145); (with_reducible refine (HRC.out _).mono ?_); rintro e w1 ⟨RA, mb, rfl, hra, hmb, hr1, hr2, hfr⟩; have HRA := Lib.hid hra; have HMB := Lib.hid hmb; have HF1 := Lib.hid (HF0.out.call (((Fr.refl Nob W0).alloc _).call hfr (fun _ h _ => h)) (fun _ h _ => h)); have HNW := Lib.hid (((Fr.refl Nob W0).alloc _).call hfr (fun _ h _ => h)); clear hra hmb hr1 hr2 hfr)
    | fail)
  clear hcn hln
  go_loopw [15] (fun iv wr => ∃ k : Nat, k < 1 ∧ iv = .int .i64 k ∧ Hid (Fr Nob w1 wr)) (fun iv _ => 12 - (intOf iv).toNat)
  case atStart => exact ⟨0, by decide, rfl, Lib.hid (Fr.refl _ _)⟩
  case round =>
    obtain ⟨k, hk, rfl, hfr⟩ := hrel
    have HRW := Lib.hid (HRA.out.fr hfr.out (fun e => e))
    have HNR := Lib.hid ((HNB.out.fr HNW.out (fun e => e)).fr hfr.out (fun e => e))
    obtain ⟨ro, rf_, ra_, rb_, rv⟩ := rowsA_op ⟨1, nm0, cm0, va0, lo0, hi0⟩ NA nn nc mb k (by omega)
    have c0 := (HRW.out.cell (k * 2)).trans ro
    have c1 := (HRW.out.cell (k * 2 + 1)).trans rv
    have nc0 : wr.cell? ⟨w.heap.size, 0, none⟩ = some (.int .i64 1) := HNR.out.cell 0
    have nl0 := HNR.out.lt
    have rl0 := HRW.out.lt
    have hk12 : (k : Int) < 12 := by omega
    clear ro rv
    by_cases hkn : k + 1 = 1
    · obtain rfl : k = 1 - 1 := by omega
      clear c0 c1
      have c0 : wr.cell? ⟨RA, 0, none⟩ = some (.int .i64 1) := HRW.out.cell 0
      have c1 : wr.cell? ⟨RA, 1, none⟩ = some (.func (.func 165) #[.agg #[.int .i64 1, .string nm0, .int .i64 cm0, .int .i64 va0, .int .i64 lo0, .int .i64 hi0, .slice NA nn nc]] #[]) := HRW.out.cell 1
      clear hk hk12
      go_upto_region 6 with (first
        | (refine wpList_stBox rfl rfl (by rfl) (by rfl) (by exact infoRow) (by rfl) (by exact Blk.new _ _ _) (by rfl) ?_; intro wq hbq hfq; have HBQ := Lib.hid hbq; have HFQ := Lib.hid (show Fr Nob wr wq from ((Fr.refl Nob wr).alloc _).call hfq (fun i e hlt => by have : i = wr.heap.size := e; omega)); have qc := hbq.cell; have ql := hbq.lt; have nc1 : wq.cell? ⟨w.heap.size, 0, none⟩ = some (.int .i64 1) := (HNR.out.fr HFQ.out (fun e => e)).cell 0; have nl1 := (HNR.out.fr HFQ.out (fun e => e)).lt; clear hbq hfq c0 c1 nc0 nl0 rl0)
        | fail)
      have HFC := Lib.hid ((HF1.out.call hfr.out (fun _ h _ => h)).call HFQ.out (fun _ h _ => h))
      have HWQ := Lib.hid ((HNW.out.call hfr.out (fun _ h _ => h)).call HFQ.out (fun _ h _ => h))
      have HX1 := Lib.hid (HX0.out.fr HWQ.out (fun e => e))
      have HY1 := Lib.hid (HY0.out.fr HWQ.out (fun e => e))
      replace HZ := Lib.hid (HZ.out.fr HWQ.out (fun e => e))
      have HM1 := Lib.hid ((HMB.out.fr hfr.out (fun e => e)).fr HFQ.out (fun e => e))
      have xc := HX1.out.cell
      have xl := HX1.out.lt
      have yc := HY1.out.cell
      have yl := HY1.out.lt
      have HZL := Lib.hid HZ.out.lt
      have HPW := Lib.hid (fun k hk => Nat.lt_of_lt_of_le (HP.out k hk) HFC.out.size)
      have HSW := Lib.hid (HS.out.fr HFC.out)
      have HTW := Lib.hid (HT.out.fr HFC.out)
      clear nc1 nl1
      have HCC := Lib.hid (c_self wq p ⟨1, nm0, cm0, va0, lo0, hi0⟩ ⟨op, nm, cm, va, lo, hi⟩ ⟨op2, nm2, cm2, va2, lo2, hi2⟩ NA A B nn nc ks.len c js.len d)
      unfold fval at HCC
      dsimp only at HCC
      go_wp2_with (first
        | ((go_at_call 165); (with_reducible refine (HCC.out).mono ?_); rintro e w2 ⟨o1, n1, m1, v1, l1, i1, A1, c1, k1, rfl, he, hs1, hf1⟩; have HE := Lib.hid he; have HS1 := Lib.hid hs1; have HFR := Lib.hid hf1; have HZ2 := Lib.hid (HZ.out.fr hf1 (fun e => e)); clear he hs1 hf1)
        | (refine wpList_stBox rfl rfl (by rfl) (by rfl) (by exact infoF) (by rfl) (by first | exact HZ2.out.alloc _ | exact HZ2.out) (by rfl) ?_; intro W7 hb7 hf7; have HB7 := Lib.hid hb7; have HF7 := Lib.hid hf7; have rc7 := hb7.cell; clear hb7 hf7)
        | fail)
      refine bodyPost_ret (v := .agg #[.int .i64 o1, .string n1, .int .i64 m1, .int .i64 v1, .int .i64 l1, .int .i64 i1, .slice A1 k1.len c1]) (by simp [results, Tryz.results111, go_sem, rc7]) rfl ?_
      exact FRes.put (x := ⟨o1, n1, m1, v1, l1, i1⟩) (HE.out.trans HSR.out.symm) HS1.out (fun k hk _ => hq_call HP.out (by omega) HZL.out k hk) (HFC.out.call HFR.out (fun _ h _ => h)) (by omega) HF7.out
    · omega

set_option maxRecDepth 100000 in
set_option maxHeartbeats 16000000 in
theorem become_2 (w : World) (p : Nat → Prop) (hp : ∀ k, p k → k < w.heap.size) (nm0 : ByteArray) (cm0 va0 lo0 hi0 : Int) (x y : Nd) (NA A B : Option Addr) (nn nc c d : Nat) (ks js : Fo) (hs : FoSlP p w A c ks) (ht : FoSlP p w B d js) (hx : (4 : Int) ≤ 2 → coreS (x, ks.tr)) (hy : (4 : Int) ≤ 2 → (2 : Int) ≠ 4 → (2 : Int) ≠ 9 → (2 : Int) ≠ 10 → coreS (y, js.tr)) (hz : szS (y, js.tr) ≤ 90000) :
    Calls Tryz.prog 111 #[fval ⟨2, nm0, cm0, va0, lo0, hi0⟩ NA nn nc, fval x A ks.len c, fval y B js.len d] w (FRes w p (becS ⟨2, nm0, cm0, va0, lo0, hi0⟩ (x, ks.tr) (y, js.tr))) := by
  have HP := Lib.hid hp
  obtain ⟨sr, hsr⟩ : ∃ sr, sr = becS ⟨2, nm0, cm0, va0, lo0, hi0⟩ (x, ks.tr) (y, js.tr) := ⟨_, rfl⟩
  rw [← hsr]
  have HSR := Lib.hid hsr
  have HS := Lib.hid hs
  have HT := Lib.hid ht
  have HX := Lib.hid hx
  have HY := Lib.hid hy
  have hzz := Lib.hid hz
  clear hp hs ht hx hy hz hsr
  have HCX := HX
  clear HX
  obtain ⟨op, nm, cm, va, lo, hi⟩ := x
  obtain ⟨op2, nm2, cm2, va2, lo2, hi2⟩ := y
  have HRC := Lib.hid (fun W => n_rows W ⟨2, nm0, cm0, va0, lo0, hi0⟩ NA nn nc)
  unfold fval at *
  dsimp only at HRC
  go_enter Tryz.func111, Tryz.ntmps111
  go_upto_region 1 with fail
  obtain ⟨W0, hW0⟩ : ∃ W0, (((w.alloc (.cells #[.int .i64 2, .string nm0, .int .i64 cm0, .int .i64 va0, .int .i64 lo0, .int .i64 hi0, .slice NA nn nc] 28)).alloc (.cells #[.int .i64 op, .string nm, .int .i64 cm, .int .i64 va, .int .i64 lo, .int .i64 hi, .slice A ks.len c] 28)).alloc (.cells #[.int .i64 op2, .string nm2, .int .i64 cm2, .int .i64 va2, .int .i64 lo2, .int .i64 hi2, .slice B js.len d] 28)).alloc (.cells zarr 28) = W0 := ⟨_, rfl⟩
  have HNB := Lib.hid (show Blk W0 w.heap.size 28 #[.int .i64 2, .string nm0, .int .i64 cm0, .int .i64 va0, .int .i64 lo0, .int .i64 hi0, .slice NA nn nc] by rw [← hW0]; exact (((Blk.new _ _ _).alloc _).alloc _).alloc _)
  have HX0 := Lib.hid (show Blk W0 (w.heap.size + 1) 28 #[.int .i64 op, .string nm, .int .i64 cm, .int .i64 va, .int .i64 lo, .int .i64 hi, .slice A ks.len c] by rw [← hW0]; exact ((Blk.new_eq (by simp)).alloc _).alloc _)
  have HY0 := Lib.hid (show Blk W0 (w.heap.size + 1 + 1) 28 #[.int .i64 op2, .string nm2, .int .i64 cm2, .int .i64 va2, .int .i64 lo2, .int .i64 hi2, .slice B js.len d] by rw [← hW0]; exact (Blk.new_eq (by simp)).alloc _)
  have HZ := Lib.hid (show Blk W0 (w.heap.size + 1 + 1 + 1) 28 zarr by rw [← hW0]; exact Blk.new_eq (by simp))
  have HF0 := Lib.hid (show Fr Nob w W0 by rw [← hW0]; exact ((((Fr.refl _ _).alloc _).alloc _).alloc _).alloc _)
  have HW0 := Lib.hid (show w.heap.size + 1 + 1 + 1 < W0.heap.size from HZ.out.lt)
  rw [hW0]
  clear hW0
  have hcn := HNB.out.cell
  have hln := HNB.out.lt
  go_upto_region 3 with (first
    | ((go_at_call 145); (with_reducible refine (HRC.out _).mono ?_); rintro e w1 ⟨RA, mb, rfl, hra, hmb, hr1, hr2, hfr⟩; have HRA := Lib.hid hra; have HMB := Lib.hid hmb; have HF1 := Lib.hid (HF0.out.call (((Fr.refl Nob W0).alloc _).call hfr (fun _ h _ => h)) (fun _ h _ => h)); have HNW := Lib.hid (((Fr.refl Nob W0).alloc _).call hfr (fun _ h _ => h)); clear hra hmb hr1 hr2 hfr)
    | fail)
  clear hcn hln
  go_loopw [15] (fun iv wr => ∃ k : Nat, k < 2 ∧ iv = .int .i64 k ∧ Hid (Fr Nob w1 wr)) (fun iv _ => 12 - (intOf iv).toNat)
  case atStart => exact ⟨0, by decide, rfl, Lib.hid (Fr.refl _ _)⟩
  case round =>
    obtain ⟨k, hk, rfl, hfr⟩ := hrel
    have HRW := Lib.hid (HRA.out.fr hfr.out (fun e => e))
    have HNR := Lib.hid ((HNB.out.fr HNW.out (fun e => e)).fr hfr.out (fun e => e))
    obtain ⟨ro, rf_, ra_, rb_, rv⟩ := rowsA_op ⟨2, nm0, cm0, va0, lo0, hi0⟩ NA nn nc mb k (by omega)
    have c0 := (HRW.out.cell (k * 2)).trans ro
    have c1 := (HRW.out.cell (k * 2 + 1)).trans rv
    have nc0 : wr.cell? ⟨w.heap.size, 0, none⟩ = some (.int .i64 2) := HNR.out.cell 0
    have nl0 := HNR.out.lt
    have rl0 := HRW.out.lt
    have hk12 : (k : Int) < 12 := by omega
    clear ro rv
    by_cases hkn : k + 1 = 2
    · obtain rfl : k = 2 - 1 := by omega
      clear c0 c1
      have c0 : wr.cell? ⟨RA, 2, none⟩ = some (.int .i64 2) := HRW.out.cell 2
      have c1 : wr.cell? ⟨RA, 3, none⟩ = some (.func (.func 165) #[.agg #[.int .i64 2, .string nm0, .int .i64 cm0, .int .i64 va0, .int .i64 lo0, .int .i64 hi0, .slice NA nn nc]] #[]) := HRW.out.cell 3
      clear hk hk12
      go_upto_region 6 with (first
        | (refine wpList_stBox rfl rfl (by rfl) (by rfl) (by exact infoRow) (by rfl) (by exact Blk.new _ _ _) (by rfl) ?_; intro wq hbq hfq; have HBQ := Lib.hid hbq; have HFQ := Lib.hid (show Fr Nob wr wq from ((Fr.refl Nob wr).alloc _).call hfq (fun i e hlt => by have : i = wr.heap.size := e; omega)); have qc := hbq.cell; have ql := hbq.lt; have nc1 : wq.cell? ⟨w.heap.size, 0, none⟩ = some (.int .i64 2) := (HNR.out.fr HFQ.out (fun e => e)).cell 0; have nl1 := (HNR.out.fr HFQ.out (fun e => e)).lt; clear hbq hfq c0 c1 nc0 nl0 rl0)
        | fail)
      have HFC := Lib.hid ((HF1.out.call hfr.out (fun _ h _ => h)).call HFQ.out (fun _ h _ => h))
      have HWQ := Lib.hid ((HNW.out.call hfr.out (fun _ h _ => h)).call HFQ.out (fun _ h _ => h))
      have HX1 := Lib.hid (HX0.out.fr HWQ.out (fun e => e))
      have HY1 := Lib.hid (HY0.out.fr HWQ.out (fun e => e))
      replace HZ := Lib.hid (HZ.out.fr HWQ.out (fun e => e))
      have HM1 := Lib.hid ((HMB.out.fr hfr.out (fun e => e)).fr HFQ.out (fun e => e))
      have xc := HX1.out.cell
      have xl := HX1.out.lt
      have yc := HY1.out.cell
      have yl := HY1.out.lt
      have HZL := Lib.hid HZ.out.lt
      have HPW := Lib.hid (fun k hk => Nat.lt_of_lt_of_le (HP.out k hk) HFC.out.size)
      have HSW := Lib.hid (HS.out.fr HFC.out)
      have HTW := Lib.hid (HT.out.fr HFC.out)
      clear nc1 nl1
      have HCC := Lib.hid (c_self wq p ⟨2, nm0, cm0, va0, lo0, hi0⟩ ⟨op, nm, cm, va, lo, hi⟩ ⟨op2, nm2, cm2, va2, lo2, hi2⟩ NA A B nn nc ks.len c js.len d)
      unfold fval at HCC
      dsimp only at HCC
      go_wp2_with (first
        | ((go_at_call 165); (with_reducible refine (HCC.out).mono ?_); rintro e w2 ⟨o1, n1, m1, v1, l1, i1, A1, c1, k1, rfl, he, hs1, hf1⟩; have HE := Lib.hid he; have HS1 := Lib.hid hs1; have HFR := Lib.hid hf1; have HZ2 := Lib.hid (HZ.out.fr hf1 (fun e => e)); clear he hs1 hf1)
        | (refine wpList_stBox rfl rfl (by rfl) (by rfl) (by exact infoF) (by rfl) (by first | exact HZ2.out.alloc _ | exact HZ2.out) (by rfl) ?_; intro W7 hb7 hf7; have HB7 := Lib.hid hb7; have HF7 := Lib.hid hf7; have rc7 := hb7.cell; clear hb7 hf7)
        | fail)
      refine bodyPost_ret (v := .agg #[.int .i64 o1, .string n1, .int .i64 m1, .int .i64 v1, .int .i64 l1, .int .i64 i1, .slice A1 k1.len c1]) (by simp [results, Tryz.results111, go_sem, rc7]) rfl ?_
      exact FRes.put (x := ⟨o1, n1, m1, v1, l1, i1⟩) (HE.out.trans HSR.out.symm) HS1.out (fun k hk _ => hq_call HP.out (by omega) HZL.out k hk) (HFC.out.call HFR.out (fun _ h _ => h)) (by omega) HF7.out
    · have hkb : ((k : Int) + 1 == 2) = false := by simp; omega
      go_wp2_with (first
        | (refine wpList_stBox rfl rfl (by rfl) (by rfl) (by exact infoRow) (by rfl) (by exact Blk.new _ _ _) (by rfl) ?_; intro wq hbq hfq; have HBQ := Lib.hid hbq; have HFQ := Lib.hid (show Fr Nob wr wq from ((Fr.refl Nob wr).alloc _).call hfq (fun i e hlt => by have : i = wr.heap.size := e; omega)); have qc := hbq.cell; have ql := hbq.lt; have nc1 : wq.cell? ⟨w.heap.size, 0, none⟩ = some (.int .i64 2) := (HNR.out.fr HFQ.out (fun e => e)).cell 0; have nl1 := (HNR.out.fr HFQ.out (fun e => e)).lt; clear hbq hfq c0 c1 nc0 nl0 rl0)
        | fail)
      go_roundw
      case rel => exact ⟨k + 1, by omega, by go_num, Lib.hid (hfr.out.call HFQ.out (fun _ h _ => h))⟩
      case measure => simp [intOf]; omega

set_option maxRecDepth 100000 in
set_option maxHeartbeats 16000000 in
theorem become_3 (w : World) (p : Nat → Prop) (hp : ∀ k, p k → k < w.heap.size) (nm0 : ByteArray) (cm0 va0 lo0 hi0 : Int) (x y : Nd) (NA A B : Option Addr) (nn nc c d : Nat) (ks js : Fo) (hs : FoSlP p w A c ks) (ht : FoSlP p w B d js) (hx : (4 : Int) ≤ 3 → coreS (x, ks.tr)) (hy : (4 : Int) ≤ 3 → (3 : Int) ≠ 4 → (3 : Int) ≠ 9 → (3 : Int) ≠ 10 → coreS (y, js.tr)) (hz : szS (y, js.tr) ≤ 90000) :
    Calls Tryz.prog 111 #[fval ⟨3, nm0, cm0, va0, lo0, hi0⟩ NA nn nc, fval x A ks.len c, fval y B js.len d] w (FRes w p (becS ⟨3, nm0, cm0, va0, lo0, hi0⟩ (x, ks.tr) (y, js.tr))) := by
  have HP := Lib.hid hp
  obtain ⟨sr, hsr⟩ : ∃ sr, sr = becS ⟨3, nm0, cm0, va0, lo0, hi0⟩ (x, ks.tr) (y, js.tr) := ⟨_, rfl⟩
  rw [← hsr]
  have HSR := Lib.hid hsr
  have HS := Lib.hid hs
  have HT := Lib.hid ht
  have HX := Lib.hid hx
  have HY := Lib.hid hy
  have hzz := Lib.hid hz
  clear hp hs ht hx hy hz hsr
  have HCX := HX
  clear HX
  obtain ⟨op, nm, cm, va, lo, hi⟩ := x
  obtain ⟨op2, nm2, cm2, va2, lo2, hi2⟩ := y
  have HRC := Lib.hid (fun W => n_rows W ⟨3, nm0, cm0, va0, lo0, hi0⟩ NA nn nc)
  unfold fval at *
  dsimp only at HRC
  go_enter Tryz.func111, Tryz.ntmps111
  go_upto_region 1 with fail
  obtain ⟨W0, hW0⟩ : ∃ W0, (((w.alloc (.cells #[.int .i64 3, .string nm0, .int .i64 cm0, .int .i64 va0, .int .i64 lo0, .int .i64 hi0, .slice NA nn nc] 28)).alloc (.cells #[.int .i64 op, .string nm, .int .i64 cm, .int .i64 va, .int .i64 lo, .int .i64 hi, .slice A ks.len c] 28)).alloc (.cells #[.int .i64 op2, .string nm2, .int .i64 cm2, .int .i64 va2, .int .i64 lo2, .int .i64 hi2, .slice B js.len d] 28)).alloc (.cells zarr 28) = W0 := ⟨_, rfl⟩
  have HNB := Lib.hid (show Blk W0 w.heap.size 28 #[.int .i64 3, .string nm0, .int .i64 cm0, .int .i64 va0, .int .i64 lo0, .int .i64 hi0, .slice NA nn nc] by rw [← hW0]; exact (((Blk.new _ _ _).alloc _).alloc _).alloc _)
  have HX0 := Lib.hid (show Blk W0 (w.heap.size + 1) 28 #[.int .i64 op, .string nm, .int .i64 cm, .int .i64 va, .int .i64 lo, .int .i64 hi, .slice A ks.len c] by rw [← hW0]; exact ((Blk.new_eq (by simp)).alloc _).alloc _)
  have HY0 := Lib.hid (show Blk W0 (w.heap.size + 1 + 1) 28 #[.int .i64 op2, .string nm2, .int .i64 cm2, .int .i64 va2, .int .i64 lo2, .int .i64 hi2, .slice B js.len d] by rw [← hW0]; exact (Blk.new_eq (by simp)).alloc _)
  have HZ := Lib.hid (show Blk W0 (w.heap.size + 1 + 1 + 1) 28 zarr by rw [← hW0]; exact Blk.new_eq (by simp))
  have HF0 := Lib.hid (show Fr Nob w W0 by rw [← hW0]; exact ((((Fr.refl _ _).alloc _).alloc _).alloc _).alloc _)
  have HW0 := Lib.hid (show w.heap.size + 1 + 1 + 1 < W0.heap.size from HZ.out.lt)
  rw [hW0]
  clear hW0
  have hcn := HNB.out.cell
  have hln := HNB.out.lt
  go_upto_region 3 with (first
    | ((go_at_call 145); (with_reducible refine (HRC.out _).mono ?_); rintro e w1 ⟨RA, mb, rfl, hra, hmb, hr1, hr2, hfr⟩; have HRA := Lib.hid hra; have HMB := Lib.hid hmb; have HF1 := Lib.hid (HF0.out.call (((Fr.refl Nob W0).alloc _).call hfr (fun _ h _ => h)) (fun _ h _ => h)); have HNW := Lib.hid (((Fr.refl Nob W0).alloc _).call hfr (fun _ h _ => h)); clear hra hmb hr1 hr2 hfr)
    | fail)
  clear hcn hln
  go_loopw [15] (fun iv wr => ∃ k : Nat, k < 3 ∧ iv = .int .i64 k ∧ Hid (Fr Nob w1 wr)) (fun iv _ => 12 - (intOf iv).toNat)
  case atStart => exact ⟨0, by decide, rfl, Lib.hid (Fr.refl _ _)⟩
  case round =>
    obtain ⟨k, hk, rfl, hfr⟩ := hrel
    have HRW := Lib.hid (HRA.out.fr hfr.out (fun e => e))
    have HNR := Lib.hid ((HNB.out.fr HNW.out (fun e => e)).fr hfr.out (fun e => e))
    obtain ⟨ro, rf_, ra_, rb_, rv⟩ := rowsA_op ⟨3, nm0, cm0, va0, lo0, hi0⟩ NA nn nc mb k (by omega)
    have c0 := (HRW.out.cell (k * 2)).trans ro
    have c1 := (HRW.out.cell (k * 2 + 1)).trans rv
    have nc0 : wr.cell? ⟨w.heap.size, 0, none⟩ = some (.int .i64 3) := HNR.out.cell 0
    have nl0 := HNR.out.lt
    have rl0 := HRW.out.lt
    have hk12 : (k : Int) < 12 := by omega
    clear ro rv
    by_cases hkn : k + 1 = 3
    · obtain rfl : k = 3 - 1 := by omega
      clear c0 c1
      have c0 : wr.cell? ⟨RA, 4, none⟩ = some (.int .i64 3) := HRW.out.cell 4
      have c1 : wr.cell? ⟨RA, 5, none⟩ = some (.func (.func 165) #[.agg #[.int .i64 3, .string nm0, .int .i64 cm0, .int .i64 va0, .int .i64 lo0, .int .i64 hi0, .slice NA nn nc]] #[]) := HRW.out.cell 5
      clear hk hk12
      go_upto_region 6 with (first
        | (refine wpList_stBox rfl rfl (by rfl) (by rfl) (by exact infoRow) (by rfl) (by exact Blk.new _ _ _) (by rfl) ?_; intro wq hbq hfq; have HBQ := Lib.hid hbq; have HFQ := Lib.hid (show Fr Nob wr wq from ((Fr.refl Nob wr).alloc _).call hfq (fun i e hlt => by have : i = wr.heap.size := e; omega)); have qc := hbq.cell; have ql := hbq.lt; have nc1 : wq.cell? ⟨w.heap.size, 0, none⟩ = some (.int .i64 3) := (HNR.out.fr HFQ.out (fun e => e)).cell 0; have nl1 := (HNR.out.fr HFQ.out (fun e => e)).lt; clear hbq hfq c0 c1 nc0 nl0 rl0)
        | fail)
      have HFC := Lib.hid ((HF1.out.call hfr.out (fun _ h _ => h)).call HFQ.out (fun _ h _ => h))
      have HWQ := Lib.hid ((HNW.out.call hfr.out (fun _ h _ => h)).call HFQ.out (fun _ h _ => h))
      have HX1 := Lib.hid (HX0.out.fr HWQ.out (fun e => e))
      have HY1 := Lib.hid (HY0.out.fr HWQ.out (fun e => e))
      replace HZ := Lib.hid (HZ.out.fr HWQ.out (fun e => e))
      have HM1 := Lib.hid ((HMB.out.fr hfr.out (fun e => e)).fr HFQ.out (fun e => e))
      have xc := HX1.out.cell
      have xl := HX1.out.lt
      have yc := HY1.out.cell
      have yl := HY1.out.lt
      have HZL := Lib.hid HZ.out.lt
      have HPW := Lib.hid (fun k hk => Nat.lt_of_lt_of_le (HP.out k hk) HFC.out.size)
      have HSW := Lib.hid (HS.out.fr HFC.out)
      have HTW := Lib.hid (HT.out.fr HFC.out)
      clear nc1 nl1
      have HCC := Lib.hid (c_self wq p ⟨3, nm0, cm0, va0, lo0, hi0⟩ ⟨op, nm, cm, va, lo, hi⟩ ⟨op2, nm2, cm2, va2, lo2, hi2⟩ NA A B nn nc ks.len c js.len d)
      unfold fval at HCC
      dsimp only at HCC
      go_wp2_with (first
        | ((go_at_call 165); (with_reducible refine (HCC.out).mono ?_); rintro e w2 ⟨o1, n1, m1, v1, l1, i1, A1, c1, k1, rfl, he, hs1, hf1⟩; have HE := Lib.hid he; have HS1 := Lib.hid hs1; have HFR := Lib.hid hf1; have HZ2 := Lib.hid (HZ.out.fr hf1 (fun e => e)); clear he hs1 hf1)
        | (refine wpList_stBox rfl rfl (by rfl) (by rfl) (by exact infoF) (by rfl) (by first | exact HZ2.out.alloc _ | exact HZ2.out) (by rfl) ?_; intro W7 hb7 hf7; have HB7 := Lib.hid hb7; have HF7 := Lib.hid hf7; have rc7 := hb7.cell; clear hb7 hf7)
        | fail)
      refine bodyPost_ret (v := .agg #[.int .i64 o1, .string n1, .int .i64 m1, .int .i64 v1, .int .i64 l1, .int .i64 i1, .slice A1 k1.len c1]) (by simp [results, Tryz.results111, go_sem, rc7]) rfl ?_
      exact FRes.put (x := ⟨o1, n1, m1, v1, l1, i1⟩) (HE.out.trans HSR.out.symm) HS1.out (fun k hk _ => hq_call HP.out (by omega) HZL.out k hk) (HFC.out.call HFR.out (fun _ h _ => h)) (by omega) HF7.out
    · have hkb : ((k : Int) + 1 == 3) = false := by simp; omega
      go_wp2_with (first
        | (refine wpList_stBox rfl rfl (by rfl) (by rfl) (by exact infoRow) (by rfl) (by exact Blk.new _ _ _) (by rfl) ?_; intro wq hbq hfq; have HBQ := Lib.hid hbq; have HFQ := Lib.hid (show Fr Nob wr wq from ((Fr.refl Nob wr).alloc _).call hfq (fun i e hlt => by have : i = wr.heap.size := e; omega)); have qc := hbq.cell; have ql := hbq.lt; have nc1 : wq.cell? ⟨w.heap.size, 0, none⟩ = some (.int .i64 3) := (HNR.out.fr HFQ.out (fun e => e)).cell 0; have nl1 := (HNR.out.fr HFQ.out (fun e => e)).lt; clear hbq hfq c0 c1 nc0 nl0 rl0)
        | fail)
      go_roundw
      case rel => exact ⟨k + 1, by omega, by go_num, Lib.hid (hfr.out.call HFQ.out (fun _ h _ => h))⟩
      case measure => simp [intOf]; omega

set_option maxRecDepth 100000 in
set_option maxHeartbeats 16000000 in
theorem become_4 (w : World) (p : Nat → Prop) (hp : ∀ k, p k → k < w.heap.size) (nm0 : ByteArray) (cm0 va0 lo0 hi0 : Int) (x y : Nd) (NA A B : Option Addr) (nn nc c d : Nat) (ks js : Fo) (hs : FoSlP p w A c ks) (ht : FoSlP p w B d js) (hx : (4 : Int) ≤ 4 → coreS (x, ks.tr)) (hy : (4 : Int) ≤ 4 → (4 : Int) ≠ 4 → (4 : Int) ≠ 9 → (4 : Int) ≠ 10 → coreS (y, js.tr)) (hz : szS (y, js.tr) ≤ 90000) :
    Calls Tryz.prog 111 #[fval ⟨4, nm0, cm0, va0, lo0, hi0⟩ NA nn nc, fval x A ks.len c, fval y B js.len d] w (FRes w p (becS ⟨4, nm0, cm0, va0, lo0, hi0⟩ (x, ks.tr) (y, js.tr))) := by
  have HP := Lib.hid hp
  obtain ⟨sr, hsr⟩ : ∃ sr, sr = becS ⟨4, nm0, cm0, va0, lo0, hi0⟩ (x, ks.tr) (y, js.tr) := ⟨_, rfl⟩
  rw [← hsr]
  have HSR := Lib.hid hsr
  have HS := Lib.hid hs
  have HT := Lib.hid ht
  have HX := Lib.hid hx
  have HY := Lib.hid hy
  have hzz := Lib.hid hz
  clear hp hs ht hx hy hz hsr
  have HCX := HX
  clear HX
  obtain ⟨op, nm, cm, va, lo, hi⟩ := x
  obtain ⟨op2, nm2, cm2, va2, lo2, hi2⟩ := y
  have HRC := Lib.hid (fun W => n_rows W ⟨4, nm0, cm0, va0, lo0, hi0⟩ NA nn nc)
  unfold fval at *
  dsimp only at HRC
  go_enter Tryz.func111, Tryz.ntmps111
  go_upto_region 1 with fail
  obtain ⟨W0, hW0⟩ : ∃ W0, (((w.alloc (.cells #[.int .i64 4, .string nm0, .int .i64 cm0, .int .i64 va0, .int .i64 lo0, .int .i64 hi0, .slice NA nn nc] 28)).alloc (.cells #[.int .i64 op, .string nm, .int .i64 cm, .int .i64 va, .int .i64 lo, .int .i64 hi, .slice A ks.len c] 28)).alloc (.cells #[.int .i64 op2, .string nm2, .int .i64 cm2, .int .i64 va2, .int .i64 lo2, .int .i64 hi2, .slice B js.len d] 28)).alloc (.cells zarr 28) = W0 := ⟨_, rfl⟩
  have HNB := Lib.hid (show Blk W0 w.heap.size 28 #[.int .i64 4, .string nm0, .int .i64 cm0, .int .i64 va0, .int .i64 lo0, .int .i64 hi0, .slice NA nn nc] by rw [← hW0]; exact (((Blk.new _ _ _).alloc _).alloc _).alloc _)
  have HX0 := Lib.hid (show Blk W0 (w.heap.size + 1) 28 #[.int .i64 op, .string nm, .int .i64 cm, .int .i64 va, .int .i64 lo, .int .i64 hi, .slice A ks.len c] by rw [← hW0]; exact ((Blk.new_eq (by simp)).alloc _).alloc _)
  have HY0 := Lib.hid (show Blk W0 (w.heap.size + 1 + 1) 28 #[.int .i64 op2, .string nm2, .int .i64 cm2, .int .i64 va2, .int .i64 lo2, .int .i64 hi2, .slice B js.len d] by rw [← hW0]; exact (Blk.new_eq (by simp)).alloc _)
  have HZ := Lib.hid (show Blk W0 (w.heap.size + 1 + 1 + 1) 28 zarr by rw [← hW0]; exact Blk.new_eq (by simp))
  have HF0 := Lib.hid (show Fr Nob w W0 by rw [← hW0]; exact ((((Fr.refl _ _).alloc _).alloc _).alloc _).alloc _)
  have HW0 := Lib.hid (show w.heap.size + 1 + 1 + 1 < W0.heap.size from HZ.out.lt)
  rw [hW0]
  clear hW0
  have hcn := HNB.out.cell
  have hln := HNB.out.lt
  go_upto_region 3 with (first
    | ((go_at_call 145); (with_reducible refine (HRC.out _).mono ?_); rintro e w1 ⟨RA, mb, rfl, hra, hmb, hr1, hr2, hfr⟩; have HRA := Lib.hid hra; have HMB := Lib.hid hmb; have HF1 := Lib.hid (HF0.out.call (((Fr.refl Nob W0).alloc _).call hfr (fun _ h _ => h)) (fun _ h _ => h)); have HNW := Lib.hid (((Fr.refl Nob W0).alloc _).call hfr (fun _ h _ => h)); clear hra hmb hr1 hr2 hfr)
    | fail)
  clear hcn hln
  go_loopw [15] (fun iv wr => ∃ k : Nat, k < 4 ∧ iv = .int .i64 k ∧ Hid (Fr Nob w1 wr)) (fun iv _ => 12 - (intOf iv).toNat)
  case atStart => exact ⟨0, by decide, rfl, Lib.hid (Fr.refl _ _)⟩
  case round =>
    obtain ⟨k, hk, rfl, hfr⟩ := hrel
    have HRW := Lib.hid (HRA.out.fr hfr.out (fun e => e))
    have HNR := Lib.hid ((HNB.out.fr HNW.out (fun e => e)).fr hfr.out (fun e => e))
    obtain ⟨ro, rf_, ra_, rb_, rv⟩ := rowsA_op ⟨4, nm0, cm0, va0, lo0, hi0⟩ NA nn nc mb k (by omega)
    have c0 := (HRW.out.cell (k * 2)).trans ro
    have c1 := (HRW.out.cell (k * 2 + 1)).trans rv
    have nc0 : wr.cell? ⟨w.heap.size, 0, none⟩ = some (.int .i64 4) := HNR.out.cell 0
    have nl0 := HNR.out.lt
    have rl0 := HRW.out.lt
    have hk12 : (k : Int) < 12 := by omega
    clear ro rv
    by_cases hkn : k + 1 = 4
    · obtain rfl : k = 4 - 1 := by omega
      clear c0 c1
      have c0 : wr.cell? ⟨RA, 6, none⟩ = some (.int .i64 4) := HRW.out.cell 6
      have c1 : wr.cell? ⟨RA, 7, none⟩ = some (.func (.func 166) #[] #[]) := HRW.out.cell 7
      clear hk hk12
      go_upto_region 6 with (first
        | (refine wpList_stBox rfl rfl (by rfl) (by rfl) (by exact infoRow) (by rfl) (by exact Blk.new _ _ _) (by rfl) ?_; intro wq hbq hfq; have HBQ := Lib.hid hbq; have HFQ := Lib.hid (show Fr Nob wr wq from ((Fr.refl Nob wr).alloc _).call hfq (fun i e hlt => by have : i = wr.heap.size := e; omega)); have qc := hbq.cell; have ql := hbq.lt; have nc1 : wq.cell? ⟨w.heap.size, 0, none⟩ = some (.int .i64 4) := (HNR.out.fr HFQ.out (fun e => e)).cell 0; have nl1 := (HNR.out.fr HFQ.out (fun e => e)).lt; clear hbq hfq c0 c1 nc0 nl0 rl0)
        | fail)
      have HFC := Lib.hid ((HF1.out.call hfr.out (fun _ h _ => h)).call HFQ.out (fun _ h _ => h))
      have HWQ := Lib.hid ((HNW.out.call hfr.out (fun _ h _ => h)).call HFQ.out (fun _ h _ => h))
      have HX1 := Lib.hid (HX0.out.fr HWQ.out (fun e => e))
      have HY1 := Lib.hid (HY0.out.fr HWQ.out (fun e => e))
      replace HZ := Lib.hid (HZ.out.fr HWQ.out (fun e => e))
      have HM1 := Lib.hid ((HMB.out.fr hfr.out (fun e => e)).fr HFQ.out (fun e => e))
      have xc := HX1.out.cell
      have xl := HX1.out.lt
      have yc := HY1.out.cell
      have yl := HY1.out.lt
      have HZL := Lib.hid HZ.out.lt
      have HPW := Lib.hid (fun k hk => Nat.lt_of_lt_of_le (HP.out k hk) HFC.out.size)
      have HSW := Lib.hid (HS.out.fr HFC.out)
      have HTW := Lib.hid (HT.out.fr HFC.out)
      clear nc1 nl1
      have HCC := Lib.hid (c_not wq p HPW.out ⟨op, nm, cm, va, lo, hi⟩ ⟨op2, nm2, cm2, va2, lo2, hi2⟩ A B c d ks js HSW.out (HCX.out (by decide)))
      unfold fval at HCC
      dsimp only at HCC
      go_wp2_with (first
        | ((go_at_call 166); (with_reducible refine (HCC.out).mono ?_); rintro e w2 ⟨o1, n1, m1, v1, l1, i1, A1, c1, k1, rfl, he, hs1, hf1⟩; have HE := Lib.hid he; have HS1 := Lib.hid hs1; have HFR := Lib.hid hf1; have HZ2 := Lib.hid (HZ.out.fr hf1 (fun e => e)); clear he hs1 hf1)
        | (refine wpList_stBox rfl rfl (by rfl) (by rfl) (by exact infoF) (by rfl) (by first | exact HZ2.out.alloc _ | exact HZ2.out) (by rfl) ?_; intro W7 hb7 hf7; have HB7 := Lib.hid hb7; have HF7 := Lib.hid hf7; have rc7 := hb7.cell; clear hb7 hf7)
        | fail)
      refine bodyPost_ret (v := .agg #[.int .i64 o1, .string n1, .int .i64 m1, .int .i64 v1, .int .i64 l1, .int .i64 i1, .slice A1 k1.len c1]) (by simp [results, Tryz.results111, go_sem, rc7]) rfl ?_
      exact FRes.put (x := ⟨o1, n1, m1, v1, l1, i1⟩) (HE.out.trans HSR.out.symm) HS1.out (fun k hk _ => hq_call HP.out (by omega) HZL.out k hk) (HFC.out.call HFR.out (fun _ h _ => h)) (by omega) HF7.out
    · have hkb : ((k : Int) + 1 == 4) = false := by simp; omega
      go_wp2_with (first
        | (refine wpList_stBox rfl rfl (by rfl) (by rfl) (by exact infoRow) (by rfl) (by exact Blk.new _ _ _) (by rfl) ?_; intro wq hbq hfq; have HBQ := Lib.hid hbq; have HFQ := Lib.hid (show Fr Nob wr wq from ((Fr.refl Nob wr).alloc _).call hfq (fun i e hlt => by have : i = wr.heap.size := e; omega)); have qc := hbq.cell; have ql := hbq.lt; have nc1 : wq.cell? ⟨w.heap.size, 0, none⟩ = some (.int .i64 4) := (HNR.out.fr HFQ.out (fun e => e)).cell 0; have nl1 := (HNR.out.fr HFQ.out (fun e => e)).lt; clear hbq hfq c0 c1 nc0 nl0 rl0)
        | fail)
      go_roundw
      case rel => exact ⟨k + 1, by omega, by go_num, Lib.hid (hfr.out.call HFQ.out (fun _ h _ => h))⟩
      case measure => simp [intOf]; omega

end Go.Proofs.YtoegdmpmagbaiaaGreatDoor

/- norm.become: and, or, imp, iff. -/
namespace Go.Proofs.YtoegdmpmagbaiaaGreatDoor
open Go.RowKit Go.Lib

set_option maxRecDepth 100000 in
set_option maxHeartbeats 16000000 in
theorem become_5 (w : World) (p : Nat → Prop) (hp : ∀ k, p k → k < w.heap.size) (nm0 : ByteArray) (cm0 va0 lo0 hi0 : Int) (x y : Nd) (NA A B : Option Addr) (nn nc c d : Nat) (ks js : Fo) (hs : FoSlP p w A c ks) (ht : FoSlP p w B d js) (hx : (4 : Int) ≤ 5 → coreS (x, ks.tr)) (hy : (4 : Int) ≤ 5 → (5 : Int) ≠ 4 → (5 : Int) ≠ 9 → (5 : Int) ≠ 10 → coreS (y, js.tr)) (hz : szS (y, js.tr) ≤ 90000) :
    Calls Tryz.prog 111 #[fval ⟨5, nm0, cm0, va0, lo0, hi0⟩ NA nn nc, fval x A ks.len c, fval y B js.len d] w (FRes w p (becS ⟨5, nm0, cm0, va0, lo0, hi0⟩ (x, ks.tr) (y, js.tr))) := by
  have HP := Lib.hid hp
  obtain ⟨sr, hsr⟩ : ∃ sr, sr = becS ⟨5, nm0, cm0, va0, lo0, hi0⟩ (x, ks.tr) (y, js.tr) := ⟨_, rfl⟩
  rw [← hsr]
  have HSR := Lib.hid hsr
  have HS := Lib.hid hs
  have HT := Lib.hid ht
  have HX := Lib.hid hx
  have HY := Lib.hid hy
  have hzz := Lib.hid hz
  clear hp hs ht hx hy hz hsr
  have HCX := HX
  clear HX
  obtain ⟨op, nm, cm, va, lo, hi⟩ := x
  obtain ⟨op2, nm2, cm2, va2, lo2, hi2⟩ := y
  have HRC := Lib.hid (fun W => n_rows W ⟨5, nm0, cm0, va0, lo0, hi0⟩ NA nn nc)
  unfold fval at *
  dsimp only at HRC
  go_enter Tryz.func111, Tryz.ntmps111
  go_upto_region 1 with fail
  obtain ⟨W0, hW0⟩ : ∃ W0, (((w.alloc (.cells #[.int .i64 5, .string nm0, .int .i64 cm0, .int .i64 va0, .int .i64 lo0, .int .i64 hi0, .slice NA nn nc] 28)).alloc (.cells #[.int .i64 op, .string nm, .int .i64 cm, .int .i64 va, .int .i64 lo, .int .i64 hi, .slice A ks.len c] 28)).alloc (.cells #[.int .i64 op2, .string nm2, .int .i64 cm2, .int .i64 va2, .int .i64 lo2, .int .i64 hi2, .slice B js.len d] 28)).alloc (.cells zarr 28) = W0 := ⟨_, rfl⟩
  have HNB := Lib.hid (show Blk W0 w.heap.size 28 #[.int .i64 5, .string nm0, .int .i64 cm0, .int .i64 va0, .int .i64 lo0, .int .i64 hi0, .slice NA nn nc] by rw [← hW0]; exact (((Blk.new _ _ _).alloc _).alloc _).alloc _)
  have HX0 := Lib.hid (show Blk W0 (w.heap.size + 1) 28 #[.int .i64 op, .string nm, .int .i64 cm, .int .i64 va, .int .i64 lo, .int .i64 hi, .slice A ks.len c] by rw [← hW0]; exact ((Blk.new_eq (by simp)).alloc _).alloc _)
  have HY0 := Lib.hid (show Blk W0 (w.heap.size + 1 + 1) 28 #[.int .i64 op2, .string nm2, .int .i64 cm2, .int .i64 va2, .int .i64 lo2, .int .i64 hi2, .slice B js.len d] by rw [← hW0]; exact (Blk.new_eq (by simp)).alloc _)
  have HZ := Lib.hid (show Blk W0 (w.heap.size + 1 + 1 + 1) 28 zarr by rw [← hW0]; exact Blk.new_eq (by simp))
  have HF0 := Lib.hid (show Fr Nob w W0 by rw [← hW0]; exact ((((Fr.refl _ _).alloc _).alloc _).alloc _).alloc _)
  have HW0 := Lib.hid (show w.heap.size + 1 + 1 + 1 < W0.heap.size from HZ.out.lt)
  rw [hW0]
  clear hW0
  have hcn := HNB.out.cell
  have hln := HNB.out.lt
  go_upto_region 3 with (first
    | ((go_at_call 145); (with_reducible refine (HRC.out _).mono ?_); rintro e w1 ⟨RA, mb, rfl, hra, hmb, hr1, hr2, hfr⟩; have HRA := Lib.hid hra; have HMB := Lib.hid hmb; have HF1 := Lib.hid (HF0.out.call (((Fr.refl Nob W0).alloc _).call hfr (fun _ h _ => h)) (fun _ h _ => h)); have HNW := Lib.hid (((Fr.refl Nob W0).alloc _).call hfr (fun _ h _ => h)); clear hra hmb hr1 hr2 hfr)
    | fail)
  clear hcn hln
  go_loopw [15] (fun iv wr => ∃ k : Nat, k < 5 ∧ iv = .int .i64 k ∧ Hid (Fr Nob w1 wr)) (fun iv _ => 12 - (intOf iv).toNat)
  case atStart => exact ⟨0, by decide, rfl, Lib.hid (Fr.refl _ _)⟩
  case round =>
    obtain ⟨k, hk, rfl, hfr⟩ := hrel
    have HRW := Lib.hid (HRA.out.fr hfr.out (fun e => e))
    have HNR := Lib.hid ((HNB.out.fr HNW.out (fun e => e)).fr hfr.out (fun e => e))
    obtain ⟨ro, rf_, ra_, rb_, rv⟩ := rowsA_op ⟨5, nm0, cm0, va0, lo0, hi0⟩ NA nn nc mb k (by omega)
    have c0 := (HRW.out.cell (k * 2)).trans ro
    have c1 := (HRW.out.cell (k * 2 + 1)).trans rv
    have nc0 : wr.cell? ⟨w.heap.size, 0, none⟩ = some (.int .i64 5) := HNR.out.cell 0
    have nl0 := HNR.out.lt
    have rl0 := HRW.out.lt
    have hk12 : (k : Int) < 12 := by omega
    clear ro rv
    by_cases hkn : k + 1 = 5
    · obtain rfl : k = 5 - 1 := by omega
      clear c0 c1
      have c0 : wr.cell? ⟨RA, 8, none⟩ = some (.int .i64 5) := HRW.out.cell 8
      have c1 : wr.cell? ⟨RA, 9, none⟩ = some (.func (.func 168) #[] #[]) := HRW.out.cell 9
      clear hk hk12
      go_upto_region 6 with (first
        | (refine wpList_stBox rfl rfl (by rfl) (by rfl) (by exact infoRow) (by rfl) (by exact Blk.new _ _ _) (by rfl) ?_; intro wq hbq hfq; have HBQ := Lib.hid hbq; have HFQ := Lib.hid (show Fr Nob wr wq from ((Fr.refl Nob wr).alloc _).call hfq (fun i e hlt => by have : i = wr.heap.size := e; omega)); have qc := hbq.cell; have ql := hbq.lt; have nc1 : wq.cell? ⟨w.heap.size, 0, none⟩ = some (.int .i64 5) := (HNR.out.fr HFQ.out (fun e => e)).cell 0; have nl1 := (HNR.out.fr HFQ.out (fun e => e)).lt; clear hbq hfq c0 c1 nc0 nl0 rl0)
        | fail)
      have HFC := Lib.hid ((HF1.out.call hfr.out (fun _ h _ => h)).call HFQ.out (fun _ h _ => h))
      have HWQ := Lib.hid ((HNW.out.call hfr.out (fun _ h _ => h)).call HFQ.out (fun _ h _ => h))
      have HX1 := Lib.hid (HX0.out.fr HWQ.out (fun e => e))
      have HY1 := Lib.hid (HY0.out.fr HWQ.out (fun e => e))
      replace HZ := Lib.hid (HZ.out.fr HWQ.out (fun e => e))
      have HM1 := Lib.hid ((HMB.out.fr hfr.out (fun e => e)).fr HFQ.out (fun e => e))
      have xc := HX1.out.cell
      have xl := HX1.out.lt
      have yc := HY1.out.cell
      have yl := HY1.out.lt
      have HZL := Lib.hid HZ.out.lt
      have HPW := Lib.hid (fun k hk => Nat.lt_of_lt_of_le (HP.out k hk) HFC.out.size)
      have HSW := Lib.hid (HS.out.fr HFC.out)
      have HTW := Lib.hid (HT.out.fr HFC.out)
      clear nc1 nl1
      have HCC := Lib.hid (n_and wq p HPW.out ⟨op, nm, cm, va, lo, hi⟩ ⟨op2, nm2, cm2, va2, lo2, hi2⟩ A B c d ks js HSW.out HTW.out (szS_le (Nat.le_trans hzz.out (by decide))))
      unfold fval at HCC
      dsimp only at HCC
      go_wp2_with (first
        | ((go_at_call 168); (with_reducible refine (HCC.out).mono ?_); rintro e w2 ⟨o1, n1, m1, v1, l1, i1, A1, c1, k1, rfl, he, hs1, hf1⟩; have HE := Lib.hid he; have HS1 := Lib.hid hs1; have HFR := Lib.hid hf1; have HZ2 := Lib.hid (HZ.out.fr hf1 (fun e => e)); clear he hs1 hf1)
        | (refine wpList_stBox rfl rfl (by rfl) (by rfl) (by exact infoF) (by rfl) (by first | exact HZ2.out.alloc _ | exact HZ2.out) (by rfl) ?_; intro W7 hb7 hf7; have HB7 := Lib.hid hb7; have HF7 := Lib.hid hf7; have rc7 := hb7.cell; clear hb7 hf7)
        | fail)
      refine bodyPost_ret (v := .agg #[.int .i64 o1, .string n1, .int .i64 m1, .int .i64 v1, .int .i64 l1, .int .i64 i1, .slice A1 k1.len c1]) (by simp [results, Tryz.results111, go_sem, rc7]) rfl ?_
      exact FRes.put (x := ⟨o1, n1, m1, v1, l1, i1⟩) (HE.out.trans HSR.out.symm) HS1.out (fun k hk _ => hq_call HP.out (by omega) HZL.out k hk) (HFC.out.call HFR.out (fun _ h _ => h)) (by omega) HF7.out
    · have hkb : ((k : Int) + 1 == 5) = false := by simp; omega
      go_wp2_with (first
        | (refine wpList_stBox rfl rfl (by rfl) (by rfl) (by exact infoRow) (by rfl) (by exact Blk.new _ _ _) (by rfl) ?_; intro wq hbq hfq; have HBQ := Lib.hid hbq; have HFQ := Lib.hid (show Fr Nob wr wq from ((Fr.refl Nob wr).alloc _).call hfq (fun i e hlt => by have : i = wr.heap.size := e; omega)); have qc := hbq.cell; have ql := hbq.lt; have nc1 : wq.cell? ⟨w.heap.size, 0, none⟩ = some (.int .i64 5) := (HNR.out.fr HFQ.out (fun e => e)).cell 0; have nl1 := (HNR.out.fr HFQ.out (fun e => e)).lt; clear hbq hfq c0 c1 nc0 nl0 rl0)
        | fail)
      go_roundw
      case rel => exact ⟨k + 1, by omega, by go_num, Lib.hid (hfr.out.call HFQ.out (fun _ h _ => h))⟩
      case measure => simp [intOf]; omega

set_option maxRecDepth 100000 in
set_option maxHeartbeats 16000000 in
theorem become_6 (w : World) (p : Nat → Prop) (hp : ∀ k, p k → k < w.heap.size) (nm0 : ByteArray) (cm0 va0 lo0 hi0 : Int) (x y : Nd) (NA A B : Option Addr) (nn nc c d : Nat) (ks js : Fo) (hs : FoSlP p w A c ks) (ht : FoSlP p w B d js) (hx : (4 : Int) ≤ 6 → coreS (x, ks.tr)) (hy : (4 : Int) ≤ 6 → (6 : Int) ≠ 4 → (6 : Int) ≠ 9 → (6 : Int) ≠ 10 → coreS (y, js.tr)) (hz : szS (y, js.tr) ≤ 90000) :
    Calls Tryz.prog 111 #[fval ⟨6, nm0, cm0, va0, lo0, hi0⟩ NA nn nc, fval x A ks.len c, fval y B js.len d] w (FRes w p (becS ⟨6, nm0, cm0, va0, lo0, hi0⟩ (x, ks.tr) (y, js.tr))) := by
  have HP := Lib.hid hp
  obtain ⟨sr, hsr⟩ : ∃ sr, sr = becS ⟨6, nm0, cm0, va0, lo0, hi0⟩ (x, ks.tr) (y, js.tr) := ⟨_, rfl⟩
  rw [← hsr]
  have HSR := Lib.hid hsr
  have HS := Lib.hid hs
  have HT := Lib.hid ht
  have HX := Lib.hid hx
  have HY := Lib.hid hy
  have hzz := Lib.hid hz
  clear hp hs ht hx hy hz hsr
  have HCX := HX
  clear HX
  obtain ⟨op, nm, cm, va, lo, hi⟩ := x
  obtain ⟨op2, nm2, cm2, va2, lo2, hi2⟩ := y
  have HRC := Lib.hid (fun W => n_rows W ⟨6, nm0, cm0, va0, lo0, hi0⟩ NA nn nc)
  unfold fval at *
  dsimp only at HRC
  go_enter Tryz.func111, Tryz.ntmps111
  go_upto_region 1 with fail
  obtain ⟨W0, hW0⟩ : ∃ W0, (((w.alloc (.cells #[.int .i64 6, .string nm0, .int .i64 cm0, .int .i64 va0, .int .i64 lo0, .int .i64 hi0, .slice NA nn nc] 28)).alloc (.cells #[.int .i64 op, .string nm, .int .i64 cm, .int .i64 va, .int .i64 lo, .int .i64 hi, .slice A ks.len c] 28)).alloc (.cells #[.int .i64 op2, .string nm2, .int .i64 cm2, .int .i64 va2, .int .i64 lo2, .int .i64 hi2, .slice B js.len d] 28)).alloc (.cells zarr 28) = W0 := ⟨_, rfl⟩
  have HNB := Lib.hid (show Blk W0 w.heap.size 28 #[.int .i64 6, .string nm0, .int .i64 cm0, .int .i64 va0, .int .i64 lo0, .int .i64 hi0, .slice NA nn nc] by rw [← hW0]; exact (((Blk.new _ _ _).alloc _).alloc _).alloc _)
  have HX0 := Lib.hid (show Blk W0 (w.heap.size + 1) 28 #[.int .i64 op, .string nm, .int .i64 cm, .int .i64 va, .int .i64 lo, .int .i64 hi, .slice A ks.len c] by rw [← hW0]; exact ((Blk.new_eq (by simp)).alloc _).alloc _)
  have HY0 := Lib.hid (show Blk W0 (w.heap.size + 1 + 1) 28 #[.int .i64 op2, .string nm2, .int .i64 cm2, .int .i64 va2, .int .i64 lo2, .int .i64 hi2, .slice B js.len d] by rw [← hW0]; exact (Blk.new_eq (by simp)).alloc _)
  have HZ := Lib.hid (show Blk W0 (w.heap.size + 1 + 1 + 1) 28 zarr by rw [← hW0]; exact Blk.new_eq (by simp))
  have HF0 := Lib.hid (show Fr Nob w W0 by rw [← hW0]; exact ((((Fr.refl _ _).alloc _).alloc _).alloc _).alloc _)
  have HW0 := Lib.hid (show w.heap.size + 1 + 1 + 1 < W0.heap.size from HZ.out.lt)
  rw [hW0]
  clear hW0
  have hcn := HNB.out.cell
  have hln := HNB.out.lt
  go_upto_region 3 with (first
    | ((go_at_call 145); (with_reducible refine (HRC.out _).mono ?_); rintro e w1 ⟨RA, mb, rfl, hra, hmb, hr1, hr2, hfr⟩; have HRA := Lib.hid hra; have HMB := Lib.hid hmb; have HF1 := Lib.hid (HF0.out.call (((Fr.refl Nob W0).alloc _).call hfr (fun _ h _ => h)) (fun _ h _ => h)); have HNW := Lib.hid (((Fr.refl Nob W0).alloc _).call hfr (fun _ h _ => h)); clear hra hmb hr1 hr2 hfr)
    | fail)
  clear hcn hln
  go_loopw [15] (fun iv wr => ∃ k : Nat, k < 6 ∧ iv = .int .i64 k ∧ Hid (Fr Nob w1 wr)) (fun iv _ => 12 - (intOf iv).toNat)
  case atStart => exact ⟨0, by decide, rfl, Lib.hid (Fr.refl _ _)⟩
  case round =>
    obtain ⟨k, hk, rfl, hfr⟩ := hrel
    have HRW := Lib.hid (HRA.out.fr hfr.out (fun e => e))
    have HNR := Lib.hid ((HNB.out.fr HNW.out (fun e => e)).fr hfr.out (fun e => e))
    obtain ⟨ro, rf_, ra_, rb_, rv⟩ := rowsA_op ⟨6, nm0, cm0, va0, lo0, hi0⟩ NA nn nc mb k (by omega)
    have c0 := (HRW.out.cell (k * 2)).trans ro
    have c1 := (HRW.out.cell (k * 2 + 1)).trans rv
    have nc0 : wr.cell? ⟨w.heap.size, 0, none⟩ = some (.int .i64 6) := HNR.out.cell 0
    have nl0 := HNR.out.lt
    have rl0 := HRW.out.lt
    have hk12 : (k : Int) < 12 := by omega
    clear ro rv
    by_cases hkn : k + 1 = 6
    · obtain rfl : k = 6 - 1 := by omega
      clear c0 c1
      have c0 : wr.cell? ⟨RA, 10, none⟩ = some (.int .i64 6) := HRW.out.cell 10
      have c1 : wr.cell? ⟨RA, 11, none⟩ = some (.func (.func 169) #[] #[]) := HRW.out.cell 11
      clear hk hk12
      go_upto_region 6 with (first
        | (refine wpList_stBox rfl rfl (by rfl) (by rfl) (by exact infoRow) (by rfl) (by exact Blk.new _ _ _) (by rfl) ?_; intro wq hbq hfq; have HBQ := Lib.hid hbq; have HFQ := Lib.hid (show Fr Nob wr wq from ((Fr.refl Nob wr).alloc _).call hfq (fun i e hlt => by have : i = wr.heap.size := e; omega)); have qc := hbq.cell; have ql := hbq.lt; have nc1 : wq.cell? ⟨w.heap.size, 0, none⟩ = some (.int .i64 6) := (HNR.out.fr HFQ.out (fun e => e)).cell 0; have nl1 := (HNR.out.fr HFQ.out (fun e => e)).lt; clear hbq hfq c0 c1 nc0 nl0 rl0)
        | fail)
      have HFC := Lib.hid ((HF1.out.call hfr.out (fun _ h _ => h)).call HFQ.out (fun _ h _ => h))
      have HWQ := Lib.hid ((HNW.out.call hfr.out (fun _ h _ => h)).call HFQ.out (fun _ h _ => h))
      have HX1 := Lib.hid (HX0.out.fr HWQ.out (fun e => e))
      have HY1 := Lib.hid (HY0.out.fr HWQ.out (fun e => e))
      replace HZ := Lib.hid (HZ.out.fr HWQ.out (fun e => e))
      have HM1 := Lib.hid ((HMB.out.fr hfr.out (fun e => e)).fr HFQ.out (fun e => e))
      have xc := HX1.out.cell
      have xl := HX1.out.lt
      have yc := HY1.out.cell
      have yl := HY1.out.lt
      have HZL := Lib.hid HZ.out.lt
      have HPW := Lib.hid (fun k hk => Nat.lt_of_lt_of_le (HP.out k hk) HFC.out.size)
      have HSW := Lib.hid (HS.out.fr HFC.out)
      have HTW := Lib.hid (HT.out.fr HFC.out)
      clear nc1 nl1
      have HCC := Lib.hid (c_or wq p HPW.out ⟨op, nm, cm, va, lo, hi⟩ ⟨op2, nm2, cm2, va2, lo2, hi2⟩ A B c d ks js HSW.out HTW.out (HCX.out (by decide)) (HY.out (by decide) (by decide) (by decide) (by decide)) hzz.out)
      unfold fval at HCC
      dsimp only at HCC
      go_wp2_with (first
        | ((go_at_call 169); (with_reducible refine (HCC.out).mono ?_); rintro e w2 ⟨o1, n1, m1, v1, l1, i1, A1, c1, k1, rfl, he, hs1, hf1⟩; have HE := Lib.hid he; have HS1 := Lib.hid hs1; have HFR := Lib.hid hf1; have HZ2 := Lib.hid (HZ.out.fr hf1 (fun e => e)); clear he hs1 hf1)
        | (refine wpList_stBox rfl rfl (by rfl) (by rfl) (by exact infoF) (by rfl) (by first | exact HZ2.out.alloc _ | exact HZ2.out) (by rfl) ?_; intro W7 hb7 hf7; have HB7 := Lib.hid hb7; have HF7 := Lib.hid hf7; have rc7 := hb7.cell; clear hb7 hf7)
        | fail)
      refine bodyPost_ret (v := .agg #[.int .i64 o1, .string n1, .int .i64 m1, .int .i64 v1, .int .i64 l1, .int .i64 i1, .slice A1 k1.len c1]) (by simp [results, Tryz.results111, go_sem, rc7]) rfl ?_
      exact FRes.put (x := ⟨o1, n1, m1, v1, l1, i1⟩) (HE.out.trans HSR.out.symm) HS1.out (fun k hk _ => hq_call HP.out (by omega) HZL.out k hk) (HFC.out.call HFR.out (fun _ h _ => h)) (by omega) HF7.out
    · have hkb : ((k : Int) + 1 == 6) = false := by simp; omega
      go_wp2_with (first
        | (refine wpList_stBox rfl rfl (by rfl) (by rfl) (by exact infoRow) (by rfl) (by exact Blk.new _ _ _) (by rfl) ?_; intro wq hbq hfq; have HBQ := Lib.hid hbq; have HFQ := Lib.hid (show Fr Nob wr wq from ((Fr.refl Nob wr).alloc _).call hfq (fun i e hlt => by have : i = wr.heap.size := e; omega)); have qc := hbq.cell; have ql := hbq.lt; have nc1 : wq.cell? ⟨w.heap.size, 0, none⟩ = some (.int .i64 6) := (HNR.out.fr HFQ.out (fun e => e)).cell 0; have nl1 := (HNR.out.fr HFQ.out (fun e => e)).lt; clear hbq hfq c0 c1 nc0 nl0 rl0)
        | fail)
      go_roundw
      case rel => exact ⟨k + 1, by omega, by go_num, Lib.hid (hfr.out.call HFQ.out (fun _ h _ => h))⟩
      case measure => simp [intOf]; omega

set_option maxRecDepth 100000 in
set_option maxHeartbeats 16000000 in
theorem become_7 (w : World) (p : Nat → Prop) (hp : ∀ k, p k → k < w.heap.size) (nm0 : ByteArray) (cm0 va0 lo0 hi0 : Int) (x y : Nd) (NA A B : Option Addr) (nn nc c d : Nat) (ks js : Fo) (hs : FoSlP p w A c ks) (ht : FoSlP p w B d js) (hx : (4 : Int) ≤ 7 → coreS (x, ks.tr)) (hy : (4 : Int) ≤ 7 → (7 : Int) ≠ 4 → (7 : Int) ≠ 9 → (7 : Int) ≠ 10 → coreS (y, js.tr)) (hz : szS (y, js.tr) ≤ 90000) :
    Calls Tryz.prog 111 #[fval ⟨7, nm0, cm0, va0, lo0, hi0⟩ NA nn nc, fval x A ks.len c, fval y B js.len d] w (FRes w p (becS ⟨7, nm0, cm0, va0, lo0, hi0⟩ (x, ks.tr) (y, js.tr))) := by
  have HP := Lib.hid hp
  obtain ⟨sr, hsr⟩ : ∃ sr, sr = becS ⟨7, nm0, cm0, va0, lo0, hi0⟩ (x, ks.tr) (y, js.tr) := ⟨_, rfl⟩
  rw [← hsr]
  have HSR := Lib.hid hsr
  have HS := Lib.hid hs
  have HT := Lib.hid ht
  have HX := Lib.hid hx
  have HY := Lib.hid hy
  have hzz := Lib.hid hz
  clear hp hs ht hx hy hz hsr
  have HCX := HX
  clear HX
  obtain ⟨op, nm, cm, va, lo, hi⟩ := x
  obtain ⟨op2, nm2, cm2, va2, lo2, hi2⟩ := y
  have HRC := Lib.hid (fun W => n_rows W ⟨7, nm0, cm0, va0, lo0, hi0⟩ NA nn nc)
  unfold fval at *
  dsimp only at HRC
  go_enter Tryz.func111, Tryz.ntmps111
  go_upto_region 1 with fail
  obtain ⟨W0, hW0⟩ : ∃ W0, (((w.alloc (.cells #[.int .i64 7, .string nm0, .int .i64 cm0, .int .i64 va0, .int .i64 lo0, .int .i64 hi0, .slice NA nn nc] 28)).alloc (.cells #[.int .i64 op, .string nm, .int .i64 cm, .int .i64 va, .int .i64 lo, .int .i64 hi, .slice A ks.len c] 28)).alloc (.cells #[.int .i64 op2, .string nm2, .int .i64 cm2, .int .i64 va2, .int .i64 lo2, .int .i64 hi2, .slice B js.len d] 28)).alloc (.cells zarr 28) = W0 := ⟨_, rfl⟩
  have HNB := Lib.hid (show Blk W0 w.heap.size 28 #[.int .i64 7, .string nm0, .int .i64 cm0, .int .i64 va0, .int .i64 lo0, .int .i64 hi0, .slice NA nn nc] by rw [← hW0]; exact (((Blk.new _ _ _).alloc _).alloc _).alloc _)
  have HX0 := Lib.hid (show Blk W0 (w.heap.size + 1) 28 #[.int .i64 op, .string nm, .int .i64 cm, .int .i64 va, .int .i64 lo, .int .i64 hi, .slice A ks.len c] by rw [← hW0]; exact ((Blk.new_eq (by simp)).alloc _).alloc _)
  have HY0 := Lib.hid (show Blk W0 (w.heap.size + 1 + 1) 28 #[.int .i64 op2, .string nm2, .int .i64 cm2, .int .i64 va2, .int .i64 lo2, .int .i64 hi2, .slice B js.len d] by rw [← hW0]; exact (Blk.new_eq (by simp)).alloc _)
  have HZ := Lib.hid (show Blk W0 (w.heap.size + 1 + 1 + 1) 28 zarr by rw [← hW0]; exact Blk.new_eq (by simp))
  have HF0 := Lib.hid (show Fr Nob w W0 by rw [← hW0]; exact ((((Fr.refl _ _).alloc _).alloc _).alloc _).alloc _)
  have HW0 := Lib.hid (show w.heap.size + 1 + 1 + 1 < W0.heap.size from HZ.out.lt)
  rw [hW0]
  clear hW0
  have hcn := HNB.out.cell
  have hln := HNB.out.lt
  go_upto_region 3 with (first
    | ((go_at_call 145); (with_reducible refine (HRC.out _).mono ?_); rintro e w1 ⟨RA, mb, rfl, hra, hmb, hr1, hr2, hfr⟩; have HRA := Lib.hid hra; have HMB := Lib.hid hmb; have HF1 := Lib.hid (HF0.out.call (((Fr.refl Nob W0).alloc _).call hfr (fun _ h _ => h)) (fun _ h _ => h)); have HNW := Lib.hid (((Fr.refl Nob W0).alloc _).call hfr (fun _ h _ => h)); clear hra hmb hr1 hr2 hfr)
    | fail)
  clear hcn hln
  go_loopw [15] (fun iv wr => ∃ k : Nat, k < 7 ∧ iv = .int .i64 k ∧ Hid (Fr Nob w1 wr)) (fun iv _ => 12 - (intOf iv).toNat)
  case atStart => exact ⟨0, by decide, rfl, Lib.hid (Fr.refl _ _)⟩
  case round =>
    obtain ⟨k, hk, rfl, hfr⟩ := hrel
    have HRW := Lib.hid (HRA.out.fr hfr.out (fun e => e))
    have HNR := Lib.hid ((HNB.out.fr HNW.out (fun e => e)).fr hfr.out (fun e => e))
    obtain ⟨ro, rf_, ra_, rb_, rv⟩ := rowsA_op ⟨7, nm0, cm0, va0, lo0, hi0⟩ NA nn nc mb k (by omega)
    have c0 := (HRW.out.cell (k * 2)).trans ro
    have c1 := (HRW.out.cell (k * 2 + 1)).trans rv
    have nc0 : wr.cell? ⟨w.heap.size, 0, none⟩ = some (.int .i64 7) := HNR.out.cell 0
    have nl0 := HNR.out.lt
    have rl0 := HRW.out.lt
    have hk12 : (k : Int) < 12 := by omega
    clear ro rv
    by_cases hkn : k + 1 = 7
    · obtain rfl : k = 7 - 1 := by omega
      clear c0 c1
      have c0 : wr.cell? ⟨RA, 12, none⟩ = some (.int .i64 7) := HRW.out.cell 12
      have c1 : wr.cell? ⟨RA, 13, none⟩ = some (.func (.func 170) #[] #[]) := HRW.out.cell 13
      clear hk hk12
      go_upto_region 6 with (first
        | (refine wpList_stBox rfl rfl (by rfl) (by rfl) (by exact infoRow) (by rfl) (by exact Blk.new _ _ _) (by rfl) ?_; intro wq hbq hfq; have HBQ := Lib.hid hbq; have HFQ := Lib.hid (show Fr Nob wr wq from ((Fr.refl Nob wr).alloc _).call hfq (fun i e hlt => by have : i = wr.heap.size := e; omega)); have qc := hbq.cell; have ql := hbq.lt; have nc1 : wq.cell? ⟨w.heap.size, 0, none⟩ = some (.int .i64 7) := (HNR.out.fr HFQ.out (fun e => e)).cell 0; have nl1 := (HNR.out.fr HFQ.out (fun e => e)).lt; clear hbq hfq c0 c1 nc0 nl0 rl0)
        | fail)
      have HFC := Lib.hid ((HF1.out.call hfr.out (fun _ h _ => h)).call HFQ.out (fun _ h _ => h))
      have HWQ := Lib.hid ((HNW.out.call hfr.out (fun _ h _ => h)).call HFQ.out (fun _ h _ => h))
      have HX1 := Lib.hid (HX0.out.fr HWQ.out (fun e => e))
      have HY1 := Lib.hid (HY0.out.fr HWQ.out (fun e => e))
      replace HZ := Lib.hid (HZ.out.fr HWQ.out (fun e => e))
      have HM1 := Lib.hid ((HMB.out.fr hfr.out (fun e => e)).fr HFQ.out (fun e => e))
      have xc := HX1.out.cell
      have xl := HX1.out.lt
      have yc := HY1.out.cell
      have yl := HY1.out.lt
      have HZL := Lib.hid HZ.out.lt
      have HPW := Lib.hid (fun k hk => Nat.lt_of_lt_of_le (HP.out k hk) HFC.out.size)
      have HSW := Lib.hid (HS.out.fr HFC.out)
      have HTW := Lib.hid (HT.out.fr HFC.out)
      clear nc1 nl1
      have HCC := Lib.hid (c_imp wq p HPW.out ⟨op, nm, cm, va, lo, hi⟩ ⟨op2, nm2, cm2, va2, lo2, hi2⟩ A B c d ks js HSW.out HTW.out (HCX.out (by decide)) (HY.out (by decide) (by decide) (by decide) (by decide)) hzz.out)
      unfold fval at HCC
      dsimp only at HCC
      go_wp2_with (first
        | ((go_at_call 170); (with_reducible refine (HCC.out).mono ?_); rintro e w2 ⟨o1, n1, m1, v1, l1, i1, A1, c1, k1, rfl, he, hs1, hf1⟩; have HE := Lib.hid he; have HS1 := Lib.hid hs1; have HFR := Lib.hid hf1; have HZ2 := Lib.hid (HZ.out.fr hf1 (fun e => e)); clear he hs1 hf1)
        | (refine wpList_stBox rfl rfl (by rfl) (by rfl) (by exact infoF) (by rfl) (by first | exact HZ2.out.alloc _ | exact HZ2.out) (by rfl) ?_; intro W7 hb7 hf7; have HB7 := Lib.hid hb7; have HF7 := Lib.hid hf7; have rc7 := hb7.cell; clear hb7 hf7)
        | fail)
      refine bodyPost_ret (v := .agg #[.int .i64 o1, .string n1, .int .i64 m1, .int .i64 v1, .int .i64 l1, .int .i64 i1, .slice A1 k1.len c1]) (by simp [results, Tryz.results111, go_sem, rc7]) rfl ?_
      exact FRes.put (x := ⟨o1, n1, m1, v1, l1, i1⟩) (HE.out.trans HSR.out.symm) HS1.out (fun k hk _ => hq_call HP.out (by omega) HZL.out k hk) (HFC.out.call HFR.out (fun _ h _ => h)) (by omega) HF7.out
    · have hkb : ((k : Int) + 1 == 7) = false := by simp; omega
      go_wp2_with (first
        | (refine wpList_stBox rfl rfl (by rfl) (by rfl) (by exact infoRow) (by rfl) (by exact Blk.new _ _ _) (by rfl) ?_; intro wq hbq hfq; have HBQ := Lib.hid hbq; have HFQ := Lib.hid (show Fr Nob wr wq from ((Fr.refl Nob wr).alloc _).call hfq (fun i e hlt => by have : i = wr.heap.size := e; omega)); have qc := hbq.cell; have ql := hbq.lt; have nc1 : wq.cell? ⟨w.heap.size, 0, none⟩ = some (.int .i64 7) := (HNR.out.fr HFQ.out (fun e => e)).cell 0; have nl1 := (HNR.out.fr HFQ.out (fun e => e)).lt; clear hbq hfq c0 c1 nc0 nl0 rl0)
        | fail)
      go_roundw
      case rel => exact ⟨k + 1, by omega, by go_num, Lib.hid (hfr.out.call HFQ.out (fun _ h _ => h))⟩
      case measure => simp [intOf]; omega

set_option maxRecDepth 100000 in
set_option maxHeartbeats 16000000 in
theorem become_8 (w : World) (p : Nat → Prop) (hp : ∀ k, p k → k < w.heap.size) (nm0 : ByteArray) (cm0 va0 lo0 hi0 : Int) (x y : Nd) (NA A B : Option Addr) (nn nc c d : Nat) (ks js : Fo) (hs : FoSlP p w A c ks) (ht : FoSlP p w B d js) (hx : (4 : Int) ≤ 8 → coreS (x, ks.tr)) (hy : (4 : Int) ≤ 8 → (8 : Int) ≠ 4 → (8 : Int) ≠ 9 → (8 : Int) ≠ 10 → coreS (y, js.tr)) (hz : szS (y, js.tr) ≤ 90000) :
    Calls Tryz.prog 111 #[fval ⟨8, nm0, cm0, va0, lo0, hi0⟩ NA nn nc, fval x A ks.len c, fval y B js.len d] w (FRes w p (becS ⟨8, nm0, cm0, va0, lo0, hi0⟩ (x, ks.tr) (y, js.tr))) := by
  have HP := Lib.hid hp
  obtain ⟨sr, hsr⟩ : ∃ sr, sr = becS ⟨8, nm0, cm0, va0, lo0, hi0⟩ (x, ks.tr) (y, js.tr) := ⟨_, rfl⟩
  rw [← hsr]
  have HSR := Lib.hid hsr
  have HS := Lib.hid hs
  have HT := Lib.hid ht
  have HX := Lib.hid hx
  have HY := Lib.hid hy
  have hzz := Lib.hid hz
  clear hp hs ht hx hy hz hsr
  have HCX := HX
  clear HX
  obtain ⟨op, nm, cm, va, lo, hi⟩ := x
  obtain ⟨op2, nm2, cm2, va2, lo2, hi2⟩ := y
  have HRC := Lib.hid (fun W => n_rows W ⟨8, nm0, cm0, va0, lo0, hi0⟩ NA nn nc)
  unfold fval at *
  dsimp only at HRC
  go_enter Tryz.func111, Tryz.ntmps111
  go_upto_region 1 with fail
  obtain ⟨W0, hW0⟩ : ∃ W0, (((w.alloc (.cells #[.int .i64 8, .string nm0, .int .i64 cm0, .int .i64 va0, .int .i64 lo0, .int .i64 hi0, .slice NA nn nc] 28)).alloc (.cells #[.int .i64 op, .string nm, .int .i64 cm, .int .i64 va, .int .i64 lo, .int .i64 hi, .slice A ks.len c] 28)).alloc (.cells #[.int .i64 op2, .string nm2, .int .i64 cm2, .int .i64 va2, .int .i64 lo2, .int .i64 hi2, .slice B js.len d] 28)).alloc (.cells zarr 28) = W0 := ⟨_, rfl⟩
  have HNB := Lib.hid (show Blk W0 w.heap.size 28 #[.int .i64 8, .string nm0, .int .i64 cm0, .int .i64 va0, .int .i64 lo0, .int .i64 hi0, .slice NA nn nc] by rw [← hW0]; exact (((Blk.new _ _ _).alloc _).alloc _).alloc _)
  have HX0 := Lib.hid (show Blk W0 (w.heap.size + 1) 28 #[.int .i64 op, .string nm, .int .i64 cm, .int .i64 va, .int .i64 lo, .int .i64 hi, .slice A ks.len c] by rw [← hW0]; exact ((Blk.new_eq (by simp)).alloc _).alloc _)
  have HY0 := Lib.hid (show Blk W0 (w.heap.size + 1 + 1) 28 #[.int .i64 op2, .string nm2, .int .i64 cm2, .int .i64 va2, .int .i64 lo2, .int .i64 hi2, .slice B js.len d] by rw [← hW0]; exact (Blk.new_eq (by simp)).alloc _)
  have HZ := Lib.hid (show Blk W0 (w.heap.size + 1 + 1 + 1) 28 zarr by rw [← hW0]; exact Blk.new_eq (by simp))
  have HF0 := Lib.hid (show Fr Nob w W0 by rw [← hW0]; exact ((((Fr.refl _ _).alloc _).alloc _).alloc _).alloc _)
  have HW0 := Lib.hid (show w.heap.size + 1 + 1 + 1 < W0.heap.size from HZ.out.lt)
  rw [hW0]
  clear hW0
  have hcn := HNB.out.cell
  have hln := HNB.out.lt
  go_upto_region 3 with (first
    | ((go_at_call 145); (with_reducible refine (HRC.out _).mono ?_); rintro e w1 ⟨RA, mb, rfl, hra, hmb, hr1, hr2, hfr⟩; have HRA := Lib.hid hra; have HMB := Lib.hid hmb; have HF1 := Lib.hid (HF0.out.call (((Fr.refl Nob W0).alloc _).call hfr (fun _ h _ => h)) (fun _ h _ => h)); have HNW := Lib.hid (((Fr.refl Nob W0).alloc _).call hfr (fun _ h _ => h)); clear hra hmb hr1 hr2 hfr)
    | fail)
  clear hcn hln
  go_loopw [15] (fun iv wr => ∃ k : Nat, k < 8 ∧ iv = .int .i64 k ∧ Hid (Fr Nob w1 wr)) (fun iv _ => 12 - (intOf iv).toNat)
  case atStart => exact ⟨0, by decide, rfl, Lib.hid (Fr.refl _ _)⟩
  case round =>
    obtain ⟨k, hk, rfl, hfr⟩ := hrel
    have HRW := Lib.hid (HRA.out.fr hfr.out (fun e => e))
    have HNR := Lib.hid ((HNB.out.fr HNW.out (fun e => e)).fr hfr.out (fun e => e))
    obtain ⟨ro, rf_, ra_, rb_, rv⟩ := rowsA_op ⟨8, nm0, cm0, va0, lo0, hi0⟩ NA nn nc mb k (by omega)
    have c0 := (HRW.out.cell (k * 2)).trans ro
    have c1 := (HRW.out.cell (k * 2 + 1)).trans rv
    have nc0 : wr.cell? ⟨w.heap.size, 0, none⟩ = some (.int .i64 8) := HNR.out.cell 0
    have nl0 := HNR.out.lt
    have rl0 := HRW.out.lt
    have hk12 : (k : Int) < 12 := by omega
    clear ro rv
    by_cases hkn : k + 1 = 8
    · obtain rfl : k = 8 - 1 := by omega
      clear c0 c1
      have c0 : wr.cell? ⟨RA, 14, none⟩ = some (.int .i64 8) := HRW.out.cell 14
      have c1 : wr.cell? ⟨RA, 15, none⟩ = some (.func (.func 171) #[] #[]) := HRW.out.cell 15
      clear hk hk12
      go_upto_region 6 with (first
        | (refine wpList_stBox rfl rfl (by rfl) (by rfl) (by exact infoRow) (by rfl) (by exact Blk.new _ _ _) (by rfl) ?_; intro wq hbq hfq; have HBQ := Lib.hid hbq; have HFQ := Lib.hid (show Fr Nob wr wq from ((Fr.refl Nob wr).alloc _).call hfq (fun i e hlt => by have : i = wr.heap.size := e; omega)); have qc := hbq.cell; have ql := hbq.lt; have nc1 : wq.cell? ⟨w.heap.size, 0, none⟩ = some (.int .i64 8) := (HNR.out.fr HFQ.out (fun e => e)).cell 0; have nl1 := (HNR.out.fr HFQ.out (fun e => e)).lt; clear hbq hfq c0 c1 nc0 nl0 rl0)
        | fail)
      have HFC := Lib.hid ((HF1.out.call hfr.out (fun _ h _ => h)).call HFQ.out (fun _ h _ => h))
      have HWQ := Lib.hid ((HNW.out.call hfr.out (fun _ h _ => h)).call HFQ.out (fun _ h _ => h))
      have HX1 := Lib.hid (HX0.out.fr HWQ.out (fun e => e))
      have HY1 := Lib.hid (HY0.out.fr HWQ.out (fun e => e))
      replace HZ := Lib.hid (HZ.out.fr HWQ.out (fun e => e))
      have HM1 := Lib.hid ((HMB.out.fr hfr.out (fun e => e)).fr HFQ.out (fun e => e))
      have xc := HX1.out.cell
      have xl := HX1.out.lt
      have yc := HY1.out.cell
      have yl := HY1.out.lt
      have HZL := Lib.hid HZ.out.lt
      have HPW := Lib.hid (fun k hk => Nat.lt_of_lt_of_le (HP.out k hk) HFC.out.size)
      have HSW := Lib.hid (HS.out.fr HFC.out)
      have HTW := Lib.hid (HT.out.fr HFC.out)
      clear nc1 nl1
      have HCC := Lib.hid (n_iff wq p HPW.out ⟨op, nm, cm, va, lo, hi⟩ ⟨op2, nm2, cm2, va2, lo2, hi2⟩ A B c d ks js HSW.out HTW.out (HCX.out (by decide)) (HY.out (by decide) (by decide) (by decide) (by decide)) (szS_le (Nat.le_trans hzz.out (by decide))))
      unfold fval at HCC
      dsimp only at HCC
      go_wp2_with (first
        | ((go_at_call 171); (with_reducible refine (HCC.out).mono ?_); rintro e w2 ⟨o1, n1, m1, v1, l1, i1, A1, c1, k1, rfl, he, hs1, hf1⟩; have HE := Lib.hid he; have HS1 := Lib.hid hs1; have HFR := Lib.hid hf1; have HZ2 := Lib.hid (HZ.out.fr hf1 (fun e => e)); clear he hs1 hf1)
        | (refine wpList_stBox rfl rfl (by rfl) (by rfl) (by exact infoF) (by rfl) (by first | exact HZ2.out.alloc _ | exact HZ2.out) (by rfl) ?_; intro W7 hb7 hf7; have HB7 := Lib.hid hb7; have HF7 := Lib.hid hf7; have rc7 := hb7.cell; clear hb7 hf7)
        | fail)
      refine bodyPost_ret (v := .agg #[.int .i64 o1, .string n1, .int .i64 m1, .int .i64 v1, .int .i64 l1, .int .i64 i1, .slice A1 k1.len c1]) (by simp [results, Tryz.results111, go_sem, rc7]) rfl ?_
      exact FRes.put (x := ⟨o1, n1, m1, v1, l1, i1⟩) (HE.out.trans HSR.out.symm) HS1.out (fun k hk _ => hq_call HP.out (by omega) HZL.out k hk) (HFC.out.call HFR.out (fun _ h _ => h)) (by omega) HF7.out
    · have hkb : ((k : Int) + 1 == 8) = false := by simp; omega
      go_wp2_with (first
        | (refine wpList_stBox rfl rfl (by rfl) (by rfl) (by exact infoRow) (by rfl) (by exact Blk.new _ _ _) (by rfl) ?_; intro wq hbq hfq; have HBQ := Lib.hid hbq; have HFQ := Lib.hid (show Fr Nob wr wq from ((Fr.refl Nob wr).alloc _).call hfq (fun i e hlt => by have : i = wr.heap.size := e; omega)); have qc := hbq.cell; have ql := hbq.lt; have nc1 : wq.cell? ⟨w.heap.size, 0, none⟩ = some (.int .i64 8) := (HNR.out.fr HFQ.out (fun e => e)).cell 0; have nl1 := (HNR.out.fr HFQ.out (fun e => e)).lt; clear hbq hfq c0 c1 nc0 nl0 rl0)
        | fail)
      go_roundw
      case rel => exact ⟨k + 1, by omega, by go_num, Lib.hid (hfr.out.call HFQ.out (fun _ h _ => h))⟩
      case measure => simp [intOf]; omega

end Go.Proofs.YtoegdmpmagbaiaaGreatDoor

/- norm.become: spans. -/
namespace Go.Proofs.YtoegdmpmagbaiaaGreatDoor
open Go.RowKit Go.Lib

set_option maxRecDepth 100000 in
set_option maxHeartbeats 16000000 in
theorem become_9 (w : World) (p : Nat → Prop) (hp : ∀ k, p k → k < w.heap.size) (nm0 : ByteArray) (cm0 va0 lo0 hi0 : Int) (x y : Nd) (NA A B : Option Addr) (nn nc c d : Nat) (ks js : Fo) (hs : FoSlP p w A c ks) (ht : FoSlP p w B d js) (hx : (4 : Int) ≤ 9 → coreS (x, ks.tr)) (hy : (4 : Int) ≤ 9 → (9 : Int) ≠ 4 → (9 : Int) ≠ 9 → (9 : Int) ≠ 10 → coreS (y, js.tr)) (hz : szS (y, js.tr) ≤ 90000) :
    Calls Tryz.prog 111 #[fval ⟨9, nm0, cm0, va0, lo0, hi0⟩ NA nn nc, fval x A ks.len c, fval y B js.len d] w (FRes w p (becS ⟨9, nm0, cm0, va0, lo0, hi0⟩ (x, ks.tr) (y, js.tr))) := by
  have HP := Lib.hid hp
  obtain ⟨sr, hsr⟩ : ∃ sr, sr = becS ⟨9, nm0, cm0, va0, lo0, hi0⟩ (x, ks.tr) (y, js.tr) := ⟨_, rfl⟩
  rw [← hsr]
  have HSR := Lib.hid hsr
  have HS := Lib.hid hs
  have HT := Lib.hid ht
  have HX := Lib.hid hx
  have HY := Lib.hid hy
  have hzz := Lib.hid hz
  clear hp hs ht hx hy hz hsr
  have HCX := HX
  clear HX
  obtain ⟨op, nm, cm, va, lo, hi⟩ := x
  obtain ⟨op2, nm2, cm2, va2, lo2, hi2⟩ := y
  have HRC := Lib.hid (fun W => n_rows W ⟨9, nm0, cm0, va0, lo0, hi0⟩ NA nn nc)
  unfold fval at *
  dsimp only at HRC
  go_enter Tryz.func111, Tryz.ntmps111
  go_upto_region 1 with fail
  obtain ⟨W0, hW0⟩ : ∃ W0, (((w.alloc (.cells #[.int .i64 9, .string nm0, .int .i64 cm0, .int .i64 va0, .int .i64 lo0, .int .i64 hi0, .slice NA nn nc] 28)).alloc (.cells #[.int .i64 op, .string nm, .int .i64 cm, .int .i64 va, .int .i64 lo, .int .i64 hi, .slice A ks.len c] 28)).alloc (.cells #[.int .i64 op2, .string nm2, .int .i64 cm2, .int .i64 va2, .int .i64 lo2, .int .i64 hi2, .slice B js.len d] 28)).alloc (.cells zarr 28) = W0 := ⟨_, rfl⟩
  have HNB := Lib.hid (show Blk W0 w.heap.size 28 #[.int .i64 9, .string nm0, .int .i64 cm0, .int .i64 va0, .int .i64 lo0, .int .i64 hi0, .slice NA nn nc] by rw [← hW0]; exact (((Blk.new _ _ _).alloc _).alloc _).alloc _)
  have HX0 := Lib.hid (show Blk W0 (w.heap.size + 1) 28 #[.int .i64 op, .string nm, .int .i64 cm, .int .i64 va, .int .i64 lo, .int .i64 hi, .slice A ks.len c] by rw [← hW0]; exact ((Blk.new_eq (by simp)).alloc _).alloc _)
  have HY0 := Lib.hid (show Blk W0 (w.heap.size + 1 + 1) 28 #[.int .i64 op2, .string nm2, .int .i64 cm2, .int .i64 va2, .int .i64 lo2, .int .i64 hi2, .slice B js.len d] by rw [← hW0]; exact (Blk.new_eq (by simp)).alloc _)
  have HZ := Lib.hid (show Blk W0 (w.heap.size + 1 + 1 + 1) 28 zarr by rw [← hW0]; exact Blk.new_eq (by simp))
  have HF0 := Lib.hid (show Fr Nob w W0 by rw [← hW0]; exact ((((Fr.refl _ _).alloc _).alloc _).alloc _).alloc _)
  have HW0 := Lib.hid (show w.heap.size + 1 + 1 + 1 < W0.heap.size from HZ.out.lt)
  rw [hW0]
  clear hW0
  have hcn := HNB.out.cell
  have hln := HNB.out.lt
  go_upto_region 3 with (first
    | ((go_at_call 145); (with_reducible refine (HRC.out _).mono ?_); rintro e w1 ⟨RA, mb, rfl, hra, hmb, hr1, hr2, hfr⟩; have HRA := Lib.hid hra; have HMB := Lib.hid hmb; have HF1 := Lib.hid (HF0.out.call (((Fr.refl Nob W0).alloc _).call hfr (fun _ h _ => h)) (fun _ h _ => h)); have HNW := Lib.hid (((Fr.refl Nob W0).alloc _).call hfr (fun _ h _ => h)); clear hra hmb hr1 hr2 hfr)
    | fail)
  clear hcn hln
  go_loopw [15] (fun iv wr => ∃ k : Nat, k < 9 ∧ iv = .int .i64 k ∧ Hid (Fr Nob w1 wr)) (fun iv _ => 12 - (intOf iv).toNat)
  case atStart => exact ⟨0, by decide, rfl, Lib.hid (Fr.refl _ _)⟩
  case round =>
    obtain ⟨k, hk, rfl, hfr⟩ := hrel
    have HRW := Lib.hid (HRA.out.fr hfr.out (fun e => e))
    have HNR := Lib.hid ((HNB.out.fr HNW.out (fun e => e)).fr hfr.out (fun e => e))
    obtain ⟨ro, rf_, ra_, rb_, rv⟩ := rowsA_op ⟨9, nm0, cm0, va0, lo0, hi0⟩ NA nn nc mb k (by omega)
    have c0 := (HRW.out.cell (k * 2)).trans ro
    have c1 := (HRW.out.cell (k * 2 + 1)).trans rv
    have nc0 : wr.cell? ⟨w.heap.size, 0, none⟩ = some (.int .i64 9) := HNR.out.cell 0
    have nl0 := HNR.out.lt
    have rl0 := HRW.out.lt
    have hk12 : (k : Int) < 12 := by omega
    clear ro rv
    by_cases hkn : k + 1 = 9
    · obtain rfl : k = 9 - 1 := by omega
      clear c0 c1
      have c0 : wr.cell? ⟨RA, 16, none⟩ = some (.int .i64 9) := HRW.out.cell 16
      have c1 : wr.cell? ⟨RA, 17, none⟩ = some (.func (.func 172) #[] #[.pointer (some ⟨mb, 0, none⟩)]) := HRW.out.cell 17
      clear hk hk12
      go_upto_region 6 with (first
        | (refine wpList_stBox rfl rfl (by rfl) (by rfl) (by exact infoRow) (by rfl) (by exact Blk.new _ _ _) (by rfl) ?_; intro wq hbq hfq; have HBQ := Lib.hid hbq; have HFQ := Lib.hid (show Fr Nob wr wq from ((Fr.refl Nob wr).alloc _).call hfq (fun i e hlt => by have : i = wr.heap.size := e; omega)); have qc := hbq.cell; have ql := hbq.lt; have nc1 : wq.cell? ⟨w.heap.size, 0, none⟩ = some (.int .i64 9) := (HNR.out.fr HFQ.out (fun e => e)).cell 0; have nl1 := (HNR.out.fr HFQ.out (fun e => e)).lt; clear hbq hfq c0 c1 nc0 nl0 rl0)
        | fail)
      have HFC := Lib.hid ((HF1.out.call hfr.out (fun _ h _ => h)).call HFQ.out (fun _ h _ => h))
      have HWQ := Lib.hid ((HNW.out.call hfr.out (fun _ h _ => h)).call HFQ.out (fun _ h _ => h))
      have HX1 := Lib.hid (HX0.out.fr HWQ.out (fun e => e))
      have HY1 := Lib.hid (HY0.out.fr HWQ.out (fun e => e))
      replace HZ := Lib.hid (HZ.out.fr HWQ.out (fun e => e))
      have HM1 := Lib.hid ((HMB.out.fr hfr.out (fun e => e)).fr HFQ.out (fun e => e))
      have xc := HX1.out.cell
      have xl := HX1.out.lt
      have yc := HY1.out.cell
      have yl := HY1.out.lt
      have HZL := Lib.hid HZ.out.lt
      have HPW := Lib.hid (fun k hk => Nat.lt_of_lt_of_le (HP.out k hk) HFC.out.size)
      have HSW := Lib.hid (HS.out.fr HFC.out)
      have HTW := Lib.hid (HT.out.fr HFC.out)
      clear nc1 nl1
      have HCC := Lib.hid (c_ev wq p HPW.out ⟨op, nm, cm, va, lo, hi⟩ ⟨op2, nm2, cm2, va2, lo2, hi2⟩ A B c d ks js HSW.out mb nn nc ⟨9, nm0, cm0, va0, lo0, hi0⟩ NA HM1.out)
      unfold fval at HCC
      dsimp only at HCC
      go_wp2_with (first
        | ((go_at_call 172); (with_reducible refine (HCC.out).mono ?_); rintro e w2 ⟨o1, n1, m1, v1, l1, i1, A1, c1, k1, rfl, he, hs1, hf1⟩; have HE := Lib.hid he; have HS1 := Lib.hid hs1; have HFR := Lib.hid hf1; have HZ2 := Lib.hid (HZ.out.fr hf1 (fun e => e)); clear he hs1 hf1)
        | (refine wpList_stBox rfl rfl (by rfl) (by rfl) (by exact infoF) (by rfl) (by first | exact HZ2.out.alloc _ | exact HZ2.out) (by rfl) ?_; intro W7 hb7 hf7; have HB7 := Lib.hid hb7; have HF7 := Lib.hid hf7; have rc7 := hb7.cell; clear hb7 hf7)
        | fail)
      refine bodyPost_ret (v := .agg #[.int .i64 o1, .string n1, .int .i64 m1, .int .i64 v1, .int .i64 l1, .int .i64 i1, .slice A1 k1.len c1]) (by simp [results, Tryz.results111, go_sem, rc7]) rfl ?_
      exact FRes.put (x := ⟨o1, n1, m1, v1, l1, i1⟩) (HE.out.trans HSR.out.symm) HS1.out (fun k hk _ => hq_call HP.out (by omega) HZL.out k hk) (HFC.out.call HFR.out (fun _ h _ => h)) (by omega) HF7.out
    · have hkb : ((k : Int) + 1 == 9) = false := by simp; omega
      go_wp2_with (first
        | (refine wpList_stBox rfl rfl (by rfl) (by rfl) (by exact infoRow) (by rfl) (by exact Blk.new _ _ _) (by rfl) ?_; intro wq hbq hfq; have HBQ := Lib.hid hbq; have HFQ := Lib.hid (show Fr Nob wr wq from ((Fr.refl Nob wr).alloc _).call hfq (fun i e hlt => by have : i = wr.heap.size := e; omega)); have qc := hbq.cell; have ql := hbq.lt; have nc1 : wq.cell? ⟨w.heap.size, 0, none⟩ = some (.int .i64 9) := (HNR.out.fr HFQ.out (fun e => e)).cell 0; have nl1 := (HNR.out.fr HFQ.out (fun e => e)).lt; clear hbq hfq c0 c1 nc0 nl0 rl0)
        | fail)
      go_roundw
      case rel => exact ⟨k + 1, by omega, by go_num, Lib.hid (hfr.out.call HFQ.out (fun _ h _ => h))⟩
      case measure => simp [intOf]; omega

set_option maxRecDepth 100000 in
set_option maxHeartbeats 16000000 in
theorem become_10 (w : World) (p : Nat → Prop) (hp : ∀ k, p k → k < w.heap.size) (nm0 : ByteArray) (cm0 va0 lo0 hi0 : Int) (x y : Nd) (NA A B : Option Addr) (nn nc c d : Nat) (ks js : Fo) (hs : FoSlP p w A c ks) (ht : FoSlP p w B d js) (hx : (4 : Int) ≤ 10 → coreS (x, ks.tr)) (hy : (4 : Int) ≤ 10 → (10 : Int) ≠ 4 → (10 : Int) ≠ 9 → (10 : Int) ≠ 10 → coreS (y, js.tr)) (hz : szS (y, js.tr) ≤ 90000) :
    Calls Tryz.prog 111 #[fval ⟨10, nm0, cm0, va0, lo0, hi0⟩ NA nn nc, fval x A ks.len c, fval y B js.len d] w (FRes w p (becS ⟨10, nm0, cm0, va0, lo0, hi0⟩ (x, ks.tr) (y, js.tr))) := by
  have HP := Lib.hid hp
  obtain ⟨sr, hsr⟩ : ∃ sr, sr = becS ⟨10, nm0, cm0, va0, lo0, hi0⟩ (x, ks.tr) (y, js.tr) := ⟨_, rfl⟩
  rw [← hsr]
  have HSR := Lib.hid hsr
  have HS := Lib.hid hs
  have HT := Lib.hid ht
  have HX := Lib.hid hx
  have HY := Lib.hid hy
  have hzz := Lib.hid hz
  clear hp hs ht hx hy hz hsr
  have HCX := HX
  clear HX
  obtain ⟨op, nm, cm, va, lo, hi⟩ := x
  obtain ⟨op2, nm2, cm2, va2, lo2, hi2⟩ := y
  have HRC := Lib.hid (fun W => n_rows W ⟨10, nm0, cm0, va0, lo0, hi0⟩ NA nn nc)
  unfold fval at *
  dsimp only at HRC
  go_enter Tryz.func111, Tryz.ntmps111
  go_upto_region 1 with fail
  obtain ⟨W0, hW0⟩ : ∃ W0, (((w.alloc (.cells #[.int .i64 10, .string nm0, .int .i64 cm0, .int .i64 va0, .int .i64 lo0, .int .i64 hi0, .slice NA nn nc] 28)).alloc (.cells #[.int .i64 op, .string nm, .int .i64 cm, .int .i64 va, .int .i64 lo, .int .i64 hi, .slice A ks.len c] 28)).alloc (.cells #[.int .i64 op2, .string nm2, .int .i64 cm2, .int .i64 va2, .int .i64 lo2, .int .i64 hi2, .slice B js.len d] 28)).alloc (.cells zarr 28) = W0 := ⟨_, rfl⟩
  have HNB := Lib.hid (show Blk W0 w.heap.size 28 #[.int .i64 10, .string nm0, .int .i64 cm0, .int .i64 va0, .int .i64 lo0, .int .i64 hi0, .slice NA nn nc] by rw [← hW0]; exact (((Blk.new _ _ _).alloc _).alloc _).alloc _)
  have HX0 := Lib.hid (show Blk W0 (w.heap.size + 1) 28 #[.int .i64 op, .string nm, .int .i64 cm, .int .i64 va, .int .i64 lo, .int .i64 hi, .slice A ks.len c] by rw [← hW0]; exact ((Blk.new_eq (by simp)).alloc _).alloc _)
  have HY0 := Lib.hid (show Blk W0 (w.heap.size + 1 + 1) 28 #[.int .i64 op2, .string nm2, .int .i64 cm2, .int .i64 va2, .int .i64 lo2, .int .i64 hi2, .slice B js.len d] by rw [← hW0]; exact (Blk.new_eq (by simp)).alloc _)
  have HZ := Lib.hid (show Blk W0 (w.heap.size + 1 + 1 + 1) 28 zarr by rw [← hW0]; exact Blk.new_eq (by simp))
  have HF0 := Lib.hid (show Fr Nob w W0 by rw [← hW0]; exact ((((Fr.refl _ _).alloc _).alloc _).alloc _).alloc _)
  have HW0 := Lib.hid (show w.heap.size + 1 + 1 + 1 < W0.heap.size from HZ.out.lt)
  rw [hW0]
  clear hW0
  have hcn := HNB.out.cell
  have hln := HNB.out.lt
  go_upto_region 3 with (first
    | ((go_at_call 145); (with_reducible refine (HRC.out _).mono ?_); rintro e w1 ⟨RA, mb, rfl, hra, hmb, hr1, hr2, hfr⟩; have HRA := Lib.hid hra; have HMB := Lib.hid hmb; have HF1 := Lib.hid (HF0.out.call (((Fr.refl Nob W0).alloc _).call hfr (fun _ h _ => h)) (fun _ h _ => h)); have HNW := Lib.hid (((Fr.refl Nob W0).alloc _).call hfr (fun _ h _ => h)); clear hra hmb hr1 hr2 hfr)
    | fail)
  clear hcn hln
  go_loopw [15] (fun iv wr => ∃ k : Nat, k < 10 ∧ iv = .int .i64 k ∧ Hid (Fr Nob w1 wr)) (fun iv _ => 12 - (intOf iv).toNat)
  case atStart => exact ⟨0, by decide, rfl, Lib.hid (Fr.refl _ _)⟩
  case round =>
    obtain ⟨k, hk, rfl, hfr⟩ := hrel
    have HRW := Lib.hid (HRA.out.fr hfr.out (fun e => e))
    have HNR := Lib.hid ((HNB.out.fr HNW.out (fun e => e)).fr hfr.out (fun e => e))
    obtain ⟨ro, rf_, ra_, rb_, rv⟩ := rowsA_op ⟨10, nm0, cm0, va0, lo0, hi0⟩ NA nn nc mb k (by omega)
    have c0 := (HRW.out.cell (k * 2)).trans ro
    have c1 := (HRW.out.cell (k * 2 + 1)).trans rv
    have nc0 : wr.cell? ⟨w.heap.size, 0, none⟩ = some (.int .i64 10) := HNR.out.cell 0
    have nl0 := HNR.out.lt
    have rl0 := HRW.out.lt
    have hk12 : (k : Int) < 12 := by omega
    clear ro rv
    by_cases hkn : k + 1 = 10
    · obtain rfl : k = 10 - 1 := by omega
      clear c0 c1
      have c0 : wr.cell? ⟨RA, 18, none⟩ = some (.int .i64 10) := HRW.out.cell 18
      have c1 : wr.cell? ⟨RA, 19, none⟩ = some (.func (.func 174) #[] #[.pointer (some ⟨mb, 0, none⟩)]) := HRW.out.cell 19
      clear hk hk12
      go_upto_region 6 with (first
        | (refine wpList_stBox rfl rfl (by rfl) (by rfl) (by exact infoRow) (by rfl) (by exact Blk.new _ _ _) (by rfl) ?_; intro wq hbq hfq; have HBQ := Lib.hid hbq; have HFQ := Lib.hid (show Fr Nob wr wq from ((Fr.refl Nob wr).alloc _).call hfq (fun i e hlt => by have : i = wr.heap.size := e; omega)); have qc := hbq.cell; have ql := hbq.lt; have nc1 : wq.cell? ⟨w.heap.size, 0, none⟩ = some (.int .i64 10) := (HNR.out.fr HFQ.out (fun e => e)).cell 0; have nl1 := (HNR.out.fr HFQ.out (fun e => e)).lt; clear hbq hfq c0 c1 nc0 nl0 rl0)
        | fail)
      have HFC := Lib.hid ((HF1.out.call hfr.out (fun _ h _ => h)).call HFQ.out (fun _ h _ => h))
      have HWQ := Lib.hid ((HNW.out.call hfr.out (fun _ h _ => h)).call HFQ.out (fun _ h _ => h))
      have HX1 := Lib.hid (HX0.out.fr HWQ.out (fun e => e))
      have HY1 := Lib.hid (HY0.out.fr HWQ.out (fun e => e))
      replace HZ := Lib.hid (HZ.out.fr HWQ.out (fun e => e))
      have HM1 := Lib.hid ((HMB.out.fr hfr.out (fun e => e)).fr HFQ.out (fun e => e))
      have xc := HX1.out.cell
      have xl := HX1.out.lt
      have yc := HY1.out.cell
      have yl := HY1.out.lt
      have HZL := Lib.hid HZ.out.lt
      have HPW := Lib.hid (fun k hk => Nat.lt_of_lt_of_le (HP.out k hk) HFC.out.size)
      have HSW := Lib.hid (HS.out.fr HFC.out)
      have HTW := Lib.hid (HT.out.fr HFC.out)
      clear nc1 nl1
      have HCC := Lib.hid (c_al wq p HPW.out ⟨op, nm, cm, va, lo, hi⟩ ⟨op2, nm2, cm2, va2, lo2, hi2⟩ A B c d ks js HSW.out (HCX.out (by decide)) mb nn nc ⟨10, nm0, cm0, va0, lo0, hi0⟩ NA HM1.out)
      unfold fval at HCC
      dsimp only at HCC
      go_wp2_with (first
        | ((go_at_call 174); (with_reducible refine (HCC.out).mono ?_); rintro e w2 ⟨o1, n1, m1, v1, l1, i1, A1, c1, k1, rfl, he, hs1, hf1⟩; have HE := Lib.hid he; have HS1 := Lib.hid hs1; have HFR := Lib.hid hf1; have HZ2 := Lib.hid (HZ.out.fr hf1 (fun e => e)); clear he hs1 hf1)
        | (refine wpList_stBox rfl rfl (by rfl) (by rfl) (by exact infoF) (by rfl) (by first | exact HZ2.out.alloc _ | exact HZ2.out) (by rfl) ?_; intro W7 hb7 hf7; have HB7 := Lib.hid hb7; have HF7 := Lib.hid hf7; have rc7 := hb7.cell; clear hb7 hf7)
        | fail)
      refine bodyPost_ret (v := .agg #[.int .i64 o1, .string n1, .int .i64 m1, .int .i64 v1, .int .i64 l1, .int .i64 i1, .slice A1 k1.len c1]) (by simp [results, Tryz.results111, go_sem, rc7]) rfl ?_
      exact FRes.put (x := ⟨o1, n1, m1, v1, l1, i1⟩) (HE.out.trans HSR.out.symm) HS1.out (fun k hk _ => hq_call HP.out (by omega) HZL.out k hk) (HFC.out.call HFR.out (fun _ h _ => h)) (by omega) HF7.out
    · have hkb : ((k : Int) + 1 == 10) = false := by simp; omega
      go_wp2_with (first
        | (refine wpList_stBox rfl rfl (by rfl) (by rfl) (by exact infoRow) (by rfl) (by exact Blk.new _ _ _) (by rfl) ?_; intro wq hbq hfq; have HBQ := Lib.hid hbq; have HFQ := Lib.hid (show Fr Nob wr wq from ((Fr.refl Nob wr).alloc _).call hfq (fun i e hlt => by have : i = wr.heap.size := e; omega)); have qc := hbq.cell; have ql := hbq.lt; have nc1 : wq.cell? ⟨w.heap.size, 0, none⟩ = some (.int .i64 10) := (HNR.out.fr HFQ.out (fun e => e)).cell 0; have nl1 := (HNR.out.fr HFQ.out (fun e => e)).lt; clear hbq hfq c0 c1 nc0 nl0 rl0)
        | fail)
      go_roundw
      case rel => exact ⟨k + 1, by omega, by go_num, Lib.hid (hfr.out.call HFQ.out (fun _ h _ => h))⟩
      case measure => simp [intOf]; omega

set_option maxRecDepth 100000 in
set_option maxHeartbeats 16000000 in
theorem become_11 (w : World) (p : Nat → Prop) (hp : ∀ k, p k → k < w.heap.size) (nm0 : ByteArray) (cm0 va0 lo0 hi0 : Int) (x y : Nd) (NA A B : Option Addr) (nn nc c d : Nat) (ks js : Fo) (hs : FoSlP p w A c ks) (ht : FoSlP p w B d js) (hx : (4 : Int) ≤ 11 → coreS (x, ks.tr)) (hy : (4 : Int) ≤ 11 → (11 : Int) ≠ 4 → (11 : Int) ≠ 9 → (11 : Int) ≠ 10 → coreS (y, js.tr)) (hz : szS (y, js.tr) ≤ 90000) :
    Calls Tryz.prog 111 #[fval ⟨11, nm0, cm0, va0, lo0, hi0⟩ NA nn nc, fval x A ks.len c, fval y B js.len d] w (FRes w p (becS ⟨11, nm0, cm0, va0, lo0, hi0⟩ (x, ks.tr) (y, js.tr))) := by
  have HP := Lib.hid hp
  obtain ⟨sr, hsr⟩ : ∃ sr, sr = becS ⟨11, nm0, cm0, va0, lo0, hi0⟩ (x, ks.tr) (y, js.tr) := ⟨_, rfl⟩
  rw [← hsr]
  have HSR := Lib.hid hsr
  have HS := Lib.hid hs
  have HT := Lib.hid ht
  have HX := Lib.hid hx
  have HY := Lib.hid hy
  have hzz := Lib.hid hz
  clear hp hs ht hx hy hz hsr
  have HCX := HX
  clear HX
  obtain ⟨op, nm, cm, va, lo, hi⟩ := x
  obtain ⟨op2, nm2, cm2, va2, lo2, hi2⟩ := y
  have HRC := Lib.hid (fun W => n_rows W ⟨11, nm0, cm0, va0, lo0, hi0⟩ NA nn nc)
  unfold fval at *
  dsimp only at HRC
  go_enter Tryz.func111, Tryz.ntmps111
  go_upto_region 1 with fail
  obtain ⟨W0, hW0⟩ : ∃ W0, (((w.alloc (.cells #[.int .i64 11, .string nm0, .int .i64 cm0, .int .i64 va0, .int .i64 lo0, .int .i64 hi0, .slice NA nn nc] 28)).alloc (.cells #[.int .i64 op, .string nm, .int .i64 cm, .int .i64 va, .int .i64 lo, .int .i64 hi, .slice A ks.len c] 28)).alloc (.cells #[.int .i64 op2, .string nm2, .int .i64 cm2, .int .i64 va2, .int .i64 lo2, .int .i64 hi2, .slice B js.len d] 28)).alloc (.cells zarr 28) = W0 := ⟨_, rfl⟩
  have HNB := Lib.hid (show Blk W0 w.heap.size 28 #[.int .i64 11, .string nm0, .int .i64 cm0, .int .i64 va0, .int .i64 lo0, .int .i64 hi0, .slice NA nn nc] by rw [← hW0]; exact (((Blk.new _ _ _).alloc _).alloc _).alloc _)
  have HX0 := Lib.hid (show Blk W0 (w.heap.size + 1) 28 #[.int .i64 op, .string nm, .int .i64 cm, .int .i64 va, .int .i64 lo, .int .i64 hi, .slice A ks.len c] by rw [← hW0]; exact ((Blk.new_eq (by simp)).alloc _).alloc _)
  have HY0 := Lib.hid (show Blk W0 (w.heap.size + 1 + 1) 28 #[.int .i64 op2, .string nm2, .int .i64 cm2, .int .i64 va2, .int .i64 lo2, .int .i64 hi2, .slice B js.len d] by rw [← hW0]; exact (Blk.new_eq (by simp)).alloc _)
  have HZ := Lib.hid (show Blk W0 (w.heap.size + 1 + 1 + 1) 28 zarr by rw [← hW0]; exact Blk.new_eq (by simp))
  have HF0 := Lib.hid (show Fr Nob w W0 by rw [← hW0]; exact ((((Fr.refl _ _).alloc _).alloc _).alloc _).alloc _)
  have HW0 := Lib.hid (show w.heap.size + 1 + 1 + 1 < W0.heap.size from HZ.out.lt)
  rw [hW0]
  clear hW0
  have hcn := HNB.out.cell
  have hln := HNB.out.lt
  go_upto_region 3 with (first
    | ((go_at_call 145); (with_reducible refine (HRC.out _).mono ?_); rintro e w1 ⟨RA, mb, rfl, hra, hmb, hr1, hr2, hfr⟩; have HRA := Lib.hid hra; have HMB := Lib.hid hmb; have HF1 := Lib.hid (HF0.out.call (((Fr.refl Nob W0).alloc _).call hfr (fun _ h _ => h)) (fun _ h _ => h)); have HNW := Lib.hid (((Fr.refl Nob W0).alloc _).call hfr (fun _ h _ => h)); clear hra hmb hr1 hr2 hfr)
    | fail)
  clear hcn hln
  go_loopw [15] (fun iv wr => ∃ k : Nat, k < 11 ∧ iv = .int .i64 k ∧ Hid (Fr Nob w1 wr)) (fun iv _ => 12 - (intOf iv).toNat)
  case atStart => exact ⟨0, by decide, rfl, Lib.hid (Fr.refl _ _)⟩
  case round =>
    obtain ⟨k, hk, rfl, hfr⟩ := hrel
    have HRW := Lib.hid (HRA.out.fr hfr.out (fun e => e))
    have HNR := Lib.hid ((HNB.out.fr HNW.out (fun e => e)).fr hfr.out (fun e => e))
    obtain ⟨ro, rf_, ra_, rb_, rv⟩ := rowsA_op ⟨11, nm0, cm0, va0, lo0, hi0⟩ NA nn nc mb k (by omega)
    have c0 := (HRW.out.cell (k * 2)).trans ro
    have c1 := (HRW.out.cell (k * 2 + 1)).trans rv
    have nc0 : wr.cell? ⟨w.heap.size, 0, none⟩ = some (.int .i64 11) := HNR.out.cell 0
    have nl0 := HNR.out.lt
    have rl0 := HRW.out.lt
    have hk12 : (k : Int) < 12 := by omega
    clear ro rv
    by_cases hkn : k + 1 = 11
    · obtain rfl : k = 11 - 1 := by omega
      clear c0 c1
      have c0 : wr.cell? ⟨RA, 20, none⟩ = some (.int .i64 11) := HRW.out.cell 20
      have c1 : wr.cell? ⟨RA, 21, none⟩ = some (.func (.func 175) #[.agg #[.int .i64 11, .string nm0, .int .i64 cm0, .int .i64 va0, .int .i64 lo0, .int .i64 hi0, .slice NA nn nc]] #[]) := HRW.out.cell 21
      clear hk hk12
      go_upto_region 6 with (first
        | (refine wpList_stBox rfl rfl (by rfl) (by rfl) (by exact infoRow) (by rfl) (by exact Blk.new _ _ _) (by rfl) ?_; intro wq hbq hfq; have HBQ := Lib.hid hbq; have HFQ := Lib.hid (show Fr Nob wr wq from ((Fr.refl Nob wr).alloc _).call hfq (fun i e hlt => by have : i = wr.heap.size := e; omega)); have qc := hbq.cell; have ql := hbq.lt; have nc1 : wq.cell? ⟨w.heap.size, 0, none⟩ = some (.int .i64 11) := (HNR.out.fr HFQ.out (fun e => e)).cell 0; have nl1 := (HNR.out.fr HFQ.out (fun e => e)).lt; clear hbq hfq c0 c1 nc0 nl0 rl0)
        | fail)
      have HFC := Lib.hid ((HF1.out.call hfr.out (fun _ h _ => h)).call HFQ.out (fun _ h _ => h))
      have HWQ := Lib.hid ((HNW.out.call hfr.out (fun _ h _ => h)).call HFQ.out (fun _ h _ => h))
      have HX1 := Lib.hid (HX0.out.fr HWQ.out (fun e => e))
      have HY1 := Lib.hid (HY0.out.fr HWQ.out (fun e => e))
      replace HZ := Lib.hid (HZ.out.fr HWQ.out (fun e => e))
      have HM1 := Lib.hid ((HMB.out.fr hfr.out (fun e => e)).fr HFQ.out (fun e => e))
      have xc := HX1.out.cell
      have xl := HX1.out.lt
      have yc := HY1.out.cell
      have yl := HY1.out.lt
      have HZL := Lib.hid HZ.out.lt
      have HPW := Lib.hid (fun k hk => Nat.lt_of_lt_of_le (HP.out k hk) HFC.out.size)
      have HSW := Lib.hid (HS.out.fr HFC.out)
      have HTW := Lib.hid (HT.out.fr HFC.out)
      clear nc1 nl1
      have HCC := Lib.hid (n_un wq p HPW.out ⟨11, nm0, cm0, va0, lo0, hi0⟩ ⟨op, nm, cm, va, lo, hi⟩ ⟨op2, nm2, cm2, va2, lo2, hi2⟩ NA A B nn nc c d ks js HSW.out HTW.out)
      unfold fval at HCC
      dsimp only at HCC
      go_wp2_with (first
        | ((go_at_call 175); (with_reducible refine (HCC.out).mono ?_); rintro e w2 ⟨o1, n1, m1, v1, l1, i1, A1, c1, k1, rfl, he, hs1, hf1⟩; have HE := Lib.hid he; have HS1 := Lib.hid hs1; have HFR := Lib.hid hf1; have HZ2 := Lib.hid (HZ.out.fr hf1 (fun e => e)); clear he hs1 hf1)
        | (refine wpList_stBox rfl rfl (by rfl) (by rfl) (by exact infoF) (by rfl) (by first | exact HZ2.out.alloc _ | exact HZ2.out) (by rfl) ?_; intro W7 hb7 hf7; have HB7 := Lib.hid hb7; have HF7 := Lib.hid hf7; have rc7 := hb7.cell; clear hb7 hf7)
        | fail)
      refine bodyPost_ret (v := .agg #[.int .i64 o1, .string n1, .int .i64 m1, .int .i64 v1, .int .i64 l1, .int .i64 i1, .slice A1 k1.len c1]) (by simp [results, Tryz.results111, go_sem, rc7]) rfl ?_
      exact FRes.put (x := ⟨o1, n1, m1, v1, l1, i1⟩) (HE.out.trans HSR.out.symm) HS1.out (fun k hk _ => hq_call HP.out (by omega) HZL.out k hk) (HFC.out.call HFR.out (fun _ h _ => h)) (by omega) HF7.out
    · have hkb : ((k : Int) + 1 == 11) = false := by simp; omega
      go_wp2_with (first
        | (refine wpList_stBox rfl rfl (by rfl) (by rfl) (by exact infoRow) (by rfl) (by exact Blk.new _ _ _) (by rfl) ?_; intro wq hbq hfq; have HBQ := Lib.hid hbq; have HFQ := Lib.hid (show Fr Nob wr wq from ((Fr.refl Nob wr).alloc _).call hfq (fun i e hlt => by have : i = wr.heap.size := e; omega)); have qc := hbq.cell; have ql := hbq.lt; have nc1 : wq.cell? ⟨w.heap.size, 0, none⟩ = some (.int .i64 11) := (HNR.out.fr HFQ.out (fun e => e)).cell 0; have nl1 := (HNR.out.fr HFQ.out (fun e => e)).lt; clear hbq hfq c0 c1 nc0 nl0 rl0)
        | fail)
      go_roundw
      case rel => exact ⟨k + 1, by omega, by go_num, Lib.hid (hfr.out.call HFQ.out (fun _ h _ => h))⟩
      case measure => simp [intOf]; omega

end Go.Proofs.YtoegdmpmagbaiaaGreatDoor

/- norm.become: release. -/
namespace Go.Proofs.YtoegdmpmagbaiaaGreatDoor
open Go.RowKit Go.Lib

set_option maxRecDepth 100000 in
set_option maxHeartbeats 16000000 in
theorem become_12 (w : World) (p : Nat → Prop) (hp : ∀ k, p k → k < w.heap.size) (nm0 : ByteArray) (cm0 va0 lo0 hi0 : Int) (x y : Nd) (NA A B : Option Addr) (nn nc c d : Nat) (ks js : Fo) (hs : FoSlP p w A c ks) (ht : FoSlP p w B d js) (hx : (4 : Int) ≤ 12 → coreS (x, ks.tr)) (hy : (4 : Int) ≤ 12 → (12 : Int) ≠ 4 → (12 : Int) ≠ 9 → (12 : Int) ≠ 10 → coreS (y, js.tr)) (hz : szS (y, js.tr) ≤ 90000) :
    Calls Tryz.prog 111 #[fval ⟨12, nm0, cm0, va0, lo0, hi0⟩ NA nn nc, fval x A ks.len c, fval y B js.len d] w (FRes w p (becS ⟨12, nm0, cm0, va0, lo0, hi0⟩ (x, ks.tr) (y, js.tr))) := by
  have HP := Lib.hid hp
  obtain ⟨sr, hsr⟩ : ∃ sr, sr = becS ⟨12, nm0, cm0, va0, lo0, hi0⟩ (x, ks.tr) (y, js.tr) := ⟨_, rfl⟩
  rw [← hsr]
  have HSR := Lib.hid hsr
  have HS := Lib.hid hs
  have HT := Lib.hid ht
  have HX := Lib.hid hx
  have HY := Lib.hid hy
  have hzz := Lib.hid hz
  clear hp hs ht hx hy hz hsr
  have HCX := HX
  clear HX
  obtain ⟨op, nm, cm, va, lo, hi⟩ := x
  obtain ⟨op2, nm2, cm2, va2, lo2, hi2⟩ := y
  have HRC := Lib.hid (fun W => n_rows W ⟨12, nm0, cm0, va0, lo0, hi0⟩ NA nn nc)
  unfold fval at *
  dsimp only at HRC
  go_enter Tryz.func111, Tryz.ntmps111
  go_upto_region 1 with fail
  obtain ⟨W0, hW0⟩ : ∃ W0, (((w.alloc (.cells #[.int .i64 12, .string nm0, .int .i64 cm0, .int .i64 va0, .int .i64 lo0, .int .i64 hi0, .slice NA nn nc] 28)).alloc (.cells #[.int .i64 op, .string nm, .int .i64 cm, .int .i64 va, .int .i64 lo, .int .i64 hi, .slice A ks.len c] 28)).alloc (.cells #[.int .i64 op2, .string nm2, .int .i64 cm2, .int .i64 va2, .int .i64 lo2, .int .i64 hi2, .slice B js.len d] 28)).alloc (.cells zarr 28) = W0 := ⟨_, rfl⟩
  have HNB := Lib.hid (show Blk W0 w.heap.size 28 #[.int .i64 12, .string nm0, .int .i64 cm0, .int .i64 va0, .int .i64 lo0, .int .i64 hi0, .slice NA nn nc] by rw [← hW0]; exact (((Blk.new _ _ _).alloc _).alloc _).alloc _)
  have HX0 := Lib.hid (show Blk W0 (w.heap.size + 1) 28 #[.int .i64 op, .string nm, .int .i64 cm, .int .i64 va, .int .i64 lo, .int .i64 hi, .slice A ks.len c] by rw [← hW0]; exact ((Blk.new_eq (by simp)).alloc _).alloc _)
  have HY0 := Lib.hid (show Blk W0 (w.heap.size + 1 + 1) 28 #[.int .i64 op2, .string nm2, .int .i64 cm2, .int .i64 va2, .int .i64 lo2, .int .i64 hi2, .slice B js.len d] by rw [← hW0]; exact (Blk.new_eq (by simp)).alloc _)
  have HZ := Lib.hid (show Blk W0 (w.heap.size + 1 + 1 + 1) 28 zarr by rw [← hW0]; exact Blk.new_eq (by simp))
  have HF0 := Lib.hid (show Fr Nob w W0 by rw [← hW0]; exact ((((Fr.refl _ _).alloc _).alloc _).alloc _).alloc _)
  have HW0 := Lib.hid (show w.heap.size + 1 + 1 + 1 < W0.heap.size from HZ.out.lt)
  rw [hW0]
  clear hW0
  have hcn := HNB.out.cell
  have hln := HNB.out.lt
  go_upto_region 3 with (first
    | ((go_at_call 145); (with_reducible refine (HRC.out _).mono ?_); rintro e w1 ⟨RA, mb, rfl, hra, hmb, hr1, hr2, hfr⟩; have HRA := Lib.hid hra; have HMB := Lib.hid hmb; have HF1 := Lib.hid (HF0.out.call (((Fr.refl Nob W0).alloc _).call hfr (fun _ h _ => h)) (fun _ h _ => h)); have HNW := Lib.hid (((Fr.refl Nob W0).alloc _).call hfr (fun _ h _ => h)); clear hra hmb hr1 hr2 hfr)
    | fail)
  clear hcn hln
  go_loopw [15] (fun iv wr => ∃ k : Nat, k < 12 ∧ iv = .int .i64 k ∧ Hid (Fr Nob w1 wr)) (fun iv _ => 12 - (intOf iv).toNat)
  case atStart => exact ⟨0, by decide, rfl, Lib.hid (Fr.refl _ _)⟩
  case round =>
    obtain ⟨k, hk, rfl, hfr⟩ := hrel
    have HRW := Lib.hid (HRA.out.fr hfr.out (fun e => e))
    have HNR := Lib.hid ((HNB.out.fr HNW.out (fun e => e)).fr hfr.out (fun e => e))
    obtain ⟨ro, rf_, ra_, rb_, rv⟩ := rowsA_op ⟨12, nm0, cm0, va0, lo0, hi0⟩ NA nn nc mb k (by omega)
    have c0 := (HRW.out.cell (k * 2)).trans ro
    have c1 := (HRW.out.cell (k * 2 + 1)).trans rv
    have nc0 : wr.cell? ⟨w.heap.size, 0, none⟩ = some (.int .i64 12) := HNR.out.cell 0
    have nl0 := HNR.out.lt
    have rl0 := HRW.out.lt
    have hk12 : (k : Int) < 12 := by omega
    clear ro rv
    by_cases hkn : k + 1 = 12
    · obtain rfl : k = 12 - 1 := by omega
      clear c0 c1
      have c0 : wr.cell? ⟨RA, 22, none⟩ = some (.int .i64 12) := HRW.out.cell 22
      have c1 : wr.cell? ⟨RA, 23, none⟩ = some (.func (.func 176) #[] #[.pointer (some ⟨mb, 0, none⟩)]) := HRW.out.cell 23
      clear hk hk12
      go_upto_region 6 with (first
        | (refine wpList_stBox rfl rfl (by rfl) (by rfl) (by exact infoRow) (by rfl) (by exact Blk.new _ _ _) (by rfl) ?_; intro wq hbq hfq; have HBQ := Lib.hid hbq; have HFQ := Lib.hid (show Fr Nob wr wq from ((Fr.refl Nob wr).alloc _).call hfq (fun i e hlt => by have : i = wr.heap.size := e; omega)); have qc := hbq.cell; have ql := hbq.lt; have nc1 : wq.cell? ⟨w.heap.size, 0, none⟩ = some (.int .i64 12) := (HNR.out.fr HFQ.out (fun e => e)).cell 0; have nl1 := (HNR.out.fr HFQ.out (fun e => e)).lt; clear hbq hfq c0 c1 nc0 nl0 rl0)
        | fail)
      have HFC := Lib.hid ((HF1.out.call hfr.out (fun _ h _ => h)).call HFQ.out (fun _ h _ => h))
      have HWQ := Lib.hid ((HNW.out.call hfr.out (fun _ h _ => h)).call HFQ.out (fun _ h _ => h))
      have HX1 := Lib.hid (HX0.out.fr HWQ.out (fun e => e))
      have HY1 := Lib.hid (HY0.out.fr HWQ.out (fun e => e))
      replace HZ := Lib.hid (HZ.out.fr HWQ.out (fun e => e))
      have HM1 := Lib.hid ((HMB.out.fr hfr.out (fun e => e)).fr HFQ.out (fun e => e))
      have xc := HX1.out.cell
      have xl := HX1.out.lt
      have yc := HY1.out.cell
      have yl := HY1.out.lt
      have HZL := Lib.hid HZ.out.lt
      have HPW := Lib.hid (fun k hk => Nat.lt_of_lt_of_le (HP.out k hk) HFC.out.size)
      have HSW := Lib.hid (HS.out.fr HFC.out)
      have HTW := Lib.hid (HT.out.fr HFC.out)
      clear nc1 nl1
      have HCC := Lib.hid (c_re wq p HPW.out ⟨op, nm, cm, va, lo, hi⟩ ⟨op2, nm2, cm2, va2, lo2, hi2⟩ A B c d ks js HSW.out HTW.out (HCX.out (by decide)) (HY.out (by decide) (by decide) (by decide) (by decide)) mb nn nc ⟨12, nm0, cm0, va0, lo0, hi0⟩ NA HM1.out)
      unfold fval at HCC
      dsimp only at HCC
      go_wp2_with (first
        | ((go_at_call 176); (with_reducible refine (HCC.out).mono ?_); rintro e w2 ⟨o1, n1, m1, v1, l1, i1, A1, c1, k1, rfl, he, hs1, hf1⟩; have HE := Lib.hid he; have HS1 := Lib.hid hs1; have HFR := Lib.hid hf1; have HZ2 := Lib.hid (HZ.out.fr hf1 (fun e => e)); clear he hs1 hf1)
        | (refine wpList_stBox rfl rfl (by rfl) (by rfl) (by exact infoF) (by rfl) (by first | exact HZ2.out.alloc _ | exact HZ2.out) (by rfl) ?_; intro W7 hb7 hf7; have HB7 := Lib.hid hb7; have HF7 := Lib.hid hf7; have rc7 := hb7.cell; clear hb7 hf7)
        | fail)
      refine bodyPost_ret (v := .agg #[.int .i64 o1, .string n1, .int .i64 m1, .int .i64 v1, .int .i64 l1, .int .i64 i1, .slice A1 k1.len c1]) (by simp [results, Tryz.results111, go_sem, rc7]) rfl ?_
      exact FRes.put (x := ⟨o1, n1, m1, v1, l1, i1⟩) (HE.out.trans HSR.out.symm) HS1.out (fun k hk _ => hq_call HP.out (by omega) HZL.out k hk) (HFC.out.call HFR.out (fun _ h _ => h)) (by omega) HF7.out
    · have hkb : ((k : Int) + 1 == 12) = false := by simp; omega
      go_wp2_with (first
        | (refine wpList_stBox rfl rfl (by rfl) (by rfl) (by exact infoRow) (by rfl) (by exact Blk.new _ _ _) (by rfl) ?_; intro wq hbq hfq; have HBQ := Lib.hid hbq; have HFQ := Lib.hid (show Fr Nob wr wq from ((Fr.refl Nob wr).alloc _).call hfq (fun i e hlt => by have : i = wr.heap.size := e; omega)); have qc := hbq.cell; have ql := hbq.lt; have nc1 : wq.cell? ⟨w.heap.size, 0, none⟩ = some (.int .i64 12) := (HNR.out.fr HFQ.out (fun e => e)).cell 0; have nl1 := (HNR.out.fr HFQ.out (fun e => e)).lt; clear hbq hfq c0 c1 nc0 nl0 rl0)
        | fail)
      go_roundw
      case rel => exact ⟨k + 1, by omega, by go_num, Lib.hid (hfr.out.call HFQ.out (fun _ h _ => h))⟩
      case measure => simp [intOf]; omega
end Go.Proofs.YtoegdmpmagbaiaaGreatDoor

/- norm.become, of any kind; what was made, in a row. -/
namespace Go.Proofs.YtoegdmpmagbaiaaGreatDoor
open Go.RowKit Go.Lib

theorem n_become (w : World) (p : Nat → Prop) (hp : ∀ k, p k → k < w.heap.size) (n x y : Nd) (NA A B : Option Addr) (nn nc c d : Nat) (ks js : Fo) (hs : FoSlP p w A c ks) (ht : FoSlP p w B d js) (h1 : 1 ≤ n.op) (h12 : n.op ≤ 12) (hx : (4 : Int) ≤ n.op → coreS (x, ks.tr)) (hy : (4 : Int) ≤ n.op → n.op ≠ 4 → n.op ≠ 9 → n.op ≠ 10 → coreS (y, js.tr)) (hz : szS (y, js.tr) ≤ 90000) :
    Calls Tryz.prog 111 #[fval n NA nn nc, fval x A ks.len c, fval y B js.len d] w (FRes w p (becS n (x, ks.tr) (y, js.tr))) := by
  obtain ⟨op0, nm0, cm0, va0, lo0, hi0⟩ := n
  dsimp only at h1 h12 hx hy
  have h : op0 = 1 ∨ op0 = 2 ∨ op0 = 3 ∨ op0 = 4 ∨ op0 = 5 ∨ op0 = 6 ∨ op0 = 7 ∨ op0 = 8 ∨ op0 = 9 ∨ op0 = 10 ∨ op0 = 11 ∨ op0 = 12 := by omega
  rcases h with rfl | rfl | rfl | rfl | rfl | rfl | rfl | rfl | rfl | rfl | rfl | rfl
  · exact become_1 w p hp nm0 cm0 va0 lo0 hi0 x y NA A B nn nc c d ks js hs ht hx hy hz
  · exact become_2 w p hp nm0 cm0 va0 lo0 hi0 x y NA A B nn nc c d ks js hs ht hx hy hz
  · exact become_3 w p hp nm0 cm0 va0 lo0 hi0 x y NA A B nn nc c d ks js hs ht hx hy hz
  · exact become_4 w p hp nm0 cm0 va0 lo0 hi0 x y NA A B nn nc c d ks js hs ht hx hy hz
  · exact become_5 w p hp nm0 cm0 va0 lo0 hi0 x y NA A B nn nc c d ks js hs ht hx hy hz
  · exact become_6 w p hp nm0 cm0 va0 lo0 hi0 x y NA A B nn nc c d ks js hs ht hx hy hz
  · exact become_7 w p hp nm0 cm0 va0 lo0 hi0 x y NA A B nn nc c d ks js hs ht hx hy hz
  · exact become_8 w p hp nm0 cm0 va0 lo0 hi0 x y NA A B nn nc c d ks js hs ht hx hy hz
  · exact become_9 w p hp nm0 cm0 va0 lo0 hi0 x y NA A B nn nc c d ks js hs ht hx hy hz
  · exact become_10 w p hp nm0 cm0 va0 lo0 hi0 x y NA A B nn nc c d ks js hs ht hx hy hz
  · exact become_11 w p hp nm0 cm0 va0 lo0 hi0 x y NA A B nn nc c d ks js hs ht hx hy hz
  · exact become_12 w p hp nm0 cm0 va0 lo0 hi0 x y NA A B nn nc c d ks js hs ht hx hy hz
/-- What nodes become, one by one. -/
def madeY (y : FN) : S1 := madeS y.x y.ks.tr
theorem made_list (f : Fo) : f.list.map madeY = madeF f.tr := by
  induction f with
  | nil => rfl
  | cons x A c k r _ ih => simp only [Fo.list, List.map_cons, ih, Fo.tr, madeF, madeY, madeS]
/-- What was made so far. -/
structure OfI (N0 : Nat) (w wr : World) (S0 : List FN) (j : Nat) (AM : Option Addr) (cM : Nat) (M : List FN) : Prop where
  own : wr.ownsRow N0 28 7 (.slice AM M.length cM) M.length (M.flatMap fnc)
  val : M.reverse.map FN.s = (stS j S0).map madeY
  mem : ∀ y ∈ M, FoSlP (fun k => (k < w.heap.size ∨ N0 ≤ k) ∧ AM.map (·.block) ≠ some k) wr y.A y.c y.ks
theorem map_append_inv {α β : Type} {f : α → β} {l : List α} {a b : List β} (h : l.map f = a ++ b) : ∃ l1 l2, l = l1 ++ l2 ∧ l1.map f = a ∧ l2.map f = b := by
  refine ⟨l.take a.length, l.drop a.length, (List.take_append_drop _ _).symm, ?_, ?_⟩
  · rw [List.map_take, h, List.take_left]
  · rw [List.map_drop, h, List.drop_left]
/-- What a node takes of what was made. -/
theorem OfI.split {N0 : Nat} {w wr : World} {S0 : List FN} {j : Nat} {AM : Option Addr} {cM : Nat} {M : List FN} {y : FN} {r : List FN} (h : OfI N0 w wr S0 (j + 1) AM cM M) (hst : stS (j + 1) S0 = y.ks.list ++ r) :
    ∃ M0 K, M = M0 ++ K ∧ K.reverse.map FN.s = madeF y.ks.tr ∧ M0.reverse.map FN.s = r.map madeY ∧ K.length = y.ks.len := by
  have hv := h.val
  rw [hst, List.map_append, made_list] at hv
  obtain ⟨l1, l2, hl, h1, h2⟩ := map_append_inv hv
  refine ⟨l2.reverse, l1.reverse, ?_, by rw [List.reverse_reverse]; exact h1, by rw [List.reverse_reverse]; exact h2, ?_⟩
  · rw [← List.reverse_append, ← hl, List.reverse_reverse]
  · have := congrArg List.length h1
    rw [List.length_map, madeF_len, Fo.tr_len] at this
    simpa using this
theorem ob_map (A : Option Addr) (n c : Nat) : (Value.slice A n c).ownBlock = A.map (·.block) := by cases A <;> rfl
/-- The blocks that made ones may lie in. -/
def OfP (N0 : Nat) (w : World) (AM : Option Addr) (k : Nat) : Prop := (k < w.heap.size ∨ N0 ≤ k) ∧ AM.map (·.block) ≠ some k
/-- One more is made, and laid upon the row. -/
theorem OfI.next {N0 j : Nat} {w wr W3 w4 w5 : World} {S0 : List FN} {AM A5 : Option Addr} {cM c5 m N : Nat} {M0 K r : List FN} {y new : FN} (h : OfI N0 w wr S0 (j + 1) AM cM (M0 ++ K)) (hm : M0.length = m) (hst : stS j S0 = y :: r) (hM0 : M0.reverse.map FN.s = r.map madeY) (hnew : new.s = madeY y)
    (hN0 : N0 ≤ wr.heap.size) (hf3 : Fr (fun k => AM.map (·.block) = some k) wr W3) (hf4 : Fr Nob W3 w4) (hs : FoSlP (fun b => OfP N0 w AM b ∧ b < W3.heap.size ∨ W3.heap.size ≤ b) w4 new.A new.c new.ks)
    (hown : w5.ownsRow N0 28 7 (.slice A5 (m + 1) c5) (m + 1) (M0.flatMap fnc ++ fnc new)) (hg : w4.grownBy w5 (AM.map (·.block))) (hl : Lies A5 AM N) (hN : N = w4.heap.size) :
    OfI N0 w w5 S0 j A5 c5 (M0 ++ [new]) := by
  subst hN
  have hlen : (M0 ++ [new]).length = m + 1 := by simp [hm]
  have hA : ∀ k, A5.map (·.block) = some k → AM.map (·.block) = some k ∨ k = w4.heap.size := fun k hk => by
    rcases hl with h | h
    · exact .inl (h ▸ hk)
    · rw [hk] at h; exact .inr (by simpa using h)
  have hfr : Fr (fun k => AM.map (·.block) = some k) w4 w5 := (Fr.refl _ _).grown hg (fun k hk _ => hk)
  refine ⟨by rw [hlen]; simpa using hown, ?_, fun z hz => ?_⟩
  · rw [List.reverse_append, List.map_append, hst, List.map_cons, hM0]; simp [hnew]
  · rw [List.mem_append, List.mem_singleton] at hz
    rcases hz with hz | rfl
    · have h0 := (h.mem z (List.mem_append_left _ hz)).bnd
      have h1 := h0.keep (w' := w5) (fun k hk hlt => by
        rw [hfr.block k (Nat.lt_of_lt_of_le hlt (Nat.le_trans hf3.size hf4.size)) (fun e => hk.1.2 e), hf4.block k (Nat.lt_of_lt_of_le hlt hf3.size) (fun e => e)]
        exact hf3.block k hlt (fun e => hk.1.2 e))
      refine h1.mono fun k hk => ⟨hk.1.1, fun e => ?_⟩
      rcases hA k e with e | e
      · exact hk.1.2 e
      · have := hf3.size; have := hf4.size; omega
    · have h0 := hs.bnd
      have hne : ∀ k, ((OfP N0 w AM k ∧ k < W3.heap.size) ∨ W3.heap.size ≤ k) → AM.map (·.block) ≠ some k := fun k hk e => by
        rcases hk with hk | hk
        · exact hk.1.2 e
        · have hb := h.own.lt k (by cases AM <;> simp_all [Value.ownBlock])
          have := hf3.size; omega
      have h1 := h0.keep (w' := w5) (fun k hk hlt => hfr.block k hlt (fun e => hne k hk.1 e))
      refine h1.mono fun k hk => ⟨?_, fun e => ?_⟩
      · rcases hk.1 with h | h
        · exact h.1.1
        · exact .inr (by have := hf3.size; omega)
      · rcases hA k e with e | e
        · exact hne k hk.1 e
        · omega
end Go.Proofs.YtoegdmpmagbaiaaGreatDoor
