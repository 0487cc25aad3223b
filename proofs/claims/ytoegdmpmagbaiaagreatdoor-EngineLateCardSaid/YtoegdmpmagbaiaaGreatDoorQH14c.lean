/- norm.become: spans. -/
import Derived.Test.YtoegdmpmagbaiaaGreatDoorKI
namespace Go.Proofs.YtoegdmpmagbaiaaGreatDoor
open Go.RowKit Go.Lib

set_option maxRecDepth 100000 in
set_option maxHeartbeats 16000000 in
theorem become_9 (w : World) (p : Nat → Prop) (hp : ∀ k, p k → k < w.heap.size) (nm0 : ByteArray) (cm0 va0 lo0 hi0 : Int) (x y : Nd) (NA A B : Option Addr) (nn nc c d : Nat) (ks js : Fo) (hs : FoSlP p w A c ks) (ht : FoSlP p w B d js) (hx : (4 : Int) ≤ 9 → coreS (x, ks.tr)) (hy : (4 : Int) ≤ 9 → (9 : Int) ≠ 4 → (9 : Int) ≠ 9 → (9 : Int) ≠ 10 → coreS (y, js.tr)) (hz : szS (y, js.tr) ≤ 90000) :
    Calls Tryz.prog 111 #[fval ⟨9, nm0, cm0, va0, lo0, hi0⟩ NA nn nc, fval x A ks.len c, fval y B js.len d] w (FRes w p (becS ⟨9, nm0, cm0, va0, lo0, hi0⟩ (x, ks.tr) (y, js.tr))) := by
  have HP := Lib.hid hp
  obtain ⟨sr, hsr⟩ : ∃ sr, sr = becS ⟨9, nm0, cm0, va0, lo0, hi0⟩ (x, ks.tr) (y, js.tr) := ⟨_, rfl⟩
  rw [← hsr]
  have HSR := Lib.hid hsr
  have HS := Lib.hid hs
  have HT := Lib.hid ht
  have HX := Lib.hid hx
  have HY := Lib.hid hy
  have hzz := Lib.hid hz
  clear hp hs ht hx hy hz hsr
  have HCX := HX
  clear HX
  obtain ⟨op, nm, cm, va, lo, hi⟩ := x
  obtain ⟨op2, nm2, cm2, va2, lo2, hi2⟩ := y
  have HRC := Lib.hid (fun W => n_rows W ⟨9, nm0, cm0, va0, lo0, hi0⟩ NA nn nc)
  unfold fval at *
  dsimp only at HRC
  go_enter Tryz.func111, Tryz.ntmps111
  go_upto_region 1 with fail
  obtain ⟨W0, hW0⟩ : ∃ W0, (((w.alloc (.cells #[.int .i64 9, .string nm0, .int .i64 cm0, .int .i64 va0, .int .i64 lo0, .int .i64 hi0, .slice NA nn nc] 28)).alloc (.cells #[.int .i64 op, .string nm, .int .i64 cm, .int .i64 va, .int .i64 lo, .int .i64 hi, .slice A ks.len c] 28)).alloc (.cells #[.int .i64 op2, .string nm2, .int .i64 cm2, .int .i64 va2, .int .i64 lo2, .int .i64 hi2, .slice B js.len d] 28)).alloc (.cells zarr 28) = W0 := ⟨_, rfl⟩
  have HNB := Lib.hid (show Blk W0 w.heap.size 28 #[.int .i64 9, .string nm0, .int .i64 cm0, .int .i64 va0, .int .i64 lo0, .int .i64 hi0, .slice NA nn nc] by rw [← hW0]; exact (((Blk.new _ _ _).alloc _).alloc _).alloc _)
  have HX0 := Lib.hid (show Blk W0 (w.heap.size + 1) 28 #[.int .i64 op, .string nm, .int .i64 cm, .int .i64 va, .int .i64 lo, .int .i64 hi, .slice A ks.len c] by rw [← hW0]; exact ((Blk.new_eq (by simp)).alloc _).alloc _)
  have HY0 := Lib.hid (show Blk W0 (w.heap.size + 1 + 1) 28 #[.int .i64 op2, .string nm2, .int .i64 cm2, .int .i64 va2, .int .i64 lo2, .int .i64 hi2, .slice B js.len d] by rw [← hW0]; exact (Blk.new_eq (by simp)).alloc _)
  have HZ := Lib.hid (show Blk W0 (w.heap.size + 1 + 1 + 1) 28 zarr by rw [← hW0]; exact Blk.new_eq (by simp))
  have HF0 := Lib.hid (show Fr Nob w W0 by rw [← hW0]; exact ((((Fr.refl _ _).alloc _).alloc _).alloc _).alloc _)
  have HW0 := Lib.hid (show w.heap.size + 1 + 1 + 1 < W0.heap.size from HZ.out.lt)
  rw [hW0]
  clear hW0
  have hcn := HNB.out.cell
  have hln := HNB.out.lt
  go_upto_region 3 with (first
    | ((go_at_call 145); (with_reducible refine (HRC.out _).mono ?_); rintro e w1 ⟨RA, mb, rfl, hra, hmb, hr1, hr2, hfr⟩; have HRA := Lib.hid hra; have HMB := Lib.hid hmb; have HF1 := Lib.hid (HF0.out.call (((Fr.refl Nob W0).alloc _).call hfr (fun _ h _ => h)) (fun _ h _ => h)); have HNW := Lib.hid (((Fr.refl Nob W0).alloc _).call hfr (fun _ h _ => h)); clear hra hmb hr1 hr2 hfr)
    | fail)
  clear hcn hln
  go_loopw [15] (fun iv wr => ∃ k : Nat, k < 9 ∧ iv = .int .i64 k ∧ Hid (Fr Nob w1 wr)) (fun iv _ => 12 - (intOf iv).toNat)
  case atStart => exact ⟨0, by decide, rfl, Lib.hid (Fr.refl _ _)⟩
  case round =>
    obtain ⟨k, hk, rfl, hfr⟩ := hrel
    have HRW := Lib.hid (HRA.out.fr hfr.out (fun e => e))
    have HNR := Lib.hid ((HNB.out.fr HNW.out (fun e => e)).fr hfr.out (fun e => e))
    obtain ⟨ro, rf_, ra_, rb_, rv⟩ := rowsA_op ⟨9, nm0, cm0, va0, lo0, hi0⟩ NA nn nc mb k (by omega)
    have c0 := (HRW.out.cell (k * 2)).trans ro
    have c1 := (HRW.out.cell (k * 2 + 1)).trans rv
    have nc0 : wr.cell? ⟨w.heap.size, 0, none⟩ = some (.int .i64 9) := HNR.out.cell 0
    have nl0 := HNR.out.lt
    have rl0 := HRW.out.lt
    have hk12 : (k : Int) < 12 := by omega
    clear ro rv
    by_cases hkn : k + 1 = 9
    · obtain rfl : k = 9 - 1 := by omega
      clear c0 c1
      have c0 : wr.cell? ⟨RA, 16, none⟩ = some (.int .i64 9) := HRW.out.cell 16
      have c1 : wr.cell? ⟨RA, 17, none⟩ = some (.func (.func 172) #[] #[.pointer (some ⟨mb, 0, none⟩)]) := HRW.out.cell 17
      clear hk hk12
      go_upto_region 6 with (first
        | (refine wpList_stBox rfl rfl (by rfl) (by rfl) (by exact infoRow) (by rfl) (by exact Blk.new _ _ _) (by rfl) ?_; intro wq hbq hfq; have HBQ := Lib.hid hbq; have HFQ := Lib.hid (show Fr Nob wr wq from ((Fr.refl Nob wr).alloc _).call hfq (fun i e hlt => by have : i = wr.heap.size := e; omega)); have qc := hbq.cell; have ql := hbq.lt; have nc1 : wq.cell? ⟨w.heap.size, 0, none⟩ = some (.int .i64 9) := (HNR.out.fr HFQ.out (fun e => e)).cell 0; have nl1 := (HNR.out.fr HFQ.out (fun e => e)).lt; clear hbq hfq c0 c1 nc0 nl0 rl0)
        | fail)
      have HFC := Lib.hid ((HF1.out.call hfr.out (fun _ h _ => h)).call HFQ.out (fun _ h _ => h))
      have HWQ := Lib.hid ((HNW.out.call hfr.out (fun _ h _ => h)).call HFQ.out (fun _ h _ => h))
      have HX1 := Lib.hid (HX0.out.fr HWQ.out (fun e => e))
      have HY1 := Lib.hid (HY0.out.fr HWQ.out (fun e => e))
      replace HZ := Lib.hid (HZ.out.fr HWQ.out (fun e => e))
      have HM1 := Lib.hid ((HMB.out.fr hfr.out (fun e => e)).fr HFQ.out (fun e => e))
      have xc := HX1.out.cell
      have xl := HX1.out.lt
      have yc := HY1.out.cell
      have yl := HY1.out.lt
      have HZL := Lib.hid HZ.out.lt
      have HPW := Lib.hid (fun k hk => Nat.lt_of_lt_of_le (HP.out k hk) HFC.out.size)
      have HSW := Lib.hid (HS.out.fr HFC.out)
      have HTW := Lib.hid (HT.out.fr HFC.out)
      clear nc1 nl1
      have HCC := Lib.hid (c_ev wq p HPW.out ⟨op, nm, cm, va, lo, hi⟩ ⟨op2, nm2, cm2, va2, lo2, hi2⟩ A B c d ks js HSW.out mb nn nc ⟨9, nm0, cm0, va0, lo0, hi0⟩ NA HM1.out)
      unfold fval at HCC
      dsimp only at HCC
      go_wp2_with (first
        | ((go_at_call 172); (with_reducible refine (HCC.out).mono ?_); rintro e w2 ⟨o1, n1, m1, v1, l1, i1, A1, c1, k1, rfl, he, hs1, hf1⟩; have HE := Lib.hid he; have HS1 := Lib.hid hs1; have HFR := Lib.hid hf1; have HZ2 := Lib.hid (HZ.out.fr hf1 (fun e => e)); clear he hs1 hf1)
        | (refine wpList_stBox rfl rfl (by rfl) (by rfl) (by exact infoF) (by rfl) (by first | exact HZ2.out.alloc _ | exact HZ2.out) (by rfl) ?_; intro W7 hb7 hf7; have HB7 := Lib.hid hb7; have HF7 := Lib.hid hf7; have rc7 := hb7.cell; clear hb7 hf7)
        | fail)
      refine bodyPost_ret (v := .agg #[.int .i64 o1, .string n1, .int .i64 m1, .int .i64 v1, .int .i64 l1, .int .i64 i1, .slice A1 k1.len c1]) (by simp [results, Tryz.results111, go_sem, rc7]) rfl ?_
      exact FRes.put (x := ⟨o1, n1, m1, v1, l1, i1⟩) (HE.out.trans HSR.out.symm) HS1.out (fun k hk _ => hq_call HP.out (by omega) HZL.out k hk) (HFC.out.call HFR.out (fun _ h _ => h)) (by omega) HF7.out
    · have hkb : ((k : Int) + 1 == 9) = false := by simp; omega
      go_wp2_with (first
        | (refine wpList_stBox rfl rfl (by rfl) (by rfl) (by exact infoRow) (by rfl) (by exact Blk.new _ _ _) (by rfl) ?_; intro wq hbq hfq; have HBQ := Lib.hid hbq; have HFQ := Lib.hid (show Fr Nob wr wq from ((Fr.refl Nob wr).alloc _).call hfq (fun i e hlt => by have : i = wr.heap.size := e; omega)); have qc := hbq.cell; have ql := hbq.lt; have nc1 : wq.cell? ⟨w.heap.size, 0, none⟩ = some (.int .i64 9) := (HNR.out.fr HFQ.out (fun e => e)).cell 0; have nl1 := (HNR.out.fr HFQ.out (fun e => e)).lt; clear hbq hfq c0 c1 nc0 nl0 rl0)
        | fail)
      go_roundw
      case rel => exact ⟨k + 1, by omega, by go_num, Lib.hid (hfr.out.call HFQ.out (fun _ h _ => h))⟩
      case measure => simp [intOf]; omega

set_option maxRecDepth 100000 in
set_option maxHeartbeats 16000000 in
theorem become_10 (w : World) (p : Nat → Prop) (hp : ∀ k, p k → k < w.heap.size) (nm0 : ByteArray) (cm0 va0 lo0 hi0 : Int) (x y : Nd) (NA A B : Option Addr) (nn nc c d : Nat) (ks js : Fo) (hs : FoSlP p w A c ks) (ht : FoSlP p w B d js) (hx : (4 : Int) ≤ 10 → coreS (x, ks.tr)) (hy : (4 : Int) ≤ 10 → (10 : Int) ≠ 4 → (10 : Int) ≠ 9 → (10 : Int) ≠ 10 → coreS (y, js.tr)) (hz : szS (y, js.tr) ≤ 90000) :
    Calls Tryz.prog 111 #[fval ⟨10, nm0, cm0, va0, lo0, hi0⟩ NA nn nc, fval x A ks.len c, fval y B js.len d] w (FRes w p (becS ⟨10, nm0, cm0, va0, lo0, hi0⟩ (x, ks.tr) (y, js.tr))) := by
  have HP := Lib.hid hp
  obtain ⟨sr, hsr⟩ : ∃ sr, sr = becS ⟨10, nm0, cm0, va0, lo0, hi0⟩ (x, ks.tr) (y, js.tr) := ⟨_, rfl⟩
  rw [← hsr]
  have HSR := Lib.hid hsr
  have HS := Lib.hid hs
  have HT := Lib.hid ht
  have HX := Lib.hid hx
  have HY := Lib.hid hy
  have hzz := Lib.hid hz
  clear hp hs ht hx hy hz hsr
  have HCX := HX
  clear HX
  obtain ⟨op, nm, cm, va, lo, hi⟩ := x
  obtain ⟨op2, nm2, cm2, va2, lo2, hi2⟩ := y
  have HRC := Lib.hid (fun W => n_rows W ⟨10, nm0, cm0, va0, lo0, hi0⟩ NA nn nc)
  unfold fval at *
  dsimp only at HRC
  go_enter Tryz.func111, Tryz.ntmps111
  go_upto_region 1 with fail
  obtain ⟨W0, hW0⟩ : ∃ W0, (((w.alloc (.cells #[.int .i64 10, .string nm0, .int .i64 cm0, .int .i64 va0, .int .i64 lo0, .int .i64 hi0, .slice NA nn nc] 28)).alloc (.cells #[.int .i64 op, .string nm, .int .i64 cm, .int .i64 va, .int .i64 lo, .int .i64 hi, .slice A ks.len c] 28)).alloc (.cells #[.int .i64 op2, .string nm2, .int .i64 cm2, .int .i64 va2, .int .i64 lo2, .int .i64 hi2, .slice B js.len d] 28)).alloc (.cells zarr 28) = W0 := ⟨_, rfl⟩
  have HNB := Lib.hid (show Blk W0 w.heap.size 28 #[.int .i64 10, .string nm0, .int .i64 cm0, .int .i64 va0, .int .i64 lo0, .int .i64 hi0, .slice NA nn nc] by rw [← hW0]; exact (((Blk.new _ _ _).alloc _).alloc _).alloc _)
  have HX0 := Lib.hid (show Blk W0 (w.heap.size + 1) 28 #[.int .i64 op, .string nm, .int .i64 cm, .int .i64 va, .int .i64 lo, .int .i64 hi, .slice A ks.len c] by rw [← hW0]; exact ((Blk.new_eq (by simp)).alloc _).alloc _)
  have HY0 := Lib.hid (show Blk W0 (w.heap.size + 1 + 1) 28 #[.int .i64 op2, .string nm2, .int .i64 cm2, .int .i64 va2, .int .i64 lo2, .int .i64 hi2, .slice B js.len d] by rw [← hW0]; exact (Blk.new_eq (by simp)).alloc _)
  have HZ := Lib.hid (show Blk W0 (w.heap.size + 1 + 1 + 1) 28 zarr by rw [← hW0]; exact Blk.new_eq (by simp))
  have HF0 := Lib.hid (show Fr Nob w W0 by rw [← hW0]; exact ((((Fr.refl _ _).alloc _).alloc _).alloc _).alloc _)
  have HW0 := Lib.hid (show w.heap.size + 1 + 1 + 1 < W0.heap.size from HZ.out.lt)
  rw [hW0]
  clear hW0
  have hcn := HNB.out.cell
  have hln := HNB.out.lt
  go_upto_region 3 with (first
    | ((go_at_call 145); (with_reducible refine (HRC.out _).mono ?_); rintro e w1 ⟨RA, mb, rfl, hra, hmb, hr1, hr2, hfr⟩; have HRA := Lib.hid hra; have HMB := Lib.hid hmb; have HF1 := Lib.hid (HF0.out.call (((Fr.refl Nob W0).alloc _).call hfr (fun _ h _ => h)) (fun _ h _ => h)); have HNW := Lib.hid (((Fr.refl Nob W0).alloc _).call hfr (fun _ h _ => h)); clear hra hmb hr1 hr2 hfr)
    | fail)
  clear hcn hln
  go_loopw [15] (fun iv wr => ∃ k : Nat, k < 10 ∧ iv = .int .i64 k ∧ Hid (Fr Nob w1 wr)) (fun iv _ => 12 - (intOf iv).toNat)
  case atStart => exact ⟨0, by decide, rfl, Lib.hid (Fr.refl _ _)⟩
  case round =>
    obtain ⟨k, hk, rfl, hfr⟩ := hrel
    have HRW := Lib.hid (HRA.out.fr hfr.out (fun e => e))
    have HNR := Lib.hid ((HNB.out.fr HNW.out (fun e => e)).fr hfr.out (fun e => e))
    obtain ⟨ro, rf_, ra_, rb_, rv⟩ := rowsA_op ⟨10, nm0, cm0, va0, lo0, hi0⟩ NA nn nc mb k (by omega)
    have c0 := (HRW.out.cell (k * 2)).trans ro
    have c1 := (HRW.out.cell (k * 2 + 1)).trans rv
    have nc0 : wr.cell? ⟨w.heap.size, 0, none⟩ = some (.int .i64 10) := HNR.out.cell 0
    have nl0 := HNR.out.lt
    have rl0 := HRW.out.lt
    have hk12 : (k : Int) < 12 := by omega
    clear ro rv
    by_cases hkn : k + 1 = 10
    · obtain rfl : k = 10 - 1 := by omega
      clear c0 c1
      have c0 : wr.cell? ⟨RA, 18, none⟩ = some (.int .i64 10) := HRW.out.cell 18
      have c1 : wr.cell? ⟨RA, 19, none⟩ = some (.func (.func 174) #[] #[.pointer (some ⟨mb, 0, none⟩)]) := HRW.out.cell 19
      clear hk hk12
      go_upto_region 6 with (first
        | (refine wpList_stBox rfl rfl (by rfl) (by rfl) (by exact infoRow) (by rfl) (by exact Blk.new _ _ _) (by rfl) ?_; intro wq hbq hfq; have HBQ := Lib.hid hbq; have HFQ := Lib.hid (show Fr Nob wr wq from ((Fr.refl Nob wr).alloc _).call hfq (fun i e hlt => by have : i = wr.heap.size := e; omega)); have qc := hbq.cell; have ql := hbq.lt; have nc1 : wq.cell? ⟨w.heap.size, 0, none⟩ = some (.int .i64 10) := (HNR.out.fr HFQ.out (fun e => e)).cell 0; have nl1 := (HNR.out.fr HFQ.out (fun e => e)).lt; clear hbq hfq c0 c1 nc0 nl0 rl0)
        | fail)
      have HFC := Lib.hid ((HF1.out.call hfr.out (fun _ h _ => h)).call HFQ.out (fun _ h _ => h))
      have HWQ := Lib.hid ((HNW.out.call hfr.out (fun _ h _ => h)).call HFQ.out (fun _ h _ => h))
      have HX1 := Lib.hid (HX0.out.fr HWQ.out (fun e => e))
      have HY1 := Lib.hid (HY0.out.fr HWQ.out (fun e => e))
      replace HZ := Lib.hid (HZ.out.fr HWQ.out (fun e => e))
      have HM1 := Lib.hid ((HMB.out.fr hfr.out (fun e => e)).fr HFQ.out (fun e => e))
      have xc := HX1.out.cell
      have xl := HX1.out.lt
      have yc := HY1.out.cell
      have yl := HY1.out.lt
      have HZL := Lib.hid HZ.out.lt
      have HPW := Lib.hid (fun k hk => Nat.lt_of_lt_of_le (HP.out k hk) HFC.out.size)
      have HSW := Lib.hid (HS.out.fr HFC.out)
      have HTW := Lib.hid (HT.out.fr HFC.out)
      clear nc1 nl1
      have HCC := Lib.hid (c_al wq p HPW.out ⟨op, nm, cm, va, lo, hi⟩ ⟨op2, nm2, cm2, va2, lo2, hi2⟩ A B c d ks js HSW.out (HCX.out (by decide)) mb nn nc ⟨10, nm0, cm0, va0, lo0, hi0⟩ NA HM1.out)
      unfold fval at HCC
      dsimp only at HCC
      go_wp2_with (first
        | ((go_at_call 174); (with_reducible refine (HCC.out).mono ?_); rintro e w2 ⟨o1, n1, m1, v1, l1, i1, A1, c1, k1, rfl, he, hs1, hf1⟩; have HE := Lib.hid he; have HS1 := Lib.hid hs1; have HFR := Lib.hid hf1; have HZ2 := Lib.hid (HZ.out.fr hf1 (fun e => e)); clear he hs1 hf1)
        | (refine wpList_stBox rfl rfl (by rfl) (by rfl) (by exact infoF) (by rfl) (by first | exact HZ2.out.alloc _ | exact HZ2.out) (by rfl) ?_; intro W7 hb7 hf7; have HB7 := Lib.hid hb7; have HF7 := Lib.hid hf7; have rc7 := hb7.cell; clear hb7 hf7)
        | fail)
      refine bodyPost_ret (v := .agg #[.int .i64 o1, .string n1, .int .i64 m1, .int .i64 v1, .int .i64 l1, .int .i64 i1, .slice A1 k1.len c1]) (by simp [results, Tryz.results111, go_sem, rc7]) rfl ?_
      exact FRes.put (x := ⟨o1, n1, m1, v1, l1, i1⟩) (HE.out.trans HSR.out.symm) HS1.out (fun k hk _ => hq_call HP.out (by omega) HZL.out k hk) (HFC.out.call HFR.out (fun _ h _ => h)) (by omega) HF7.out
    · have hkb : ((k : Int) + 1 == 10) = false := by simp; omega
      go_wp2_with (first
        | (refine wpList_stBox rfl rfl (by rfl) (by rfl) (by exact infoRow) (by rfl) (by exact Blk.new _ _ _) (by rfl) ?_; intro wq hbq hfq; have HBQ := Lib.hid hbq; have HFQ := Lib.hid (show Fr Nob wr wq from ((Fr.refl Nob wr).alloc _).call hfq (fun i e hlt => by have : i = wr.heap.size := e; omega)); have qc := hbq.cell; have ql := hbq.lt; have nc1 : wq.cell? ⟨w.heap.size, 0, none⟩ = some (.int .i64 10) := (HNR.out.fr HFQ.out (fun e => e)).cell 0; have nl1 := (HNR.out.fr HFQ.out (fun e => e)).lt; clear hbq hfq c0 c1 nc0 nl0 rl0)
        | fail)
      go_roundw
      case rel => exact ⟨k + 1, by omega, by go_num, Lib.hid (hfr.out.call HFQ.out (fun _ h _ => h))⟩
      case measure => simp [intOf]; omega

set_option maxRecDepth 100000 in
set_option maxHeartbeats 16000000 in
theorem become_11 (w : World) (p : Nat → Prop) (hp : ∀ k, p k → k < w.heap.size) (nm0 : ByteArray) (cm0 va0 lo0 hi0 : Int) (x y : Nd) (NA A B : Option Addr) (nn nc c d : Nat) (ks js : Fo) (hs : FoSlP p w A c ks) (ht : FoSlP p w B d js) (hx : (4 : Int) ≤ 11 → coreS (x, ks.tr)) (hy : (4 : Int) ≤ 11 → (11 : Int) ≠ 4 → (11 : Int) ≠ 9 → (11 : Int) ≠ 10 → coreS (y, js.tr)) (hz : szS (y, js.tr) ≤ 90000) :
    Calls Tryz.prog 111 #[fval ⟨11, nm0, cm0, va0, lo0, hi0⟩ NA nn nc, fval x A ks.len c, fval y B js.len d] w (FRes w p (becS ⟨11, nm0, cm0, va0, lo0, hi0⟩ (x, ks.tr) (y, js.tr))) := by
  have HP := Lib.hid hp
  obtain ⟨sr, hsr⟩ : ∃ sr, sr = becS ⟨11, nm0, cm0, va0, lo0, hi0⟩ (x, ks.tr) (y, js.tr) := ⟨_, rfl⟩
  rw [← hsr]
  have HSR := Lib.hid hsr
  have HS := Lib.hid hs
  have HT := Lib.hid ht
  have HX := Lib.hid hx
  have HY := Lib.hid hy
  have hzz := Lib.hid hz
  clear hp hs ht hx hy hz hsr
  have HCX := HX
  clear HX
  obtain ⟨op, nm, cm, va, lo, hi⟩ := x
  obtain ⟨op2, nm2, cm2, va2, lo2, hi2⟩ := y
  have HRC := Lib.hid (fun W => n_rows W ⟨11, nm0, cm0, va0, lo0, hi0⟩ NA nn nc)
  unfold fval at *
  dsimp only at HRC
  go_enter Tryz.func111, Tryz.ntmps111
  go_upto_region 1 with fail
  obtain ⟨W0, hW0⟩ : ∃ W0, (((w.alloc (.cells #[.int .i64 11, .string nm0, .int .i64 cm0, .int .i64 va0, .int .i64 lo0, .int .i64 hi0, .slice NA nn nc] 28)).alloc (.cells #[.int .i64 op, .string nm, .int .i64 cm, .int .i64 va, .int .i64 lo, .int .i64 hi, .slice A ks.len c] 28)).alloc (.cells #[.int .i64 op2, .string nm2, .int .i64 cm2, .int .i64 va2, .int .i64 lo2, .int .i64 hi2, .slice B js.len d] 28)).alloc (.cells zarr 28) = W0 := ⟨_, rfl⟩
  have HNB := Lib.hid (show Blk W0 w.heap.size 28 #[.int .i64 11, .string nm0, .int .i64 cm0, .int .i64 va0, .int .i64 lo0, .int .i64 hi0, .slice NA nn nc] by rw [← hW0]; exact (((Blk.new _ _ _).alloc _).alloc _).alloc _)
  have HX0 := Lib.hid (show Blk W0 (w.heap.size + 1) 28 #[.int .i64 op, .string nm, .int .i64 cm, .int .i64 va, .int .i64 lo, .int .i64 hi, .slice A ks.len c] by rw [← hW0]; exact ((Blk.new_eq (by simp)).alloc _).alloc _)
  have HY0 := Lib.hid (show Blk W0 (w.heap.size + 1 + 1) 28 #[.int .i64 op2, .string nm2, .int .i64 cm2, .int .i64 va2, .int .i64 lo2, .int .i64 hi2, .slice B js.len d] by rw [← hW0]; exact (Blk.new_eq (by simp)).alloc _)
  have HZ := Lib.hid (show Blk W0 (w.heap.size + 1 + 1 + 1) 28 zarr by rw [← hW0]; exact Blk.new_eq (by simp))
  have HF0 := Lib.hid (show Fr Nob w W0 by rw [← hW0]; exact ((((Fr.refl _ _).alloc _).alloc _).alloc _).alloc _)
  have HW0 := Lib.hid (show w.heap.size + 1 + 1 + 1 < W0.heap.size from HZ.out.lt)
  rw [hW0]
  clear hW0
  have hcn := HNB.out.cell
  have hln := HNB.out.lt
  go_upto_region 3 with (first
    | ((go_at_call 145); (with_reducible refine (HRC.out _).mono ?_); rintro e w1 ⟨RA, mb, rfl, hra, hmb, hr1, hr2, hfr⟩; have HRA := Lib.hid hra; have HMB := Lib.hid hmb; have HF1 := Lib.hid (HF0.out.call (((Fr.refl Nob W0).alloc _).call hfr (fun _ h _ => h)) (fun _ h _ => h)); have HNW := Lib.hid (((Fr.refl Nob W0).alloc _).call hfr (fun _ h _ => h)); clear hra hmb hr1 hr2 hfr)
    | fail)
  clear hcn hln
  go_loopw [15] (fun iv wr => ∃ k : Nat, k < 11 ∧ iv = .int .i64 k ∧ Hid (Fr Nob w1 wr)) (fun iv _ => 12 - (intOf iv).toNat)
  case atStart => exact ⟨0, by decide, rfl, Lib.hid (Fr.refl _ _)⟩
  case round =>
    obtain ⟨k, hk, rfl, hfr⟩ := hrel
    have HRW := Lib.hid (HRA.out.fr hfr.out (fun e => e))
    have HNR := Lib.hid ((HNB.out.fr HNW.out (fun e => e)).fr hfr.out (fun e => e))
    obtain ⟨ro, rf_, ra_, rb_, rv⟩ := rowsA_op ⟨11, nm0, cm0, va0, lo0, hi0⟩ NA nn nc mb k (by omega)
    have c0 := (HRW.out.cell (k * 2)).trans ro
    have c1 := (HRW.out.cell (k * 2 + 1)).trans rv
    have nc0 : wr.cell? ⟨w.heap.size, 0, none⟩ = some (.int .i64 11) := HNR.out.cell 0
    have nl0 := HNR.out.lt
    have rl0 := HRW.out.lt
    have hk12 : (k : Int) < 12 := by omega
    clear ro rv
    by_cases hkn : k + 1 = 11
    · obtain rfl : k = 11 - 1 := by omega
      clear c0 c1
      have c0 : wr.cell? ⟨RA, 20, none⟩ = some (.int .i64 11) := HRW.out.cell 20
      have c1 : wr.cell? ⟨RA, 21, none⟩ = some (.func (.func 175) #[.agg #[.int .i64 11, .string nm0, .int .i64 cm0, .int .i64 va0, .int .i64 lo0, .int .i64 hi0, .slice NA nn nc]] #[]) := HRW.out.cell 21
      clear hk hk12
      go_upto_region 6 with (first
        | (refine wpList_stBox rfl rfl (by rfl) (by rfl) (by exact infoRow) (by rfl) (by exact Blk.new _ _ _) (by rfl) ?_; intro wq hbq hfq; have HBQ := Lib.hid hbq; have HFQ := Lib.hid (show Fr Nob wr wq from ((Fr.refl Nob wr).alloc _).call hfq (fun i e hlt => by have : i = wr.heap.size := e; omega)); have qc := hbq.cell; have ql := hbq.lt; have nc1 : wq.cell? ⟨w.heap.size, 0, none⟩ = some (.int .i64 11) := (HNR.out.fr HFQ.out (fun e => e)).cell 0; have nl1 := (HNR.out.fr HFQ.out (fun e => e)).lt; clear hbq hfq c0 c1 nc0 nl0 rl0)
        | fail)
      have HFC := Lib.hid ((HF1.out.call hfr.out (fun _ h _ => h)).call HFQ.out (fun _ h _ => h))
      have HWQ := Lib.hid ((HNW.out.call hfr.out (fun _ h _ => h)).call HFQ.out (fun _ h _ => h))
      have HX1 := Lib.hid (HX0.out.fr HWQ.out (fun e => e))
      have HY1 := Lib.hid (HY0.out.fr HWQ.out (fun e => e))
      replace HZ := Lib.hid (HZ.out.fr HWQ.out (fun e => e))
      have HM1 := Lib.hid ((HMB.out.fr hfr.out (fun e => e)).fr HFQ.out (fun e => e))
      have xc := HX1.out.cell
      have xl := HX1.out.lt
      have yc := HY1.out.cell
      have yl := HY1.out.lt
      have HZL := Lib.hid HZ.out.lt
      have HPW := Lib.hid (fun k hk => Nat.lt_of_lt_of_le (HP.out k hk) HFC.out.size)
      have HSW := Lib.hid (HS.out.fr HFC.out)
      have HTW := Lib.hid (HT.out.fr HFC.out)
      clear nc1 nl1
      have HCC := Lib.hid (n_un wq p HPW.out ⟨11, nm0, cm0, va0, lo0, hi0⟩ ⟨op, nm, cm, va, lo, hi⟩ ⟨op2, nm2, cm2, va2, lo2, hi2⟩ NA A B nn nc c d ks js HSW.out HTW.out)
      unfold fval at HCC
      dsimp only at HCC
      go_wp2_with (first
        | ((go_at_call 175); (with_reducible refine (HCC.out).mono ?_); rintro e w2 ⟨o1, n1, m1, v1, l1, i1, A1, c1, k1, rfl, he, hs1, hf1⟩; have HE := Lib.hid he; have HS1 := Lib.hid hs1; have HFR := Lib.hid hf1; have HZ2 := Lib.hid (HZ.out.fr hf1 (fun e => e)); clear he hs1 hf1)
        | (refine wpList_stBox rfl rfl (by rfl) (by rfl) (by exact infoF) (by rfl) (by first | exact HZ2.out.alloc _ | exact HZ2.out) (by rfl) ?_; intro W7 hb7 hf7; have HB7 := Lib.hid hb7; have HF7 := Lib.hid hf7; have rc7 := hb7.cell; clear hb7 hf7)
        | fail)
      refine bodyPost_ret (v := .agg #[.int .i64 o1, .string n1, .int .i64 m1, .int .i64 v1, .int .i64 l1, .int .i64 i1, .slice A1 k1.len c1]) (by simp [results, Tryz.results111, go_sem, rc7]) rfl ?_
      exact FRes.put (x := ⟨o1, n1, m1, v1, l1, i1⟩) (HE.out.trans HSR.out.symm) HS1.out (fun k hk _ => hq_call HP.out (by omega) HZL.out k hk) (HFC.out.call HFR.out (fun _ h _ => h)) (by omega) HF7.out
    · have hkb : ((k : Int) + 1 == 11) = false := by simp; omega
      go_wp2_with (first
        | (refine wpList_stBox rfl rfl (by rfl) (by rfl) (by exact infoRow) (by rfl) (by exact Blk.new _ _ _) (by rfl) ?_; intro wq hbq hfq; have HBQ := Lib.hid hbq; have HFQ := Lib.hid (show Fr Nob wr wq from ((Fr.refl Nob wr).alloc _).call hfq (fun i e hlt => by have : i = wr.heap.size := e; omega)); have qc := hbq.cell; have ql := hbq.lt; have nc1 : wq.cell? ⟨w.heap.size, 0, none⟩ = some (.int .i64 11) := (HNR.out.fr HFQ.out (fun e => e)).cell 0; have nl1 := (HNR.out.fr HFQ.out (fun e => e)).lt; clear hbq hfq c0 c1 nc0 nl0 rl0)
        | fail)
      go_roundw
      case rel => exact ⟨k + 1, by omega, by go_num, Lib.hid (hfr.out.call HFQ.out (fun _ h _ => h))⟩
      case measure => simp [intOf]; omega

end Go.Proofs.YtoegdmpmagbaiaaGreatDoor
