/- norm's rows: the closure of release. -/
import Derived.Test.YtoegdmpmagbaiaaGreatDoorKH
namespace Go.Proofs.YtoegdmpmagbaiaaGreatDoor
open Go.RowKit Go.Lib

section
variable {W : World} {b1 t1 b2 t2 b3 t3 : Nat} {x0 x1 x2 x3 x4 x5 x6 y0 y1 y2 y3 y4 y5 y6 m0 m1 m2 m3 m4 m5 m6 : Value}
theorem Bxs.s21 (h : Bxs W b1 t1 b2 t2 b3 t3 #[x0, x1, x2, x3, x4, x5, x6] #[y0, y1, y2, y3, y4, y5, y6] #[m0, m1, m2, m3, m4, m5, m6]) :
    W.cell? ⟨b1, 0, none⟩ = some x0 ∧ W.cell? ⟨b1, 1, none⟩ = some x1 ∧ W.cell? ⟨b1, 2, none⟩ = some x2 ∧ W.cell? ⟨b1, 3, none⟩ = some x3 ∧ W.cell? ⟨b1, 4, none⟩ = some x4 ∧ W.cell? ⟨b1, 5, none⟩ = some x5 ∧ W.cell? ⟨b1, 6, none⟩ = some x6 ∧ W.cell? ⟨b2, 0, none⟩ = some y0 ∧ W.cell? ⟨b2, 1, none⟩ = some y1 ∧ W.cell? ⟨b2, 2, none⟩ = some y2 ∧ W.cell? ⟨b2, 3, none⟩ = some y3 ∧ W.cell? ⟨b2, 4, none⟩ = some y4 ∧ W.cell? ⟨b2, 5, none⟩ = some y5 ∧ W.cell? ⟨b2, 6, none⟩ = some y6 ∧ W.cell? ⟨b3, 0, none⟩ = some m0 ∧ W.cell? ⟨b3, 1, none⟩ = some m1 ∧ W.cell? ⟨b3, 2, none⟩ = some m2 ∧ W.cell? ⟨b3, 3, none⟩ = some m3 ∧ W.cell? ⟨b3, 4, none⟩ = some m4 ∧ W.cell? ⟨b3, 5, none⟩ = some m5 ∧ W.cell? ⟨b3, 6, none⟩ = some m6 :=
  ⟨h.x 0, h.x 1, h.x 2, h.x 3, h.x 4, h.x 5, h.x 6, h.y 0, h.y 1, h.y 2, h.y 3, h.y 4, h.y 5, h.y 6, h.m 0, h.m 1, h.m 2, h.m 3, h.m 4, h.m 5, h.m 6⟩
theorem Bxs.put7 {a1 a2 a3 : Array Value} (h : Bxs W b1 t1 b2 t2 b3 t3 a1 a2 a3) {z : Nat} (h1 : b1 ≠ z) (h2 : b2 ≠ z) (h3 : b3 ≠ z) (v0 v1 v2 v3 v4 v5 v6 : Value) : Bxs (((((((W.setCell ⟨z, 0, none⟩ v0).setCell ⟨z, 1, none⟩ v1).setCell ⟨z, 2, none⟩ v2).setCell ⟨z, 3, none⟩ v3).setCell ⟨z, 4, none⟩ v4).setCell ⟨z, 5, none⟩ v5).setCell ⟨z, 6, none⟩ v6) b1 t1 b2 t2 b3 t3 a1 a2 a3 :=
  have k : ∀ {g t : Nat} {a : Array Value}, g ≠ z → Blk W g t a → Blk (((((((W.setCell ⟨z, 0, none⟩ v0).setCell ⟨z, 1, none⟩ v1).setCell ⟨z, 2, none⟩ v2).setCell ⟨z, 3, none⟩ v3).setCell ⟨z, 4, none⟩ v4).setCell ⟨z, 5, none⟩ v5).setCell ⟨z, 6, none⟩ v6) g t a := fun hg hb => ((((((hb.far hg v0).far hg v1).far hg v2).far hg v3).far hg v4).far hg v5).far hg v6
  ⟨k h1 h.bx, k h2 h.by_, k h3 h.bm⟩
end
set_option maxRecDepth 100000 in
set_option maxHeartbeats 16000000 in
theorem c_re (w : World) (p : Nat → Prop) (hp : ∀ k, p k → k < w.heap.size) (x y : Nd) (A B : Option Addr) (c d : Nat) (ks js : Fo) (hs : FoSlP p w A c ks) (ht : FoSlP p w B d js) (hx : coreS (x, ks.tr)) (hy : coreS (y, js.tr)) (mb mn mc : Nat) (m : Nd) (MA : Option Addr) (hm : Blk w mb 194 #[.int .i64 m.op, .string m.name, .int .i64 m.cmp, .int .i64 m.val, .int .i64 m.lo, .int .i64 m.hi, .slice MA mn mc]) :
    Calls Tryz.prog 176 #[fval x A ks.len c, fval y B js.len d, .pointer (some ⟨mb, 0, none⟩)] w (FRes w p (notS (unS m.lo m.hi (notS (x, ks.tr)) (notS (y, js.tr))))) := by
  have HS := Lib.hid hs
  have HP := Lib.hid hp
  have HT := Lib.hid ht
  have HX := Lib.hid hx
  have HY := Lib.hid hy
  have HC := Lib.hid (core_un (lo := m.lo) (hi := m.hi) (core_not hx) (core_not hy))
  obtain ⟨sx, hsx⟩ : ∃ sx, sx = (x, ks.tr) := ⟨_, rfl⟩
  obtain ⟨sy, hsy⟩ : ∃ sy, sy = (y, js.tr) := ⟨_, rfl⟩
  rw [← hsx] at HC HX ⊢
  rw [← hsy] at HC HY ⊢
  have HSX := Lib.hid hsx.symm
  have HSY := Lib.hid hsy.symm
  clear hs ht hp hx hy hsx hsy
  have HM := Lib.hid hm
  obtain ⟨mop, mnm, mcm, mva, mlo, mhi⟩ := m
  dsimp only at *
  clear hm
  obtain ⟨op, nm, cm, va, lo, hi⟩ := x
  obtain ⟨op2, nm2, cm2, va2, lo2, hi2⟩ := y
  unfold fval at *
  go_enter Tryz.func176, Tryz.ntmps176
  go_upto_region 1 with fail
  obtain ⟨W0, hW0⟩ : ∃ W0, ((w.alloc (.cells #[.int .i64 op, .string nm, .int .i64 cm, .int .i64 va, .int .i64 lo, .int .i64 hi, .slice A ks.len c] 28)).alloc (.cells #[.int .i64 op2, .string nm2, .int .i64 cm2, .int .i64 va2, .int .i64 lo2, .int .i64 hi2, .slice B js.len d] 28)).alloc (.cells zarr 28) = W0 := ⟨_, rfl⟩
  have HX0 := Lib.hid (show Blk W0 w.heap.size 28 #[.int .i64 op, .string nm, .int .i64 cm, .int .i64 va, .int .i64 lo, .int .i64 hi, .slice A ks.len c] by rw [← hW0]; exact ((Blk.new _ _ _).alloc _).alloc _)
  have HY0 := Lib.hid (show Blk W0 (w.heap.size + 1) 28 #[.int .i64 op2, .string nm2, .int .i64 cm2, .int .i64 va2, .int .i64 lo2, .int .i64 hi2, .slice B js.len d] by rw [← hW0]; exact (Blk.new_eq (by simp)).alloc _)
  have HZ := Lib.hid (show Blk W0 (w.heap.size + 1 + 1) 28 zarr by rw [← hW0]; exact Blk.new_eq (by simp))
  have HF0 := Lib.hid (show Fr Nob w W0 by rw [← hW0]; exact (((Fr.refl _ _).alloc _).alloc _).alloc _)
  have HW0 := Lib.hid (show w.heap.size + 1 + 1 < W0.heap.size from HZ.out.lt)
  rw [hW0]
  clear hW0
  have xc := HX0.out.cell
  have xl := HX0.out.lt
  have yc := HY0.out.cell
  have yl := HY0.out.lt
  have rc := HZ.out.cell
  have rf := HZ.out.frozen
  have zl := HZ.out.lt
  have HM0 := Lib.hid (HM.out.fr HF0.out (fun e => e))
  have mc_ := HM0.out.cell
  have ml_ := HM0.out.lt
  have HN0 := Lib.hid (show W0.heap.size ≤ W0.drew.heap.size from Nat.le_refl _)
  have HFD := Lib.hid (show Fr Nob w W0.drew from HF0.out.drew)
  have HZD := Lib.hid (show Blk W0.drew (w.heap.size + 1 + 1) 28 zarr from HZ.out.drew)
  have HSD := Lib.hid (show FoSlP (QB p W0.heap.size W0.drew) W0.drew A c ks from (HS.out.fr HFD.out).toQ)
  have xcd : ∀ i, W0.drew.cell? ⟨w.heap.size, i, none⟩ = #[Value.int .i64 op, .string nm, .int .i64 cm, .int .i64 va, .int .i64 lo, .int .i64 hi, .slice A ks.len c][i]? := HX0.out.drew.cell
  have HTD := Lib.hid (show FoSlP (QB p W0.heap.size W0.drew) W0.drew B d js from (HT.out.fr HFD.out).toQ)
  have ycd : ∀ i, W0.drew.cell? ⟨(w.heap.size + 1), i, none⟩ = #[Value.int .i64 op2, .string nm2, .int .i64 cm2, .int .i64 va2, .int .i64 lo2, .int .i64 hi2, .slice B js.len d][i]? := HY0.out.drew.cell
  have HBD := Lib.hid (show Bxs W0.drew _ _ _ _ _ _ _ _ _ from ⟨HX0.out.drew, HY0.out.drew, HM0.out.drew⟩)
  have hn1 : w.heap.size ≠ w.heap.size + 1 + 1 := by omega
  have hn2 : w.heap.size + 1 ≠ w.heap.size + 1 + 1 := by omega
  have hn3 : mb ≠ w.heap.size + 1 + 1 := by have := HM.out.lt; omega
  clear xc xl yc yl mc_ ml_ xcd ycd
  go_region_held3 (fun W => W.cell? ⟨w.heap.size, 0, none⟩ = some (.int .i64 op) ∧ W.cell? ⟨w.heap.size, 1, none⟩ = some (.string nm) ∧ W.cell? ⟨w.heap.size, 2, none⟩ = some (.int .i64 cm) ∧ W.cell? ⟨w.heap.size, 3, none⟩ = some (.int .i64 va) ∧ W.cell? ⟨w.heap.size, 4, none⟩ = some (.int .i64 lo) ∧ W.cell? ⟨w.heap.size, 5, none⟩ = some (.int .i64 hi) ∧ W.cell? ⟨w.heap.size, 6, none⟩ = some (.slice A ks.len c) ∧ W.cell? ⟨w.heap.size + 1, 0, none⟩ = some (.int .i64 op2) ∧ W.cell? ⟨w.heap.size + 1, 1, none⟩ = some (.string nm2) ∧ W.cell? ⟨w.heap.size + 1, 2, none⟩ = some (.int .i64 cm2) ∧ W.cell? ⟨w.heap.size + 1, 3, none⟩ = some (.int .i64 va2) ∧ W.cell? ⟨w.heap.size + 1, 4, none⟩ = some (.int .i64 lo2) ∧ W.cell? ⟨w.heap.size + 1, 5, none⟩ = some (.int .i64 hi2) ∧ W.cell? ⟨w.heap.size + 1, 6, none⟩ = some (.slice B js.len d) ∧ W.cell? ⟨mb, 0, none⟩ = some (.int .i64 mop) ∧ W.cell? ⟨mb, 1, none⟩ = some (.string mnm) ∧ W.cell? ⟨mb, 2, none⟩ = some (.int .i64 mcm) ∧ W.cell? ⟨mb, 3, none⟩ = some (.int .i64 mva) ∧ W.cell? ⟨mb, 4, none⟩ = some (.int .i64 mlo) ∧ W.cell? ⟨mb, 5, none⟩ = some (.int .i64 mhi) ∧ W.cell? ⟨mb, 6, none⟩ = some (.slice MA mn mc))
    (first | with_reducible exact HBD.out.s21 | with_reducible exact HB2.out.s21 | with_reducible exact HB3.out.s21 | with_reducible exact HB4.out.s21 | with_reducible exact HB5.out.s21 | with_reducible exact (HB5.out.put7 hn1 hn2 hn3 (.int .i64 o5) (.string n5) (.int .i64 m5) (.int .i64 v5) (.int .i64 l5) (.int .i64 i5) (.slice A5 k5.len c5)).s21)
    (first
      | ((go_at_call 167); (with_reducible refine (q_not HN0.out op nm cm va lo hi A c ks sx HSX.out HSD.out HX.out).mono ?_); rintro e w2 ⟨o2, n2, m2, v2, l2, i2, A2, c2, k2, rfl, he2, hs2, hf2⟩; have HE2 := Lib.hid he2; have HS2 := Lib.hid hs2; have HF2 := Lib.hid (HFD.out.call hf2 (fun _ h _ => h)); have HZ2 := Lib.hid (HZD.out.fr hf2 (fun e => e)); have rc2 := HZ2.out.cell; have rf2 := HZ2.out.frozen; have zl2 := HZ2.out.lt; have HN2 := Lib.hid (Nat.le_trans HN0.out hf2.size); have HG2 := Lib.hid hf2; have HB2 := Lib.hid (HBD.out.all hf2); have bx2 := HB2.out.x; have by2 := HB2.out.y; have bm2 := HB2.out.m; clear he2 hs2 hf2)
      | ((go_at_call 167); (with_reducible refine (q_not HN2.out op2 nm2 cm2 va2 lo2 hi2 B d js sy HSY.out (HTD.out.frQ HG2.out) HY.out).mono ?_); rintro e w3 ⟨o3, n3, m3, v3, l3, i3, A3, c3, k3, rfl, he3, hs3, hf3⟩; have HE3 := Lib.hid he3; have HS3 := Lib.hid hs3; have HF3 := Lib.hid (HF2.out.call hf3 (fun _ h _ => h)); have HZ3 := Lib.hid (HZ2.out.fr hf3 (fun e => e)); have rc3 := HZ3.out.cell; have rf3 := HZ3.out.frozen; have zl3 := HZ3.out.lt; have HN3 := Lib.hid (Nat.le_trans HN2.out hf3.size); have HG3 := Lib.hid hf3; have HB3 := Lib.hid (HB2.out.all hf3); have bx3 := HB3.out.x; have by3 := HB3.out.y; have bm3 := HB3.out.m; clear he3 hs3 hf3)
      | ((go_at_call 175); (with_reducible refine (q_un HN3.out mop mnm mcm mva mlo mhi MA mn mc o2 n2 m2 v2 l2 i2 A2 c2 k2 _ HE2.out (HS2.out.frQ HG3.out) o3 n3 m3 v3 l3 i3 A3 c3 k3 _ HE3.out HS3.out).mono ?_); rintro e w4 ⟨o4, n4, m4, v4, l4, i4, A4, c4, k4, rfl, he4, hs4, hf4⟩; have HE4 := Lib.hid he4; have HS4 := Lib.hid hs4; have HF4 := Lib.hid (HF3.out.call hf4 (fun _ h _ => h)); have HZ4 := Lib.hid (HZ3.out.fr hf4 (fun e => e)); have rc4 := HZ4.out.cell; have rf4 := HZ4.out.frozen; have zl4 := HZ4.out.lt; have HN4 := Lib.hid (Nat.le_trans HN3.out hf4.size); have HG4 := Lib.hid hf4; have HB4 := Lib.hid (HB3.out.all hf4); have bx4 := HB4.out.x; have by4 := HB4.out.y; have bm4 := HB4.out.m; clear he4 hs4 hf4)
      | ((go_at_call 167); (with_reducible refine (q_not HN4.out o4 n4 m4 v4 l4 i4 A4 c4 k4 _ HE4.out HS4.out HC.out).mono ?_); rintro e w5 ⟨o5, n5, m5, v5, l5, i5, A5, c5, k5, rfl, he5, hs5, hf5⟩; have HE5 := Lib.hid he5; have HS5 := Lib.hid hs5; have HF5 := Lib.hid (HF4.out.call hf5 (fun _ h _ => h)); have HZ5 := Lib.hid (HZ4.out.fr hf5 (fun e => e)); have rc5 := HZ5.out.cell; have rf5 := HZ5.out.frozen; have zl5 := HZ5.out.lt; have HN5 := Lib.hid (Nat.le_trans HN4.out hf5.size); have HG5 := Lib.hid hf5; have HB5 := Lib.hid (HB4.out.all hf5); have bx5 := HB5.out.x; have by5 := HB5.out.y; have bm5 := HB5.out.m; clear he5 hs5 hf5)
      | fail)
  clear HBD HB2 HB3 HB4 HB5 bx2 by2 bm2 bx3 by3 bm3 bx4 by4 bm4 bx5 by5 bm5 HX0 HY0 HM0 HSD HTD HZD HZ2 HZ3 HZ4 HS2 HS3 HS4 rc2 rc3 rc4 rf2 rf3 rf4 zl2 zl3 zl4 HE2 HE3 HE4
  have HB7 := Lib.hid (set7_blk HZ5.out (.int .i64 o5) (.string n5) (.int .i64 m5) (.int .i64 v5) (.int .i64 l5) (.int .i64 i5) (.slice A5 k5.len c5))
  have HF7 := Lib.hid (set7_fr w5 (w.heap.size + 1 + 1) (.int .i64 o5) (.string n5) (.int .i64 m5) (.int .i64 v5) (.int .i64 l5) (.int .i64 i5) (.slice A5 k5.len c5))
  change Exit.then _ _ _ _ (set7 w5 (w.heap.size + 1 + 1) (.int .i64 o5) (.string n5) (.int .i64 m5) (.int .i64 v5) (.int .i64 l5) (.int .i64 i5) (.slice A5 k5.len c5))
  generalize set7 w5 (w.heap.size + 1 + 1) (.int .i64 o5) (.string n5) (.int .i64 m5) (.int .i64 v5) (.int .i64 l5) (.int .i64 i5) (.slice A5 k5.len c5) = W7 at *
  have rc7 := HB7.out.cell
  go_wp2_with fail
  refine bodyPost_ret (v := .agg #[.int .i64 o5, .string n5, .int .i64 m5, .int .i64 v5, .int .i64 l5, .int .i64 i5, .slice A5 k5.len c5]) (by simp [results, Tryz.results176, go_sem, rc7]) rfl ?_
  exact FRes.putQ (x := ⟨o5, n5, m5, v5, l5, i5⟩) HE5.out HS5.out HP.out HF5.out (by omega) HW0.out HF7.out
end Go.Proofs.YtoegdmpmagbaiaaGreatDoor
