/- norm's rows: the closure of release. -/
import Derived.Test.YtkmicfjcikilhaaDoorKH
namespace Go.Proofs.YtkmicfjcikilhaaDoor
open Go.RowKit Go.Lib

set_option maxRecDepth 100000 in
set_option maxHeartbeats 16000000 in
theorem c_re (w : World) (p : Nat → Prop) (hp : ∀ k, p k → k < w.heap.size) (x y : Nd) (A B : Option Addr) (c d : Nat) (ks js : Fo) (hs : FoSlP p w A c ks) (ht : FoSlP p w B d js) (hx : coreS (x, ks.tr)) (hy : coreS (y, js.tr)) (mb mn mc : Nat) (m : Nd) (MA : Option Addr) (hm : Blk w mb 121 #[.int .i64 m.op, .string m.name, .int .i64 m.cmp, .int .i64 m.val, .int .i64 m.lo, .int .i64 m.hi, .slice MA mn mc]) :
    Calls Tryd.prog 125 #[fval x A ks.len c, fval y B js.len d, .pointer (some ⟨mb, 0, none⟩)] w (FRes w p (notS (unS m.lo m.hi (notS (x, ks.tr)) (notS (y, js.tr))))) := by
  have HS := Lib.hid hs
  have HP := Lib.hid hp
  have HT := Lib.hid ht
  have HX := Lib.hid hx
  have HY := Lib.hid hy
  have HC := Lib.hid (core_un (lo := m.lo) (hi := m.hi) (core_not hx) (core_not hy))
  obtain ⟨sx, hsx⟩ : ∃ sx, sx = (x, ks.tr) := ⟨_, rfl⟩
  obtain ⟨sy, hsy⟩ : ∃ sy, sy = (y, js.tr) := ⟨_, rfl⟩
  rw [← hsx] at HC HX ⊢
  rw [← hsy] at HC HY ⊢
  have HSX := Lib.hid hsx.symm
  have HSY := Lib.hid hsy.symm
  clear hs ht hp hx hy hsx hsy
  have HM := Lib.hid hm
  obtain ⟨mop, mnm, mcm, mva, mlo, mhi⟩ := m
  dsimp only at *
  clear hm
  obtain ⟨op, nm, cm, va, lo, hi⟩ := x
  obtain ⟨op2, nm2, cm2, va2, lo2, hi2⟩ := y
  unfold fval at *
  go_enter Tryd.func125, Tryd.ntmps125
  go_upto_region 1 with fail
  obtain ⟨W0, hW0⟩ : ∃ W0, ((w.alloc (.cells #[.int .i64 op, .string nm, .int .i64 cm, .int .i64 va, .int .i64 lo, .int .i64 hi, .slice A ks.len c] 28)).alloc (.cells #[.int .i64 op2, .string nm2, .int .i64 cm2, .int .i64 va2, .int .i64 lo2, .int .i64 hi2, .slice B js.len d] 28)).alloc (.cells zarr 28) = W0 := ⟨_, rfl⟩
  have HX0 := Lib.hid (show Blk W0 w.heap.size 28 #[.int .i64 op, .string nm, .int .i64 cm, .int .i64 va, .int .i64 lo, .int .i64 hi, .slice A ks.len c] by rw [← hW0]; exact ((Blk.new _ _ _).alloc _).alloc _)
  have HY0 := Lib.hid (show Blk W0 (w.heap.size + 1) 28 #[.int .i64 op2, .string nm2, .int .i64 cm2, .int .i64 va2, .int .i64 lo2, .int .i64 hi2, .slice B js.len d] by rw [← hW0]; exact (Blk.new_eq (by simp)).alloc _)
  have HZ := Lib.hid (show Blk W0 (w.heap.size + 1 + 1) 28 zarr by rw [← hW0]; exact Blk.new_eq (by simp))
  have HF0 := Lib.hid (show Fr Nob w W0 by rw [← hW0]; exact (((Fr.refl _ _).alloc _).alloc _).alloc _)
  have HW0 := Lib.hid (show w.heap.size + 1 + 1 < W0.heap.size from HZ.out.lt)
  rw [hW0]
  clear hW0
  have xc := HX0.out.cell
  have xl := HX0.out.lt
  have yc := HY0.out.cell
  have yl := HY0.out.lt
  have rc := HZ.out.cell
  have rf := HZ.out.frozen
  have zl := HZ.out.lt
  have HM0 := Lib.hid (HM.out.fr HF0.out (fun e => e))
  have mc_ := HM0.out.cell
  have ml_ := HM0.out.lt
  have HN0 := Lib.hid (show W0.heap.size ≤ W0.drew.heap.size from Nat.le_refl _)
  have HFD := Lib.hid (show Fr Nob w W0.drew from HF0.out.drew)
  have HZD := Lib.hid (show Blk W0.drew (w.heap.size + 1 + 1) 28 zarr from HZ.out.drew)
  have HSD := Lib.hid (show FoSlP (QB p W0.heap.size W0.drew) W0.drew A c ks from (HS.out.fr HFD.out).toQ)
  have xcd : ∀ i, W0.drew.cell? ⟨w.heap.size, i, none⟩ = #[Value.int .i64 op, .string nm, .int .i64 cm, .int .i64 va, .int .i64 lo, .int .i64 hi, .slice A ks.len c][i]? := HX0.out.drew.cell
  have HTD := Lib.hid (show FoSlP (QB p W0.heap.size W0.drew) W0.drew B d js from (HT.out.fr HFD.out).toQ)
  have ycd : ∀ i, W0.drew.cell? ⟨(w.heap.size + 1), i, none⟩ = #[Value.int .i64 op2, .string nm2, .int .i64 cm2, .int .i64 va2, .int .i64 lo2, .int .i64 hi2, .slice B js.len d][i]? := HY0.out.drew.cell
  have HBD := Lib.hid (show Bxs W0.drew _ _ _ _ _ _ _ _ _ from ⟨HX0.out.drew, HY0.out.drew, HM0.out.drew⟩)
  have mcd := HM0.out.drew.cell
  go_region_with (first
    | ((go_at_call 116); (with_reducible refine (q_not HN0.out op nm cm va lo hi A c ks sx HSX.out HSD.out HX.out).mono ?_); rintro e w2 ⟨o2, n2, m2, v2, l2, i2, A2, c2, k2, rfl, he2, hs2, hf2⟩; have HE2 := Lib.hid he2; have HS2 := Lib.hid hs2; have HF2 := Lib.hid (HFD.out.call hf2 (fun _ h _ => h)); have HZ2 := Lib.hid (HZD.out.fr hf2 (fun e => e)); have rc2 := HZ2.out.cell; have rf2 := HZ2.out.frozen; have zl2 := HZ2.out.lt; have HN2 := Lib.hid (Nat.le_trans HN0.out hf2.size); have HG2 := Lib.hid hf2; have HB2 := Lib.hid (HBD.out.all hf2); have bx2 := HB2.out.x; have by2 := HB2.out.y; have bm2 := HB2.out.m; clear he2 hs2 hf2)
    | ((go_at_call 116); (with_reducible refine (q_not HN0.out op2 nm2 cm2 va2 lo2 hi2 B d js sy HSY.out HTD.out HY.out).mono ?_); rintro e w3 ⟨o3, n3, m3, v3, l3, i3, A3, c3, k3, rfl, he3, hs3, hf3⟩; have HE3 := Lib.hid he3; have HS3 := Lib.hid hs3; have HF3 := Lib.hid (HFD.out.call hf3 (fun _ h _ => h)); have HZ3 := Lib.hid (HZD.out.fr hf3 (fun e => e)); have rc3 := HZ3.out.cell; have rf3 := HZ3.out.frozen; have zl3 := HZ3.out.lt; have HN3 := Lib.hid (Nat.le_trans HN0.out hf3.size); have HG3 := Lib.hid hf3; have HB3 := Lib.hid (HBD.out.all hf3); have bx3 := HB3.out.x; have by3 := HB3.out.y; have bm3 := HB3.out.m; clear he3 hs3 hf3)
    | ((go_at_call 116); (with_reducible refine (q_not HN3.out op nm cm va lo hi A c ks sx HSX.out (HSD.out.frQ HG3.out) HX.out).mono ?_); rintro e w2 ⟨o2, n2, m2, v2, l2, i2, A2, c2, k2, rfl, he2, hs2, hf2⟩; have HE2 := Lib.hid he2; have HS2 := Lib.hid hs2; have HF2 := Lib.hid (HF3.out.call hf2 (fun _ h _ => h)); have HZ2 := Lib.hid (HZ3.out.fr hf2 (fun e => e)); have rc2 := HZ2.out.cell; have rf2 := HZ2.out.frozen; have zl2 := HZ2.out.lt; have HN2 := Lib.hid (Nat.le_trans HN3.out hf2.size); have HG2 := Lib.hid hf2; have HB2 := Lib.hid (HB3.out.all hf2); have bx2 := HB2.out.x; have by2 := HB2.out.y; have bm2 := HB2.out.m; clear he2 hs2 hf2)
    | ((go_at_call 116); (with_reducible refine (q_not HN2.out op2 nm2 cm2 va2 lo2 hi2 B d js sy HSY.out (HTD.out.frQ HG2.out) HY.out).mono ?_); rintro e w3 ⟨o3, n3, m3, v3, l3, i3, A3, c3, k3, rfl, he3, hs3, hf3⟩; have HE3 := Lib.hid he3; have HS3 := Lib.hid hs3; have HF3 := Lib.hid (HF2.out.call hf3 (fun _ h _ => h)); have HZ3 := Lib.hid (HZ2.out.fr hf3 (fun e => e)); have rc3 := HZ3.out.cell; have rf3 := HZ3.out.frozen; have zl3 := HZ3.out.lt; have HN3 := Lib.hid (Nat.le_trans HN2.out hf3.size); have HG3 := Lib.hid hf3; have HB3 := Lib.hid (HB2.out.all hf3); have bx3 := HB3.out.x; have by3 := HB3.out.y; have bm3 := HB3.out.m; clear he3 hs3 hf3)
    | ((go_at_call 124); (with_reducible refine (q_un HN3.out mop mnm mcm mva mlo mhi MA mn mc o2 n2 m2 v2 l2 i2 A2 c2 k2 _ HE2.out (HS2.out.frQ HG3.out) o3 n3 m3 v3 l3 i3 A3 c3 k3 _ HE3.out HS3.out).mono ?_); rintro e w4 ⟨o4, n4, m4, v4, l4, i4, A4, c4, k4, rfl, he4, hs4, hf4⟩; have HE4 := Lib.hid he4; have HS4 := Lib.hid hs4; have HF4 := Lib.hid (HF3.out.call hf4 (fun _ h _ => h)); have HZ4 := Lib.hid (HZ3.out.fr hf4 (fun e => e)); have rc4 := HZ4.out.cell; have rf4 := HZ4.out.frozen; have zl4 := HZ4.out.lt; have HN4 := Lib.hid (Nat.le_trans HN3.out hf4.size); have HG4 := Lib.hid hf4; have HB4 := Lib.hid (HB3.out.all hf4); have bx4 := HB4.out.x; have by4 := HB4.out.y; have bm4 := HB4.out.m; clear he4 hs4 hf4)
    | ((go_at_call 124); (with_reducible refine (q_un HN2.out mop mnm mcm mva mlo mhi MA mn mc o2 n2 m2 v2 l2 i2 A2 c2 k2 _ HE2.out HS2.out o3 n3 m3 v3 l3 i3 A3 c3 k3 _ HE3.out (HS3.out.frQ HG2.out)).mono ?_); rintro e w4 ⟨o4, n4, m4, v4, l4, i4, A4, c4, k4, rfl, he4, hs4, hf4⟩; have HE4 := Lib.hid he4; have HS4 := Lib.hid hs4; have HF4 := Lib.hid (HF2.out.call hf4 (fun _ h _ => h)); have HZ4 := Lib.hid (HZ2.out.fr hf4 (fun e => e)); have rc4 := HZ4.out.cell; have rf4 := HZ4.out.frozen; have zl4 := HZ4.out.lt; have HN4 := Lib.hid (Nat.le_trans HN2.out hf4.size); have HG4 := Lib.hid hf4; have HB4 := Lib.hid (HB2.out.all hf4); have bx4 := HB4.out.x; have by4 := HB4.out.y; have bm4 := HB4.out.m; clear he4 hs4 hf4)
    | ((go_at_call 116); (with_reducible refine (q_not HN4.out o4 n4 m4 v4 l4 i4 A4 c4 k4 _ HE4.out HS4.out HC.out).mono ?_); rintro e w5 ⟨o5, n5, m5, v5, l5, i5, A5, c5, k5, rfl, he5, hs5, hf5⟩; have HE5 := Lib.hid he5; have HS5 := Lib.hid hs5; have HF5 := Lib.hid (HF4.out.call hf5 (fun _ h _ => h)); have HZ5 := Lib.hid (HZ4.out.fr hf5 (fun e => e)); have rc5 := HZ5.out.cell; have rf5 := HZ5.out.frozen; have zl5 := HZ5.out.lt; have HN5 := Lib.hid (Nat.le_trans HN4.out hf5.size); have HG5 := Lib.hid hf5; have HB5 := Lib.hid (HB4.out.all hf5); have bx5 := HB5.out.x; have by5 := HB5.out.y; have bm5 := HB5.out.m; clear he5 hs5 hf5)
    | fail)
  all_goals
    have HB7 := Lib.hid (set7_blk HZ5.out (.int .i64 o5) (.string n5) (.int .i64 m5) (.int .i64 v5) (.int .i64 l5) (.int .i64 i5) (.slice A5 k5.len c5))
    have HF7 := Lib.hid (set7_fr w5 (w.heap.size + 1 + 1) (.int .i64 o5) (.string n5) (.int .i64 m5) (.int .i64 v5) (.int .i64 l5) (.int .i64 i5) (.slice A5 k5.len c5))
    change Exit.then _ _ _ _ (set7 w5 (w.heap.size + 1 + 1) (.int .i64 o5) (.string n5) (.int .i64 m5) (.int .i64 v5) (.int .i64 l5) (.int .i64 i5) (.slice A5 k5.len c5))
    generalize set7 w5 (w.heap.size + 1 + 1) (.int .i64 o5) (.string n5) (.int .i64 m5) (.int .i64 v5) (.int .i64 l5) (.int .i64 i5) (.slice A5 k5.len c5) = W7 at *
    have rc7 := HB7.out.cell
    go_wp2_with fail
    refine bodyPost_ret (v := .agg #[.int .i64 o5, .string n5, .int .i64 m5, .int .i64 v5, .int .i64 l5, .int .i64 i5, .slice A5 k5.len c5]) (by simp [results, Tryd.results125, go_sem, rc7]) rfl ?_
    exact FRes.putQ (x := ⟨o5, n5, m5, v5, l5, i5⟩) HE5.out HS5.out HP.out HF5.out (by omega) HW0.out HF7.out
end Go.Proofs.YtkmicfjcikilhaaDoor
