/- norm's rows: the closures. -/
import Derived.Test.YtoegdmpmagbaiaaGreatDoorKG
namespace Go.Proofs.YtoegdmpmagbaiaaGreatDoor
open Go.RowKit Go.Lib

theorem Fo.AtP.bnd {p : Nat → Prop} {w : World} : ∀ {f : Fo} {b off : Nat}, f.AtP p w b off → f.AtP (fun k => p k ∧ k < w.heap.size) w b off
  | .nil, _, _, _ => trivial
  | .cons _ _ _ _ _, _, _, ⟨h1, h2, h3, h4, h5, h6, h7⟩ => ⟨⟨h1, h2⟩, h2, h3, h4, h5, fun bb oo e => (h6 bb oo e).bnd, h7.bnd⟩
theorem FoSlP.bnd {p : Nat → Prop} {w : World} {A : Option Addr} {c : Nat} {f : Fo} (h : FoSlP p w A c f) : FoSlP (fun k => p k ∧ k < w.heap.size) w A c f := ⟨h.ok, h.some_, fun bb oo e => (h.at_ bb oo e).bnd⟩
/-- Blocks that may be kids': those given, and those from N on. -/
def QB (p : Nat → Prop) (N : Nat) (W : World) (k : Nat) : Prop := (p k ∨ N ≤ k) ∧ k < W.heap.size
def QRes (p : Nat → Prop) (N : Nat) (w : World) (s : S1) (e : Ending) (w' : World) : Prop := ∃ (op : Int) (nm : ByteArray) (cm va lo hi : Int) (A : Option Addr) (c : Nat) (ks : Fo), e = .returned (.agg #[.int .i64 op, .string nm, .int .i64 cm, .int .i64 va, .int .i64 lo, .int .i64 hi, .slice A ks.len c]) ∧ ((⟨op, nm, cm, va, lo, hi⟩ : Nd), ks.tr) = s ∧ FoSlP (QB p N w') w' A c ks ∧ Fr Nob w w'
section
variable {p : Nat → Prop} {N : Nat} {w w' : World}
theorem FoSlP.toQ {A : Option Addr} {c : Nat} {ks : Fo} (h : FoSlP p w A c ks) : FoSlP (QB p N w) w A c ks := h.bnd.mono fun _ hk => ⟨.inl hk.1, hk.2⟩
theorem FoSlP.frQ {A : Option Addr} {c : Nat} {ks : Fo} (h : FoSlP (QB p N w) w A c ks) (hf : Fr Nob w w') : FoSlP (QB p N w') w' A c ks := (h.fr hf).mono fun _ hk => ⟨hk.1, Nat.lt_of_lt_of_le hk.2 hf.size⟩
theorem FRes.toQ {s : S1} {e : Ending} (hN : N ≤ w.heap.size) (h : FRes w (QB p N w) s e w') : QRes p N w s e w' := by
  obtain ⟨op, nm, cm, va, lo, hi, A, c, ks, h1, h2, h3, h4⟩ := h
  refine ⟨op, nm, cm, va, lo, hi, A, c, ks, h1, h2, h3.bnd.mono fun k hk => ⟨?_, hk.2⟩, h4⟩
  rcases hk.1 with h | h
  · exact h.1
  · exact .inr (Nat.le_trans hN h)
theorem FRes.putQ {w1 W7 : World} {g : Nat} {s : S1} {x : Nd} {A : Option Addr} {c : Nat} {ks : Fo} (he : (x, ks.tr) = s) (hs : FoSlP (QB p N w1) w1 A c ks) (hp : ∀ k, p k → k < w.heap.size) (hf : Fr Nob w w1) (hg : w.heap.size ≤ g) (hgN : g < N) (h7 : Fr (Only g) w1 W7) :
    FRes w p s (.returned (fval x A ks.len c)) W7 :=
  FRes.put he hs (fun k hk _ => by
    rcases hk.1 with h | h
    · exact ⟨.inl h, by have := hp k h; omega⟩
    · exact ⟨.inr (by omega), by omega⟩) hf hg h7
theorem nq_not (hN : N ≤ w.heap.size) (x : Nd) (A : Option Addr) (c : Nat) (ks : Fo) (hs : FoSlP (QB p N w) w A c ks) (hc : coreS (x, ks.tr)) : Calls Tryz.prog 167 #[fval x A ks.len c] w (QRes p N w (notS (x, ks.tr))) :=
  (n_not w (QB p N w) (fun _ hk => hk.2) x A c ks hs hc).mono fun _ _ h => h.toQ hN
theorem nq_and (hN : N ≤ w.heap.size) (x y : Nd) (A B : Option Addr) (c d : Nat) (ks js : Fo) (hs : FoSlP (QB p N w) w A c ks) (ht : FoSlP (QB p N w) w B d js) (hz : js.tr.size ≤ 100000) : Calls Tryz.prog 168 #[fval x A ks.len c, fval y B js.len d] w (QRes p N w (andS (x, ks.tr) (y, js.tr))) :=
  (n_and w (QB p N w) (fun _ hk => hk.2) x y A B c d ks js hs ht hz).mono fun _ _ h => h.toQ hN
theorem nq_ev (hN : N ≤ w.heap.size) (m x : Nd) (MA A : Option Addr) (mn mc c : Nat) (ks : Fo) (hs : FoSlP (QB p N w) w A c ks) : Calls Tryz.prog 173 #[fval m MA mn mc, fval x A ks.len c] w (QRes p N w (evS m.lo m.hi (x, ks.tr))) :=
  (n_ev w (QB p N w) (fun _ hk => hk.2) m x MA A mn mc c ks hs).mono fun _ _ h => h.toQ hN
theorem nq_un (hN : N ≤ w.heap.size) (m x y : Nd) (MA A B : Option Addr) (mn mc c d : Nat) (ks js : Fo) (hs : FoSlP (QB p N w) w A c ks) (ht : FoSlP (QB p N w) w B d js) : Calls Tryz.prog 175 #[fval m MA mn mc, fval x A ks.len c, fval y B js.len d] w (QRes p N w (unS m.lo m.hi (x, ks.tr) (y, js.tr))) :=
  (n_un w (QB p N w) (fun _ hk => hk.2) m x y MA A B mn mc c d ks js hs ht).mono fun _ _ h => h.toQ hN
end
/-- Boxes that are read. -/
structure Bxs (W : World) (b1 t1 b2 t2 b3 t3 : Nat) (a1 a2 a3 : Array Value) : Prop where
  bx : Blk W b1 t1 a1
  by_ : Blk W b2 t2 a2
  bm : Blk W b3 t3 a3
theorem Bxs.x {W : World} {b1 t1 b2 t2 b3 t3 : Nat} {a1 a2 a3 : Array Value} (h : Bxs W b1 t1 b2 t2 b3 t3 a1 a2 a3) : ∀ i, W.cell? ⟨b1, i, none⟩ = a1[i]? := h.bx.cell
theorem Bxs.y {W : World} {b1 t1 b2 t2 b3 t3 : Nat} {a1 a2 a3 : Array Value} (h : Bxs W b1 t1 b2 t2 b3 t3 a1 a2 a3) : ∀ i, W.cell? ⟨b2, i, none⟩ = a2[i]? := h.by_.cell
theorem Bxs.m {W : World} {b1 t1 b2 t2 b3 t3 : Nat} {a1 a2 a3 : Array Value} (h : Bxs W b1 t1 b2 t2 b3 t3 a1 a2 a3) : ∀ i, W.cell? ⟨b3, i, none⟩ = a3[i]? := h.bm.cell
theorem Bxs.all {W W' : World} {b1 t1 b2 t2 b3 t3 : Nat} {a1 a2 a3 : Array Value} (h : Bxs W b1 t1 b2 t2 b3 t3 a1 a2 a3) (hf : Fr Nob W W') : Bxs W' b1 t1 b2 t2 b3 t3 a1 a2 a3 := ⟨h.bx.fr hf (fun e => e), h.by_.fr hf (fun e => e), h.bm.fr hf (fun e => e)⟩
theorem szS_le {x : Nd} {ks : Tr} {n : Nat} (h : szS (x, ks) ≤ n) : ks.size ≤ n := by unfold szS at h; dsimp only at h; omega
/-- A fixed answer of 'not', opened to where it is known what came in. -/
theorem q_not {p : Nat → Prop} {N : Nat} {w : World} (hN : N ≤ w.heap.size) (op : Int) (nm : ByteArray) (cm va lo hi : Int) (A : Option Addr) (c : Nat) (ks : Fo) (s : S1) (he : ((⟨op, nm, cm, va, lo, hi⟩ : Nd), ks.tr) = s) (hs : FoSlP (QB p N w) w A c ks) (hc : coreS s) :
    Calls Tryz.prog 167 #[.agg #[.int .i64 op, .string nm, .int .i64 cm, .int .i64 va, .int .i64 lo, .int .i64 hi, .slice A ks.len c]] w (QRes p N w (notS s)) := by
  subst he
  exact nq_not hN _ A c ks hs hc
theorem q_and {p : Nat → Prop} {N : Nat} {w : World} (hN : N ≤ w.heap.size) (op : Int) (nm : ByteArray) (cm va lo hi : Int) (A : Option Addr) (c : Nat) (ks : Fo) (s : S1) (he : ((⟨op, nm, cm, va, lo, hi⟩ : Nd), ks.tr) = s) (hs : FoSlP (QB p N w) w A c ks)
    (op2 : Int) (nm2 : ByteArray) (cm2 va2 lo2 hi2 : Int) (B : Option Addr) (d : Nat) (js : Fo) (t : S1) (he2 : ((⟨op2, nm2, cm2, va2, lo2, hi2⟩ : Nd), js.tr) = t) (ht : FoSlP (QB p N w) w B d js) (hz : szS t ≤ 100000) :
    Calls Tryz.prog 168 #[.agg #[.int .i64 op, .string nm, .int .i64 cm, .int .i64 va, .int .i64 lo, .int .i64 hi, .slice A ks.len c], .agg #[.int .i64 op2, .string nm2, .int .i64 cm2, .int .i64 va2, .int .i64 lo2, .int .i64 hi2, .slice B js.len d]] w (QRes p N w (andS s t)) := by
  subst he he2
  exact nq_and hN _ _ A B c d ks js hs ht (szS_le hz)
theorem q_ev {p : Nat → Prop} {N : Nat} {w : World} (hN : N ≤ w.heap.size) (mop : Int) (mnm : ByteArray) (mcm mva mlo mhi : Int) (MA : Option Addr) (mn mc : Nat) (op : Int) (nm : ByteArray) (cm va lo hi : Int) (A : Option Addr) (c : Nat) (ks : Fo) (s : S1) (he : ((⟨op, nm, cm, va, lo, hi⟩ : Nd), ks.tr) = s) (hs : FoSlP (QB p N w) w A c ks) :
    Calls Tryz.prog 173 #[.agg #[.int .i64 mop, .string mnm, .int .i64 mcm, .int .i64 mva, .int .i64 mlo, .int .i64 mhi, .slice MA mn mc], .agg #[.int .i64 op, .string nm, .int .i64 cm, .int .i64 va, .int .i64 lo, .int .i64 hi, .slice A ks.len c]] w (QRes p N w (evS mlo mhi s)) := by
  subst he
  exact nq_ev hN ⟨mop, mnm, mcm, mva, mlo, mhi⟩ _ MA A mn mc c ks hs
theorem q_un {p : Nat → Prop} {N : Nat} {w : World} (hN : N ≤ w.heap.size) (mop : Int) (mnm : ByteArray) (mcm mva mlo mhi : Int) (MA : Option Addr) (mn mc : Nat) (op : Int) (nm : ByteArray) (cm va lo hi : Int) (A : Option Addr) (c : Nat) (ks : Fo) (s : S1) (he : ((⟨op, nm, cm, va, lo, hi⟩ : Nd), ks.tr) = s) (hs : FoSlP (QB p N w) w A c ks)
    (op2 : Int) (nm2 : ByteArray) (cm2 va2 lo2 hi2 : Int) (B : Option Addr) (d : Nat) (js : Fo) (t : S1) (he2 : ((⟨op2, nm2, cm2, va2, lo2, hi2⟩ : Nd), js.tr) = t) (ht : FoSlP (QB p N w) w B d js) :
    Calls Tryz.prog 175 #[.agg #[.int .i64 mop, .string mnm, .int .i64 mcm, .int .i64 mva, .int .i64 mlo, .int .i64 mhi, .slice MA mn mc], .agg #[.int .i64 op, .string nm, .int .i64 cm, .int .i64 va, .int .i64 lo, .int .i64 hi, .slice A ks.len c], .agg #[.int .i64 op2, .string nm2, .int .i64 cm2, .int .i64 va2, .int .i64 lo2, .int .i64 hi2, .slice B js.len d]] w (QRes p N w (unS mlo mhi s t)) := by
  subst he he2
  exact nq_un hN ⟨mop, mnm, mcm, mva, mlo, mhi⟩ _ _ MA A B mn mc c d ks js hs ht

set_option maxRecDepth 100000 in
set_option maxHeartbeats 8000000 in
theorem c_not (w : World) (p : Nat → Prop) (hp : ∀ k, p k → k < w.heap.size) (x y : Nd) (A B : Option Addr) (c d : Nat) (ks js : Fo) (hs : FoSlP p w A c ks) (hx : coreS (x, ks.tr)) :
    Calls Tryz.prog 166 #[fval x A ks.len c, fval y B js.len d] w (FRes w p (notS (x, ks.tr))) := by
  have HS := Lib.hid hs
  have HP := Lib.hid hp
  have HNX := Lib.hid (fun W (hf : Fr Nob w W) => n_not W p (fun k hk => Nat.lt_of_lt_of_le (hp k hk) hf.size) x A c ks (hs.fr hf) hx)
  clear hs hp hx
  obtain ⟨sr, hsr⟩ : ∃ sr, sr = notS (x, ks.tr) := ⟨_, rfl⟩
  rw [← hsr] at HNX ⊢
  have HR := Lib.hid (show sr = sr from rfl)
  clear hsr
  obtain ⟨op, nm, cm, va, lo, hi⟩ := x
  obtain ⟨op2, nm2, cm2, va2, lo2, hi2⟩ := y
  unfold fval at *
  go_enter Tryz.func166, Tryz.ntmps166
  go_upto_region 1 with fail
  obtain ⟨W0, hW0⟩ : ∃ W0, ((w.alloc (.cells #[.int .i64 op, .string nm, .int .i64 cm, .int .i64 va, .int .i64 lo, .int .i64 hi, .slice A ks.len c] 28)).alloc (.cells #[.int .i64 op2, .string nm2, .int .i64 cm2, .int .i64 va2, .int .i64 lo2, .int .i64 hi2, .slice B js.len d] 28)).alloc (.cells zarr 28) = W0 := ⟨_, rfl⟩
  have HX0 := Lib.hid (show Blk W0 w.heap.size 28 #[.int .i64 op, .string nm, .int .i64 cm, .int .i64 va, .int .i64 lo, .int .i64 hi, .slice A ks.len c] by rw [← hW0]; exact ((Blk.new _ _ _).alloc _).alloc _)
  have HY0 := Lib.hid (show Blk W0 (w.heap.size + 1) 28 #[.int .i64 op2, .string nm2, .int .i64 cm2, .int .i64 va2, .int .i64 lo2, .int .i64 hi2, .slice B js.len d] by rw [← hW0]; exact (Blk.new_eq (by simp)).alloc _)
  have HZ := Lib.hid (show Blk W0 (w.heap.size + 1 + 1) 28 zarr by rw [← hW0]; exact Blk.new_eq (by simp))
  have HF0 := Lib.hid (show Fr Nob w W0 by rw [← hW0]; exact (((Fr.refl _ _).alloc _).alloc _).alloc _)
  have HW0 := Lib.hid (show w.heap.size + 1 + 1 < W0.heap.size from HZ.out.lt)
  rw [hW0]
  clear hW0
  have xc := HX0.out.cell
  have xl := HX0.out.lt
  have yc := HY0.out.cell
  have yl := HY0.out.lt
  have rc := HZ.out.cell
  have rf := HZ.out.frozen
  have zl := HZ.out.lt
  go_wp2_with (first
    | ((go_at_call 167); (with_reducible refine (HNX.out W0 HF0.out).mono ?_); rintro e w2 ⟨o1, n1, m1, v1, l1, i1, A1, c1, k1, rfl, he, hs1, hf1⟩; have HE := Lib.hid he; have HS1 := Lib.hid hs1; have HFR := Lib.hid hf1; have HZ2 := Lib.hid (HZ.out.fr hf1 (fun e => e)); clear he hs1 hf1)
    | (refine wpList_stBox rfl rfl (by rfl) (by rfl) (by exact infoF) (by rfl) (by first | exact HZ2.out.alloc _ | exact HZ2.out) (by rfl) ?_; intro W7 hb7 hf7; have HB7 := Lib.hid hb7; have HF7 := Lib.hid hf7; have rc7 := hb7.cell; clear hb7 hf7)
    | fail)
  refine bodyPost_ret (v := .agg #[.int .i64 o1, .string n1, .int .i64 m1, .int .i64 v1, .int .i64 l1, .int .i64 i1, .slice A1 k1.len c1]) (by simp [results, Tryz.results166, go_sem, rc7]) rfl ?_
  exact FRes.put (x := ⟨o1, n1, m1, v1, l1, i1⟩) HE.out HS1.out (fun k hk _ => hq_call HP.out (by omega) HW0.out k hk) (HF0.out.call HFR.out (fun _ h _ => h)) (by omega) HF7.out
set_option maxRecDepth 100000 in
set_option maxHeartbeats 8000000 in
theorem c_imp (w : World) (p : Nat → Prop) (hp : ∀ k, p k → k < w.heap.size) (x y : Nd) (A B : Option Addr) (c d : Nat) (ks js : Fo) (hs : FoSlP p w A c ks) (ht : FoSlP p w B d js) (hx : coreS (x, ks.tr)) (hy : coreS (y, js.tr)) (hz : szS (y, js.tr) ≤ 90000) :
    Calls Tryz.prog 170 #[fval x A ks.len c, fval y B js.len d] w (FRes w p (notS (andS (x, ks.tr) (notS (y, js.tr))))) := by
  have HS := Lib.hid hs
  have HT := Lib.hid ht
  have HP := Lib.hid hp
  have HY := Lib.hid hy
  have HC := Lib.hid (core_and hx (core_not hy))
  have HZS := Lib.hid (show szS (notS (y, js.tr)) ≤ 100000 by have := sz_not hy; omega)
  obtain ⟨sx, hsx⟩ : ∃ sx, sx = (x, ks.tr) := ⟨_, rfl⟩
  obtain ⟨sy, hsy⟩ : ∃ sy, sy = (y, js.tr) := ⟨_, rfl⟩
  rw [← hsx] at HC ⊢
  rw [← hsy] at HC HZS HY ⊢
  have HSX := Lib.hid hsx.symm
  have HSY := Lib.hid hsy.symm
  clear hs ht hp hx hy hz hsx hsy
  obtain ⟨op, nm, cm, va, lo, hi⟩ := x
  obtain ⟨op2, nm2, cm2, va2, lo2, hi2⟩ := y
  unfold fval at *
  go_enter Tryz.func170, Tryz.ntmps170
  go_upto_region 1 with fail
  obtain ⟨W0, hW0⟩ : ∃ W0, ((w.alloc (.cells #[.int .i64 op, .string nm, .int .i64 cm, .int .i64 va, .int .i64 lo, .int .i64 hi, .slice A ks.len c] 28)).alloc (.cells #[.int .i64 op2, .string nm2, .int .i64 cm2, .int .i64 va2, .int .i64 lo2, .int .i64 hi2, .slice B js.len d] 28)).alloc (.cells zarr 28) = W0 := ⟨_, rfl⟩
  have HX0 := Lib.hid (show Blk W0 w.heap.size 28 #[.int .i64 op, .string nm, .int .i64 cm, .int .i64 va, .int .i64 lo, .int .i64 hi, .slice A ks.len c] by rw [← hW0]; exact ((Blk.new _ _ _).alloc _).alloc _)
  have HY0 := Lib.hid (show Blk W0 (w.heap.size + 1) 28 #[.int .i64 op2, .string nm2, .int .i64 cm2, .int .i64 va2, .int .i64 lo2, .int .i64 hi2, .slice B js.len d] by rw [← hW0]; exact (Blk.new_eq (by simp)).alloc _)
  have HZ := Lib.hid (show Blk W0 (w.heap.size + 1 + 1) 28 zarr by rw [← hW0]; exact Blk.new_eq (by simp))
  have HF0 := Lib.hid (show Fr Nob w W0 by rw [← hW0]; exact (((Fr.refl _ _).alloc _).alloc _).alloc _)
  have HW0 := Lib.hid (show w.heap.size + 1 + 1 < W0.heap.size from HZ.out.lt)
  rw [hW0]
  clear hW0
  have xc := HX0.out.cell
  have xl := HX0.out.lt
  have yc := HY0.out.cell
  have yl := HY0.out.lt
  have rc := HZ.out.cell
  have rf := HZ.out.frozen
  have zl := HZ.out.lt
  have HN0 := Lib.hid (show W0.heap.size ≤ W0.drew.heap.size from Nat.le_refl _)
  have HFD := Lib.hid (show Fr Nob w W0.drew from HF0.out.drew)
  have HZD := Lib.hid (show Blk W0.drew (w.heap.size + 1 + 1) 28 zarr from HZ.out.drew)
  have HSD := Lib.hid (show FoSlP (QB p W0.heap.size W0.drew) W0.drew A c ks from (HS.out.fr HFD.out).toQ)
  have xcd : ∀ i, W0.drew.cell? ⟨w.heap.size, i, none⟩ = #[Value.int .i64 op, .string nm, .int .i64 cm, .int .i64 va, .int .i64 lo, .int .i64 hi, .slice A ks.len c][i]? := HX0.out.drew.cell
  have HTD := Lib.hid (show FoSlP (QB p W0.heap.size W0.drew) W0.drew B d js from (HT.out.fr HFD.out).toQ)
  have ycd : ∀ i, W0.drew.cell? ⟨(w.heap.size + 1), i, none⟩ = #[Value.int .i64 op2, .string nm2, .int .i64 cm2, .int .i64 va2, .int .i64 lo2, .int .i64 hi2, .slice B js.len d][i]? := HY0.out.drew.cell
  have HBD := Lib.hid (show Bxs W0.drew _ _ _ _ _ _ _ _ _ from ⟨HX0.out.drew, HY0.out.drew, HX0.out.drew⟩)
  go_region_with (first
    | ((go_at_call 167); (with_reducible refine (q_not HN0.out op2 nm2 cm2 va2 lo2 hi2 B d js sy HSY.out HTD.out HY.out).mono ?_); rintro e w2 ⟨o2, n2, m2, v2, l2, i2, A2, c2, k2, rfl, he2, hs2, hf2⟩; have HE2 := Lib.hid he2; have HS2 := Lib.hid hs2; have HF2 := Lib.hid (HFD.out.call hf2 (fun _ h _ => h)); have HZ2 := Lib.hid (HZD.out.fr hf2 (fun e => e)); have rc2 := HZ2.out.cell; have rf2 := HZ2.out.frozen; have zl2 := HZ2.out.lt; have HN2 := Lib.hid (Nat.le_trans HN0.out hf2.size); have HG2 := Lib.hid hf2; have HB2 := Lib.hid (HBD.out.all hf2); have bx2 := HB2.out.x; have by2 := HB2.out.y; have bm2 := HB2.out.m; clear he2 hs2 hf2)
    | ((go_at_call 168); (with_reducible refine (q_and HN2.out op nm cm va lo hi A c ks sx HSX.out (HSD.out.frQ HG2.out) o2 n2 m2 v2 l2 i2 A2 c2 k2 _ HE2.out HS2.out HZS.out).mono ?_); rintro e w3 ⟨o3, n3, m3, v3, l3, i3, A3, c3, k3, rfl, he3, hs3, hf3⟩; have HE3 := Lib.hid he3; have HS3 := Lib.hid hs3; have HF3 := Lib.hid (HF2.out.call hf3 (fun _ h _ => h)); have HZ3 := Lib.hid (HZ2.out.fr hf3 (fun e => e)); have rc3 := HZ3.out.cell; have rf3 := HZ3.out.frozen; have zl3 := HZ3.out.lt; have HN3 := Lib.hid (Nat.le_trans HN2.out hf3.size); have HG3 := Lib.hid hf3; have HB3 := Lib.hid (HB2.out.all hf3); have bx3 := HB3.out.x; have by3 := HB3.out.y; have bm3 := HB3.out.m; clear he3 hs3 hf3)
    | ((go_at_call 167); (with_reducible refine (q_not HN3.out o3 n3 m3 v3 l3 i3 A3 c3 k3 _ HE3.out HS3.out HC.out).mono ?_); rintro e w4 ⟨o4, n4, m4, v4, l4, i4, A4, c4, k4, rfl, he4, hs4, hf4⟩; have HE4 := Lib.hid he4; have HS4 := Lib.hid hs4; have HF4 := Lib.hid (HF3.out.call hf4 (fun _ h _ => h)); have HZ4 := Lib.hid (HZ3.out.fr hf4 (fun e => e)); have rc4 := HZ4.out.cell; have rf4 := HZ4.out.frozen; have zl4 := HZ4.out.lt; have HN4 := Lib.hid (Nat.le_trans HN3.out hf4.size); have HG4 := Lib.hid hf4; have HB4 := Lib.hid (HB3.out.all hf4); have bx4 := HB4.out.x; have by4 := HB4.out.y; have bm4 := HB4.out.m; clear he4 hs4 hf4)
    | fail)
  all_goals
    have HB7 := Lib.hid (set7_blk HZ4.out (.int .i64 o4) (.string n4) (.int .i64 m4) (.int .i64 v4) (.int .i64 l4) (.int .i64 i4) (.slice A4 k4.len c4))
    have HF7 := Lib.hid (set7_fr w4 (w.heap.size + 1 + 1) (.int .i64 o4) (.string n4) (.int .i64 m4) (.int .i64 v4) (.int .i64 l4) (.int .i64 i4) (.slice A4 k4.len c4))
    change Exit.then _ _ _ _ (set7 w4 (w.heap.size + 1 + 1) (.int .i64 o4) (.string n4) (.int .i64 m4) (.int .i64 v4) (.int .i64 l4) (.int .i64 i4) (.slice A4 k4.len c4))
    generalize set7 w4 (w.heap.size + 1 + 1) (.int .i64 o4) (.string n4) (.int .i64 m4) (.int .i64 v4) (.int .i64 l4) (.int .i64 i4) (.slice A4 k4.len c4) = W7 at *
    have rc7 := HB7.out.cell
    go_wp2_with fail
    refine bodyPost_ret (v := .agg #[.int .i64 o4, .string n4, .int .i64 m4, .int .i64 v4, .int .i64 l4, .int .i64 i4, .slice A4 k4.len c4]) (by simp [results, Tryz.results170, go_sem, rc7]) rfl ?_
    exact FRes.putQ (x := ⟨o4, n4, m4, v4, l4, i4⟩) HE4.out HS4.out HP.out HF4.out (by omega) HW0.out HF7.out
end Go.Proofs.YtoegdmpmagbaiaaGreatDoor

/- norm's rows: closures of two, and of spans. -/
namespace Go.Proofs.YtoegdmpmagbaiaaGreatDoor
open Go.RowKit Go.Lib

set_option maxRecDepth 100000 in
set_option maxHeartbeats 16000000 in
theorem c_ev (w : World) (p : Nat → Prop) (hp : ∀ k, p k → k < w.heap.size) (x y : Nd) (A B : Option Addr) (c d : Nat) (ks js : Fo) (hs : FoSlP p w A c ks) (mb mn mc : Nat) (m : Nd) (MA : Option Addr) (hm : Blk w mb 194 #[.int .i64 m.op, .string m.name, .int .i64 m.cmp, .int .i64 m.val, .int .i64 m.lo, .int .i64 m.hi, .slice MA mn mc]) :
    Calls Tryz.prog 172 #[fval x A ks.len c, fval y B js.len d, .pointer (some ⟨mb, 0, none⟩)] w (FRes w p (evS m.lo m.hi (x, ks.tr))) := by
  have HS := Lib.hid hs
  have HP := Lib.hid hp
  obtain ⟨sr, hsr⟩ : ∃ sr, sr = evS m.lo m.hi (x, ks.tr) := ⟨_, rfl⟩
  have HEV := Lib.hid (fun W (hf : Fr Nob w W) => n_ev W p (fun k hk => Nat.lt_of_lt_of_le (hp k hk) hf.size) m x MA A mn mc c ks (hs.fr hf))
  rw [← hsr] at HEV ⊢
  clear hsr hs hp
  have HM := Lib.hid hm
  obtain ⟨mop, mnm, mcm, mva, mlo, mhi⟩ := m
  dsimp only at *
  clear hm
  obtain ⟨op, nm, cm, va, lo, hi⟩ := x
  obtain ⟨op2, nm2, cm2, va2, lo2, hi2⟩ := y
  unfold fval at *
  go_enter Tryz.func172, Tryz.ntmps172
  go_upto_region 1 with fail
  obtain ⟨W0, hW0⟩ : ∃ W0, ((w.alloc (.cells #[.int .i64 op, .string nm, .int .i64 cm, .int .i64 va, .int .i64 lo, .int .i64 hi, .slice A ks.len c] 28)).alloc (.cells #[.int .i64 op2, .string nm2, .int .i64 cm2, .int .i64 va2, .int .i64 lo2, .int .i64 hi2, .slice B js.len d] 28)).alloc (.cells zarr 28) = W0 := ⟨_, rfl⟩
  have HX0 := Lib.hid (show Blk W0 w.heap.size 28 #[.int .i64 op, .string nm, .int .i64 cm, .int .i64 va, .int .i64 lo, .int .i64 hi, .slice A ks.len c] by rw [← hW0]; exact ((Blk.new _ _ _).alloc _).alloc _)
  have HY0 := Lib.hid (show Blk W0 (w.heap.size + 1) 28 #[.int .i64 op2, .string nm2, .int .i64 cm2, .int .i64 va2, .int .i64 lo2, .int .i64 hi2, .slice B js.len d] by rw [← hW0]; exact (Blk.new_eq (by simp)).alloc _)
  have HZ := Lib.hid (show Blk W0 (w.heap.size + 1 + 1) 28 zarr by rw [← hW0]; exact Blk.new_eq (by simp))
  have HF0 := Lib.hid (show Fr Nob w W0 by rw [← hW0]; exact (((Fr.refl _ _).alloc _).alloc _).alloc _)
  have HW0 := Lib.hid (show w.heap.size + 1 + 1 < W0.heap.size from HZ.out.lt)
  rw [hW0]
  clear hW0
  have xc := HX0.out.cell
  have xl := HX0.out.lt
  have yc := HY0.out.cell
  have yl := HY0.out.lt
  have rc := HZ.out.cell
  have rf := HZ.out.frozen
  have zl := HZ.out.lt
  have HM0 := Lib.hid (HM.out.fr HF0.out (fun e => e))
  have mc_ := HM0.out.cell
  have ml_ := HM0.out.lt
  go_wp2_with (first
    | ((go_at_call 173); (with_reducible refine (HEV.out W0 HF0.out).mono ?_); rintro e w2 ⟨o1, n1, m1, v1, l1, i1, A1, c1, k1, rfl, he, hs1, hf1⟩; have HE := Lib.hid he; have HS1 := Lib.hid hs1; have HFR := Lib.hid hf1; have HZ2 := Lib.hid (HZ.out.fr hf1 (fun e => e)); clear he hs1 hf1)
    | (refine wpList_stBox rfl rfl (by rfl) (by rfl) (by exact infoF) (by rfl) (by first | exact HZ2.out.alloc _ | exact HZ2.out) (by rfl) ?_; intro W7 hb7 hf7; have HB7 := Lib.hid hb7; have HF7 := Lib.hid hf7; have rc7 := hb7.cell; clear hb7 hf7)
    | fail)
  refine bodyPost_ret (v := .agg #[.int .i64 o1, .string n1, .int .i64 m1, .int .i64 v1, .int .i64 l1, .int .i64 i1, .slice A1 k1.len c1]) (by simp [results, Tryz.results172, go_sem, rc7]) rfl ?_
  exact FRes.put (x := ⟨o1, n1, m1, v1, l1, i1⟩) HE.out HS1.out (fun k hk _ => hq_call HP.out (by omega) HW0.out k hk) (HF0.out.call HFR.out (fun _ h _ => h)) (by omega) HF7.out
set_option maxRecDepth 100000 in
set_option maxHeartbeats 8000000 in
theorem c_self (w : World) (p : Nat → Prop) (m x y : Nd) (MA A B : Option Addr) (mn mc n c n2 d : Nat) :
    Calls Tryz.prog 165 #[fval m MA mn mc, fval x A n c, fval y B n2 d] w (FRes w p (⟨m.op, m.name, m.cmp, m.val, 0, 0⟩, .nil)) := by
  obtain ⟨mop, mnm, mcm, mva, mlo, mhi⟩ := m
  unfold fval
  dsimp only
  go_enter Tryz.func165, Tryz.ntmps165
  go_wp2_with fail
  refine bodyPost_ret (v := .agg #[.int .i64 mop, .string mnm, .int .i64 mcm, .int .i64 mva, .int .i64 0, .int .i64 0, .slice none 0 0]) (by simp [results, Tryz.results165, go_sem]) rfl ?_
  exact ⟨mop, mnm, mcm, mva, 0, 0, none, 0, .nil, rfl, rfl, FoSlP.nil _ _, ((((Fr.refl _ _).alloc _).alloc _).alloc _).alloc _⟩
set_option maxRecDepth 100000 in
set_option maxHeartbeats 16000000 in
theorem c_al (w : World) (p : Nat → Prop) (hp : ∀ k, p k → k < w.heap.size) (x y : Nd) (A B : Option Addr) (c d : Nat) (ks js : Fo) (hs : FoSlP p w A c ks) (hx : coreS (x, ks.tr)) (mb mn mc : Nat) (m : Nd) (MA : Option Addr) (hm : Blk w mb 194 #[.int .i64 m.op, .string m.name, .int .i64 m.cmp, .int .i64 m.val, .int .i64 m.lo, .int .i64 m.hi, .slice MA mn mc]) :
    Calls Tryz.prog 174 #[fval x A ks.len c, fval y B js.len d, .pointer (some ⟨mb, 0, none⟩)] w (FRes w p (notS (evS m.lo m.hi (notS (x, ks.tr))))) := by
  have HS := Lib.hid hs
  have HP := Lib.hid hp
  have HX := Lib.hid hx
  have HC := Lib.hid (core_ev (lo := m.lo) (hi := m.hi) (core_not hx))
  obtain ⟨sx, hsx⟩ : ∃ sx, sx = (x, ks.tr) := ⟨_, rfl⟩
  rw [← hsx] at HC HX ⊢
  have HSX := Lib.hid hsx.symm
  clear hs hp hx hsx
  have HM := Lib.hid hm
  obtain ⟨mop, mnm, mcm, mva, mlo, mhi⟩ := m
  dsimp only at *
  clear hm
  obtain ⟨op, nm, cm, va, lo, hi⟩ := x
  obtain ⟨op2, nm2, cm2, va2, lo2, hi2⟩ := y
  unfold fval at *
  go_enter Tryz.func174, Tryz.ntmps174
  go_upto_region 1 with fail
  obtain ⟨W0, hW0⟩ : ∃ W0, ((w.alloc (.cells #[.int .i64 op, .string nm, .int .i64 cm, .int .i64 va, .int .i64 lo, .int .i64 hi, .slice A ks.len c] 28)).alloc (.cells #[.int .i64 op2, .string nm2, .int .i64 cm2, .int .i64 va2, .int .i64 lo2, .int .i64 hi2, .slice B js.len d] 28)).alloc (.cells zarr 28) = W0 := ⟨_, rfl⟩
  have HX0 := Lib.hid (show Blk W0 w.heap.size 28 #[.int .i64 op, .string nm, .int .i64 cm, .int .i64 va, .int .i64 lo, .int .i64 hi, .slice A ks.len c] by rw [← hW0]; exact ((Blk.new _ _ _).alloc _).alloc _)
  have HY0 := Lib.hid (show Blk W0 (w.heap.size + 1) 28 #[.int .i64 op2, .string nm2, .int .i64 cm2, .int .i64 va2, .int .i64 lo2, .int .i64 hi2, .slice B js.len d] by rw [← hW0]; exact (Blk.new_eq (by simp)).alloc _)
  have HZ := Lib.hid (show Blk W0 (w.heap.size + 1 + 1) 28 zarr by rw [← hW0]; exact Blk.new_eq (by simp))
  have HF0 := Lib.hid (show Fr Nob w W0 by rw [← hW0]; exact (((Fr.refl _ _).alloc _).alloc _).alloc _)
  have HW0 := Lib.hid (show w.heap.size + 1 + 1 < W0.heap.size from HZ.out.lt)
  rw [hW0]
  clear hW0
  have xc := HX0.out.cell
  have xl := HX0.out.lt
  have yc := HY0.out.cell
  have yl := HY0.out.lt
  have rc := HZ.out.cell
  have rf := HZ.out.frozen
  have zl := HZ.out.lt
  have HM0 := Lib.hid (HM.out.fr HF0.out (fun e => e))
  have mc_ := HM0.out.cell
  have ml_ := HM0.out.lt
  have HN0 := Lib.hid (show W0.heap.size ≤ W0.drew.heap.size from Nat.le_refl _)
  have HFD := Lib.hid (show Fr Nob w W0.drew from HF0.out.drew)
  have HZD := Lib.hid (show Blk W0.drew (w.heap.size + 1 + 1) 28 zarr from HZ.out.drew)
  have HSD := Lib.hid (show FoSlP (QB p W0.heap.size W0.drew) W0.drew A c ks from (HS.out.fr HFD.out).toQ)
  have xcd : ∀ i, W0.drew.cell? ⟨w.heap.size, i, none⟩ = #[Value.int .i64 op, .string nm, .int .i64 cm, .int .i64 va, .int .i64 lo, .int .i64 hi, .slice A ks.len c][i]? := HX0.out.drew.cell
  have HBD := Lib.hid (show Bxs W0.drew _ _ _ _ _ _ _ _ _ from ⟨HX0.out.drew, HY0.out.drew, HM0.out.drew⟩)
  have mcd := HM0.out.drew.cell
  go_region_with (first
    | ((go_at_call 167); (with_reducible refine (q_not HN0.out op nm cm va lo hi A c ks sx HSX.out HSD.out HX.out).mono ?_); rintro e w2 ⟨o2, n2, m2, v2, l2, i2, A2, c2, k2, rfl, he2, hs2, hf2⟩; have HE2 := Lib.hid he2; have HS2 := Lib.hid hs2; have HF2 := Lib.hid (HFD.out.call hf2 (fun _ h _ => h)); have HZ2 := Lib.hid (HZD.out.fr hf2 (fun e => e)); have rc2 := HZ2.out.cell; have rf2 := HZ2.out.frozen; have zl2 := HZ2.out.lt; have HN2 := Lib.hid (Nat.le_trans HN0.out hf2.size); have HG2 := Lib.hid hf2; have HB2 := Lib.hid (HBD.out.all hf2); have bx2 := HB2.out.x; have by2 := HB2.out.y; have bm2 := HB2.out.m; clear he2 hs2 hf2)
    | ((go_at_call 173); (with_reducible refine (q_ev HN2.out mop mnm mcm mva mlo mhi MA mn mc o2 n2 m2 v2 l2 i2 A2 c2 k2 _ HE2.out HS2.out).mono ?_); rintro e w3 ⟨o3, n3, m3, v3, l3, i3, A3, c3, k3, rfl, he3, hs3, hf3⟩; have HE3 := Lib.hid he3; have HS3 := Lib.hid hs3; have HF3 := Lib.hid (HF2.out.call hf3 (fun _ h _ => h)); have HZ3 := Lib.hid (HZ2.out.fr hf3 (fun e => e)); have rc3 := HZ3.out.cell; have rf3 := HZ3.out.frozen; have zl3 := HZ3.out.lt; have HN3 := Lib.hid (Nat.le_trans HN2.out hf3.size); have HG3 := Lib.hid hf3; have HB3 := Lib.hid (HB2.out.all hf3); have bx3 := HB3.out.x; have by3 := HB3.out.y; have bm3 := HB3.out.m; clear he3 hs3 hf3)
    | ((go_at_call 167); (with_reducible refine (q_not HN3.out o3 n3 m3 v3 l3 i3 A3 c3 k3 _ HE3.out HS3.out HC.out).mono ?_); rintro e w4 ⟨o4, n4, m4, v4, l4, i4, A4, c4, k4, rfl, he4, hs4, hf4⟩; have HE4 := Lib.hid he4; have HS4 := Lib.hid hs4; have HF4 := Lib.hid (HF3.out.call hf4 (fun _ h _ => h)); have HZ4 := Lib.hid (HZ3.out.fr hf4 (fun e => e)); have rc4 := HZ4.out.cell; have rf4 := HZ4.out.frozen; have zl4 := HZ4.out.lt; have HN4 := Lib.hid (Nat.le_trans HN3.out hf4.size); have HG4 := Lib.hid hf4; have HB4 := Lib.hid (HB3.out.all hf4); have bx4 := HB4.out.x; have by4 := HB4.out.y; have bm4 := HB4.out.m; clear he4 hs4 hf4)
    | fail)
  all_goals
    have HB7 := Lib.hid (set7_blk HZ4.out (.int .i64 o4) (.string n4) (.int .i64 m4) (.int .i64 v4) (.int .i64 l4) (.int .i64 i4) (.slice A4 k4.len c4))
    have HF7 := Lib.hid (set7_fr w4 (w.heap.size + 1 + 1) (.int .i64 o4) (.string n4) (.int .i64 m4) (.int .i64 v4) (.int .i64 l4) (.int .i64 i4) (.slice A4 k4.len c4))
    change Exit.then _ _ _ _ (set7 w4 (w.heap.size + 1 + 1) (.int .i64 o4) (.string n4) (.int .i64 m4) (.int .i64 v4) (.int .i64 l4) (.int .i64 i4) (.slice A4 k4.len c4))
    generalize set7 w4 (w.heap.size + 1 + 1) (.int .i64 o4) (.string n4) (.int .i64 m4) (.int .i64 v4) (.int .i64 l4) (.int .i64 i4) (.slice A4 k4.len c4) = W7 at *
    have rc7 := HB7.out.cell
    go_wp2_with fail
    refine bodyPost_ret (v := .agg #[.int .i64 o4, .string n4, .int .i64 m4, .int .i64 v4, .int .i64 l4, .int .i64 i4, .slice A4 k4.len c4]) (by simp [results, Tryz.results174, go_sem, rc7]) rfl ?_
    exact FRes.putQ (x := ⟨o4, n4, m4, v4, l4, i4⟩) HE4.out HS4.out HP.out HF4.out (by omega) HW0.out HF7.out
set_option maxRecDepth 100000 in
set_option maxHeartbeats 16000000 in
theorem c_or (w : World) (p : Nat → Prop) (hp : ∀ k, p k → k < w.heap.size) (x y : Nd) (A B : Option Addr) (c d : Nat) (ks js : Fo) (hs : FoSlP p w A c ks) (ht : FoSlP p w B d js) (hx : coreS (x, ks.tr)) (hy : coreS (y, js.tr)) (hz : szS (y, js.tr) ≤ 90000) :
    Calls Tryz.prog 169 #[fval x A ks.len c, fval y B js.len d] w (FRes w p (notS (andS (notS (x, ks.tr)) (notS (y, js.tr))))) := by
  have HS := Lib.hid hs
  have HP := Lib.hid hp
  have HT := Lib.hid ht
  have HX := Lib.hid hx
  have HY := Lib.hid hy
  have HC := Lib.hid (core_and (core_not hx) (core_not hy))
  have HZS := Lib.hid (show szS (notS (y, js.tr)) ≤ 100000 by have := sz_not hy; omega)
  obtain ⟨sx, hsx⟩ : ∃ sx, sx = (x, ks.tr) := ⟨_, rfl⟩
  obtain ⟨sy, hsy⟩ : ∃ sy, sy = (y, js.tr) := ⟨_, rfl⟩
  rw [← hsx] at HC HX ⊢
  rw [← hsy] at HC HZS HY ⊢
  have HSX := Lib.hid hsx.symm
  have HSY := Lib.hid hsy.symm
  clear hs ht hp hx hy hz hsx hsy
  obtain ⟨op, nm, cm, va, lo, hi⟩ := x
  obtain ⟨op2, nm2, cm2, va2, lo2, hi2⟩ := y
  unfold fval at *
  go_enter Tryz.func169, Tryz.ntmps169
  go_upto_region 1 with fail
  obtain ⟨W0, hW0⟩ : ∃ W0, ((w.alloc (.cells #[.int .i64 op, .string nm, .int .i64 cm, .int .i64 va, .int .i64 lo, .int .i64 hi, .slice A ks.len c] 28)).alloc (.cells #[.int .i64 op2, .string nm2, .int .i64 cm2, .int .i64 va2, .int .i64 lo2, .int .i64 hi2, .slice B js.len d] 28)).alloc (.cells zarr 28) = W0 := ⟨_, rfl⟩
  have HX0 := Lib.hid (show Blk W0 w.heap.size 28 #[.int .i64 op, .string nm, .int .i64 cm, .int .i64 va, .int .i64 lo, .int .i64 hi, .slice A ks.len c] by rw [← hW0]; exact ((Blk.new _ _ _).alloc _).alloc _)
  have HY0 := Lib.hid (show Blk W0 (w.heap.size + 1) 28 #[.int .i64 op2, .string nm2, .int .i64 cm2, .int .i64 va2, .int .i64 lo2, .int .i64 hi2, .slice B js.len d] by rw [← hW0]; exact (Blk.new_eq (by simp)).alloc _)
  have HZ := Lib.hid (show Blk W0 (w.heap.size + 1 + 1) 28 zarr by rw [← hW0]; exact Blk.new_eq (by simp))
  have HF0 := Lib.hid (show Fr Nob w W0 by rw [← hW0]; exact (((Fr.refl _ _).alloc _).alloc _).alloc _)
  have HW0 := Lib.hid (show w.heap.size + 1 + 1 < W0.heap.size from HZ.out.lt)
  rw [hW0]
  clear hW0
  have xc := HX0.out.cell
  have xl := HX0.out.lt
  have yc := HY0.out.cell
  have yl := HY0.out.lt
  have rc := HZ.out.cell
  have rf := HZ.out.frozen
  have zl := HZ.out.lt
  have HN0 := Lib.hid (show W0.heap.size ≤ W0.drew.heap.size from Nat.le_refl _)
  have HFD := Lib.hid (show Fr Nob w W0.drew from HF0.out.drew)
  have HZD := Lib.hid (show Blk W0.drew (w.heap.size + 1 + 1) 28 zarr from HZ.out.drew)
  have HSD := Lib.hid (show FoSlP (QB p W0.heap.size W0.drew) W0.drew A c ks from (HS.out.fr HFD.out).toQ)
  have xcd : ∀ i, W0.drew.cell? ⟨w.heap.size, i, none⟩ = #[Value.int .i64 op, .string nm, .int .i64 cm, .int .i64 va, .int .i64 lo, .int .i64 hi, .slice A ks.len c][i]? := HX0.out.drew.cell
  have HTD := Lib.hid (show FoSlP (QB p W0.heap.size W0.drew) W0.drew B d js from (HT.out.fr HFD.out).toQ)
  have ycd : ∀ i, W0.drew.cell? ⟨(w.heap.size + 1), i, none⟩ = #[Value.int .i64 op2, .string nm2, .int .i64 cm2, .int .i64 va2, .int .i64 lo2, .int .i64 hi2, .slice B js.len d][i]? := HY0.out.drew.cell
  have HBD := Lib.hid (show Bxs W0.drew _ _ _ _ _ _ _ _ _ from ⟨HX0.out.drew, HY0.out.drew, HX0.out.drew⟩)
  go_region_with (first
    | ((go_at_call 167); (with_reducible refine (q_not HN0.out op nm cm va lo hi A c ks sx HSX.out HSD.out HX.out).mono ?_); rintro e w2 ⟨o2, n2, m2, v2, l2, i2, A2, c2, k2, rfl, he2, hs2, hf2⟩; have HE2 := Lib.hid he2; have HS2 := Lib.hid hs2; have HF2 := Lib.hid (HFD.out.call hf2 (fun _ h _ => h)); have HZ2 := Lib.hid (HZD.out.fr hf2 (fun e => e)); have rc2 := HZ2.out.cell; have rf2 := HZ2.out.frozen; have zl2 := HZ2.out.lt; have HN2 := Lib.hid (Nat.le_trans HN0.out hf2.size); have HG2 := Lib.hid hf2; have HB2 := Lib.hid (HBD.out.all hf2); have bx2 := HB2.out.x; have by2 := HB2.out.y; have bm2 := HB2.out.m; clear he2 hs2 hf2)
    | ((go_at_call 167); (with_reducible refine (q_not HN0.out op2 nm2 cm2 va2 lo2 hi2 B d js sy HSY.out HTD.out HY.out).mono ?_); rintro e w3 ⟨o3, n3, m3, v3, l3, i3, A3, c3, k3, rfl, he3, hs3, hf3⟩; have HE3 := Lib.hid he3; have HS3 := Lib.hid hs3; have HF3 := Lib.hid (HFD.out.call hf3 (fun _ h _ => h)); have HZ3 := Lib.hid (HZD.out.fr hf3 (fun e => e)); have rc3 := HZ3.out.cell; have rf3 := HZ3.out.frozen; have zl3 := HZ3.out.lt; have HN3 := Lib.hid (Nat.le_trans HN0.out hf3.size); have HG3 := Lib.hid hf3; have HB3 := Lib.hid (HBD.out.all hf3); have bx3 := HB3.out.x; have by3 := HB3.out.y; have bm3 := HB3.out.m; clear he3 hs3 hf3)
    | ((go_at_call 167); (with_reducible refine (q_not HN3.out op nm cm va lo hi A c ks sx HSX.out (HSD.out.frQ HG3.out) HX.out).mono ?_); rintro e w2 ⟨o2, n2, m2, v2, l2, i2, A2, c2, k2, rfl, he2, hs2, hf2⟩; have HE2 := Lib.hid he2; have HS2 := Lib.hid hs2; have HF2 := Lib.hid (HF3.out.call hf2 (fun _ h _ => h)); have HZ2 := Lib.hid (HZ3.out.fr hf2 (fun e => e)); have rc2 := HZ2.out.cell; have rf2 := HZ2.out.frozen; have zl2 := HZ2.out.lt; have HN2 := Lib.hid (Nat.le_trans HN3.out hf2.size); have HG2 := Lib.hid hf2; have HB2 := Lib.hid (HB3.out.all hf2); have bx2 := HB2.out.x; have by2 := HB2.out.y; have bm2 := HB2.out.m; clear he2 hs2 hf2)
    | ((go_at_call 167); (with_reducible refine (q_not HN2.out op2 nm2 cm2 va2 lo2 hi2 B d js sy HSY.out (HTD.out.frQ HG2.out) HY.out).mono ?_); rintro e w3 ⟨o3, n3, m3, v3, l3, i3, A3, c3, k3, rfl, he3, hs3, hf3⟩; have HE3 := Lib.hid he3; have HS3 := Lib.hid hs3; have HF3 := Lib.hid (HF2.out.call hf3 (fun _ h _ => h)); have HZ3 := Lib.hid (HZ2.out.fr hf3 (fun e => e)); have rc3 := HZ3.out.cell; have rf3 := HZ3.out.frozen; have zl3 := HZ3.out.lt; have HN3 := Lib.hid (Nat.le_trans HN2.out hf3.size); have HG3 := Lib.hid hf3; have HB3 := Lib.hid (HB2.out.all hf3); have bx3 := HB3.out.x; have by3 := HB3.out.y; have bm3 := HB3.out.m; clear he3 hs3 hf3)
    | ((go_at_call 168); (with_reducible refine (q_and HN3.out o2 n2 m2 v2 l2 i2 A2 c2 k2 _ HE2.out (HS2.out.frQ HG3.out) o3 n3 m3 v3 l3 i3 A3 c3 k3 _ HE3.out HS3.out HZS.out).mono ?_); rintro e w4 ⟨o4, n4, m4, v4, l4, i4, A4, c4, k4, rfl, he4, hs4, hf4⟩; have HE4 := Lib.hid he4; have HS4 := Lib.hid hs4; have HF4 := Lib.hid (HF3.out.call hf4 (fun _ h _ => h)); have HZ4 := Lib.hid (HZ3.out.fr hf4 (fun e => e)); have rc4 := HZ4.out.cell; have rf4 := HZ4.out.frozen; have zl4 := HZ4.out.lt; have HN4 := Lib.hid (Nat.le_trans HN3.out hf4.size); have HG4 := Lib.hid hf4; have HB4 := Lib.hid (HB3.out.all hf4); have bx4 := HB4.out.x; have by4 := HB4.out.y; have bm4 := HB4.out.m; clear he4 hs4 hf4)
    | ((go_at_call 168); (with_reducible refine (q_and HN2.out o2 n2 m2 v2 l2 i2 A2 c2 k2 _ HE2.out HS2.out o3 n3 m3 v3 l3 i3 A3 c3 k3 _ HE3.out (HS3.out.frQ HG2.out) HZS.out).mono ?_); rintro e w4 ⟨o4, n4, m4, v4, l4, i4, A4, c4, k4, rfl, he4, hs4, hf4⟩; have HE4 := Lib.hid he4; have HS4 := Lib.hid hs4; have HF4 := Lib.hid (HF2.out.call hf4 (fun _ h _ => h)); have HZ4 := Lib.hid (HZ2.out.fr hf4 (fun e => e)); have rc4 := HZ4.out.cell; have rf4 := HZ4.out.frozen; have zl4 := HZ4.out.lt; have HN4 := Lib.hid (Nat.le_trans HN2.out hf4.size); have HG4 := Lib.hid hf4; have HB4 := Lib.hid (HB2.out.all hf4); have bx4 := HB4.out.x; have by4 := HB4.out.y; have bm4 := HB4.out.m; clear he4 hs4 hf4)
    | ((go_at_call 167); (with_reducible refine (q_not HN4.out o4 n4 m4 v4 l4 i4 A4 c4 k4 _ HE4.out HS4.out HC.out).mono ?_); rintro e w5 ⟨o5, n5, m5, v5, l5, i5, A5, c5, k5, rfl, he5, hs5, hf5⟩; have HE5 := Lib.hid he5; have HS5 := Lib.hid hs5; have HF5 := Lib.hid (HF4.out.call hf5 (fun _ h _ => h)); have HZ5 := Lib.hid (HZ4.out.fr hf5 (fun e => e)); have rc5 := HZ5.out.cell; have rf5 := HZ5.out.frozen; have zl5 := HZ5.out.lt; have HN5 := Lib.hid (Nat.le_trans HN4.out hf5.size); have HG5 := Lib.hid hf5; have HB5 := Lib.hid (HB4.out.all hf5); have bx5 := HB5.out.x; have by5 := HB5.out.y; have bm5 := HB5.out.m; clear he5 hs5 hf5)
    | fail)
  all_goals
    have HB7 := Lib.hid (set7_blk HZ5.out (.int .i64 o5) (.string n5) (.int .i64 m5) (.int .i64 v5) (.int .i64 l5) (.int .i64 i5) (.slice A5 k5.len c5))
    have HF7 := Lib.hid (set7_fr w5 (w.heap.size + 1 + 1) (.int .i64 o5) (.string n5) (.int .i64 m5) (.int .i64 v5) (.int .i64 l5) (.int .i64 i5) (.slice A5 k5.len c5))
    change Exit.then _ _ _ _ (set7 w5 (w.heap.size + 1 + 1) (.int .i64 o5) (.string n5) (.int .i64 m5) (.int .i64 v5) (.int .i64 l5) (.int .i64 i5) (.slice A5 k5.len c5))
    generalize set7 w5 (w.heap.size + 1 + 1) (.int .i64 o5) (.string n5) (.int .i64 m5) (.int .i64 v5) (.int .i64 l5) (.int .i64 i5) (.slice A5 k5.len c5) = W7 at *
    have rc7 := HB7.out.cell
    go_wp2_with fail
    refine bodyPost_ret (v := .agg #[.int .i64 o5, .string n5, .int .i64 m5, .int .i64 v5, .int .i64 l5, .int .i64 i5, .slice A5 k5.len c5]) (by simp [results, Tryz.results169, go_sem, rc7]) rfl ?_
    exact FRes.putQ (x := ⟨o5, n5, m5, v5, l5, i5⟩) HE5.out HS5.out HP.out HF5.out (by omega) HW0.out HF7.out
end Go.Proofs.YtoegdmpmagbaiaaGreatDoor
