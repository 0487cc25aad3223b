/- norm's nodes: and, iff, ev, un. -/
import Derived.Test.YtoegdmpmagbaiaaGreatDoorKF
import Derived.Test.YtoegdmpmagbaiaaGreatDoorKA
namespace Go.Proofs.YtoegdmpmagbaiaaGreatDoor
open Go.RowKit Go.Lib

theorem infoF : (Tryz.prog.info? 28).map (·.size) = some 7 := by kernel_rfl
/-- A formula that was there is returned. -/
theorem FRes.same {p : Nat → Prop} {w w1 W7 : World} {g : Nat} {s : S1} {x : Nd} {A : Option Addr} {c : Nat} {ks : Fo} (he : s = (x, ks.tr)) (hs : FoSlP p w A c ks) (hp : ∀ k, p k → k < w.heap.size) (hf : Fr Nob w w1) (hg : w.heap.size ≤ g) (h7 : Fr (Only g) w1 W7) :
    FRes w p s (.returned (fval x A ks.len c)) W7 :=
  FRes.put he.symm (hs.fr hf) (fun k hk _ => ⟨.inl hk, by have := hp k hk; omega⟩) hf hg h7
/-- A node with one kid. -/
theorem FRes.lit1 {p : Nat → Prop} {w w1 W7 : World} {g t : Nat} {s : S1} {op lo hi : Int} {x : Nd} {A : Option Addr} {c : Nat} {ks : Fo} (he : s = mk1 op lo hi (x, ks.tr)) (hs : FoSlP p w A c ks) (hp : ∀ k, p k → k < w.heap.size) (hf : Fr Nob w w1) (hg : w.heap.size ≤ g) (hgl : g < w1.heap.size)
    (h7 : Fr (Only g) (w1.alloc (.cells #[.int .i64 x.op, .string x.name, .int .i64 x.cmp, .int .i64 x.val, .int .i64 x.lo, .int .i64 x.hi, .slice A ks.len c] t)) W7) :
    FRes w p s (.returned (.agg #[.int .i64 op, .string ⟨#[]⟩, .int .i64 0, .int .i64 0, .int .i64 lo, .int .i64 hi, .slice (some ⟨w1.heap.size, 0, none⟩) 1 1])) W7 := by
  have hsz := hf.size
  refine ⟨op, ⟨#[]⟩, 0, 0, lo, hi, some ⟨w1.heap.size, 0, none⟩, 1, .cons x A c ks .nil, rfl, he.symm, ?_, (hf.alloc _).call h7 (fun i e hlt => by have : i = g := e; omega)⟩
  have hb : Blk W7 w1.heap.size t (xarr x A ks.len c) := (Blk.new_eq rfl).fr h7 (fun e => by have : w1.heap.size = g := e; omega)
  refine FoSlP.one hb ?_ (.inr hsz)
  exact ((hs.fr (hf.alloc _)).keep fun k hk hlt => h7.block k hlt (fun e => by have : k = g := e; have := hp k hk; omega)).mono fun k hk => .inl hk
/-- A node with two kids. -/
theorem FRes.lit2 {p : Nat → Prop} {w w1 W7 : World} {g t : Nat} {s : S1} {op lo hi : Int} {x y : Nd} {A B : Option Addr} {c d : Nat} {ks js : Fo} (he : s = mk2 op lo hi (x, ks.tr) (y, js.tr)) (hs : FoSlP p w A c ks) (ht : FoSlP p w B d js) (hp : ∀ k, p k → k < w.heap.size) (hf : Fr Nob w w1) (hg : w.heap.size ≤ g) (hgl : g < w1.heap.size)
    (h7 : Fr (Only g) (w1.alloc (.cells #[.int .i64 x.op, .string x.name, .int .i64 x.cmp, .int .i64 x.val, .int .i64 x.lo, .int .i64 x.hi, .slice A ks.len c, .int .i64 y.op, .string y.name, .int .i64 y.cmp, .int .i64 y.val, .int .i64 y.lo, .int .i64 y.hi, .slice B js.len d] t)) W7) :
    FRes w p s (.returned (.agg #[.int .i64 op, .string ⟨#[]⟩, .int .i64 0, .int .i64 0, .int .i64 lo, .int .i64 hi, .slice (some ⟨w1.heap.size, 0, none⟩) 2 2])) W7 := by
  have hsz := hf.size
  refine ⟨op, ⟨#[]⟩, 0, 0, lo, hi, some ⟨w1.heap.size, 0, none⟩, 2, .cons x A c ks (.cons y B d js .nil), rfl, he.symm, ?_, (hf.alloc _).call h7 (fun i e hlt => by have : i = g := e; omega)⟩
  have hb : Blk W7 w1.heap.size t (xarr x A ks.len c ++ xarr y B js.len d) := (Blk.new_eq rfl).fr h7 (fun e => by have : w1.heap.size = g := e; omega)
  refine FoSlP.two hb ?_ ?_ (.inr hsz)
  · exact ((hs.fr (hf.alloc _)).keep fun k hk hlt => h7.block k hlt (fun e => by have : k = g := e; have := hp k hk; omega)).mono fun k hk => .inl hk
  · exact ((ht.fr (hf.alloc _)).keep fun k hk hlt => h7.block k hlt (fun e => by have : k = g := e; have := hp k hk; omega)).mono fun k hk => .inl hk
set_option maxRecDepth 100000 in
set_option maxHeartbeats 8000000 in
theorem n_and (w : World) (p : Nat → Prop) (hp : ∀ k, p k → k < w.heap.size) (x y : Nd) (A B : Option Addr) (c d : Nat) (ks js : Fo) (hs : FoSlP p w A c ks) (ht : FoSlP p w B d js) (hz : js.tr.size ≤ 100000) :
    Calls Tryz.prog 168 #[fval x A ks.len c, fval y B js.len d] w (FRes w p (andS (x, ks.tr) (y, js.tr))) := by
  have HS := Lib.hid hs
  have HT := Lib.hid ht
  have HP := Lib.hid hp
  have HN := Lib.hid (show andS (x, ks.tr) (y, js.tr) = if x.op = 2 ∨ y.op = 2 then mk0 2 else if x.op = 1 then (y, js.tr) else if y.op = 1 ∨ sameS (x, ks.tr) (y, js.tr) = true then (x, ks.tr) else mk2 5 0 0 (x, ks.tr) (y, js.tr) from rfl)
  have HSM := Lib.hid (fun W (hf : Fr Nob w W) => prg_Same W y x B A d c js ks (ht.fr hf).whole (hs.fr hf).whole hz)
  have HSY := Lib.hid (show same1 y js.tr x ks.tr = sameS (x, ks.tr) (y, js.tr) from by
    show sameS (y, js.tr) (x, ks.tr) = _
    exact Bool.eq_iff_iff.2 (by rw [sameS_iff, sameS_iff]; exact ⟨fun e => e.symm, fun e => e.symm⟩))
  rw [HSY.out] at HSM
  clear hs ht hp hz HSY
  generalize andS (x, ks.tr) (y, js.tr) = sr at *
  obtain ⟨op, nm, cm, va, lo, hi⟩ := x
  obtain ⟨op2, nm2, cm2, va2, lo2, hi2⟩ := y
  dsimp only at HN
  unfold fval at *
  go_enter Tryz.func168, Tryz.ntmps168
  go_upto_region 1 with fail
  obtain ⟨W0, hW0⟩ : ∃ W0, ((w.alloc (.cells #[.int .i64 op, .string nm, .int .i64 cm, .int .i64 va, .int .i64 lo, .int .i64 hi, .slice A ks.len c] 28)).alloc (.cells #[.int .i64 op2, .string nm2, .int .i64 cm2, .int .i64 va2, .int .i64 lo2, .int .i64 hi2, .slice B js.len d] 28)).alloc (.cells zarr 28) = W0 := ⟨_, rfl⟩
  have HX0 := Lib.hid (show Blk W0 w.heap.size 28 #[.int .i64 op, .string nm, .int .i64 cm, .int .i64 va, .int .i64 lo, .int .i64 hi, .slice A ks.len c] by rw [← hW0]; exact ((Blk.new _ _ _).alloc _).alloc _)
  have HY0 := Lib.hid (show Blk W0 (w.heap.size + 1) 28 #[.int .i64 op2, .string nm2, .int .i64 cm2, .int .i64 va2, .int .i64 lo2, .int .i64 hi2, .slice B js.len d] by rw [← hW0]; exact (Blk.new_eq (by simp)).alloc _)
  have HZ := Lib.hid (show Blk W0 (w.heap.size + 1 + 1) 28 zarr by rw [← hW0]; exact Blk.new_eq (by simp))
  have HF0 := Lib.hid (show Fr Nob w W0 by rw [← hW0]; exact (((Fr.refl _ _).alloc _).alloc _).alloc _)
  have HW0 := Lib.hid (show w.heap.size + 1 + 1 < W0.heap.size from HZ.out.lt)
  rw [hW0]
  clear hW0
  have xc := HX0.out.cell
  have xl := HX0.out.lt
  have yc := HY0.out.cell
  have yl := HY0.out.lt
  have rc := HZ.out.cell
  have rf := HZ.out.frozen
  have zl := HZ.out.lt
  by_cases h1 : op = 2
  · have HR := Lib.hid (show sr = mk0 2 from by rw [HN.out, if_pos (.inl h1)])
    clear HN HSM
    have hb1 : (op == 2) = true := by simpa using h1
    go_wp2_with (first
      | ((go_at_call 178); (with_reducible refine (n_const W0 p false).mono ?_); rintro e w2 ⟨o1, n1, m1, v1, l1, i1, A1, c1, k1, rfl, he, hs1, hf1⟩; have HE := Lib.hid he; have HS1 := Lib.hid hs1; have HFR := Lib.hid hf1; have HZ2 := Lib.hid (HZ.out.fr hf1 (fun e => e)); clear he hs1 hf1)
      | (refine wpList_stBox rfl rfl (by rfl) (by rfl) (by exact infoF) (by rfl) (by first | exact HZ2.out.alloc _ | exact HZ2.out) (by rfl) ?_; intro W7 hb7 hf7; have HB7 := Lib.hid hb7; have HF7 := Lib.hid hf7; have rc7 := hb7.cell; clear hb7 hf7)
      | fail)
    refine bodyPost_ret (v := .agg #[.int .i64 o1, .string n1, .int .i64 m1, .int .i64 v1, .int .i64 l1, .int .i64 i1, .slice A1 k1.len c1]) (by simp [results, Tryz.results168, go_sem, rc7]) rfl ?_
    exact FRes.put (x := ⟨o1, n1, m1, v1, l1, i1⟩) (HE.out.trans HR.out.symm) HS1.out (fun k hk _ => hq_call HP.out (by omega) HW0.out k hk) (HF0.out.call HFR.out (fun _ h _ => h)) (by omega) HF7.out
  have hb1 : (op == 2) = false := by simpa using h1
  by_cases h2 : op2 = 2
  · have HR := Lib.hid (show sr = mk0 2 from by rw [HN.out, if_pos (.inr h2)])
    clear HN HSM
    have hb2 : (op2 == 2) = true := by simpa using h2
    go_wp2_with (first
      | ((go_at_call 178); (with_reducible refine (n_const W0 p false).mono ?_); rintro e w2 ⟨o1, n1, m1, v1, l1, i1, A1, c1, k1, rfl, he, hs1, hf1⟩; have HE := Lib.hid he; have HS1 := Lib.hid hs1; have HFR := Lib.hid hf1; have HZ2 := Lib.hid (HZ.out.fr hf1 (fun e => e)); clear he hs1 hf1)
      | (refine wpList_stBox rfl rfl (by rfl) (by rfl) (by exact infoF) (by rfl) (by first | exact HZ2.out.alloc _ | exact HZ2.out) (by rfl) ?_; intro W7 hb7 hf7; have HB7 := Lib.hid hb7; have HF7 := Lib.hid hf7; have rc7 := hb7.cell; clear hb7 hf7)
      | fail)
    refine bodyPost_ret (v := .agg #[.int .i64 o1, .string n1, .int .i64 m1, .int .i64 v1, .int .i64 l1, .int .i64 i1, .slice A1 k1.len c1]) (by simp [results, Tryz.results168, go_sem, rc7]) rfl ?_
    exact FRes.put (x := ⟨o1, n1, m1, v1, l1, i1⟩) (HE.out.trans HR.out.symm) HS1.out (fun k hk _ => hq_call HP.out (by omega) HW0.out k hk) (HF0.out.call HFR.out (fun _ h _ => h)) (by omega) HF7.out
  have hb2 : (op2 == 2) = false := by simpa using h2
  have HN2 := Lib.hid (HN.out.trans (if_neg (by omega)))
  clear HN
  by_cases h3 : op = 1
  · have HR := Lib.hid (show sr = (⟨op2, nm2, cm2, va2, lo2, hi2⟩, js.tr) from by rw [HN2.out, if_pos h3])
    clear HN2 HSM
    go_wp2_with (first
      | (refine wpList_stBox rfl rfl (by rfl) (by rfl) (by exact infoF) (by rfl) (by first | exact HZ.out.alloc _ | exact HZ.out) (by rfl) ?_; intro W7 hb7 hf7; have HB7 := Lib.hid hb7; have HF7 := Lib.hid hf7; have rc7 := hb7.cell; clear hb7 hf7)
      | fail)
    refine bodyPost_ret (v := .agg #[.int .i64 op2, .string nm2, .int .i64 cm2, .int .i64 va2, .int .i64 lo2, .int .i64 hi2, .slice B js.len d]) (by simp [results, Tryz.results168, go_sem, rc7]) rfl ?_
    exact FRes.same (x := ⟨op2, nm2, cm2, va2, lo2, hi2⟩) HR.out HT.out HP.out HF0.out (by omega) HF7.out
  have HN3 := Lib.hid (HN2.out.trans (if_neg h3))
  clear HN2
  by_cases h4 : op2 = 1
  · have HR := Lib.hid (show sr = (⟨op, nm, cm, va, lo, hi⟩, ks.tr) from by rw [HN3.out, if_pos (.inl h4)])
    clear HN3 HSM
    go_wp2_with (first
      | (refine wpList_stBox rfl rfl (by rfl) (by rfl) (by exact infoF) (by rfl) (by first | exact HZ.out.alloc _ | exact HZ.out) (by rfl) ?_; intro W7 hb7 hf7; have HB7 := Lib.hid hb7; have HF7 := Lib.hid hf7; have rc7 := hb7.cell; clear hb7 hf7)
      | fail)
    refine bodyPost_ret (v := .agg #[.int .i64 op, .string nm, .int .i64 cm, .int .i64 va, .int .i64 lo, .int .i64 hi, .slice A ks.len c]) (by simp [results, Tryz.results168, go_sem, rc7]) rfl ?_
    exact FRes.same (x := ⟨op, nm, cm, va, lo, hi⟩) HR.out HS.out HP.out HF0.out (by omega) HF7.out
  have hb4 : (op2 == 1) = false := by simpa using h4
  cases hsm : sameS (⟨op, nm, cm, va, lo, hi⟩, ks.tr) (⟨op2, nm2, cm2, va2, lo2, hi2⟩, js.tr)
  · have HR := Lib.hid (show sr = mk2 5 0 0 (⟨op, nm, cm, va, lo, hi⟩, ks.tr) (⟨op2, nm2, cm2, va2, lo2, hi2⟩, js.tr) from by rw [HN3.out, if_neg (by rw [hsm]; simp; exact h4)])
    rw [hsm] at HSM
    clear HN3 hsm
    go_wp2_with (first
      | ((go_at_call 179); (with_reducible refine (HSM.out W0 HF0.out).mono ?_); rintro e w1 ⟨rfl, hf1⟩; replace HF0 := Lib.hid (HF0.out.call hf1 (fun _ h _ => h)); replace HZ := Lib.hid (HZ.out.fr hf1 (fun e => e)); replace HX0 := Lib.hid (HX0.out.fr hf1 (fun e => e)); replace HY0 := Lib.hid (HY0.out.fr hf1 (fun e => e)); replace HW0 := Lib.hid HZ.out.lt; replace rc := HZ.out.cell; replace rf := HZ.out.frozen; replace zl := HZ.out.lt; replace xc := HX0.out.cell; replace xl := HX0.out.lt; replace yc := HY0.out.cell; replace yl := HY0.out.lt; clear hf1)
      | (refine wpList_stBox rfl rfl (by rfl) (by rfl) (by exact infoF) (by rfl) (by first | exact HZ.out.alloc _ | exact HZ.out) (by rfl) ?_; intro W7 hb7 hf7; have HB7 := Lib.hid hb7; have HF7 := Lib.hid hf7; have rc7 := hb7.cell; clear hb7 hf7)
      | fail)
    refine bodyPost_ret (v := .agg #[.int .i64 5, .string ⟨#[]⟩, .int .i64 0, .int .i64 0, .int .i64 0, .int .i64 0, .slice (some ⟨w1.heap.size, 0, none⟩) 2 2]) (by simp [results, Tryz.results168, go_sem, rc7]) rfl ?_
    exact FRes.lit2 HR.out HS.out HT.out HP.out HF0.out (by omega) HW0.out HF7.out
  · have HR := Lib.hid (show sr = (⟨op, nm, cm, va, lo, hi⟩, ks.tr) from by rw [HN3.out, if_pos (.inr hsm)])
    rw [hsm] at HSM
    clear HN3 hsm
    go_wp2_with (first
      | ((go_at_call 179); (with_reducible refine (HSM.out W0 HF0.out).mono ?_); rintro e w1 ⟨rfl, hf1⟩; replace HF0 := Lib.hid (HF0.out.call hf1 (fun _ h _ => h)); replace HZ := Lib.hid (HZ.out.fr hf1 (fun e => e)); replace HX0 := Lib.hid (HX0.out.fr hf1 (fun e => e)); replace HY0 := Lib.hid (HY0.out.fr hf1 (fun e => e)); replace HW0 := Lib.hid HZ.out.lt; replace rc := HZ.out.cell; replace rf := HZ.out.frozen; replace zl := HZ.out.lt; replace xc := HX0.out.cell; replace xl := HX0.out.lt; replace yc := HY0.out.cell; replace yl := HY0.out.lt; clear hf1)
      | (refine wpList_stBox rfl rfl (by rfl) (by rfl) (by exact infoF) (by rfl) (by first | exact HZ.out.alloc _ | exact HZ.out) (by rfl) ?_; intro W7 hb7 hf7; have HB7 := Lib.hid hb7; have HF7 := Lib.hid hf7; have rc7 := hb7.cell; clear hb7 hf7)
      | fail)
    refine bodyPost_ret (v := .agg #[.int .i64 op, .string nm, .int .i64 cm, .int .i64 va, .int .i64 lo, .int .i64 hi, .slice A ks.len c]) (by simp [results, Tryz.results168, go_sem, rc7]) rfl ?_
    exact FRes.same (x := ⟨op, nm, cm, va, lo, hi⟩) HR.out HS.out HP.out HF0.out (by omega) HF7.out
end Go.Proofs.YtoegdmpmagbaiaaGreatDoor

/- norm's nodes: iff, ev, un. -/
namespace Go.Proofs.YtoegdmpmagbaiaaGreatDoor
open Go.RowKit Go.Lib

set_option maxRecDepth 100000 in
set_option maxHeartbeats 8000000 in
theorem n_iff (w : World) (p : Nat → Prop) (hp : ∀ k, p k → k < w.heap.size) (x y : Nd) (A B : Option Addr) (c d : Nat) (ks js : Fo) (hs : FoSlP p w A c ks) (ht : FoSlP p w B d js) (hx : coreS (x, ks.tr)) (hy : coreS (y, js.tr)) (hz : js.tr.size ≤ 100000) :
    Calls Tryz.prog 171 #[fval x A ks.len c, fval y B js.len d] w (FRes w p (iffS (x, ks.tr) (y, js.tr))) := by
  have HS := Lib.hid hs
  have HT := Lib.hid ht
  have HP := Lib.hid hp
  have HN := Lib.hid (show iffS (x, ks.tr) (y, js.tr) = if sameS (x, ks.tr) (y, js.tr) = true then mk0 1 else if x.op = 1 then (y, js.tr) else if y.op = 1 then (x, ks.tr) else if x.op = 2 then notS (y, js.tr) else if y.op = 2 then notS (x, ks.tr) else mk2 8 0 0 (x, ks.tr) (y, js.tr) from rfl)
  have HSM := Lib.hid (fun W (hf : Fr Nob w W) => prg_Same W y x B A d c js ks (ht.fr hf).whole (hs.fr hf).whole hz)
  have HNX := Lib.hid (fun W (hf : Fr Nob w W) => n_not W p (fun k hk => Nat.lt_of_lt_of_le (hp k hk) hf.size) x A c ks (hs.fr hf) hx)
  have HNY := Lib.hid (fun W (hf : Fr Nob w W) => n_not W p (fun k hk => Nat.lt_of_lt_of_le (hp k hk) hf.size) y B d js (ht.fr hf) hy)
  have HSY := Lib.hid (show same1 y js.tr x ks.tr = sameS (x, ks.tr) (y, js.tr) from by
    show sameS (y, js.tr) (x, ks.tr) = _
    exact Bool.eq_iff_iff.2 (by rw [sameS_iff, sameS_iff]; exact ⟨fun e => e.symm, fun e => e.symm⟩))
  rw [HSY.out] at HSM
  clear hs ht hp hz HSY hx hy
  generalize iffS (x, ks.tr) (y, js.tr) = sr at *
  obtain ⟨op, nm, cm, va, lo, hi⟩ := x
  obtain ⟨op2, nm2, cm2, va2, lo2, hi2⟩ := y
  dsimp only at HN
  unfold fval at *
  go_enter Tryz.func171, Tryz.ntmps171
  go_upto_region 1 with fail
  obtain ⟨W0, hW0⟩ : ∃ W0, ((w.alloc (.cells #[.int .i64 op, .string nm, .int .i64 cm, .int .i64 va, .int .i64 lo, .int .i64 hi, .slice A ks.len c] 28)).alloc (.cells #[.int .i64 op2, .string nm2, .int .i64 cm2, .int .i64 va2, .int .i64 lo2, .int .i64 hi2, .slice B js.len d] 28)).alloc (.cells zarr 28) = W0 := ⟨_, rfl⟩
  have HX0 := Lib.hid (show Blk W0 w.heap.size 28 #[.int .i64 op, .string nm, .int .i64 cm, .int .i64 va, .int .i64 lo, .int .i64 hi, .slice A ks.len c] by rw [← hW0]; exact ((Blk.new _ _ _).alloc _).alloc _)
  have HY0 := Lib.hid (show Blk W0 (w.heap.size + 1) 28 #[.int .i64 op2, .string nm2, .int .i64 cm2, .int .i64 va2, .int .i64 lo2, .int .i64 hi2, .slice B js.len d] by rw [← hW0]; exact (Blk.new_eq (by simp)).alloc _)
  have HZ := Lib.hid (show Blk W0 (w.heap.size + 1 + 1) 28 zarr by rw [← hW0]; exact Blk.new_eq (by simp))
  have HF0 := Lib.hid (show Fr Nob w W0 by rw [← hW0]; exact (((Fr.refl _ _).alloc _).alloc _).alloc _)
  have HW0 := Lib.hid (show w.heap.size + 1 + 1 < W0.heap.size from HZ.out.lt)
  rw [hW0]
  clear hW0
  have xc := HX0.out.cell
  have xl := HX0.out.lt
  have yc := HY0.out.cell
  have yl := HY0.out.lt
  have rc := HZ.out.cell
  have rf := HZ.out.frozen
  have zl := HZ.out.lt
  cases hsm : sameS (⟨op, nm, cm, va, lo, hi⟩, ks.tr) (⟨op2, nm2, cm2, va2, lo2, hi2⟩, js.tr)
  case true =>
    have HR := Lib.hid (show sr = mk0 1 from by rw [HN.out, if_pos hsm])
    rw [hsm] at HSM
    clear HN hsm HNX HNY
    go_wp2_with (first
      | ((go_at_call 179); (with_reducible refine (HSM.out W0 HF0.out).mono ?_); rintro e w1 ⟨rfl, hf1⟩; replace HF0 := Lib.hid (HF0.out.call hf1 (fun _ h _ => h)); replace HZ := Lib.hid (HZ.out.fr hf1 (fun e => e)); replace HX0 := Lib.hid (HX0.out.fr hf1 (fun e => e)); replace HY0 := Lib.hid (HY0.out.fr hf1 (fun e => e)); replace HW0 := Lib.hid HZ.out.lt; replace rc := HZ.out.cell; replace rf := HZ.out.frozen; replace zl := HZ.out.lt; replace xc := HX0.out.cell; replace xl := HX0.out.lt; replace yc := HY0.out.cell; replace yl := HY0.out.lt; clear hf1)
      | ((go_at_call 178); (with_reducible refine (n_const w1 p true).mono ?_); rintro e w2 ⟨o1, n1, m1, v1, l1, i1, A1, c1, k1, rfl, he, hs1, hf1⟩; have HE := Lib.hid he; have HS1 := Lib.hid hs1; have HFR := Lib.hid hf1; have HZ2 := Lib.hid (HZ.out.fr hf1 (fun e => e)); clear he hs1 hf1)
      | (refine wpList_stBox rfl rfl (by rfl) (by rfl) (by exact infoF) (by rfl) (by first | exact HZ2.out.alloc _ | exact HZ2.out) (by rfl) ?_; intro W7 hb7 hf7; have HB7 := Lib.hid hb7; have HF7 := Lib.hid hf7; have rc7 := hb7.cell; clear hb7 hf7)
      | fail)
    refine bodyPost_ret (v := .agg #[.int .i64 o1, .string n1, .int .i64 m1, .int .i64 v1, .int .i64 l1, .int .i64 i1, .slice A1 k1.len c1]) (by simp [results, Tryz.results171, go_sem, rc7]) rfl ?_
    exact FRes.put (x := ⟨o1, n1, m1, v1, l1, i1⟩) (HE.out.trans HR.out.symm) HS1.out (fun k hk _ => hq_call HP.out (by omega) HW0.out k hk) (HF0.out.call HFR.out (fun _ h _ => h)) (by omega) HF7.out
  have HN2 := Lib.hid (HN.out.trans (if_neg (by rw [hsm]; simp)))
  rw [hsm] at HSM
  clear HN hsm
  by_cases h3 : op = 1
  · have HR := Lib.hid (show sr = (⟨op2, nm2, cm2, va2, lo2, hi2⟩, js.tr) from by rw [HN2.out, if_pos h3])
    have hb : (op == 1) = true := by simpa using h3
    clear h3
    clear HN2 HNX HNY
    go_wp2_with (first
      | ((go_at_call 179); (with_reducible refine (HSM.out W0 HF0.out).mono ?_); rintro e w1 ⟨rfl, hf1⟩; replace HF0 := Lib.hid (HF0.out.call hf1 (fun _ h _ => h)); replace HZ := Lib.hid (HZ.out.fr hf1 (fun e => e)); replace HX0 := Lib.hid (HX0.out.fr hf1 (fun e => e)); replace HY0 := Lib.hid (HY0.out.fr hf1 (fun e => e)); replace HW0 := Lib.hid HZ.out.lt; replace rc := HZ.out.cell; replace rf := HZ.out.frozen; replace zl := HZ.out.lt; replace xc := HX0.out.cell; replace xl := HX0.out.lt; replace yc := HY0.out.cell; replace yl := HY0.out.lt; clear hf1)
      | (refine wpList_stBox rfl rfl (by rfl) (by rfl) (by exact infoF) (by rfl) (by first | exact HZ.out.alloc _ | exact HZ.out) (by rfl) ?_; intro W7 hb7 hf7; have HB7 := Lib.hid hb7; have HF7 := Lib.hid hf7; have rc7 := hb7.cell; clear hb7 hf7)
      | fail)
    refine bodyPost_ret (v := .agg #[.int .i64 op2, .string nm2, .int .i64 cm2, .int .i64 va2, .int .i64 lo2, .int .i64 hi2, .slice B js.len d]) (by simp [results, Tryz.results171, go_sem, rc7]) rfl ?_
    exact FRes.same (x := ⟨op2, nm2, cm2, va2, lo2, hi2⟩) HR.out HT.out HP.out HF0.out (by omega) HF7.out
  have HN3 := Lib.hid (HN2.out.trans (if_neg h3))
  clear HN2
  by_cases h4 : op2 = 1
  · have HR := Lib.hid (show sr = (⟨op, nm, cm, va, lo, hi⟩, ks.tr) from by rw [HN3.out, if_pos h4])
    have hb : (op2 == 1) = true := by simpa using h4
    clear h4
    clear HN3 HNX HNY
    go_wp2_with (first
      | ((go_at_call 179); (with_reducible refine (HSM.out W0 HF0.out).mono ?_); rintro e w1 ⟨rfl, hf1⟩; replace HF0 := Lib.hid (HF0.out.call hf1 (fun _ h _ => h)); replace HZ := Lib.hid (HZ.out.fr hf1 (fun e => e)); replace HX0 := Lib.hid (HX0.out.fr hf1 (fun e => e)); replace HY0 := Lib.hid (HY0.out.fr hf1 (fun e => e)); replace HW0 := Lib.hid HZ.out.lt; replace rc := HZ.out.cell; replace rf := HZ.out.frozen; replace zl := HZ.out.lt; replace xc := HX0.out.cell; replace xl := HX0.out.lt; replace yc := HY0.out.cell; replace yl := HY0.out.lt; clear hf1)
      | (refine wpList_stBox rfl rfl (by rfl) (by rfl) (by exact infoF) (by rfl) (by first | exact HZ.out.alloc _ | exact HZ.out) (by rfl) ?_; intro W7 hb7 hf7; have HB7 := Lib.hid hb7; have HF7 := Lib.hid hf7; have rc7 := hb7.cell; clear hb7 hf7)
      | fail)
    refine bodyPost_ret (v := .agg #[.int .i64 op, .string nm, .int .i64 cm, .int .i64 va, .int .i64 lo, .int .i64 hi, .slice A ks.len c]) (by simp [results, Tryz.results171, go_sem, rc7]) rfl ?_
    exact FRes.same (x := ⟨op, nm, cm, va, lo, hi⟩) HR.out HS.out HP.out HF0.out (by omega) HF7.out
  have HN4 := Lib.hid (HN3.out.trans (if_neg h4))
  clear HN3
  by_cases h5 : op = 2
  · have HR := Lib.hid (show sr = notS (⟨op2, nm2, cm2, va2, lo2, hi2⟩, js.tr) from by rw [HN4.out, if_pos h5])
    have hb : (op == 2) = true := by simpa using h5
    clear h5
    clear HN4 HNX
    go_wp2_with (first
      | ((go_at_call 179); (with_reducible refine (HSM.out W0 HF0.out).mono ?_); rintro e w1 ⟨rfl, hf1⟩; replace HF0 := Lib.hid (HF0.out.call hf1 (fun _ h _ => h)); replace HZ := Lib.hid (HZ.out.fr hf1 (fun e => e)); replace HX0 := Lib.hid (HX0.out.fr hf1 (fun e => e)); replace HY0 := Lib.hid (HY0.out.fr hf1 (fun e => e)); replace HW0 := Lib.hid HZ.out.lt; replace rc := HZ.out.cell; replace rf := HZ.out.frozen; replace zl := HZ.out.lt; replace xc := HX0.out.cell; replace xl := HX0.out.lt; replace yc := HY0.out.cell; replace yl := HY0.out.lt; clear hf1)
      | ((go_at_call 167); (with_reducible refine (HNY.out w1 HF0.out).mono ?_); rintro e w2 ⟨o1, n1, m1, v1, l1, i1, A1, c1, k1, rfl, he, hs1, hf1⟩; have HE := Lib.hid he; have HS1 := Lib.hid hs1; have HFR := Lib.hid hf1; have HZ2 := Lib.hid (HZ.out.fr hf1 (fun e => e)); clear he hs1 hf1)
      | (refine wpList_stBox rfl rfl (by rfl) (by rfl) (by exact infoF) (by rfl) (by first | exact HZ2.out.alloc _ | exact HZ2.out) (by rfl) ?_; intro W7 hb7 hf7; have HB7 := Lib.hid hb7; have HF7 := Lib.hid hf7; have rc7 := hb7.cell; clear hb7 hf7)
      | fail)
    refine bodyPost_ret (v := .agg #[.int .i64 o1, .string n1, .int .i64 m1, .int .i64 v1, .int .i64 l1, .int .i64 i1, .slice A1 k1.len c1]) (by simp [results, Tryz.results171, go_sem, rc7]) rfl ?_
    exact FRes.put (x := ⟨o1, n1, m1, v1, l1, i1⟩) (HE.out.trans HR.out.symm) HS1.out (fun k hk _ => hq_call HP.out (by omega) HW0.out k hk) (HF0.out.call HFR.out (fun _ h _ => h)) (by omega) HF7.out
  have HN5 := Lib.hid (HN4.out.trans (if_neg h5))
  clear HN4
  by_cases h6 : op2 = 2
  · have HR := Lib.hid (show sr = notS (⟨op, nm, cm, va, lo, hi⟩, ks.tr) from by rw [HN5.out, if_pos h6])
    have hb : (op2 == 2) = true := by simpa using h6
    clear h6
    clear HN5 HNY
    go_wp2_with (first
      | ((go_at_call 179); (with_reducible refine (HSM.out W0 HF0.out).mono ?_); rintro e w1 ⟨rfl, hf1⟩; replace HF0 := Lib.hid (HF0.out.call hf1 (fun _ h _ => h)); replace HZ := Lib.hid (HZ.out.fr hf1 (fun e => e)); replace HX0 := Lib.hid (HX0.out.fr hf1 (fun e => e)); replace HY0 := Lib.hid (HY0.out.fr hf1 (fun e => e)); replace HW0 := Lib.hid HZ.out.lt; replace rc := HZ.out.cell; replace rf := HZ.out.frozen; replace zl := HZ.out.lt; replace xc := HX0.out.cell; replace xl := HX0.out.lt; replace yc := HY0.out.cell; replace yl := HY0.out.lt; clear hf1)
      | ((go_at_call 167); (with_reducible refine (HNX.out w1 HF0.out).mono ?_); rintro e w2 ⟨o1, n1, m1, v1, l1, i1, A1, c1, k1, rfl, he, hs1, hf1⟩; have HE := Lib.hid he; have HS1 := Lib.hid hs1; have HFR := Lib.hid hf1; have HZ2 := Lib.hid (HZ.out.fr hf1 (fun e => e)); clear he hs1 hf1)
      | (refine wpList_stBox rfl rfl (by rfl) (by rfl) (by exact infoF) (by rfl) (by first | exact HZ2.out.alloc _ | exact HZ2.out) (by rfl) ?_; intro W7 hb7 hf7; have HB7 := Lib.hid hb7; have HF7 := Lib.hid hf7; have rc7 := hb7.cell; clear hb7 hf7)
      | fail)
    refine bodyPost_ret (v := .agg #[.int .i64 o1, .string n1, .int .i64 m1, .int .i64 v1, .int .i64 l1, .int .i64 i1, .slice A1 k1.len c1]) (by simp [results, Tryz.results171, go_sem, rc7]) rfl ?_
    exact FRes.put (x := ⟨o1, n1, m1, v1, l1, i1⟩) (HE.out.trans HR.out.symm) HS1.out (fun k hk _ => hq_call HP.out (by omega) HW0.out k hk) (HF0.out.call HFR.out (fun _ h _ => h)) (by omega) HF7.out
  · have HR := Lib.hid (show sr = mk2 8 0 0 (⟨op, nm, cm, va, lo, hi⟩, ks.tr) (⟨op2, nm2, cm2, va2, lo2, hi2⟩, js.tr) from by rw [HN5.out, if_neg h6])
    clear HN5 HNX HNY
    go_wp2_with (first
      | ((go_at_call 179); (with_reducible refine (HSM.out W0 HF0.out).mono ?_); rintro e w1 ⟨rfl, hf1⟩; replace HF0 := Lib.hid (HF0.out.call hf1 (fun _ h _ => h)); replace HZ := Lib.hid (HZ.out.fr hf1 (fun e => e)); replace HX0 := Lib.hid (HX0.out.fr hf1 (fun e => e)); replace HY0 := Lib.hid (HY0.out.fr hf1 (fun e => e)); replace HW0 := Lib.hid HZ.out.lt; replace rc := HZ.out.cell; replace rf := HZ.out.frozen; replace zl := HZ.out.lt; replace xc := HX0.out.cell; replace xl := HX0.out.lt; replace yc := HY0.out.cell; replace yl := HY0.out.lt; clear hf1)
      | (refine wpList_stBox rfl rfl (by rfl) (by rfl) (by exact infoF) (by rfl) (by first | exact HZ.out.alloc _ | exact HZ.out) (by rfl) ?_; intro W7 hb7 hf7; have HB7 := Lib.hid hb7; have HF7 := Lib.hid hf7; have rc7 := hb7.cell; clear hb7 hf7)
      | fail)
    refine bodyPost_ret (v := .agg #[.int .i64 8, .string ⟨#[]⟩, .int .i64 0, .int .i64 0, .int .i64 0, .int .i64 0, .slice (some ⟨w1.heap.size, 0, none⟩) 2 2]) (by simp [results, Tryz.results171, go_sem, rc7]) rfl ?_
    exact FRes.lit2 HR.out HS.out HT.out HP.out HF0.out (by omega) HW0.out HF7.out
set_option maxRecDepth 100000 in
set_option maxHeartbeats 8000000 in
theorem n_ev (w : World) (p : Nat → Prop) (hp : ∀ k, p k → k < w.heap.size) (m x : Nd) (MA A : Option Addr) (mn mc c : Nat) (ks : Fo) (hs : FoSlP p w A c ks) :
    Calls Tryz.prog 173 #[fval m MA mn mc, fval x A ks.len c] w (FRes w p (evS m.lo m.hi (x, ks.tr))) := by
  have HS := Lib.hid hs
  have HP := Lib.hid hp
  have HN := Lib.hid (show evS m.lo m.hi (x, ks.tr) = if x.op = 2 then mk0 2 else if x.op = 1 ∧ m.lo = 0 then mk0 1 else mk1 9 m.lo m.hi (x, ks.tr) from rfl)
  clear hs hp
  generalize evS m.lo m.hi (x, ks.tr) = sr at *
  obtain ⟨op, nm, cm, va, lo, hi⟩ := x
  obtain ⟨mop, mnm, mcm, mva, mlo, mhi⟩ := m
  dsimp only at HN
  unfold fval at *
  go_enter Tryz.func173, Tryz.ntmps173
  go_upto_region 1 with fail
  obtain ⟨W0, hW0⟩ : ∃ W0, ((w.alloc (.cells #[.int .i64 mop, .string mnm, .int .i64 mcm, .int .i64 mva, .int .i64 mlo, .int .i64 mhi, .slice MA mn mc] 194)).alloc (.cells #[.int .i64 op, .string nm, .int .i64 cm, .int .i64 va, .int .i64 lo, .int .i64 hi, .slice A ks.len c] 28)).alloc (.cells zarr 28) = W0 := ⟨_, rfl⟩
  have HM0 := Lib.hid (show Blk W0 w.heap.size 194 #[.int .i64 mop, .string mnm, .int .i64 mcm, .int .i64 mva, .int .i64 mlo, .int .i64 mhi, .slice MA mn mc] by rw [← hW0]; exact ((Blk.new _ _ _).alloc _).alloc _)
  have HX0 := Lib.hid (show Blk W0 (w.heap.size + 1) 28 #[.int .i64 op, .string nm, .int .i64 cm, .int .i64 va, .int .i64 lo, .int .i64 hi, .slice A ks.len c] by rw [← hW0]; exact (Blk.new_eq (by simp)).alloc _)
  have HZ := Lib.hid (show Blk W0 (w.heap.size + 1 + 1) 28 zarr by rw [← hW0]; exact Blk.new_eq (by simp))
  have HF0 := Lib.hid (show Fr Nob w W0 by rw [← hW0]; exact (((Fr.refl _ _).alloc _).alloc _).alloc _)
  have HW0 := Lib.hid (show w.heap.size + 1 + 1 < W0.heap.size from HZ.out.lt)
  rw [hW0]
  clear hW0
  have mc_ := HM0.out.cell
  have ml_ := HM0.out.lt
  have xc := HX0.out.cell
  have xl := HX0.out.lt
  have rc := HZ.out.cell
  have rf := HZ.out.frozen
  have zl := HZ.out.lt
  by_cases h1 : op = 2
  · have HR := Lib.hid (show sr = mk0 2 from by rw [HN.out, if_pos h1])
    clear HN
    go_wp2_with (first
      | ((go_at_call 178); (with_reducible refine (n_const W0 p false).mono ?_); rintro e w2 ⟨o1, n1, m1, v1, l1, i1, A1, c1, k1, rfl, he, hs1, hf1⟩; have HE := Lib.hid he; have HS1 := Lib.hid hs1; have HFR := Lib.hid hf1; have HZ2 := Lib.hid (HZ.out.fr hf1 (fun e => e)); clear he hs1 hf1)
      | (refine wpList_stBox rfl rfl (by rfl) (by rfl) (by exact infoF) (by rfl) (by first | exact HZ2.out.alloc _ | exact HZ2.out) (by rfl) ?_; intro W7 hb7 hf7; have HB7 := Lib.hid hb7; have HF7 := Lib.hid hf7; have rc7 := hb7.cell; clear hb7 hf7)
      | fail)
    refine bodyPost_ret (v := .agg #[.int .i64 o1, .string n1, .int .i64 m1, .int .i64 v1, .int .i64 l1, .int .i64 i1, .slice A1 k1.len c1]) (by simp [results, Tryz.results173, go_sem, rc7]) rfl ?_
    exact FRes.put (x := ⟨o1, n1, m1, v1, l1, i1⟩) (HE.out.trans HR.out.symm) HS1.out (fun k hk _ => hq_call HP.out (by omega) HW0.out k hk) (HF0.out.call HFR.out (fun _ h _ => h)) (by omega) HF7.out
  have HN2 := Lib.hid (HN.out.trans (if_neg h1))
  clear HN
  by_cases h2 : op = 1
  · have hb2 : (op == 1) = true := by simpa using h2
    by_cases h3 : mlo = 0
    · have HR := Lib.hid (show sr = mk0 1 from by rw [HN2.out, if_pos ⟨h2, h3⟩])
      clear HN2
      have hb3 : (mlo == 0) = true := by simpa using h3
      go_wp2_with (first
        | ((go_at_call 178); (with_reducible refine (n_const W0 p true).mono ?_); rintro e w2 ⟨o1, n1, m1, v1, l1, i1, A1, c1, k1, rfl, he, hs1, hf1⟩; have HE := Lib.hid he; have HS1 := Lib.hid hs1; have HFR := Lib.hid hf1; have HZ2 := Lib.hid (HZ.out.fr hf1 (fun e => e)); clear he hs1 hf1)
        | (refine wpList_stBox rfl rfl (by rfl) (by rfl) (by exact infoF) (by rfl) (by first | exact HZ2.out.alloc _ | exact HZ2.out) (by rfl) ?_; intro W7 hb7 hf7; have HB7 := Lib.hid hb7; have HF7 := Lib.hid hf7; have rc7 := hb7.cell; clear hb7 hf7)
        | fail)
      refine bodyPost_ret (v := .agg #[.int .i64 o1, .string n1, .int .i64 m1, .int .i64 v1, .int .i64 l1, .int .i64 i1, .slice A1 k1.len c1]) (by simp [results, Tryz.results173, go_sem, rc7]) rfl ?_
      exact FRes.put (x := ⟨o1, n1, m1, v1, l1, i1⟩) (HE.out.trans HR.out.symm) HS1.out (fun k hk _ => hq_call HP.out (by omega) HW0.out k hk) (HF0.out.call HFR.out (fun _ h _ => h)) (by omega) HF7.out
    · have HR := Lib.hid (show sr = mk1 9 mlo mhi (⟨op, nm, cm, va, lo, hi⟩, ks.tr) from by rw [HN2.out, if_neg (fun e => h3 e.2)])
      clear HN2 h2
      have hb3 : (mlo == 0) = false := by simpa using h3
      go_wp2_with (first
        | (refine wpList_stBox rfl rfl (by rfl) (by rfl) (by exact infoF) (by rfl) (by first | exact HZ.out.alloc _ | exact HZ.out) (by rfl) ?_; intro W7 hb7 hf7; have HB7 := Lib.hid hb7; have HF7 := Lib.hid hf7; have rc7 := hb7.cell; clear hb7 hf7)
        | fail)
      refine bodyPost_ret (v := .agg #[.int .i64 9, .string ⟨#[]⟩, .int .i64 0, .int .i64 0, .int .i64 mlo, .int .i64 mhi, .slice (some ⟨W0.heap.size, 0, none⟩) 1 1]) (by simp [results, Tryz.results173, go_sem, rc7]) rfl ?_
      exact FRes.lit1 HR.out HS.out HP.out HF0.out (by omega) HW0.out HF7.out
  · have hb2 : (op == 1) = false := by simpa using h2
    have HR := Lib.hid (show sr = mk1 9 mlo mhi (⟨op, nm, cm, va, lo, hi⟩, ks.tr) from by rw [HN2.out, if_neg (fun e => h2 e.1)])
    clear HN2
    go_wp2_with (first
      | (refine wpList_stBox rfl rfl (by rfl) (by rfl) (by exact infoF) (by rfl) (by first | exact HZ.out.alloc _ | exact HZ.out) (by rfl) ?_; intro W7 hb7 hf7; have HB7 := Lib.hid hb7; have HF7 := Lib.hid hf7; have rc7 := hb7.cell; clear hb7 hf7)
      | fail)
    refine bodyPost_ret (v := .agg #[.int .i64 9, .string ⟨#[]⟩, .int .i64 0, .int .i64 0, .int .i64 mlo, .int .i64 mhi, .slice (some ⟨W0.heap.size, 0, none⟩) 1 1]) (by simp [results, Tryz.results173, go_sem, rc7]) rfl ?_
    exact FRes.lit1 HR.out HS.out HP.out HF0.out (by omega) HW0.out HF7.out
set_option maxRecDepth 100000 in
set_option maxHeartbeats 8000000 in
theorem n_un (w : World) (p : Nat → Prop) (hp : ∀ k, p k → k < w.heap.size) (m x y : Nd) (MA A B : Option Addr) (mn mc c d : Nat) (ks js : Fo) (hs : FoSlP p w A c ks) (ht : FoSlP p w B d js) :
    Calls Tryz.prog 175 #[fval m MA mn mc, fval x A ks.len c, fval y B js.len d] w (FRes w p (unS m.lo m.hi (x, ks.tr) (y, js.tr))) := by
  have HS := Lib.hid hs
  have HT := Lib.hid ht
  have HP := Lib.hid hp
  have HN := Lib.hid (show unS m.lo m.hi (x, ks.tr) (y, js.tr) = if y.op = 2 then mk0 2 else if x.op = 2 then (if m.lo = 0 then (y, js.tr) else mk0 2) else if x.op = 1 then evS m.lo m.hi (y, js.tr) else if y.op = 1 ∧ m.lo = 0 then mk0 1 else mk2 11 m.lo m.hi (x, ks.tr) (y, js.tr) from rfl)
  have HEV := Lib.hid (fun W (hf : Fr Nob w W) => n_ev W p (fun k hk => Nat.lt_of_lt_of_le (hp k hk) hf.size) m y MA B mn mc d js (ht.fr hf))
  clear hs ht hp
  generalize unS m.lo m.hi (x, ks.tr) (y, js.tr) = sr at *
  obtain ⟨op, nm, cm, va, lo, hi⟩ := x
  obtain ⟨op2, nm2, cm2, va2, lo2, hi2⟩ := y
  obtain ⟨mop, mnm, mcm, mva, mlo, mhi⟩ := m
  dsimp only at HN HEV
  unfold fval at *
  go_enter Tryz.func175, Tryz.ntmps175
  go_upto_region 1 with fail
  obtain ⟨W0, hW0⟩ : ∃ W0, (((w.alloc (.cells #[.int .i64 mop, .string mnm, .int .i64 mcm, .int .i64 mva, .int .i64 mlo, .int .i64 mhi, .slice MA mn mc] 194)).alloc (.cells #[.int .i64 op, .string nm, .int .i64 cm, .int .i64 va, .int .i64 lo, .int .i64 hi, .slice A ks.len c] 28)).alloc (.cells #[.int .i64 op2, .string nm2, .int .i64 cm2, .int .i64 va2, .int .i64 lo2, .int .i64 hi2, .slice B js.len d] 28)).alloc (.cells zarr 28) = W0 := ⟨_, rfl⟩
  have HM0 := Lib.hid (show Blk W0 w.heap.size 194 #[.int .i64 mop, .string mnm, .int .i64 mcm, .int .i64 mva, .int .i64 mlo, .int .i64 mhi, .slice MA mn mc] by rw [← hW0]; exact (((Blk.new _ _ _).alloc _).alloc _).alloc _)
  have HX0 := Lib.hid (show Blk W0 (w.heap.size + 1) 28 #[.int .i64 op, .string nm, .int .i64 cm, .int .i64 va, .int .i64 lo, .int .i64 hi, .slice A ks.len c] by rw [← hW0]; exact ((Blk.new_eq (by simp)).alloc _).alloc _)
  have HY0 := Lib.hid (show Blk W0 (w.heap.size + 1 + 1) 28 #[.int .i64 op2, .string nm2, .int .i64 cm2, .int .i64 va2, .int .i64 lo2, .int .i64 hi2, .slice B js.len d] by rw [← hW0]; exact (Blk.new_eq (by simp)).alloc _)
  have HZ := Lib.hid (show Blk W0 (w.heap.size + 1 + 1 + 1) 28 zarr by rw [← hW0]; exact Blk.new_eq (by simp))
  have HF0 := Lib.hid (show Fr Nob w W0 by rw [← hW0]; exact ((((Fr.refl _ _).alloc _).alloc _).alloc _).alloc _)
  have HW0 := Lib.hid (show w.heap.size + 1 + 1 + 1 < W0.heap.size from HZ.out.lt)
  rw [hW0]
  clear hW0
  have mc_ := HM0.out.cell
  have ml_ := HM0.out.lt
  have xc := HX0.out.cell
  have xl := HX0.out.lt
  have yc := HY0.out.cell
  have yl := HY0.out.lt
  have rc := HZ.out.cell
  have rf := HZ.out.frozen
  have zl := HZ.out.lt
  by_cases h1 : op2 = 2
  · have HR := Lib.hid (show sr = mk0 2 from by rw [HN.out, if_pos h1])
    clear HN HEV
    go_wp2_with (first
      | ((go_at_call 178); (with_reducible refine (n_const W0 p false).mono ?_); rintro e w2 ⟨o1, n1, m1, v1, l1, i1, A1, c1, k1, rfl, he, hs1, hf1⟩; have HE := Lib.hid he; have HS1 := Lib.hid hs1; have HFR := Lib.hid hf1; have HZ2 := Lib.hid (HZ.out.fr hf1 (fun e => e)); clear he hs1 hf1)
      | (refine wpList_stBox rfl rfl (by rfl) (by rfl) (by exact infoF) (by rfl) (by first | exact HZ2.out.alloc _ | exact HZ2.out) (by rfl) ?_; intro W7 hb7 hf7; have HB7 := Lib.hid hb7; have HF7 := Lib.hid hf7; have rc7 := hb7.cell; clear hb7 hf7)
      | fail)
    refine bodyPost_ret (v := .agg #[.int .i64 o1, .string n1, .int .i64 m1, .int .i64 v1, .int .i64 l1, .int .i64 i1, .slice A1 k1.len c1]) (by simp [results, Tryz.results175, go_sem, rc7]) rfl ?_
    exact FRes.put (x := ⟨o1, n1, m1, v1, l1, i1⟩) (HE.out.trans HR.out.symm) HS1.out (fun k hk _ => hq_call HP.out (by omega) HW0.out k hk) (HF0.out.call HFR.out (fun _ h _ => h)) (by omega) HF7.out
  have HN2 := Lib.hid (HN.out.trans (if_neg h1))
  clear HN
  by_cases h2 : op = 2
  · have hb2 : (op == 2) = true := by simpa using h2
    have HN3 := Lib.hid (HN2.out.trans (if_pos h2))
    clear HN2 HEV
    by_cases h3 : mlo = 0
    · have HR := Lib.hid (show sr = (⟨op2, nm2, cm2, va2, lo2, hi2⟩, js.tr) from by rw [HN3.out, if_pos h3])
      clear HN3
      have hb3 : (mlo == 0) = true := by simpa using h3
      go_wp2_with (first
        | (refine wpList_stBox rfl rfl (by rfl) (by rfl) (by exact infoF) (by rfl) (by first | exact HZ.out.alloc _ | exact HZ.out) (by rfl) ?_; intro W7 hb7 hf7; have HB7 := Lib.hid hb7; have HF7 := Lib.hid hf7; have rc7 := hb7.cell; clear hb7 hf7)
        | fail)
      refine bodyPost_ret (v := .agg #[.int .i64 op2, .string nm2, .int .i64 cm2, .int .i64 va2, .int .i64 lo2, .int .i64 hi2, .slice B js.len d]) (by simp [results, Tryz.results175, go_sem, rc7]) rfl ?_
      exact FRes.same (x := ⟨op2, nm2, cm2, va2, lo2, hi2⟩) HR.out HT.out HP.out HF0.out (by omega) HF7.out
    · have HR := Lib.hid (show sr = mk0 2 from by rw [HN3.out, if_neg h3])
      clear HN3
      have hb3 : (mlo == 0) = false := by simpa using h3
      go_wp2_with (first
        | ((go_at_call 178); (with_reducible refine (n_const W0 p false).mono ?_); rintro e w2 ⟨o1, n1, m1, v1, l1, i1, A1, c1, k1, rfl, he, hs1, hf1⟩; have HE := Lib.hid he; have HS1 := Lib.hid hs1; have HFR := Lib.hid hf1; have HZ2 := Lib.hid (HZ.out.fr hf1 (fun e => e)); clear he hs1 hf1)
        | (refine wpList_stBox rfl rfl (by rfl) (by rfl) (by exact infoF) (by rfl) (by first | exact HZ2.out.alloc _ | exact HZ2.out) (by rfl) ?_; intro W7 hb7 hf7; have HB7 := Lib.hid hb7; have HF7 := Lib.hid hf7; have rc7 := hb7.cell; clear hb7 hf7)
        | fail)
      refine bodyPost_ret (v := .agg #[.int .i64 o1, .string n1, .int .i64 m1, .int .i64 v1, .int .i64 l1, .int .i64 i1, .slice A1 k1.len c1]) (by simp [results, Tryz.results175, go_sem, rc7]) rfl ?_
      exact FRes.put (x := ⟨o1, n1, m1, v1, l1, i1⟩) (HE.out.trans HR.out.symm) HS1.out (fun k hk _ => hq_call HP.out (by omega) HW0.out k hk) (HF0.out.call HFR.out (fun _ h _ => h)) (by omega) HF7.out
  have hb2 : (op == 2) = false := by simpa using h2
  have HN3 := Lib.hid (HN2.out.trans (if_neg h2))
  clear HN2
  by_cases h4 : op = 1
  · have HR := Lib.hid (show sr = evS mlo mhi (⟨op2, nm2, cm2, va2, lo2, hi2⟩, js.tr) from by rw [HN3.out, if_pos h4])
    clear HN3
    go_wp2_with (first
      | ((go_at_call 173); (with_reducible refine (HEV.out W0 HF0.out).mono ?_); rintro e w2 ⟨o1, n1, m1, v1, l1, i1, A1, c1, k1, rfl, he, hs1, hf1⟩; have HE := Lib.hid he; have HS1 := Lib.hid hs1; have HFR := Lib.hid hf1; have HZ2 := Lib.hid (HZ.out.fr hf1 (fun e => e)); clear he hs1 hf1)
      | (refine wpList_stBox rfl rfl (by rfl) (by rfl) (by exact infoF) (by rfl) (by first | exact HZ2.out.alloc _ | exact HZ2.out) (by rfl) ?_; intro W7 hb7 hf7; have HB7 := Lib.hid hb7; have HF7 := Lib.hid hf7; have rc7 := hb7.cell; clear hb7 hf7)
      | fail)
    refine bodyPost_ret (v := .agg #[.int .i64 o1, .string n1, .int .i64 m1, .int .i64 v1, .int .i64 l1, .int .i64 i1, .slice A1 k1.len c1]) (by simp [results, Tryz.results175, go_sem, rc7]) rfl ?_
    exact FRes.put (x := ⟨o1, n1, m1, v1, l1, i1⟩) (HE.out.trans HR.out.symm) HS1.out (fun k hk _ => hq_call HP.out (by omega) HW0.out k hk) (HF0.out.call HFR.out (fun _ h _ => h)) (by omega) HF7.out
  have HN4 := Lib.hid (HN3.out.trans (if_neg h4))
  clear HN3 HEV
  by_cases h5 : op2 = 1
  · have hb5 : (op2 == 1) = true := by simpa using h5
    by_cases h3 : mlo = 0
    · have HR := Lib.hid (show sr = mk0 1 from by rw [HN4.out, if_pos ⟨h5, h3⟩])
      clear HN4
      have hb3 : (mlo == 0) = true := by simpa using h3
      go_wp2_with (first
        | ((go_at_call 178); (with_reducible refine (n_const W0 p true).mono ?_); rintro e w2 ⟨o1, n1, m1, v1, l1, i1, A1, c1, k1, rfl, he, hs1, hf1⟩; have HE := Lib.hid he; have HS1 := Lib.hid hs1; have HFR := Lib.hid hf1; have HZ2 := Lib.hid (HZ.out.fr hf1 (fun e => e)); clear he hs1 hf1)
        | (refine wpList_stBox rfl rfl (by rfl) (by rfl) (by exact infoF) (by rfl) (by first | exact HZ2.out.alloc _ | exact HZ2.out) (by rfl) ?_; intro W7 hb7 hf7; have HB7 := Lib.hid hb7; have HF7 := Lib.hid hf7; have rc7 := hb7.cell; clear hb7 hf7)
        | fail)
      refine bodyPost_ret (v := .agg #[.int .i64 o1, .string n1, .int .i64 m1, .int .i64 v1, .int .i64 l1, .int .i64 i1, .slice A1 k1.len c1]) (by simp [results, Tryz.results175, go_sem, rc7]) rfl ?_
      exact FRes.put (x := ⟨o1, n1, m1, v1, l1, i1⟩) (HE.out.trans HR.out.symm) HS1.out (fun k hk _ => hq_call HP.out (by omega) HW0.out k hk) (HF0.out.call HFR.out (fun _ h _ => h)) (by omega) HF7.out
    · have HR := Lib.hid (show sr = mk2 11 mlo mhi (⟨op, nm, cm, va, lo, hi⟩, ks.tr) (⟨op2, nm2, cm2, va2, lo2, hi2⟩, js.tr) from by rw [HN4.out, if_neg (fun e => h3 e.2)])
      clear HN4 h5
      have hb3 : (mlo == 0) = false := by simpa using h3
      go_wp2_with (first
        | (refine wpList_stBox rfl rfl (by rfl) (by rfl) (by exact infoF) (by rfl) (by first | exact HZ.out.alloc _ | exact HZ.out) (by rfl) ?_; intro W7 hb7 hf7; have HB7 := Lib.hid hb7; have HF7 := Lib.hid hf7; have rc7 := hb7.cell; clear hb7 hf7)
        | fail)
      refine bodyPost_ret (v := .agg #[.int .i64 11, .string ⟨#[]⟩, .int .i64 0, .int .i64 0, .int .i64 mlo, .int .i64 mhi, .slice (some ⟨W0.heap.size, 0, none⟩) 2 2]) (by simp [results, Tryz.results175, go_sem, rc7]) rfl ?_
      exact FRes.lit2 HR.out HS.out HT.out HP.out HF0.out (by omega) HW0.out HF7.out
  · have hb5 : (op2 == 1) = false := by simpa using h5
    have HR := Lib.hid (show sr = mk2 11 mlo mhi (⟨op, nm, cm, va, lo, hi⟩, ks.tr) (⟨op2, nm2, cm2, va2, lo2, hi2⟩, js.tr) from by rw [HN4.out, if_neg (fun e => h5 e.1)])
    clear HN4
    go_wp2_with (first
      | (refine wpList_stBox rfl rfl (by rfl) (by rfl) (by exact infoF) (by rfl) (by first | exact HZ.out.alloc _ | exact HZ.out) (by rfl) ?_; intro W7 hb7 hf7; have HB7 := Lib.hid hb7; have HF7 := Lib.hid hf7; have rc7 := hb7.cell; clear hb7 hf7)
      | fail)
    refine bodyPost_ret (v := .agg #[.int .i64 11, .string ⟨#[]⟩, .int .i64 0, .int .i64 0, .int .i64 mlo, .int .i64 mhi, .slice (some ⟨W0.heap.size, 0, none⟩) 2 2]) (by simp [results, Tryz.results175, go_sem, rc7]) rfl ?_
    exact FRes.lit2 HR.out HS.out HT.out HP.out HF0.out (by omega) HW0.out HF7.out
end Go.Proofs.YtoegdmpmagbaiaaGreatDoor
