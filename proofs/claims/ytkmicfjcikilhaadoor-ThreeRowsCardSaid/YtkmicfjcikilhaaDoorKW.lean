/- The reference's nodes: not, and, iff, ev, un. -/
import Derived.Test.YtkmicfjcikilhaaDoorKG
import Derived.Test.YtkmicfjcikilhaaDoorQFsame
import Derived.Test.YtkmicfjcikilhaaDoorKH
import Derived.Deep.RegionHeld3
namespace Go.Proofs.YtkmicfjcikilhaaDoor
open Go.RowKit Go.Lib

theorem infoRF7 : (Tryd.prog.info? 38).map (·.size) = some 7 := by kernel_rfl
/-- A node without kids is returned. -/
theorem FRes.const {p : Nat → Prop} {w w1 W7 : World} {g : Nat} {s : S1} {op : Int} (he : s = mk0 op) (hf : Fr Nob w w1) (hg : w.heap.size ≤ g) (h7 : Fr (Only g) w1 W7) :
    FRes w p s (.returned (.agg #[.int .i64 op, .string ⟨#[]⟩, .int .i64 0, .int .i64 0, .int .i64 0, .int .i64 0, .slice none 0 0])) W7 :=
  FRes.put (q := fun _ => False) (x := ⟨op, ⟨#[]⟩, 0, 0, 0, 0⟩) (A := none) (c := 0) (ks := .nil) he.symm (FoSlP.nil _ _) (fun _ h _ => absurd h (fun e => e)) hf hg h7
set_option maxRecDepth 100000 in
set_option maxHeartbeats 8000000 in
theorem r_Not (w : World) (p : Nat → Prop) (hp : ∀ k, p k → k < w.heap.size) (x : Nd) (A : Option Addr) (c : Nat) (ks : Fo) (hs : FoSlP p w A c ks) (hc : coreS (x, ks.tr)) : Calls Tryd.prog 108 #[fval x A ks.len c] w (FRes w p (notS (x, ks.tr))) := by
  have HS := Lib.hid hs
  have HC := Lib.hid hc
  have HN := Lib.hid (show notS (x, ks.tr) = if x.op = 1 then mk0 2 else if x.op = 2 then mk0 1 else if x.op = 4 then kidS (x, ks.tr) 0 else mk1 4 0 0 (x, ks.tr) from rfl)
  have HP := Lib.hid hp
  clear hs hc hp
  generalize notS (x, ks.tr) = sr at *
  obtain ⟨op, nm, cm, va, lo, hi⟩ := x
  dsimp only at HN
  unfold fval
  go_enter Tryd.func108, Tryd.ntmps108
  go_upto_region 1 with fail
  obtain ⟨W0, hW0⟩ : ∃ W0, (w.alloc (.cells #[.int .i64 op, .string nm, .int .i64 cm, .int .i64 va, .int .i64 lo, .int .i64 hi, .slice A ks.len c] 38)).alloc (.cells zarr 38) = W0 := ⟨_, rfl⟩
  have HX0 := Lib.hid (show Blk W0 w.heap.size 38 #[.int .i64 op, .string nm, .int .i64 cm, .int .i64 va, .int .i64 lo, .int .i64 hi, .slice A ks.len c] by rw [← hW0]; exact (Blk.new _ _ _).alloc _)
  have HZ := Lib.hid (show Blk W0 (w.heap.size + 1) 38 zarr by rw [← hW0]; exact Blk.new_eq (by simp))
  have HF0 := Lib.hid (show Fr Nob w W0 by rw [← hW0]; exact ((Fr.refl _ _).alloc _).alloc _)
  have HW0 := Lib.hid (show w.heap.size + 1 < W0.heap.size from HZ.out.lt)
  rw [hW0]
  clear hW0
  have xc := HX0.out.cell
  have xl := HX0.out.lt
  have rc := HZ.out.cell
  have rf := HZ.out.frozen
  have zl := HZ.out.lt
  by_cases h1 : op = 1
  · have HR := Lib.hid (show sr = mk0 2 from by rw [HN.out, if_pos h1])
    clear HN
    have hb : (op == 1) = true := by simpa using h1
    clear h1
    go_wp2_with (first
      | (refine wpList_stBox rfl rfl (by rfl) (by rfl) (by exact infoRF7) (by rfl) (by first | exact HZ.out.alloc _ | exact HZ.out) (by rfl) ?_; intro W7 hb7 hf7; have HB7 := Lib.hid hb7; have HF7 := Lib.hid hf7; have rc7 := hb7.cell; clear hb7 hf7)
      | fail)
    refine bodyPost_ret (v := .agg #[.int .i64 2, .string ⟨#[]⟩, .int .i64 0, .int .i64 0, .int .i64 0, .int .i64 0, .slice none 0 0]) (by simp [results, Tryd.results108, go_sem, rc7]) rfl ?_
    exact FRes.const HR.out HF0.out (by omega) HF7.out
  have hb1 : (op == 1) = false := by simpa using h1
  by_cases h2 : op = 2
  · have HR := Lib.hid (show sr = mk0 1 from by rw [HN.out, if_neg h1, if_pos h2])
    clear HN h1
    have hb : (op == 2) = true := by simpa using h2
    clear h2
    go_wp2_with (first
      | (refine wpList_stBox rfl rfl (by rfl) (by rfl) (by exact infoRF7) (by rfl) (by first | exact HZ.out.alloc _ | exact HZ.out) (by rfl) ?_; intro W7 hb7 hf7; have HB7 := Lib.hid hb7; have HF7 := Lib.hid hf7; have rc7 := hb7.cell; clear hb7 hf7)
      | fail)
    refine bodyPost_ret (v := .agg #[.int .i64 1, .string ⟨#[]⟩, .int .i64 0, .int .i64 0, .int .i64 0, .int .i64 0, .slice none 0 0]) (by simp [results, Tryd.results108, go_sem, rc7]) rfl ?_
    exact FRes.const HR.out HF0.out (by omega) HF7.out
  have hb2 : (op == 2) = false := by simpa using h2
  by_cases h4 : op = 4
  · have HR := Lib.hid (show sr = kidS (⟨op, nm, cm, va, lo, hi⟩, ks.tr) 0 from by rw [HN.out, if_neg h1, if_neg h2, if_pos h4])
    have hlen : ks.tr.len = 1 := by have := HC.out.1; unfold coreN at this; dsimp only at this; omega
    have hb4 : (op == 4) = true := by simpa using h4
    clear HN HC h1 h2 h4
    cases ks with
    | nil => simp [Fo.tr, Tr.len] at hlen
    | cons y B d js rs =>
      have hrs : rs = .nil := by
        cases rs with
        | nil => rfl
        | cons _ _ _ _ _ => simp [Fo.tr, Tr.len] at hlen
      subst hrs
      obtain ⟨b, off, hA, hb, hn, hk⟩ := (HS.out.fr HF0.out).kid
      obtain ⟨d0, d1, d2, d3, d4, d5, d6⟩ := hn
      have HK := Lib.hid hk
      subst hA
      clear hlen hk HS
      obtain ⟨o1, n1, m1, v1, l1, i1⟩ := y
      dsimp only at d0 d1 d2 d3 d4 d5
      have hL : (Fo.cons ⟨o1, n1, m1, v1, l1, i1⟩ B d js Fo.nil).len = 1 := rfl
      go_wp2_with (first
        | (refine wpList_stBox rfl rfl (by rfl) (by rfl) (by exact infoRF7) (by rfl) (by first | exact HZ.out.alloc _ | exact HZ.out) (by rfl) ?_; intro W7 hb7 hf7; have HB7 := Lib.hid hb7; have HF7 := Lib.hid hf7; have rc7 := hb7.cell; clear hb7 hf7)
        | fail)
      refine bodyPost_ret (v := .agg #[.int .i64 o1, .string n1, .int .i64 m1, .int .i64 v1, .int .i64 l1, .int .i64 i1, .slice B js.len d]) (by simp [results, Tryd.results108, go_sem, rc7]) rfl ?_
      exact FRes.put (x := ⟨o1, n1, m1, v1, l1, i1⟩) HR.out.symm HK.out (fun k hk _ => ⟨.inl hk, by have := HP.out k hk; omega⟩) HF0.out (by omega) HF7.out
  · have HR := Lib.hid (show sr = mk1 4 0 0 (⟨op, nm, cm, va, lo, hi⟩, ks.tr) from by rw [HN.out, if_neg h1, if_neg h2, if_neg h4])
    have hb4 : (op == 4) = false := by simpa using h4
    clear HN h1 h2 h4
    go_wp2_with (first
      | (refine wpList_stBox rfl rfl (by rfl) (by rfl) (by exact infoRF7) (by rfl) (by first | exact HZ.out.alloc _ | exact HZ.out) (by rfl) ?_; intro W7 hb7 hf7; have HB7 := Lib.hid hb7; have HF7 := Lib.hid hf7; have rc7 := hb7.cell; clear hb7 hf7)
      | fail)
    refine bodyPost_ret (v := .agg #[.int .i64 4, .string ⟨#[]⟩, .int .i64 0, .int .i64 0, .int .i64 0, .int .i64 0, .slice (some ⟨W0.heap.size, 0, none⟩) 1 1]) (by simp [results, Tryd.results108, go_sem, rc7]) rfl ?_
    exact FRes.lit1 HR.out HS.out HP.out HF0.out (by omega) HW0.out HF7.out
set_option maxRecDepth 100000 in
set_option maxHeartbeats 8000000 in
theorem r_And (w : World) (p : Nat → Prop) (hp : ∀ k, p k → k < w.heap.size) (x y : Nd) (A B : Option Addr) (c d : Nat) (ks js : Fo) (hs : FoSlP p w A c ks) (ht : FoSlP p w B d js) (hz : ks.tr.size ≤ 100000) :
    Calls Tryd.prog 110 #[fval x A ks.len c, fval y B js.len d] w (FRes w p (andS (x, ks.tr) (y, js.tr))) := by
  have HS := Lib.hid hs
  have HT := Lib.hid ht
  have HP := Lib.hid hp
  have HN := Lib.hid (show andS (x, ks.tr) (y, js.tr) = if x.op = 2 ∨ y.op = 2 then mk0 2 else if x.op = 1 then (y, js.tr) else if y.op = 1 ∨ sameS (x, ks.tr) (y, js.tr) = true then (x, ks.tr) else mk2 5 0 0 (x, ks.tr) (y, js.tr) from rfl)
  have HSM := Lib.hid (fun W (hf : Fr Nob w W) => (show Calls Tryd.prog 30 #[fval x A ks.len c, fval y B js.len d] W fun e w' => e = .returned (.bool (sameS (x, ks.tr) (y, js.tr))) ∧ Fr Nob W w' from ref_Same ks.tr.size W.heap.size W x y A B c d ks js (Nat.le_refl _) hz (hs.fr hf).whole (ht.fr hf).whole))
  clear hs ht hp hz
  generalize andS (x, ks.tr) (y, js.tr) = sr at *
  obtain ⟨op, nm, cm, va, lo, hi⟩ := x
  obtain ⟨op2, nm2, cm2, va2, lo2, hi2⟩ := y
  dsimp only at HN
  unfold fval at *
  go_enter Tryd.func110, Tryd.ntmps110
  go_upto_region 1 with fail
  obtain ⟨W0, hW0⟩ : ∃ W0, ((w.alloc (.cells #[.int .i64 op, .string nm, .int .i64 cm, .int .i64 va, .int .i64 lo, .int .i64 hi, .slice A ks.len c] 38)).alloc (.cells #[.int .i64 op2, .string nm2, .int .i64 cm2, .int .i64 va2, .int .i64 lo2, .int .i64 hi2, .slice B js.len d] 38)).alloc (.cells zarr 38) = W0 := ⟨_, rfl⟩
  have HX0 := Lib.hid (show Blk W0 w.heap.size 38 #[.int .i64 op, .string nm, .int .i64 cm, .int .i64 va, .int .i64 lo, .int .i64 hi, .slice A ks.len c] by rw [← hW0]; exact ((Blk.new _ _ _).alloc _).alloc _)
  have HY0 := Lib.hid (show Blk W0 (w.heap.size + 1) 38 #[.int .i64 op2, .string nm2, .int .i64 cm2, .int .i64 va2, .int .i64 lo2, .int .i64 hi2, .slice B js.len d] by rw [← hW0]; exact (Blk.new_eq (by simp)).alloc _)
  have HZ := Lib.hid (show Blk W0 (w.heap.size + 1 + 1) 38 zarr by rw [← hW0]; exact Blk.new_eq (by simp))
  have HF0 := Lib.hid (show Fr Nob w W0 by rw [← hW0]; exact (((Fr.refl _ _).alloc _).alloc _).alloc _)
  have HW0 := Lib.hid (show w.heap.size + 1 + 1 < W0.heap.size from HZ.out.lt)
  rw [hW0]
  clear hW0
  have xc := HX0.out.cell
  have xl := HX0.out.lt
  have yc := HY0.out.cell
  have yl := HY0.out.lt
  have rc := HZ.out.cell
  have rf := HZ.out.frozen
  have zl := HZ.out.lt
  by_cases h1 : op = 2
  · have HR := Lib.hid (show sr = mk0 2 from by rw [HN.out, if_pos (.inl h1)])
    clear HN HSM
    have hb1 : (op == 2) = true := by simpa using h1
    clear h1
    go_wp2_with (first
      | (refine wpList_stBox rfl rfl (by rfl) (by rfl) (by exact infoRF7) (by rfl) (by first | exact HZ.out.alloc _ | exact HZ.out) (by rfl) ?_; intro W7 hb7 hf7; have HB7 := Lib.hid hb7; have HF7 := Lib.hid hf7; have rc7 := hb7.cell; clear hb7 hf7)
      | fail)
    refine bodyPost_ret (v := .agg #[.int .i64 2, .string ⟨#[]⟩, .int .i64 0, .int .i64 0, .int .i64 0, .int .i64 0, .slice none 0 0]) (by simp [results, Tryd.results110, go_sem, rc7]) rfl ?_
    exact FRes.const HR.out HF0.out (by omega) HF7.out
  have hb1 : (op == 2) = false := by simpa using h1
  by_cases h2 : op2 = 2
  · have HR := Lib.hid (show sr = mk0 2 from by rw [HN.out, if_pos (.inr h2)])
    clear HN HSM h1
    have hb2 : (op2 == 2) = true := by simpa using h2
    clear h2
    go_wp2_with (first
      | (refine wpList_stBox rfl rfl (by rfl) (by rfl) (by exact infoRF7) (by rfl) (by first | exact HZ.out.alloc _ | exact HZ.out) (by rfl) ?_; intro W7 hb7 hf7; have HB7 := Lib.hid hb7; have HF7 := Lib.hid hf7; have rc7 := hb7.cell; clear hb7 hf7)
      | fail)
    refine bodyPost_ret (v := .agg #[.int .i64 2, .string ⟨#[]⟩, .int .i64 0, .int .i64 0, .int .i64 0, .int .i64 0, .slice none 0 0]) (by simp [results, Tryd.results110, go_sem, rc7]) rfl ?_
    exact FRes.const HR.out HF0.out (by omega) HF7.out
  have hb2 : (op2 == 2) = false := by simpa using h2
  have HN2 := Lib.hid (HN.out.trans (if_neg (by omega)))
  clear HN h1 h2
  by_cases h3 : op = 1
  · have HR := Lib.hid (show sr = (⟨op2, nm2, cm2, va2, lo2, hi2⟩, js.tr) from by rw [HN2.out, if_pos h3])
    clear HN2 HSM
    have hb3 : (op == 1) = true := by simpa using h3
    clear h3
    go_wp2_with (first
      | (refine wpList_stBox rfl rfl (by rfl) (by rfl) (by exact infoRF7) (by rfl) (by first | exact HZ.out.alloc _ | exact HZ.out) (by rfl) ?_; intro W7 hb7 hf7; have HB7 := Lib.hid hb7; have HF7 := Lib.hid hf7; have rc7 := hb7.cell; clear hb7 hf7)
      | fail)
    refine bodyPost_ret (v := .agg #[.int .i64 op2, .string nm2, .int .i64 cm2, .int .i64 va2, .int .i64 lo2, .int .i64 hi2, .slice B js.len d]) (by simp [results, Tryd.results110, go_sem, rc7]) rfl ?_
    exact FRes.same (x := ⟨op2, nm2, cm2, va2, lo2, hi2⟩) HR.out HT.out HP.out HF0.out (by omega) HF7.out
  have hb3 : (op == 1) = false := by simpa using h3
  have HN3 := Lib.hid (HN2.out.trans (if_neg h3))
  clear HN2 h3
  by_cases h4 : op2 = 1
  · have HR := Lib.hid (show sr = (⟨op, nm, cm, va, lo, hi⟩, ks.tr) from by rw [HN3.out, if_pos (.inl h4)])
    clear HN3 HSM
    have hb4 : (op2 == 1) = true := by simpa using h4
    clear h4
    go_wp2_with (first
      | (refine wpList_stBox rfl rfl (by rfl) (by rfl) (by exact infoRF7) (by rfl) (by first | exact HZ.out.alloc _ | exact HZ.out) (by rfl) ?_; intro W7 hb7 hf7; have HB7 := Lib.hid hb7; have HF7 := Lib.hid hf7; have rc7 := hb7.cell; clear hb7 hf7)
      | fail)
    refine bodyPost_ret (v := .agg #[.int .i64 op, .string nm, .int .i64 cm, .int .i64 va, .int .i64 lo, .int .i64 hi, .slice A ks.len c]) (by simp [results, Tryd.results110, go_sem, rc7]) rfl ?_
    exact FRes.same (x := ⟨op, nm, cm, va, lo, hi⟩) HR.out HS.out HP.out HF0.out (by omega) HF7.out
  have hb4 : (op2 == 1) = false := by simpa using h4
  cases hsm : sameS (⟨op, nm, cm, va, lo, hi⟩, ks.tr) (⟨op2, nm2, cm2, va2, lo2, hi2⟩, js.tr)
  · have HR := Lib.hid (show sr = mk2 5 0 0 (⟨op, nm, cm, va, lo, hi⟩, ks.tr) (⟨op2, nm2, cm2, va2, lo2, hi2⟩, js.tr) from by rw [HN3.out, if_neg (by rw [hsm]; simp; exact h4)])
    rw [hsm] at HSM
    clear HN3 hsm h4
    go_wp2_with (first
      | ((go_at_call 30); (with_reducible refine (HSM.out W0 HF0.out).mono ?_); rintro e w1 ⟨rfl, hf1⟩; replace HF0 := Lib.hid (HF0.out.call hf1 (fun _ h _ => h)); replace HZ := Lib.hid (HZ.out.fr hf1 (fun e => e)); replace HX0 := Lib.hid (HX0.out.fr hf1 (fun e => e)); replace HY0 := Lib.hid (HY0.out.fr hf1 (fun e => e)); replace HW0 := Lib.hid HZ.out.lt; replace rc := HZ.out.cell; replace rf := HZ.out.frozen; replace zl := HZ.out.lt; replace xc := HX0.out.cell; replace xl := HX0.out.lt; replace yc := HY0.out.cell; replace yl := HY0.out.lt; clear hf1)
      | (refine wpList_stBox rfl rfl (by rfl) (by rfl) (by exact infoRF7) (by rfl) (by first | exact HZ.out.alloc _ | exact HZ.out) (by rfl) ?_; intro W7 hb7 hf7; have HB7 := Lib.hid hb7; have HF7 := Lib.hid hf7; have rc7 := hb7.cell; clear hb7 hf7)
      | fail)
    refine bodyPost_ret (v := .agg #[.int .i64 5, .string ⟨#[]⟩, .int .i64 0, .int .i64 0, .int .i64 0, .int .i64 0, .slice (some ⟨w1.heap.size, 0, none⟩) 2 2]) (by simp [results, Tryd.results110, go_sem, rc7]) rfl ?_
    exact FRes.lit2 HR.out HS.out HT.out HP.out HF0.out (by omega) HW0.out HF7.out
  · have HR := Lib.hid (show sr = (⟨op, nm, cm, va, lo, hi⟩, ks.tr) from by rw [HN3.out, if_pos (.inr hsm)])
    rw [hsm] at HSM
    clear HN3 hsm h4
    go_wp2_with (first
      | ((go_at_call 30); (with_reducible refine (HSM.out W0 HF0.out).mono ?_); rintro e w1 ⟨rfl, hf1⟩; replace HF0 := Lib.hid (HF0.out.call hf1 (fun _ h _ => h)); replace HZ := Lib.hid (HZ.out.fr hf1 (fun e => e)); replace HX0 := Lib.hid (HX0.out.fr hf1 (fun e => e)); replace HY0 := Lib.hid (HY0.out.fr hf1 (fun e => e)); replace HW0 := Lib.hid HZ.out.lt; replace rc := HZ.out.cell; replace rf := HZ.out.frozen; replace zl := HZ.out.lt; replace xc := HX0.out.cell; replace xl := HX0.out.lt; replace yc := HY0.out.cell; replace yl := HY0.out.lt; clear hf1)
      | (refine wpList_stBox rfl rfl (by rfl) (by rfl) (by exact infoRF7) (by rfl) (by first | exact HZ.out.alloc _ | exact HZ.out) (by rfl) ?_; intro W7 hb7 hf7; have HB7 := Lib.hid hb7; have HF7 := Lib.hid hf7; have rc7 := hb7.cell; clear hb7 hf7)
      | fail)
    refine bodyPost_ret (v := .agg #[.int .i64 op, .string nm, .int .i64 cm, .int .i64 va, .int .i64 lo, .int .i64 hi, .slice A ks.len c]) (by simp [results, Tryd.results110, go_sem, rc7]) rfl ?_
    exact FRes.same (x := ⟨op, nm, cm, va, lo, hi⟩) HR.out HS.out HP.out HF0.out (by omega) HF7.out
end Go.Proofs.YtkmicfjcikilhaaDoor

/- The reference's nodes: iff, ev, un. -/
namespace Go.Proofs.YtkmicfjcikilhaaDoor
open Go.RowKit Go.Lib

set_option maxRecDepth 100000 in
set_option maxHeartbeats 8000000 in
theorem r_Iff (w : World) (p : Nat → Prop) (hp : ∀ k, p k → k < w.heap.size) (x y : Nd) (A B : Option Addr) (c d : Nat) (ks js : Fo) (hs : FoSlP p w A c ks) (ht : FoSlP p w B d js) (hx : coreS (x, ks.tr)) (hy : coreS (y, js.tr)) (hz : ks.tr.size ≤ 100000) :
    Calls Tryd.prog 111 #[fval x A ks.len c, fval y B js.len d] w (FRes w p (iffS (x, ks.tr) (y, js.tr))) := by
  have HS := Lib.hid hs
  have HT := Lib.hid ht
  have HP := Lib.hid hp
  have HN := Lib.hid (show iffS (x, ks.tr) (y, js.tr) = if sameS (x, ks.tr) (y, js.tr) = true then mk0 1 else if x.op = 1 then (y, js.tr) else if y.op = 1 then (x, ks.tr) else if x.op = 2 then notS (y, js.tr) else if y.op = 2 then notS (x, ks.tr) else mk2 8 0 0 (x, ks.tr) (y, js.tr) from rfl)
  have HSM := Lib.hid (fun W (hf : Fr Nob w W) => (show Calls Tryd.prog 30 #[fval x A ks.len c, fval y B js.len d] W fun e w' => e = .returned (.bool (sameS (x, ks.tr) (y, js.tr))) ∧ Fr Nob W w' from ref_Same ks.tr.size W.heap.size W x y A B c d ks js (Nat.le_refl _) hz (hs.fr hf).whole (ht.fr hf).whole))
  have HNX := Lib.hid (fun W (hf : Fr Nob w W) => r_Not W p (fun k hk => Nat.lt_of_lt_of_le (hp k hk) hf.size) x A c ks (hs.fr hf) hx)
  have HNY := Lib.hid (fun W (hf : Fr Nob w W) => r_Not W p (fun k hk => Nat.lt_of_lt_of_le (hp k hk) hf.size) y B d js (ht.fr hf) hy)
  clear hs ht hp hz hx hy
  generalize iffS (x, ks.tr) (y, js.tr) = sr at *
  obtain ⟨op, nm, cm, va, lo, hi⟩ := x
  obtain ⟨op2, nm2, cm2, va2, lo2, hi2⟩ := y
  dsimp only at HN
  unfold fval at *
  go_enter Tryd.func111, Tryd.ntmps111
  go_upto_region 1 with fail
  obtain ⟨W0, hW0⟩ : ∃ W0, ((w.alloc (.cells #[.int .i64 op, .string nm, .int .i64 cm, .int .i64 va, .int .i64 lo, .int .i64 hi, .slice A ks.len c] 38)).alloc (.cells #[.int .i64 op2, .string nm2, .int .i64 cm2, .int .i64 va2, .int .i64 lo2, .int .i64 hi2, .slice B js.len d] 38)).alloc (.cells zarr 38) = W0 := ⟨_, rfl⟩
  have HX0 := Lib.hid (show Blk W0 w.heap.size 38 #[.int .i64 op, .string nm, .int .i64 cm, .int .i64 va, .int .i64 lo, .int .i64 hi, .slice A ks.len c] by rw [← hW0]; exact ((Blk.new _ _ _).alloc _).alloc _)
  have HY0 := Lib.hid (show Blk W0 (w.heap.size + 1) 38 #[.int .i64 op2, .string nm2, .int .i64 cm2, .int .i64 va2, .int .i64 lo2, .int .i64 hi2, .slice B js.len d] by rw [← hW0]; exact (Blk.new_eq (by simp)).alloc _)
  have HZ := Lib.hid (show Blk W0 (w.heap.size + 1 + 1) 38 zarr by rw [← hW0]; exact Blk.new_eq (by simp))
  have HF0 := Lib.hid (show Fr Nob w W0 by rw [← hW0]; exact (((Fr.refl _ _).alloc _).alloc _).alloc _)
  have HW0 := Lib.hid (show w.heap.size + 1 + 1 < W0.heap.size from HZ.out.lt)
  rw [hW0]
  clear hW0
  have xc := HX0.out.cell
  have xl := HX0.out.lt
  have yc := HY0.out.cell
  have yl := HY0.out.lt
  have rc := HZ.out.cell
  have rf := HZ.out.frozen
  have zl := HZ.out.lt
  cases hsm : sameS (⟨op, nm, cm, va, lo, hi⟩, ks.tr) (⟨op2, nm2, cm2, va2, lo2, hi2⟩, js.tr)
  case true =>
    have HR := Lib.hid (show sr = mk0 1 from by rw [HN.out, if_pos hsm])
    rw [hsm] at HSM
    clear HN hsm HNX HNY
    go_wp2_with (first
      | ((go_at_call 30); (with_reducible refine (HSM.out W0 HF0.out).mono ?_); rintro e w1 ⟨rfl, hf1⟩; replace HF0 := Lib.hid (HF0.out.call hf1 (fun _ h _ => h)); replace HZ := Lib.hid (HZ.out.fr hf1 (fun e => e)); replace HX0 := Lib.hid (HX0.out.fr hf1 (fun e => e)); replace HY0 := Lib.hid (HY0.out.fr hf1 (fun e => e)); replace HW0 := Lib.hid HZ.out.lt; replace rc := HZ.out.cell; replace rf := HZ.out.frozen; replace zl := HZ.out.lt; replace xc := HX0.out.cell; replace xl := HX0.out.lt; replace yc := HY0.out.cell; replace yl := HY0.out.lt; clear hf1)
      | (refine wpList_stBox rfl rfl (by rfl) (by rfl) (by exact infoRF7) (by rfl) (by first | exact HZ.out.alloc _ | exact HZ.out) (by rfl) ?_; intro W7 hb7 hf7; have HB7 := Lib.hid hb7; have HF7 := Lib.hid hf7; have rc7 := hb7.cell; clear hb7 hf7)
      | fail)
    refine bodyPost_ret (v := .agg #[.int .i64 1, .string ⟨#[]⟩, .int .i64 0, .int .i64 0, .int .i64 0, .int .i64 0, .slice none 0 0]) (by simp [results, Tryd.results111, go_sem, rc7]) rfl ?_
    exact FRes.const HR.out HF0.out (by omega) HF7.out
  have HN2 := Lib.hid (HN.out.trans (if_neg (by rw [hsm]; simp)))
  rw [hsm] at HSM
  clear HN hsm
  by_cases h3 : op = 1
  · have HR := Lib.hid (show sr = (⟨op2, nm2, cm2, va2, lo2, hi2⟩, js.tr) from by rw [HN2.out, if_pos h3])
    have hb : (op == 1) = true := by simpa using h3
    clear h3 HN2 HNX HNY
    go_wp2_with (first
      | ((go_at_call 30); (with_reducible refine (HSM.out W0 HF0.out).mono ?_); rintro e w1 ⟨rfl, hf1⟩; replace HF0 := Lib.hid (HF0.out.call hf1 (fun _ h _ => h)); replace HZ := Lib.hid (HZ.out.fr hf1 (fun e => e)); replace HX0 := Lib.hid (HX0.out.fr hf1 (fun e => e)); replace HY0 := Lib.hid (HY0.out.fr hf1 (fun e => e)); replace HW0 := Lib.hid HZ.out.lt; replace rc := HZ.out.cell; replace rf := HZ.out.frozen; replace zl := HZ.out.lt; replace xc := HX0.out.cell; replace xl := HX0.out.lt; replace yc := HY0.out.cell; replace yl := HY0.out.lt; clear hf1)
      | (refine wpList_stBox rfl rfl (by rfl) (by rfl) (by exact infoRF7) (by rfl) (by first | exact HZ.out.alloc _ | exact HZ.out) (by rfl) ?_; intro W7 hb7 hf7; have HB7 := Lib.hid hb7; have HF7 := Lib.hid hf7; have rc7 := hb7.cell; clear hb7 hf7)
      | fail)
    refine bodyPost_ret (v := .agg #[.int .i64 op2, .string nm2, .int .i64 cm2, .int .i64 va2, .int .i64 lo2, .int .i64 hi2, .slice B js.len d]) (by simp [results, Tryd.results111, go_sem, rc7]) rfl ?_
    exact FRes.same (x := ⟨op2, nm2, cm2, va2, lo2, hi2⟩) HR.out HT.out HP.out HF0.out (by omega) HF7.out
  have HN3 := Lib.hid (HN2.out.trans (if_neg h3))
  have hb3 : (op == 1) = false := by simpa using h3
  clear HN2 h3
  by_cases h4 : op2 = 1
  · have HR := Lib.hid (show sr = (⟨op, nm, cm, va, lo, hi⟩, ks.tr) from by rw [HN3.out, if_pos h4])
    have hb : (op2 == 1) = true := by simpa using h4
    clear h4 HN3 HNX HNY
    go_wp2_with (first
      | ((go_at_call 30); (with_reducible refine (HSM.out W0 HF0.out).mono ?_); rintro e w1 ⟨rfl, hf1⟩; replace HF0 := Lib.hid (HF0.out.call hf1 (fun _ h _ => h)); replace HZ := Lib.hid (HZ.out.fr hf1 (fun e => e)); replace HX0 := Lib.hid (HX0.out.fr hf1 (fun e => e)); replace HY0 := Lib.hid (HY0.out.fr hf1 (fun e => e)); replace HW0 := Lib.hid HZ.out.lt; replace rc := HZ.out.cell; replace rf := HZ.out.frozen; replace zl := HZ.out.lt; replace xc := HX0.out.cell; replace xl := HX0.out.lt; replace yc := HY0.out.cell; replace yl := HY0.out.lt; clear hf1)
      | (refine wpList_stBox rfl rfl (by rfl) (by rfl) (by exact infoRF7) (by rfl) (by first | exact HZ.out.alloc _ | exact HZ.out) (by rfl) ?_; intro W7 hb7 hf7; have HB7 := Lib.hid hb7; have HF7 := Lib.hid hf7; have rc7 := hb7.cell; clear hb7 hf7)
      | fail)
    refine bodyPost_ret (v := .agg #[.int .i64 op, .string nm, .int .i64 cm, .int .i64 va, .int .i64 lo, .int .i64 hi, .slice A ks.len c]) (by simp [results, Tryd.results111, go_sem, rc7]) rfl ?_
    exact FRes.same (x := ⟨op, nm, cm, va, lo, hi⟩) HR.out HS.out HP.out HF0.out (by omega) HF7.out
  have HN4 := Lib.hid (HN3.out.trans (if_neg h4))
  have hb4 : (op2 == 1) = false := by simpa using h4
  clear HN3 h4
  by_cases h5 : op = 2
  · have HR := Lib.hid (show sr = notS (⟨op2, nm2, cm2, va2, lo2, hi2⟩, js.tr) from by rw [HN4.out, if_pos h5])
    have hb : (op == 2) = true := by simpa using h5
    clear h5 HN4 HNX
    go_wp2_with (first
      | ((go_at_call 30); (with_reducible refine (HSM.out W0 HF0.out).mono ?_); rintro e w1 ⟨rfl, hf1⟩; replace HF0 := Lib.hid (HF0.out.call hf1 (fun _ h _ => h)); replace HZ := Lib.hid (HZ.out.fr hf1 (fun e => e)); replace HX0 := Lib.hid (HX0.out.fr hf1 (fun e => e)); replace HY0 := Lib.hid (HY0.out.fr hf1 (fun e => e)); replace HW0 := Lib.hid HZ.out.lt; replace rc := HZ.out.cell; replace rf := HZ.out.frozen; replace zl := HZ.out.lt; replace xc := HX0.out.cell; replace xl := HX0.out.lt; replace yc := HY0.out.cell; replace yl := HY0.out.lt; clear hf1)
      | ((go_at_call 108); (with_reducible refine (HNY.out w1 HF0.out).mono ?_); rintro e w2 ⟨o1, n1, m1, v1, l1, i1, A1, c1, k1, rfl, he, hs1, hf1⟩; have HE := Lib.hid he; have HS1 := Lib.hid hs1; have HFR := Lib.hid hf1; have HZ2 := Lib.hid (HZ.out.fr hf1 (fun e => e)); clear he hs1 hf1)
      | (refine wpList_stBox rfl rfl (by rfl) (by rfl) (by exact infoRF7) (by rfl) (by first | exact HZ2.out.alloc _ | exact HZ2.out) (by rfl) ?_; intro W7 hb7 hf7; have HB7 := Lib.hid hb7; have HF7 := Lib.hid hf7; have rc7 := hb7.cell; clear hb7 hf7)
      | fail)
    refine bodyPost_ret (v := .agg #[.int .i64 o1, .string n1, .int .i64 m1, .int .i64 v1, .int .i64 l1, .int .i64 i1, .slice A1 k1.len c1]) (by simp [results, Tryd.results111, go_sem, rc7]) rfl ?_
    exact FRes.put (x := ⟨o1, n1, m1, v1, l1, i1⟩) (HE.out.trans HR.out.symm) HS1.out (fun k hk _ => hq_call HP.out (by omega) HW0.out k hk) (HF0.out.call HFR.out (fun _ h _ => h)) (by omega) HF7.out
  have HN5 := Lib.hid (HN4.out.trans (if_neg h5))
  have hb5 : (op == 2) = false := by simpa using h5
  clear HN4 h5
  by_cases h6 : op2 = 2
  · have HR := Lib.hid (show sr = notS (⟨op, nm, cm, va, lo, hi⟩, ks.tr) from by rw [HN5.out, if_pos h6])
    have hb : (op2 == 2) = true := by simpa using h6
    clear h6 HN5 HNY
    go_wp2_with (first
      | ((go_at_call 30); (with_reducible refine (HSM.out W0 HF0.out).mono ?_); rintro e w1 ⟨rfl, hf1⟩; replace HF0 := Lib.hid (HF0.out.call hf1 (fun _ h _ => h)); replace HZ := Lib.hid (HZ.out.fr hf1 (fun e => e)); replace HX0 := Lib.hid (HX0.out.fr hf1 (fun e => e)); replace HY0 := Lib.hid (HY0.out.fr hf1 (fun e => e)); replace HW0 := Lib.hid HZ.out.lt; replace rc := HZ.out.cell; replace rf := HZ.out.frozen; replace zl := HZ.out.lt; replace xc := HX0.out.cell; replace xl := HX0.out.lt; replace yc := HY0.out.cell; replace yl := HY0.out.lt; clear hf1)
      | ((go_at_call 108); (with_reducible refine (HNX.out w1 HF0.out).mono ?_); rintro e w2 ⟨o1, n1, m1, v1, l1, i1, A1, c1, k1, rfl, he, hs1, hf1⟩; have HE := Lib.hid he; have HS1 := Lib.hid hs1; have HFR := Lib.hid hf1; have HZ2 := Lib.hid (HZ.out.fr hf1 (fun e => e)); clear he hs1 hf1)
      | (refine wpList_stBox rfl rfl (by rfl) (by rfl) (by exact infoRF7) (by rfl) (by first | exact HZ2.out.alloc _ | exact HZ2.out) (by rfl) ?_; intro W7 hb7 hf7; have HB7 := Lib.hid hb7; have HF7 := Lib.hid hf7; have rc7 := hb7.cell; clear hb7 hf7)
      | fail)
    refine bodyPost_ret (v := .agg #[.int .i64 o1, .string n1, .int .i64 m1, .int .i64 v1, .int .i64 l1, .int .i64 i1, .slice A1 k1.len c1]) (by simp [results, Tryd.results111, go_sem, rc7]) rfl ?_
    exact FRes.put (x := ⟨o1, n1, m1, v1, l1, i1⟩) (HE.out.trans HR.out.symm) HS1.out (fun k hk _ => hq_call HP.out (by omega) HW0.out k hk) (HF0.out.call HFR.out (fun _ h _ => h)) (by omega) HF7.out
  · have HR := Lib.hid (show sr = mk2 8 0 0 (⟨op, nm, cm, va, lo, hi⟩, ks.tr) (⟨op2, nm2, cm2, va2, lo2, hi2⟩, js.tr) from by rw [HN5.out, if_neg h6])
    have hb : (op2 == 2) = false := by simpa using h6
    clear HN5 HNX HNY h6
    go_wp2_with (first
      | ((go_at_call 30); (with_reducible refine (HSM.out W0 HF0.out).mono ?_); rintro e w1 ⟨rfl, hf1⟩; replace HF0 := Lib.hid (HF0.out.call hf1 (fun _ h _ => h)); replace HZ := Lib.hid (HZ.out.fr hf1 (fun e => e)); replace HX0 := Lib.hid (HX0.out.fr hf1 (fun e => e)); replace HY0 := Lib.hid (HY0.out.fr hf1 (fun e => e)); replace HW0 := Lib.hid HZ.out.lt; replace rc := HZ.out.cell; replace rf := HZ.out.frozen; replace zl := HZ.out.lt; replace xc := HX0.out.cell; replace xl := HX0.out.lt; replace yc := HY0.out.cell; replace yl := HY0.out.lt; clear hf1)
      | (refine wpList_stBox rfl rfl (by rfl) (by rfl) (by exact infoRF7) (by rfl) (by first | exact HZ.out.alloc _ | exact HZ.out) (by rfl) ?_; intro W7 hb7 hf7; have HB7 := Lib.hid hb7; have HF7 := Lib.hid hf7; have rc7 := hb7.cell; clear hb7 hf7)
      | fail)
    refine bodyPost_ret (v := .agg #[.int .i64 8, .string ⟨#[]⟩, .int .i64 0, .int .i64 0, .int .i64 0, .int .i64 0, .slice (some ⟨w1.heap.size, 0, none⟩) 2 2]) (by simp [results, Tryd.results111, go_sem, rc7]) rfl ?_
    exact FRes.lit2 HR.out HS.out HT.out HP.out HF0.out (by omega) HW0.out HF7.out
set_option maxRecDepth 100000 in
set_option maxHeartbeats 8000000 in
theorem r_Ev (w : World) (p : Nat → Prop) (hp : ∀ k, p k → k < w.heap.size) (ml mh : Int) (x : Nd) (A : Option Addr) (c : Nat) (ks : Fo) (hs : FoSlP p w A c ks) :
    Calls Tryd.prog 109 #[.int .i64 ml, .int .i64 mh, fval x A ks.len c] w (FRes w p (evS ml mh (x, ks.tr))) := by
  have HS := Lib.hid hs
  have HP := Lib.hid hp
  have HN := Lib.hid (show evS ml mh (x, ks.tr) = if x.op = 2 then mk0 2 else if x.op = 1 ∧ ml = 0 then mk0 1 else mk1 9 ml mh (x, ks.tr) from rfl)
  clear hs hp
  generalize evS ml mh (x, ks.tr) = sr at *
  obtain ⟨op, nm, cm, va, lo, hi⟩ := x
  dsimp only at HN
  unfold fval at *
  go_enter Tryd.func109, Tryd.ntmps109
  go_upto_region 1 with fail
  obtain ⟨W0, hW0⟩ : ∃ W0, (w.alloc (.cells #[.int .i64 op, .string nm, .int .i64 cm, .int .i64 va, .int .i64 lo, .int .i64 hi, .slice A ks.len c] 38)).alloc (.cells zarr 38) = W0 := ⟨_, rfl⟩
  have HX0 := Lib.hid (show Blk W0 w.heap.size 38 #[.int .i64 op, .string nm, .int .i64 cm, .int .i64 va, .int .i64 lo, .int .i64 hi, .slice A ks.len c] by rw [← hW0]; exact (Blk.new _ _ _).alloc _)
  have HZ := Lib.hid (show Blk W0 (w.heap.size + 1) 38 zarr by rw [← hW0]; exact Blk.new_eq (by simp))
  have HF0 := Lib.hid (show Fr Nob w W0 by rw [← hW0]; exact ((Fr.refl _ _).alloc _).alloc _)
  have HW0 := Lib.hid (show w.heap.size + 1 < W0.heap.size from HZ.out.lt)
  rw [hW0]
  clear hW0
  have xc := HX0.out.cell
  have xl := HX0.out.lt
  have rc := HZ.out.cell
  have rf := HZ.out.frozen
  have zl := HZ.out.lt
  by_cases h1 : op = 2
  · have HR := Lib.hid (show sr = mk0 2 from by rw [HN.out, if_pos h1])
    have hb : (op == 2) = true := by simpa using h1
    clear HN h1
    go_wp2_with (first
      | (refine wpList_stBox rfl rfl (by rfl) (by rfl) (by exact infoRF7) (by rfl) (by first | exact HZ.out.alloc _ | exact HZ.out) (by rfl) ?_; intro W7 hb7 hf7; have HB7 := Lib.hid hb7; have HF7 := Lib.hid hf7; have rc7 := hb7.cell; clear hb7 hf7)
      | fail)
    refine bodyPost_ret (v := .agg #[.int .i64 2, .string ⟨#[]⟩, .int .i64 0, .int .i64 0, .int .i64 0, .int .i64 0, .slice none 0 0]) (by simp [results, Tryd.results109, go_sem, rc7]) rfl ?_
    exact FRes.const HR.out HF0.out (by omega) HF7.out
  have HN2 := Lib.hid (HN.out.trans (if_neg h1))
  have hb1 : (op == 2) = false := by simpa using h1
  clear HN h1
  by_cases h2 : op = 1
  · have hb2 : (op == 1) = true := by simpa using h2
    by_cases h3 : ml = 0
    · have HR := Lib.hid (show sr = mk0 1 from by rw [HN2.out, if_pos ⟨h2, h3⟩])
      have hb3 : (ml == 0) = true := by simpa using h3
      clear HN2 h2 h3
      go_wp2_with (first
        | (refine wpList_stBox rfl rfl (by rfl) (by rfl) (by exact infoRF7) (by rfl) (by first | exact HZ.out.alloc _ | exact HZ.out) (by rfl) ?_; intro W7 hb7 hf7; have HB7 := Lib.hid hb7; have HF7 := Lib.hid hf7; have rc7 := hb7.cell; clear hb7 hf7)
        | fail)
      refine bodyPost_ret (v := .agg #[.int .i64 1, .string ⟨#[]⟩, .int .i64 0, .int .i64 0, .int .i64 0, .int .i64 0, .slice none 0 0]) (by simp [results, Tryd.results109, go_sem, rc7]) rfl ?_
      exact FRes.const HR.out HF0.out (by omega) HF7.out
    · have HR := Lib.hid (show sr = mk1 9 ml mh (⟨op, nm, cm, va, lo, hi⟩, ks.tr) from by rw [HN2.out, if_neg (fun e => h3 e.2)])
      have hb3 : (ml == 0) = false := by simpa using h3
      clear HN2 h2 h3
      go_wp2_with (first
        | (refine wpList_stBox rfl rfl (by rfl) (by rfl) (by exact infoRF7) (by rfl) (by first | exact HZ.out.alloc _ | exact HZ.out) (by rfl) ?_; intro W7 hb7 hf7; have HB7 := Lib.hid hb7; have HF7 := Lib.hid hf7; have rc7 := hb7.cell; clear hb7 hf7)
        | fail)
      refine bodyPost_ret (v := .agg #[.int .i64 9, .string ⟨#[]⟩, .int .i64 0, .int .i64 0, .int .i64 ml, .int .i64 mh, .slice (some ⟨W0.heap.size, 0, none⟩) 1 1]) (by simp [results, Tryd.results109, go_sem, rc7]) rfl ?_
      exact FRes.lit1 HR.out HS.out HP.out HF0.out (by omega) HW0.out HF7.out
  · have hb2 : (op == 1) = false := by simpa using h2
    have HR := Lib.hid (show sr = mk1 9 ml mh (⟨op, nm, cm, va, lo, hi⟩, ks.tr) from by rw [HN2.out, if_neg (fun e => h2 e.1)])
    clear HN2 h2
    go_wp2_with (first
      | (refine wpList_stBox rfl rfl (by rfl) (by rfl) (by exact infoRF7) (by rfl) (by first | exact HZ.out.alloc _ | exact HZ.out) (by rfl) ?_; intro W7 hb7 hf7; have HB7 := Lib.hid hb7; have HF7 := Lib.hid hf7; have rc7 := hb7.cell; clear hb7 hf7)
      | fail)
    refine bodyPost_ret (v := .agg #[.int .i64 9, .string ⟨#[]⟩, .int .i64 0, .int .i64 0, .int .i64 ml, .int .i64 mh, .slice (some ⟨W0.heap.size, 0, none⟩) 1 1]) (by simp [results, Tryd.results109, go_sem, rc7]) rfl ?_
    exact FRes.lit1 HR.out HS.out HP.out HF0.out (by omega) HW0.out HF7.out
set_option maxRecDepth 100000 in
set_option maxHeartbeats 8000000 in
theorem r_Un (w : World) (p : Nat → Prop) (hp : ∀ k, p k → k < w.heap.size) (ml mh : Int) (x y : Nd) (A B : Option Addr) (c d : Nat) (ks js : Fo) (hs : FoSlP p w A c ks) (ht : FoSlP p w B d js) :
    Calls Tryd.prog 112 #[.int .i64 ml, .int .i64 mh, fval x A ks.len c, fval y B js.len d] w (FRes w p (unS ml mh (x, ks.tr) (y, js.tr))) := by
  have HS := Lib.hid hs
  have HT := Lib.hid ht
  have HP := Lib.hid hp
  have HN := Lib.hid (show unS ml mh (x, ks.tr) (y, js.tr) = if y.op = 2 then mk0 2 else if x.op = 2 then (if ml = 0 then (y, js.tr) else mk0 2) else if x.op = 1 then evS ml mh (y, js.tr) else if y.op = 1 ∧ ml = 0 then mk0 1 else mk2 11 ml mh (x, ks.tr) (y, js.tr) from rfl)
  have HEV := Lib.hid (fun W (hf : Fr Nob w W) => r_Ev W p (fun k hk => Nat.lt_of_lt_of_le (hp k hk) hf.size) ml mh y B d js (ht.fr hf))
  clear hs ht hp
  generalize unS ml mh (x, ks.tr) (y, js.tr) = sr at *
  obtain ⟨op, nm, cm, va, lo, hi⟩ := x
  obtain ⟨op2, nm2, cm2, va2, lo2, hi2⟩ := y
  dsimp only at HN HEV
  unfold fval at *
  go_enter Tryd.func112, Tryd.ntmps112
  go_upto_region 1 with fail
  obtain ⟨W0, hW0⟩ : ∃ W0, ((w.alloc (.cells #[.int .i64 op, .string nm, .int .i64 cm, .int .i64 va, .int .i64 lo, .int .i64 hi, .slice A ks.len c] 38)).alloc (.cells #[.int .i64 op2, .string nm2, .int .i64 cm2, .int .i64 va2, .int .i64 lo2, .int .i64 hi2, .slice B js.len d] 38)).alloc (.cells zarr 38) = W0 := ⟨_, rfl⟩
  have HX0 := Lib.hid (show Blk W0 w.heap.size 38 #[.int .i64 op, .string nm, .int .i64 cm, .int .i64 va, .int .i64 lo, .int .i64 hi, .slice A ks.len c] by rw [← hW0]; exact ((Blk.new _ _ _).alloc _).alloc _)
  have HY0 := Lib.hid (show Blk W0 (w.heap.size + 1) 38 #[.int .i64 op2, .string nm2, .int .i64 cm2, .int .i64 va2, .int .i64 lo2, .int .i64 hi2, .slice B js.len d] by rw [← hW0]; exact (Blk.new_eq (by simp)).alloc _)
  have HZ := Lib.hid (show Blk W0 (w.heap.size + 1 + 1) 38 zarr by rw [← hW0]; exact Blk.new_eq (by simp))
  have HF0 := Lib.hid (show Fr Nob w W0 by rw [← hW0]; exact (((Fr.refl _ _).alloc _).alloc _).alloc _)
  have HW0 := Lib.hid (show w.heap.size + 1 + 1 < W0.heap.size from HZ.out.lt)
  rw [hW0]
  clear hW0
  have xc := HX0.out.cell
  have xl := HX0.out.lt
  have yc := HY0.out.cell
  have yl := HY0.out.lt
  have rc := HZ.out.cell
  have rf := HZ.out.frozen
  have zl := HZ.out.lt
  by_cases h1 : op2 = 2
  · have HR := Lib.hid (show sr = mk0 2 from by rw [HN.out, if_pos h1])
    have hb : (op2 == 2) = true := by simpa using h1
    clear HN HEV h1
    go_wp2_with (first
      | (refine wpList_stBox rfl rfl (by rfl) (by rfl) (by exact infoRF7) (by rfl) (by first | exact HZ.out.alloc _ | exact HZ.out) (by rfl) ?_; intro W7 hb7 hf7; have HB7 := Lib.hid hb7; have HF7 := Lib.hid hf7; have rc7 := hb7.cell; clear hb7 hf7)
      | fail)
    refine bodyPost_ret (v := .agg #[.int .i64 2, .string ⟨#[]⟩, .int .i64 0, .int .i64 0, .int .i64 0, .int .i64 0, .slice none 0 0]) (by simp [results, Tryd.results112, go_sem, rc7]) rfl ?_
    exact FRes.const HR.out HF0.out (by omega) HF7.out
  have HN2 := Lib.hid (HN.out.trans (if_neg h1))
  have hb1 : (op2 == 2) = false := by simpa using h1
  clear HN h1
  by_cases h2 : op = 2
  · have hb2 : (op == 2) = true := by simpa using h2
    have HN3 := Lib.hid (HN2.out.trans (if_pos h2))
    clear HN2 HEV h2
    by_cases h3 : ml = 0
    · have HR := Lib.hid (show sr = (⟨op2, nm2, cm2, va2, lo2, hi2⟩, js.tr) from by rw [HN3.out, if_pos h3])
      have hb3 : (ml == 0) = true := by simpa using h3
      clear HN3 h3
      go_wp2_with (first
        | (refine wpList_stBox rfl rfl (by rfl) (by rfl) (by exact infoRF7) (by rfl) (by first | exact HZ.out.alloc _ | exact HZ.out) (by rfl) ?_; intro W7 hb7 hf7; have HB7 := Lib.hid hb7; have HF7 := Lib.hid hf7; have rc7 := hb7.cell; clear hb7 hf7)
        | fail)
      refine bodyPost_ret (v := .agg #[.int .i64 op2, .string nm2, .int .i64 cm2, .int .i64 va2, .int .i64 lo2, .int .i64 hi2, .slice B js.len d]) (by simp [results, Tryd.results112, go_sem, rc7]) rfl ?_
      exact FRes.same (x := ⟨op2, nm2, cm2, va2, lo2, hi2⟩) HR.out HT.out HP.out HF0.out (by omega) HF7.out
    · have HR := Lib.hid (show sr = mk0 2 from by rw [HN3.out, if_neg h3])
      have hb3 : (ml == 0) = false := by simpa using h3
      clear HN3 h3
      go_wp2_with (first
        | (refine wpList_stBox rfl rfl (by rfl) (by rfl) (by exact infoRF7) (by rfl) (by first | exact HZ.out.alloc _ | exact HZ.out) (by rfl) ?_; intro W7 hb7 hf7; have HB7 := Lib.hid hb7; have HF7 := Lib.hid hf7; have rc7 := hb7.cell; clear hb7 hf7)
        | fail)
      refine bodyPost_ret (v := .agg #[.int .i64 2, .string ⟨#[]⟩, .int .i64 0, .int .i64 0, .int .i64 0, .int .i64 0, .slice none 0 0]) (by simp [results, Tryd.results112, go_sem, rc7]) rfl ?_
      exact FRes.const HR.out HF0.out (by omega) HF7.out
  have hb2 : (op == 2) = false := by simpa using h2
  have HN3 := Lib.hid (HN2.out.trans (if_neg h2))
  clear HN2 h2
  by_cases h4 : op = 1
  · have HR := Lib.hid (show sr = evS ml mh (⟨op2, nm2, cm2, va2, lo2, hi2⟩, js.tr) from by rw [HN3.out, if_pos h4])
    have hb : (op == 1) = true := by simpa using h4
    clear HN3 h4
    go_wp2_with (first
      | ((go_at_call 109); (with_reducible refine (HEV.out W0 HF0.out).mono ?_); rintro e w2 ⟨o1, n1, m1, v1, l1, i1, A1, c1, k1, rfl, he, hs1, hf1⟩; have HE := Lib.hid he; have HS1 := Lib.hid hs1; have HFR := Lib.hid hf1; have HZ2 := Lib.hid (HZ.out.fr hf1 (fun e => e)); clear he hs1 hf1)
      | (refine wpList_stBox rfl rfl (by rfl) (by rfl) (by exact infoRF7) (by rfl) (by first | exact HZ2.out.alloc _ | exact HZ2.out) (by rfl) ?_; intro W7 hb7 hf7; have HB7 := Lib.hid hb7; have HF7 := Lib.hid hf7; have rc7 := hb7.cell; clear hb7 hf7)
      | fail)
    refine bodyPost_ret (v := .agg #[.int .i64 o1, .string n1, .int .i64 m1, .int .i64 v1, .int .i64 l1, .int .i64 i1, .slice A1 k1.len c1]) (by simp [results, Tryd.results112, go_sem, rc7]) rfl ?_
    exact FRes.put (x := ⟨o1, n1, m1, v1, l1, i1⟩) (HE.out.trans HR.out.symm) HS1.out (fun k hk _ => hq_call HP.out (by omega) HW0.out k hk) (HF0.out.call HFR.out (fun _ h _ => h)) (by omega) HF7.out
  have HN4 := Lib.hid (HN3.out.trans (if_neg h4))
  have hb4 : (op == 1) = false := by simpa using h4
  clear HN3 HEV h4
  by_cases h5 : op2 = 1
  · have hb5 : (op2 == 1) = true := by simpa using h5
    by_cases h3 : ml = 0
    · have HR := Lib.hid (show sr = mk0 1 from by rw [HN4.out, if_pos ⟨h5, h3⟩])
      have hb3 : (ml == 0) = true := by simpa using h3
      clear HN4 h5 h3
      go_wp2_with (first
        | (refine wpList_stBox rfl rfl (by rfl) (by rfl) (by exact infoRF7) (by rfl) (by first | exact HZ.out.alloc _ | exact HZ.out) (by rfl) ?_; intro W7 hb7 hf7; have HB7 := Lib.hid hb7; have HF7 := Lib.hid hf7; have rc7 := hb7.cell; clear hb7 hf7)
        | fail)
      refine bodyPost_ret (v := .agg #[.int .i64 1, .string ⟨#[]⟩, .int .i64 0, .int .i64 0, .int .i64 0, .int .i64 0, .slice none 0 0]) (by simp [results, Tryd.results112, go_sem, rc7]) rfl ?_
      exact FRes.const HR.out HF0.out (by omega) HF7.out
    · have HR := Lib.hid (show sr = mk2 11 ml mh (⟨op, nm, cm, va, lo, hi⟩, ks.tr) (⟨op2, nm2, cm2, va2, lo2, hi2⟩, js.tr) from by rw [HN4.out, if_neg (fun e => h3 e.2)])
      have hb3 : (ml == 0) = false := by simpa using h3
      clear HN4 h5 h3
      go_wp2_with (first
        | (refine wpList_stBox rfl rfl (by rfl) (by rfl) (by exact infoRF7) (by rfl) (by first | exact HZ.out.alloc _ | exact HZ.out) (by rfl) ?_; intro W7 hb7 hf7; have HB7 := Lib.hid hb7; have HF7 := Lib.hid hf7; have rc7 := hb7.cell; clear hb7 hf7)
        | fail)
      refine bodyPost_ret (v := .agg #[.int .i64 11, .string ⟨#[]⟩, .int .i64 0, .int .i64 0, .int .i64 ml, .int .i64 mh, .slice (some ⟨W0.heap.size, 0, none⟩) 2 2]) (by simp [results, Tryd.results112, go_sem, rc7]) rfl ?_
      exact FRes.lit2 HR.out HS.out HT.out HP.out HF0.out (by omega) HW0.out HF7.out
  · have hb5 : (op2 == 1) = false := by simpa using h5
    have HR := Lib.hid (show sr = mk2 11 ml mh (⟨op, nm, cm, va, lo, hi⟩, ks.tr) (⟨op2, nm2, cm2, va2, lo2, hi2⟩, js.tr) from by rw [HN4.out, if_neg (fun e => h5 e.1)])
    clear HN4 h5
    go_wp2_with (first
      | (refine wpList_stBox rfl rfl (by rfl) (by rfl) (by exact infoRF7) (by rfl) (by first | exact HZ.out.alloc _ | exact HZ.out) (by rfl) ?_; intro W7 hb7 hf7; have HB7 := Lib.hid hb7; have HF7 := Lib.hid hf7; have rc7 := hb7.cell; clear hb7 hf7)
      | fail)
    refine bodyPost_ret (v := .agg #[.int .i64 11, .string ⟨#[]⟩, .int .i64 0, .int .i64 0, .int .i64 ml, .int .i64 mh, .slice (some ⟨W0.heap.size, 0, none⟩) 2 2]) (by simp [results, Tryd.results112, go_sem, rc7]) rfl ?_
    exact FRes.lit2 HR.out HS.out HT.out HP.out HF0.out (by omega) HW0.out HF7.out
end Go.Proofs.YtkmicfjcikilhaaDoor

/- The reference's made: nodes with one kid. -/
namespace Go.Proofs.YtkmicfjcikilhaaDoor
open Go.RowKit Go.Lib

theorem FoSlP.kid2 {p : Nat → Prop} {w : World} {A : Option Addr} {c : Nat} {x y : Nd} {B C : Option Addr} {d f : Nat} {js ls rs : Fo} (h : FoSlP p w A c (.cons x B d js (.cons y C f ls rs))) : ∃ b off, A = some ⟨b, off, none⟩ ∧ b < w.heap.size ∧ NdAt w b (off + 7) y C ls.len f ∧ FoSlP p w C f ls := by
  obtain ⟨b, off, hA⟩ := h.some_ (by simp [Fo.len])
  obtain ⟨h1, h2, h3, h4, h5, h6, g1, g2, g3, g4, g5, g6, g7⟩ := h.at_ b off hA
  exact ⟨b, off, hA, h2, NdAt.of g3, ⟨g4, g5, g6⟩⟩
section
variable {p : Nat → Prop} {N : Nat} {w : World}
theorem rq_not (hN : N ≤ w.heap.size) (op : Int) (nm : ByteArray) (cm va lo hi : Int) (A : Option Addr) (c : Nat) (ks : Fo) (s : S1) (he : ((⟨op, nm, cm, va, lo, hi⟩ : Nd), ks.tr) = s) (hs : FoSlP (QB p N w) w A c ks) (hc : coreS s) :
    Calls Tryd.prog 108 #[.agg #[.int .i64 op, .string nm, .int .i64 cm, .int .i64 va, .int .i64 lo, .int .i64 hi, .slice A ks.len c]] w (QRes p N w (notS s)) := by
  subst he
  exact (r_Not w (QB p N w) (fun _ hk => hk.2) ⟨op, nm, cm, va, lo, hi⟩ A c ks hs hc).mono fun _ _ h => h.toQ hN
theorem rq_and (hN : N ≤ w.heap.size) (op : Int) (nm : ByteArray) (cm va lo hi : Int) (A : Option Addr) (c : Nat) (ks : Fo) (s : S1) (he : ((⟨op, nm, cm, va, lo, hi⟩ : Nd), ks.tr) = s) (hs : FoSlP (QB p N w) w A c ks)
    (op2 : Int) (nm2 : ByteArray) (cm2 va2 lo2 hi2 : Int) (B : Option Addr) (d : Nat) (js : Fo) (t : S1) (he2 : ((⟨op2, nm2, cm2, va2, lo2, hi2⟩ : Nd), js.tr) = t) (ht : FoSlP (QB p N w) w B d js) (hz : szS s ≤ 100000) :
    Calls Tryd.prog 110 #[.agg #[.int .i64 op, .string nm, .int .i64 cm, .int .i64 va, .int .i64 lo, .int .i64 hi, .slice A ks.len c], .agg #[.int .i64 op2, .string nm2, .int .i64 cm2, .int .i64 va2, .int .i64 lo2, .int .i64 hi2, .slice B js.len d]] w (QRes p N w (andS s t)) := by
  subst he he2
  exact (r_And w (QB p N w) (fun _ hk => hk.2) ⟨op, nm, cm, va, lo, hi⟩ ⟨op2, nm2, cm2, va2, lo2, hi2⟩ A B c d ks js hs ht (szS_le hz)).mono fun _ _ h => h.toQ hN
theorem rq_iff (hN : N ≤ w.heap.size) (op : Int) (nm : ByteArray) (cm va lo hi : Int) (A : Option Addr) (c : Nat) (ks : Fo) (s : S1) (he : ((⟨op, nm, cm, va, lo, hi⟩ : Nd), ks.tr) = s) (hs : FoSlP (QB p N w) w A c ks)
    (op2 : Int) (nm2 : ByteArray) (cm2 va2 lo2 hi2 : Int) (B : Option Addr) (d : Nat) (js : Fo) (t : S1) (he2 : ((⟨op2, nm2, cm2, va2, lo2, hi2⟩ : Nd), js.tr) = t) (ht : FoSlP (QB p N w) w B d js) (hc : coreS s) (hc2 : coreS t) (hz : szS s ≤ 100000) :
    Calls Tryd.prog 111 #[.agg #[.int .i64 op, .string nm, .int .i64 cm, .int .i64 va, .int .i64 lo, .int .i64 hi, .slice A ks.len c], .agg #[.int .i64 op2, .string nm2, .int .i64 cm2, .int .i64 va2, .int .i64 lo2, .int .i64 hi2, .slice B js.len d]] w (QRes p N w (iffS s t)) := by
  subst he he2
  exact (r_Iff w (QB p N w) (fun _ hk => hk.2) ⟨op, nm, cm, va, lo, hi⟩ ⟨op2, nm2, cm2, va2, lo2, hi2⟩ A B c d ks js hs ht hc hc2 (szS_le hz)).mono fun _ _ h => h.toQ hN
theorem rq_ev (hN : N ≤ w.heap.size) (ml mh : Int) (op : Int) (nm : ByteArray) (cm va lo hi : Int) (A : Option Addr) (c : Nat) (ks : Fo) (s : S1) (he : ((⟨op, nm, cm, va, lo, hi⟩ : Nd), ks.tr) = s) (hs : FoSlP (QB p N w) w A c ks) :
    Calls Tryd.prog 109 #[.int .i64 ml, .int .i64 mh, .agg #[.int .i64 op, .string nm, .int .i64 cm, .int .i64 va, .int .i64 lo, .int .i64 hi, .slice A ks.len c]] w (QRes p N w (evS ml mh s)) := by
  subst he
  exact (r_Ev w (QB p N w) (fun _ hk => hk.2) ml mh ⟨op, nm, cm, va, lo, hi⟩ A c ks hs).mono fun _ _ h => h.toQ hN
theorem rq_un (hN : N ≤ w.heap.size) (ml mh : Int) (op : Int) (nm : ByteArray) (cm va lo hi : Int) (A : Option Addr) (c : Nat) (ks : Fo) (s : S1) (he : ((⟨op, nm, cm, va, lo, hi⟩ : Nd), ks.tr) = s) (hs : FoSlP (QB p N w) w A c ks)
    (op2 : Int) (nm2 : ByteArray) (cm2 va2 lo2 hi2 : Int) (B : Option Addr) (d : Nat) (js : Fo) (t : S1) (he2 : ((⟨op2, nm2, cm2, va2, lo2, hi2⟩ : Nd), js.tr) = t) (ht : FoSlP (QB p N w) w B d js) :
    Calls Tryd.prog 112 #[.int .i64 ml, .int .i64 mh, .agg #[.int .i64 op, .string nm, .int .i64 cm, .int .i64 va, .int .i64 lo, .int .i64 hi, .slice A ks.len c], .agg #[.int .i64 op2, .string nm2, .int .i64 cm2, .int .i64 va2, .int .i64 lo2, .int .i64 hi2, .slice B js.len d]] w (QRes p N w (unS ml mh s t)) := by
  subst he he2
  exact (r_Un w (QB p N w) (fun _ hk => hk.2) ml mh ⟨op, nm, cm, va, lo, hi⟩ ⟨op2, nm2, cm2, va2, lo2, hi2⟩ A B c d ks js hs ht).mono fun _ _ h => h.toQ hN
end
/-- A node, in memory, with its kids. -/
structure NdK (p : Nat → Prop) (w : World) (b off : Nat) (y : Nd) (B : Option Addr) (d : Nat) (js : Fo) : Prop where
  nd : NdAt w b off y B js.len d
  sl : FoSlP p w B d js
/-- What the recursion gives of a kid. -/
def MKid (p : Nat → Prop) (w : World) (y : Nd) (B : Option Addr) (d : Nat) (js : Fo) (s : S1) : Prop := ∀ W, Fr Nob w W → w.heap.size + 1 + 1 ≤ W.heap.size → Calls Tryd.prog 65 #[.agg #[.int .i64 y.op, .string y.name, .int .i64 y.cmp, .int .i64 y.val, .int .i64 y.lo, .int .i64 y.hi, .slice B js.len d]] W (QRes p (w.heap.size + 1 + 1) W s)
set_option maxRecDepth 100000 in
set_option maxHeartbeats 8000000 in
theorem rm_4 (w : World) (p : Nat → Prop) (hp : ∀ k, p k → k < w.heap.size) (nm : ByteArray) (cm va lo hi : Int) (b off c : Nat) (hb : b < w.heap.size) (y : Nd) (B : Option Addr) (d : Nat) (js : Fo) (hk : NdK p w b off y B d js) (s : S1) (hcore : coreS s) (hmk : MKid p w y B d js s) :
    Calls Tryd.prog 65 #[.agg #[.int .i64 4, .string nm, .int .i64 cm, .int .i64 va, .int .i64 lo, .int .i64 hi, .slice (some ⟨b, off, none⟩) 1 c]] w (FRes w p (notS s)) := by
  have HP := Lib.hid hp
  have HK0 := Lib.hid hk.nd
  have HC := Lib.hid hcore
  unfold MKid at hmk
  have HMK := Lib.hid hmk
  clear hp hk hcore hmk
  go_enter Tryd.func65, Tryd.ntmps65
  go_upto_region 1 with fail
  obtain ⟨W0, hW0⟩ : ∃ W0, (w.alloc (.cells #[.int .i64 4, .string nm, .int .i64 cm, .int .i64 va, .int .i64 lo, .int .i64 hi, .slice (some ⟨b, off, none⟩) 1 c] 38)).alloc (.cells zarr 38) = W0 := ⟨_, rfl⟩
  have HM0 := Lib.hid (show Blk W0 w.heap.size 38 #[.int .i64 4, .string nm, .int .i64 cm, .int .i64 va, .int .i64 lo, .int .i64 hi, .slice (some ⟨b, off, none⟩) 1 c] by rw [← hW0]; exact (Blk.new _ _ _).alloc _)
  have HZ := Lib.hid (show Blk W0 (w.heap.size + 1) 38 zarr by rw [← hW0]; exact Blk.new_eq (by simp))
  have HF0 := Lib.hid (show Fr Nob w W0 by rw [← hW0]; exact ((Fr.refl _ _).alloc _).alloc _)
  have HN0 := Lib.hid (show w.heap.size + 1 + 1 ≤ W0.heap.size from HZ.out.lt)
  have HW0 := Lib.hid (show w.heap.size + 1 < w.heap.size + 1 + 1 from Nat.lt_succ_self _)
  rw [hW0]
  clear hW0
  have mc_ := HM0.out.cell
  have ml_ := HM0.out.lt
  obtain ⟨d0, d1, d2, d3, d4, d5, d6⟩ := HK0.out.fr HF0.out
  have hbl := Nat.lt_of_lt_of_le hb HF0.out.size
  go_upto_region 4 with (first
    | ((go_at_call 65); (with_reducible refine (HMK.out _ HF0.out HN0.out).mono ?_); rintro e w1 ⟨o1, n1, m1, v1, l1, i1, A1, c1, k1, rfl, he1, hs1, hf1⟩; have HE1 := Lib.hid he1; have HS1 := Lib.hid hs1; have HG1 := Lib.hid hf1; clear he1 hs1 hf1)
    | (refine wpList_stBox rfl rfl (by rfl) (by rfl) (by exact infoRF7) (by rfl) (by exact Blk.new _ _ _) (by rfl) ?_; intro W7 hb7 hf7; have HX1 := Lib.hid hb7; have HF7 := Lib.hid (((Fr.refl Nob w1).alloc _).call hf7 (fun i e hlt => by have : i = w1.heap.size := e; omega)); clear hb7 hf7)
    | fail)
  have HG7 := Lib.hid (HG1.out.call HF7.out (fun _ h _ => h))
  replace HS1 := Lib.hid (HS1.out.frQ HF7.out)
  have HN7 := Lib.hid (Nat.le_trans HN0.out HG7.out.size)
  have HGX1 := Lib.hid (Nat.le_trans HN0.out HG1.out.size)
  replace HF0 := Lib.hid (HF0.out.call HG7.out (fun _ h _ => h))
  replace HM0 := Lib.hid (HM0.out.fr HG7.out (fun e => e))
  replace HZ := Lib.hid (HZ.out.fr HG7.out (fun e => e))
  clear HF7 HG1
  generalize w1.heap.size = gx1 at *
  clear HG7 HN0
  replace mc_ := HM0.out.cell
  replace ml_ := HM0.out.lt
  have xc1 := HX1.out.cell
  have xl1 := HX1.out.lt
  have rc := HZ.out.cell
  have rf := HZ.out.frozen
  have zl := HZ.out.lt
  clear d0 d1 d2 d3 d4 d5 d6 hbl HMK HK0
  go_wp2_with (first
    | ((go_at_call 108); (with_reducible refine (rq_not HN7.out o1 n1 m1 v1 l1 i1 A1 c1 k1 s HE1.out HS1.out HC.out).mono ?_); rintro e w5 ⟨o5, n5, m5, v5, l5, i5, A5, c5, k5, rfl, he5, hs5, hf5⟩; have HE5 := Lib.hid he5; have HS5 := Lib.hid hs5; have HF5 := Lib.hid (HF0.out.call hf5 (fun _ h _ => h)); have HZ5 := Lib.hid (HZ.out.fr hf5 (fun e => e)); clear he5 hs5 hf5)
    | (refine wpList_stBox rfl rfl (by rfl) (by rfl) (by exact infoRF7) (by rfl) (by first | exact HZ5.out.alloc _ | exact HZ5.out) (by rfl) ?_; intro W7 hb7 hf7; have HB7 := Lib.hid hb7; have HF7 := Lib.hid hf7; have rc7 := hb7.cell; clear hb7 hf7)
    | fail)
  refine bodyPost_ret (v := .agg #[.int .i64 o5, .string n5, .int .i64 m5, .int .i64 v5, .int .i64 l5, .int .i64 i5, .slice A5 k5.len c5]) (by simp [results, Tryd.results65, go_sem, rc7]) rfl ?_
  exact FRes.putQ (x := ⟨o5, n5, m5, v5, l5, i5⟩) HE5.out HS5.out HP.out HF5.out (by omega) HW0.out HF7.out
set_option maxRecDepth 100000 in
set_option maxHeartbeats 8000000 in
theorem rm_9 (w : World) (p : Nat → Prop) (hp : ∀ k, p k → k < w.heap.size) (nm : ByteArray) (cm va lo hi : Int) (b off c : Nat) (hb : b < w.heap.size) (y : Nd) (B : Option Addr) (d : Nat) (js : Fo) (hk : NdK p w b off y B d js) (s : S1) (hcore : coreS s) (hmk : MKid p w y B d js s) :
    Calls Tryd.prog 65 #[.agg #[.int .i64 9, .string nm, .int .i64 cm, .int .i64 va, .int .i64 lo, .int .i64 hi, .slice (some ⟨b, off, none⟩) 1 c]] w (FRes w p (evS lo hi s)) := by
  have HP := Lib.hid hp
  have HK0 := Lib.hid hk.nd
  have HC := Lib.hid hcore
  unfold MKid at hmk
  have HMK := Lib.hid hmk
  clear hp hk hcore hmk
  go_enter Tryd.func65, Tryd.ntmps65
  go_upto_region 1 with fail
  obtain ⟨W0, hW0⟩ : ∃ W0, (w.alloc (.cells #[.int .i64 9, .string nm, .int .i64 cm, .int .i64 va, .int .i64 lo, .int .i64 hi, .slice (some ⟨b, off, none⟩) 1 c] 38)).alloc (.cells zarr 38) = W0 := ⟨_, rfl⟩
  have HM0 := Lib.hid (show Blk W0 w.heap.size 38 #[.int .i64 9, .string nm, .int .i64 cm, .int .i64 va, .int .i64 lo, .int .i64 hi, .slice (some ⟨b, off, none⟩) 1 c] by rw [← hW0]; exact (Blk.new _ _ _).alloc _)
  have HZ := Lib.hid (show Blk W0 (w.heap.size + 1) 38 zarr by rw [← hW0]; exact Blk.new_eq (by simp))
  have HF0 := Lib.hid (show Fr Nob w W0 by rw [← hW0]; exact ((Fr.refl _ _).alloc _).alloc _)
  have HN0 := Lib.hid (show w.heap.size + 1 + 1 ≤ W0.heap.size from HZ.out.lt)
  have HW0 := Lib.hid (show w.heap.size + 1 < w.heap.size + 1 + 1 from Nat.lt_succ_self _)
  rw [hW0]
  clear hW0
  have mc_ := HM0.out.cell
  have ml_ := HM0.out.lt
  obtain ⟨d0, d1, d2, d3, d4, d5, d6⟩ := HK0.out.fr HF0.out
  have hbl := Nat.lt_of_lt_of_le hb HF0.out.size
  go_upto_region 4 with (first
    | ((go_at_call 65); (with_reducible refine (HMK.out _ HF0.out HN0.out).mono ?_); rintro e w1 ⟨o1, n1, m1, v1, l1, i1, A1, c1, k1, rfl, he1, hs1, hf1⟩; have HE1 := Lib.hid he1; have HS1 := Lib.hid hs1; have HG1 := Lib.hid hf1; clear he1 hs1 hf1)
    | (refine wpList_stBox rfl rfl (by rfl) (by rfl) (by exact infoRF7) (by rfl) (by exact Blk.new _ _ _) (by rfl) ?_; intro W7 hb7 hf7; have HX1 := Lib.hid hb7; have HF7 := Lib.hid (((Fr.refl Nob w1).alloc _).call hf7 (fun i e hlt => by have : i = w1.heap.size := e; omega)); clear hb7 hf7)
    | fail)
  have HG7 := Lib.hid (HG1.out.call HF7.out (fun _ h _ => h))
  replace HS1 := Lib.hid (HS1.out.frQ HF7.out)
  have HN7 := Lib.hid (Nat.le_trans HN0.out HG7.out.size)
  have HGX1 := Lib.hid (Nat.le_trans HN0.out HG1.out.size)
  replace HF0 := Lib.hid (HF0.out.call HG7.out (fun _ h _ => h))
  replace HM0 := Lib.hid (HM0.out.fr HG7.out (fun e => e))
  replace HZ := Lib.hid (HZ.out.fr HG7.out (fun e => e))
  clear HF7 HG1
  generalize w1.heap.size = gx1 at *
  clear HG7 HN0
  replace mc_ := HM0.out.cell
  replace ml_ := HM0.out.lt
  have xc1 := HX1.out.cell
  have xl1 := HX1.out.lt
  have rc := HZ.out.cell
  have rf := HZ.out.frozen
  have zl := HZ.out.lt
  clear d0 d1 d2 d3 d4 d5 d6 hbl HMK HK0
  go_wp2_with (first
    | ((go_at_call 109); (with_reducible refine (rq_ev HN7.out lo hi o1 n1 m1 v1 l1 i1 A1 c1 k1 s HE1.out HS1.out).mono ?_); rintro e w5 ⟨o5, n5, m5, v5, l5, i5, A5, c5, k5, rfl, he5, hs5, hf5⟩; have HE5 := Lib.hid he5; have HS5 := Lib.hid hs5; have HF5 := Lib.hid (HF0.out.call hf5 (fun _ h _ => h)); have HZ5 := Lib.hid (HZ.out.fr hf5 (fun e => e)); clear he5 hs5 hf5)
    | (refine wpList_stBox rfl rfl (by rfl) (by rfl) (by exact infoRF7) (by rfl) (by first | exact HZ5.out.alloc _ | exact HZ5.out) (by rfl) ?_; intro W7 hb7 hf7; have HB7 := Lib.hid hb7; have HF7 := Lib.hid hf7; have rc7 := hb7.cell; clear hb7 hf7)
    | fail)
  refine bodyPost_ret (v := .agg #[.int .i64 o5, .string n5, .int .i64 m5, .int .i64 v5, .int .i64 l5, .int .i64 i5, .slice A5 k5.len c5]) (by simp [results, Tryd.results65, go_sem, rc7]) rfl ?_
  exact FRes.putQ (x := ⟨o5, n5, m5, v5, l5, i5⟩) HE5.out HS5.out HP.out HF5.out (by omega) HW0.out HF7.out
end Go.Proofs.YtkmicfjcikilhaaDoor

/- The reference's made: kind 10; the drawn regions' cells. -/
namespace Go.Proofs.YtkmicfjcikilhaaDoor
open Go.RowKit Go.Lib

section
variable {W : World} {b1 t1 b2 t2 b3 t3 : Nat} {x0 x1 x2 x3 x4 x5 x6 y0 y1 y2 y3 y4 y5 y6 m0 m1 m2 m3 m4 m5 m6 : Value}
theorem Bxs.set7 {a1 a2 a3 : Array Value} (h : Bxs W b1 t1 b2 t2 b3 t3 a1 a2 a3) {z : Nat} (h1 : b1 ≠ z) (h2 : b2 ≠ z) (h3 : b3 ≠ z) (v0 v1 v2 v3 v4 v5 v6 : Value) : Bxs (((((((W.setCell ⟨z, 0, none⟩ v0).setCell ⟨z, 1, none⟩ v1).setCell ⟨z, 2, none⟩ v2).setCell ⟨z, 3, none⟩ v3).setCell ⟨z, 4, none⟩ v4).setCell ⟨z, 5, none⟩ v5).setCell ⟨z, 6, none⟩ v6) b1 t1 b2 t2 b3 t3 a1 a2 a3 :=
  have hf := set7_fr W z v0 v1 v2 v3 v4 v5 v6
  ⟨h.bx.fr hf (fun e => h1 e), h.by_.fr hf (fun e => h2 e), h.bm.fr hf (fun e => h3 e)⟩
theorem Bxs.s10 {a2 : Array Value} (h : Bxs W b1 t1 b2 t2 b3 t3 #[x0, x1, x2, x3, x4, x5, x6] a2 #[m0, m1, m2, m3, m4, m5, m6]) :
    W.cell? ⟨b3, 4, none⟩ = some m4 ∧ W.cell? ⟨b3, 5, none⟩ = some m5 ∧ W.cell? ⟨b1, 0, none⟩ = some x0 ∧ W.cell? ⟨b1, 1, none⟩ = some x1 ∧ W.cell? ⟨b1, 2, none⟩ = some x2 ∧ W.cell? ⟨b1, 3, none⟩ = some x3 ∧ W.cell? ⟨b1, 4, none⟩ = some x4 ∧ W.cell? ⟨b1, 5, none⟩ = some x5 ∧ W.cell? ⟨b1, 6, none⟩ = some x6 :=
  ⟨h.m 4, h.m 5, h.x 0, h.x 1, h.x 2, h.x 3, h.x 4, h.x 5, h.x 6⟩
theorem Bxs.s6 {a3 : Array Value} (h : Bxs W b1 t1 b2 t2 b3 t3 #[x0, x1, x2, x3, x4, x5, x6] #[y0, y1, y2, y3, y4, y5, y6] a3) :
    W.cell? ⟨b1, 0, none⟩ = some x0 ∧ W.cell? ⟨b1, 1, none⟩ = some x1 ∧ W.cell? ⟨b1, 2, none⟩ = some x2 ∧ W.cell? ⟨b1, 3, none⟩ = some x3 ∧ W.cell? ⟨b1, 4, none⟩ = some x4 ∧ W.cell? ⟨b1, 5, none⟩ = some x5 ∧ W.cell? ⟨b1, 6, none⟩ = some x6 ∧ W.cell? ⟨b2, 0, none⟩ = some y0 ∧ W.cell? ⟨b2, 1, none⟩ = some y1 ∧ W.cell? ⟨b2, 2, none⟩ = some y2 ∧ W.cell? ⟨b2, 3, none⟩ = some y3 ∧ W.cell? ⟨b2, 4, none⟩ = some y4 ∧ W.cell? ⟨b2, 5, none⟩ = some y5 ∧ W.cell? ⟨b2, 6, none⟩ = some y6 :=
  ⟨h.x 0, h.x 1, h.x 2, h.x 3, h.x 4, h.x 5, h.x 6, h.y 0, h.y 1, h.y 2, h.y 3, h.y 4, h.y 5, h.y 6⟩
theorem Bxs.s12 (h : Bxs W b1 t1 b2 t2 b3 t3 #[x0, x1, x2, x3, x4, x5, x6] #[y0, y1, y2, y3, y4, y5, y6] #[m0, m1, m2, m3, m4, m5, m6]) :
    W.cell? ⟨b3, 4, none⟩ = some m4 ∧ W.cell? ⟨b3, 5, none⟩ = some m5 ∧ W.cell? ⟨b1, 0, none⟩ = some x0 ∧ W.cell? ⟨b1, 1, none⟩ = some x1 ∧ W.cell? ⟨b1, 2, none⟩ = some x2 ∧ W.cell? ⟨b1, 3, none⟩ = some x3 ∧ W.cell? ⟨b1, 4, none⟩ = some x4 ∧ W.cell? ⟨b1, 5, none⟩ = some x5 ∧ W.cell? ⟨b1, 6, none⟩ = some x6 ∧ W.cell? ⟨b2, 0, none⟩ = some y0 ∧ W.cell? ⟨b2, 1, none⟩ = some y1 ∧ W.cell? ⟨b2, 2, none⟩ = some y2 ∧ W.cell? ⟨b2, 3, none⟩ = some y3 ∧ W.cell? ⟨b2, 4, none⟩ = some y4 ∧ W.cell? ⟨b2, 5, none⟩ = some y5 ∧ W.cell? ⟨b2, 6, none⟩ = some y6 :=
  ⟨h.m 4, h.m 5, h.s6⟩
end
set_option maxRecDepth 100000 in
set_option maxHeartbeats 16000000 in
theorem rm_10 (w : World) (p : Nat → Prop) (hp : ∀ k, p k → k < w.heap.size) (nm : ByteArray) (cm va lo hi : Int) (b off c : Nat) (hb : b < w.heap.size) (y : Nd) (B : Option Addr) (d : Nat) (js : Fo) (hk : NdK p w b off y B d js) (s : S1) (hcore : coreS s) (hmk : MKid p w y B d js s) :
    Calls Tryd.prog 65 #[.agg #[.int .i64 10, .string nm, .int .i64 cm, .int .i64 va, .int .i64 lo, .int .i64 hi, .slice (some ⟨b, off, none⟩) 1 c]] w (FRes w p (notS (evS lo hi (notS s)))) := by
  have HC2 := Lib.hid (core_ev (lo := lo) (hi := hi) (core_not hcore))
  have HP := Lib.hid hp
  have HK0 := Lib.hid hk.nd
  have HC := Lib.hid hcore
  unfold MKid at hmk
  have HMK := Lib.hid hmk
  clear hp hk hcore hmk
  go_enter Tryd.func65, Tryd.ntmps65
  go_upto_region 1 with fail
  obtain ⟨W0, hW0⟩ : ∃ W0, (w.alloc (.cells #[.int .i64 10, .string nm, .int .i64 cm, .int .i64 va, .int .i64 lo, .int .i64 hi, .slice (some ⟨b, off, none⟩) 1 c] 38)).alloc (.cells zarr 38) = W0 := ⟨_, rfl⟩
  have HM0 := Lib.hid (show Blk W0 w.heap.size 38 #[.int .i64 10, .string nm, .int .i64 cm, .int .i64 va, .int .i64 lo, .int .i64 hi, .slice (some ⟨b, off, none⟩) 1 c] by rw [← hW0]; exact (Blk.new _ _ _).alloc _)
  have HZ := Lib.hid (show Blk W0 (w.heap.size + 1) 38 zarr by rw [← hW0]; exact Blk.new_eq (by simp))
  have HF0 := Lib.hid (show Fr Nob w W0 by rw [← hW0]; exact ((Fr.refl _ _).alloc _).alloc _)
  have HN0 := Lib.hid (show w.heap.size + 1 + 1 ≤ W0.heap.size from HZ.out.lt)
  have HW0 := Lib.hid (show w.heap.size + 1 < w.heap.size + 1 + 1 from Nat.lt_succ_self _)
  rw [hW0]
  clear hW0
  have mc_ := HM0.out.cell
  have ml_ := HM0.out.lt
  obtain ⟨d0, d1, d2, d3, d4, d5, d6⟩ := HK0.out.fr HF0.out
  have hbl := Nat.lt_of_lt_of_le hb HF0.out.size
  go_upto_region 4 with (first
    | ((go_at_call 65); (with_reducible refine (HMK.out _ HF0.out HN0.out).mono ?_); rintro e w1 ⟨o1, n1, m1, v1, l1, i1, A1, c1, k1, rfl, he1, hs1, hf1⟩; have HE1 := Lib.hid he1; have HS1 := Lib.hid hs1; have HG1 := Lib.hid hf1; clear he1 hs1 hf1)
    | (refine wpList_stBox rfl rfl (by rfl) (by rfl) (by exact infoRF7) (by rfl) (by exact Blk.new _ _ _) (by rfl) ?_; intro W7 hb7 hf7; have HX1 := Lib.hid hb7; have HF7 := Lib.hid (((Fr.refl Nob w1).alloc _).call hf7 (fun i e hlt => by have : i = w1.heap.size := e; omega)); clear hb7 hf7)
    | fail)
  have HG7 := Lib.hid (HG1.out.call HF7.out (fun _ h _ => h))
  replace HS1 := Lib.hid (HS1.out.frQ HF7.out)
  have HN7 := Lib.hid (Nat.le_trans HN0.out HG7.out.size)
  have HGX1 := Lib.hid (Nat.le_trans HN0.out HG1.out.size)
  replace HF0 := Lib.hid (HF0.out.call HG7.out (fun _ h _ => h))
  replace HM0 := Lib.hid (HM0.out.fr HG7.out (fun e => e))
  replace HZ := Lib.hid (HZ.out.fr HG7.out (fun e => e))
  clear HF7 HG1
  generalize w1.heap.size = gx1 at *
  clear HG7 HN0
  replace mc_ := HM0.out.cell
  replace ml_ := HM0.out.lt
  have xc1 := HX1.out.cell
  have xl1 := HX1.out.lt
  have rc := HZ.out.cell
  have rf := HZ.out.frozen
  have zl := HZ.out.lt
  clear d0 d1 d2 d3 d4 d5 d6 hbl HMK HK0
  go_upto_region 9 with fail
  have HFD := Lib.hid HF0.out.drew
  have HZD := Lib.hid HZ.out.drew
  have HND := Lib.hid (show w.heap.size + 1 + 1 ≤ W7.drew.heap.size from HN7.out)
  have HSD := Lib.hid (HS1.out.frQ (Fr.refl Nob W7).drew)
  have HBD := Lib.hid (show Bxs W7.drew _ _ _ _ _ _ _ _ _ from ⟨HX1.out.drew, HM0.out.drew, HM0.out.drew⟩)
  have hn1 : gx1 ≠ w.heap.size + 1 := by have := HGX1.out; omega
  have hn2 : w.heap.size ≠ w.heap.size + 1 := by omega
  clear xc1 mc_
  go_region_held3 (fun W => W.cell? ⟨w.heap.size, 4, none⟩ = some (.int .i64 lo) ∧ W.cell? ⟨w.heap.size, 5, none⟩ = some (.int .i64 hi) ∧ W.cell? ⟨gx1, 0, none⟩ = some (.int .i64 o1) ∧ W.cell? ⟨gx1, 1, none⟩ = some (.string n1) ∧ W.cell? ⟨gx1, 2, none⟩ = some (.int .i64 m1) ∧ W.cell? ⟨gx1, 3, none⟩ = some (.int .i64 v1) ∧ W.cell? ⟨gx1, 4, none⟩ = some (.int .i64 l1) ∧ W.cell? ⟨gx1, 5, none⟩ = some (.int .i64 i1) ∧ W.cell? ⟨gx1, 6, none⟩ = some (.slice A1 k1.len c1))
    (first | with_reducible exact HBD.out.s10 | with_reducible exact HB2.out.s10 | with_reducible exact HB3.out.s10 | with_reducible exact HB4.out.s10 | with_reducible exact (HB4.out.set7 hn1 hn2 hn2 (.int .i64 o4) (.string n4) (.int .i64 m4) (.int .i64 v4) (.int .i64 l4) (.int .i64 i4) (.slice A4 k4.len c4)).s10)
    (first
      | ((go_at_call 108); (with_reducible refine (rq_not HND.out o1 n1 m1 v1 l1 i1 A1 c1 k1 s HE1.out HSD.out HC.out).mono ?_); rintro e w2 ⟨o2, n2, m2, v2, l2, i2, A2, c2, k2, rfl, he2, hs2, hf2⟩; have HE2 := Lib.hid he2; have HS2 := Lib.hid hs2; have HF2 := Lib.hid (HFD.out.call hf2 (fun _ h _ => h)); have HZ2 := Lib.hid (HZD.out.fr hf2 (fun e => e)); have rc2 := HZ2.out.cell; have rf2 := HZ2.out.frozen; have zl2 := HZ2.out.lt; have HN2 := Lib.hid (Nat.le_trans HND.out hf2.size); have HG2 := Lib.hid hf2; have HB2 := Lib.hid (HBD.out.all hf2); have bx2 := HB2.out.x; have by2 := HB2.out.y; have bm2 := HB2.out.m; clear he2 hs2 hf2)
      | ((go_at_call 109); (with_reducible refine (rq_ev HN2.out lo hi o2 n2 m2 v2 l2 i2 A2 c2 k2 _ HE2.out HS2.out).mono ?_); rintro e w3 ⟨o3, n3, m3, v3, l3, i3, A3, c3, k3, rfl, he3, hs3, hf3⟩; have HE3 := Lib.hid he3; have HS3 := Lib.hid hs3; have HF3 := Lib.hid (HF2.out.call hf3 (fun _ h _ => h)); have HZ3 := Lib.hid (HZ2.out.fr hf3 (fun e => e)); have rc3 := HZ3.out.cell; have rf3 := HZ3.out.frozen; have zl3 := HZ3.out.lt; have HN3 := Lib.hid (Nat.le_trans HN2.out hf3.size); have HG3 := Lib.hid hf3; have HB3 := Lib.hid (HB2.out.all hf3); have bx3 := HB3.out.x; have by3 := HB3.out.y; have bm3 := HB3.out.m; clear he3 hs3 hf3)
      | ((go_at_call 108); (with_reducible refine (rq_not HN3.out o3 n3 m3 v3 l3 i3 A3 c3 k3 _ HE3.out HS3.out HC2.out).mono ?_); rintro e w4 ⟨o4, n4, m4, v4, l4, i4, A4, c4, k4, rfl, he4, hs4, hf4⟩; have HE4 := Lib.hid he4; have HS4 := Lib.hid hs4; have HF4 := Lib.hid (HF3.out.call hf4 (fun _ h _ => h)); have HZ4 := Lib.hid (HZ3.out.fr hf4 (fun e => e)); have rc4 := HZ4.out.cell; have rf4 := HZ4.out.frozen; have zl4 := HZ4.out.lt; have HN4 := Lib.hid (Nat.le_trans HN3.out hf4.size); have HG4 := Lib.hid hf4; have HB4 := Lib.hid (HB3.out.all hf4); have bx4 := HB4.out.x; have by4 := HB4.out.y; have bm4 := HB4.out.m; clear he4 hs4 hf4)
      | fail)
  clear HBD HB2 HB3 HB4 bx2 by2 bm2 bx3 by3 bm3 bx4 by4 bm4 HX1 HM0 HSD HND HZD HZ2 HZ3 HS2 HS3 rc2 rc3 rf2 rf3 zl2 zl3 HC2 HC HE1 HS1 HN7
  have HB7 := Lib.hid (set7_blk HZ4.out (.int .i64 o4) (.string n4) (.int .i64 m4) (.int .i64 v4) (.int .i64 l4) (.int .i64 i4) (.slice A4 k4.len c4))
  have HF7 := Lib.hid (set7_fr w4 (w.heap.size + 1) (.int .i64 o4) (.string n4) (.int .i64 m4) (.int .i64 v4) (.int .i64 l4) (.int .i64 i4) (.slice A4 k4.len c4))
  change Exit.then _ _ _ _ (set7 w4 (w.heap.size + 1) (.int .i64 o4) (.string n4) (.int .i64 m4) (.int .i64 v4) (.int .i64 l4) (.int .i64 i4) (.slice A4 k4.len c4))
  generalize set7 w4 (w.heap.size + 1) (.int .i64 o4) (.string n4) (.int .i64 m4) (.int .i64 v4) (.int .i64 l4) (.int .i64 i4) (.slice A4 k4.len c4) = W7 at *
  have rc7 := HB7.out.cell
  go_wp2_with fail
  refine bodyPost_ret (v := .agg #[.int .i64 o4, .string n4, .int .i64 m4, .int .i64 v4, .int .i64 l4, .int .i64 i4, .slice A4 k4.len c4]) (by simp [results, Tryd.results65, go_sem, rc7]) rfl ?_
  exact FRes.putQ (x := ⟨o4, n4, m4, v4, l4, i4⟩) HE4.out HS4.out HP.out HF4.out (by omega) HW0.out HF7.out
end Go.Proofs.YtkmicfjcikilhaaDoor

/- The reference's made: nodes with two kids. -/
namespace Go.Proofs.YtkmicfjcikilhaaDoor
open Go.RowKit Go.Lib

set_option maxRecDepth 100000 in
set_option maxHeartbeats 16000000 in
theorem rm_5 (w : World) (p : Nat → Prop) (hp : ∀ k, p k → k < w.heap.size) (nm : ByteArray) (cm va lo hi : Int) (b off c : Nat) (hb : b < w.heap.size) (y : Nd) (B : Option Addr) (d : Nat) (js : Fo) (hk : NdK p w b off y B d js) (s : S1) (hcore : coreS s) (hmk : MKid p w y B d js s) (z : Nd) (C : Option Addr) (f : Nat) (ls : Fo) (hk2 : NdK p w b (off + 7) z C f ls) (t : S1) (hcore2 : coreS t) (hmk2 : MKid p w z C f ls t) (hz : szS s ≤ 90000) :
    Calls Tryd.prog 65 #[.agg #[.int .i64 5, .string nm, .int .i64 cm, .int .i64 va, .int .i64 lo, .int .i64 hi, .slice (some ⟨b, off, none⟩) 2 c]] w (FRes w p (andS s t)) := by
  have HSZ := Lib.hid (show szS s ≤ 100000 by omega)
  have HP := Lib.hid hp
  have HK0 := Lib.hid hk.nd
  have HK1 := Lib.hid hk2.nd
  have HC := Lib.hid hcore
  have HD := Lib.hid hcore2
  unfold MKid at hmk hmk2
  have HMK := Lib.hid hmk
  have HML := Lib.hid hmk2
  clear hp hk hk2 hcore hcore2 hmk hmk2
  go_enter Tryd.func65, Tryd.ntmps65
  go_upto_region 1 with fail
  obtain ⟨W0, hW0⟩ : ∃ W0, (w.alloc (.cells #[.int .i64 5, .string nm, .int .i64 cm, .int .i64 va, .int .i64 lo, .int .i64 hi, .slice (some ⟨b, off, none⟩) 2 c] 38)).alloc (.cells zarr 38) = W0 := ⟨_, rfl⟩
  have HM0 := Lib.hid (show Blk W0 w.heap.size 38 #[.int .i64 5, .string nm, .int .i64 cm, .int .i64 va, .int .i64 lo, .int .i64 hi, .slice (some ⟨b, off, none⟩) 2 c] by rw [← hW0]; exact (Blk.new _ _ _).alloc _)
  have HZ := Lib.hid (show Blk W0 (w.heap.size + 1) 38 zarr by rw [← hW0]; exact Blk.new_eq (by simp))
  have HF0 := Lib.hid (show Fr Nob w W0 by rw [← hW0]; exact ((Fr.refl _ _).alloc _).alloc _)
  have HN0 := Lib.hid (show w.heap.size + 1 + 1 ≤ W0.heap.size from HZ.out.lt)
  have HW0 := Lib.hid (show w.heap.size + 1 < w.heap.size + 1 + 1 from Nat.lt_succ_self _)
  rw [hW0]
  clear hW0
  have mc_ := HM0.out.cell
  have ml_ := HM0.out.lt
  obtain ⟨d0, d1, d2, d3, d4, d5, d6⟩ := HK0.out.fr HF0.out
  have hbl := Nat.lt_of_lt_of_le hb HF0.out.size
  go_upto_region 4 with (first
    | ((go_at_call 65); (with_reducible refine (HMK.out _ HF0.out HN0.out).mono ?_); rintro e w1 ⟨o1, n1, m1, v1, l1, i1, A1, c1, k1, rfl, he1, hs1, hf1⟩; have HE1 := Lib.hid he1; have HS1 := Lib.hid hs1; have HG1 := Lib.hid hf1; clear he1 hs1 hf1)
    | (refine wpList_stBox rfl rfl (by rfl) (by rfl) (by exact infoRF7) (by rfl) (by exact Blk.new _ _ _) (by rfl) ?_; intro W7 hb7 hf7; have HX1 := Lib.hid hb7; have HF7 := Lib.hid (((Fr.refl Nob w1).alloc _).call hf7 (fun i e hlt => by have : i = w1.heap.size := e; omega)); clear hb7 hf7)
    | fail)
  have HG7 := Lib.hid (HG1.out.call HF7.out (fun _ h _ => h))
  replace HS1 := Lib.hid (HS1.out.frQ HF7.out)
  have HN7 := Lib.hid (Nat.le_trans HN0.out HG7.out.size)
  have HGX1 := Lib.hid (Nat.le_trans HN0.out HG1.out.size)
  replace HF0 := Lib.hid (HF0.out.call HG7.out (fun _ h _ => h))
  replace HM0 := Lib.hid (HM0.out.fr HG7.out (fun e => e))
  replace HZ := Lib.hid (HZ.out.fr HG7.out (fun e => e))
  clear HF7 HG1
  generalize w1.heap.size = gx1 at *
  clear HG7 HN0
  replace mc_ := HM0.out.cell
  replace ml_ := HM0.out.lt
  have xc1 := HX1.out.cell
  have xl1 := HX1.out.lt
  have rc := HZ.out.cell
  have rf := HZ.out.frozen
  have zl := HZ.out.lt
  clear d0 d1 d2 d3 d4 d5 d6 hbl HMK HK0
  obtain ⟨d0, d1, d2, d3, d4, d5, d6⟩ := HK1.out.fr HF0.out
  have hbl := Nat.lt_of_lt_of_le hb HF0.out.size
  go_upto_region 11 with (first
    | ((go_at_call 65); (with_reducible refine (HML.out _ HF0.out HN7.out).mono ?_); rintro e w2 ⟨o2, n2, m2, v2, l2, i2, A2, c2, k2, rfl, he2, hs2, hf2⟩; have HE2 := Lib.hid he2; have HS2 := Lib.hid hs2; have HG2 := Lib.hid hf2; clear he2 hs2 hf2)
    | (refine wpList_stBox rfl rfl (by rfl) (by rfl) (by exact infoRF7) (by rfl) (by exact Blk.new _ _ _) (by rfl) ?_; intro W8 hb8 hf8; have HX2 := Lib.hid hb8; have HF8 := Lib.hid (((Fr.refl Nob w2).alloc _).call hf8 (fun i e hlt => by have : i = w2.heap.size := e; omega)); clear hb8 hf8)
    | fail)
  have HG8 := Lib.hid (HG2.out.call HF8.out (fun _ h _ => h))
  replace HS2 := Lib.hid (HS2.out.frQ HF8.out)
  replace HS1 := Lib.hid (HS1.out.frQ HG8.out)
  have HGX2 := Lib.hid (Nat.le_trans HN7.out HG2.out.size)
  have HN8 := Lib.hid (Nat.le_trans HN7.out HG8.out.size)
  replace HF0 := Lib.hid (HF0.out.call HG8.out (fun _ h _ => h))
  replace HM0 := Lib.hid (HM0.out.fr HG8.out (fun e => e))
  replace HX1 := Lib.hid (HX1.out.fr HG8.out (fun e => e))
  replace HZ := Lib.hid (HZ.out.fr HG8.out (fun e => e))
  clear HF8 HG2 d0 d1 d2 d3 d4 d5 d6 hbl HML HK1
  generalize w2.heap.size = gx2 at *
  clear HG8 HN7
  replace mc_ := HM0.out.cell
  replace ml_ := HM0.out.lt
  replace xc1 := HX1.out.cell
  replace xl1 := HX1.out.lt
  have xc2 := HX2.out.cell
  have xl2 := HX2.out.lt
  replace rc := HZ.out.cell
  replace rf := HZ.out.frozen
  replace zl := HZ.out.lt
  go_wp2_with (first
    | ((go_at_call 110); (with_reducible refine (rq_and HN8.out o1 n1 m1 v1 l1 i1 A1 c1 k1 s HE1.out HS1.out o2 n2 m2 v2 l2 i2 A2 c2 k2 t HE2.out HS2.out HSZ.out).mono ?_); rintro e w5 ⟨o5, n5, m5, v5, l5, i5, A5, c5, k5, rfl, he5, hs5, hf5⟩; have HE5 := Lib.hid he5; have HS5 := Lib.hid hs5; have HF5 := Lib.hid (HF0.out.call hf5 (fun _ h _ => h)); have HZ5 := Lib.hid (HZ.out.fr hf5 (fun e => e)); clear he5 hs5 hf5)
    | (refine wpList_stBox rfl rfl (by rfl) (by rfl) (by exact infoRF7) (by rfl) (by first | exact HZ5.out.alloc _ | exact HZ5.out) (by rfl) ?_; intro W7 hb7 hf7; have HB7 := Lib.hid hb7; have HF7 := Lib.hid hf7; have rc7 := hb7.cell; clear hb7 hf7)
    | fail)
  refine bodyPost_ret (v := .agg #[.int .i64 o5, .string n5, .int .i64 m5, .int .i64 v5, .int .i64 l5, .int .i64 i5, .slice A5 k5.len c5]) (by simp [results, Tryd.results65, go_sem, rc7]) rfl ?_
  exact FRes.putQ (x := ⟨o5, n5, m5, v5, l5, i5⟩) HE5.out HS5.out HP.out HF5.out (by omega) HW0.out HF7.out
set_option maxRecDepth 100000 in
set_option maxHeartbeats 16000000 in
theorem rm_8 (w : World) (p : Nat → Prop) (hp : ∀ k, p k → k < w.heap.size) (nm : ByteArray) (cm va lo hi : Int) (b off c : Nat) (hb : b < w.heap.size) (y : Nd) (B : Option Addr) (d : Nat) (js : Fo) (hk : NdK p w b off y B d js) (s : S1) (hcore : coreS s) (hmk : MKid p w y B d js s) (z : Nd) (C : Option Addr) (f : Nat) (ls : Fo) (hk2 : NdK p w b (off + 7) z C f ls) (t : S1) (hcore2 : coreS t) (hmk2 : MKid p w z C f ls t) (hz : szS s ≤ 90000) :
    Calls Tryd.prog 65 #[.agg #[.int .i64 8, .string nm, .int .i64 cm, .int .i64 va, .int .i64 lo, .int .i64 hi, .slice (some ⟨b, off, none⟩) 2 c]] w (FRes w p (iffS s t)) := by
  have HSZ := Lib.hid (show szS s ≤ 100000 by omega)
  have HP := Lib.hid hp
  have HK0 := Lib.hid hk.nd
  have HK1 := Lib.hid hk2.nd
  have HC := Lib.hid hcore
  have HD := Lib.hid hcore2
  unfold MKid at hmk hmk2
  have HMK := Lib.hid hmk
  have HML := Lib.hid hmk2
  clear hp hk hk2 hcore hcore2 hmk hmk2
  go_enter Tryd.func65, Tryd.ntmps65
  go_upto_region 1 with fail
  obtain ⟨W0, hW0⟩ : ∃ W0, (w.alloc (.cells #[.int .i64 8, .string nm, .int .i64 cm, .int .i64 va, .int .i64 lo, .int .i64 hi, .slice (some ⟨b, off, none⟩) 2 c] 38)).alloc (.cells zarr 38) = W0 := ⟨_, rfl⟩
  have HM0 := Lib.hid (show Blk W0 w.heap.size 38 #[.int .i64 8, .string nm, .int .i64 cm, .int .i64 va, .int .i64 lo, .int .i64 hi, .slice (some ⟨b, off, none⟩) 2 c] by rw [← hW0]; exact (Blk.new _ _ _).alloc _)
  have HZ := Lib.hid (show Blk W0 (w.heap.size + 1) 38 zarr by rw [← hW0]; exact Blk.new_eq (by simp))
  have HF0 := Lib.hid (show Fr Nob w W0 by rw [← hW0]; exact ((Fr.refl _ _).alloc _).alloc _)
  have HN0 := Lib.hid (show w.heap.size + 1 + 1 ≤ W0.heap.size from HZ.out.lt)
  have HW0 := Lib.hid (show w.heap.size + 1 < w.heap.size + 1 + 1 from Nat.lt_succ_self _)
  rw [hW0]
  clear hW0
  have mc_ := HM0.out.cell
  have ml_ := HM0.out.lt
  obtain ⟨d0, d1, d2, d3, d4, d5, d6⟩ := HK0.out.fr HF0.out
  have hbl := Nat.lt_of_lt_of_le hb HF0.out.size
  go_upto_region 4 with (first
    | ((go_at_call 65); (with_reducible refine (HMK.out _ HF0.out HN0.out).mono ?_); rintro e w1 ⟨o1, n1, m1, v1, l1, i1, A1, c1, k1, rfl, he1, hs1, hf1⟩; have HE1 := Lib.hid he1; have HS1 := Lib.hid hs1; have HG1 := Lib.hid hf1; clear he1 hs1 hf1)
    | (refine wpList_stBox rfl rfl (by rfl) (by rfl) (by exact infoRF7) (by rfl) (by exact Blk.new _ _ _) (by rfl) ?_; intro W7 hb7 hf7; have HX1 := Lib.hid hb7; have HF7 := Lib.hid (((Fr.refl Nob w1).alloc _).call hf7 (fun i e hlt => by have : i = w1.heap.size := e; omega)); clear hb7 hf7)
    | fail)
  have HG7 := Lib.hid (HG1.out.call HF7.out (fun _ h _ => h))
  replace HS1 := Lib.hid (HS1.out.frQ HF7.out)
  have HN7 := Lib.hid (Nat.le_trans HN0.out HG7.out.size)
  have HGX1 := Lib.hid (Nat.le_trans HN0.out HG1.out.size)
  replace HF0 := Lib.hid (HF0.out.call HG7.out (fun _ h _ => h))
  replace HM0 := Lib.hid (HM0.out.fr HG7.out (fun e => e))
  replace HZ := Lib.hid (HZ.out.fr HG7.out (fun e => e))
  clear HF7 HG1
  generalize w1.heap.size = gx1 at *
  clear HG7 HN0
  replace mc_ := HM0.out.cell
  replace ml_ := HM0.out.lt
  have xc1 := HX1.out.cell
  have xl1 := HX1.out.lt
  have rc := HZ.out.cell
  have rf := HZ.out.frozen
  have zl := HZ.out.lt
  clear d0 d1 d2 d3 d4 d5 d6 hbl HMK HK0
  obtain ⟨d0, d1, d2, d3, d4, d5, d6⟩ := HK1.out.fr HF0.out
  have hbl := Nat.lt_of_lt_of_le hb HF0.out.size
  go_upto_region 11 with (first
    | ((go_at_call 65); (with_reducible refine (HML.out _ HF0.out HN7.out).mono ?_); rintro e w2 ⟨o2, n2, m2, v2, l2, i2, A2, c2, k2, rfl, he2, hs2, hf2⟩; have HE2 := Lib.hid he2; have HS2 := Lib.hid hs2; have HG2 := Lib.hid hf2; clear he2 hs2 hf2)
    | (refine wpList_stBox rfl rfl (by rfl) (by rfl) (by exact infoRF7) (by rfl) (by exact Blk.new _ _ _) (by rfl) ?_; intro W8 hb8 hf8; have HX2 := Lib.hid hb8; have HF8 := Lib.hid (((Fr.refl Nob w2).alloc _).call hf8 (fun i e hlt => by have : i = w2.heap.size := e; omega)); clear hb8 hf8)
    | fail)
  have HG8 := Lib.hid (HG2.out.call HF8.out (fun _ h _ => h))
  replace HS2 := Lib.hid (HS2.out.frQ HF8.out)
  replace HS1 := Lib.hid (HS1.out.frQ HG8.out)
  have HGX2 := Lib.hid (Nat.le_trans HN7.out HG2.out.size)
  have HN8 := Lib.hid (Nat.le_trans HN7.out HG8.out.size)
  replace HF0 := Lib.hid (HF0.out.call HG8.out (fun _ h _ => h))
  replace HM0 := Lib.hid (HM0.out.fr HG8.out (fun e => e))
  replace HX1 := Lib.hid (HX1.out.fr HG8.out (fun e => e))
  replace HZ := Lib.hid (HZ.out.fr HG8.out (fun e => e))
  clear HF8 HG2 d0 d1 d2 d3 d4 d5 d6 hbl HML HK1
  generalize w2.heap.size = gx2 at *
  clear HG8 HN7
  replace mc_ := HM0.out.cell
  replace ml_ := HM0.out.lt
  replace xc1 := HX1.out.cell
  replace xl1 := HX1.out.lt
  have xc2 := HX2.out.cell
  have xl2 := HX2.out.lt
  replace rc := HZ.out.cell
  replace rf := HZ.out.frozen
  replace zl := HZ.out.lt
  go_wp2_with (first
    | ((go_at_call 111); (with_reducible refine (rq_iff HN8.out o1 n1 m1 v1 l1 i1 A1 c1 k1 s HE1.out HS1.out o2 n2 m2 v2 l2 i2 A2 c2 k2 t HE2.out HS2.out HC.out HD.out HSZ.out).mono ?_); rintro e w5 ⟨o5, n5, m5, v5, l5, i5, A5, c5, k5, rfl, he5, hs5, hf5⟩; have HE5 := Lib.hid he5; have HS5 := Lib.hid hs5; have HF5 := Lib.hid (HF0.out.call hf5 (fun _ h _ => h)); have HZ5 := Lib.hid (HZ.out.fr hf5 (fun e => e)); clear he5 hs5 hf5)
    | (refine wpList_stBox rfl rfl (by rfl) (by rfl) (by exact infoRF7) (by rfl) (by first | exact HZ5.out.alloc _ | exact HZ5.out) (by rfl) ?_; intro W7 hb7 hf7; have HB7 := Lib.hid hb7; have HF7 := Lib.hid hf7; have rc7 := hb7.cell; clear hb7 hf7)
    | fail)
  refine bodyPost_ret (v := .agg #[.int .i64 o5, .string n5, .int .i64 m5, .int .i64 v5, .int .i64 l5, .int .i64 i5, .slice A5 k5.len c5]) (by simp [results, Tryd.results65, go_sem, rc7]) rfl ?_
  exact FRes.putQ (x := ⟨o5, n5, m5, v5, l5, i5⟩) HE5.out HS5.out HP.out HF5.out (by omega) HW0.out HF7.out
set_option maxRecDepth 100000 in
set_option maxHeartbeats 16000000 in
theorem rm_11 (w : World) (p : Nat → Prop) (hp : ∀ k, p k → k < w.heap.size) (nm : ByteArray) (cm va lo hi : Int) (b off c : Nat) (hb : b < w.heap.size) (y : Nd) (B : Option Addr) (d : Nat) (js : Fo) (hk : NdK p w b off y B d js) (s : S1) (hcore : coreS s) (hmk : MKid p w y B d js s) (z : Nd) (C : Option Addr) (f : Nat) (ls : Fo) (hk2 : NdK p w b (off + 7) z C f ls) (t : S1) (hcore2 : coreS t) (hmk2 : MKid p w z C f ls t) (_hz : szS s ≤ 90000) :
    Calls Tryd.prog 65 #[.agg #[.int .i64 11, .string nm, .int .i64 cm, .int .i64 va, .int .i64 lo, .int .i64 hi, .slice (some ⟨b, off, none⟩) 2 c]] w (FRes w p (unS lo hi s t)) := by
  have HP := Lib.hid hp
  have HK0 := Lib.hid hk.nd
  have HK1 := Lib.hid hk2.nd
  have HC := Lib.hid hcore
  have HD := Lib.hid hcore2
  unfold MKid at hmk hmk2
  have HMK := Lib.hid hmk
  have HML := Lib.hid hmk2
  clear hp hk hk2 hcore hcore2 hmk hmk2
  go_enter Tryd.func65, Tryd.ntmps65
  go_upto_region 1 with fail
  obtain ⟨W0, hW0⟩ : ∃ W0, (w.alloc (.cells #[.int .i64 11, .string nm, .int .i64 cm, .int .i64 va, .int .i64 lo, .int .i64 hi, .slice (some ⟨b, off, none⟩) 2 c] 38)).alloc (.cells zarr 38) = W0 := ⟨_, rfl⟩
  have HM0 := Lib.hid (show Blk W0 w.heap.size 38 #[.int .i64 11, .string nm, .int .i64 cm, .int .i64 va, .int .i64 lo, .int .i64 hi, .slice (some ⟨b, off, none⟩) 2 c] by rw [← hW0]; exact (Blk.new _ _ _).alloc _)
  have HZ := Lib.hid (show Blk W0 (w.heap.size + 1) 38 zarr by rw [← hW0]; exact Blk.new_eq (by simp))
  have HF0 := Lib.hid (show Fr Nob w W0 by rw [← hW0]; exact ((Fr.refl _ _).alloc _).alloc _)
  have HN0 := Lib.hid (show w.heap.size + 1 + 1 ≤ W0.heap.size from HZ.out.lt)
  have HW0 := Lib.hid (show w.heap.size + 1 < w.heap.size + 1 + 1 from Nat.lt_succ_self _)
  rw [hW0]
  clear hW0
  have mc_ := HM0.out.cell
  have ml_ := HM0.out.lt
  obtain ⟨d0, d1, d2, d3, d4, d5, d6⟩ := HK0.out.fr HF0.out
  have hbl := Nat.lt_of_lt_of_le hb HF0.out.size
  go_upto_region 4 with (first
    | ((go_at_call 65); (with_reducible refine (HMK.out _ HF0.out HN0.out).mono ?_); rintro e w1 ⟨o1, n1, m1, v1, l1, i1, A1, c1, k1, rfl, he1, hs1, hf1⟩; have HE1 := Lib.hid he1; have HS1 := Lib.hid hs1; have HG1 := Lib.hid hf1; clear he1 hs1 hf1)
    | (refine wpList_stBox rfl rfl (by rfl) (by rfl) (by exact infoRF7) (by rfl) (by exact Blk.new _ _ _) (by rfl) ?_; intro W7 hb7 hf7; have HX1 := Lib.hid hb7; have HF7 := Lib.hid (((Fr.refl Nob w1).alloc _).call hf7 (fun i e hlt => by have : i = w1.heap.size := e; omega)); clear hb7 hf7)
    | fail)
  have HG7 := Lib.hid (HG1.out.call HF7.out (fun _ h _ => h))
  replace HS1 := Lib.hid (HS1.out.frQ HF7.out)
  have HN7 := Lib.hid (Nat.le_trans HN0.out HG7.out.size)
  have HGX1 := Lib.hid (Nat.le_trans HN0.out HG1.out.size)
  replace HF0 := Lib.hid (HF0.out.call HG7.out (fun _ h _ => h))
  replace HM0 := Lib.hid (HM0.out.fr HG7.out (fun e => e))
  replace HZ := Lib.hid (HZ.out.fr HG7.out (fun e => e))
  clear HF7 HG1
  generalize w1.heap.size = gx1 at *
  clear HG7 HN0
  replace mc_ := HM0.out.cell
  replace ml_ := HM0.out.lt
  have xc1 := HX1.out.cell
  have xl1 := HX1.out.lt
  have rc := HZ.out.cell
  have rf := HZ.out.frozen
  have zl := HZ.out.lt
  clear d0 d1 d2 d3 d4 d5 d6 hbl HMK HK0
  obtain ⟨d0, d1, d2, d3, d4, d5, d6⟩ := HK1.out.fr HF0.out
  have hbl := Nat.lt_of_lt_of_le hb HF0.out.size
  go_upto_region 11 with (first
    | ((go_at_call 65); (with_reducible refine (HML.out _ HF0.out HN7.out).mono ?_); rintro e w2 ⟨o2, n2, m2, v2, l2, i2, A2, c2, k2, rfl, he2, hs2, hf2⟩; have HE2 := Lib.hid he2; have HS2 := Lib.hid hs2; have HG2 := Lib.hid hf2; clear he2 hs2 hf2)
    | (refine wpList_stBox rfl rfl (by rfl) (by rfl) (by exact infoRF7) (by rfl) (by exact Blk.new _ _ _) (by rfl) ?_; intro W8 hb8 hf8; have HX2 := Lib.hid hb8; have HF8 := Lib.hid (((Fr.refl Nob w2).alloc _).call hf8 (fun i e hlt => by have : i = w2.heap.size := e; omega)); clear hb8 hf8)
    | fail)
  have HG8 := Lib.hid (HG2.out.call HF8.out (fun _ h _ => h))
  replace HS2 := Lib.hid (HS2.out.frQ HF8.out)
  replace HS1 := Lib.hid (HS1.out.frQ HG8.out)
  have HGX2 := Lib.hid (Nat.le_trans HN7.out HG2.out.size)
  have HN8 := Lib.hid (Nat.le_trans HN7.out HG8.out.size)
  replace HF0 := Lib.hid (HF0.out.call HG8.out (fun _ h _ => h))
  replace HM0 := Lib.hid (HM0.out.fr HG8.out (fun e => e))
  replace HX1 := Lib.hid (HX1.out.fr HG8.out (fun e => e))
  replace HZ := Lib.hid (HZ.out.fr HG8.out (fun e => e))
  clear HF8 HG2 d0 d1 d2 d3 d4 d5 d6 hbl HML HK1
  generalize w2.heap.size = gx2 at *
  clear HG8 HN7
  replace mc_ := HM0.out.cell
  replace ml_ := HM0.out.lt
  replace xc1 := HX1.out.cell
  replace xl1 := HX1.out.lt
  have xc2 := HX2.out.cell
  have xl2 := HX2.out.lt
  replace rc := HZ.out.cell
  replace rf := HZ.out.frozen
  replace zl := HZ.out.lt
  go_wp2_with (first
    | ((go_at_call 112); (with_reducible refine (rq_un HN8.out lo hi o1 n1 m1 v1 l1 i1 A1 c1 k1 s HE1.out HS1.out o2 n2 m2 v2 l2 i2 A2 c2 k2 t HE2.out HS2.out).mono ?_); rintro e w5 ⟨o5, n5, m5, v5, l5, i5, A5, c5, k5, rfl, he5, hs5, hf5⟩; have HE5 := Lib.hid he5; have HS5 := Lib.hid hs5; have HF5 := Lib.hid (HF0.out.call hf5 (fun _ h _ => h)); have HZ5 := Lib.hid (HZ.out.fr hf5 (fun e => e)); clear he5 hs5 hf5)
    | (refine wpList_stBox rfl rfl (by rfl) (by rfl) (by exact infoRF7) (by rfl) (by first | exact HZ5.out.alloc _ | exact HZ5.out) (by rfl) ?_; intro W7 hb7 hf7; have HB7 := Lib.hid hb7; have HF7 := Lib.hid hf7; have rc7 := hb7.cell; clear hb7 hf7)
    | fail)
  refine bodyPost_ret (v := .agg #[.int .i64 o5, .string n5, .int .i64 m5, .int .i64 v5, .int .i64 l5, .int .i64 i5, .slice A5 k5.len c5]) (by simp [results, Tryd.results65, go_sem, rc7]) rfl ?_
  exact FRes.putQ (x := ⟨o5, n5, m5, v5, l5, i5⟩) HE5.out HS5.out HP.out HF5.out (by omega) HW0.out HF7.out
set_option maxRecDepth 100000 in
set_option maxHeartbeats 16000000 in
theorem rm_6 (w : World) (p : Nat → Prop) (hp : ∀ k, p k → k < w.heap.size) (nm : ByteArray) (cm va lo hi : Int) (b off c : Nat) (hb : b < w.heap.size) (y : Nd) (B : Option Addr) (d : Nat) (js : Fo) (hk : NdK p w b off y B d js) (s : S1) (hcore : coreS s) (hmk : MKid p w y B d js s) (z : Nd) (C : Option Addr) (f : Nat) (ls : Fo) (hk2 : NdK p w b (off + 7) z C f ls) (t : S1) (hcore2 : coreS t) (hmk2 : MKid p w z C f ls t) (hz : szS s ≤ 90000) :
    Calls Tryd.prog 65 #[.agg #[.int .i64 6, .string nm, .int .i64 cm, .int .i64 va, .int .i64 lo, .int .i64 hi, .slice (some ⟨b, off, none⟩) 2 c]] w (FRes w p (notS (andS (notS s) (notS t)))) := by
  have HSZ := Lib.hid (show szS (notS s) ≤ 100000 by have := sz_not hcore; omega)
  have HC6 := Lib.hid (core_and (core_not hcore) (core_not hcore2))
  have HP := Lib.hid hp
  have HK0 := Lib.hid hk.nd
  have HK1 := Lib.hid hk2.nd
  have HC := Lib.hid hcore
  have HD := Lib.hid hcore2
  unfold MKid at hmk hmk2
  have HMK := Lib.hid hmk
  have HML := Lib.hid hmk2
  clear hp hk hk2 hcore hcore2 hmk hmk2
  go_enter Tryd.func65, Tryd.ntmps65
  go_upto_region 1 with fail
  obtain ⟨W0, hW0⟩ : ∃ W0, (w.alloc (.cells #[.int .i64 6, .string nm, .int .i64 cm, .int .i64 va, .int .i64 lo, .int .i64 hi, .slice (some ⟨b, off, none⟩) 2 c] 38)).alloc (.cells zarr 38) = W0 := ⟨_, rfl⟩
  have HM0 := Lib.hid (show Blk W0 w.heap.size 38 #[.int .i64 6, .string nm, .int .i64 cm, .int .i64 va, .int .i64 lo, .int .i64 hi, .slice (some ⟨b, off, none⟩) 2 c] by rw [← hW0]; exact (Blk.new _ _ _).alloc _)
  have HZ := Lib.hid (show Blk W0 (w.heap.size + 1) 38 zarr by rw [← hW0]; exact Blk.new_eq (by simp))
  have HF0 := Lib.hid (show Fr Nob w W0 by rw [← hW0]; exact ((Fr.refl _ _).alloc _).alloc _)
  have HN0 := Lib.hid (show w.heap.size + 1 + 1 ≤ W0.heap.size from HZ.out.lt)
  have HW0 := Lib.hid (show w.heap.size + 1 < w.heap.size + 1 + 1 from Nat.lt_succ_self _)
  rw [hW0]
  clear hW0
  have mc_ := HM0.out.cell
  have ml_ := HM0.out.lt
  obtain ⟨d0, d1, d2, d3, d4, d5, d6⟩ := HK0.out.fr HF0.out
  have hbl := Nat.lt_of_lt_of_le hb HF0.out.size
  go_upto_region 4 with (first
    | ((go_at_call 65); (with_reducible refine (HMK.out _ HF0.out HN0.out).mono ?_); rintro e w1 ⟨o1, n1, m1, v1, l1, i1, A1, c1, k1, rfl, he1, hs1, hf1⟩; have HE1 := Lib.hid he1; have HS1 := Lib.hid hs1; have HG1 := Lib.hid hf1; clear he1 hs1 hf1)
    | (refine wpList_stBox rfl rfl (by rfl) (by rfl) (by exact infoRF7) (by rfl) (by exact Blk.new _ _ _) (by rfl) ?_; intro W7 hb7 hf7; have HX1 := Lib.hid hb7; have HF7 := Lib.hid (((Fr.refl Nob w1).alloc _).call hf7 (fun i e hlt => by have : i = w1.heap.size := e; omega)); clear hb7 hf7)
    | fail)
  have HG7 := Lib.hid (HG1.out.call HF7.out (fun _ h _ => h))
  replace HS1 := Lib.hid (HS1.out.frQ HF7.out)
  have HN7 := Lib.hid (Nat.le_trans HN0.out HG7.out.size)
  have HGX1 := Lib.hid (Nat.le_trans HN0.out HG1.out.size)
  replace HF0 := Lib.hid (HF0.out.call HG7.out (fun _ h _ => h))
  replace HM0 := Lib.hid (HM0.out.fr HG7.out (fun e => e))
  replace HZ := Lib.hid (HZ.out.fr HG7.out (fun e => e))
  clear HF7 HG1
  generalize w1.heap.size = gx1 at *
  clear HG7 HN0
  replace mc_ := HM0.out.cell
  replace ml_ := HM0.out.lt
  have xc1 := HX1.out.cell
  have xl1 := HX1.out.lt
  have rc := HZ.out.cell
  have rf := HZ.out.frozen
  have zl := HZ.out.lt
  clear d0 d1 d2 d3 d4 d5 d6 hbl HMK HK0
  obtain ⟨d0, d1, d2, d3, d4, d5, d6⟩ := HK1.out.fr HF0.out
  have hbl := Nat.lt_of_lt_of_le hb HF0.out.size
  go_upto_region 11 with (first
    | ((go_at_call 65); (with_reducible refine (HML.out _ HF0.out HN7.out).mono ?_); rintro e w2 ⟨o2, n2, m2, v2, l2, i2, A2, c2, k2, rfl, he2, hs2, hf2⟩; have HE2 := Lib.hid he2; have HS2 := Lib.hid hs2; have HG2 := Lib.hid hf2; clear he2 hs2 hf2)
    | (refine wpList_stBox rfl rfl (by rfl) (by rfl) (by exact infoRF7) (by rfl) (by exact Blk.new _ _ _) (by rfl) ?_; intro W8 hb8 hf8; have HX2 := Lib.hid hb8; have HF8 := Lib.hid (((Fr.refl Nob w2).alloc _).call hf8 (fun i e hlt => by have : i = w2.heap.size := e; omega)); clear hb8 hf8)
    | fail)
  have HG8 := Lib.hid (HG2.out.call HF8.out (fun _ h _ => h))
  replace HS2 := Lib.hid (HS2.out.frQ HF8.out)
  replace HS1 := Lib.hid (HS1.out.frQ HG8.out)
  have HGX2 := Lib.hid (Nat.le_trans HN7.out HG2.out.size)
  have HN8 := Lib.hid (Nat.le_trans HN7.out HG8.out.size)
  replace HF0 := Lib.hid (HF0.out.call HG8.out (fun _ h _ => h))
  replace HM0 := Lib.hid (HM0.out.fr HG8.out (fun e => e))
  replace HX1 := Lib.hid (HX1.out.fr HG8.out (fun e => e))
  replace HZ := Lib.hid (HZ.out.fr HG8.out (fun e => e))
  clear HF8 HG2 d0 d1 d2 d3 d4 d5 d6 hbl HML HK1
  generalize w2.heap.size = gx2 at *
  clear HG8 HN7
  replace mc_ := HM0.out.cell
  replace ml_ := HM0.out.lt
  replace xc1 := HX1.out.cell
  replace xl1 := HX1.out.lt
  have xc2 := HX2.out.cell
  have xl2 := HX2.out.lt
  replace rc := HZ.out.cell
  replace rf := HZ.out.frozen
  replace zl := HZ.out.lt
  go_upto_region 14 with fail
  have HFD := Lib.hid HF0.out.drew
  have HZD := Lib.hid HZ.out.drew
  have HND := Lib.hid (show w.heap.size + 1 + 1 ≤ W8.drew.heap.size from HN8.out)
  have HSD := Lib.hid (HS1.out.frQ (Fr.refl Nob W8).drew)
  have HTD := Lib.hid (HS2.out.frQ (Fr.refl Nob W8).drew)
  have HBD := Lib.hid (show Bxs W8.drew _ _ _ _ _ _ _ _ _ from ⟨HX1.out.drew, HX2.out.drew, HM0.out.drew⟩)
  have hn1 : gx1 ≠ w.heap.size + 1 := by have := HGX1.out; omega
  have hn2 : gx2 ≠ w.heap.size + 1 := by have := HGX2.out; omega
  have hn3 : w.heap.size ≠ w.heap.size + 1 := by omega
  clear xc1 xc2 mc_
  go_region_held3 (fun W =>
    W.cell? ⟨gx1, 0, none⟩ = some (.int .i64 o1) ∧ W.cell? ⟨gx1, 1, none⟩ = some (.string n1) ∧ W.cell? ⟨gx1, 2, none⟩ = some (.int .i64 m1) ∧ W.cell? ⟨gx1, 3, none⟩ = some (.int .i64 v1) ∧ W.cell? ⟨gx1, 4, none⟩ = some (.int .i64 l1) ∧ W.cell? ⟨gx1, 5, none⟩ = some (.int .i64 i1) ∧ W.cell? ⟨gx1, 6, none⟩ = some (.slice A1 k1.len c1) ∧ W.cell? ⟨gx2, 0, none⟩ = some (.int .i64 o2) ∧ W.cell? ⟨gx2, 1, none⟩ = some (.string n2) ∧ W.cell? ⟨gx2, 2, none⟩ = some (.int .i64 m2) ∧ W.cell? ⟨gx2, 3, none⟩ = some (.int .i64 v2) ∧ W.cell? ⟨gx2, 4, none⟩ = some (.int .i64 l2) ∧ W.cell? ⟨gx2, 5, none⟩ = some (.int .i64 i2) ∧ W.cell? ⟨gx2, 6, none⟩ = some (.slice A2 k2.len c2)
    )
    (first | with_reducible exact HBD.out.s6 | with_reducible exact HB3.out.s6 | with_reducible exact HB4.out.s6 | with_reducible exact HB5.out.s6 | with_reducible exact HB6.out.s6 | with_reducible exact (HB6.out.set7 hn1 hn2 hn3 (.int .i64 o6) (.string n6) (.int .i64 m6) (.int .i64 v6) (.int .i64 l6) (.int .i64 i6) (.slice A6 k6.len c6)).s6)
    (first
      | ((go_at_call 108); (with_reducible refine (rq_not HND.out o1 n1 m1 v1 l1 i1 A1 c1 k1 s HE1.out HSD.out HC.out).mono ?_); rintro e w3 ⟨o3, n3, m3, v3, l3, i3, A3, c3, k3, rfl, he3, hs3, hf3⟩; have HE3 := Lib.hid he3; have HS3 := Lib.hid hs3; have HF3 := Lib.hid (HFD.out.call hf3 (fun _ h _ => h)); have HZ3 := Lib.hid (HZD.out.fr hf3 (fun e => e)); have rc3 := HZ3.out.cell; have rf3 := HZ3.out.frozen; have zl3 := HZ3.out.lt; have HN3 := Lib.hid (Nat.le_trans HND.out hf3.size); have HG3 := Lib.hid hf3; have HB3 := Lib.hid (HBD.out.all hf3); have bx3 := HB3.out.x; have by3 := HB3.out.y; have bm3 := HB3.out.m; clear he3 hs3 hf3)
      | ((go_at_call 108); (with_reducible refine (rq_not HN3.out o2 n2 m2 v2 l2 i2 A2 c2 k2 t HE2.out (HTD.out.frQ HG3.out) HD.out).mono ?_); rintro e w4 ⟨o4, n4, m4, v4, l4, i4, A4, c4, k4, rfl, he4, hs4, hf4⟩; have HE4 := Lib.hid he4; have HS4 := Lib.hid hs4; have HF4 := Lib.hid (HF3.out.call hf4 (fun _ h _ => h)); have HZ4 := Lib.hid (HZ3.out.fr hf4 (fun e => e)); have rc4 := HZ4.out.cell; have rf4 := HZ4.out.frozen; have zl4 := HZ4.out.lt; have HN4 := Lib.hid (Nat.le_trans HN3.out hf4.size); have HG4 := Lib.hid hf4; have HB4 := Lib.hid (HB3.out.all hf4); have bx4 := HB4.out.x; have by4 := HB4.out.y; have bm4 := HB4.out.m; clear he4 hs4 hf4)
      | ((go_at_call 110); (with_reducible refine (rq_and HN4.out o3 n3 m3 v3 l3 i3 A3 c3 k3 _ HE3.out (HS3.out.frQ HG4.out) o4 n4 m4 v4 l4 i4 A4 c4 k4 _ HE4.out HS4.out HSZ.out).mono ?_); rintro e w5 ⟨o5, n5, m5, v5, l5, i5, A5, c5, k5, rfl, he5, hs5, hf5⟩; have HE5 := Lib.hid he5; have HS5 := Lib.hid hs5; have HF5 := Lib.hid (HF4.out.call hf5 (fun _ h _ => h)); have HZ5 := Lib.hid (HZ4.out.fr hf5 (fun e => e)); have rc5 := HZ5.out.cell; have rf5 := HZ5.out.frozen; have zl5 := HZ5.out.lt; have HN5 := Lib.hid (Nat.le_trans HN4.out hf5.size); have HG5 := Lib.hid hf5; have HB5 := Lib.hid (HB4.out.all hf5); have bx5 := HB5.out.x; have by5 := HB5.out.y; have bm5 := HB5.out.m; clear he5 hs5 hf5)
      | ((go_at_call 108); (with_reducible refine (rq_not HN5.out o5 n5 m5 v5 l5 i5 A5 c5 k5 _ HE5.out HS5.out HC6.out).mono ?_); rintro e w6 ⟨o6, n6, m6, v6, l6, i6, A6, c6, k6, rfl, he6, hs6, hf6⟩; have HE6 := Lib.hid he6; have HS6 := Lib.hid hs6; have HF6 := Lib.hid (HF5.out.call hf6 (fun _ h _ => h)); have HZ6 := Lib.hid (HZ5.out.fr hf6 (fun e => e)); have rc6 := HZ6.out.cell; have rf6 := HZ6.out.frozen; have zl6 := HZ6.out.lt; have HN6 := Lib.hid (Nat.le_trans HN5.out hf6.size); have HG6 := Lib.hid hf6; have HB6 := Lib.hid (HB5.out.all hf6); have bx6 := HB6.out.x; have by6 := HB6.out.y; have bm6 := HB6.out.m; clear he6 hs6 hf6)
      | fail)
  clear HBD HB3 HB4 HB5 HB6 bx3 by3 bm3 bx4 by4 bm4 bx5 by5 bm5 bx6 by6 bm6 HX1 HX2 HM0 HSD HTD HND HZD HZ3 HZ4 HZ5 HS3 HS4 HS5 rc3 rc4 rc5 rf3 rf4 rf5 zl3 zl4 zl5 HE1 HE2 HN8
  have HB7 := Lib.hid (set7_blk HZ6.out (.int .i64 o6) (.string n6) (.int .i64 m6) (.int .i64 v6) (.int .i64 l6) (.int .i64 i6) (.slice A6 k6.len c6))
  have HF7 := Lib.hid (set7_fr w6 (w.heap.size + 1) (.int .i64 o6) (.string n6) (.int .i64 m6) (.int .i64 v6) (.int .i64 l6) (.int .i64 i6) (.slice A6 k6.len c6))
  change Exit.then _ _ _ _ (set7 w6 (w.heap.size + 1) (.int .i64 o6) (.string n6) (.int .i64 m6) (.int .i64 v6) (.int .i64 l6) (.int .i64 i6) (.slice A6 k6.len c6))
  generalize set7 w6 (w.heap.size + 1) (.int .i64 o6) (.string n6) (.int .i64 m6) (.int .i64 v6) (.int .i64 l6) (.int .i64 i6) (.slice A6 k6.len c6) = W7 at *
  have rc7 := HB7.out.cell
  go_wp2_with fail
  refine bodyPost_ret (v := .agg #[.int .i64 o6, .string n6, .int .i64 m6, .int .i64 v6, .int .i64 l6, .int .i64 i6, .slice A6 k6.len c6]) (by simp [results, Tryd.results65, go_sem, rc7]) rfl ?_
  exact FRes.putQ (x := ⟨o6, n6, m6, v6, l6, i6⟩) HE6.out HS6.out HP.out HF6.out (by omega) HW0.out HF7.out
set_option maxRecDepth 100000 in
set_option maxHeartbeats 16000000 in
theorem rm_7 (w : World) (p : Nat → Prop) (hp : ∀ k, p k → k < w.heap.size) (nm : ByteArray) (cm va lo hi : Int) (b off c : Nat) (hb : b < w.heap.size) (y : Nd) (B : Option Addr) (d : Nat) (js : Fo) (hk : NdK p w b off y B d js) (s : S1) (hcore : coreS s) (hmk : MKid p w y B d js s) (z : Nd) (C : Option Addr) (f : Nat) (ls : Fo) (hk2 : NdK p w b (off + 7) z C f ls) (t : S1) (hcore2 : coreS t) (hmk2 : MKid p w z C f ls t) (hz : szS s ≤ 90000) :
    Calls Tryd.prog 65 #[.agg #[.int .i64 7, .string nm, .int .i64 cm, .int .i64 va, .int .i64 lo, .int .i64 hi, .slice (some ⟨b, off, none⟩) 2 c]] w (FRes w p (notS (andS s (notS t)))) := by
  have HSZ := Lib.hid (show szS s ≤ 100000 by omega)
  have HC6 := Lib.hid (core_and hcore (core_not hcore2))
  have HP := Lib.hid hp
  have HK0 := Lib.hid hk.nd
  have HK1 := Lib.hid hk2.nd
  have HC := Lib.hid hcore
  have HD := Lib.hid hcore2
  unfold MKid at hmk hmk2
  have HMK := Lib.hid hmk
  have HML := Lib.hid hmk2
  clear hp hk hk2 hcore hcore2 hmk hmk2
  go_enter Tryd.func65, Tryd.ntmps65
  go_upto_region 1 with fail
  obtain ⟨W0, hW0⟩ : ∃ W0, (w.alloc (.cells #[.int .i64 7, .string nm, .int .i64 cm, .int .i64 va, .int .i64 lo, .int .i64 hi, .slice (some ⟨b, off, none⟩) 2 c] 38)).alloc (.cells zarr 38) = W0 := ⟨_, rfl⟩
  have HM0 := Lib.hid (show Blk W0 w.heap.size 38 #[.int .i64 7, .string nm, .int .i64 cm, .int .i64 va, .int .i64 lo, .int .i64 hi, .slice (some ⟨b, off, none⟩) 2 c] by rw [← hW0]; exact (Blk.new _ _ _).alloc _)
  have HZ := Lib.hid (show Blk W0 (w.heap.size + 1) 38 zarr by rw [← hW0]; exact Blk.new_eq (by simp))
  have HF0 := Lib.hid (show Fr Nob w W0 by rw [← hW0]; exact ((Fr.refl _ _).alloc _).alloc _)
  have HN0 := Lib.hid (show w.heap.size + 1 + 1 ≤ W0.heap.size from HZ.out.lt)
  have HW0 := Lib.hid (show w.heap.size + 1 < w.heap.size + 1 + 1 from Nat.lt_succ_self _)
  rw [hW0]
  clear hW0
  have mc_ := HM0.out.cell
  have ml_ := HM0.out.lt
  obtain ⟨d0, d1, d2, d3, d4, d5, d6⟩ := HK0.out.fr HF0.out
  have hbl := Nat.lt_of_lt_of_le hb HF0.out.size
  go_upto_region 4 with (first
    | ((go_at_call 65); (with_reducible refine (HMK.out _ HF0.out HN0.out).mono ?_); rintro e w1 ⟨o1, n1, m1, v1, l1, i1, A1, c1, k1, rfl, he1, hs1, hf1⟩; have HE1 := Lib.hid he1; have HS1 := Lib.hid hs1; have HG1 := Lib.hid hf1; clear he1 hs1 hf1)
    | (refine wpList_stBox rfl rfl (by rfl) (by rfl) (by exact infoRF7) (by rfl) (by exact Blk.new _ _ _) (by rfl) ?_; intro W7 hb7 hf7; have HX1 := Lib.hid hb7; have HF7 := Lib.hid (((Fr.refl Nob w1).alloc _).call hf7 (fun i e hlt => by have : i = w1.heap.size := e; omega)); clear hb7 hf7)
    | fail)
  have HG7 := Lib.hid (HG1.out.call HF7.out (fun _ h _ => h))
  replace HS1 := Lib.hid (HS1.out.frQ HF7.out)
  have HN7 := Lib.hid (Nat.le_trans HN0.out HG7.out.size)
  have HGX1 := Lib.hid (Nat.le_trans HN0.out HG1.out.size)
  replace HF0 := Lib.hid (HF0.out.call HG7.out (fun _ h _ => h))
  replace HM0 := Lib.hid (HM0.out.fr HG7.out (fun e => e))
  replace HZ := Lib.hid (HZ.out.fr HG7.out (fun e => e))
  clear HF7 HG1
  generalize w1.heap.size = gx1 at *
  clear HG7 HN0
  replace mc_ := HM0.out.cell
  replace ml_ := HM0.out.lt
  have xc1 := HX1.out.cell
  have xl1 := HX1.out.lt
  have rc := HZ.out.cell
  have rf := HZ.out.frozen
  have zl := HZ.out.lt
  clear d0 d1 d2 d3 d4 d5 d6 hbl HMK HK0
  obtain ⟨d0, d1, d2, d3, d4, d5, d6⟩ := HK1.out.fr HF0.out
  have hbl := Nat.lt_of_lt_of_le hb HF0.out.size
  go_upto_region 11 with (first
    | ((go_at_call 65); (with_reducible refine (HML.out _ HF0.out HN7.out).mono ?_); rintro e w2 ⟨o2, n2, m2, v2, l2, i2, A2, c2, k2, rfl, he2, hs2, hf2⟩; have HE2 := Lib.hid he2; have HS2 := Lib.hid hs2; have HG2 := Lib.hid hf2; clear he2 hs2 hf2)
    | (refine wpList_stBox rfl rfl (by rfl) (by rfl) (by exact infoRF7) (by rfl) (by exact Blk.new _ _ _) (by rfl) ?_; intro W8 hb8 hf8; have HX2 := Lib.hid hb8; have HF8 := Lib.hid (((Fr.refl Nob w2).alloc _).call hf8 (fun i e hlt => by have : i = w2.heap.size := e; omega)); clear hb8 hf8)
    | fail)
  have HG8 := Lib.hid (HG2.out.call HF8.out (fun _ h _ => h))
  replace HS2 := Lib.hid (HS2.out.frQ HF8.out)
  replace HS1 := Lib.hid (HS1.out.frQ HG8.out)
  have HGX2 := Lib.hid (Nat.le_trans HN7.out HG2.out.size)
  have HN8 := Lib.hid (Nat.le_trans HN7.out HG8.out.size)
  replace HF0 := Lib.hid (HF0.out.call HG8.out (fun _ h _ => h))
  replace HM0 := Lib.hid (HM0.out.fr HG8.out (fun e => e))
  replace HX1 := Lib.hid (HX1.out.fr HG8.out (fun e => e))
  replace HZ := Lib.hid (HZ.out.fr HG8.out (fun e => e))
  clear HF8 HG2 d0 d1 d2 d3 d4 d5 d6 hbl HML HK1
  generalize w2.heap.size = gx2 at *
  clear HG8 HN7
  replace mc_ := HM0.out.cell
  replace ml_ := HM0.out.lt
  replace xc1 := HX1.out.cell
  replace xl1 := HX1.out.lt
  have xc2 := HX2.out.cell
  have xl2 := HX2.out.lt
  replace rc := HZ.out.cell
  replace rf := HZ.out.frozen
  replace zl := HZ.out.lt
  go_upto_region 16 with fail
  have HFD := Lib.hid HF0.out.drew
  have HZD := Lib.hid HZ.out.drew
  have HND := Lib.hid (show w.heap.size + 1 + 1 ≤ W8.drew.heap.size from HN8.out)
  have HSD := Lib.hid (HS1.out.frQ (Fr.refl Nob W8).drew)
  have HTD := Lib.hid (HS2.out.frQ (Fr.refl Nob W8).drew)
  have HBD := Lib.hid (show Bxs W8.drew _ _ _ _ _ _ _ _ _ from ⟨HX1.out.drew, HX2.out.drew, HM0.out.drew⟩)
  have hn1 : gx1 ≠ w.heap.size + 1 := by have := HGX1.out; omega
  have hn2 : gx2 ≠ w.heap.size + 1 := by have := HGX2.out; omega
  have hn3 : w.heap.size ≠ w.heap.size + 1 := by omega
  clear xc1 xc2 mc_
  go_region_held3 (fun W =>
    W.cell? ⟨gx1, 0, none⟩ = some (.int .i64 o1) ∧ W.cell? ⟨gx1, 1, none⟩ = some (.string n1) ∧ W.cell? ⟨gx1, 2, none⟩ = some (.int .i64 m1) ∧ W.cell? ⟨gx1, 3, none⟩ = some (.int .i64 v1) ∧ W.cell? ⟨gx1, 4, none⟩ = some (.int .i64 l1) ∧ W.cell? ⟨gx1, 5, none⟩ = some (.int .i64 i1) ∧ W.cell? ⟨gx1, 6, none⟩ = some (.slice A1 k1.len c1) ∧ W.cell? ⟨gx2, 0, none⟩ = some (.int .i64 o2) ∧ W.cell? ⟨gx2, 1, none⟩ = some (.string n2) ∧ W.cell? ⟨gx2, 2, none⟩ = some (.int .i64 m2) ∧ W.cell? ⟨gx2, 3, none⟩ = some (.int .i64 v2) ∧ W.cell? ⟨gx2, 4, none⟩ = some (.int .i64 l2) ∧ W.cell? ⟨gx2, 5, none⟩ = some (.int .i64 i2) ∧ W.cell? ⟨gx2, 6, none⟩ = some (.slice A2 k2.len c2)
    )
    (first | with_reducible exact HBD.out.s6 | with_reducible exact HB3.out.s6 | with_reducible exact HB4.out.s6 | with_reducible exact HB5.out.s6 | with_reducible exact (HB5.out.set7 hn1 hn2 hn3 (.int .i64 o5) (.string n5) (.int .i64 m5) (.int .i64 v5) (.int .i64 l5) (.int .i64 i5) (.slice A5 k5.len c5)).s6)
    (first
      | ((go_at_call 108); (with_reducible refine (rq_not HND.out o2 n2 m2 v2 l2 i2 A2 c2 k2 t HE2.out HTD.out HD.out).mono ?_); rintro e w3 ⟨o3, n3, m3, v3, l3, i3, A3, c3, k3, rfl, he3, hs3, hf3⟩; have HE3 := Lib.hid he3; have HS3 := Lib.hid hs3; have HF3 := Lib.hid (HFD.out.call hf3 (fun _ h _ => h)); have HZ3 := Lib.hid (HZD.out.fr hf3 (fun e => e)); have rc3 := HZ3.out.cell; have rf3 := HZ3.out.frozen; have zl3 := HZ3.out.lt; have HN3 := Lib.hid (Nat.le_trans HND.out hf3.size); have HG3 := Lib.hid hf3; have HB3 := Lib.hid (HBD.out.all hf3); have bx3 := HB3.out.x; have by3 := HB3.out.y; have bm3 := HB3.out.m; clear he3 hs3 hf3)
      | ((go_at_call 110); (with_reducible refine (rq_and HN3.out o1 n1 m1 v1 l1 i1 A1 c1 k1 s HE1.out (HSD.out.frQ HG3.out) o3 n3 m3 v3 l3 i3 A3 c3 k3 _ HE3.out HS3.out HSZ.out).mono ?_); rintro e w4 ⟨o4, n4, m4, v4, l4, i4, A4, c4, k4, rfl, he4, hs4, hf4⟩; have HE4 := Lib.hid he4; have HS4 := Lib.hid hs4; have HF4 := Lib.hid (HF3.out.call hf4 (fun _ h _ => h)); have HZ4 := Lib.hid (HZ3.out.fr hf4 (fun e => e)); have rc4 := HZ4.out.cell; have rf4 := HZ4.out.frozen; have zl4 := HZ4.out.lt; have HN4 := Lib.hid (Nat.le_trans HN3.out hf4.size); have HG4 := Lib.hid hf4; have HB4 := Lib.hid (HB3.out.all hf4); have bx4 := HB4.out.x; have by4 := HB4.out.y; have bm4 := HB4.out.m; clear he4 hs4 hf4)
      | ((go_at_call 108); (with_reducible refine (rq_not HN4.out o4 n4 m4 v4 l4 i4 A4 c4 k4 _ HE4.out HS4.out HC6.out).mono ?_); rintro e w5 ⟨o5, n5, m5, v5, l5, i5, A5, c5, k5, rfl, he5, hs5, hf5⟩; have HE5 := Lib.hid he5; have HS5 := Lib.hid hs5; have HF5 := Lib.hid (HF4.out.call hf5 (fun _ h _ => h)); have HZ5 := Lib.hid (HZ4.out.fr hf5 (fun e => e)); have rc5 := HZ5.out.cell; have rf5 := HZ5.out.frozen; have zl5 := HZ5.out.lt; have HN5 := Lib.hid (Nat.le_trans HN4.out hf5.size); have HG5 := Lib.hid hf5; have HB5 := Lib.hid (HB4.out.all hf5); have bx5 := HB5.out.x; have by5 := HB5.out.y; have bm5 := HB5.out.m; clear he5 hs5 hf5)
      | fail)
  clear HBD HB3 HB4 HB5 bx3 by3 bm3 bx4 by4 bm4 bx5 by5 bm5 HX1 HX2 HM0 HSD HTD HND HZD HZ3 HZ4 HS3 HS4 rc3 rc4 rf3 rf4 zl3 zl4 HE1 HE2 HN8
  have HB7 := Lib.hid (set7_blk HZ5.out (.int .i64 o5) (.string n5) (.int .i64 m5) (.int .i64 v5) (.int .i64 l5) (.int .i64 i5) (.slice A5 k5.len c5))
  have HF7 := Lib.hid (set7_fr w5 (w.heap.size + 1) (.int .i64 o5) (.string n5) (.int .i64 m5) (.int .i64 v5) (.int .i64 l5) (.int .i64 i5) (.slice A5 k5.len c5))
  change Exit.then _ _ _ _ (set7 w5 (w.heap.size + 1) (.int .i64 o5) (.string n5) (.int .i64 m5) (.int .i64 v5) (.int .i64 l5) (.int .i64 i5) (.slice A5 k5.len c5))
  generalize set7 w5 (w.heap.size + 1) (.int .i64 o5) (.string n5) (.int .i64 m5) (.int .i64 v5) (.int .i64 l5) (.int .i64 i5) (.slice A5 k5.len c5) = W7 at *
  have rc7 := HB7.out.cell
  go_wp2_with fail
  refine bodyPost_ret (v := .agg #[.int .i64 o5, .string n5, .int .i64 m5, .int .i64 v5, .int .i64 l5, .int .i64 i5, .slice A5 k5.len c5]) (by simp [results, Tryd.results65, go_sem, rc7]) rfl ?_
  exact FRes.putQ (x := ⟨o5, n5, m5, v5, l5, i5⟩) HE5.out HS5.out HP.out HF5.out (by omega) HW0.out HF7.out
set_option maxRecDepth 100000 in
set_option maxHeartbeats 16000000 in
theorem rm_12 (w : World) (p : Nat → Prop) (hp : ∀ k, p k → k < w.heap.size) (nm : ByteArray) (cm va lo hi : Int) (b off c : Nat) (hb : b < w.heap.size) (y : Nd) (B : Option Addr) (d : Nat) (js : Fo) (hk : NdK p w b off y B d js) (s : S1) (hcore : coreS s) (hmk : MKid p w y B d js s) (z : Nd) (C : Option Addr) (f : Nat) (ls : Fo) (hk2 : NdK p w b (off + 7) z C f ls) (t : S1) (hcore2 : coreS t) (hmk2 : MKid p w z C f ls t) (_hz : szS s ≤ 90000) :
    Calls Tryd.prog 65 #[.agg #[.int .i64 12, .string nm, .int .i64 cm, .int .i64 va, .int .i64 lo, .int .i64 hi, .slice (some ⟨b, off, none⟩) 2 c]] w (FRes w p (notS (unS lo hi (notS s) (notS t)))) := by
  have HC6 := Lib.hid (core_un (lo := lo) (hi := hi) (core_not hcore) (core_not hcore2))
  have HP := Lib.hid hp
  have HK0 := Lib.hid hk.nd
  have HK1 := Lib.hid hk2.nd
  have HC := Lib.hid hcore
  have HD := Lib.hid hcore2
  unfold MKid at hmk hmk2
  have HMK := Lib.hid hmk
  have HML := Lib.hid hmk2
  clear hp hk hk2 hcore hcore2 hmk hmk2
  go_enter Tryd.func65, Tryd.ntmps65
  go_upto_region 1 with fail
  obtain ⟨W0, hW0⟩ : ∃ W0, (w.alloc (.cells #[.int .i64 12, .string nm, .int .i64 cm, .int .i64 va, .int .i64 lo, .int .i64 hi, .slice (some ⟨b, off, none⟩) 2 c] 38)).alloc (.cells zarr 38) = W0 := ⟨_, rfl⟩
  have HM0 := Lib.hid (show Blk W0 w.heap.size 38 #[.int .i64 12, .string nm, .int .i64 cm, .int .i64 va, .int .i64 lo, .int .i64 hi, .slice (some ⟨b, off, none⟩) 2 c] by rw [← hW0]; exact (Blk.new _ _ _).alloc _)
  have HZ := Lib.hid (show Blk W0 (w.heap.size + 1) 38 zarr by rw [← hW0]; exact Blk.new_eq (by simp))
  have HF0 := Lib.hid (show Fr Nob w W0 by rw [← hW0]; exact ((Fr.refl _ _).alloc _).alloc _)
  have HN0 := Lib.hid (show w.heap.size + 1 + 1 ≤ W0.heap.size from HZ.out.lt)
  have HW0 := Lib.hid (show w.heap.size + 1 < w.heap.size + 1 + 1 from Nat.lt_succ_self _)
  rw [hW0]
  clear hW0
  have mc_ := HM0.out.cell
  have ml_ := HM0.out.lt
  obtain ⟨d0, d1, d2, d3, d4, d5, d6⟩ := HK0.out.fr HF0.out
  have hbl := Nat.lt_of_lt_of_le hb HF0.out.size
  go_upto_region 4 with (first
    | ((go_at_call 65); (with_reducible refine (HMK.out _ HF0.out HN0.out).mono ?_); rintro e w1 ⟨o1, n1, m1, v1, l1, i1, A1, c1, k1, rfl, he1, hs1, hf1⟩; have HE1 := Lib.hid he1; have HS1 := Lib.hid hs1; have HG1 := Lib.hid hf1; clear he1 hs1 hf1)
    | (refine wpList_stBox rfl rfl (by rfl) (by rfl) (by exact infoRF7) (by rfl) (by exact Blk.new _ _ _) (by rfl) ?_; intro W7 hb7 hf7; have HX1 := Lib.hid hb7; have HF7 := Lib.hid (((Fr.refl Nob w1).alloc _).call hf7 (fun i e hlt => by have : i = w1.heap.size := e; omega)); clear hb7 hf7)
    | fail)
  have HG7 := Lib.hid (HG1.out.call HF7.out (fun _ h _ => h))
  replace HS1 := Lib.hid (HS1.out.frQ HF7.out)
  have HN7 := Lib.hid (Nat.le_trans HN0.out HG7.out.size)
  have HGX1 := Lib.hid (Nat.le_trans HN0.out HG1.out.size)
  replace HF0 := Lib.hid (HF0.out.call HG7.out (fun _ h _ => h))
  replace HM0 := Lib.hid (HM0.out.fr HG7.out (fun e => e))
  replace HZ := Lib.hid (HZ.out.fr HG7.out (fun e => e))
  clear HF7 HG1
  generalize w1.heap.size = gx1 at *
  clear HG7 HN0
  replace mc_ := HM0.out.cell
  replace ml_ := HM0.out.lt
  have xc1 := HX1.out.cell
  have xl1 := HX1.out.lt
  have rc := HZ.out.cell
  have rf := HZ.out.frozen
  have zl := HZ.out.lt
  clear d0 d1 d2 d3 d4 d5 d6 hbl HMK HK0
  obtain ⟨d0, d1, d2, d3, d4, d5, d6⟩ := HK1.out.fr HF0.out
  have hbl := Nat.lt_of_lt_of_le hb HF0.out.size
  go_upto_region 11 with (first
    | ((go_at_call 65); (with_reducible refine (HML.out _ HF0.out HN7.out).mono ?_); rintro e w2 ⟨o2, n2, m2, v2, l2, i2, A2, c2, k2, rfl, he2, hs2, hf2⟩; have HE2 := Lib.hid he2; have HS2 := Lib.hid hs2; have HG2 := Lib.hid hf2; clear he2 hs2 hf2)
    | (refine wpList_stBox rfl rfl (by rfl) (by rfl) (by exact infoRF7) (by rfl) (by exact Blk.new _ _ _) (by rfl) ?_; intro W8 hb8 hf8; have HX2 := Lib.hid hb8; have HF8 := Lib.hid (((Fr.refl Nob w2).alloc _).call hf8 (fun i e hlt => by have : i = w2.heap.size := e; omega)); clear hb8 hf8)
    | fail)
  have HG8 := Lib.hid (HG2.out.call HF8.out (fun _ h _ => h))
  replace HS2 := Lib.hid (HS2.out.frQ HF8.out)
  replace HS1 := Lib.hid (HS1.out.frQ HG8.out)
  have HGX2 := Lib.hid (Nat.le_trans HN7.out HG2.out.size)
  have HN8 := Lib.hid (Nat.le_trans HN7.out HG8.out.size)
  replace HF0 := Lib.hid (HF0.out.call HG8.out (fun _ h _ => h))
  replace HM0 := Lib.hid (HM0.out.fr HG8.out (fun e => e))
  replace HX1 := Lib.hid (HX1.out.fr HG8.out (fun e => e))
  replace HZ := Lib.hid (HZ.out.fr HG8.out (fun e => e))
  clear HF8 HG2 d0 d1 d2 d3 d4 d5 d6 hbl HML HK1
  generalize w2.heap.size = gx2 at *
  clear HG8 HN7
  replace mc_ := HM0.out.cell
  replace ml_ := HM0.out.lt
  replace xc1 := HX1.out.cell
  replace xl1 := HX1.out.lt
  have xc2 := HX2.out.cell
  have xl2 := HX2.out.lt
  replace rc := HZ.out.cell
  replace rf := HZ.out.frozen
  replace zl := HZ.out.lt
  go_upto_region 21 with fail
  have HFD := Lib.hid HF0.out.drew
  have HZD := Lib.hid HZ.out.drew
  have HND := Lib.hid (show w.heap.size + 1 + 1 ≤ W8.drew.heap.size from HN8.out)
  have HSD := Lib.hid (HS1.out.frQ (Fr.refl Nob W8).drew)
  have HTD := Lib.hid (HS2.out.frQ (Fr.refl Nob W8).drew)
  have HBD := Lib.hid (show Bxs W8.drew _ _ _ _ _ _ _ _ _ from ⟨HX1.out.drew, HX2.out.drew, HM0.out.drew⟩)
  have hn1 : gx1 ≠ w.heap.size + 1 := by have := HGX1.out; omega
  have hn2 : gx2 ≠ w.heap.size + 1 := by have := HGX2.out; omega
  have hn3 : w.heap.size ≠ w.heap.size + 1 := by omega
  clear xc1 xc2 mc_
  go_region_held3 (fun W => W.cell? ⟨w.heap.size, 4, none⟩ = some (.int .i64 lo) ∧ W.cell? ⟨w.heap.size, 5, none⟩ = some (.int .i64 hi) ∧
    W.cell? ⟨gx1, 0, none⟩ = some (.int .i64 o1) ∧ W.cell? ⟨gx1, 1, none⟩ = some (.string n1) ∧ W.cell? ⟨gx1, 2, none⟩ = some (.int .i64 m1) ∧ W.cell? ⟨gx1, 3, none⟩ = some (.int .i64 v1) ∧ W.cell? ⟨gx1, 4, none⟩ = some (.int .i64 l1) ∧ W.cell? ⟨gx1, 5, none⟩ = some (.int .i64 i1) ∧ W.cell? ⟨gx1, 6, none⟩ = some (.slice A1 k1.len c1) ∧ W.cell? ⟨gx2, 0, none⟩ = some (.int .i64 o2) ∧ W.cell? ⟨gx2, 1, none⟩ = some (.string n2) ∧ W.cell? ⟨gx2, 2, none⟩ = some (.int .i64 m2) ∧ W.cell? ⟨gx2, 3, none⟩ = some (.int .i64 v2) ∧ W.cell? ⟨gx2, 4, none⟩ = some (.int .i64 l2) ∧ W.cell? ⟨gx2, 5, none⟩ = some (.int .i64 i2) ∧ W.cell? ⟨gx2, 6, none⟩ = some (.slice A2 k2.len c2)
    )
    (first | with_reducible exact HBD.out.s12 | with_reducible exact HB3.out.s12 | with_reducible exact HB4.out.s12 | with_reducible exact HB5.out.s12 | with_reducible exact HB6.out.s12 | with_reducible exact (HB6.out.set7 hn1 hn2 hn3 (.int .i64 o6) (.string n6) (.int .i64 m6) (.int .i64 v6) (.int .i64 l6) (.int .i64 i6) (.slice A6 k6.len c6)).s12)
    (first
      | ((go_at_call 108); (with_reducible refine (rq_not HND.out o1 n1 m1 v1 l1 i1 A1 c1 k1 s HE1.out HSD.out HC.out).mono ?_); rintro e w3 ⟨o3, n3, m3, v3, l3, i3, A3, c3, k3, rfl, he3, hs3, hf3⟩; have HE3 := Lib.hid he3; have HS3 := Lib.hid hs3; have HF3 := Lib.hid (HFD.out.call hf3 (fun _ h _ => h)); have HZ3 := Lib.hid (HZD.out.fr hf3 (fun e => e)); have rc3 := HZ3.out.cell; have rf3 := HZ3.out.frozen; have zl3 := HZ3.out.lt; have HN3 := Lib.hid (Nat.le_trans HND.out hf3.size); have HG3 := Lib.hid hf3; have HB3 := Lib.hid (HBD.out.all hf3); have bx3 := HB3.out.x; have by3 := HB3.out.y; have bm3 := HB3.out.m; clear he3 hs3 hf3)
      | ((go_at_call 108); (with_reducible refine (rq_not HN3.out o2 n2 m2 v2 l2 i2 A2 c2 k2 t HE2.out (HTD.out.frQ HG3.out) HD.out).mono ?_); rintro e w4 ⟨o4, n4, m4, v4, l4, i4, A4, c4, k4, rfl, he4, hs4, hf4⟩; have HE4 := Lib.hid he4; have HS4 := Lib.hid hs4; have HF4 := Lib.hid (HF3.out.call hf4 (fun _ h _ => h)); have HZ4 := Lib.hid (HZ3.out.fr hf4 (fun e => e)); have rc4 := HZ4.out.cell; have rf4 := HZ4.out.frozen; have zl4 := HZ4.out.lt; have HN4 := Lib.hid (Nat.le_trans HN3.out hf4.size); have HG4 := Lib.hid hf4; have HB4 := Lib.hid (HB3.out.all hf4); have bx4 := HB4.out.x; have by4 := HB4.out.y; have bm4 := HB4.out.m; clear he4 hs4 hf4)
      | ((go_at_call 112); (with_reducible refine (rq_un HN4.out lo hi o3 n3 m3 v3 l3 i3 A3 c3 k3 _ HE3.out (HS3.out.frQ HG4.out) o4 n4 m4 v4 l4 i4 A4 c4 k4 _ HE4.out HS4.out).mono ?_); rintro e w5 ⟨o5, n5, m5, v5, l5, i5, A5, c5, k5, rfl, he5, hs5, hf5⟩; have HE5 := Lib.hid he5; have HS5 := Lib.hid hs5; have HF5 := Lib.hid (HF4.out.call hf5 (fun _ h _ => h)); have HZ5 := Lib.hid (HZ4.out.fr hf5 (fun e => e)); have rc5 := HZ5.out.cell; have rf5 := HZ5.out.frozen; have zl5 := HZ5.out.lt; have HN5 := Lib.hid (Nat.le_trans HN4.out hf5.size); have HG5 := Lib.hid hf5; have HB5 := Lib.hid (HB4.out.all hf5); have bx5 := HB5.out.x; have by5 := HB5.out.y; have bm5 := HB5.out.m; clear he5 hs5 hf5)
      | ((go_at_call 108); (with_reducible refine (rq_not HN5.out o5 n5 m5 v5 l5 i5 A5 c5 k5 _ HE5.out HS5.out HC6.out).mono ?_); rintro e w6 ⟨o6, n6, m6, v6, l6, i6, A6, c6, k6, rfl, he6, hs6, hf6⟩; have HE6 := Lib.hid he6; have HS6 := Lib.hid hs6; have HF6 := Lib.hid (HF5.out.call hf6 (fun _ h _ => h)); have HZ6 := Lib.hid (HZ5.out.fr hf6 (fun e => e)); have rc6 := HZ6.out.cell; have rf6 := HZ6.out.frozen; have zl6 := HZ6.out.lt; have HN6 := Lib.hid (Nat.le_trans HN5.out hf6.size); have HG6 := Lib.hid hf6; have HB6 := Lib.hid (HB5.out.all hf6); have bx6 := HB6.out.x; have by6 := HB6.out.y; have bm6 := HB6.out.m; clear he6 hs6 hf6)
      | fail)
  clear HBD HB3 HB4 HB5 HB6 bx3 by3 bm3 bx4 by4 bm4 bx5 by5 bm5 bx6 by6 bm6 HX1 HX2 HM0 HSD HTD HND HZD HZ3 HZ4 HZ5 HS3 HS4 HS5 rc3 rc4 rc5 rf3 rf4 rf5 zl3 zl4 zl5 HE1 HE2 HN8
  have HB7 := Lib.hid (set7_blk HZ6.out (.int .i64 o6) (.string n6) (.int .i64 m6) (.int .i64 v6) (.int .i64 l6) (.int .i64 i6) (.slice A6 k6.len c6))
  have HF7 := Lib.hid (set7_fr w6 (w.heap.size + 1) (.int .i64 o6) (.string n6) (.int .i64 m6) (.int .i64 v6) (.int .i64 l6) (.int .i64 i6) (.slice A6 k6.len c6))
  change Exit.then _ _ _ _ (set7 w6 (w.heap.size + 1) (.int .i64 o6) (.string n6) (.int .i64 m6) (.int .i64 v6) (.int .i64 l6) (.int .i64 i6) (.slice A6 k6.len c6))
  generalize set7 w6 (w.heap.size + 1) (.int .i64 o6) (.string n6) (.int .i64 m6) (.int .i64 v6) (.int .i64 l6) (.int .i64 i6) (.slice A6 k6.len c6) = W7 at *
  have rc7 := HB7.out.cell
  go_wp2_with fail
  refine bodyPost_ret (v := .agg #[.int .i64 o6, .string n6, .int .i64 m6, .int .i64 v6, .int .i64 l6, .int .i64 i6, .slice A6 k6.len c6]) (by simp [results, Tryd.results65, go_sem, rc7]) rfl ?_
  exact FRes.putQ (x := ⟨o6, n6, m6, v6, l6, i6⟩) HE6.out HS6.out HP.out HF6.out (by omega) HW0.out HF7.out
end Go.Proofs.YtkmicfjcikilhaaDoor
