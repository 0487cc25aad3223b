/- The reference's made, and its Of: what norm makes of a formula. -/
import Derived.Test.YtkmicfjcikilhaaDoorKW
import Derived.Test.YtkmicfjcikilhaaDoorKD
import Derived.Test.YtkmicfjcikilhaaDoorKR
import Derived.Test.YtkmicfjcikilhaaDoorKX
import Derived.Test.YtkmicfjcikilhaaDoorKM
import Derived.Test.YtkmicfjcikilhaaDoorQW1
import Derived.Lib.QuietBelow
import Derived.Test.YtkmicfjcikilhaaDoorQH32
import Derived.Test.YtkmicfjcikilhaaDoorKE
import Derived.StillTailTactics
namespace Go.Proofs.YtkmicfjcikilhaaDoor
open Go.RowKit Go.Lib

theorem MKid.of {p : Nat → Prop} {w : World} {y : Nd} {B : Option Addr} {d : Nat} {js : Fo} (hs : FoSlP p w B d js)
    (ih : ∀ (q : Nat → Prop) (W : World), (∀ k, q k → k < W.heap.size) → FoSlP q W B d js → Calls Tryd.prog 65 #[fval y B js.len d] W (FRes W q (madeS y js.tr))) : MKid p w y B d js (madeS y js.tr) := by
  intro W hf hN
  exact (ih (QB p (w.heap.size + 1 + 1) W) W (fun _ hk => hk.2) (hs.fr hf).toQ).mono fun _ _ h => h.toQ hN
theorem wn_plain {n : Nd} {k : Nat} (h : wrongN n k = 0) (h3 : n.op ≤ 3) : n.lo = 0 ∧ n.hi = 0 := (wn_of h).2.1 (by omega)
theorem Fo.nil_of {f : Fo} (h : f.len = 0) : f = .nil := by
  cases f with
  | nil => rfl
  | cons _ _ _ _ _ => simp [Fo.len] at h
theorem made_u (n y : Nd) (j : Tr) : madeS n (.cons y j .nil) = becS n (madeS y j) (mk0 0) := rfl
theorem made_b (n y z : Nd) (j l r : Tr) : madeS n (.cons y j (.cons z l r)) = becS n (madeS y j) (madeS z l) := rfl
section
variable (nm : ByteArray) (cm va lo hi : Int) (s t : S1)
theorem bec4 : becS ⟨4, nm, cm, va, lo, hi⟩ s t = notS s := by simp [becS]
theorem bec5 : becS ⟨5, nm, cm, va, lo, hi⟩ s t = andS s t := by simp [becS]
theorem bec6 : becS ⟨6, nm, cm, va, lo, hi⟩ s t = notS (andS (notS s) (notS t)) := by simp [becS]
theorem bec7 : becS ⟨7, nm, cm, va, lo, hi⟩ s t = notS (andS s (notS t)) := by simp [becS]
theorem bec8 : becS ⟨8, nm, cm, va, lo, hi⟩ s t = iffS s t := by simp [becS]
theorem bec9 : becS ⟨9, nm, cm, va, lo, hi⟩ s t = evS lo hi s := by simp [becS]
theorem bec10 : becS ⟨10, nm, cm, va, lo, hi⟩ s t = notS (evS lo hi (notS s)) := by simp [becS]
theorem bec11 : becS ⟨11, nm, cm, va, lo, hi⟩ s t = unS lo hi s t := by simp [becS]
theorem bec12 : becS ⟨12, nm, cm, va, lo, hi⟩ s t = notS (unS lo hi (notS s) (notS t)) := by simp [becS]
end
set_option maxRecDepth 100000 in
set_option maxHeartbeats 4000000 in
theorem rm_3 (w : World) (p : Nat → Prop) (hp : ∀ k, p k → k < w.heap.size) (x : Nd) (A : Option Addr) (c : Nat) (hs : FoSlP p w A c .nil) (h3 : x.op ≤ 3) (hz : x.lo = 0 ∧ x.hi = 0) :
    Calls Tryd.prog 65 #[fval x A 0 c] w (FRes w p (⟨x.op, x.name, x.cmp, x.val, 0, 0⟩, .nil)) := by
  obtain ⟨op, nm, cm, va, lo, hi⟩ := x
  obtain ⟨h0, h1⟩ := hz
  dsimp only at h0 h1 h3
  subst h0 h1
  have HS := Lib.hid hs
  have HP := Lib.hid hp
  clear hs hp
  unfold fval
  dsimp only
  go_enter Tryd.func65, Tryd.ntmps65
  go_upto_region 1 with fail
  obtain ⟨W0, hW0⟩ : ∃ W0, (w.alloc (.cells #[.int .i64 op, .string nm, .int .i64 cm, .int .i64 va, .int .i64 0, .int .i64 0, .slice A 0 c] 38)).alloc (.cells zarr 38) = W0 := ⟨_, rfl⟩
  have HX0 := Lib.hid (show Blk W0 w.heap.size 38 #[.int .i64 op, .string nm, .int .i64 cm, .int .i64 va, .int .i64 0, .int .i64 0, .slice A 0 c] by rw [← hW0]; exact (Blk.new _ _ _).alloc _)
  have HZ := Lib.hid (show Blk W0 (w.heap.size + 1) 38 zarr by rw [← hW0]; exact Blk.new_eq (by simp))
  have HF0 := Lib.hid (show Fr Nob w W0 by rw [← hW0]; exact ((Fr.refl _ _).alloc _).alloc _)
  rw [hW0]
  clear hW0
  have xc := HX0.out.cell
  have xl := HX0.out.lt
  have rc := HZ.out.cell
  have rf := HZ.out.frozen
  have zl := HZ.out.lt
  go_wp2_with (first
    | (refine wpList_stBox rfl rfl (by rfl) (by rfl) (by exact infoRF7) (by rfl) (by first | exact HZ.out.alloc _ | exact HZ.out) (by rfl) ?_; intro W7 hb7 hf7; have HB7 := Lib.hid hb7; have HF7 := Lib.hid hf7; have rc7 := hb7.cell; clear hb7 hf7)
    | fail)
  refine bodyPost_ret (v := .agg #[.int .i64 op, .string nm, .int .i64 cm, .int .i64 va, .int .i64 0, .int .i64 0, .slice A 0 c]) (by simp [results, Tryd.results65, go_sem, rc7]) rfl ?_
  exact FRes.same (x := ⟨op, nm, cm, va, 0, 0⟩) (ks := .nil) rfl HS.out HP.out HF0.out (by omega) HF7.out
theorem r_made : ∀ (m : Nat) (w : World) (p : Nat → Prop) (x : Nd) (A : Option Addr) (c : Nat) (ks : Fo), ks.tr.size ≤ m → ks.tr.size ≤ 20000 → (∀ k, p k → k < w.heap.size) → FoSlP p w A c ks → wrongN x ks.tr.len = 0 → ks.tr.good →
    Calls Tryd.prog 65 #[fval x A ks.len c] w (FRes w p (madeS x ks.tr)) := by
  intro m
  induction m using Nat.strongRecOn with
  | _ m ih =>
    intro w p x A c ks hm hb hp hs hg hgk
    obtain ⟨o1, o12, hl⟩ := wrong_op hg
    rw [Fo.tr_len] at hl
    by_cases h3 : x.op ≤ 3
    · have hk0 : ks = .nil := Fo.nil_of (by rw [hl]; unfold kidsN; rw [if_pos h3])
      subst hk0
      rw [show madeS x Fo.nil.tr = (⟨x.op, x.name, x.cmp, x.val, 0, 0⟩, .nil) by unfold madeS becS; rw [if_pos h3]]
      exact rm_3 w p hp x A c hs h3 (wn_plain hg h3)
    · have hk1 : ks.len = 1 ∨ ks.len = 2 := by rw [hl]; unfold kidsN; rw [if_neg h3]; split <;> simp
      cases ks with
      | nil => simp [Fo.len] at hk1
      | cons y B d js rs =>
        simp only [Fo.tr, Tr.good, Tr.size, Fo.tr_len] at hgk hm hb
        obtain ⟨g1, g2, g3⟩ := hgk
        obtain ⟨b, off, rfl, hbl, hn, hk⟩ := hs.kid
        have hgood := madeS_good (x := y) (k := js.tr) (by rw [Fo.tr_len]; exact g1) g2
        have hmk := MKid.of (y := y) hk (fun q W hq hsq => ih js.tr.size (by omega) W q y B d js (Nat.le_refl _) (by omega) hq hsq (by rw [Fo.tr_len]; exact g1) g2)
        have hsz : szS (madeS y js.tr) ≤ 90000 := by have := hgood.2; omega
        obtain ⟨op, nm, cm, va, lo, hi⟩ := x
        dsimp only at *
        cases rs with
        | nil =>
          have ho : op = 4 ∨ op = 9 ∨ op = 10 := by
            simp only [Fo.len] at hl
            unfold kidsN at hl
            split at hl
            · omega
            · split at hl
              · omega
              · omega
          rcases ho with rfl | rfl | rfl
          · rw [show madeS ⟨4, nm, cm, va, lo, hi⟩ (Fo.cons y B d js .nil).tr = _ from (made_u _ _ _).trans (bec4 ..)]
            exact rm_4 w p hp nm cm va lo hi b off c hbl y B d js ⟨hn, hk⟩ _ hgood.1 hmk
          · rw [show madeS ⟨9, nm, cm, va, lo, hi⟩ (Fo.cons y B d js .nil).tr = _ from (made_u _ _ _).trans (bec9 ..)]
            exact rm_9 w p hp nm cm va lo hi b off c hbl y B d js ⟨hn, hk⟩ _ hgood.1 hmk
          · rw [show madeS ⟨10, nm, cm, va, lo, hi⟩ (Fo.cons y B d js .nil).tr = _ from (made_u _ _ _).trans (bec10 ..)]
            exact rm_10 w p hp nm cm va lo hi b off c hbl y B d js ⟨hn, hk⟩ _ hgood.1 hmk
        | cons z C f ls rs2 =>
          have hr2 : rs2 = .nil := by
            cases rs2 with
            | nil => rfl
            | cons _ _ _ _ _ => simp [Fo.len] at hk1
          subst hr2
          simp only [Fo.tr, Tr.good, Tr.size, Fo.tr_len] at g3 hm hb
          obtain ⟨e1, e2, _⟩ := g3
          obtain ⟨b2, off2, hA2, _, hn2, hk2⟩ := hs.kid2
          obtain ⟨rfl, rfl⟩ : b = b2 ∧ off = off2 := by simpa using hA2
          have hgood2 := madeS_good (x := z) (k := ls.tr) (by rw [Fo.tr_len]; exact e1) e2
          have hmk2 := MKid.of (y := z) hk2 (fun q W hq hsq => ih ls.tr.size (by omega) W q z C f ls (Nat.le_refl _) (by omega) hq hsq (by rw [Fo.tr_len]; exact e1) e2)
          have ho : op = 5 ∨ op = 6 ∨ op = 7 ∨ op = 8 ∨ op = 11 ∨ op = 12 := by
            simp only [Fo.len] at hl
            unfold kidsN at hl
            split at hl
            · omega
            · split at hl
              · omega
              · omega
          rcases ho with rfl | rfl | rfl | rfl | rfl | rfl
          · rw [show madeS ⟨5, nm, cm, va, lo, hi⟩ (Fo.cons y B d js (.cons z C f ls .nil)).tr = _ from (made_b _ _ _ _ _ _).trans (bec5 ..)]
            exact rm_5 w p hp nm cm va lo hi b off c hbl y B d js ⟨hn, hk⟩ _ hgood.1 hmk z C f ls ⟨hn2, hk2⟩ _ hgood2.1 hmk2 hsz
          · rw [show madeS ⟨6, nm, cm, va, lo, hi⟩ (Fo.cons y B d js (.cons z C f ls .nil)).tr = _ from (made_b _ _ _ _ _ _).trans (bec6 ..)]
            exact rm_6 w p hp nm cm va lo hi b off c hbl y B d js ⟨hn, hk⟩ _ hgood.1 hmk z C f ls ⟨hn2, hk2⟩ _ hgood2.1 hmk2 hsz
          · rw [show madeS ⟨7, nm, cm, va, lo, hi⟩ (Fo.cons y B d js (.cons z C f ls .nil)).tr = _ from (made_b _ _ _ _ _ _).trans (bec7 ..)]
            exact rm_7 w p hp nm cm va lo hi b off c hbl y B d js ⟨hn, hk⟩ _ hgood.1 hmk z C f ls ⟨hn2, hk2⟩ _ hgood2.1 hmk2 hsz
          · rw [show madeS ⟨8, nm, cm, va, lo, hi⟩ (Fo.cons y B d js (.cons z C f ls .nil)).tr = _ from (made_b _ _ _ _ _ _).trans (bec8 ..)]
            exact rm_8 w p hp nm cm va lo hi b off c hbl y B d js ⟨hn, hk⟩ _ hgood.1 hmk z C f ls ⟨hn2, hk2⟩ _ hgood2.1 hmk2 hsz
          · rw [show madeS ⟨11, nm, cm, va, lo, hi⟩ (Fo.cons y B d js (.cons z C f ls .nil)).tr = _ from (made_b _ _ _ _ _ _).trans (bec11 ..)]
            exact rm_11 w p hp nm cm va lo hi b off c hbl y B d js ⟨hn, hk⟩ _ hgood.1 hmk z C f ls ⟨hn2, hk2⟩ _ hgood2.1 hmk2 hsz
          · rw [show madeS ⟨12, nm, cm, va, lo, hi⟩ (Fo.cons y B d js (.cons z C f ls .nil)).tr = _ from (made_b _ _ _ _ _ _).trans (bec12 ..)]
            exact rm_12 w p hp nm cm va lo hi b off c hbl y B d js ⟨hn, hk⟩ _ hgood.1 hmk z C f ls ⟨hn2, hk2⟩ _ hgood2.1 hmk2 hsz
set_option maxRecDepth 100000 in
set_option maxHeartbeats 4000000 in
theorem r_Of (w : World) (x : Nd) (A : Option Addr) (c : Nat) (ks : Fo) (hs : FoSl w.heap.size w A c ks) (hb : ks.tr.size ≤ 20000) (hnm : ∀ y ∈ (Tr.cons x ks.tr .nil).nodes 1, y.1.name.size ≤ 9223372036854775807) (hg : firstW ((Tr.cons x ks.tr .nil).nodes 1) = 0) :
    Calls Tryd.prog 39 #[fval x A ks.len c] w (FRes w (fun k => k < w.heap.size) (madeS x ks.tr)) := by
  obtain ⟨hg1, hg2⟩ := (good_first x ks.tr).1 hg
  have HFI := Lib.hid (fun W (hf : Fr Nob w W) => ref_First W.heap.size W x A c ks (by omega) ((hs.fr hf).mono hf.size) hnm)
  have HMD := Lib.hid (fun W (hf : Fr Nob w W) => r_made ks.tr.size W (fun k => k < w.heap.size) x A c ks (Nat.le_refl _) hb (fun k hk => Nat.lt_of_lt_of_le hk hf.size) (FoSlP.fr (FoSl.toP hs) hf) hg1 hg2)
  rw [hg] at HFI
  generalize madeS x ks.tr = sr at HMD ⊢
  have HP := Lib.hid (show ∀ k, k < w.heap.size → k < w.heap.size from fun _ h => h)
  clear hs hb hnm hg hg1 hg2
  obtain ⟨op, nm, cm, va, lo, hi⟩ := x
  unfold fval at *
  dsimp only at *
  go_enter Tryd.func39, Tryd.ntmps39
  go_upto_region 1 with fail
  obtain ⟨W0, hW0⟩ : ∃ W0, (w.alloc (.cells #[.int .i64 op, .string nm, .int .i64 cm, .int .i64 va, .int .i64 lo, .int .i64 hi, .slice A ks.len c] 38)).alloc (.cells zarr 38) = W0 := ⟨_, rfl⟩
  have HX0 := Lib.hid (show Blk W0 w.heap.size 38 #[.int .i64 op, .string nm, .int .i64 cm, .int .i64 va, .int .i64 lo, .int .i64 hi, .slice A ks.len c] by rw [← hW0]; exact (Blk.new _ _ _).alloc _)
  have HZ := Lib.hid (show Blk W0 (w.heap.size + 1) 38 zarr by rw [← hW0]; exact Blk.new_eq (by simp))
  have HF0 := Lib.hid (show Fr Nob w W0 by rw [← hW0]; exact ((Fr.refl _ _).alloc _).alloc _)
  have HW0 := Lib.hid (show w.heap.size + 1 < W0.heap.size from HZ.out.lt)
  rw [hW0]
  clear hW0
  have xc := HX0.out.cell
  have xl := HX0.out.lt
  have rc := HZ.out.cell
  have rf := HZ.out.frozen
  have zl := HZ.out.lt
  go_upto_region 3 with (first
    | ((go_at_call 36); (with_reducible refine (HFI.out W0 HF0.out).mono ?_); rintro e w1 ⟨rfl, hf1⟩; replace HF0 := Lib.hid (HF0.out.call hf1 (fun _ h _ => h)); replace HZ := Lib.hid (HZ.out.fr hf1 (fun e => e)); replace HX0 := Lib.hid (HX0.out.fr hf1 (fun e => e)); replace HW0 := Lib.hid HZ.out.lt; replace rc := HZ.out.cell; replace rf := HZ.out.frozen; replace zl := HZ.out.lt; replace xc := HX0.out.cell; replace xl := HX0.out.lt; clear hf1)
    | fail)
  go_wp2_with (first
    | ((go_at_call 65); (with_reducible refine (HMD.out w1 HF0.out).mono ?_); rintro e w2 ⟨o1, n1, m1, v1, l1, i1, A1, c1, k1, rfl, he, hs1, hf1⟩; have HE := Lib.hid he; have HS1 := Lib.hid hs1; have HFR := Lib.hid hf1; have HZ2 := Lib.hid (HZ.out.fr hf1 (fun e => e)); clear he hs1 hf1)
    | (refine wpList_stBox rfl rfl (by rfl) (by rfl) (by exact infoRF7) (by rfl) (by first | exact HZ2.out.alloc _ | exact HZ2.out) (by rfl) ?_; intro W7 hb7 hf7; have HB7 := Lib.hid hb7; have HF7 := Lib.hid hf7; have rc7 := hb7.cell; clear hb7 hf7)
    | fail)
  refine bodyPost_ret (v := .agg #[.int .i64 o1, .string n1, .int .i64 m1, .int .i64 v1, .int .i64 l1, .int .i64 i1, .slice A1 k1.len c1]) (by simp [results, Tryd.results39, go_sem, rc7]) rfl ?_
  exact FRes.put (x := ⟨o1, n1, m1, v1, l1, i1⟩) HE.out HS1.out (fun k hk _ => hq_call HP.out (by omega) HW0.out k hk) (HF0.out.call HFR.out (fun _ h _ => h)) (by omega) HF7.out
end Go.Proofs.YtkmicfjcikilhaaDoor

/- The reference's known: what is known of a node at a point. -/
namespace Go.Proofs.YtkmicfjcikilhaaDoor
open Go.RowKit Go.Lib Go.Sort

set_option maxRecDepth 100000 in
set_option maxHeartbeats 8000000 in
theorem rf_known (w : World) (A : Option Addr) (c : Nat) (ps : List Pn) (h : WSl w A c ps) (hW : Rise (pts ps)) (i : Nat) (hi' : i < ps.length) (mark : Int) (hm1 : -1 ≤ mark) (hm2 : mark ≤ last63) (n : Nd) (NA : Option Addr) (nn nc : Nat)
    (X : Option Addr) (cx : Nat) (xs : List Int) (hx : Sl w 1 X xs.length cx (xs.map ivI)) (htri : ∀ j, Tri (xAt xs j)) (Y : Option Addr) (cy : Nat) (ys : List Int) (hy : Sl w 1 Y ys.length cy (ys.map ivI)) (htri2 : ∀ j, Tri (xAt ys j))
    (hop : n.op = 1 ∨ n.op = 2 ∨ n.op = 3 ∨ n.op = 4 ∨ n.op = 5 ∨ n.op = 8 ∨ n.op = 9 ∨ n.op = 11) (hxl : 4 ≤ n.op → xs.length = ps.length) (hyl : n.op = 5 ∨ n.op = 8 ∨ n.op = 11 → ys.length = ps.length) (hfew : ps.length ≤ 1000) :
    Calls Tryd.prog 64 #[fval n NA nn nc, .slice A ps.length c, .int .i64 mark, .int .i64 i, .slice X xs.length cx, .slice Y ys.length cy] w fun e w' => e = .returned (.int .i64 (knK (pts ps) mark n i xs ys)) ∧ Fr Nob w w' := by
  obtain ⟨r, hr⟩ : ∃ r, r = knK (pts ps) mark n i xs ys := ⟨_, rfl⟩
  rw [← hr]
  have hI : (i : Int) < ps.length := by omega
  have hI3 : 0 ≤ (i : Int) := by omega
  have HL := Lib.hid h
  have HEV := Lib.hid (fun (hl : xs.length = ps.length) W (hf : Fr Nob w W) => rf_ev W A c ps (h.pure hf) hW i hi' mark hm1 hm2 n NA nn nc X cx xs (hx.pure hf) hl htri hfew)
  have HUN := Lib.hid (fun (hl : xs.length = ps.length) (hl2 : ys.length = ps.length) W (hf : Fr Nob w W) => rf_un W A c ps (h.pure hf) hW i hi' mark hm1 hm2 n NA nn nc X cx xs (hx.pure hf) hl htri Y cy ys (hy.pure hf) hl2 htri2 hfew)
  clear hm1 hm2
  obtain ⟨op, nm, cm, va, lo, hi⟩ := n
  dsimp only at hop hxl hyl HEV HUN
  unfold fval at *
  dsimp only at *
  rcases hop with rfl | rfl | rfl | rfl | rfl | rfl | rfl | rfl
  · have HR := Lib.hid (show r = 1 by rw [hr]; simp [knK])
    clear h hx hy hr hxl hyl hW HEV HUN
    go_enter Tryd.func64, Tryd.ntmps64
    go_upto_region 1 with fail
    obtain ⟨W0, hW0⟩ : ∃ W0, w.alloc (.cells #[.int .i64 1, .string nm, .int .i64 cm, .int .i64 va, .int .i64 lo, .int .i64 hi, .slice NA nn nc] 38) = W0 := ⟨_, rfl⟩
    have HB0 := Lib.hid (show Blk W0 w.heap.size 38 #[.int .i64 1, .string nm, .int .i64 cm, .int .i64 va, .int .i64 lo, .int .i64 hi, .slice NA nn nc] by rw [← hW0]; exact Blk.new _ _ _)
    have HF0 := Lib.hid (show Fr Nob w W0 by rw [← hW0]; exact (Fr.refl _ _).alloc _)
    rw [hW0]
    clear hW0
    have bc := HB0.out.cell
    have bl := HB0.out.lt
    go_wp2_with fail
    go_ret
    rw [HR.out]
    exact ⟨rfl, HF0.out⟩
  · have HR := Lib.hid (show r = 0 by rw [hr]; simp [knK])
    clear h hx hy hr hxl hyl hW HEV HUN
    go_enter Tryd.func64, Tryd.ntmps64
    go_upto_region 1 with fail
    obtain ⟨W0, hW0⟩ : ∃ W0, w.alloc (.cells #[.int .i64 2, .string nm, .int .i64 cm, .int .i64 va, .int .i64 lo, .int .i64 hi, .slice NA nn nc] 38) = W0 := ⟨_, rfl⟩
    have HB0 := Lib.hid (show Blk W0 w.heap.size 38 #[.int .i64 2, .string nm, .int .i64 cm, .int .i64 va, .int .i64 lo, .int .i64 hi, .slice NA nn nc] by rw [← hW0]; exact Blk.new _ _ _)
    have HF0 := Lib.hid (show Fr Nob w W0 by rw [← hW0]; exact (Fr.refl _ _).alloc _)
    rw [hW0]
    clear hW0
    have bc := HB0.out.cell
    have bl := HB0.out.lt
    go_wp2_with fail
    go_ret
    rw [HR.out]
    exact ⟨rfl, HF0.out⟩
  · have HP := Lib.hid (h.inn _ (List.getElem_mem hi'))
    obtain ⟨b, off, hA, hb, d0, d1⟩ := h.at_ hi'
    have HRR := Lib.hid (show r = if holdsB ps[i].l nm cm va then 1 else if ps[i].t ≤ mark then 0 else 2 by rw [hr]; simp [knK, tAt_pts hi', pAt_pts hi'])
    generalize ps[i] = p at *
    obtain ⟨t, pA, pc, l⟩ := p
    dsimp only at d0 d1 HP HRR
    have HH := Lib.hid (fun W (hf : Fr Nob w W) => ref_Holds W pA pc l nm cm va (HP.out.pure hf))
    clear h hx hy hxl hyl hW hr htri htri2 HL HEV HUN
    subst hA
    go_enter Tryd.func64, Tryd.ntmps64
    go_upto_region 1 with fail
    obtain ⟨W0, hW0⟩ : ∃ W0, w.alloc (.cells #[.int .i64 3, .string nm, .int .i64 cm, .int .i64 va, .int .i64 lo, .int .i64 hi, .slice NA nn nc] 38) = W0 := ⟨_, rfl⟩
    have HB0 := Lib.hid (show Blk W0 w.heap.size 38 #[.int .i64 3, .string nm, .int .i64 cm, .int .i64 va, .int .i64 lo, .int .i64 hi, .slice NA nn nc] by rw [← hW0]; exact Blk.new _ _ _)
    have HF0 := Lib.hid (show Fr Nob w W0 by rw [← hW0]; exact (Fr.refl _ _).alloc _)
    rw [hW0]
    clear hW0
    have bc := HB0.out.cell
    have bl := HB0.out.lt
    replace d0 := HF0.out.cell d0 (fun e => e)
    replace d1 := HF0.out.cell d1 (fun e => e)
    replace hb := Nat.lt_of_lt_of_le hb HF0.out.size
    go_upto_region 6 with fail
    have k0 := cell_regrown d0
    have k1 := cell_regrown d1
    have k2 := cell_regrown (HB0.out.cell 1)
    have k3 := cell_regrown (HB0.out.cell 2)
    have k4 := cell_regrown (HB0.out.cell 3)
    cases hhb : holdsB l nm cm va
    · rw [hhb] at HRR HH
      have C1 := Lib.hid (wregr fun X hf => HH.out X (HF0.out.call hf (fun _ h _ => h)))
      clear hhb
      by_cases htm : t ≤ mark
      · have HR := Lib.hid (show r = 0 by rw [HRR.out]; simp [htm])
        clear HRR
        refine wp_region_quiet_below (by kernel_rfl) (by kernel_rfl) ?_
        repeat (go_big_quiet_step (first | exact C1.out _ _))
        refine wpQuiet_nil ?_
        intro _ hw'
        obtain ⟨⟨dq, osq⟩, hw''⟩ := hw'
        subst hw''
        go_wp2_with fail
        go_ret
        rw [HR.out]
        exact ⟨rfl, rg_fr HF0.out _ _⟩
      · have HR := Lib.hid (show r = 2 by rw [HRR.out]; simp [htm])
        have htm' : mark < t := by omega
        clear HRR
        refine wp_region_quiet_below (by kernel_rfl) (by kernel_rfl) ?_
        repeat (go_big_quiet_step (first | exact C1.out _ _))
        refine wpQuiet_nil ?_
        intro _ hw'
        obtain ⟨⟨dq, osq⟩, hw''⟩ := hw'
        subst hw''
        go_wp2_with fail
        go_ret
        rw [HR.out]
        exact ⟨rfl, rg_fr HF0.out _ _⟩
    · have HR := Lib.hid (show r = 1 by rw [HRR.out, hhb]; rfl)
      rw [hhb] at HH
      have C1 := Lib.hid (wregr fun X hf => HH.out X (HF0.out.call hf (fun _ h _ => h)))
      clear HRR hhb
      refine wp_region_quiet_below (by kernel_rfl) (by kernel_rfl) ?_
      repeat (go_big_quiet_step (first | exact C1.out _ _))
      refine wpQuiet_nil ?_
      intro _ hw'
      obtain ⟨⟨dq, osq⟩, hw''⟩ := hw'
      subst hw''
      go_wp2_with fail
      go_ret
      rw [HR.out]
      exact ⟨rfl, rg_fr HF0.out _ _⟩
  · have hl := hxl (by decide)
    obtain ⟨bx, ofx, rfl, hbx, x0⟩ := row_at hx (k := i) (by rw [hl]; exact hi')
    have hvx := htri i
    rw [hl]
    clear h hx hy hxl hyl hW hl HL HEV HUN
    go_enter Tryd.func64, Tryd.ntmps64
    go_upto_region 1 with fail
    obtain ⟨W0, hW0⟩ : ∃ W0, w.alloc (.cells #[.int .i64 4, .string nm, .int .i64 cm, .int .i64 va, .int .i64 lo, .int .i64 hi, .slice NA nn nc] 38) = W0 := ⟨_, rfl⟩
    have HB0 := Lib.hid (show Blk W0 w.heap.size 38 #[.int .i64 4, .string nm, .int .i64 cm, .int .i64 va, .int .i64 lo, .int .i64 hi, .slice NA nn nc] by rw [← hW0]; exact Blk.new _ _ _)
    have HF0 := Lib.hid (show Fr Nob w W0 by rw [← hW0]; exact (Fr.refl _ _).alloc _)
    rw [hW0]
    clear hW0
    have bc := HB0.out.cell
    have bl := HB0.out.lt
    replace x0 := HF0.out.cell x0 (fun e => e)
    replace hbx := Nat.lt_of_lt_of_le hbx HF0.out.size
    rcases hvx with hxv | hxv | hxv
    · rw [hxv] at x0
      have HR := Lib.hid (show r = 1 by rw [hr]; simp [knK, hxv])
      clear hr
      (try (go_wp2_with fail))
      (try (go_quiet (fail)))
      (try (go_wp2_with fail))
      go_ret
      rw [HR.out]
      first
        | exact ⟨rfl, HF0.out⟩
        | exact ⟨rfl, HF0.out.drewN _⟩
    · rw [hxv] at x0
      have HR := Lib.hid (show r = 0 by rw [hr]; simp [knK, hxv])
      clear hr
      (try (go_wp2_with fail))
      (try (go_quiet (fail)))
      (try (go_wp2_with fail))
      go_ret
      rw [HR.out]
      first
        | exact ⟨rfl, HF0.out⟩
        | exact ⟨rfl, HF0.out.drewN _⟩
    · rw [hxv] at x0
      have HR := Lib.hid (show r = 2 by rw [hr]; simp [knK, hxv])
      clear hr
      (try (go_wp2_with fail))
      (try (go_quiet (fail)))
      (try (go_wp2_with fail))
      go_ret
      rw [HR.out]
      first
        | exact ⟨rfl, HF0.out⟩
        | exact ⟨rfl, HF0.out.drewN _⟩
  · clear HEV HUN
    have hl := hxl (by decide)
    have hl2 := hyl (by omega)
    obtain ⟨bx, ofx, rfl, hbx, x0⟩ := row_at hx (k := i) (by rw [hl]; exact hi')
    obtain ⟨b_y, ofy, rfl, hby, y0⟩ := row_at hy (k := i) (by rw [hl2]; exact hi')
    have hvx := htri i
    have hvy := htri2 i
    rw [hl, hl2]
    clear h hx hy hxl hyl hW hl hl2 HL
    go_enter Tryd.func64, Tryd.ntmps64
    go_upto_region 1 with fail
    obtain ⟨W0, hW0⟩ : ∃ W0, w.alloc (.cells #[.int .i64 5, .string nm, .int .i64 cm, .int .i64 va, .int .i64 lo, .int .i64 hi, .slice NA nn nc] 38) = W0 := ⟨_, rfl⟩
    have HB0 := Lib.hid (show Blk W0 w.heap.size 38 #[.int .i64 5, .string nm, .int .i64 cm, .int .i64 va, .int .i64 lo, .int .i64 hi, .slice NA nn nc] by rw [← hW0]; exact Blk.new _ _ _)
    have HF0 := Lib.hid (show Fr Nob w W0 by rw [← hW0]; exact (Fr.refl _ _).alloc _)
    rw [hW0]
    clear hW0
    have bc := HB0.out.cell
    have bl := HB0.out.lt
    replace x0 := HF0.out.cell x0 (fun e => e)
    replace y0 := HF0.out.cell y0 (fun e => e)
    replace hbx := Nat.lt_of_lt_of_le hbx HF0.out.size
    replace hby := Nat.lt_of_lt_of_le hby HF0.out.size
    rcases hvx with hxv | hxv | hxv <;> rcases hvy with hyv | hyv | hyv <;> rw [hxv] at x0 <;> rw [hyv] at y0
    · skip
      have HR := Lib.hid (show r = 0 by rw [hr]; simp [knK, hxv, hyv])
      clear hr
      (try (go_wp2_with fail))
      (try (go_quiet (fail)))
      (try (go_wp2_with fail))
      go_ret
      rw [HR.out]
      first
        | exact ⟨rfl, HF0.out⟩
        | exact ⟨rfl, HF0.out.drewN _⟩
    · skip
      have HR := Lib.hid (show r = 0 by rw [hr]; simp [knK, hxv, hyv])
      clear hr
      (try (go_wp2_with fail))
      (try (go_quiet (fail)))
      (try (go_wp2_with fail))
      go_ret
      rw [HR.out]
      first
        | exact ⟨rfl, HF0.out⟩
        | exact ⟨rfl, HF0.out.drewN _⟩
    · skip
      have HR := Lib.hid (show r = 0 by rw [hr]; simp [knK, hxv, hyv])
      clear hr
      (try (go_wp2_with fail))
      (try (go_quiet (fail)))
      (try (go_wp2_with fail))
      go_ret
      rw [HR.out]
      first
        | exact ⟨rfl, HF0.out⟩
        | exact ⟨rfl, HF0.out.drewN _⟩
    · skip
      have HR := Lib.hid (show r = 0 by rw [hr]; simp [knK, hxv, hyv])
      clear hr
      (try (go_wp2_with fail))
      (try (go_quiet (fail)))
      (try (go_wp2_with fail))
      go_ret
      rw [HR.out]
      first
        | exact ⟨rfl, HF0.out⟩
        | exact ⟨rfl, HF0.out.drewN _⟩
    · skip
      have HR := Lib.hid (show r = 1 by rw [hr]; simp [knK, hxv, hyv])
      clear hr
      (try (go_wp2_with fail))
      (try (go_quiet (fail)))
      (try (go_wp2_with fail))
      go_ret
      rw [HR.out]
      first
        | exact ⟨rfl, HF0.out⟩
        | exact ⟨rfl, HF0.out.drewN _⟩
    · skip
      have HR := Lib.hid (show r = 2 by rw [hr]; simp [knK, hxv, hyv])
      clear hr
      (try (go_wp2_with fail))
      (try (go_quiet (fail)))
      (try (go_wp2_with fail))
      go_ret
      rw [HR.out]
      first
        | exact ⟨rfl, HF0.out⟩
        | exact ⟨rfl, HF0.out.drewN _⟩
    · skip
      have HR := Lib.hid (show r = 0 by rw [hr]; simp [knK, hxv, hyv])
      clear hr
      (try (go_wp2_with fail))
      (try (go_quiet (fail)))
      (try (go_wp2_with fail))
      go_ret
      rw [HR.out]
      first
        | exact ⟨rfl, HF0.out⟩
        | exact ⟨rfl, HF0.out.drewN _⟩
    · skip
      have HR := Lib.hid (show r = 2 by rw [hr]; simp [knK, hxv, hyv])
      clear hr
      (try (go_wp2_with fail))
      (try (go_quiet (fail)))
      (try (go_wp2_with fail))
      go_ret
      rw [HR.out]
      first
        | exact ⟨rfl, HF0.out⟩
        | exact ⟨rfl, HF0.out.drewN _⟩
    · skip
      have HR := Lib.hid (show r = 2 by rw [hr]; simp [knK, hxv, hyv])
      clear hr
      (try (go_wp2_with fail))
      (try (go_quiet (fail)))
      (try (go_wp2_with fail))
      go_ret
      rw [HR.out]
      first
        | exact ⟨rfl, HF0.out⟩
        | exact ⟨rfl, HF0.out.drewN _⟩
  · clear HEV HUN
    have hl := hxl (by decide)
    have hl2 := hyl (by omega)
    obtain ⟨bx, ofx, rfl, hbx, x0⟩ := row_at hx (k := i) (by rw [hl]; exact hi')
    obtain ⟨b_y, ofy, rfl, hby, y0⟩ := row_at hy (k := i) (by rw [hl2]; exact hi')
    have hvx := htri i
    have hvy := htri2 i
    rw [hl, hl2]
    clear h hx hy hxl hyl hW hl hl2 HL
    go_enter Tryd.func64, Tryd.ntmps64
    go_upto_region 1 with fail
    obtain ⟨W0, hW0⟩ : ∃ W0, w.alloc (.cells #[.int .i64 8, .string nm, .int .i64 cm, .int .i64 va, .int .i64 lo, .int .i64 hi, .slice NA nn nc] 38) = W0 := ⟨_, rfl⟩
    have HB0 := Lib.hid (show Blk W0 w.heap.size 38 #[.int .i64 8, .string nm, .int .i64 cm, .int .i64 va, .int .i64 lo, .int .i64 hi, .slice NA nn nc] by rw [← hW0]; exact Blk.new _ _ _)
    have HF0 := Lib.hid (show Fr Nob w W0 by rw [← hW0]; exact (Fr.refl _ _).alloc _)
    rw [hW0]
    clear hW0
    have bc := HB0.out.cell
    have bl := HB0.out.lt
    replace x0 := HF0.out.cell x0 (fun e => e)
    replace y0 := HF0.out.cell y0 (fun e => e)
    replace hbx := Nat.lt_of_lt_of_le hbx HF0.out.size
    replace hby := Nat.lt_of_lt_of_le hby HF0.out.size
    rcases hvx with hxv | hxv | hxv <;> rcases hvy with hyv | hyv | hyv <;> rw [hxv] at x0 <;> rw [hyv] at y0
    · skip
      have HR := Lib.hid (show r = 1 by rw [hr]; simp [knK, hxv, hyv])
      clear hr
      (try (go_wp2_with fail))
      (try (go_quiet (fail)))
      (try (go_wp2_with fail))
      go_ret
      rw [HR.out]
      first
        | exact ⟨rfl, HF0.out⟩
        | exact ⟨rfl, HF0.out.drewN _⟩
    · skip
      have HR := Lib.hid (show r = 0 by rw [hr]; simp [knK, hxv, hyv])
      clear hr
      (try (go_wp2_with fail))
      (try (go_quiet (fail)))
      (try (go_wp2_with fail))
      go_ret
      rw [HR.out]
      first
        | exact ⟨rfl, HF0.out⟩
        | exact ⟨rfl, HF0.out.drewN _⟩
    · skip
      have HR := Lib.hid (show r = 2 by rw [hr]; simp [knK, hxv, hyv])
      clear hr
      (try (go_wp2_with fail))
      (try (go_quiet (fail)))
      (try (go_wp2_with fail))
      go_ret
      rw [HR.out]
      first
        | exact ⟨rfl, HF0.out⟩
        | exact ⟨rfl, HF0.out.drewN _⟩
    · skip
      have HR := Lib.hid (show r = 0 by rw [hr]; simp [knK, hxv, hyv])
      clear hr
      (try (go_wp2_with fail))
      (try (go_quiet (fail)))
      (try (go_wp2_with fail))
      go_ret
      rw [HR.out]
      first
        | exact ⟨rfl, HF0.out⟩
        | exact ⟨rfl, HF0.out.drewN _⟩
    · skip
      have HR := Lib.hid (show r = 1 by rw [hr]; simp [knK, hxv, hyv])
      clear hr
      (try (go_wp2_with fail))
      (try (go_quiet (fail)))
      (try (go_wp2_with fail))
      go_ret
      rw [HR.out]
      first
        | exact ⟨rfl, HF0.out⟩
        | exact ⟨rfl, HF0.out.drewN _⟩
    · skip
      have HR := Lib.hid (show r = 2 by rw [hr]; simp [knK, hxv, hyv])
      clear hr
      (try (go_wp2_with fail))
      (try (go_quiet (fail)))
      (try (go_wp2_with fail))
      go_ret
      rw [HR.out]
      first
        | exact ⟨rfl, HF0.out⟩
        | exact ⟨rfl, HF0.out.drewN _⟩
    · skip
      have HR := Lib.hid (show r = 2 by rw [hr]; simp [knK, hxv, hyv])
      clear hr
      (try (go_wp2_with fail))
      (try (go_quiet (fail)))
      (try (go_wp2_with fail))
      go_ret
      rw [HR.out]
      first
        | exact ⟨rfl, HF0.out⟩
        | exact ⟨rfl, HF0.out.drewN _⟩
    · skip
      have HR := Lib.hid (show r = 2 by rw [hr]; simp [knK, hxv, hyv])
      clear hr
      (try (go_wp2_with fail))
      (try (go_quiet (fail)))
      (try (go_wp2_with fail))
      go_ret
      rw [HR.out]
      first
        | exact ⟨rfl, HF0.out⟩
        | exact ⟨rfl, HF0.out.drewN _⟩
    · skip
      have HR := Lib.hid (show r = 2 by rw [hr]; simp [knK, hxv, hyv])
      clear hr
      (try (go_wp2_with fail))
      (try (go_quiet (fail)))
      (try (go_wp2_with fail))
      go_ret
      rw [HR.out]
      first
        | exact ⟨rfl, HF0.out⟩
        | exact ⟨rfl, HF0.out.drewN _⟩
  · have hl := hxl (by decide)
    have HR := Lib.hid (show r = evK (pts ps) mark lo hi i xs by rw [hr]; simp [knK])
    replace HEV := Lib.hid (HEV.out hl)
    generalize evK (pts ps) mark lo hi i xs = r2 at *
    rw [hl] at HEV ⊢
    clear h hx hy hxl hyl hW hl hr htri htri2 HL HUN
    go_enter Tryd.func64, Tryd.ntmps64
    go_upto_region 1 with fail
    obtain ⟨W0, hW0⟩ : ∃ W0, w.alloc (.cells #[.int .i64 9, .string nm, .int .i64 cm, .int .i64 va, .int .i64 lo, .int .i64 hi, .slice NA nn nc] 38) = W0 := ⟨_, rfl⟩
    have HB0 := Lib.hid (show Blk W0 w.heap.size 38 #[.int .i64 9, .string nm, .int .i64 cm, .int .i64 va, .int .i64 lo, .int .i64 hi, .slice NA nn nc] by rw [← hW0]; exact Blk.new _ _ _)
    have HF0 := Lib.hid (show Fr Nob w W0 by rw [← hW0]; exact (Fr.refl _ _).alloc _)
    rw [hW0]
    clear hW0
    have bc := HB0.out.cell
    have bl := HB0.out.lt
    go_wp2_with (first | ((go_at_call 106); (with_reducible refine (HEV.out _ HF0.out).mono ?_); rintro e w1 ⟨rfl, hf1⟩) | fail)
    go_ret
    rw [HR.out]
    exact ⟨rfl, HF0.out.call hf1 (fun _ h _ => h)⟩
  · have hl := hxl (by decide)
    have hl2 := hyl (by omega)
    have HR := Lib.hid (show r = unK (pts ps) mark lo hi i xs ys by rw [hr]; simp [knK])
    replace HUN := Lib.hid (HUN.out hl hl2)
    generalize unK (pts ps) mark lo hi i xs ys = r2 at *
    rw [hl, hl2] at HUN ⊢
    clear h hx hy hxl hyl hW hl hl2 hr htri htri2 HL HEV
    go_enter Tryd.func64, Tryd.ntmps64
    go_upto_region 1 with fail
    obtain ⟨W0, hW0⟩ : ∃ W0, w.alloc (.cells #[.int .i64 11, .string nm, .int .i64 cm, .int .i64 va, .int .i64 lo, .int .i64 hi, .slice NA nn nc] 38) = W0 := ⟨_, rfl⟩
    have HB0 := Lib.hid (show Blk W0 w.heap.size 38 #[.int .i64 11, .string nm, .int .i64 cm, .int .i64 va, .int .i64 lo, .int .i64 hi, .slice NA nn nc] by rw [← hW0]; exact Blk.new _ _ _)
    have HF0 := Lib.hid (show Fr Nob w W0 by rw [← hW0]; exact (Fr.refl _ _).alloc _)
    rw [hW0]
    clear hW0
    have bc := HB0.out.cell
    have bl := HB0.out.lt
    go_wp2_with (first | ((go_at_call 107); (with_reducible refine (HUN.out _ HF0.out).mono ?_); rintro e w1 ⟨rfl, hf1⟩) | fail)
    go_ret
    rw [HR.out]
    exact ⟨rfl, HF0.out.call hf1 (fun _ h _ => h)⟩
end Go.Proofs.YtkmicfjcikilhaaDoor

/- The reference's Rows: what is known of a formula that norm made. -/
namespace Go.Proofs.YtkmicfjcikilhaaDoor
open Go.RowKit Go.Lib

def rkV (W : List Pt) (mark : Int) (x : Nd) (xs ys : List Int) (k : Nat) : List Value := ((List.range k).map fun i => knK W mark x i xs ys).map ivI
theorem rkV_nil (W : List Pt) (mark : Int) (x : Nd) (xs ys : List Int) : rkV W mark x xs ys 0 = [] := rfl
theorem rkV_snoc (W : List Pt) (mark : Int) (x : Nd) (xs ys : List Int) (k : Nat) : rkV W mark x xs ys (k + 1) = rkV W mark x xs ys k ++ [ivI (knK W mark x k xs ys)] := by
  unfold rkV; rw [List.range_succ, List.map_append, List.map_append]; rfl
theorem rkV_full (ps : List Pn) (mark : Int) (x : Nd) (xs ys : List Int) : rkV (pts ps) mark x xs ys ps.length = (rowK (pts ps) mark x xs ys).map ivI := by
  unfold rkV rowK; rw [pts_len]
theorem iv_oneJ (v : Int) : ∀ u ∈ [ivI v], u.oneCell' = true := by intro u hu; simp at hu; subst hu; rfl
theorem tri_nil (j : Nat) : Tri (xAt [] j) := .inl rfl
theorem nil_sl (w : World) : Sl w 1 none ([] : List Int).length 0 (([] : List Int).map ivI) := Sl.of_own (base := 0) (e := 3) (World.ownsRow_nil _ _ _ _)
section
variable (w : World) (A : Option Addr) (c : Nat) (ps : List Pn) (h : WSl w A c ps) (hW : Rise (pts ps)) (hfew : ps.length ≤ 1000) (mark : Int) (hm1 : -1 ≤ mark) (hm2 : mark ≤ last63)
include h hW hfew hm1 hm2
set_option maxRecDepth 100000 in
set_option maxHeartbeats 8000000 in
theorem rR0 (x : Nd) (B : Option Addr) (d : Nat) (hop : x.op = 1 ∨ x.op = 2 ∨ x.op = 3) :
    Calls Tryd.prog 38 #[fval x B 0 d, .slice A ps.length c, .int .i64 mark] w fun e w' => IMN w w' e (rowK (pts ps) mark x [] []) ps.length := by
  have HL := Lib.hid h
  have hmax := h.sl.max
  unfold maxLen at hmax
  have HK0 := Lib.hid (fun W (hf : Fr Nob w W) i (hi : i < ps.length) => rf_known W A c ps (HL.out.pure hf) hW i hi mark hm1 hm2 x B 0 d none 0 [] (nil_sl W) tri_nil none 0 [] (nil_sl W) tri_nil (by omega) (fun e => absurd e (by omega)) (fun e => absurd e (by omega)) hfew)
  clear h hW hop hm1 hm2
  obtain ⟨op, nm, cm, va, lo, hi⟩ := x
  unfold fval at *
  dsimp only at *
  go_enter Tryd.func38, Tryd.ntmps38
  go_upto_region 3 with fail
  obtain ⟨W0, hW0⟩ : ∃ W0, w.alloc (.cells #[.int .i64 op, .string nm, .int .i64 cm, .int .i64 va, .int .i64 lo, .int .i64 hi, .slice B 0 d] 38) = W0 := ⟨_, rfl⟩
  have HB0 := Lib.hid (show Blk W0 w.heap.size 38 #[.int .i64 op, .string nm, .int .i64 cm, .int .i64 va, .int .i64 lo, .int .i64 hi, .slice B 0 d] by rw [← hW0]; exact Blk.new _ _ _)
  have HF0 := Lib.hid (show Fr Nob w W0 by rw [← hW0]; exact (Fr.refl _ _).alloc _)
  rw [hW0]
  clear hW0
  have bc := HB0.out.cell
  have bl := HB0.out.lt
  have HK := Lib.hid (fun W (hf : Fr Nob W0 W) i (hi : i < ps.length) => HK0.out W (HF0.out.call hf (fun _ h _ => h)) i hi)
  simp only [List.length_nil] at HK
  clear HK0
  go_wp2_with fail
  go_loopw [9, 10] (fun ov iv wr => ∃ (k : Nat) (A' : Option Addr) (c' : Nat), k ≤ ps.length ∧ iv = .int .i64 k ∧ ov = .slice A' k c' ∧ Hid (Fr Nob W0 wr) ∧ Hid (wr.ownsRow W0.heap.size 3 1 (.slice A' k c') k (rkV (pts ps) mark ⟨op, nm, cm, va, lo, hi⟩ [] [] k))) (fun _ iv _ => ps.length - (intOf iv).toNat)
  case atStart => exact ⟨0, none, 0, Nat.zero_le _, rfl, rfl, Lib.hid (Fr.refl _ _), Lib.hid (by rw [rkV_nil]; exact World.ownsRow_nil _ _ _ _)⟩
  case round =>
    obtain ⟨i, A', c', hi', rfl, rfl, hfr, hown⟩ := hrel
    have HBr := Lib.hid (HB0.out.fr hfr.out (fun e => e))
    have bcr := HBr.out.cell
    have blr := HBr.out.lt
    by_cases hlt : i < ps.length
    · have hI2 : (i : Int) < ps.length := by omega
      have hI3 : 0 ≤ (i : Int) := by omega
      have HKV := Lib.hid (rkV_snoc (pts ps) mark ⟨op, nm, cm, va, lo, hi⟩ [] [] i)
      have HKN := Lib.hid (HK.out wr hfr.out i hlt)
      generalize rkV (pts ps) mark ⟨op, nm, cm, va, lo, hi⟩ [] [] i = ov0 at *
      generalize knK (pts ps) mark ⟨op, nm, cm, va, lo, hi⟩ i [] [] = zk at *
      have HOW := Lib.hid hown.out
      go_wp2_with (first
        | ((go_at_call 64); (with_reducible refine (HKN.out).mono ?_); rintro e w11 ⟨rfl, hf11⟩; have HF11 := Lib.hid hf11; have HO1 := Lib.hid (own_fr HOW.out hf11 (fun _ _ _ _ e => e)); clear hf11)
        | (at_builtin; refine wpList_app rfl _ _ 33 rfl el_i1 (base := W0.heap.size) (xs := ov0) (news := [ivI zk]) rfl ?own rfl ?src ?one ?h63 ?hby ?hbase ?_))
      case own => exact own_fr HO1.out ((Fr.refl Nob _).alloc _) (fun _ _ _ _ e => e)
      case src => exact Sl.new1 (Blk.new_eq (by simp)) 1 1 rfl (by decide)
      case one => exact iv_oneJ _
      case h63 => unfold maxLen; omega
      case hby => omega
      case hbase => have h2 := hfr.out.size; have h3 := HF11.out.size; simp; omega
      intro A2 c2 w12 hown2 hgr2 hl2
      have HO2 := Lib.hid (show w12.ownsRow W0.heap.size 3 1 (.slice A2 (i + 1) c2) (i + 1) (rkV (pts ps) mark ⟨op, nm, cm, va, lo, hi⟩ [] [] (i + 1)) from by rw [HKV.out]; exact hown2)
      have HF12 := Lib.hid (((hfr.out.call HF11.out (fun _ h _ => h)).alloc _).grown hgr2 (fun k hk hlt => by have := own_base HO1.out k hk; omega))
      clear hown2 hgr2 hl2
      go_wp2_with fail
      go_roundw
      case rel => exact ⟨i + 1, A2, c2, by omega, by go_num, rfl, HF12, HO2⟩
      case measure => simp [intOf]; omega
    · obtain rfl : i = ps.length := by omega
      have HOA := Lib.hid (Sl.of_own hown.out)
      have HFA := Lib.hid (HF0.out.call hfr.out (fun _ h _ => h))
      have hlt3 : ¬ (ps.length : Int) < ps.length := by omega
      clear hfr hown
      go_wp2_with fail
      go_ret
      refine ⟨_, _, rfl, ?_, HFA.out⟩
      rw [← rkV_full]
      exact HOA.out
set_option maxRecDepth 100000 in
set_option maxHeartbeats 8000000 in
theorem rR1 (x : Nd) (b off d : Nat) (hb : b < w.heap.size) (y : Nd) (B : Option Addr) (n e : Nat) (hk : NdAt w b off y B n e) (xs : List Int) (hxl : xs.length = ps.length) (htri : ∀ j, Tri (xAt xs j))
    (hC : ∀ W, Fr Nob w W → Calls Tryd.prog 38 #[fval y B n e, .slice A ps.length c, .int .i64 mark] W fun e w' => IMN W w' e xs ps.length) (hop : x.op = 4 ∨ x.op = 9) :
    Calls Tryd.prog 38 #[fval x (some ⟨b, off, none⟩) 1 d, .slice A ps.length c, .int .i64 mark] w fun e w' => IMN w w' e (rowK (pts ps) mark x xs []) ps.length := by
  have HL := Lib.hid h
  have hmax := h.sl.max
  unfold maxLen at hmax
  have HKD := Lib.hid hk
  have HC := Lib.hid hC
  have HK0 := Lib.hid (fun W (hf : Fr Nob w W) X cx (hs : Sl W 1 X ps.length cx (xs.map ivI)) i (hi : i < ps.length) => (show Calls Tryd.prog 64 #[fval x (some ⟨b, off, none⟩) 1 d, .slice A ps.length c, .int .i64 mark, .int .i64 i, .slice X ps.length cx, .slice none 0 0] W _ from by
    have := rf_known W A c ps (HL.out.pure hf) hW i hi mark hm1 hm2 x (some ⟨b, off, none⟩) 1 d X cx xs (by rw [hxl]; exact hs) htri none 0 [] (nil_sl W) tri_nil (by omega) (fun _ => hxl) (fun e => absurd e (by omega)) hfew
    rw [hxl] at this
    exact this))
  clear h hW hop hm1 hm2 hC hk hxl htri
  obtain ⟨op, nm, cm, va, lo, hi⟩ := x
  unfold fval at *
  dsimp only at *
  go_enter Tryd.func38, Tryd.ntmps38
  go_upto_region 3 with fail
  obtain ⟨W0, hW0⟩ : ∃ W0, w.alloc (.cells #[.int .i64 op, .string nm, .int .i64 cm, .int .i64 va, .int .i64 lo, .int .i64 hi, .slice (some ⟨b, off, none⟩) 1 d] 38) = W0 := ⟨_, rfl⟩
  have HB0 := Lib.hid (show Blk W0 w.heap.size 38 #[.int .i64 op, .string nm, .int .i64 cm, .int .i64 va, .int .i64 lo, .int .i64 hi, .slice (some ⟨b, off, none⟩) 1 d] by rw [← hW0]; exact Blk.new _ _ _)
  have HF0 := Lib.hid (show Fr Nob w W0 by rw [← hW0]; exact (Fr.refl _ _).alloc _)
  rw [hW0]
  clear hW0
  have bc := HB0.out.cell
  have bl := HB0.out.lt
  obtain ⟨d0, d1, d2, d3, d4, d5, d6⟩ := HKD.out.fr HF0.out
  have hbl := Nat.lt_of_lt_of_le hb HF0.out.size
  go_upto_region 5 with (first
    | ((go_at_call 38); (with_reducible refine (HC.out _ HF0.out).mono ?_); rintro e W1 ⟨X, cx, rfl, hxs, hf1⟩; have HXS1 := Lib.hid hxs; have HG1 := Lib.hid hf1; clear hxs hf1)
    | fail)
  clear d0 d1 d2 d3 d4 d5 d6 hbl bc bl HC HKD
  replace HF0 := Lib.hid (HF0.out.call HG1.out (fun _ h _ => h))
  replace HB0 := Lib.hid (HB0.out.fr HG1.out (fun e => e))
  have bc := HB0.out.cell
  have bl := HB0.out.lt
  have HK := Lib.hid (fun W (hf : Fr Nob W1 W) i (hi : i < ps.length) => HK0.out W (HF0.out.call hf (fun _ h _ => h)) X cx (HXS1.out.pure hf) i hi)
  clear HK0 HG1 HXS1
  go_wp2_with fail
  go_loopw [9, 10] (fun ov iv wr => ∃ (k : Nat) (A' : Option Addr) (c' : Nat), k ≤ ps.length ∧ iv = .int .i64 k ∧ ov = .slice A' k c' ∧ Hid (Fr Nob W1 wr) ∧ Hid (wr.ownsRow W1.heap.size 3 1 (.slice A' k c') k (rkV (pts ps) mark ⟨op, nm, cm, va, lo, hi⟩ xs [] k))) (fun _ iv _ => ps.length - (intOf iv).toNat)
  case atStart => exact ⟨0, none, 0, Nat.zero_le _, rfl, rfl, Lib.hid (Fr.refl _ _), Lib.hid (by rw [rkV_nil]; exact World.ownsRow_nil _ _ _ _)⟩
  case round =>
    obtain ⟨i, A', c', hi', rfl, rfl, hfr, hown⟩ := hrel
    have HBr := Lib.hid (HB0.out.fr hfr.out (fun e => e))
    have bcr := HBr.out.cell
    have blr := HBr.out.lt
    by_cases hlt : i < ps.length
    · have hI2 : (i : Int) < ps.length := by omega
      have hI3 : 0 ≤ (i : Int) := by omega
      have HKV := Lib.hid (rkV_snoc (pts ps) mark ⟨op, nm, cm, va, lo, hi⟩ xs [] i)
      have HKN := Lib.hid (HK.out wr hfr.out i hlt)
      generalize rkV (pts ps) mark ⟨op, nm, cm, va, lo, hi⟩ xs [] i = ov0 at *
      generalize knK (pts ps) mark ⟨op, nm, cm, va, lo, hi⟩ i xs [] = zk at *
      have HOW := Lib.hid hown.out
      go_wp2_with (first
        | ((go_at_call 64); (with_reducible refine (HKN.out).mono ?_); rintro e w11 ⟨rfl, hf11⟩; have HF11 := Lib.hid hf11; have HO1 := Lib.hid (own_fr HOW.out hf11 (fun _ _ _ _ e => e)); clear hf11)
        | (at_builtin; refine wpList_app rfl _ _ 33 rfl el_i1 (base := W1.heap.size) (xs := ov0) (news := [ivI zk]) rfl ?own rfl ?src ?one ?h63 ?hby ?hbase ?_))
      case own => exact own_fr HO1.out ((Fr.refl Nob _).alloc _) (fun _ _ _ _ e => e)
      case src => exact Sl.new1 (Blk.new_eq (by simp)) 1 1 rfl (by decide)
      case one => exact iv_oneJ _
      case h63 => unfold maxLen; omega
      case hby => omega
      case hbase => have h2 := hfr.out.size; have h3 := HF11.out.size; simp; omega
      intro A2 c2 w12 hown2 hgr2 hl2
      have HO2 := Lib.hid (show w12.ownsRow W1.heap.size 3 1 (.slice A2 (i + 1) c2) (i + 1) (rkV (pts ps) mark ⟨op, nm, cm, va, lo, hi⟩ xs [] (i + 1)) from by rw [HKV.out]; exact hown2)
      have HF12 := Lib.hid (((hfr.out.call HF11.out (fun _ h _ => h)).alloc _).grown hgr2 (fun k hk hlt => by have := own_base HO1.out k hk; omega))
      clear hown2 hgr2 hl2
      go_wp2_with fail
      go_roundw
      case rel => exact ⟨i + 1, A2, c2, by omega, by go_num, rfl, HF12, HO2⟩
      case measure => simp [intOf]; omega
    · obtain rfl : i = ps.length := by omega
      have HOA := Lib.hid (Sl.of_own hown.out)
      have HFA := Lib.hid (HF0.out.call hfr.out (fun _ h _ => h))
      have hlt3 : ¬ (ps.length : Int) < ps.length := by omega
      clear hfr hown
      go_wp2_with fail
      go_ret
      refine ⟨_, _, rfl, ?_, HFA.out⟩
      rw [← rkV_full]
      exact HOA.out
set_option maxRecDepth 100000 in
set_option maxHeartbeats 8000000 in
theorem rR2 (x : Nd) (b off d : Nat) (hb : b < w.heap.size) (y : Nd) (B : Option Addr) (n e : Nat) (hk : NdAt w b off y B n e) (xs : List Int) (hxl : xs.length = ps.length) (htri : ∀ j, Tri (xAt xs j))
    (hC : ∀ W, Fr Nob w W → Calls Tryd.prog 38 #[fval y B n e, .slice A ps.length c, .int .i64 mark] W fun e w' => IMN W w' e xs ps.length) (z : Nd) (C : Option Addr) (n2 e2 : Nat) (hk2 : NdAt w b (off + 7) z C n2 e2) (ys : List Int) (hyl : ys.length = ps.length) (htri2 : ∀ j, Tri (xAt ys j))
    (hC2 : ∀ W, Fr Nob w W → Calls Tryd.prog 38 #[fval z C n2 e2, .slice A ps.length c, .int .i64 mark] W fun e w' => IMN W w' e ys ps.length) (hop : x.op = 5 ∨ x.op = 8 ∨ x.op = 11) :
    Calls Tryd.prog 38 #[fval x (some ⟨b, off, none⟩) 2 d, .slice A ps.length c, .int .i64 mark] w fun e w' => IMN w w' e (rowK (pts ps) mark x xs ys) ps.length := by
  have HL := Lib.hid h
  have hmax := h.sl.max
  unfold maxLen at hmax
  have HKD := Lib.hid hk
  have HKE := Lib.hid hk2
  have HC := Lib.hid hC
  have HC2 := Lib.hid hC2
  have HK0 := Lib.hid (fun W (hf : Fr Nob w W) X cx (hs : Sl W 1 X ps.length cx (xs.map ivI)) Y cy (ht : Sl W 1 Y ps.length cy (ys.map ivI)) i (hi : i < ps.length) => (show Calls Tryd.prog 64 #[fval x (some ⟨b, off, none⟩) 2 d, .slice A ps.length c, .int .i64 mark, .int .i64 i, .slice X ps.length cx, .slice Y ps.length cy] W _ from by
    have := rf_known W A c ps (HL.out.pure hf) hW i hi mark hm1 hm2 x (some ⟨b, off, none⟩) 2 d X cx xs (by rw [hxl]; exact hs) htri Y cy ys (by rw [hyl]; exact ht) htri2 (by omega) (fun _ => hxl) (fun _ => hyl) hfew
    rw [hxl, hyl] at this
    exact this))
  clear h hW hop hm1 hm2 hC hk hxl htri hC2 hk2 hyl htri2
  obtain ⟨op, nm, cm, va, lo, hi⟩ := x
  unfold fval at *
  dsimp only at *
  go_enter Tryd.func38, Tryd.ntmps38
  go_upto_region 3 with fail
  obtain ⟨W0, hW0⟩ : ∃ W0, w.alloc (.cells #[.int .i64 op, .string nm, .int .i64 cm, .int .i64 va, .int .i64 lo, .int .i64 hi, .slice (some ⟨b, off, none⟩) 2 d] 38) = W0 := ⟨_, rfl⟩
  have HB0 := Lib.hid (show Blk W0 w.heap.size 38 #[.int .i64 op, .string nm, .int .i64 cm, .int .i64 va, .int .i64 lo, .int .i64 hi, .slice (some ⟨b, off, none⟩) 2 d] by rw [← hW0]; exact Blk.new _ _ _)
  have HF0 := Lib.hid (show Fr Nob w W0 by rw [← hW0]; exact (Fr.refl _ _).alloc _)
  rw [hW0]
  clear hW0
  have bc := HB0.out.cell
  have bl := HB0.out.lt
  obtain ⟨d0, d1, d2, d3, d4, d5, d6⟩ := HKD.out.fr HF0.out
  have hbl := Nat.lt_of_lt_of_le hb HF0.out.size
  go_upto_region 5 with (first
    | ((go_at_call 38); (with_reducible refine (HC.out _ HF0.out).mono ?_); rintro e W1 ⟨X, cx, rfl, hxs, hf1⟩; have HXS1 := Lib.hid hxs; have HG1 := Lib.hid hf1; clear hxs hf1)
    | fail)
  clear d0 d1 d2 d3 d4 d5 d6 hbl bc bl HC HKD
  replace HF0 := Lib.hid (HF0.out.call HG1.out (fun _ h _ => h))
  replace HB0 := Lib.hid (HB0.out.fr HG1.out (fun e => e))
  have bc := HB0.out.cell
  have bl := HB0.out.lt
  obtain ⟨d0, d1, d2, d3, d4, d5, d6⟩ := HKE.out.fr HF0.out
  have hbl := Nat.lt_of_lt_of_le hb HF0.out.size
  go_upto_region 7 with (first
    | ((go_at_call 38); (with_reducible refine (HC2.out _ HF0.out).mono ?_); rintro e W2 ⟨Y, cy, rfl, hxs, hf1⟩; have HXS2 := Lib.hid hxs; have HG2 := Lib.hid hf1; clear hxs hf1)
    | fail)
  clear d0 d1 d2 d3 d4 d5 d6 hbl bc bl HC2 HKE
  replace HF0 := Lib.hid (HF0.out.call HG2.out (fun _ h _ => h))
  replace HB0 := Lib.hid (HB0.out.fr HG2.out (fun e => e))
  have bc := HB0.out.cell
  have bl := HB0.out.lt
  have HK := Lib.hid (fun W (hf : Fr Nob W2 W) i (hi : i < ps.length) => HK0.out W (HF0.out.call hf (fun _ h _ => h)) X cx (HXS1.out.pure (HG2.out.call hf (fun _ h _ => h))) Y cy (HXS2.out.pure hf) i hi)
  clear HK0 HG1 HXS1 HG2 HXS2
  go_wp2_with fail
  go_loopw [9, 10] (fun ov iv wr => ∃ (k : Nat) (A' : Option Addr) (c' : Nat), k ≤ ps.length ∧ iv = .int .i64 k ∧ ov = .slice A' k c' ∧ Hid (Fr Nob W2 wr) ∧ Hid (wr.ownsRow W2.heap.size 3 1 (.slice A' k c') k (rkV (pts ps) mark ⟨op, nm, cm, va, lo, hi⟩ xs ys k))) (fun _ iv _ => ps.length - (intOf iv).toNat)
  case atStart => exact ⟨0, none, 0, Nat.zero_le _, rfl, rfl, Lib.hid (Fr.refl _ _), Lib.hid (by rw [rkV_nil]; exact World.ownsRow_nil _ _ _ _)⟩
  case round =>
    obtain ⟨i, A', c', hi', rfl, rfl, hfr, hown⟩ := hrel
    have HBr := Lib.hid (HB0.out.fr hfr.out (fun e => e))
    have bcr := HBr.out.cell
    have blr := HBr.out.lt
    by_cases hlt : i < ps.length
    · have hI2 : (i : Int) < ps.length := by omega
      have hI3 : 0 ≤ (i : Int) := by omega
      have HKV := Lib.hid (rkV_snoc (pts ps) mark ⟨op, nm, cm, va, lo, hi⟩ xs ys i)
      have HKN := Lib.hid (HK.out wr hfr.out i hlt)
      generalize rkV (pts ps) mark ⟨op, nm, cm, va, lo, hi⟩ xs ys i = ov0 at *
      generalize knK (pts ps) mark ⟨op, nm, cm, va, lo, hi⟩ i xs ys = zk at *
      have HOW := Lib.hid hown.out
      go_wp2_with (first
        | ((go_at_call 64); (with_reducible refine (HKN.out).mono ?_); rintro e w11 ⟨rfl, hf11⟩; have HF11 := Lib.hid hf11; have HO1 := Lib.hid (own_fr HOW.out hf11 (fun _ _ _ _ e => e)); clear hf11)
        | (at_builtin; refine wpList_app rfl _ _ 33 rfl el_i1 (base := W2.heap.size) (xs := ov0) (news := [ivI zk]) rfl ?own rfl ?src ?one ?h63 ?hby ?hbase ?_))
      case own => exact own_fr HO1.out ((Fr.refl Nob _).alloc _) (fun _ _ _ _ e => e)
      case src => exact Sl.new1 (Blk.new_eq (by simp)) 1 1 rfl (by decide)
      case one => exact iv_oneJ _
      case h63 => unfold maxLen; omega
      case hby => omega
      case hbase => have h2 := hfr.out.size; have h3 := HF11.out.size; simp; omega
      intro A2 c2 w12 hown2 hgr2 hl2
      have HO2 := Lib.hid (show w12.ownsRow W2.heap.size 3 1 (.slice A2 (i + 1) c2) (i + 1) (rkV (pts ps) mark ⟨op, nm, cm, va, lo, hi⟩ xs ys (i + 1)) from by rw [HKV.out]; exact hown2)
      have HF12 := Lib.hid (((hfr.out.call HF11.out (fun _ h _ => h)).alloc _).grown hgr2 (fun k hk hlt => by have := own_base HO1.out k hk; omega))
      clear hown2 hgr2 hl2
      go_wp2_with fail
      go_roundw
      case rel => exact ⟨i + 1, A2, c2, by omega, by go_num, rfl, HF12, HO2⟩
      case measure => simp [intOf]; omega
    · obtain rfl : i = ps.length := by omega
      have HOA := Lib.hid (Sl.of_own hown.out)
      have HFA := Lib.hid (HF0.out.call hfr.out (fun _ h _ => h))
      have hlt3 : ¬ (ps.length : Int) < ps.length := by omega
      clear hfr hown
      go_wp2_with fail
      go_ret
      refine ⟨_, _, rfl, ?_, HFA.out⟩
      rw [← rkV_full]
      exact HOA.out
end
end Go.Proofs.YtkmicfjcikilhaaDoor

/- The reference's Row; a formula and a word as the model has them. -/
namespace Go.Proofs.YtkmicfjcikilhaaDoor
open Go.RowKit Go.Sort Go.Lib Go.Shelf

theorem ptJ_snoc {ps : List Pn} {k : Nat} (hk : k < ps.length) : (ps.take k).flatMap pnc ++ pnc ps[k] = (ps.take (k + 1)).flatMap pnc := by
  rw [List.take_succ_eq_append_getElem hk, List.flatMap_append, List.flatMap_cons, List.flatMap_nil, List.append_nil]
theorem WSl.of_takeJ {w wr : World} {A A' : Option Addr} {c c' k base T : Nat} {ps : List Pn} (h : WSl w A c ps) (hf : Fr Nob w wr) (hown : wr.ownsRow base T 2 (.slice A' k c') k ((ps.take k).flatMap pnc)) (hk : ¬ k < ps.length) (hk2 : k ≤ ps.length) : k = ps.length ∧ WSl wr A' c' ps := by
  have e : k = ps.length := by omega
  subst e
  rw [List.take_length] at hown
  exact ⟨rfl, Sl.of_own hown, fun p hp => (h.inn p hp).pure hf⟩
set_option maxRecDepth 100000 in
set_option maxHeartbeats 4000000 in
theorem l15_points (w : World) (A : Option Addr) (c : Nat) (ps : List Pn) (h : WSl w A c ps) (h63 : ps.length ≤ 1000) :
    Calls Tryd.prog 14 #[.slice A ps.length c] w fun e w' => ∃ A' c', e = .returned (.slice A' ps.length c') ∧ WSl w' A' c' ps ∧ Fr Nob w w' := by
  have HL := Lib.hid h
  clear h
  obtain ⟨i0, hi0, hz0, hz1, hz2⟩ := info_parts (show (Tryd.prog.info? 80).map (fun i => (i.zero, i.size, i.bytes)) = some (some (.agg #[.int .i64 0, .slice none 0 0]), 2, 32) by kernel_rfl)
  go_enter Tryd.func14, Tryd.ntmps14
  go_wp2_with fail
  go_loopw [3, 4] (fun sv i wr => ∃ (k : Nat) (A' : Option Addr) (c' : Nat), k ≤ ps.length ∧ i = .int .i64 k ∧ sv = .slice A' k c' ∧ Hid (Fr Nob w wr) ∧ Hid (wr.ownsRow w.heap.size 80 2 (.slice A' k c') k ((ps.take k).flatMap pnc))) (fun _ i _ => ps.length - (intOf i).toNat)
  case atStart => exact ⟨0, none, 0, Nat.zero_le _, rfl, rfl, Lib.hid (Fr.refl Nob w), Lib.hid (World.ownsRow_nil _ _ _ _)⟩
  case round =>
    obtain ⟨k, A', c', hk, rfl, rfl, hf, hs⟩ := hrel
    by_cases hlt : k < ps.length
    · have hI : (k : Int) < ps.length := by omega
      have hI3 : 0 ≤ (k : Int) := by omega
      obtain ⟨b, off, rfl, hb, d0, d1⟩ := (HL.out.pure hf.out).at_ hlt
      have HE := Lib.hid (ptJ_snoc hlt)
      generalize ps[k] = p at *
      obtain ⟨t, pA, pc, l⟩ := p
      dsimp only at d0 d1
      go_wp2_with fail
      have hdr := hf.out.drew
      have HOW := Lib.hid (own_fr hs.out (Fr.refl Nob wr).drew (fun _ _ _ _ e => e))
      have HDR := Lib.hid hdr
      have hs0 := hdr.size
      clear hf hs hdr
      go_region_law
        (first
          | (refine step_append_lies (wr.drew.alloc (.cells #[.int .i64 t, .slice pA l.length pc] 80)) (by rfl) _ _ _ (by rfl) w.heap.size 80 i0 _ 2 32 Tryd.underlying40 hi0 hz0 hz1 hz2 (by rfl) (by decide) (.slice A' k c') k ((ps.take k).flatMap pnc) (by rfl) (own_fr HOW.out ((Fr.refl _ _).alloc _) (fun _ _ _ _ e => e)) ⟨wr.drew.heap.size, 0, none⟩ 1 1 (pnc ⟨t, pA, pc, l⟩) (by rfl) (by rfl) (World.news_of_block (heap_alloc_new wr.drew _)) (pnc_one _) (by decide) (by unfold maxLen; omega) (by omega) (by simp at hs0 ⊢; omega) (wr.drew.heap.size + 1) (by simp) ?_
             intro g4 c4 w4 hown4 hgr hat4 hlt4
             have HO4 := Lib.hid hown4
             have HG4 := Lib.hid hgr
             clear hown4 hat4))
      all_goals
        have HF7 := Lib.hid ((HDR.out.alloc _).grown HG4.out (fun q e hlt => by have := HOW.out.lt q e; omega))
        have HO7 := HO4.out
        rw [HE.out] at HO7
        replace HO7 := Lib.hid HO7
        clear HO4 HG4 hgr
        go_wp2_with fail
        go_roundw
        case rel => exact ⟨k + 1, _, _, by omega, by go_num, rfl, HF7, HO7⟩
        case measure => simp [intOf]; omega
    · obtain ⟨rfl, hw⟩ := HL.out.of_takeJ hf.out hs.out hlt hk
      have HW := Lib.hid hw
      clear hw
      go_wp2_with fail
      go_ret
      exact ⟨A', c', rfl, HW.out, hf.out⟩
set_option maxRecDepth 100000 in
set_option maxHeartbeats 8000000 in
theorem l15_plain : ∀ (m : Nat) (N : Nat) (w : World) (x : Nd) (B : Option Addr) (d : Nat) (ks : Fo), ks.tr.size ≤ m → ks.tr.size ≤ 100000 → FoSl N w B d ks → N ≤ w.heap.size →
    Calls Tryd.prog 13 #[fval x B ks.len d] w fun e w' => ∃ A c ks', e = .returned (fval x A ks'.len c) ∧ ks'.tr = ks.tr ∧ FoSlP (fun b => w.heap.size ≤ b ∧ b < w'.heap.size) w' A c ks' ∧ Fr Nob w w' := by
  intro m
  induction m using Nat.strongRecOn with
  | _ m ih =>
    intro N w x B d ks hm hb hs hN
    obtain ⟨i0, hi0, hz0, hz1, hz2⟩ := info_parts infoRF
    have IH := Lib.hid ih
    have HS := Lib.hid hs
    have hlen := ks.len_size
    clear ih hs
    unfold fval at *
    go_enter Tryd.func13, Tryd.ntmps13
    go_wp2_with fail
    have HI := Lib.hid (show PlI w (((w.alloc (.cells #[.int .i64 x.op, .string x.name, .int .i64 x.cmp, .int .i64 x.val, .int .i64 x.lo, .int .i64 x.hi, .slice B ks.len d] 28)).alloc (.cells #[.int .i64 0, .string default, .int .i64 0, .int .i64 0, .int .i64 0, .int .i64 0, .slice none 0 0] 38)).alloc (.cells #[.int .i64 x.op, .string x.name, .int .i64 x.cmp, .int .i64 x.val, .int .i64 x.lo, .int .i64 x.hi, .slice none 0 0] 38)) x B d ks 0 none 0 .nil from
      ⟨(((Fr.refl _ _).alloc _).alloc _).alloc _, ((Blk.new _ _ _).alloc _).alloc _, (Blk.new_eq (by simp)).alloc _, Blk.new_eq (by simp), ⟨rfl, .inl ⟨rfl, rfl⟩⟩, rfl, trivial, by rw [Fo.get_zero]; rfl⟩)
    go_loopw [4] (fun i wr => ∃ (k : Nat) (A : Option Addr) (c : Nat) (ks1 : Fo), k ≤ ks.len ∧ i = .int .i64 k ∧ Hid (PlI w wr x B d ks k A c ks1)) (fun i _ => ks.len - (intOf i).toNat)
    case atStart => exact ⟨0, none, 0, .nil, Nat.zero_le _, rfl, HI⟩
    case round =>
      clear HI
      obtain ⟨k, A, c, ks1, hk, rfl, hi⟩ := hrel
      have e1 : w.heap.size + 1 + 1 = w.heap.size + 2 := rfl
      have hbl := Blk.lt hi.out.xbox
      have e6 : wr.cell? ⟨w.heap.size, 6, none⟩ = some (.slice B ks.len d) := hi.out.fbox.cell 6
      by_cases hlt : k < ks.len
      · have hI : (k : Int) < ks.len := by omega
        have hI3 : 0 ≤ (k : Int) := by omega
        obtain ⟨b, off, y, B2, d2, js, rs, K⟩ := (HS.out.fr hi.out.fr).kid hlt
        obtain ⟨d0, d1, d2', d3, d4, d5, d6⟩ := K.nd
        obtain rfl := K.slice
        have hlt2 := K.lt
        have hbN := K.bN
        have hsz := K.size
        have hg := K.get
        have hg2 := Fo.get_succ hg
        have HC := Lib.hid (fun W (h : Fr Nob wr W) => IH.out js.tr.size (by omega) N W y B2 d2 js (Nat.le_refl _) (by omega) (K.sl.fr h) (by have := h.size; have := hi.out.fr.size; omega))
        have HG := Lib.hid (show (ks.get k).tr = .cons y js.tr (ks.get (k + 1)).tr by rw [hg, hg2]; rfl)
        have x6 : wr.cell? ⟨w.heap.size + 2, 6, none⟩ = some (.slice A k c) := hi.out.xbox.cell 6
        have xf := hi.out.xbox.frozen 6
        have HRB := Lib.hid (fun q (hq : (Value.slice A k c).ownBlock = some q) => (hi.out.own.lt q hq).1)
        have HOW := Lib.hid hi.out.own
        have HXB := Lib.hid hi.out.xbox
        have HDR := Lib.hid (show Fr Nob wr wr.drew from (Fr.refl _ _).drew)
        have hbw := hi.out.fr.size
        clear hg hg2 K
        go_wp2_with fail
        go_region_law
          (first
            | (rw [if_pos (by rfl)]; go_simp; (go_at_call 13); refine (HC.out _ (Fr.drew (Fr.refl _ _))).mono ?_; rintro e w2 ⟨A3, c3, js', rfl, htr, hsl, hf2⟩; have HTR := Lib.hid htr; have HSL := Lib.hid hsl; have HF2 := Lib.hid hf2; have hw2 : wr.heap.size ≤ w2.heap.size := (HDR.out.call hf2 (fun _ h _ => h)).size; have hbl2 : w.heap.size + 2 < w2.heap.size := by omega
               have x6' : w2.cell? ⟨w.heap.size + 2, 6, none⟩ = some (.slice A k c) := (HDR.out.call hf2 (fun _ h _ => h)).cell x6 (fun e => e); clear htr hsl; go_simp)
            | (refine step_append_lies (w2.alloc (.cells #[.int .i64 y.op, .string y.name, .int .i64 y.cmp, .int .i64 y.val, .int .i64 y.lo, .int .i64 y.hi, .slice A3 js'.len c3] 38)) (by rfl) _ _ _ (by rfl) (w.heap.size + 3) 38 i0 _ 7 80 Tryd.underlying36 hi0 hz0 hz1 hz2 (by rfl) (by decide) (.slice A k c) k ks1.tops (by rfl) (World.ownsRow.alloc (own_fr HOW.out (HDR.out.call HF2.out (fun _ h _ => h)) (fun _ _ _ _ e => e)) _) ⟨w2.heap.size, 0, none⟩ 1 1 (fcs y A3 js'.len c3) (by rfl) (by rfl) (World.news_of_block (heap_alloc_new w2 _)) (nd_one _ _ _ _) (by decide) (by unfold maxLen; omega) (by omega) (by simp at hw2 ⊢; omega) (w2.heap.size + 1) (by simp) ?_
               intro g4 c4 w4 hown4 hgr hat4 hlt4
               have hfar : ∀ q, q < w.heap.size + 3 → some q ≠ (Value.slice A k c).ownBlock := fun q hq e => by have := HRB.out q e.symm; omega
               have hx4b := ((((HXB.out.fr HDR.out (fun e => e)).fr HF2.out (fun e => e)).alloc (.cells #[.int .i64 y.op, .string y.name, .int .i64 y.cmp, .int .i64 y.val, .int .i64 y.lo, .int .i64 y.hi, .slice A3 js'.len c3] 38)).grown hgr (fun e => hfar (w.heap.size + 2) (by omega) e.symm))
               have hx4 := hx4b.frozen 6
               have hx4c : w4.cell? ⟨w.heap.size + 2, 6, none⟩ = some (.slice A k c) := hx4b.cell 6
               have HO4 := Lib.hid hown4
               have HG4 := Lib.hid hgr
               have HA4 := Lib.hid hat4
               clear hown4 hat4))
        all_goals
          have HI2 := Lib.hid (PlI.step hi.out HG.out (HDR.out.call HF2.out (fun _ h _ => h)) HTR.out HSL.out HG4.out HO4.out HA4.out)
          clear hi HSL HF2 HG4 HO4 HA4 hgr
          go_wp2_with fail
          go_roundw
          case rel => exact ⟨k + 1, _, _, _, by omega, by go_num, HI2⟩
          case measure => simp [intOf]; omega
      · have x0 : wr.cell? ⟨w.heap.size + 2, 0, none⟩ = some (.int .i64 x.op) := hi.out.xbox.cell 0
        have x1 : wr.cell? ⟨w.heap.size + 2, 1, none⟩ = some (.string x.name) := hi.out.xbox.cell 1
        have x2 : wr.cell? ⟨w.heap.size + 2, 2, none⟩ = some (.int .i64 x.cmp) := hi.out.xbox.cell 2
        have x3 : wr.cell? ⟨w.heap.size + 2, 3, none⟩ = some (.int .i64 x.val) := hi.out.xbox.cell 3
        have x4 : wr.cell? ⟨w.heap.size + 2, 4, none⟩ = some (.int .i64 x.lo) := hi.out.xbox.cell 4
        have x5 : wr.cell? ⟨w.heap.size + 2, 5, none⟩ = some (.int .i64 x.hi) := hi.out.xbox.cell 5
        have x6 : wr.cell? ⟨w.heap.size + 2, 6, none⟩ = some (.slice A k c) := hi.out.xbox.cell 6
        have rc := hi.out.rbox.cell
        have rf := hi.out.rbox.frozen
        obtain ⟨htr, hsl⟩ := hi.out.done (Fo.get_end (by omega))
        have HTR := Lib.hid htr
        have HSL := Lib.hid hsl
        have HLN := Lib.hid hi.out.len
        have HB7 := Lib.hid (set7_blk hi.out.rbox (.int .i64 x.op) (.string x.name) (.int .i64 x.cmp) (.int .i64 x.val) (.int .i64 x.lo) (.int .i64 x.hi) (.slice A k c))
        have HF7 := Lib.hid (set7_fr wr (w.heap.size + 1) (.int .i64 x.op) (.string x.name) (.int .i64 x.cmp) (.int .i64 x.val) (.int .i64 x.lo) (.int .i64 x.hi) (.slice A k c))
        have HFR := Lib.hid hi.out.fr
        clear htr hsl hi
        go_wp2_with fail
        change bodyPost _ _ _ _ _ (set7 wr (w.heap.size + 1) (.int .i64 x.op) (.string x.name) (.int .i64 x.cmp) (.int .i64 x.val) (.int .i64 x.lo) (.int .i64 x.hi) (.slice A k c))
        generalize set7 wr (w.heap.size + 1) (.int .i64 x.op) (.string x.name) (.int .i64 x.cmp) (.int .i64 x.val) (.int .i64 x.lo) (.int .i64 x.hi) (.slice A k c) = W7 at *
        have E0 := HB7.out.cell 0
        have E1 := HB7.out.cell 1
        have E2 := HB7.out.cell 2
        have E3 := HB7.out.cell 3
        have E4 := HB7.out.cell 4
        have E5 := HB7.out.cell 5
        have E6 := HB7.out.cell 6
        have HF8 := HF7.out
        clear rc rf x0 x1 x2 x3 x4 x5 x6 e6
        refine bodyPost_ret (v := .agg #[.int .i64 x.op, .string x.name, .int .i64 x.cmp, .int .i64 x.val, .int .i64 x.lo, .int .i64 x.hi, .slice A k c]) (by simp [results, Tryd.results13, go_sem, E0, E1, E2, E3, E4, E5, E6]) rfl ⟨A, c, ks1, by rw [HLN.out], HTR.out, ?_, HFR.out.call HF8 (fun i e hlt => by have : i = w.heap.size + 1 := e; omega)⟩
        exact (HSL.out.keep (fun b hb hlt => HF8.block b hlt (fun e => by have : b = w.heap.size + 1 := e; have := hb.1; omega))).mono (fun b hb => ⟨by have := hb.1; omega, by have := hb.2; have := HF8.size; omega⟩)
theorem r_Rows (A : Option Addr) (c : Nat) (ps : List Pn) (hW : Rise (pts ps)) (hfew : ps.length ≤ 1000) (mark : Int) (hm1 : -1 ≤ mark) (hm2 : mark ≤ last63) : ∀ (m : Nat) (w : World) (p : Nat → Prop) (x : Nd) (B : Option Addr) (d : Nat) (ks : Fo), WSl w A c ps → ks.tr.size ≤ m → FoSlP p w B d ks → coreS (x, ks.tr) →
    Calls Tryd.prog 38 #[fval x B ks.len d, .slice A ps.length c, .int .i64 mark] w fun e w' => IMN w w' e (rowS (pts ps) mark (x, ks.tr)) ps.length := by
  intro m
  induction m using Nat.strongRecOn with
  | _ m ih =>
    intro w p x B d ks h hm hs hc
    obtain ⟨hc1, hc2⟩ := hc
    dsimp only at hc1 hc2
    rw [Fo.tr_len] at hc1
    unfold coreN at hc1
    cases ks with
    | nil =>
      simp only [Fo.len] at hc1
      exact rR0 w A c ps h hW hfew mark hm1 hm2 x B d (by omega)
    | cons y B2 e js rs =>
      simp only [Fo.tr, Tr.core, Tr.size] at hc2 hm
      obtain ⟨g1, g2, g3⟩ := hc2
      obtain ⟨b, off, rfl, hbl, hn, hk⟩ := hs.kid
      have hC : ∀ W, Fr Nob w W → Calls Tryd.prog 38 #[fval y B2 js.len e, .slice A ps.length c, .int .i64 mark] W fun e w' => IMN W w' e (rowS (pts ps) mark (y, js.tr)) ps.length := fun W hf => ih js.tr.size (by omega) W p y B2 e js (h.pure hf) (Nat.le_refl _) (hk.fr hf) ⟨g1, g2⟩
      cases rs with
      | nil =>
        simp only [Fo.len] at hc1
        exact rR1 w A c ps h hW hfew mark hm1 hm2 x b off d hbl y B2 js.len e hn (rowS (pts ps) mark (y, js.tr)) (by rw [rowS_len, pts_len]) (tri_rowS _ _ _) hC (by omega)
      | cons z C f ls rs2 =>
        have hr2 : rs2 = .nil := by
          cases rs2 with
          | nil => rfl
          | cons _ _ _ _ _ => simp [Fo.len] at hc1
        subst hr2
        simp only [Fo.tr, Tr.core, Tr.size] at g3 hm
        simp only [Fo.len] at hc1
        obtain ⟨e1, e2, _⟩ := g3
        obtain ⟨b2, off2, hA2, _, hn2, hk2⟩ := hs.kid2
        obtain ⟨rfl, rfl⟩ : b = b2 ∧ off = off2 := by simpa using hA2
        exact rR2 w A c ps h hW hfew mark hm1 hm2 x b off d hbl y B2 js.len e hn (rowS (pts ps) mark (y, js.tr)) (by rw [rowS_len, pts_len]) (tri_rowS _ _ _) hC z C ls.len f hn2 (rowS (pts ps) mark (z, ls.tr)) (by rw [rowS_len, pts_len]) (tri_rowS _ _ _)
          (fun W hf => ih ls.tr.size (by omega) W p z C f ls (h.pure hf) (Nat.le_refl _) (hk2.fr hf) ⟨e1, e2⟩) (by omega)
set_option maxRecDepth 100000 in
set_option maxHeartbeats 8000000 in
theorem rf_Row (w : World) (x : Nd) (B : Option Addr) (d : Nat) (ks : Fo) (hs : FoSl w.heap.size w B d ks) (hsz : ks.tr.size ≤ 4000) (hnm : ∀ y ∈ (Tr.cons x ks.tr .nil).nodes 1, y.1.name.size ≤ 9223372036854775807) (A : Option Addr) (c : Nat) (ps : List Pn) (h : WSl w A c ps) (hnw : NmW ps) (h63 : ∀ p ∈ ps, p.t ≤ last63) (hfew : ps.length ≤ 1000) (mark : Int) (hm2 : mark ≤ last63) :
    Calls Tryd.prog 12 #[fval x B ks.len d, .slice A ps.length c, .int .i64 mark] w fun e w' => IMN w w' e (rowA x ks.tr (pts ps) mark) (rowA x ks.tr (pts ps) mark).length := by
  have HFI := Lib.hid (fun W (hf : Fr Nob w W) => ref_First W.heap.size W x B d ks (by omega) ((hs.fr hf).mono hf.size) hnm)
  have HRT := Lib.hid (fun W (hf : Fr Nob w W) => rw_Right W A c ps (h.pure hf) hnw hfew)
  have HOF := Lib.hid (fun (hg : firstW ((Tr.cons x ks.tr .nil).nodes 1) = 0) W (hf : Fr Nob w W) => r_Of W x B d ks ((hs.fr hf).mono hf.size) (by omega) hnm hg)
  have HRW := Lib.hid (fun (hr : wRightB (pts ps) = true) (hm1 : -1 ≤ mark) W (hf : Fr Nob w W) (op : Int) (nm : ByteArray) (cm va lo hi : Int) (C : Option Addr) (f : Nat) (ls : Fo) (s : S1) (he : ((⟨op, nm, cm, va, lo, hi⟩ : Nd), ls.tr) = s) (q : Nat → Prop) (hq : FoSlP q W C f ls) (hc : coreS s) => (show Calls Tryd.prog 38 #[.agg #[.int .i64 op, .string nm, .int .i64 cm, .int .i64 va, .int .i64 lo, .int .i64 hi, .slice C ls.len f], .slice A ps.length c, .int .i64 mark] W fun e w' => IMN W w' e (rowS (pts ps) mark s) ps.length from by
    subst he
    exact r_Rows A c ps (rise_of hr h63) hfew mark hm1 hm2 ls.tr.size W q ⟨op, nm, cm, va, lo, hi⟩ C f ls (h.pure hf) (Nat.le_refl _) hq hc))
  have HMG := Lib.hid (fun (hg : firstW ((Tr.cons x ks.tr .nil).nodes 1) = 0) => madeS_good ((good_first x ks.tr).1 hg).1 ((good_first x ks.tr).1 hg).2)
  have HRA := Lib.hid (show rowA x ks.tr (pts ps) mark = if firstW ((Tr.cons x ks.tr .nil).nodes 1) = 0 ∧ wRightB (pts ps) = true ∧ -1 ≤ mark then rowS (pts ps) mark (madeS x ks.tr) else [] from rfl)
  have HSL := Lib.hid (rowS_len (pts ps) mark (madeS x ks.tr))
  rw [pts_len] at HSL
  generalize rowA x ks.tr (pts ps) mark = r at *
  have hmax := h.sl.max
  unfold maxLen at hmax
  clear hs hsz hnm h hnw h63
  obtain ⟨op, nm, cm, va, lo, hi⟩ := x
  unfold fval at *
  dsimp only at *
  go_enter Tryd.func12, Tryd.ntmps12
  go_upto_region 1 with fail
  obtain ⟨W0, hW0⟩ : ∃ W0, w.alloc (.cells #[.int .i64 op, .string nm, .int .i64 cm, .int .i64 va, .int .i64 lo, .int .i64 hi, .slice B ks.len d] 38) = W0 := ⟨_, rfl⟩
  have HB0 := Lib.hid (show Blk W0 w.heap.size 38 #[.int .i64 op, .string nm, .int .i64 cm, .int .i64 va, .int .i64 lo, .int .i64 hi, .slice B ks.len d] by rw [← hW0]; exact Blk.new _ _ _)
  have HF0 := Lib.hid (show Fr Nob w W0 by rw [← hW0]; exact (Fr.refl _ _).alloc _)
  rw [hW0]
  clear hW0
  have bc := HB0.out.cell
  have bl := HB0.out.lt
  by_cases hg : firstW ((Tr.cons ⟨op, nm, cm, va, lo, hi⟩ ks.tr .nil).nodes 1) = 0
  case neg =>
    have HR := Lib.hid (show r = [] by rw [HRA.out, if_neg (fun e => hg e.1)])
    generalize firstW ((Tr.cons ⟨op, nm, cm, va, lo, hi⟩ ks.tr .nil).nodes 1) = fe at *
    have hb1 : (fe == 0) = false := by simpa using hg
    have hb2 : (fe != 0) = true := by simpa using hg
    clear HRA HRW HOF HMG HRT HSL
    go_wp2_with (first
      | ((go_at_call 36); (with_reducible refine (HFI.out _ HF0.out).mono ?_); rintro e w1 ⟨rfl, hf1⟩; have HF1 := Lib.hid (HF0.out.call hf1 (fun _ h _ => h)); clear hf1)
      | fail)
    go_ret
    rw [HR.out]
    exact ⟨none, 0, rfl, nil_sl _, HF1.out⟩
  replace HOF := Lib.hid (HOF.out hg)
  replace HMG := Lib.hid (HMG.out hg)
  have HGG := Lib.hid hg
  rw [hg] at HFI
  cases hr : wRightB (pts ps)
  · have HR := Lib.hid (show r = [] by rw [HRA.out, if_neg (fun e => by rw [hr] at e; cases e.2.1)])
    rw [hr] at HRT
    clear HRA HRW HOF HMG HSL hr hg
    go_wp2_with (first
      | ((go_at_call 36); (with_reducible refine (HFI.out _ HF0.out).mono ?_); rintro e w1 ⟨rfl, hf1⟩; have HF1 := Lib.hid (HF0.out.call hf1 (fun _ h _ => h)); clear hf1)
      | ((go_at_call 37); (with_reducible refine (HRT.out _ HF1.out).mono ?_); rintro e w2 ⟨rfl, hf2⟩; have HF2 := Lib.hid (HF1.out.call hf2 (fun _ h _ => h)); clear hf2)
      | fail)
    go_ret
    rw [HR.out]
    exact ⟨none, 0, rfl, nil_sl _, HF2.out⟩
  rw [hr] at HRT
  by_cases hm1 : -1 ≤ mark
  case neg =>
    have HR := Lib.hid (show r = [] by rw [HRA.out, if_neg (fun e => hm1 e.2.2)])
    have hm3 : mark < -1 := by omega
    clear HRA HRW HOF HMG HSL hr hg
    go_wp2_with (first
      | ((go_at_call 36); (with_reducible refine (HFI.out _ HF0.out).mono ?_); rintro e w1 ⟨rfl, hf1⟩; have HF1 := Lib.hid (HF0.out.call hf1 (fun _ h _ => h)); clear hf1)
      | ((go_at_call 37); (with_reducible refine (HRT.out _ HF1.out).mono ?_); rintro e w2 ⟨rfl, hf2⟩; have HF2 := Lib.hid (HF1.out.call hf2 (fun _ h _ => h)); clear hf2)
      | fail)
    go_ret
    rw [HR.out]
    exact ⟨none, 0, rfl, nil_sl _, HF2.out⟩
  have HR := Lib.hid (show r = rowS (pts ps) mark (madeS ⟨op, nm, cm, va, lo, hi⟩ ks.tr) by rw [HRA.out, if_pos ⟨hg, hr, hm1⟩])
  replace HRW := Lib.hid (HRW.out hr hm1)
  clear HRA hr hg
  go_upto_region 3 with (first
    | ((go_at_call 36); (with_reducible refine (HFI.out _ HF0.out).mono ?_); rintro e w1 ⟨rfl, hf1⟩; have HF1 := Lib.hid (HF0.out.call hf1 (fun _ h _ => h)); have HB1 := Lib.hid (HB0.out.fr hf1 (fun e => e)); clear hf1)
    | ((go_at_call 37); (with_reducible refine (HRT.out _ HF1.out).mono ?_); rintro e w2 ⟨rfl, hf2⟩; have HF2 := Lib.hid (HF1.out.call hf2 (fun _ h _ => h)); have HB2 := Lib.hid (HB1.out.fr hf2 (fun e => e)); have bc2 := HB2.out.cell; have bl2 := HB2.out.lt; clear hf2)
    | fail)
  clear bc bl HB0 HB1 HFI HRT
  go_wp2_with (first
    | ((go_at_call 39); (with_reducible refine (HOF.out _ HF2.out).mono ?_); rintro e w3 ⟨o1, n1, m1, v1, l1, i1, A1, c1, k1, rfl, he, hs1, hf3⟩; have HF3 := Lib.hid (HF2.out.call hf3 (fun _ h _ => h)); have HRR := Lib.hid (HRW.out w3 HF3.out o1 n1 m1 v1 l1 i1 A1 c1 k1 _ he _ hs1 HMG.out.1); clear he hs1 hf3)
    | ((go_at_call 38); (with_reducible refine (HRR.out).mono ?_); rintro e w4 ⟨A2, c2, rfl, hs2, hf4⟩; have HF4 := Lib.hid (HF3.out.call hf4 (fun _ h _ => h)); have HS4 := Lib.hid hs2; clear hs2 hf4)
    | fail)
  go_ret
  have hs4 := HS4.out
  rw [HR.out]
  exact ⟨A2, c2, by rw [HSL.out]; rfl, by rw [HSL.out]; exact hs4, HF4.out⟩
end Go.Proofs.YtkmicfjcikilhaaDoor

/- ThreeRows: what is known of any formula at any points, under any mark, is the document's. -/
namespace Go.Proofs.YtkmicfjcikilhaaDoor
open Go.RowKit Go.Lib

set_option maxRecDepth 100000 in
set_option maxHeartbeats 16000000 in
theorem law_ThreeRows (w : World) (x : Nd) (B : Option Addr) (d : Nat) (ks : Fo) (hs : FoSl w.heap.size w B d ks) (hv : ShVar w) (htv : ThVar w) (A : Option Addr) (c : Nat) (ps : List Pn) (h : WSl w A c ps) (h63 : ∀ p ∈ ps, p.t ≤ last63) (mark : Int) (hmk : mark ≤ last63) :
    Calls Tryd.prog 3 #[fval x B ks.len d, .slice A ps.length c, .int .i64 mark] w fun e w' => e = .returned (.bool true) ∧ Fr Nob w w' := by
  have HAW := Lib.hid (fun W (hf : Fr Nob w W) => l15_awake W (hv.fr hf) (htv.fr hf))
  have HLF := Lib.hid (fun W (hf : Fr Nob w W) => (show Calls Tryd.prog 9 #[fval x B ks.len d, .int .i64 60] W fun e w' => e = .returned (.int .i64 (left1 x ks.tr 60 : Nat)) ∧ Fr Nob W w' from l15_left 60 w.heap.size W x B d ks (by decide) (hs.fr hf)))
  have HFW := Lib.hid (fun W (hf : Fr Nob w W) => l15_few W A c ps (h.pure hf))
  have HS := Lib.hid hs
  have HV := Lib.hid hv
  have HTV := Lib.hid htv
  have HWS := Lib.hid h
  have HLP := Lib.hid (fun (h0 : 0 < left1 x ks.tr 60) => few_of (x := x) (ks := ks.tr) (n := 60) h0)
  clear hs hv htv h
  generalize left1 x ks.tr 60 = n0 at *
  unfold fval at *
  go_enter Tryd.func3, Tryd.ntmps3
  have HB0 := Lib.hid (show Blk (w.alloc (.cells #[.int .i64 x.op, .string x.name, .int .i64 x.cmp, .int .i64 x.val, .int .i64 x.lo, .int .i64 x.hi, .slice B ks.len d] 28)) w.heap.size 28 _ from Blk.new _ _ _)
  go_upto_region 6 with (first
    | ((go_at_call 8); (with_reducible refine (HAW.out _ ((Fr.refl _ _).alloc _)).mono ?_); rintro e w1 ⟨rfl, hf1⟩; have HF1 := Lib.hid (((Fr.refl Nob w).alloc _).call hf1 (fun _ h _ => h)); have HX1 := Lib.hid (HB0.out.fr hf1 (fun e => e)); have xc := HX1.out.cell; have xl := HX1.out.lt; clear hf1)
    | ((go_at_call 9); (with_reducible refine (HLF.out _ HF1.out).mono ?_); rintro e w2 ⟨rfl, hf2⟩; have HF2 := Lib.hid (HF1.out.call hf2 (fun _ h _ => h)); have HX2 := Lib.hid (HX1.out.fr hf2 (fun e => e)); clear hf2)
    | ((go_at_call 10); (with_reducible refine (HFW.out _ HF2.out).mono ?_); rintro e w3 ⟨bf, rfl, hbf, rfl⟩; have HBF := Lib.hid hbf; clear hbf)
    | fail)
  clear xc xl HX1 HF1 HB0 HAW HLF HFW
  have q0 := HX2.out.cell
  have q1 := HX2.out.lt
  by_cases hn : n0 = 0
  · subst hn
    go_wp2_with fail
    go_ret
    exact ⟨rfl, HF2.out⟩
  have hnI : ¬ (n0 : Int) ≤ 0 := by omega
  have hnI2 : (0 : Int) < n0 := by omega
  have hL := HLP.out (by omega)
  cases bf
  · skip
    go_wp2_with fail
    go_ret
    exact ⟨rfl, HF2.out⟩
  have hFW := HBF.out rfl
  have hnw : NmW ps := fun p hp y hy => by have := (hFW.2 p hp).2 y hy; omega
  have h1 := hL.size
  have hfew : ps.length ≤ 1000 := by have := hFW.1; omega
  have HROW := Lib.hid (fun W (hf : Fr Nob w W) => (th_Row W x B d ks ((HS.out.fr hf).mono hf.size) (by omega) (HV.out.fr hf) (HTV.out.fr hf) hL.names A c ps (HWS.out.pure hf) hnw h63 hfew mark).mono fun e w' h => IMade.n h rfl)
  have HPL := Lib.hid (fun W (hf : Fr Nob w W) => l15_plain ks.tr.size W.heap.size W x B d ks (Nat.le_refl _) (by omega) ((HS.out.fr hf).mono hf.size) (Nat.le_refl _))
  have HPT := Lib.hid (fun W (hf : Fr Nob w W) => l15_points W A c ps (HWS.out.pure hf) hfew)
  have HRF := Lib.hid (fun W C f (ls : Fo) A' c' (htr : ls.tr = ks.tr) (hsl : FoSl W.heap.size W C f ls) (hw : WSl W A' c' ps) => (show Calls Tryd.prog 12 #[fval x C ls.len f, .slice A' ps.length c', .int .i64 mark] W fun e w' => IMN W w' e (rowA x ks.tr (pts ps) mark) (rowA x ks.tr (pts ps) mark).length from by
    have := rf_Row W x C f ls hsl (by rw [htr]; omega) (by rw [htr]; exact hL.names) A' c' ps hw hnw h63 hfew mark hmk
    rw [htr] at this
    exact this))
  have hrl : (rowA x ks.tr (pts ps) mark).length ≤ 1000 := by
    unfold rowA
    split
    · rw [rowS_len, pts_len]; omega
    · simp
  unfold fval at *
  generalize rowA x ks.tr (pts ps) mark = lx at *
  clear h1 hL hFW hnw hn h63
  go_upto_region 9 with (first
    | ((go_at_call 11); (with_reducible refine (HROW.out _ HF2.out).mono ?_); rintro e w6 ⟨XA, cX, rfl, hxs, hf6⟩; have HF6 := Lib.hid (HF2.out.call hf6 (fun _ h _ => h)); have HX6 := Lib.hid (HX2.out.fr hf6 (fun e => e)); have p0 := HX6.out.cell; have p1 := HX6.out.lt; have HXS := Lib.hid hxs; clear hxs hf6)
    | fail)
  clear q0 q1 HX2 HROW
  go_upto_region 10 with (first
    | ((go_at_call 13); (with_reducible refine (HPL.out _ HF6.out).mono ?_); rintro e w7 ⟨C, f, ls, rfl, htr, hsl, hf7⟩; have HF7 := Lib.hid (HF6.out.call hf7 (fun _ h _ => h)); have HTR := Lib.hid htr; have HSL := Lib.hid (hsl.sl (N := w7.heap.size) (fun k hk => hk.2)); have HXS7 := Lib.hid (HXS.out.pure hf7); clear htr hsl hf7)
    | ((go_at_call 14); (with_reducible refine (HPT.out _ HF7.out).mono ?_); rintro e w8 ⟨A', c', rfl, hws, hf8⟩; have HF8 := Lib.hid (HF7.out.call hf8 (fun _ h _ => h)); have HSL8 := Lib.hid ((HSL.out.fr hf8).mono hf8.size); have HWS8 := Lib.hid hws; have HXS8 := Lib.hid (HXS7.out.pure hf8); clear hws hf8)
    | ((go_at_call 12); (with_reducible refine (HRF.out _ _ _ _ _ _ HTR.out HSL8.out HWS8.out).mono ?_); rintro e w9 ⟨YA, cY, rfl, hys, hf9⟩; have HF9 := Lib.hid (HF8.out.call hf9 (fun _ h _ => h)); have HXS9 := Lib.hid (HXS8.out.pure hf9); have HYS := Lib.hid hys; clear hys hf9)
    | fail)
  clear p0 p1 HX6 HXS HXS7 HSL HSL8 HWS8 HXS8 HPL HPT HRF HF2 HF6 HF7 HF8 HTR
  go_wp2_with fail
  go_loopw [12] (fun iv wr => ∃ i : Nat, i ≤ lx.length ∧ iv = .int .i64 i ∧ Hid (Fr Nob w9 wr)) (fun iv _ => lx.length - (intOf iv).toNat)
  case atStart => exact ⟨0, Nat.zero_le _, rfl, Lib.hid (Fr.refl _ _)⟩
  case round =>
    obtain ⟨i, hi, rfl, hfr⟩ := hrel
    by_cases hlt : i < lx.length
    · have hI2 : (i : Int) < lx.length := by omega
      have hI3 : 0 ≤ (i : Int) := by omega
      obtain ⟨b1, u1, hA1, hb1, d0⟩ := row_at (HXS9.out.pure hfr.out) hlt
      obtain ⟨b2, u2, hA2, hb2, e0⟩ := row_at (HYS.out.pure hfr.out) hlt
      generalize xAt lx i = v at *
      subst hA1 hA2
      go_wp2_with fail
      go_quiet (fail)
      go_wp2_with fail
      go_roundw
      case rel => exact ⟨i + 1, by omega, by go_num, Lib.hid (hfr.out.drewN _)⟩
      case measure => simp [intOf]; omega
    · have hlt3 : ¬ (i : Int) < lx.length := by omega
      have HFA := Lib.hid (HF9.out.call hfr.out (fun _ h _ => h))
      clear hfr
      go_wp2_with fail
      go_ret
      exact ⟨rfl, HFA.out⟩
end Go.Proofs.YtkmicfjcikilhaaDoor
