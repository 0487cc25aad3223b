/- parse's reader: a span. -/
import Derived.Test.YtfebkjoohnlifaaDoorQ1
namespace Go.Proofs.YtfebkjoohnlifaaDoor
open Go.RowKit Go.Shelf

theorem only_ne {R g : Nat} (h : R < g) : ¬ Only R g := fun e => absurd h (by unfold Only at e; omega)
theorem Rdr.drew {w : World} {R : Nat} {A : Option Addr} {c : Nat} {toks : List (TK × Nat)} {k : Nat} {e p : Int} (h : Rdr w R A c toks k e p) : Rdr w.drew R A c toks k e p := ⟨h.blk, h.sl.drew, h.off⟩
theorem two_call {S : Nat → Prop} {w W : World} {a b i j : Nat} {v u : Value} (hf : Fr S w W) (ha : ¬ S a) (hb : ¬ S b) (h : w.cell? ⟨a, i, none⟩ = some v ∧ w.cell? ⟨b, j, none⟩ = some u) : W.cell? ⟨a, i, none⟩ = some v ∧ W.cell? ⟨b, j, none⟩ = some u := ⟨hf.cell h.1 ha, hf.cell h.2 hb⟩
theorem two_set2 {W : World} {a b i j z : Nat} {v u : Value} (ha : a ≠ z) (hb : b ≠ z) (h : W.cell? ⟨a, i, none⟩ = some v ∧ W.cell? ⟨b, j, none⟩ = some u) (u0 u1 : Value) : ((W.setCell ⟨z, 0, none⟩ u0).setCell ⟨z, 1, none⟩ u1).cell? ⟨a, i, none⟩ = some v ∧ ((W.setCell ⟨z, 0, none⟩ u0).setCell ⟨z, 1, none⟩ u1).cell? ⟨b, j, none⟩ = some u :=
  two_call (fr_set2 (S := fun k => k = z) (Fr.refl _ _) (fun _ => rfl) u0 u1) ha hb h
def SpanR (w : World) (R : Nat) (A : Option Addr) (c : Nat) (toks : List (TK × Nat)) (q : SR) (en : Ending) (w' : World) : Prop :=
  Fr (Only R) w w' ∧ match q with
  | .ok lo hi r => en = .returned (.tuple #[.agg #[.int .i64 lo, .int .i64 hi], .bool true]) ∧ ∃ k', k' < toks.length ∧ r = remT toks k' ∧ Rdr w' R A c toks k' 0 0
  | .bad er r => ∃ lo hi, en = .returned (.tuple #[.agg #[.int .i64 lo, .int .i64 hi], .bool false]) ∧ ∃ k' kk, ∃ _ : k' < toks.length, r = remT toks k' ∧ Rdr w' R A c toks kk er toks[k'].2
theorem bump {w : World} {R : Nat} {A : Option Addr} {c : Nat} {toks : List (TK × Nat)} {k : Nat} {e p : Int} (h : Rdr w R A c toks k e p) : Rdr (w.setCell ⟨R, 1, none⟩ (.int .i64 ((k : Int) + 1))) R A c toks (k + 1) e p :=
  h.only ((Fr.refl (Only R) w).setCell (p := ⟨R, 1, none⟩) (fun _ => rfl) _) (by have := h.blk.set 1 (.int .i64 ((k : Int) + 1)); simpa using this)
theorem fr_bump {w W : World} {R k : Nat} (h : Fr (Only R) w W) : Fr (Only R) w (W.setCell ⟨R, 1, none⟩ (.int .i64 ((k : Int) + 1))) := h.setCell (p := ⟨R, 1, none⟩) (fun _ => rfl) _
/-- The tokens of a span, as long as they are right. -/
structure SpU (toks : List (TK × Nat)) (k : Nat) : Prop where
  k1 : k + 1 < toks.length
  k2 : k + 2 < toks.length
  kd : toks[k + 1].1.kind = 2
  nn : ¬ toks[k + 1].1.num < 0
structure SpV (toks : List (TK × Nat)) (k : Nat) : Prop extends SpU toks k where
  k3 : k + 3 < toks.length
  cm : tsg toks[k + 2] [44] = true
section
variable {toks : List (TK × Nat)} {k : Nat}
theorem tsg_next (ht : Toks toks) (hk : k < toks.length) {s : List UInt8} (h : tsg toks[k] s = true) : k + 1 < toks.length := by
  refine next_lt ht hk ?_
  unfold tsg at h
  simp only [Bool.and_eq_true, beq_iff_eq] at h
  omega
theorem sp_hd (hk : k < toks.length) : hd (remT toks k) = toks[k].1 := remT_hd hk
theorem spanP_at (hk : k < toks.length) : spanP (remT toks k) = (if tsg toks[k] [91] = false then .bad 20 (remT toks k)
  else if ¬ (hd (remT toks (k + 1))).kind = 2 ∨ (hd (remT toks (k + 1))).num < 0 then .bad 20 (remT toks (k + 1))
  else if sgn (remT toks (k + 2)) [44] = false then .bad 20 (remT toks (k + 2))
  else if ¬ (hd (remT toks (k + 3))).kind = 2 ∨ (hd (remT toks (k + 3))).num < 0 then .bad 20 (remT toks (k + 3))
  else if (hd (remT toks (k + 3))).num < (hd (remT toks (k + 1))).num then .bad 24 (remT toks (k + 3))
  else if sgn (remT toks (k + 4)) [93] = false then .bad 20 (remT toks (k + 4))
  else .ok (hd (remT toks (k + 1))).num (hd (remT toks (k + 3))).num (remT toks (k + 5))) := by
  unfold spanP
  rw [sgn_rem hk]
  simp only [remT_tail]
end
set_option maxRecDepth 100000 in
set_option maxHeartbeats 4000000 in
theorem rd_span (w : World) (R : Nat) (A : Option Addr) (c : Nat) (toks : List (TK × Nat)) (k : Nat) (h : Rdr w R A c toks k 0 0) (ht : Toks toks) (hk : k < toks.length) :
    Calls Tryd.prog 217 #[.pointer (some ⟨R, 0, none⟩)] w fun en w' => SpanR w R A c toks (spanP (remT toks k)) en w' := by
  have hR := h.blk.lt
  have hRz : ¬ R = w.heap.size := by omega
  have hOR : ¬ Only R w.heap.size := only_ne hR
  have HO := Lib.hid (fun (k' : Nat) (e' p' : Int) (W : World) (hf : Fr (Only R) w W) hbb => h.only (k' := k') (e' := e') (p' := p') hf hbb)
  have H0 := Lib.hid (fun W (hf : Fr Nob w W) => h.fr hf)
  rw [spanP_at hk]
  cases h1 : tsg toks[k] [91]
  · have HN := Lib.hid (fun W (h : Rdr W R A c toks k 0 0) => need_no W R A c toks k 0 0 h ht hk h1)
    rw [if_pos rfl]
    clear h h1
    go_enter Tryd.func217, Tryd.ntmps217
    go_wp2_with ((go_at_call 233); refine (HN.out _ (H0.out _ ((Fr.refl _ _).alloc _))).mono ?_; rintro en w1 ⟨rfl, hr1, hf1⟩; have HZ := Lib.hid ((Blk.new w _ _).fr hf1 hOR); have HR1 := Lib.hid hr1; have HFR := Lib.hid (((Fr.refl (Only R) w).alloc _).call hf1 (fun _ h _ => h)); have zc := HZ.out.cell; have zf := HZ.out.frozen; clear hr1 hf1)
    have HS := (set2 HZ.out (.int .i64 0) (.int .i64 0)).cell
    refine bodyPost_ret (v := .tuple #[.agg #[.int .i64 0, .int .i64 0], .bool false]) (by simp [results, Tryd.results217, go_sem, HS]) rfl ?_
    have hfr := fr_set2 (g := w.heap.size) HFR.out not_lt_self (.int .i64 0) (.int .i64 0)
    exact ⟨hfr, 0, 0, rfl, k, k, hk, rfl, HO.out _ _ _ _ hfr ((HR1.out.blk.far hRz _).far hRz _)⟩
  · have k1L := tsg_next ht hk h1
    obtain ⟨k1, e1⟩ : ∃ k1, k1 = k + 1 := ⟨_, rfl⟩
    obtain ⟨k2, e2⟩ : ∃ k2, k2 = k1 + 1 := ⟨_, rfl⟩
    obtain ⟨k3, e3⟩ : ∃ k3, k3 = k2 + 1 := ⟨_, rfl⟩
    obtain ⟨k4, e4⟩ : ∃ k4, k4 = k3 + 1 := ⟨_, rfl⟩
    obtain ⟨k5, e5⟩ : ∃ k5, k5 = k4 + 1 := ⟨_, rfl⟩
    rw [if_neg (by simp), show k + 2 = k2 by omega, show k + 3 = k3 by omega, show k + 4 = k4 by omega, show k + 5 = k5 by omega, ← e1]
    have HN := Lib.hid (fun W (h : Rdr W R A c toks k 0 0) => need_yes W R A c toks k 0 0 h ht hk h1)
    rw [← e1] at k1L HN
    have E2 := Lib.hid e2
    have E3 := Lib.hid e3
    have E4 := Lib.hid e4
    have E5 := Lib.hid e5
    clear e1 e2 e3 e4 e5
    have HH := Lib.hid (fun W (h : Rdr W R A c toks k1 0 0) => rd_head W R A c toks k1 0 0 h k1L)
    have HW := Lib.hid (fun (er : Int) W (h : Rdr W R A c toks k1 0 0) => rd_wrong W R A c toks k1 0 0 h k1L er)
    have HB := Lib.hid (show ∀ er r, r = remT toks k1 → (∃ k' kk, ∃ _ : k' < toks.length, r = remT toks k' ∧ ∀ w', Rdr w' R A c toks k1 er toks[k1].2 → Rdr w' R A c toks kk er toks[k'].2) from fun er r hr => ⟨k1, k1, k1L, hr, fun _ h => h⟩)
    have hk6 : (k1 : Int) ≤ 600 := by have := ht.few; omega
    rw [remT_hd k1L]
    have hkk := fun (hn : ¬ toks[k1].1.kind = 0) => next_lt ht k1L hn
    obtain ⟨x1, hx1⟩ : ∃ x, toks[k1] = x := ⟨_, rfl⟩
    rw [hx1] at HH HW hkk ⊢
    have HX1 := Lib.hid hx1
    clear hx1
    obtain ⟨⟨kd1, tx1, nm1⟩, pl1⟩ := x1
    unfold tokV at HH
    dsimp only at HH HW hkk ⊢
    clear h h1 HB
    by_cases hb : ¬ kd1 = 2 ∨ nm1 < 0
    · rw [if_pos hb]
      replace HW := Lib.hid (HW.out 20)
      by_cases hkd : kd1 = 2
      · have hnm : nm1 < 0 := by omega
        subst hkd
        clear hb hkk
        go_enter Tryd.func217, Tryd.ntmps217
        go_wp2_with (first | ((go_at_call 233); (with_reducible refine (HN.out _ ?_).mono ?_); exact H0.out _ ((Fr.refl _ _).alloc _); rintro en w1 ⟨rfl, hr1, hf1⟩; have HZ := Lib.hid ((Blk.new w _ _).fr hf1 hOR); have HR := Lib.hid hr1; have HFR := Lib.hid (((Fr.refl (Only R) w).alloc _).call hf1 (fun _ h _ => h)); have zc := HZ.out.cell; have zf := HZ.out.frozen; clear hr1 hf1) | ((go_at_call 46); (with_reducible refine (HH.out _ HR.out).mono ?_); rintro en w2 ⟨rfl, hf2⟩; replace HZ := Lib.hid (HZ.out.fr hf2 (fun e => e)); replace HR := Lib.hid (HR.out.fr hf2); replace HFR := Lib.hid (HFR.out.call hf2 (fun _ h _ => h.elim)); replace zc := HZ.out.cell; replace zf := HZ.out.frozen; have hz2 := HR.out.blk.lt; have r2 := HR.out.blk.cell 1; have q2 := HR.out.blk.frozen 1; have hzz := HZ.out.lt; clear hf2) | ((go_at_call 47); (with_reducible refine (HW.out _ ?_).mono ?_); exact HR.out.fr ((Fr.refl _ _).alloc _); rintro en w3 ⟨rfl, hr3, hf3⟩; replace HZ := Lib.hid ((HZ.out.alloc _).fr hf3 hOR); replace HR := Lib.hid hr3; replace HFR := Lib.hid ((HFR.out.alloc _).call hf3 (fun _ h _ => h)); replace zc := HZ.out.cell; replace zf := HZ.out.frozen; clear hr3 hf3))
        have HS := (set2 HZ.out (.int .i64 0) (.int .i64 0)).cell
        refine bodyPost_ret (v := .tuple #[.agg #[.int .i64 0, .int .i64 0], .bool false]) (by simp [results, Tryd.results217, go_sem, HS]) rfl ?_
        have hfr := fr_set2 (g := w.heap.size) HFR.out not_lt_self (.int .i64 0) (.int .i64 0)
        exact ⟨hfr, 0, 0, rfl, k1, k1, k1L, rfl, by rw [HX1.out]; exact HO.out _ _ _ _ hfr ((HR.out.blk.far hRz _).far hRz _)⟩
      · clear hb hkk
        go_enter Tryd.func217, Tryd.ntmps217
        go_wp2_with (first | ((go_at_call 233); (with_reducible refine (HN.out _ ?_).mono ?_); exact H0.out _ ((Fr.refl _ _).alloc _); rintro en w1 ⟨rfl, hr1, hf1⟩; have HZ := Lib.hid ((Blk.new w _ _).fr hf1 hOR); have HR := Lib.hid hr1; have HFR := Lib.hid (((Fr.refl (Only R) w).alloc _).call hf1 (fun _ h _ => h)); have zc := HZ.out.cell; have zf := HZ.out.frozen; clear hr1 hf1) | ((go_at_call 46); (with_reducible refine (HH.out _ HR.out).mono ?_); rintro en w2 ⟨rfl, hf2⟩; replace HZ := Lib.hid (HZ.out.fr hf2 (fun e => e)); replace HR := Lib.hid (HR.out.fr hf2); replace HFR := Lib.hid (HFR.out.call hf2 (fun _ h _ => h.elim)); replace zc := HZ.out.cell; replace zf := HZ.out.frozen; have hz2 := HR.out.blk.lt; have r2 := HR.out.blk.cell 1; have q2 := HR.out.blk.frozen 1; have hzz := HZ.out.lt; clear hf2) | ((go_at_call 47); (with_reducible refine (HW.out _ ?_).mono ?_); exact HR.out.fr ((Fr.refl _ _).alloc _); rintro en w3 ⟨rfl, hr3, hf3⟩; replace HZ := Lib.hid ((HZ.out.alloc _).fr hf3 hOR); replace HR := Lib.hid hr3; replace HFR := Lib.hid ((HFR.out.alloc _).call hf3 (fun _ h _ => h)); replace zc := HZ.out.cell; replace zf := HZ.out.frozen; clear hr3 hf3))
        have HS := (set2 HZ.out (.int .i64 0) (.int .i64 0)).cell
        refine bodyPost_ret (v := .tuple #[.agg #[.int .i64 0, .int .i64 0], .bool false]) (by simp [results, Tryd.results217, go_sem, HS]) rfl ?_
        have hfr := fr_set2 (g := w.heap.size) HFR.out not_lt_self (.int .i64 0) (.int .i64 0)
        exact ⟨hfr, 0, 0, rfl, k1, k1, k1L, rfl, by rw [HX1.out]; exact HO.out _ _ _ _ hfr ((HR.out.blk.far hRz _).far hRz _)⟩
    · rw [if_neg hb]
      have hkd : kd1 = 2 := by omega
      have hnm : (0 : Int) ≤ nm1 := by omega
      subst hkd
      have k2L := hkk (by decide)
      rw [← E2.out] at k2L
      rw [sgn_rem k2L]
      clear hb hkk
      cases h2 : tsg toks[k2] [44]
      · have HN2 := Lib.hid (fun W (h : Rdr W R A c toks (k1 + 1) 0 0) => need_no W R A c toks k2 0 0 (by rw [E2.out]; exact h) ht k2L h2)
        rw [if_pos rfl]
        clear h2
        go_enter Tryd.func217, Tryd.ntmps217
        go_wp2_with (first | ((go_at_call 233); (with_reducible refine (HN.out _ ?_).mono ?_); exact H0.out _ ((Fr.refl _ _).alloc _); rintro en w1 ⟨rfl, hr1, hf1⟩; have HZ := Lib.hid ((Blk.new w _ _).fr hf1 hOR); have HR := Lib.hid hr1; have HFR := Lib.hid (((Fr.refl (Only R) w).alloc _).call hf1 (fun _ h _ => h)); have zc := HZ.out.cell; have zf := HZ.out.frozen; clear hr1 hf1) | ((go_at_call 46); (with_reducible refine (HH.out _ HR.out).mono ?_); rintro en w2 ⟨rfl, hf2⟩; replace HZ := Lib.hid (HZ.out.fr hf2 (fun e => e)); replace HR := Lib.hid (HR.out.fr hf2); replace HFR := Lib.hid (HFR.out.call hf2 (fun _ h _ => h.elim)); replace zc := HZ.out.cell; replace zf := HZ.out.frozen; have hz2 := HR.out.blk.lt; have r2 := HR.out.blk.cell 1; have q2 := HR.out.blk.frozen 1; have hzz := HZ.out.lt; clear hf2) | ((go_at_call 233); (with_reducible refine (HN2.out _ ?_).mono ?_); exact (bump HR.out).fr ((Fr.refl _ _).alloc _); rintro en w3 ⟨rfl, hr3, hf3⟩; have HX := Lib.hid ((Blk.new (w2.setCell ⟨R, 1, none⟩ (.int .i64 ((k1 : Int) + 1))) 90 #[.int .i64 2, .string ⟨tx1.toArray⟩, .int .i64 nm1, .int .i64 pl1]).fr hf3 (only_ne (by have := HR.out.blk.lt; simpa using this))); replace HZ := Lib.hid (((HZ.out.far (p := ⟨R, 1, none⟩) (Ne.symm hRz) _).alloc _).fr hf3 hOR); replace HFR := Lib.hid (((fr_bump HFR.out).alloc _).call hf3 (fun _ h _ => h)); have hzz2 : w2.heap.size ≠ w.heap.size := (by omega); replace HR := Lib.hid hr3; replace zc := HZ.out.cell; replace zf := HZ.out.frozen; have xc := HX.out.cell; have hxz := HX.out.lt; simp only [World.size_setCell] at xc hxz; clear hr3 hf3))
        have HS := (set2 HZ.out (.int .i64 0) (.int .i64 0)).cell
        refine bodyPost_ret (v := .tuple #[.agg #[.int .i64 0, .int .i64 0], .bool false]) (by simp [results, Tryd.results217, go_sem, HS]) rfl ?_
        have hfr := fr_set2 (g := w.heap.size) HFR.out not_lt_self (.int .i64 0) (.int .i64 0)
        exact ⟨hfr, 0, 0, rfl, k2, k2, k2L, rfl, HO.out _ _ _ _ hfr ((HR.out.blk.far hRz _).far hRz _)⟩
      · have HN2 := Lib.hid (fun W (h : Rdr W R A c toks (k1 + 1) 0 0) => need_yes W R A c toks k2 0 0 (by rw [E2.out]; exact h) ht k2L h2)
        have k3L := tsg_next ht k2L h2
        rw [← E3.out] at k3L HN2
        have HH2 := Lib.hid (fun W (h : Rdr W R A c toks k3 0 0) => rd_head W R A c toks k3 0 0 h k3L)
        have HW2 := Lib.hid (fun (er : Int) W (h : Rdr W R A c toks k3 0 0) => rd_wrong W R A c toks k3 0 0 h k3L er)
        have hk36 : (k3 : Int) ≤ 600 := by have := ht.few; omega
        rw [if_neg (by simp), remT_hd k3L]
        have hkk := fun (hn : ¬ toks[k3].1.kind = 0) => next_lt ht k3L hn
        obtain ⟨x3, hx3⟩ : ∃ x, toks[k3] = x := ⟨_, rfl⟩
        rw [hx3] at HH2 HW2 hkk ⊢
        have HX3 := Lib.hid hx3
        clear hx3
        obtain ⟨⟨kd3, tx3, nm3⟩, pl3⟩ := x3
        unfold tokV at HH2
        dsimp only at HH2 HW2 hkk ⊢
        clear h2
        by_cases hb : ¬ kd3 = 2 ∨ nm3 < 0
        · rw [if_pos hb]
          replace HW2 := Lib.hid (HW2.out 20)
          by_cases hkd : kd3 = 2
          · have hnm3 : nm3 < 0 := by omega
            subst hkd
            clear hb hkk
            go_enter Tryd.func217, Tryd.ntmps217
            go_wp2_with (first | ((go_at_call 233); (with_reducible refine (HN.out _ ?_).mono ?_); exact H0.out _ ((Fr.refl _ _).alloc _); rintro en w1 ⟨rfl, hr1, hf1⟩; have HZ := Lib.hid ((Blk.new w _ _).fr hf1 hOR); have HR := Lib.hid hr1; have HFR := Lib.hid (((Fr.refl (Only R) w).alloc _).call hf1 (fun _ h _ => h)); have zc := HZ.out.cell; have zf := HZ.out.frozen; clear hr1 hf1) | ((go_at_call 46); (with_reducible refine (HH.out _ HR.out).mono ?_); rintro en w2 ⟨rfl, hf2⟩; replace HZ := Lib.hid (HZ.out.fr hf2 (fun e => e)); replace HR := Lib.hid (HR.out.fr hf2); replace HFR := Lib.hid (HFR.out.call hf2 (fun _ h _ => h.elim)); replace zc := HZ.out.cell; replace zf := HZ.out.frozen; have hz2 := HR.out.blk.lt; have r2 := HR.out.blk.cell 1; have q2 := HR.out.blk.frozen 1; have hzz := HZ.out.lt; clear hf2) | ((go_at_call 233); (with_reducible refine (HN2.out _ ?_).mono ?_); exact (bump HR.out).fr ((Fr.refl _ _).alloc _); rintro en w3 ⟨rfl, hr3, hf3⟩; have HX := Lib.hid ((Blk.new (w2.setCell ⟨R, 1, none⟩ (.int .i64 ((k1 : Int) + 1))) 90 #[.int .i64 2, .string ⟨tx1.toArray⟩, .int .i64 nm1, .int .i64 pl1]).fr hf3 (only_ne (by have := HR.out.blk.lt; simpa using this))); replace HZ := Lib.hid (((HZ.out.far (p := ⟨R, 1, none⟩) (Ne.symm hRz) _).alloc _).fr hf3 hOR); replace HFR := Lib.hid (((fr_bump HFR.out).alloc _).call hf3 (fun _ h _ => h)); have hzz2 : w2.heap.size ≠ w.heap.size := (by omega); replace HR := Lib.hid hr3; replace zc := HZ.out.cell; replace zf := HZ.out.frozen; have xc := HX.out.cell; have hxz := HX.out.lt; simp only [World.size_setCell] at xc hxz; clear hr3 hf3) | ((go_at_call 46); (with_reducible refine (HH2.out _ HR.out).mono ?_); rintro en w4 ⟨rfl, hf4⟩; replace HZ := Lib.hid (HZ.out.fr hf4 (fun e => e)); replace HX := Lib.hid (HX.out.fr hf4 (fun e => e)); replace HR := Lib.hid (HR.out.fr hf4); replace HFR := Lib.hid (HFR.out.call hf4 (fun _ h _ => h.elim)); replace zc := HZ.out.cell; replace zf := HZ.out.frozen; replace xc := HX.out.cell; replace hxz := HX.out.lt; simp only [World.size_setCell] at xc hxz; have hz4 := HR.out.blk.lt; have r4 := HR.out.blk.cell 1; have q4 := HR.out.blk.frozen 1; have hzz4 := HZ.out.lt; clear hf4) | ((go_at_call 47); (with_reducible refine (HW2.out _ ?_).mono ?_); exact HR.out.fr ((Fr.refl _ _).alloc _); rintro en w5 ⟨rfl, hr5, hf5⟩; replace HZ := Lib.hid ((HZ.out.alloc _).fr hf5 hOR); replace HR := Lib.hid hr5; replace HFR := Lib.hid ((HFR.out.alloc _).call hf5 (fun _ h _ => h)); replace zc := HZ.out.cell; replace zf := HZ.out.frozen; clear hr5 hf5))
            have HS := (set2 HZ.out (.int .i64 0) (.int .i64 0)).cell
            refine bodyPost_ret (v := .tuple #[.agg #[.int .i64 0, .int .i64 0], .bool false]) (by simp [results, Tryd.results217, go_sem, HS]) rfl ?_
            have hfr := fr_set2 (g := w.heap.size) HFR.out not_lt_self (.int .i64 0) (.int .i64 0)
            exact ⟨hfr, 0, 0, rfl, k3, k3, k3L, rfl, by rw [HX3.out]; exact HO.out _ _ _ _ hfr ((HR.out.blk.far hRz _).far hRz _)⟩
          · clear hb hkk
            go_enter Tryd.func217, Tryd.ntmps217
            go_wp2_with (first | ((go_at_call 233); (with_reducible refine (HN.out _ ?_).mono ?_); exact H0.out _ ((Fr.refl _ _).alloc _); rintro en w1 ⟨rfl, hr1, hf1⟩; have HZ := Lib.hid ((Blk.new w _ _).fr hf1 hOR); have HR := Lib.hid hr1; have HFR := Lib.hid (((Fr.refl (Only R) w).alloc _).call hf1 (fun _ h _ => h)); have zc := HZ.out.cell; have zf := HZ.out.frozen; clear hr1 hf1) | ((go_at_call 46); (with_reducible refine (HH.out _ HR.out).mono ?_); rintro en w2 ⟨rfl, hf2⟩; replace HZ := Lib.hid (HZ.out.fr hf2 (fun e => e)); replace HR := Lib.hid (HR.out.fr hf2); replace HFR := Lib.hid (HFR.out.call hf2 (fun _ h _ => h.elim)); replace zc := HZ.out.cell; replace zf := HZ.out.frozen; have hz2 := HR.out.blk.lt; have r2 := HR.out.blk.cell 1; have q2 := HR.out.blk.frozen 1; have hzz := HZ.out.lt; clear hf2) | ((go_at_call 233); (with_reducible refine (HN2.out _ ?_).mono ?_); exact (bump HR.out).fr ((Fr.refl _ _).alloc _); rintro en w3 ⟨rfl, hr3, hf3⟩; have HX := Lib.hid ((Blk.new (w2.setCell ⟨R, 1, none⟩ (.int .i64 ((k1 : Int) + 1))) 90 #[.int .i64 2, .string ⟨tx1.toArray⟩, .int .i64 nm1, .int .i64 pl1]).fr hf3 (only_ne (by have := HR.out.blk.lt; simpa using this))); replace HZ := Lib.hid (((HZ.out.far (p := ⟨R, 1, none⟩) (Ne.symm hRz) _).alloc _).fr hf3 hOR); replace HFR := Lib.hid (((fr_bump HFR.out).alloc _).call hf3 (fun _ h _ => h)); have hzz2 : w2.heap.size ≠ w.heap.size := (by omega); replace HR := Lib.hid hr3; replace zc := HZ.out.cell; replace zf := HZ.out.frozen; have xc := HX.out.cell; have hxz := HX.out.lt; simp only [World.size_setCell] at xc hxz; clear hr3 hf3) | ((go_at_call 46); (with_reducible refine (HH2.out _ HR.out).mono ?_); rintro en w4 ⟨rfl, hf4⟩; replace HZ := Lib.hid (HZ.out.fr hf4 (fun e => e)); replace HX := Lib.hid (HX.out.fr hf4 (fun e => e)); replace HR := Lib.hid (HR.out.fr hf4); replace HFR := Lib.hid (HFR.out.call hf4 (fun _ h _ => h.elim)); replace zc := HZ.out.cell; replace zf := HZ.out.frozen; replace xc := HX.out.cell; replace hxz := HX.out.lt; simp only [World.size_setCell] at xc hxz; have hz4 := HR.out.blk.lt; have r4 := HR.out.blk.cell 1; have q4 := HR.out.blk.frozen 1; have hzz4 := HZ.out.lt; clear hf4) | ((go_at_call 47); (with_reducible refine (HW2.out _ ?_).mono ?_); exact HR.out.fr ((Fr.refl _ _).alloc _); rintro en w5 ⟨rfl, hr5, hf5⟩; replace HZ := Lib.hid ((HZ.out.alloc _).fr hf5 hOR); replace HR := Lib.hid hr5; replace HFR := Lib.hid ((HFR.out.alloc _).call hf5 (fun _ h _ => h)); replace zc := HZ.out.cell; replace zf := HZ.out.frozen; clear hr5 hf5))
            have HS := (set2 HZ.out (.int .i64 0) (.int .i64 0)).cell
            refine bodyPost_ret (v := .tuple #[.agg #[.int .i64 0, .int .i64 0], .bool false]) (by simp [results, Tryd.results217, go_sem, HS]) rfl ?_
            have hfr := fr_set2 (g := w.heap.size) HFR.out not_lt_self (.int .i64 0) (.int .i64 0)
            exact ⟨hfr, 0, 0, rfl, k3, k3, k3L, rfl, by rw [HX3.out]; exact HO.out _ _ _ _ hfr ((HR.out.blk.far hRz _).far hRz _)⟩
        · rw [if_neg hb]
          have hkd : kd3 = 2 := by omega
          have hnm3 : (0 : Int) ≤ nm3 := by omega
          subst hkd
          have k4L := hkk (by decide)
          rw [← E4.out] at k4L
          clear hb hkk
          by_cases hlt : nm3 < nm1
          · rw [if_pos hlt]
            replace HW2 := Lib.hid (HW2.out 24)
            go_enter Tryd.func217, Tryd.ntmps217
            go_wp2_with (first | ((go_at_call 233); (with_reducible refine (HN.out _ ?_).mono ?_); exact H0.out _ ((Fr.refl _ _).alloc _); rintro en w1 ⟨rfl, hr1, hf1⟩; have HZ := Lib.hid ((Blk.new w _ _).fr hf1 hOR); have HR := Lib.hid hr1; have HFR := Lib.hid (((Fr.refl (Only R) w).alloc _).call hf1 (fun _ h _ => h)); have zc := HZ.out.cell; have zf := HZ.out.frozen; clear hr1 hf1) | ((go_at_call 46); (with_reducible refine (HH.out _ HR.out).mono ?_); rintro en w2 ⟨rfl, hf2⟩; replace HZ := Lib.hid (HZ.out.fr hf2 (fun e => e)); replace HR := Lib.hid (HR.out.fr hf2); replace HFR := Lib.hid (HFR.out.call hf2 (fun _ h _ => h.elim)); replace zc := HZ.out.cell; replace zf := HZ.out.frozen; have hz2 := HR.out.blk.lt; have r2 := HR.out.blk.cell 1; have q2 := HR.out.blk.frozen 1; have hzz := HZ.out.lt; clear hf2) | ((go_at_call 233); (with_reducible refine (HN2.out _ ?_).mono ?_); exact (bump HR.out).fr ((Fr.refl _ _).alloc _); rintro en w3 ⟨rfl, hr3, hf3⟩; have HX := Lib.hid ((Blk.new (w2.setCell ⟨R, 1, none⟩ (.int .i64 ((k1 : Int) + 1))) 90 #[.int .i64 2, .string ⟨tx1.toArray⟩, .int .i64 nm1, .int .i64 pl1]).fr hf3 (only_ne (by have := HR.out.blk.lt; simpa using this))); replace HZ := Lib.hid (((HZ.out.far (p := ⟨R, 1, none⟩) (Ne.symm hRz) _).alloc _).fr hf3 hOR); replace HFR := Lib.hid (((fr_bump HFR.out).alloc _).call hf3 (fun _ h _ => h)); have hzz2 : w2.heap.size ≠ w.heap.size := (by omega); replace HR := Lib.hid hr3; replace zc := HZ.out.cell; replace zf := HZ.out.frozen; have xc := HX.out.cell; have hxz := HX.out.lt; simp only [World.size_setCell] at xc hxz; clear hr3 hf3) | ((go_at_call 46); (with_reducible refine (HH2.out _ HR.out).mono ?_); rintro en w4 ⟨rfl, hf4⟩; replace HZ := Lib.hid (HZ.out.fr hf4 (fun e => e)); replace HX := Lib.hid (HX.out.fr hf4 (fun e => e)); replace HR := Lib.hid (HR.out.fr hf4); replace HFR := Lib.hid (HFR.out.call hf4 (fun _ h _ => h.elim)); replace zc := HZ.out.cell; replace zf := HZ.out.frozen; replace xc := HX.out.cell; replace hxz := HX.out.lt; simp only [World.size_setCell] at xc hxz; have hz4 := HR.out.blk.lt; have r4 := HR.out.blk.cell 1; have q4 := HR.out.blk.frozen 1; have hzz4 := HZ.out.lt; clear hf4) | ((go_at_call 47); (with_reducible refine (HW2.out _ ?_).mono ?_); exact HR.out.fr ((Fr.refl _ _).alloc _); rintro en w5 ⟨rfl, hr5, hf5⟩; replace HZ := Lib.hid ((HZ.out.alloc _).fr hf5 hOR); replace HR := Lib.hid hr5; replace HFR := Lib.hid ((HFR.out.alloc _).call hf5 (fun _ h _ => h)); replace zc := HZ.out.cell; replace zf := HZ.out.frozen; clear hr5 hf5))
            have HS := (set2 HZ.out (.int .i64 0) (.int .i64 0)).cell
            refine bodyPost_ret (v := .tuple #[.agg #[.int .i64 0, .int .i64 0], .bool false]) (by simp [results, Tryd.results217, go_sem, HS]) rfl ?_
            have hfr := fr_set2 (g := w.heap.size) HFR.out not_lt_self (.int .i64 0) (.int .i64 0)
            exact ⟨hfr, 0, 0, rfl, k3, k3, k3L, rfl, by rw [HX3.out]; exact HO.out _ _ _ _ hfr ((HR.out.blk.far hRz _).far hRz _)⟩
          · rw [if_neg hlt, sgn_rem k4L]
            have hge : nm1 ≤ nm3 := by omega
            clear hlt
            cases h4 : tsg toks[k4] [93]
            · have HN4 := Lib.hid (fun W (h : Rdr W R A c toks (k3 + 1) 0 0) => need_no W R A c toks k4 0 0 (by rw [E4.out]; exact h) ht k4L h4)
              rw [if_pos rfl]
              clear h4
              go_enter Tryd.func217, Tryd.ntmps217
              go_wp2_with (first | ((go_at_call 233); (with_reducible refine (HN.out _ ?_).mono ?_); exact H0.out _ ((Fr.refl _ _).alloc _); rintro en w1 ⟨rfl, hr1, hf1⟩; have HZ := Lib.hid ((Blk.new w _ _).fr hf1 hOR); have HR := Lib.hid hr1; have HFR := Lib.hid (((Fr.refl (Only R) w).alloc _).call hf1 (fun _ h _ => h)); have zc := HZ.out.cell; have zf := HZ.out.frozen; clear hr1 hf1) | ((go_at_call 46); (with_reducible refine (HH.out _ HR.out).mono ?_); rintro en w2 ⟨rfl, hf2⟩; replace HZ := Lib.hid (HZ.out.fr hf2 (fun e => e)); replace HR := Lib.hid (HR.out.fr hf2); replace HFR := Lib.hid (HFR.out.call hf2 (fun _ h _ => h.elim)); replace zc := HZ.out.cell; replace zf := HZ.out.frozen; have hz2 := HR.out.blk.lt; have r2 := HR.out.blk.cell 1; have q2 := HR.out.blk.frozen 1; have hzz := HZ.out.lt; clear hf2) | ((go_at_call 233); (with_reducible refine (HN2.out _ ?_).mono ?_); exact (bump HR.out).fr ((Fr.refl _ _).alloc _); rintro en w3 ⟨rfl, hr3, hf3⟩; have HX := Lib.hid ((Blk.new (w2.setCell ⟨R, 1, none⟩ (.int .i64 ((k1 : Int) + 1))) 90 #[.int .i64 2, .string ⟨tx1.toArray⟩, .int .i64 nm1, .int .i64 pl1]).fr hf3 (only_ne (by have := HR.out.blk.lt; simpa using this))); replace HZ := Lib.hid (((HZ.out.far (p := ⟨R, 1, none⟩) (Ne.symm hRz) _).alloc _).fr hf3 hOR); replace HFR := Lib.hid (((fr_bump HFR.out).alloc _).call hf3 (fun _ h _ => h)); have hzz2 : w2.heap.size ≠ w.heap.size := (by omega); replace HR := Lib.hid hr3; replace zc := HZ.out.cell; replace zf := HZ.out.frozen; have xc := HX.out.cell; have hxz := HX.out.lt; simp only [World.size_setCell] at xc hxz; clear hr3 hf3) | ((go_at_call 46); (with_reducible refine (HH2.out _ HR.out).mono ?_); rintro en w4 ⟨rfl, hf4⟩; replace HZ := Lib.hid (HZ.out.fr hf4 (fun e => e)); replace HX := Lib.hid (HX.out.fr hf4 (fun e => e)); replace HR := Lib.hid (HR.out.fr hf4); replace HFR := Lib.hid (HFR.out.call hf4 (fun _ h _ => h.elim)); replace zc := HZ.out.cell; replace zf := HZ.out.frozen; replace xc := HX.out.cell; replace hxz := HX.out.lt; simp only [World.size_setCell] at xc hxz; have hz4 := HR.out.blk.lt; have r4 := HR.out.blk.cell 1; have q4 := HR.out.blk.frozen 1; have hzz4 := HZ.out.lt; clear hf4))
              obtain ⟨W0, hW0⟩ : ∃ W0, (w4.setCell ⟨R, 1, none⟩ (.int .i64 ((k3 : Int) + 1))).alloc (.cells #[.int .i64 2, .string ⟨tx3.toArray⟩, .int .i64 nm3, .int .i64 pl3] 90) = W0 := ⟨_, rfl⟩
              have HR0 := Lib.hid (show Rdr W0 R A c toks (k3 + 1) 0 0 by rw [← hW0]; exact (bump HR.out).fr ((Fr.refl _ _).alloc _))
              have hX0 : Blk W0 w2.heap.size 90 #[.int .i64 2, .string ⟨tx1.toArray⟩, .int .i64 nm1, .int .i64 pl1] := by rw [← hW0]; have h := HX.out; simp only [World.size_setCell] at h; exact (h.far (p := ⟨R, 1, none⟩) (by simp; omega) _).alloc _
              have hT0 : Blk W0 w4.heap.size 90 #[.int .i64 2, .string ⟨tx3.toArray⟩, .int .i64 nm3, .int .i64 pl3] := by rw [← hW0]; exact Blk.new_eq (by simp)
              have hZ0 : Blk W0 w.heap.size 25 #[.int .i64 0, .int .i64 0] := by rw [← hW0]; exact (HZ.out.far (p := ⟨R, 1, none⟩) (Ne.symm hRz) _).alloc _
              have HF0 := Lib.hid (show Fr (Only R) w W0 by rw [← hW0]; exact (fr_bump HFR.out).alloc _)
              rw [hW0]
              have HZ0 := Lib.hid hZ0
              have x0 : W0.cell? ⟨w2.heap.size, 2, none⟩ = some (.int .i64 nm1) := hX0.cell 2
              have t0 : W0.cell? ⟨w4.heap.size, 2, none⟩ = some (.int .i64 nm3) := hT0.cell 2
              have o2 : ¬ Only R w2.heap.size := only_ne (by omega)
              have o4 : ¬ Only R w4.heap.size := only_ne (by omega)
              have n2 : w2.heap.size ≠ w.heap.size := by omega
              have n4 : w4.heap.size ≠ w.heap.size := by omega
              clear hX0 hT0 hW0 HX HR HFR HZ zc zf xc r2 q2 r4 q4 hzz hzz2 hzz4 hxz hz2 hz4 HH HH2 HN HN2 HW HW2 hZ0
              go_region_held3 (fun w' => w'.cell? ⟨w2.heap.size, 2, none⟩ = some (.int .i64 nm1) ∧ w'.cell? ⟨w4.heap.size, 2, none⟩ = some (.int .i64 nm3))
                (first | with_reducible exact two_set2 n2 n4 (by assumption) _ _ | with_reducible exact two_call hf5 o2 o4 (by assumption) | go_keep)
                (first | ((go_at_call 233); refine (HN4.out _ HR0.out.drew).mono ?_; rintro en w5 ⟨rfl, hr5, hf5⟩; have HZ := Lib.hid ((HZ0.out.drew).fr hf5 hOR); have HR := Lib.hid hr5; have HFR := Lib.hid ((HF0.out.drew).call hf5 (fun _ h _ => h)); have zc := HZ.out.cell; have zf := HZ.out.frozen))
              clear hr5 hf5
              go_wp2_with fail
              have HS := (set2 HZ.out (.int .i64 nm1) (.int .i64 nm3)).cell
              refine bodyPost_ret (v := .tuple #[.agg #[.int .i64 nm1, .int .i64 nm3], .bool false]) (by simp [results, Tryd.results217, go_sem, HS]) rfl ?_
              have hfr := fr_set2 (g := w.heap.size) HFR.out not_lt_self (.int .i64 nm1) (.int .i64 nm3)
              exact ⟨hfr, nm1, nm3, rfl, k4, k4, k4L, rfl, HO.out _ _ _ _ hfr ((HR.out.blk.far hRz _).far hRz _)⟩
            · have HN4 := Lib.hid (fun W (h : Rdr W R A c toks (k3 + 1) 0 0) => need_yes W R A c toks k4 0 0 (by rw [E4.out]; exact h) ht k4L h4)
              have k5L := tsg_next ht k4L h4
              rw [← E5.out] at k5L HN4
              rw [if_neg (by simp)]
              clear h4
              go_enter Tryd.func217, Tryd.ntmps217
              go_wp2_with (first | ((go_at_call 233); (with_reducible refine (HN.out _ ?_).mono ?_); exact H0.out _ ((Fr.refl _ _).alloc _); rintro en w1 ⟨rfl, hr1, hf1⟩; have HZ := Lib.hid ((Blk.new w _ _).fr hf1 hOR); have HR := Lib.hid hr1; have HFR := Lib.hid (((Fr.refl (Only R) w).alloc _).call hf1 (fun _ h _ => h)); have zc := HZ.out.cell; have zf := HZ.out.frozen; clear hr1 hf1) | ((go_at_call 46); (with_reducible refine (HH.out _ HR.out).mono ?_); rintro en w2 ⟨rfl, hf2⟩; replace HZ := Lib.hid (HZ.out.fr hf2 (fun e => e)); replace HR := Lib.hid (HR.out.fr hf2); replace HFR := Lib.hid (HFR.out.call hf2 (fun _ h _ => h.elim)); replace zc := HZ.out.cell; replace zf := HZ.out.frozen; have hz2 := HR.out.blk.lt; have r2 := HR.out.blk.cell 1; have q2 := HR.out.blk.frozen 1; have hzz := HZ.out.lt; clear hf2) | ((go_at_call 233); (with_reducible refine (HN2.out _ ?_).mono ?_); exact (bump HR.out).fr ((Fr.refl _ _).alloc _); rintro en w3 ⟨rfl, hr3, hf3⟩; have HX := Lib.hid ((Blk.new (w2.setCell ⟨R, 1, none⟩ (.int .i64 ((k1 : Int) + 1))) 90 #[.int .i64 2, .string ⟨tx1.toArray⟩, .int .i64 nm1, .int .i64 pl1]).fr hf3 (only_ne (by have := HR.out.blk.lt; simpa using this))); replace HZ := Lib.hid (((HZ.out.far (p := ⟨R, 1, none⟩) (Ne.symm hRz) _).alloc _).fr hf3 hOR); replace HFR := Lib.hid (((fr_bump HFR.out).alloc _).call hf3 (fun _ h _ => h)); have hzz2 : w2.heap.size ≠ w.heap.size := (by omega); replace HR := Lib.hid hr3; replace zc := HZ.out.cell; replace zf := HZ.out.frozen; have xc := HX.out.cell; have hxz := HX.out.lt; simp only [World.size_setCell] at xc hxz; clear hr3 hf3) | ((go_at_call 46); (with_reducible refine (HH2.out _ HR.out).mono ?_); rintro en w4 ⟨rfl, hf4⟩; replace HZ := Lib.hid (HZ.out.fr hf4 (fun e => e)); replace HX := Lib.hid (HX.out.fr hf4 (fun e => e)); replace HR := Lib.hid (HR.out.fr hf4); replace HFR := Lib.hid (HFR.out.call hf4 (fun _ h _ => h.elim)); replace zc := HZ.out.cell; replace zf := HZ.out.frozen; replace xc := HX.out.cell; replace hxz := HX.out.lt; simp only [World.size_setCell] at xc hxz; have hz4 := HR.out.blk.lt; have r4 := HR.out.blk.cell 1; have q4 := HR.out.blk.frozen 1; have hzz4 := HZ.out.lt; clear hf4))
              obtain ⟨W0, hW0⟩ : ∃ W0, (w4.setCell ⟨R, 1, none⟩ (.int .i64 ((k3 : Int) + 1))).alloc (.cells #[.int .i64 2, .string ⟨tx3.toArray⟩, .int .i64 nm3, .int .i64 pl3] 90) = W0 := ⟨_, rfl⟩
              have HR0 := Lib.hid (show Rdr W0 R A c toks (k3 + 1) 0 0 by rw [← hW0]; exact (bump HR.out).fr ((Fr.refl _ _).alloc _))
              have hX0 : Blk W0 w2.heap.size 90 #[.int .i64 2, .string ⟨tx1.toArray⟩, .int .i64 nm1, .int .i64 pl1] := by rw [← hW0]; have h := HX.out; simp only [World.size_setCell] at h; exact (h.far (p := ⟨R, 1, none⟩) (by simp; omega) _).alloc _
              have hT0 : Blk W0 w4.heap.size 90 #[.int .i64 2, .string ⟨tx3.toArray⟩, .int .i64 nm3, .int .i64 pl3] := by rw [← hW0]; exact Blk.new_eq (by simp)
              have hZ0 : Blk W0 w.heap.size 25 #[.int .i64 0, .int .i64 0] := by rw [← hW0]; exact (HZ.out.far (p := ⟨R, 1, none⟩) (Ne.symm hRz) _).alloc _
              have HF0 := Lib.hid (show Fr (Only R) w W0 by rw [← hW0]; exact (fr_bump HFR.out).alloc _)
              rw [hW0]
              have HZ0 := Lib.hid hZ0
              have x0 : W0.cell? ⟨w2.heap.size, 2, none⟩ = some (.int .i64 nm1) := hX0.cell 2
              have t0 : W0.cell? ⟨w4.heap.size, 2, none⟩ = some (.int .i64 nm3) := hT0.cell 2
              have o2 : ¬ Only R w2.heap.size := only_ne (by omega)
              have o4 : ¬ Only R w4.heap.size := only_ne (by omega)
              have n2 : w2.heap.size ≠ w.heap.size := by omega
              have n4 : w4.heap.size ≠ w.heap.size := by omega
              clear hX0 hT0 hW0 HX HR HFR HZ zc zf xc r2 q2 r4 q4 hzz hzz2 hzz4 hxz hz2 hz4 HH HH2 HN HN2 HW HW2 hZ0
              go_region_held3 (fun w' => w'.cell? ⟨w2.heap.size, 2, none⟩ = some (.int .i64 nm1) ∧ w'.cell? ⟨w4.heap.size, 2, none⟩ = some (.int .i64 nm3))
                (first | with_reducible exact two_set2 n2 n4 (by assumption) _ _ | with_reducible exact two_call hf5 o2 o4 (by assumption) | go_keep)
                (first | ((go_at_call 233); refine (HN4.out _ HR0.out.drew).mono ?_; rintro en w5 ⟨rfl, hr5, hf5⟩; have HZ := Lib.hid ((HZ0.out.drew).fr hf5 hOR); have HR := Lib.hid hr5; have HFR := Lib.hid ((HF0.out.drew).call hf5 (fun _ h _ => h)); have zc := HZ.out.cell; have zf := HZ.out.frozen))
              clear hr5 hf5
              go_wp2_with fail
              have HS := (set2 HZ.out (.int .i64 nm1) (.int .i64 nm3)).cell
              refine bodyPost_ret (v := .tuple #[.agg #[.int .i64 nm1, .int .i64 nm3], .bool true]) (by simp [results, Tryd.results217, go_sem, HS]) rfl ?_
              have hfr := fr_set2 (g := w.heap.size) HFR.out not_lt_self (.int .i64 nm1) (.int .i64 nm3)
              exact ⟨hfr, rfl, k5, k5L, rfl, HO.out _ _ _ _ hfr ((HR.out.blk.far hRz _).far hRz _)⟩
end Go.Proofs.YtfebkjoohnlifaaDoor
