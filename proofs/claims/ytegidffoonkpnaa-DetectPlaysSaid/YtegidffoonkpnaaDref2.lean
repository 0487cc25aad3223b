/- The reference of the detector: heard, leave, enter. -/
import Derived.Test.YtegidffoonkpnaaDref
namespace Go.Proofs.Ytegidffoonkpnaa
open Go.RowKit

theorem rput_true (D : DD) (s : Nat) (v : Int) : rput D s v true = dput D s v := rfl
theorem rd_set4 {w W : World} {x y z u : Value} {g : Nat} (h : Fr Nob w W) (hg : w.heap.size ≤ g) : Fr Nob w ((((W.setCell ⟨g, 0, none⟩ x).setCell ⟨g, 1, none⟩ y).setCell ⟨g, 2, none⟩ z).setCell ⟨g, 3, none⟩ u) :=
  (((h.setCell (p := ⟨g, 0, none⟩) (fun h => absurd h (show ¬ g < w.heap.size by omega)) x).setCell (p := ⟨g, 1, none⟩) (fun h => absurd h (show ¬ g < w.heap.size by omega)) y).setCell (p := ⟨g, 2, none⟩) (fun h => absurd h (show ¬ g < w.heap.size by omega)) z).setCell (p := ⟨g, 3, none⟩) (fun h => absurd h (show ¬ g < w.heap.size by omega)) u
theorem fr_set4 {W : World} {x y z u : Value} {g : Nat} : Fr (Only g) W ((((W.setCell ⟨g, 0, none⟩ x).setCell ⟨g, 1, none⟩ y).setCell ⟨g, 2, none⟩ z).setCell ⟨g, 3, none⟩ u) :=
  ((((Fr.refl (Only g) W).setCell (p := ⟨g, 0, none⟩) (fun _ => rfl) x).setCell (p := ⟨g, 1, none⟩) (fun _ => rfl) y).setCell (p := ⟨g, 2, none⟩) (fun _ => rfl) z).setCell (p := ⟨g, 3, none⟩) (fun _ => rfl) u
theorem Rd.set4 {W : World} {A1 A2 : Option Addr} {c1 c2 : Nat} {D : DD} {x y z u : Value} {g : Nat} (h : Rd W A1 c1 A2 c2 D) (h1 : ∀ off, A1 ≠ some ⟨g, off, none⟩) (h2 : ∀ off, A2 ≠ some ⟨g, off, none⟩) :
    Rd ((((W.setCell ⟨g, 0, none⟩ x).setCell ⟨g, 1, none⟩ y).setCell ⟨g, 2, none⟩ z).setCell ⟨g, 3, none⟩ u) A1 c1 A2 c2 D :=
  ⟨h.st.fr fr_set4 (fun b off e _ hb => by cases hb; exact h1 off e), h.la.fr fr_set4 (fun b off e _ hb => by cases hb; exact h2 off e)⟩

set_option maxHeartbeats 400000 in
theorem ref_Heard (w : World) (A1 : Option Addr) (c1 : Nat) (A2 : Option Addr) (c2 : Nat) (D : DD) (s : Int) (hw : WF D) (hR : Rd w A1 c1 A2 c2 D) :
    Calls Try.prog 20 #[rdv A1 c1 A2 c2 D, .int .i64 s] w fun e w' => ∃ A1' c1' A2' c2', e = .returned (.tuple #[rdv A1' c1' A2' c2' (dheard D s).1, .bool (dheard D s).2]) ∧ Rd w' A1' c1' A2' c2' (dheard D s).1 ∧ Fr Nob w w' ∧
      ∀ lo hi, hi ≤ w.heap.size → Off A1 lo hi → Off A2 lo hi → Off A1' lo hi ∧ Off A2' lo hi := by
  have hcall := fun W h => ref_State W A1 c1 A2 c2 D s h
  by_cases h0 : dhas D s = true
  · have h' : 0 ≤ s ∧ s < D.st.length := by simpa [dhas] using h0
    obtain ⟨s, rfl⟩ := Int.eq_ofNat_of_zero_le h'.1
    have hs : s < D.st.length := by omega
    have hwith := fun W v hd h => ref_with W A1 c1 A2 c2 D s v hd hw hs h
    have Hwith := Lib.hid hwith
    clear hwith
    unfold rdv at Hwith
    have hsts := hw.sts s hs
    have hst : dstate D s = D.st.getD s 0 := by unfold dstate; rw [if_pos h0]; rfl
    by_cases h3 : (D.st.getD s 0 == 3) = true
    · have HF := Lib.hid (show dheard D (s : Int) = (D, false) by unfold dheard; rw [h0, show (s : Int).toNat = s from rfl, h3]; rfl)
      have h3e : D.st.getD s 0 = 3 := by simpa using h3
      rw [h3e] at hst
      have Hcall := Lib.hid hcall
      have HR := Lib.hid hR
      have Hst := Lib.hid hst
      have Hw := Lib.hid hw
      unfold rdv at Hcall ⊢
      clear hR hcall hw hst
      clear h3 h3e h0 h' hsts
      go_enter Try.func20, Try.ntmps20
      go_wp2_with fail
      refine (Hcall.out _ (HR.out.fr (((Fr.refl _ _).alloc _).alloc _))).mono ?_
      rintro e w' ⟨rfl, hf⟩
      rw [Hst.out]
      have HF2 := Lib.hid ((((Fr.refl Nob w).alloc _).alloc _).call hf (fun _ h _ => h))
      have B0 := (((Blk.new w 31 #[.slice A1 D.st.length c1, .slice A2 D.la.length c2, .int .i64 D.to, .int .i64 D.now]).alloc _).fr hf (fun e => e))
      have B1 := (Blk.new_eq (g := w.heap.size + 1) (by simp)).fr hf (fun e => e)
      have hb0 := B0.cell
      have hb1 := B1.cell
      have hf1 := B1.frozen
      clear hf B0 B1
      go_wp2_with fail
      refine bodyPost_ret (v := .tuple #[.agg #[.slice A1 D.st.length c1, .slice A2 D.la.length c2, .int .i64 D.to, .int .i64 D.now], .bool false]) (by simp [results, Try.results20, go_sem, hb1]) rfl ?_
      rw [HF.out]
      refine ⟨A1, c1, A2, c2, rfl, (HR.out.fr HF2.out).set4 ?_ ?_, rd_set4 HF2.out (by omega), fun lo hi h h1 h2 => ⟨h1, h2⟩⟩
      · exact (HR.out.off Hw.out (lo := w.heap.size) (w.heap.size + 2) (Nat.le_refl _)).1.ne (g := w.heap.size + 1) (by omega) (by omega)
      · exact (HR.out.off Hw.out (lo := w.heap.size) (w.heap.size + 2) (Nat.le_refl _)).2.ne (g := w.heap.size + 1) (by omega) (by omega)
    · have h3 : (D.st.getD s 0 == 3) = false := by simpa using h3
      have h0' : (D.st.getD s 0 == 0) = false := by rw [beq_eq_false_iff_ne]; omega
      have h3n : (D.st.getD s 0 != 3) = true := by simpa using h3
      have HF := Lib.hid (show dheard D (s : Int) = (dput D s 1, D.st.getD s 0 == 2) by unfold dheard; rw [h0, show (s : Int).toNat = s from rfl, h3]; rfl)
      have Hcall := Lib.hid hcall
      have HR := Lib.hid hR
      have Hst := Lib.hid hst
      have Hw := Lib.hid hw
      unfold rdv at Hcall ⊢
      clear hR hcall hw hst
      clear h0 h' hsts
      generalize D.st.getD s 0 = st at *
      go_enter Try.func20, Try.ntmps20
      go_wp2_with fail
      refine (Hcall.out _ (HR.out.fr (((Fr.refl _ _).alloc _).alloc _))).mono ?_
      rintro e w' ⟨rfl, hf⟩
      rw [Hst.out]
      have HF2 := Lib.hid ((((Fr.refl Nob w).alloc _).alloc _).call hf (fun _ h _ => h))
      have B0 := (((Blk.new w 31 #[.slice A1 D.st.length c1, .slice A2 D.la.length c2, .int .i64 D.to, .int .i64 D.now]).alloc _).fr hf (fun e => e))
      have B1 := (Blk.new_eq (g := w.heap.size + 1) (by simp)).fr hf (fun e => e)
      have hb0 := B0.cell
      have H1 := Lib.hid B1
      have hsz := hf.size
      simp only [World.size_alloc] at hsz
      clear hf B0 B1
      go_wp2_with fail
      refine (Hwith.out _ 1 true (HR.out.fr HF2.out)).mono ?_
      rintro e w2 ⟨A1', c1', A2', c2', rfl, hR2, hf, hoff⟩
      have HF3 := Lib.hid (HF2.out.call hf (fun _ h _ => h))
      have B1 := H1.out.fr hf (fun e => e)
      have hb1 := B1.cell
      have hf1 := B1.frozen
      have hso := hoff (w.heap.size + 1) (w.heap.size + 2) (by omega)
      rw [rput_true] at hR2 ⊢
      have Hoff := Lib.hid hoff
      have Hso := Lib.hid hso
      have HR2 := Lib.hid hR2
      clear hf B1 hb0 hoff hso hR2
      generalize hD' : dput D s 1 = D' at *
      go_wp2_with fail
      refine bodyPost_ret (v := .tuple #[.agg #[.slice A1' D'.st.length c1', .slice A2' D'.la.length c2', .int .i64 D'.to, .int .i64 D'.now], .bool (st == 2)]) (by simp [results, Try.results20, go_sem, hb1]) rfl ?_
      rw [HF.out]
      refine ⟨A1', c1', A2', c2', rfl, HR2.out.set4 ?_ ?_, rd_set4 HF3.out (by omega), fun lo hi h _ _ => Hoff.out lo hi (by omega)⟩
      · exact Hso.out.1.ne (g := w.heap.size + 1) (by omega) (by omega)
      · exact Hso.out.2.ne (g := w.heap.size + 1) (by omega) (by omega)
  · have h0 : dhas D s = false := by simpa using h0
    have HF := Lib.hid (show dheard D s = (D, false) by unfold dheard; rw [h0]; rfl)
    have hst : dstate D s = 0 := by unfold dstate; rw [h0]; rfl
    have Hcall := Lib.hid hcall
    have HR := Lib.hid hR
    have Hst := Lib.hid hst
    have Hw := Lib.hid hw
    unfold rdv at Hcall ⊢
    clear hR hcall hw hst
    clear h0
    go_enter Try.func20, Try.ntmps20
    go_wp2_with fail
    refine (Hcall.out _ (HR.out.fr (((Fr.refl _ _).alloc _).alloc _))).mono ?_
    rintro e w' ⟨rfl, hf⟩
    rw [Hst.out]
    have HF2 := Lib.hid ((((Fr.refl Nob w).alloc _).alloc _).call hf (fun _ h _ => h))
    have B0 := (((Blk.new w 31 #[.slice A1 D.st.length c1, .slice A2 D.la.length c2, .int .i64 D.to, .int .i64 D.now]).alloc _).fr hf (fun e => e))
    have B1 := (Blk.new_eq (g := w.heap.size + 1) (by simp)).fr hf (fun e => e)
    have hb0 := B0.cell
    have hb1 := B1.cell
    have hf1 := B1.frozen
    clear hf B0 B1
    go_wp2_with fail
    refine bodyPost_ret (v := .tuple #[.agg #[.slice A1 D.st.length c1, .slice A2 D.la.length c2, .int .i64 D.to, .int .i64 D.now], .bool false]) (by simp [results, Try.results20, go_sem, hb1]) rfl ?_
    rw [HF.out]
    refine ⟨A1, c1, A2, c2, rfl, (HR.out.fr HF2.out).set4 ?_ ?_, rd_set4 HF2.out (by omega), fun lo hi h h1 h2 => ⟨h1, h2⟩⟩
    · exact (HR.out.off Hw.out (lo := w.heap.size) (w.heap.size + 2) (Nat.le_refl _)).1.ne (g := w.heap.size + 1) (by omega) (by omega)
    · exact (HR.out.off Hw.out (lo := w.heap.size) (w.heap.size + 2) (Nat.le_refl _)).2.ne (g := w.heap.size + 1) (by omega) (by omega)
set_option maxHeartbeats 400000 in
theorem ref_Leave (w : World) (A1 : Option Addr) (c1 : Nat) (A2 : Option Addr) (c2 : Nat) (D : DD) (s : Int) (hw : WF D) (hR : Rd w A1 c1 A2 c2 D) :
    Calls Try.prog 21 #[rdv A1 c1 A2 c2 D, .int .i64 s] w fun e w' => ∃ A1' c1' A2' c2', e = .returned (.tuple #[rdv A1' c1' A2' c2' (dleave D s).1, .bool (dleave D s).2]) ∧ Rd w' A1' c1' A2' c2' (dleave D s).1 ∧ Fr Nob w w' ∧
      ∀ lo hi, hi ≤ w.heap.size → Off A1 lo hi → Off A2 lo hi → Off A1' lo hi ∧ Off A2' lo hi := by
  have hcall := fun W h => ref_State W A1 c1 A2 c2 D s h
  by_cases h0 : dhas D s = true
  · have h' : 0 ≤ s ∧ s < D.st.length := by simpa [dhas] using h0
    obtain ⟨s, rfl⟩ := Int.eq_ofNat_of_zero_le h'.1
    have hs : s < D.st.length := by omega
    have hwith := fun W v hd h => ref_with W A1 c1 A2 c2 D s v hd hw hs h
    have Hwith := Lib.hid hwith
    clear hwith
    unfold rdv at Hwith
    have hsts := hw.sts s hs
    have hst : dstate D s = D.st.getD s 0 := by unfold dstate; rw [if_pos h0]; rfl
    by_cases h3 : (D.st.getD s 0 == 3) = true
    · have HF := Lib.hid (show dleave D (s : Int) = (D, false) by unfold dleave; rw [h0, show (s : Int).toNat = s from rfl, h3]; rfl)
      have h3e : D.st.getD s 0 = 3 := by simpa using h3
      rw [h3e] at hst
      have Hcall := Lib.hid hcall
      have HR := Lib.hid hR
      have Hst := Lib.hid hst
      have Hw := Lib.hid hw
      unfold rdv at Hcall ⊢
      clear hR hcall hw hst
      clear h3 h3e h0 h' hsts
      go_enter Try.func21, Try.ntmps21
      go_wp2_with fail
      refine (Hcall.out _ (HR.out.fr (((Fr.refl _ _).alloc _).alloc _))).mono ?_
      rintro e w' ⟨rfl, hf⟩
      rw [Hst.out]
      have HF2 := Lib.hid ((((Fr.refl Nob w).alloc _).alloc _).call hf (fun _ h _ => h))
      have B0 := (((Blk.new w 31 #[.slice A1 D.st.length c1, .slice A2 D.la.length c2, .int .i64 D.to, .int .i64 D.now]).alloc _).fr hf (fun e => e))
      have B1 := (Blk.new_eq (g := w.heap.size + 1) (by simp)).fr hf (fun e => e)
      have hb0 := B0.cell
      have hb1 := B1.cell
      have hf1 := B1.frozen
      clear hf B0 B1
      go_wp2_with fail
      refine bodyPost_ret (v := .tuple #[.agg #[.slice A1 D.st.length c1, .slice A2 D.la.length c2, .int .i64 D.to, .int .i64 D.now], .bool false]) (by simp [results, Try.results21, go_sem, hb1]) rfl ?_
      rw [HF.out]
      refine ⟨A1, c1, A2, c2, rfl, (HR.out.fr HF2.out).set4 ?_ ?_, rd_set4 HF2.out (by omega), fun lo hi h h1 h2 => ⟨h1, h2⟩⟩
      · exact (HR.out.off Hw.out (lo := w.heap.size) (w.heap.size + 2) (Nat.le_refl _)).1.ne (g := w.heap.size + 1) (by omega) (by omega)
      · exact (HR.out.off Hw.out (lo := w.heap.size) (w.heap.size + 2) (Nat.le_refl _)).2.ne (g := w.heap.size + 1) (by omega) (by omega)
    · have h3 : (D.st.getD s 0 == 3) = false := by simpa using h3
      have h0' : (D.st.getD s 0 == 0) = false := by rw [beq_eq_false_iff_ne]; omega
      have h3n : (D.st.getD s 0 != 3) = true := by simpa using h3
      have HF := Lib.hid (show dleave D (s : Int) = (dput D s 3, true) by unfold dleave; rw [h0, show (s : Int).toNat = s from rfl, h3]; rfl)
      have Hcall := Lib.hid hcall
      have HR := Lib.hid hR
      have Hst := Lib.hid hst
      have Hw := Lib.hid hw
      unfold rdv at Hcall ⊢
      clear hR hcall hw hst
      clear h0 h' hsts
      generalize D.st.getD s 0 = st at *
      go_enter Try.func21, Try.ntmps21
      go_wp2_with fail
      refine (Hcall.out _ (HR.out.fr (((Fr.refl _ _).alloc _).alloc _))).mono ?_
      rintro e w' ⟨rfl, hf⟩
      rw [Hst.out]
      have HF2 := Lib.hid ((((Fr.refl Nob w).alloc _).alloc _).call hf (fun _ h _ => h))
      have B0 := (((Blk.new w 31 #[.slice A1 D.st.length c1, .slice A2 D.la.length c2, .int .i64 D.to, .int .i64 D.now]).alloc _).fr hf (fun e => e))
      have B1 := (Blk.new_eq (g := w.heap.size + 1) (by simp)).fr hf (fun e => e)
      have hb0 := B0.cell
      have H1 := Lib.hid B1
      have hsz := hf.size
      simp only [World.size_alloc] at hsz
      clear hf B0 B1
      go_wp2_with fail
      refine (Hwith.out _ 3 true (HR.out.fr HF2.out)).mono ?_
      rintro e w2 ⟨A1', c1', A2', c2', rfl, hR2, hf, hoff⟩
      have HF3 := Lib.hid (HF2.out.call hf (fun _ h _ => h))
      have B1 := H1.out.fr hf (fun e => e)
      have hb1 := B1.cell
      have hf1 := B1.frozen
      have hso := hoff (w.heap.size + 1) (w.heap.size + 2) (by omega)
      rw [rput_true] at hR2 ⊢
      have Hoff := Lib.hid hoff
      have Hso := Lib.hid hso
      have HR2 := Lib.hid hR2
      clear hf B1 hb0 hoff hso hR2
      generalize hD' : dput D s 3 = D' at *
      go_wp2_with fail
      refine bodyPost_ret (v := .tuple #[.agg #[.slice A1' D'.st.length c1', .slice A2' D'.la.length c2', .int .i64 D'.to, .int .i64 D'.now], .bool true]) (by simp [results, Try.results21, go_sem, hb1]) rfl ?_
      rw [HF.out]
      refine ⟨A1', c1', A2', c2', rfl, HR2.out.set4 ?_ ?_, rd_set4 HF3.out (by omega), fun lo hi h _ _ => Hoff.out lo hi (by omega)⟩
      · exact Hso.out.1.ne (g := w.heap.size + 1) (by omega) (by omega)
      · exact Hso.out.2.ne (g := w.heap.size + 1) (by omega) (by omega)
  · have h0 : dhas D s = false := by simpa using h0
    have HF := Lib.hid (show dleave D s = (D, false) by unfold dleave; rw [h0]; rfl)
    have hst : dstate D s = 0 := by unfold dstate; rw [h0]; rfl
    have Hcall := Lib.hid hcall
    have HR := Lib.hid hR
    have Hst := Lib.hid hst
    have Hw := Lib.hid hw
    unfold rdv at Hcall ⊢
    clear hR hcall hw hst
    clear h0
    go_enter Try.func21, Try.ntmps21
    go_wp2_with fail
    refine (Hcall.out _ (HR.out.fr (((Fr.refl _ _).alloc _).alloc _))).mono ?_
    rintro e w' ⟨rfl, hf⟩
    rw [Hst.out]
    have HF2 := Lib.hid ((((Fr.refl Nob w).alloc _).alloc _).call hf (fun _ h _ => h))
    have B0 := (((Blk.new w 31 #[.slice A1 D.st.length c1, .slice A2 D.la.length c2, .int .i64 D.to, .int .i64 D.now]).alloc _).fr hf (fun e => e))
    have B1 := (Blk.new_eq (g := w.heap.size + 1) (by simp)).fr hf (fun e => e)
    have hb0 := B0.cell
    have hb1 := B1.cell
    have hf1 := B1.frozen
    clear hf B0 B1
    go_wp2_with fail
    refine bodyPost_ret (v := .tuple #[.agg #[.slice A1 D.st.length c1, .slice A2 D.la.length c2, .int .i64 D.to, .int .i64 D.now], .bool false]) (by simp [results, Try.results21, go_sem, hb1]) rfl ?_
    rw [HF.out]
    refine ⟨A1, c1, A2, c2, rfl, (HR.out.fr HF2.out).set4 ?_ ?_, rd_set4 HF2.out (by omega), fun lo hi h h1 h2 => ⟨h1, h2⟩⟩
    · exact (HR.out.off Hw.out (lo := w.heap.size) (w.heap.size + 2) (Nat.le_refl _)).1.ne (g := w.heap.size + 1) (by omega) (by omega)
    · exact (HR.out.off Hw.out (lo := w.heap.size) (w.heap.size + 2) (Nat.le_refl _)).2.ne (g := w.heap.size + 1) (by omega) (by omega)
set_option maxHeartbeats 400000 in
theorem ref_Enter (w : World) (A1 : Option Addr) (c1 : Nat) (A2 : Option Addr) (c2 : Nat) (D : DD) (s : Int) (hw : WF D) (hR : Rd w A1 c1 A2 c2 D) :
    Calls Try.prog 22 #[rdv A1 c1 A2 c2 D, .int .i64 s] w fun e w' => ∃ A1' c1' A2' c2', e = .returned (.tuple #[rdv A1' c1' A2' c2' (denter D s).1, .bool (denter D s).2]) ∧ Rd w' A1' c1' A2' c2' (denter D s).1 ∧ Fr Nob w w' ∧
      ∀ lo hi, hi ≤ w.heap.size → Off A1 lo hi → Off A2 lo hi → Off A1' lo hi ∧ Off A2' lo hi := by
  have hcall := fun W h => ref_State W A1 c1 A2 c2 D s h
  by_cases h0 : dhas D s = true
  · have h' : 0 ≤ s ∧ s < D.st.length := by simpa [dhas] using h0
    obtain ⟨s, rfl⟩ := Int.eq_ofNat_of_zero_le h'.1
    have hs : s < D.st.length := by omega
    have hwith := fun W v hd h => ref_with W A1 c1 A2 c2 D s v hd hw hs h
    have Hwith := Lib.hid hwith
    clear hwith
    unfold rdv at Hwith
    have hsts := hw.sts s hs
    have hst : dstate D s = D.st.getD s 0 := by unfold dstate; rw [if_pos h0]; rfl
    by_cases h3 : (D.st.getD s 0 == 3) = true
    · have HF := Lib.hid (show denter D (s : Int) = (dput D s 1, true) by unfold denter; rw [h0, show (s : Int).toNat = s from rfl, h3]; rfl)
      have h3e : D.st.getD s 0 = 3 := by simpa using h3
      rw [h3e] at hst
      have Hcall := Lib.hid hcall
      have HR := Lib.hid hR
      have Hst := Lib.hid hst
      have Hw := Lib.hid hw
      unfold rdv at Hcall ⊢
      clear hR hcall hw hst
      clear h3 h3e h0 h' hsts
      go_enter Try.func22, Try.ntmps22
      go_wp2_with fail
      refine (Hcall.out _ (HR.out.fr (((Fr.refl _ _).alloc _).alloc _))).mono ?_
      rintro e w' ⟨rfl, hf⟩
      rw [Hst.out]
      have HF2 := Lib.hid ((((Fr.refl Nob w).alloc _).alloc _).call hf (fun _ h _ => h))
      have B0 := (((Blk.new w 31 #[.slice A1 D.st.length c1, .slice A2 D.la.length c2, .int .i64 D.to, .int .i64 D.now]).alloc _).fr hf (fun e => e))
      have B1 := (Blk.new_eq (g := w.heap.size + 1) (by simp)).fr hf (fun e => e)
      have hb0 := B0.cell
      have H1 := Lib.hid B1
      have hsz := hf.size
      simp only [World.size_alloc] at hsz
      clear hf B0 B1
      go_wp2_with fail
      refine (Hwith.out _ 1 true (HR.out.fr HF2.out)).mono ?_
      rintro e w2 ⟨A1', c1', A2', c2', rfl, hR2, hf, hoff⟩
      have HF3 := Lib.hid (HF2.out.call hf (fun _ h _ => h))
      have B1 := H1.out.fr hf (fun e => e)
      have hb1 := B1.cell
      have hf1 := B1.frozen
      have hso := hoff (w.heap.size + 1) (w.heap.size + 2) (by omega)
      rw [rput_true] at hR2 ⊢
      have Hoff := Lib.hid hoff
      have Hso := Lib.hid hso
      have HR2 := Lib.hid hR2
      clear hf B1 hb0 hoff hso hR2
      generalize hD' : dput D s 1 = D' at *
      go_wp2_with fail
      refine bodyPost_ret (v := .tuple #[.agg #[.slice A1' D'.st.length c1', .slice A2' D'.la.length c2', .int .i64 D'.to, .int .i64 D'.now], .bool true]) (by simp [results, Try.results22, go_sem, hb1]) rfl ?_
      rw [HF.out]
      refine ⟨A1', c1', A2', c2', rfl, HR2.out.set4 ?_ ?_, rd_set4 HF3.out (by omega), fun lo hi h _ _ => Hoff.out lo hi (by omega)⟩
      · exact Hso.out.1.ne (g := w.heap.size + 1) (by omega) (by omega)
      · exact Hso.out.2.ne (g := w.heap.size + 1) (by omega) (by omega)
    · have h3 : (D.st.getD s 0 == 3) = false := by simpa using h3
      have h0' : (D.st.getD s 0 == 0) = false := by rw [beq_eq_false_iff_ne]; omega
      have h3n : (D.st.getD s 0 != 3) = true := by simpa using h3
      have HF := Lib.hid (show denter D (s : Int) = (D, false) by unfold denter; rw [h0, show (s : Int).toNat = s from rfl, h3]; rfl)
      have Hcall := Lib.hid hcall
      have HR := Lib.hid hR
      have Hst := Lib.hid hst
      have Hw := Lib.hid hw
      unfold rdv at Hcall ⊢
      clear hR hcall hw hst
      clear h0 h' hsts
      generalize D.st.getD s 0 = st at *
      go_enter Try.func22, Try.ntmps22
      go_wp2_with fail
      refine (Hcall.out _ (HR.out.fr (((Fr.refl _ _).alloc _).alloc _))).mono ?_
      rintro e w' ⟨rfl, hf⟩
      rw [Hst.out]
      have HF2 := Lib.hid ((((Fr.refl Nob w).alloc _).alloc _).call hf (fun _ h _ => h))
      have B0 := (((Blk.new w 31 #[.slice A1 D.st.length c1, .slice A2 D.la.length c2, .int .i64 D.to, .int .i64 D.now]).alloc _).fr hf (fun e => e))
      have B1 := (Blk.new_eq (g := w.heap.size + 1) (by simp)).fr hf (fun e => e)
      have hb0 := B0.cell
      have hb1 := B1.cell
      have hf1 := B1.frozen
      clear hf B0 B1
      go_wp2_with fail
      refine bodyPost_ret (v := .tuple #[.agg #[.slice A1 D.st.length c1, .slice A2 D.la.length c2, .int .i64 D.to, .int .i64 D.now], .bool false]) (by simp [results, Try.results22, go_sem, hb1]) rfl ?_
      rw [HF.out]
      refine ⟨A1, c1, A2, c2, rfl, (HR.out.fr HF2.out).set4 ?_ ?_, rd_set4 HF2.out (by omega), fun lo hi h h1 h2 => ⟨h1, h2⟩⟩
      · exact (HR.out.off Hw.out (lo := w.heap.size) (w.heap.size + 2) (Nat.le_refl _)).1.ne (g := w.heap.size + 1) (by omega) (by omega)
      · exact (HR.out.off Hw.out (lo := w.heap.size) (w.heap.size + 2) (Nat.le_refl _)).2.ne (g := w.heap.size + 1) (by omega) (by omega)
  · have h0 : dhas D s = false := by simpa using h0
    have HF := Lib.hid (show denter D s = (D, false) by unfold denter; rw [h0]; rfl)
    have hst : dstate D s = 0 := by unfold dstate; rw [h0]; rfl
    have Hcall := Lib.hid hcall
    have HR := Lib.hid hR
    have Hst := Lib.hid hst
    have Hw := Lib.hid hw
    unfold rdv at Hcall ⊢
    clear hR hcall hw hst
    clear h0
    go_enter Try.func22, Try.ntmps22
    go_wp2_with fail
    refine (Hcall.out _ (HR.out.fr (((Fr.refl _ _).alloc _).alloc _))).mono ?_
    rintro e w' ⟨rfl, hf⟩
    rw [Hst.out]
    have HF2 := Lib.hid ((((Fr.refl Nob w).alloc _).alloc _).call hf (fun _ h _ => h))
    have B0 := (((Blk.new w 31 #[.slice A1 D.st.length c1, .slice A2 D.la.length c2, .int .i64 D.to, .int .i64 D.now]).alloc _).fr hf (fun e => e))
    have B1 := (Blk.new_eq (g := w.heap.size + 1) (by simp)).fr hf (fun e => e)
    have hb0 := B0.cell
    have hb1 := B1.cell
    have hf1 := B1.frozen
    clear hf B0 B1
    go_wp2_with fail
    refine bodyPost_ret (v := .tuple #[.agg #[.slice A1 D.st.length c1, .slice A2 D.la.length c2, .int .i64 D.to, .int .i64 D.now], .bool false]) (by simp [results, Try.results22, go_sem, hb1]) rfl ?_
    rw [HF.out]
    refine ⟨A1, c1, A2, c2, rfl, (HR.out.fr HF2.out).set4 ?_ ?_, rd_set4 HF2.out (by omega), fun lo hi h h1 h2 => ⟨h1, h2⟩⟩
    · exact (HR.out.off Hw.out (lo := w.heap.size) (w.heap.size + 2) (Nat.le_refl _)).1.ne (g := w.heap.size + 1) (by omega) (by omega)
    · exact (HR.out.off Hw.out (lo := w.heap.size) (w.heap.size + 2) (Nat.le_refl _)).2.ne (g := w.heap.size + 1) (by omega) (by omega)
end Go.Proofs.Ytegidffoonkpnaa
