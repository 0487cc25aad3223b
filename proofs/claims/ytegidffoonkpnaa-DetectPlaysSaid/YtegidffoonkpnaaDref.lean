/- The reference of the detector. -/
import Derived.Test.YtegidffoonkpnaaDet3
namespace Go.Proofs.Ytegidffoonkpnaa
open Go.RowKit

def rdv (A1 : Option Addr) (c1 : Nat) (A2 : Option Addr) (c2 : Nat) (D : DD) : Value :=
  .agg #[.slice A1 D.st.length c1, .slice A2 D.la.length c2, .int .i64 D.to, .int .i64 D.now]
structure Rd (w : World) (A1 : Option Addr) (c1 : Nat) (A2 : Option Addr) (c2 : Nat) (D : DD) : Prop where
  st : Sl w 1 A1 D.st.length c1 (ints D.st)
  la : Sl w 1 A2 D.la.length c2 (ints D.la)
theorem Rd.fr {w w' : World} {A1 A2 : Option Addr} {c1 c2 : Nat} {D : DD} (h : Rd w A1 c1 A2 c2 D) (hf : Fr Nob w w') : Rd w' A1 c1 A2 c2 D := ⟨h.st.pure hf, h.la.pure hf⟩
theorem Rd.off {w : World} {A1 A2 : Option Addr} {c1 c2 : Nat} {D : DD} (h : Rd w A1 c1 A2 c2 D) (hw : WF D) {lo : Nat} (hi : Nat) (hlo : w.heap.size ≤ lo) : Off A1 lo hi ∧ Off A2 lo hi := by
  obtain ⟨b, off, rfl, hb, _⟩ := h.st.cells hw.pos
  obtain ⟨b2, off2, rfl, hb2, _⟩ := h.la.cells (by rw [hw.len]; exact hw.pos)
  exact ⟨Off.of_lt (by omega), Off.of_lt (by omega)⟩
theorem ints_get (l : List Int) (k : Nat) (h : k < l.length) : (ints l)[k]? = some (.int .i64 (l.getD k 0)) := by
  simp [ints, h]
theorem Sl.int {w : World} {A : Option Addr} {c : Nat} {l : List Int} {k : Nat} (h : Sl w 1 A l.length c (ints l)) (hk : k < l.length) :
    ∃ b off, A = some ⟨b, off, none⟩ ∧ b < w.heap.size ∧ w.cell? ⟨b, off + k, none⟩ = some (.int .i64 (l.getD k 0)) := by
  obtain ⟨b, off, u, hA, hb, hu, hc⟩ := h.at_ hk
  rw [ints_get l k hk] at hu
  exact ⟨b, off, hA, hb, by rw [hc]; exact hu.symm⟩

theorem ref_State (w : World) (A1 : Option Addr) (c1 : Nat) (A2 : Option Addr) (c2 : Nat) (D : DD) (s : Int) (hR : Rd w A1 c1 A2 c2 D) :
    Calls Try.prog 24 #[rdv A1 c1 A2 c2 D, .int .i64 s] w fun e w' => e = .returned (.int .i64 (dstate D s)) ∧ Fr Nob w w' := by
  have hm := hR.st.max
  have hle := hR.st.le
  unfold maxLen at hm
  unfold rdv
  by_cases h0 : s < 0
  · have HF := Lib.hid (show dstate D s = 0 by unfold dstate dhas; rw [if_neg (by simp; omega)])
    clear hR
    go_enter Try.func24, Try.ntmps24
    go_wp2
    go_ret
    exact ⟨by rw [HF.out]; rfl, (Fr.refl _ _).alloc _⟩
  · obtain ⟨s, rfl⟩ := Int.eq_ofNat_of_zero_le (show 0 ≤ s by omega)
    by_cases h1 : s < D.st.length
    · obtain ⟨b, off, rfl, hb, hc⟩ := hR.st.int h1
      have HF := Lib.hid (show dstate D s = D.st.getD s 0 by unfold dstate dhas; rw [if_pos (by simp; omega)]; rfl)
      have h1' : (s : Int) < D.st.length := by omega
      clear hR
      generalize D.st.getD s 0 = x at *
      go_enter Try.func24, Try.ntmps24
      go_wp2
      go_ret
      exact ⟨by rw [HF.out]; rfl, (Fr.refl _ _).alloc _⟩
    · have HF := Lib.hid (show dstate D s = 0 by unfold dstate dhas; rw [if_neg (by simp; omega)])
      have h1' : ¬ ((s : Int) < D.st.length) := by omega
      clear hR
      go_enter Try.func24, Try.ntmps24
      go_wp2
      go_ret
      exact ⟨by rw [HF.out]; rfl, (Fr.refl _ _).alloc _⟩


theorem ref_Last (w : World) (A1 : Option Addr) (c1 : Nat) (A2 : Option Addr) (c2 : Nat) (D : DD) (s : Int) (hw : WF D) (hR : Rd w A1 c1 A2 c2 D) :
    Calls Try.prog 25 #[rdv A1 c1 A2 c2 D, .int .i64 s] w fun e w' => e = .returned (.int .i64 (dlast D s)) ∧ Fr Nob w w' := by
  have hm := hR.la.max
  have hle := hR.la.le
  unfold maxLen at hm
  have hcall := fun W h => ref_State W A1 c1 A2 c2 D s h
  by_cases h0 : dhas D s = true
  · have h' : 0 ≤ s ∧ s < D.st.length := by simpa [dhas] using h0
    obtain ⟨s, rfl⟩ := Int.eq_ofNat_of_zero_le h'.1
    have hs : s < D.st.length := by omega
    have hs2 : s < D.la.length := by rw [hw.len]; exact hs
    obtain ⟨b, off, rfl, hb, hc⟩ := hR.la.int hs2
    have HF := Lib.hid (show dlast D s = D.la.getD s 0 by unfold dlast; rw [if_pos h0]; rfl)
    have hst : (dstate D s == 0) = false := by
      have := hw.sts s hs
      unfold dstate; rw [if_pos h0]
      have e : ((s : Int).toNat) = s := rfl
      rw [e, beq_eq_false_iff_ne]; omega
    have Hcall := Lib.hid hcall
    have HR := Lib.hid hR
    unfold rdv at Hcall ⊢
    clear h0 h' hR hcall hw hs
    generalize D.la.getD s 0 = x at *
    generalize D.la.length = N at *
    generalize dstate D s = ds at *
    go_enter Try.func25, Try.ntmps25
    go_wp2_with fail
    refine (Hcall.out _ (HR.out.fr ((Fr.refl _ _).alloc _))).mono ?_
    rintro e w' ⟨rfl, hf⟩
    have HF2 := Lib.hid (((Fr.refl Nob w).alloc _).call hf (fun _ h _ => h))
    have hc0 : w'.cell? ⟨w.heap.size, 1, none⟩ = some (.slice (some ⟨b, off, none⟩) N c2) := hf.cell (by simp) (fun e => e)
    have hc' := HF2.out.cell hc (fun e => e)
    clear hf
    go_wp2_with fail
    go_ret
    exact ⟨by rw [HF.out]; rfl, HF2.out⟩
  · have h0 : dhas D s = false := by simpa using h0
    have HF := Lib.hid (show dlast D s = 0 by unfold dlast; rw [h0]; rfl)
    have hst : dstate D s = 0 := by unfold dstate; rw [h0]; rfl
    have Hcall := Lib.hid hcall
    have HR := Lib.hid hR
    unfold rdv at Hcall ⊢
    clear h0 hR hcall hw
    go_enter Try.func25, Try.ntmps25
    go_wp2_with fail
    refine (Hcall.out _ (HR.out.fr ((Fr.refl _ _).alloc _))).mono ?_
    rintro e w' ⟨rfl, hf⟩
    rw [hst]
    have HF2 := Lib.hid (((Fr.refl Nob w).alloc _).call hf (fun _ h _ => h))
    clear hf hst
    go_wp2_with fail
    go_ret
    exact ⟨by rw [HF.out]; rfl, HF2.out⟩

def rput (D : DD) (s : Nat) (v : Int) (heard : Bool) : DD := { D with st := D.st.set s v, la := if heard then D.la.set s D.now else D.la }
theorem el_i64 : ElemT Try.prog 29 2 1 8 := ElemT.mk (z := .int .i64 0) Try.underlying29 (by kernel_rfl) rfl (by decide)
theorem ints_set (l : List Int) (s : Nat) (v : Int) : (ints l).set s (.int .i64 v) = ints (l.set s v) := by simp [ints, List.map_set]

set_option maxHeartbeats 400000 in
theorem ref_with (w : World) (A1 : Option Addr) (c1 : Nat) (A2 : Option Addr) (c2 : Nat) (D : DD) (s : Nat) (v : Int) (heard : Bool) (hw : WF D) (hs : s < D.st.length) (hR : Rd w A1 c1 A2 c2 D) :
    Calls Try.prog 31 #[rdv A1 c1 A2 c2 D, .int .i64 s, .int .i64 v, .bool heard] w fun e w' => ∃ A1' c1' A2' c2', e = .returned (rdv A1' c1' A2' c2' (rput D s v heard)) ∧ Rd w' A1' c1' A2' c2' (rput D s v heard) ∧ Fr Nob w w' ∧ ∀ lo hi, hi ≤ w.heap.size → Off A1' lo hi ∧ Off A2' lo hi := by
  have h8 := hw.le8
  have hl := hw.len
  unfold rdv
  go_enter Try.func31, Try.ntmps31
  go_wp2_with (at_builtin; refine wpList_app rfl _ _ 28 rfl el_int (base := w.heap.size + 2) (xs := []) (news := ints D.st) rfl ?own rfl ?src ?one ?h63 ?hby ?hbase ?_)
  case own => exact World.ownsRow_nil _ _ _ _
  case src => exact hR.st.pure (((Fr.refl _ _).alloc _).alloc _)
  case one => exact one_ints _
  case h63 => unfold maxLen; omega
  case hby => omega
  case hbase => simp
  intro A' c' wa own1 hgr hat
  have F1 := (((Fr.refl Nob w).alloc _).alloc _).grown hgr (by intro k hk; simp at hk)
  have hwa := hgr.size
  simp only [World.size_alloc] at hwa
  obtain ⟨g, cap, hv, hgb, hgl⟩ := own1.form (by omega)
  simp only [Value.slice.injEq] at hv
  obtain ⟨rfl, _, rfl⟩ := hv
  have B0 := ((Blk.new w 31 #[.slice A1 D.st.length c1, .slice A2 D.st.length c2, .int .i64 D.to, .int .i64 D.now]).alloc _).grown hgr (by simp)
  have B1 := (Blk.new_eq (g := w.heap.size + 1) (by simp)).grown hgr (by simp)
  have hb0 := B0.cell
  have hb1 := B1.cell
  have H0 := Lib.hid B0
  have H1 := Lib.hid B1
  clear B0 B1
  have HF1 := Lib.hid F1
  have Hown1 := Lib.hid own1
  clear F1 own1 hgr hat
  have HR := Lib.hid hR
  have Hw := Lib.hid hw
  have hll : ints D.la = ints D.la := rfl
  have HSl : Hid (Sl wa 1 A2 D.st.length c2 (ints D.la)) := by have := hR.la.pure HF1.out; rw [hl] at this; exact this
  have Hl := Lib.hid hl
  clear hR hw hl hll
  have h8' : D.st.length ≤ maxLen := by unfold maxLen; omega
  have hI : (s : Int) < D.st.length := by omega
  go_wp2_with (at_builtin; refine wpList_app rfl _ _ 29 rfl el_i64 (base := wa.heap.size) (xs := []) (news := ints D.la) rfl ?own2 rfl ?src2 ?one2 ?h632 ?hby2 ?hbase2 ?_)
  case own2 => exact World.ownsRow_nil _ _ _ _
  case src2 => exact HSl.out
  case one2 => exact one_ints _
  case h632 => omega
  case hby2 => omega
  case hbase2 => omega
  intro A'' c'' wb own2 hgr hat
  have F2 := (Fr.refl Nob wa).grown hgr (by intro k hk; simp at hk)
  obtain ⟨g2, cap, hv, hgb2, hgl2⟩ := own2.form (by omega)
  simp only [Value.slice.injEq] at hv
  obtain ⟨rfl, _, rfl⟩ := hv
  have hwb := hgr.size
  have B0 := H0.out.grown hgr (by simp)
  have B1 := H1.out.grown hgr (by simp)
  have hb0 := B0.cell
  have hb1 := B1.cell
  have hf0 := B1.frozen
  clear B0 B1 H0 H1
  have Hown1b := Lib.hid (own_fr Hown1.out F2 (fun _ _ _ _ e => e))
  have hcs := own2.cellAt
  have hsc := Hown1b.out.cellAt s (by omega)
  rw [ints_get _ _ hs] at hsc
  have hsc2 := own2.cellAt s (by omega)
  rw [ints_get _ _ (by rw [Hl.out]; exact hs)] at hsc2
  have hf1 := Hown1b.out.frozenAt s
  have hf2 := own2.frozenAt s
  have hx1 : ¬ g = w.heap.size := by omega
  have hx2 : ¬ w.heap.size = g := by omega
  have hx3 : ¬ g2 = w.heap.size := by omega
  have hx4 : ¬ w.heap.size = g2 := by omega
  have hx5 : ¬ g = w.heap.size + 1 := by omega
  have hx6 : ¬ w.heap.size + 1 = g := by omega
  have hx7 : ¬ g2 = w.heap.size + 1 := by omega
  have hx8 : ¬ w.heap.size + 1 = g2 := by omega
  have hne : g ≠ g2 := by omega
  have hne' : g2 ≠ g := by omega
  have HF2 := Lib.hid (HF1.out.call F2 (fun _ h _ => h))
  have Hown2 := Lib.hid own2
  clear F2 own2 hgr hat hcs HF1 Hown1 HSl
  have HFl : Hid (∀ W, Fr Nob w W → ∀ x y z u, Fr Nob w ((((W.setCell ⟨w.heap.size + 1, 0, none⟩ x).setCell ⟨w.heap.size + 1, 1, none⟩ y).setCell ⟨w.heap.size + 1, 2, none⟩ z).setCell ⟨w.heap.size + 1, 3, none⟩ u)) := by
    intro W h x y z u
    exact (((h.setCell (p := ⟨w.heap.size + 1, 0, none⟩) (fun h => absurd h (show ¬ w.heap.size + 1 < w.heap.size by omega)) x).setCell (p := ⟨w.heap.size + 1, 1, none⟩) (fun h => absurd h (show ¬ w.heap.size + 1 < w.heap.size by omega)) y).setCell (p := ⟨w.heap.size + 1, 2, none⟩) (fun h => absurd h (show ¬ w.heap.size + 1 < w.heap.size by omega)) z).setCell (p := ⟨w.heap.size + 1, 3, none⟩) (fun h => absurd h (show ¬ w.heap.size + 1 < w.heap.size by omega)) u
  have HFo : Hid (∀ W x y z u, Fr (Only (w.heap.size + 1)) W ((((W.setCell ⟨w.heap.size + 1, 0, none⟩ x).setCell ⟨w.heap.size + 1, 1, none⟩ y).setCell ⟨w.heap.size + 1, 2, none⟩ z).setCell ⟨w.heap.size + 1, 3, none⟩ u)) := by
    intro W x y z u
    exact ((((Fr.refl (Only (w.heap.size + 1)) W).setCell (p := ⟨w.heap.size + 1, 0, none⟩) (fun h => rfl) x).setCell (p := ⟨w.heap.size + 1, 1, none⟩) (fun h => rfl) y).setCell (p := ⟨w.heap.size + 1, 2, none⟩) (fun h => rfl) z).setCell (p := ⟨w.heap.size + 1, 3, none⟩) (fun h => rfl) u
  cases heard
  · go_wp2
    refine bodyPost_ret (v := .agg #[.slice (some ⟨g, 0, none⟩) D.st.length c', .slice (some ⟨g2, 0, none⟩) D.st.length c'', .int .i64 D.to, .int .i64 D.now]) (by simp [results, Try.results31, go_sem, hb1]) rfl ?_
    refine ⟨some ⟨g, 0, none⟩, c', some ⟨g2, 0, none⟩, c'', by simp [rput, Hl.out], ⟨?_, ?_⟩, ?_, fun lo hi h => ⟨Off.of_ge (by omega), Off.of_ge (by omega)⟩⟩
    · have h := fun x y z u => Sl.of_own (own_fr (Hown1b.out.stored s (.int .i64 v)).1 (HFo.out _ x y z u) (fun k hk _ _ e => by simp [Value.ownBlock] at hk; unfold Only at e; omega))
      simp only [ints_set] at h
      simp only [rput, List.length_set]
      exact h _ _ _ _
    · have h := fun x y z u => Sl.of_own (own_fr (own_fr Hown2.out (S := Only g) ((Fr.refl (Only g) _).setCell (p := ⟨g, s, none⟩) (fun _ => rfl) (.int .i64 v)) (fun k hk _ _ e => by simp [Value.ownBlock] at hk; unfold Only at e; omega)) (HFo.out _ x y z u) (fun k hk _ _ e => by simp [Value.ownBlock] at hk; unfold Only at e; omega))
      simp only [rput, Bool.false_eq_true, if_false]
      rw [show D.la.length = D.st.length from Hl.out]
      exact h _ _ _ _
    · exact HFl.out _ (HF2.out.setCell (p := ⟨g, s, none⟩) (fun h => absurd h (show ¬ g < w.heap.size by omega)) _) _ _ _ _
  · go_wp2
    refine bodyPost_ret (v := .agg #[.slice (some ⟨g, 0, none⟩) D.st.length c', .slice (some ⟨g2, 0, none⟩) D.st.length c'', .int .i64 D.to, .int .i64 D.now]) (by simp [results, Try.results31, go_sem, hb1]) rfl ?_
    refine ⟨some ⟨g, 0, none⟩, c', some ⟨g2, 0, none⟩, c'', by simp [rput, Hl.out], ⟨?_, ?_⟩, ?_, fun lo hi h => ⟨Off.of_ge (by omega), Off.of_ge (by omega)⟩⟩
    · have h := fun x y z u => Sl.of_own (own_fr (own_fr (Hown1b.out.stored s (.int .i64 v)).1 ((Fr.refl (Only g2) _).setCell (p := ⟨g2, s, none⟩) (fun _ => rfl) (.int .i64 D.now)) (fun k hk _ _ e => by simp [Value.ownBlock] at hk; unfold Only at e; omega)) (HFo.out _ x y z u) (fun k hk _ _ e => by simp [Value.ownBlock] at hk; unfold Only at e; omega))
      simp only [ints_set] at h
      simp only [rput, List.length_set]
      exact h _ _ _ _
    · have h := fun x y z u => Sl.of_own (own_fr ((own_fr Hown2.out (S := Only g) ((Fr.refl (Only g) _).setCell (p := ⟨g, s, none⟩) (fun _ => rfl) (.int .i64 v)) (fun k hk _ _ e => by simp [Value.ownBlock] at hk; unfold Only at e; omega)).stored s (.int .i64 D.now)).1 (HFo.out _ x y z u) (fun k hk _ _ e => by simp [Value.ownBlock] at hk; unfold Only at e; omega))
      simp only [ints_set] at h
      simp only [rput, if_true, List.length_set]
      rw [show D.la.length = D.st.length from Hl.out]
      exact h _ _ _ _
    · exact HFl.out _ ((HF2.out.setCell (p := ⟨g, s, none⟩) (fun h => absurd h (show ¬ g < w.heap.size by omega)) _).setCell (p := ⟨g2, s, none⟩) (fun h => absurd h (show ¬ g2 < w.heap.size by omega)) _) _ _ _ _
end Go.Proofs.Ytegidffoonkpnaa
