/- The detector: what its block holds, and what each of its methods does to it. -/
import Derived.Test.YtegidffoonkpnaaSum
namespace Go.Proofs.Ytegidffoonkpnaa
open Go.RowKit

structure DD where
  st : List Int
  la : List Int
  to : Int
  now : Int

def dcs (D : DD) : Array Value :=
  (((List.range 8).flatMap fun i => [Value.int .i64 (D.st.getD i 0), Value.int .i64 (D.la.getD i 0)]) ++ [Value.int .i64 D.st.length, Value.int .i64 D.to, Value.int .i64 D.now]).toArray

theorem dcs_st (D : DD) (i : Nat) (h : i < 8) : (dcs D)[i * 2]? = some (.int .i64 (D.st.getD i 0)) := by
  match i, h with
  | 0, _ => rfl
  | 1, _ => rfl
  | 2, _ => rfl
  | 3, _ => rfl
  | 4, _ => rfl
  | 5, _ => rfl
  | 6, _ => rfl
  | 7, _ => rfl
theorem dcs_la (D : DD) (i : Nat) (h : i < 8) : (dcs D)[i * 2 + 1]? = some (.int .i64 (D.la.getD i 0)) := by
  match i, h with
  | 0, _ => rfl
  | 1, _ => rfl
  | 2, _ => rfl
  | 3, _ => rfl
  | 4, _ => rfl
  | 5, _ => rfl
  | 6, _ => rfl
  | 7, _ => rfl
theorem getD_set (l : List Int) (i j : Nat) (v : Int) (h : i < l.length) : (l.set i v).getD j 0 = if i = j then v else l.getD j 0 := by
  simp only [List.getD_eq_getElem?_getD, List.getElem?_set]
  split
  · simp
  · rfl
theorem dcs_set_st (D : DD) (i : Nat) (v : Int) (h : i < 8) (hl : i < D.st.length) : (dcs D).setIfInBounds (i * 2) (.int .i64 v) = dcs { D with st := D.st.set i v } := by
  have e := fun j => getD_set D.st i j v hl
  unfold dcs
  simp only [List.range, List.range.loop, List.flatMap_cons, List.flatMap_nil, e, List.length_set]
  match i, h with
  | 0, _ => rfl
  | 1, _ => rfl
  | 2, _ => rfl
  | 3, _ => rfl
  | 4, _ => rfl
  | 5, _ => rfl
  | 6, _ => rfl
  | 7, _ => rfl
theorem dcs_set_la (D : DD) (i : Nat) (v : Int) (h : i < 8) (hl : i < D.la.length) : (dcs D).setIfInBounds (i * 2 + 1) (.int .i64 v) = dcs { D with la := D.la.set i v } := by
  have e := fun j => getD_set D.la i j v hl
  unfold dcs
  simp only [List.range, List.range.loop, List.flatMap_cons, List.flatMap_nil, e]
  match i, h with
  | 0, _ => rfl
  | 1, _ => rfl
  | 2, _ => rfl
  | 3, _ => rfl
  | 4, _ => rfl
  | 5, _ => rfl
  | 6, _ => rfl
  | 7, _ => rfl
theorem dcs_set_now (D : DD) (v : Int) : (dcs D).setIfInBounds 18 (.int .i64 v) = dcs { D with now := v } := rfl

def Det (w : World) (b : Nat) (D : DD) : Prop := Blk w b 59 (dcs D)

structure WF (D : DD) : Prop where
  len : D.la.length = D.st.length
  pos : 1 ≤ D.st.length
  le8 : D.st.length ≤ 8
  to1 : 1 ≤ D.to
  to2 : D.to ≤ 9223372036854775807
  now0 : 0 ≤ D.now
  now2 : D.now ≤ 9223372036854775807
  sts : ∀ i, i < D.st.length → 1 ≤ D.st.getD i 0 ∧ D.st.getD i 0 ≤ 3
  las : ∀ i, i < D.st.length → 0 ≤ D.la.getD i 0 ∧ D.la.getD i 0 ≤ D.now

section
variable {w w' : World} {b : Nat} {D : DD} {S : Nat → Prop}
theorem Det.stc (h : Det w b D) {i : Nat} (hi : i < 8) : w.cell? ⟨b, i * 2, none⟩ = some (.int .i64 (D.st.getD i 0)) := by
  rw [Blk.cell h]; exact dcs_st D i hi
theorem Det.lac (h : Det w b D) {i : Nat} (hi : i < 8) : w.cell? ⟨b, i * 2 + 1, none⟩ = some (.int .i64 (D.la.getD i 0)) := by
  rw [Blk.cell h]; exact dcs_la D i hi
theorem Det.nc (h : Det w b D) : w.cell? ⟨b, 16, none⟩ = some (.int .i64 D.st.length) := by rw [Blk.cell h]; rfl
theorem Det.toc (h : Det w b D) : w.cell? ⟨b, 17, none⟩ = some (.int .i64 D.to) := by rw [Blk.cell h]; rfl
theorem Det.nowc (h : Det w b D) : w.cell? ⟨b, 18, none⟩ = some (.int .i64 D.now) := by rw [Blk.cell h]; rfl
theorem Det.drew (h : Det w b D) : Det w.drew b D := Blk.drew h
theorem Det.drewN (h : Det w b D) (n : Nat) : Det (w.drewN n) b D := Blk.drewN h n
theorem Det.fr (h : Det w b D) (hf : Fr S w w') (hb : ¬ S b) : Det w' b D := Blk.fr h hf hb
theorem Det.free (h : Det w b D) (i : Nat) : w.frozen? ⟨b, i, none⟩ = false := Blk.frozen h i
end

def dhas (D : DD) (s : Int) : Bool := decide (0 ≤ s) && decide (s < D.st.length)
theorem det_has (w : World) (b : Nat) (D : DD) (s : Int) (hD : Det w b D) :
    Calls Try.prog 30 #[.pointer (some ⟨b,0,none⟩), .int .i64 s] w fun e w' => e = .returned (.bool (dhas D s)) ∧ w = w' := by
  have hn := hD.nc
  go_enter Try.func30, Try.ntmps30
  go_wp2
  all_goals go_ret
  all_goals exact ⟨ret1b (by simp [dhas]; omega), rfl⟩
theorem det_has_nil (w : World) (s : Int) :
    Calls Try.prog 30 #[.pointer none, .int .i64 s] w fun e w' => e = .returned (.bool false) ∧ w = w' := by
  go_enter Try.func30, Try.ntmps30
  go_wp2
  all_goals go_ret
  all_goals exact ⟨rfl, rfl⟩

def dsilent (D : DD) (s : Nat) : Bool := D.st.getD s 0 == 1 && decide (D.to < D.now - D.la.getD s 0)
theorem det_silent (w : World) (b : Nat) (D : DD) (s : Nat) (hw : WF D) (hs : s < D.st.length) (hD : Det w b D) :
    Calls Try.prog 28 #[.pointer (some ⟨b,0,none⟩), .int .i64 s] w fun e w' => e = .returned (.bool (dsilent D s)) ∧ ∃ n, w' = w.drewN n := by
  have h8 : s < 8 := by have := hw.le8; omega
  have h1 := hD.stc h8
  have h2 := hD.lac h8
  have h3 := hD.nowc
  have h4 := hD.toc
  have b1 := (hw.las s hs).1
  have b2 := (hw.las s hs).2
  have b3 := hw.now2
  by_cases h : D.st.getD s 0 = 1
  · have HF : Hid (dsilent D s = decide (D.to < D.now - D.la.getD s 0)) := by unfold dsilent; rw [h]; rfl
    rw [h] at h1
    clear h hD hw
    generalize D.la.getD s 0 = la at *
    generalize D.now = nw at *
    generalize D.to = to at *
    go_enter Try.func28, Try.ntmps28
    go_wp2
    go_quiet (fail)
    go_wp2
    go_ret
    exact ⟨by rw [HF.out]; rfl, _, rfl⟩
  · have h' : (D.st.getD s 0 == 1) = false := by simpa using h
    have HF : Hid (dsilent D s = false) := by unfold dsilent; rw [h']; rfl
    clear h
    generalize D.st.getD s 0 = st at *
    go_enter Try.func28, Try.ntmps28
    go_wp2
    go_quiet (fail)
    go_wp2
    go_ret
    exact ⟨by rw [HF.out]; rfl, _, rfl⟩

theorem det_Now (w : World) (b : Nat) (D : DD) (hD : Det w b D) :
    Calls Try.prog 17 #[.pointer (some ⟨b,0,none⟩)] w fun e w' => e = .returned (.int .i64 D.now) ∧ w = w' := by
  have hn := hD.nowc
  go_enter Try.func17, Try.ntmps17
  go_wp2
  go_ret
  exact ⟨rfl, rfl⟩
theorem det_Now_nil (w : World) :
    Calls Try.prog 17 #[.pointer none] w fun e w' => e = .returned (.int .i64 0) ∧ w = w' := by
  go_enter Try.func17, Try.ntmps17
  go_wp2
  go_ret
  exact ⟨rfl, rfl⟩

def dstate (D : DD) (s : Int) : Int := if dhas D s then D.st.getD s.toNat 0 else 0
def dlast (D : DD) (s : Int) : Int := if dhas D s then D.la.getD s.toNat 0 else 0
theorem det_State (w : World) (b : Nat) (D : DD) (s : Int) (hw : WF D) (hD : Det w b D) :
    Calls Try.prog 15 #[.pointer (some ⟨b,0,none⟩), .int .i64 s] w fun e w' => e = .returned (.int .i64 (dstate D s)) ∧ w = w' := by
  by_cases h : dhas D s = true
  · have h' : 0 ≤ s ∧ s < D.st.length := by simpa [dhas] using h
    obtain ⟨s, rfl⟩ := Int.eq_ofNat_of_zero_le h'.1
    have hs : s < D.st.length := by omega
    have h8 : s < 8 := by have := hw.le8; omega
    have h1 := hD.stc h8
    have HF : Hid (dstate D (s : Int) = D.st.getD s 0) := by unfold dstate; rw [if_pos h]; rfl
    have Hd := Lib.hid hD
    clear h' hw hD
    generalize D.st.getD s 0 = x at *
    go_enter Try.func15, Try.ntmps15
    go_wp2_with fail
    refine (det_has _ _ D _ Hd.out).mono ?_
    rintro e w' ⟨rfl, rfl⟩
    rw [h]
    go_wp2_with fail
    go_ret
    exact ⟨by rw [HF.out]; rfl, rfl⟩
  · have h : dhas D s = false := by simpa using h
    have HF : Hid (dstate D s = 0) := by unfold dstate; rw [h]; rfl
    have Hd := Lib.hid hD
    clear hw hD
    go_enter Try.func15, Try.ntmps15
    go_wp2_with fail
    refine (det_has _ _ D _ Hd.out).mono ?_
    rintro e w' ⟨rfl, rfl⟩
    rw [h]
    go_wp2_with fail
    go_ret
    exact ⟨by rw [HF.out]; rfl, rfl⟩
theorem det_State_nil (w : World) (s : Int) :
    Calls Try.prog 15 #[.pointer none, .int .i64 s] w fun e w' => e = .returned (.int .i64 0) ∧ w = w' := by
  go_enter Try.func15, Try.ntmps15
  go_wp2_with fail
  refine (det_has_nil _ _).mono ?_
  rintro e w' ⟨rfl, rfl⟩
  go_wp2_with fail
  go_ret
  exact ⟨rfl, rfl⟩
theorem det_Last (w : World) (b : Nat) (D : DD) (s : Int) (hw : WF D) (hD : Det w b D) :
    Calls Try.prog 16 #[.pointer (some ⟨b,0,none⟩), .int .i64 s] w fun e w' => e = .returned (.int .i64 (dlast D s)) ∧ w = w' := by
  by_cases h : dhas D s = true
  · have h' : 0 ≤ s ∧ s < D.st.length := by simpa [dhas] using h
    obtain ⟨s, rfl⟩ := Int.eq_ofNat_of_zero_le h'.1
    have hs : s < D.st.length := by omega
    have h8 : s < 8 := by have := hw.le8; omega
    have h1 := hD.lac h8
    have HF : Hid (dlast D (s : Int) = D.la.getD s 0) := by unfold dlast; rw [if_pos h]; rfl
    have Hd := Lib.hid hD
    clear h' hw hD
    generalize D.la.getD s 0 = x at *
    go_enter Try.func16, Try.ntmps16
    go_wp2_with fail
    refine (det_has _ _ D _ Hd.out).mono ?_
    rintro e w' ⟨rfl, rfl⟩
    rw [h]
    go_wp2_with fail
    go_ret
    exact ⟨by rw [HF.out]; rfl, rfl⟩
  · have h : dhas D s = false := by simpa using h
    have HF : Hid (dlast D s = 0) := by unfold dlast; rw [h]; rfl
    have Hd := Lib.hid hD
    clear hw hD
    go_enter Try.func16, Try.ntmps16
    go_wp2_with fail
    refine (det_has _ _ D _ Hd.out).mono ?_
    rintro e w' ⟨rfl, rfl⟩
    rw [h]
    go_wp2_with fail
    go_ret
    exact ⟨by rw [HF.out]; rfl, rfl⟩
theorem det_Last_nil (w : World) (s : Int) :
    Calls Try.prog 16 #[.pointer none, .int .i64 s] w fun e w' => e = .returned (.int .i64 0) ∧ w = w' := by
  go_enter Try.func16, Try.ntmps16
  go_wp2_with fail
  refine (det_has_nil _ _).mono ?_
  rintro e w' ⟨rfl, rfl⟩
  go_wp2_with fail
  go_ret
  exact ⟨rfl, rfl⟩

def dput (D : DD) (s : Nat) (v : Int) : DD := { D with st := D.st.set s v, la := D.la.set s D.now }
theorem det_put {w : World} {b : Nat} {D : DD} (hw : WF D) (hD : Det w b D) {s : Nat} (hs : s < D.st.length) (v : Int) :
    Det ((w.setCell ⟨b, s * 2, none⟩ (.int .i64 v)).setCell ⟨b, s * 2 + 1, none⟩ (.int .i64 D.now)).drew b (dput D s v) ∧
    Fr (Only b) w ((w.setCell ⟨b, s * 2, none⟩ (.int .i64 v)).setCell ⟨b, s * 2 + 1, none⟩ (.int .i64 D.now)).drew := by
  have h8 : s < 8 := by have := hw.le8; omega
  constructor
  · have h1 := (Blk.set (Blk.set hD (s * 2) (.int .i64 v)) (s * 2 + 1) (.int .i64 D.now)).drew
    rw [dcs_set_st D s v h8 hs, dcs_set_la { D with st := D.st.set s v } s D.now h8 (by rw [hw.len]; exact hs)] at h1
    exact h1
  · exact (((Fr.refl (Only b) w).setCell (p := ⟨b, s * 2, none⟩) (fun _ => rfl) _).setCell (p := ⟨b, s * 2 + 1, none⟩) (fun _ => rfl) _).drew
theorem wf_put {D : DD} (hw : WF D) {s : Nat} {v : Int} (hv : 1 ≤ v ∧ v ≤ 3) (hs : s < D.st.length) : WF (dput D s v) := by
  refine ⟨by simp [dput, hw.len], by simp [dput, hw.pos], by simp [dput, hw.le8], hw.to1, hw.to2, hw.now0, hw.now2, ?_, ?_⟩
  · intro i hi
    simp only [dput, List.length_set] at hi ⊢
    rw [getD_set _ _ _ _ hs]
    split
    · exact hv
    · exact hw.sts i hi
  · intro i hi
    simp only [dput, List.length_set] at hi ⊢
    rw [getD_set _ _ _ _ (by rw [hw.len]; exact hs)]
    split
    · exact ⟨hw.now0, Int.le_refl _⟩
    · exact hw.las i hi

def dheard (D : DD) (s : Int) : DD × Bool := if dhas D s && !(D.st.getD s.toNat 0 == 3) then (dput D s.toNat 1, D.st.getD s.toNat 0 == 2) else (D, false)
def dleave (D : DD) (s : Int) : DD × Bool := if dhas D s && !(D.st.getD s.toNat 0 == 3) then (dput D s.toNat 3, true) else (D, false)
def denter (D : DD) (s : Int) : DD × Bool := if dhas D s && (D.st.getD s.toNat 0 == 3) then (dput D s.toNat 1, true) else (D, false)
theorem wf_heard {D : DD} (hw : WF D) (s : Int) : WF (dheard D s).1 := by
  unfold dheard
  split
  · rename_i h
    simp only [dhas, Bool.and_eq_true, decide_eq_true_eq] at h
    exact wf_put hw (by omega) (by omega)
  · exact hw
theorem wf_leave {D : DD} (hw : WF D) (s : Int) : WF (dleave D s).1 := by
  unfold dleave
  split
  · rename_i h
    simp only [dhas, Bool.and_eq_true, decide_eq_true_eq] at h
    exact wf_put hw (by omega) (by omega)
  · exact hw
theorem wf_enter {D : DD} (hw : WF D) (s : Int) : WF (denter D s).1 := by
  unfold denter
  split
  · rename_i h
    simp only [dhas, Bool.and_eq_true, decide_eq_true_eq] at h
    exact wf_put hw (by omega) (by omega)
  · exact hw

set_option maxHeartbeats 400000 in
theorem det_Heard (w : World) (b : Nat) (D : DD) (s : Int) (hw : WF D) (hD : Det w b D) :
    Calls Try.prog 12 #[.pointer (some ⟨b,0,none⟩), .int .i64 s] w fun e w' => e = .returned (.bool (dheard D s).2) ∧ Det w' b (dheard D s).1 ∧ Fr (Only b) w w' := by
  by_cases h : dhas D s = true
  · have h' : 0 ≤ s ∧ s < D.st.length := by simpa [dhas] using h
    obtain ⟨s, rfl⟩ := Int.eq_ofNat_of_zero_le h'.1
    have hs : s < D.st.length := by omega
    have h8 : s < 8 := by have := hw.le8; omega
    have hI : (s : Int) < 8 := by omega
    have hI0 : 0 ≤ (s : Int) := by omega
    have h1 := hD.stc h8
    have h2 := hD.lac h8
    have h3 := hD.nowc
    have f1 := hD.free (s * 2)
    have f2 := hD.free (s * 2 + 1)
    by_cases h3' : (D.st.getD s 0 == 3) = true
    · have HF : Hid (dheard D (s : Int) = (D, false)) := by unfold dheard; rw [h, show (s : Int).toNat = s from rfl, h3']; rfl
      have Hd := Lib.hid hD
      have Hp := fun v => Lib.hid (det_put hw hD hs v)
      clear h' hw hD
      generalize D.st.getD s 0 = st at *
      generalize D.la.getD s 0 = la at *
      generalize D.now = nw at *
      go_enter Try.func12, Try.ntmps12
      go_wp2_with fail
      refine (det_has _ _ D _ Hd.out).mono ?_
      rintro e w' ⟨rfl, rfl⟩
      rw [h]
      go_wp2_with fail
      (go_ret; exact ⟨by rw [HF.out]; rfl, by rw [HF.out]; exact Hd.out, Fr.refl _ _⟩)
    · have h3' : (D.st.getD s 0 == 3) = false := by simpa using h3'
      have h3n : (D.st.getD s 0 != 3) = true := by simpa using h3'
      have HF : Hid (dheard D (s : Int) = (dput D s 1, D.st.getD s 0 == 2)) := by unfold dheard; rw [h, show (s : Int).toNat = s from rfl, h3']; rfl
      have Hd := Lib.hid hD
      have Hp := fun v => Lib.hid (det_put hw hD hs v)
      clear h' hw hD
      generalize D.st.getD s 0 = st at *
      generalize D.la.getD s 0 = la at *
      generalize D.now = nw at *
      go_enter Try.func12, Try.ntmps12
      go_wp2_with fail
      refine (det_has _ _ D _ Hd.out).mono ?_
      rintro e w' ⟨rfl, rfl⟩
      rw [h]
      go_wp2_with fail
      (go_region; go_wp2; go_ret; exact ⟨by rw [HF.out]; rfl, by rw [HF.out]; exact (Hp 1).out.1, (Hp 1).out.2⟩)
  · have h : dhas D s = false := by simpa using h
    have HF : Hid (dheard D s = (D, false)) := by unfold dheard; rw [h]; rfl
    have Hd := Lib.hid hD
    clear hw hD
    go_enter Try.func12, Try.ntmps12
    go_wp2_with fail
    refine (det_has _ _ D _ Hd.out).mono ?_
    rintro e w' ⟨rfl, rfl⟩
    rw [h]
    go_wp2_with fail
    go_ret
    exact ⟨by rw [HF.out]; rfl, by rw [HF.out]; exact Hd.out, Fr.refl _ _⟩
theorem det_Heard_nil (w : World) (s : Int) :
    Calls Try.prog 12 #[.pointer none, .int .i64 s] w fun e w' => e = .returned (.bool false) ∧ w = w' := by
  go_enter Try.func12, Try.ntmps12
  go_wp2_with fail
  refine (det_has_nil _ _).mono ?_
  rintro e w' ⟨rfl, rfl⟩
  go_wp2_with fail
  go_ret
  exact ⟨rfl, rfl⟩
set_option maxHeartbeats 400000 in
theorem det_Leave (w : World) (b : Nat) (D : DD) (s : Int) (hw : WF D) (hD : Det w b D) :
    Calls Try.prog 13 #[.pointer (some ⟨b,0,none⟩), .int .i64 s] w fun e w' => e = .returned (.bool (dleave D s).2) ∧ Det w' b (dleave D s).1 ∧ Fr (Only b) w w' := by
  by_cases h : dhas D s = true
  · have h' : 0 ≤ s ∧ s < D.st.length := by simpa [dhas] using h
    obtain ⟨s, rfl⟩ := Int.eq_ofNat_of_zero_le h'.1
    have hs : s < D.st.length := by omega
    have h8 : s < 8 := by have := hw.le8; omega
    have hI : (s : Int) < 8 := by omega
    have hI0 : 0 ≤ (s : Int) := by omega
    have h1 := hD.stc h8
    have h2 := hD.lac h8
    have h3 := hD.nowc
    have f1 := hD.free (s * 2)
    have f2 := hD.free (s * 2 + 1)
    by_cases h3' : (D.st.getD s 0 == 3) = true
    · have HF : Hid (dleave D (s : Int) = (D, false)) := by unfold dleave; rw [h, show (s : Int).toNat = s from rfl, h3']; rfl
      have Hd := Lib.hid hD
      have Hp := fun v => Lib.hid (det_put hw hD hs v)
      clear h' hw hD
      generalize D.st.getD s 0 = st at *
      generalize D.la.getD s 0 = la at *
      generalize D.now = nw at *
      go_enter Try.func13, Try.ntmps13
      go_wp2_with fail
      refine (det_has _ _ D _ Hd.out).mono ?_
      rintro e w' ⟨rfl, rfl⟩
      rw [h]
      go_wp2_with fail
      (go_ret; exact ⟨by rw [HF.out]; rfl, by rw [HF.out]; exact Hd.out, Fr.refl _ _⟩)
    · have h3' : (D.st.getD s 0 == 3) = false := by simpa using h3'
      have h3n : (D.st.getD s 0 != 3) = true := by simpa using h3'
      have HF : Hid (dleave D (s : Int) = (dput D s 3, true)) := by unfold dleave; rw [h, show (s : Int).toNat = s from rfl, h3']; rfl
      have Hd := Lib.hid hD
      have Hp := fun v => Lib.hid (det_put hw hD hs v)
      clear h' hw hD
      generalize D.st.getD s 0 = st at *
      generalize D.la.getD s 0 = la at *
      generalize D.now = nw at *
      go_enter Try.func13, Try.ntmps13
      go_wp2_with fail
      refine (det_has _ _ D _ Hd.out).mono ?_
      rintro e w' ⟨rfl, rfl⟩
      rw [h]
      go_wp2_with fail
      (go_region; go_wp2; go_ret; exact ⟨by rw [HF.out]; rfl, by rw [HF.out]; exact (Hp 3).out.1, (Hp 3).out.2⟩)
  · have h : dhas D s = false := by simpa using h
    have HF : Hid (dleave D s = (D, false)) := by unfold dleave; rw [h]; rfl
    have Hd := Lib.hid hD
    clear hw hD
    go_enter Try.func13, Try.ntmps13
    go_wp2_with fail
    refine (det_has _ _ D _ Hd.out).mono ?_
    rintro e w' ⟨rfl, rfl⟩
    rw [h]
    go_wp2_with fail
    go_ret
    exact ⟨by rw [HF.out]; rfl, by rw [HF.out]; exact Hd.out, Fr.refl _ _⟩
theorem det_Leave_nil (w : World) (s : Int) :
    Calls Try.prog 13 #[.pointer none, .int .i64 s] w fun e w' => e = .returned (.bool false) ∧ w = w' := by
  go_enter Try.func13, Try.ntmps13
  go_wp2_with fail
  refine (det_has_nil _ _).mono ?_
  rintro e w' ⟨rfl, rfl⟩
  go_wp2_with fail
  go_ret
  exact ⟨rfl, rfl⟩
set_option maxHeartbeats 400000 in
theorem det_Enter (w : World) (b : Nat) (D : DD) (s : Int) (hw : WF D) (hD : Det w b D) :
    Calls Try.prog 14 #[.pointer (some ⟨b,0,none⟩), .int .i64 s] w fun e w' => e = .returned (.bool (denter D s).2) ∧ Det w' b (denter D s).1 ∧ Fr (Only b) w w' := by
  by_cases h : dhas D s = true
  · have h' : 0 ≤ s ∧ s < D.st.length := by simpa [dhas] using h
    obtain ⟨s, rfl⟩ := Int.eq_ofNat_of_zero_le h'.1
    have hs : s < D.st.length := by omega
    have h8 : s < 8 := by have := hw.le8; omega
    have hI : (s : Int) < 8 := by omega
    have hI0 : 0 ≤ (s : Int) := by omega
    have h1 := hD.stc h8
    have h2 := hD.lac h8
    have h3 := hD.nowc
    have f1 := hD.free (s * 2)
    have f2 := hD.free (s * 2 + 1)
    by_cases h3' : (D.st.getD s 0 == 3) = true
    · have HF : Hid (denter D (s : Int) = (dput D s 1, true)) := by unfold denter; rw [h, show (s : Int).toNat = s from rfl, h3']; rfl
      have Hd := Lib.hid hD
      have Hp := fun v => Lib.hid (det_put hw hD hs v)
      clear h' hw hD
      generalize D.st.getD s 0 = st at *
      generalize D.la.getD s 0 = la at *
      generalize D.now = nw at *
      go_enter Try.func14, Try.ntmps14
      go_wp2_with fail
      refine (det_has _ _ D _ Hd.out).mono ?_
      rintro e w' ⟨rfl, rfl⟩
      rw [h]
      go_wp2_with fail
      (go_region; go_wp2; go_ret; exact ⟨by rw [HF.out]; rfl, by rw [HF.out]; exact (Hp 1).out.1, (Hp 1).out.2⟩)
    · have h3' : (D.st.getD s 0 == 3) = false := by simpa using h3'
      have h3n : (D.st.getD s 0 != 3) = true := by simpa using h3'
      have HF : Hid (denter D (s : Int) = (D, false)) := by unfold denter; rw [h, show (s : Int).toNat = s from rfl, h3']; rfl
      have Hd := Lib.hid hD
      have Hp := fun v => Lib.hid (det_put hw hD hs v)
      clear h' hw hD
      generalize D.st.getD s 0 = st at *
      generalize D.la.getD s 0 = la at *
      generalize D.now = nw at *
      go_enter Try.func14, Try.ntmps14
      go_wp2_with fail
      refine (det_has _ _ D _ Hd.out).mono ?_
      rintro e w' ⟨rfl, rfl⟩
      rw [h]
      go_wp2_with fail
      (go_ret; exact ⟨by rw [HF.out]; rfl, by rw [HF.out]; exact Hd.out, Fr.refl _ _⟩)
  · have h : dhas D s = false := by simpa using h
    have HF : Hid (denter D s = (D, false)) := by unfold denter; rw [h]; rfl
    have Hd := Lib.hid hD
    clear hw hD
    go_enter Try.func14, Try.ntmps14
    go_wp2_with fail
    refine (det_has _ _ D _ Hd.out).mono ?_
    rintro e w' ⟨rfl, rfl⟩
    rw [h]
    go_wp2_with fail
    go_ret
    exact ⟨by rw [HF.out]; rfl, by rw [HF.out]; exact Hd.out, Fr.refl _ _⟩
theorem det_Enter_nil (w : World) (s : Int) :
    Calls Try.prog 14 #[.pointer none, .int .i64 s] w fun e w' => e = .returned (.bool false) ∧ w = w' := by
  go_enter Try.func14, Try.ntmps14
  go_wp2_with fail
  refine (det_has_nil _ _).mono ?_
  rintro e w' ⟨rfl, rfl⟩
  go_wp2_with fail
  go_ret
  exact ⟨rfl, rfl⟩
end Go.Proofs.Ytegidffoonkpnaa
