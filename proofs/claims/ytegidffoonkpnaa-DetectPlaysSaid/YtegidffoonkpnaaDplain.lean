/- Plain laws of the detector: what a tick leaves, what stays true whatever is done. No program here. -/
import Derived.Test.YtegidffoonkpnaaDlaw
namespace Go.Proofs.Ytegidffoonkpnaa
open Go.RowKit

theorem dupd_rest (D : DD) (k : Nat) : (dupd D k).la = D.la ∧ (dupd D k).to = D.to ∧ (dupd D k).now = D.now := by
  induction k with
  | zero => exact ⟨rfl, rfl, rfl⟩
  | succ k ih => simp only [dupd]; split <;> exact ih
theorem dupd_st (D : DD) (k : Nat) (hk : k ≤ D.st.length) (s : Nat) : (dupd D k).st.getD s 0 = if s < k ∧ dsilent D s = true then 2 else D.st.getD s 0 := by
  induction k with
  | zero => simp [dupd]
  | succ k ih =>
    have ih := ih (by omega)
    have hr := dupd_rest D k
    have hl := dupd_len D k
    have hsame : dsilent (dupd D k) k = dsilent D k := by
      unfold dsilent
      rw [hr.1, hr.2.1, hr.2.2]
      have : (dupd D k).st.getD k 0 = D.st.getD k 0 := by
        by_cases h : s = k
        · subst h; rw [ih, if_neg (by omega)]
        · clear ih
          have aux : ∀ j, j ≤ D.st.length → ∀ t, j ≤ t → (dupd D j).st.getD t 0 = D.st.getD t 0 := by
            intro j
            induction j with
            | zero => intros; rfl
            | succ j ihj =>
              intro hj t ht
              simp only [dupd]
              split
              · rw [getD_set _ _ _ _ (by rw [dupd_len]; omega), if_neg (by omega)]; exact ihj (by omega) t (by omega)
              · exact ihj (by omega) t (by omega)
          exact aux k (by omega) k (Nat.le_refl _)
      rw [this]
    simp only [dupd]
    rw [hsame]
    by_cases hs : dsilent D k = true
    · rw [if_pos hs]
      simp only
      rw [getD_set _ _ _ _ (by omega), ih]
      by_cases h : k = s
      · subst h; rw [if_pos rfl, if_pos ⟨by omega, hs⟩]
      · rw [if_neg h]
        by_cases h2 : s < k ∧ dsilent D s = true
        · rw [if_pos h2, if_pos ⟨by omega, h2.2⟩]
        · rw [if_neg h2, if_neg (fun h3 => h2 ⟨by omega, h3.2⟩)]
    · rw [if_neg hs, ih]
      by_cases h2 : s < k ∧ dsilent D s = true
      · rw [if_pos h2, if_pos ⟨by omega, h2.2⟩]
      · rw [if_neg h2, if_neg (fun h3 => h2 ⟨by rcases Nat.lt_or_ge s k with h | h; exact h; exact absurd (by rw [show k = s by omega]; exact h3.2) hs, h3.2⟩)]
theorem dsilent_upd (D : DD) (k : Nat) (hk : k ≤ D.st.length) : dsilent (dupd D k) k = dsilent D k := by
  have hr := dupd_rest D k
  unfold dsilent
  rw [hr.1, hr.2.1, hr.2.2, dupd_st D k hk k, if_neg (by omega)]
theorem dfound_eq (D : DD) (k : Nat) (hk : k ≤ D.st.length) : dfound D k = ((List.range k).filter (dsilent D)).map (fun (i : Nat) => (i : Int)) := by
  induction k with
  | zero => rfl
  | succ k ih =>
    simp only [dfound]
    rw [dsilent_upd D k (by omega), ih (by omega), List.range_succ, List.filter_append, List.map_append]
    by_cases hs : dsilent D k = true
    · rw [if_pos hs]; simp [hs]
    · rw [if_neg hs]; simp [hs]

theorem dlate_rest (D : DD) (n : Int) : (dlate D n).st = D.st ∧ (dlate D n).la = D.la ∧ (dlate D n).to = D.to := ⟨rfl, rfl, rfl⟩
theorem dtick_st (D : DD) (n : Int) (s : Nat) (hs : s < D.st.length) : (dtick D n).1.st.getD s 0 = if dsilent (dlate D n) s = true then 2 else D.st.getD s 0 := by
  unfold dtick
  simp only
  rw [dupd_st (dlate D n) D.st.length (Nat.le_refl _) s]
  by_cases h : dsilent (dlate D n) s = true
  · rw [if_pos ⟨hs, h⟩, if_pos h]
  · rw [if_neg (fun h2 => h h2.2), if_neg h]; rfl
theorem dtick_rest (D : DD) (n : Int) : (dtick D n).1.la = D.la ∧ (dtick D n).1.to = D.to ∧ (dtick D n).1.now = (sadd D.now (max n 0)).1 ∧ (dtick D n).1.st.length = D.st.length := by
  have h := dupd_rest (dlate D n) D.st.length
  exact ⟨h.1, h.2.1, h.2.2, by unfold dtick; simp only; rw [dupd_len]; rfl⟩

/-- Whoever is suspected was heard longer ago than the timeout. -/
def SJ (D : DD) : Prop := ∀ s, s < D.st.length → D.st.getD s 0 = 2 → D.to < D.now - D.la.getD s 0
/-- Whoever is active was heard within the timeout. -/
def AK (D : DD) : Prop := ∀ s, s < D.st.length → D.st.getD s 0 = 1 → D.now - D.la.getD s 0 ≤ D.to

theorem sj_new (n : Nat) (to : Int) : SJ (dnew n to) := by
  intro s hs h
  simp [dnew] at hs
  simp [dnew, hs] at h
theorem sj_tick {D : DD} (hw : WF D) (h : SJ D) (n : Int) : SJ (dtick D n).1 := by
  intro s hs h2
  obtain ⟨h3, h4, h5, h6⟩ := dtick_rest D n
  rw [h6] at hs
  rw [dtick_st D n s hs] at h2
  rw [h3, h4, h5]
  have up := sadd_up (b := max n 0) hw.now0 hw.now2 (by omega)
  by_cases hq : dsilent (dlate D n) s = true
  · unfold dsilent dlate at hq
    simp only [Bool.and_eq_true, decide_eq_true_eq] at hq
    exact hq.2
  · rw [if_neg hq] at h2
    have := h s hs h2
    omega
theorem ak_tick (D : DD) (n : Int) : AK (dtick D n).1 := by
  intro s hs h2
  obtain ⟨h3, h4, h5, h6⟩ := dtick_rest D n
  rw [h6] at hs
  rw [dtick_st D n s hs] at h2
  rw [h3, h4, h5]
  by_cases hq : dsilent (dlate D n) s = true
  · rw [if_pos hq] at h2; omega
  · rw [if_neg hq] at h2
    unfold dsilent dlate at hq
    simp only [Bool.and_eq_true, decide_eq_true_eq, not_and] at hq
    have := hq (by rw [h2]; rfl)
    omega
theorem sj_put {D : DD} (h : SJ D) {s : Nat} {v : Int} (hv : v ≠ 2) (hs : s < D.st.length) (hl : D.la.length = D.st.length) : SJ (dput D s v) := by
  intro t ht h2
  simp only [dput, List.length_set] at ht h2 ⊢
  rw [getD_set _ _ _ _ hs] at h2
  rw [getD_set _ _ _ _ (by omega)]
  by_cases he : s = t
  · rw [if_pos he] at h2; exact absurd h2 hv
  · rw [if_neg he] at h2 ⊢; exact h t ht h2
theorem sj_play {D : DD} (hw : WF D) (h : SJ D) (a s n : Int) : SJ (dplay D a s n).1 := by
  unfold dplay
  split
  · exact sj_tick hw h n
  · split
    · unfold dheard; split
      · rename_i h3; simp only [dhas, Bool.and_eq_true, decide_eq_true_eq] at h3; exact sj_put h (by omega) (by omega) hw.len
      · exact h
    · split
      · unfold dleave; split
        · rename_i h3; simp only [dhas, Bool.and_eq_true, decide_eq_true_eq] at h3; exact sj_put h (by omega) (by omega) hw.len
        · exact h
      · unfold denter; split
        · rename_i h3; simp only [dhas, Bool.and_eq_true, decide_eq_true_eq] at h3; exact sj_put h (by omega) (by omega) hw.len
        · exact h
theorem play_len (D : DD) (a s n : Int) : (dplay D a s n).1.st.length = D.st.length ∧ (dplay D a s n).1.to = D.to := by
  unfold dplay dheard dleave denter
  split
  · exact ⟨(dtick_rest D n).2.2.2, (dtick_rest D n).2.1⟩
  · split
    · split <;> simp [dput]
    · split <;> (split <;> simp [dput])

/-- Behind a tick no more time is told of nobody. -/
theorem sadd_zero {a : Int} (h : I64 a) : sadd a 0 = (a, false) := by
  unfold I64 at h; unfold sadd; rw [if_neg (by omega), if_neg (by omega)]; simp
theorem tick_again {D : DD} (hw : WF D) (hk : AK D) : (dtick D 0).2.1 = [] := by
  unfold dtick
  simp only
  rw [dfound_eq (dlate D 0) D.st.length (Nat.le_refl _)]
  simp only [List.map_eq_nil_iff, List.filter_eq_nil_iff, List.mem_range]
  intro s hs h
  have hz := sadd_zero (a := D.now) ⟨by have := hw.now0; omega, hw.now2⟩
  unfold dsilent dlate at h
  simp only [Bool.and_eq_true, decide_eq_true_eq, beq_iff_eq] at h
  rw [show max (0 : Int) 0 = 0 from rfl, hz] at h
  have := hk s hs h.1
  omega

/-! ### Since when no source is active -/
theorem ssum3 {a b : Int} (ha : 0 ≤ a) (hb : 0 ≤ b) (h : a + b + 1 ≤ 9223372036854775807) : (ssum [a, b, 1]).1 = a + b + 1 := by
  have e1 : sadd 0 a = (a, false) := by unfold sadd; rw [if_neg (by omega), if_neg (by omega)]; simp
  have e2 : sadd a b = (a + b, false) := by unfold sadd; rw [if_neg (by omega), if_neg (by omega)]
  have e3 : sadd (a + b) 1 = (a + b + 1, false) := by unfold sadd; rw [if_neg (by omega), if_neg (by omega)]
  simp [ssum, sstep, e1, e2, e3]
theorem dsi_in {D : DD} (hw : WF D) (h : SJ D) {s : Nat} (hs : s < D.st.length) (hn : D.st.getD s 0 ≠ 1) : D.la.getD s 0 ≤ dsi D s ∧ dsi D s ≤ D.now := by
  have h1 := hw.las s hs
  have h2 := hw.sts s hs
  unfold dsi
  by_cases h3 : D.st.getD s 0 = 3
  · rw [if_pos h3]; exact ⟨Int.le_refl _, h1.2⟩
  · rw [if_neg h3]
    have h4 := h s hs (by omega)
    have h5 := hw.to1
    have h6 := hw.now2
    rw [ssum3 h1.1 (by omega) (by omega)]
    omega
def dlasts (D : DD) : Nat → Int
  | 0 => 0
  | k + 1 => max (dlasts D k) (D.la.getD k 0)
theorem dsince_in {D : DD} (hw : WF D) (h : SJ D) (hn : ∀ s, s < D.st.length → D.st.getD s 0 ≠ 1) (k : Nat) (hk : k ≤ D.st.length) : dlasts D k ≤ dsince D k ∧ dsince D k ≤ D.now ∧ 0 ≤ dsince D k := by
  induction k with
  | zero => exact ⟨Int.le_refl _, hw.now0, Int.le_refl _⟩
  | succ k ih =>
    have ih := ih (by omega)
    have := dsi_in hw h (s := k) (by omega) (hn k (by omega))
    simp only [dlasts, dsince]
    omega
end Go.Proofs.Ytegidffoonkpnaa
