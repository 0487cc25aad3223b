/- Merging one element into a sorted stretch. -/
import Derived.Test.YtckmmihbipmkcaaWs2
namespace Go.Proofs.Ytckmmihbipmkcaa
open Go.RowKit Go.Sort Go.Lib
section
variable {α : Type} [Inhabited α]
/-- The element at a goes n places up. -/
def upS (d : Array α) (a : Nat) : Nat → Array α
  | 0 => d
  | n + 1 => swp (upS d a n) (a + n) (a + n + 1)
theorem upS_size (d : Array α) (a : Nat) : ∀ n, (upS d a n).size = d.size
  | 0 => rfl
  | n + 1 => by rw [upS, size_swp, upS_size d a n]
theorem upS_get (d : Array α) {a : Nat} : ∀ (n : Nat), a + n < d.size → ∀ p, (upS d a n)[p]! = if a ≤ p ∧ p < a + n then d[p + 1]! else if p = a + n then d[a]! else d[p]!
  | 0, _, p => by
    rw [if_neg (by omega)]
    by_cases h : p = a + 0
    · rw [if_pos h]; simp at h; rw [h]; rfl
    · rw [if_neg h]; rfl
  | n + 1, h1, p => by
    have ih := upS_get d (a := a) n (by omega)
    have hs := upS_size d a n
    rw [upS]
    by_cases hp1 : p = a + n
    · subst hp1
      rw [swp_left (upS d a n) (a + n) (a + n + 1) (by omega) (by omega), ih, if_neg (by omega), if_neg (by omega), if_pos (by omega)]
    · by_cases hp2 : p = a + n + 1
      · subst hp2
        rw [swp_right (upS d a n) (a + n) (a + n + 1) (by omega), ih, if_neg (by omega), if_pos rfl, if_neg (by omega), if_pos (by omega)]
      · rw [swp_other _ _ _ _ hp1 hp2, ih]
        by_cases h3 : a ≤ p ∧ p < a + n
        · rw [if_pos h3, if_pos (by omega)]
        · rw [if_neg h3, if_neg hp1, if_neg (by omega), if_neg (by omega)]
theorem upS_perm (d : Array α) {a y : Nat} : ∀ n, a + n < y → y ≤ d.size → PermIn a y d (upS d a n)
  | 0, _, _ => permIn_refl _ _ _
  | n + 1, h1, h2 => permIn_trans _ _ _ _ _ (upS_perm d n (by omega) h2) (swp_permIn _ _ _ _ _ (by omega) (by omega) (by omega) (by omega) (by rw [upS_size]; exact h2))
/-- The element at m goes n places down. -/
def downS (d : Array α) (m : Nat) : Nat → Array α
  | 0 => d
  | n + 1 => swp (downS d m n) (m - n) (m - n - 1)
theorem downS_size (d : Array α) (m : Nat) : ∀ n, (downS d m n).size = d.size
  | 0 => rfl
  | n + 1 => by rw [downS, size_swp, downS_size d m n]
theorem downS_get (d : Array α) {m : Nat} (hm : m < d.size) : ∀ (n : Nat), n ≤ m → ∀ p, (downS d m n)[p]! = if m - n < p ∧ p ≤ m then d[p - 1]! else if p = m - n then d[m]! else d[p]!
  | 0, _, p => by
    rw [if_neg (by omega)]
    by_cases h : p = m - 0
    · rw [if_pos h]; simp at h; rw [h]; rfl
    · rw [if_neg h]; rfl
  | n + 1, h1, p => by
    have ih := downS_get d hm n (by omega)
    have hs := downS_size d m n
    rw [downS]
    by_cases hp1 : p = m - n
    · subst hp1
      rw [swp_left (downS d m n) (m - n) (m - n - 1) (by omega) (by omega), ih, if_neg (by omega), if_neg (by omega), if_pos (by omega)]
    · by_cases hp2 : p = m - n - 1
      · subst hp2
        rw [swp_right (downS d m n) (m - n) (m - n - 1) (by omega), ih, if_neg (by omega), if_pos rfl, if_neg (by omega), if_pos (by omega)]
      · rw [swp_other _ _ _ _ hp1 hp2, ih]
        by_cases h3 : m - n < p ∧ p ≤ m
        · rw [if_pos h3, if_pos (by omega)]
        · rw [if_neg h3, if_neg hp1, if_neg (by omega), if_neg (by omega)]
theorem downS_perm (d : Array α) {m x y : Nat} (hm : m < y) (hy : y ≤ d.size) : ∀ n, x + n ≤ m → PermIn x y d (downS d m n)
  | 0, _ => permIn_refl _ _ _
  | n + 1, h1 => permIn_trans _ _ _ _ _ (downS_perm d hm hy n (by omega)) (swp_permIn _ _ _ _ _ (by omega) (by omega) (by omega) (by omega) (by rw [downS_size]; exact hy))
variable {lt : α → α → Bool}
/-- How far the search in the second stretch is: below i all are less than x, from j on none. -/
structure SrU (lt : α → α → Bool) (d : Array α) (x : α) (m b i j : Nat) : Prop where
  lo : ∀ h, m ≤ h → h < i → lt d[h]! x = true
  hi : ∀ h, j ≤ h → h < b → lt d[h]! x = false
theorem SrU.yes (hS : SWO lt) {d : Array α} {x : α} {m b i j h : Nat} (hs : SortedIn lt m b d) (r : SrU lt d x m b i j) (h2 : h < b) (hx : lt d[h]! x = true) : SrU lt d x m b (h + 1) j := by
  refine ⟨fun h' h1 h3 => ?_, r.hi⟩
  rcases Nat.lt_or_ge h' h with h4 | h4
  · cases hc : lt d[h']! x
    · have := hS.ntrans _ _ _ (hs h' h h1 h4 h2) hc
      rw [hx] at this; cases this
    · rfl
  · obtain rfl : h' = h := by omega
    exact hx
theorem SrU.no (hS : SWO lt) {d : Array α} {x : α} {m b i j h : Nat} (hs : SortedIn lt m b d) (r : SrU lt d x m b i j) (h1 : m ≤ h) (hx : lt d[h]! x = false) : SrU lt d x m b i h := by
  refine ⟨r.lo, fun h' h3 h4 => ?_⟩
  rcases Nat.lt_or_ge h h' with h5 | h5
  · exact hS.ntrans _ _ _ (hs h h' h1 h5 h4) hx
  · obtain rfl : h' = h := by omega
    exact hx
theorem SrU.done (hS : SWO lt) {d : Array α} {a b i : Nat} (hs : SortedIn lt (a + 1) b d) (r : SrU lt d d[a]! (a + 1) b i i) (hi : a + 1 ≤ i) (hib : i ≤ b) (hb : b ≤ d.size) : SortedIn lt a b (upS d a (i - 1 - a)) := by
  intro p q hp hpq hq
  have g := upS_get d (a := a) (i - 1 - a) (by omega)
  rw [g, g]
  by_cases hq1 : q < a + (i - 1 - a)
  · rw [if_pos (by omega), if_pos (by omega)]
    exact hs (p + 1) (q + 1) (by omega) (by omega) (by omega)
  · rw [if_neg (show ¬ (a ≤ q ∧ q < a + (i - 1 - a)) by omega)]
    by_cases hq2 : q = a + (i - 1 - a)
    · rw [if_pos hq2, if_pos (by omega)]
      exact hS.asymmA (r.lo (p + 1) (by omega) (by omega))
    · rw [if_neg hq2]
      by_cases hp1 : p < a + (i - 1 - a)
      · rw [if_pos (by omega)]
        exact hs (p + 1) q (by omega) (by omega) (by omega)
      · rw [if_neg (by omega)]
        by_cases hp2 : p = a + (i - 1 - a)
        · rw [if_pos hp2]; exact r.hi q (by omega) hq
        · rw [if_neg hp2]; exact hs p q (by omega) hpq hq
/-- How far the search in the first stretch is: x is less than none below i, than all from j on. -/
structure SrD (lt : α → α → Bool) (d : Array α) (x : α) (a m i j : Nat) : Prop where
  lo : ∀ h, a ≤ h → h < i → lt x d[h]! = false
  hi : ∀ h, j ≤ h → h < m → lt x d[h]! = true
theorem SrD.no (hS : SWO lt) {d : Array α} {x : α} {a m i j h : Nat} (hs : SortedIn lt a m d) (r : SrD lt d x a m i j) (h2 : h < m) (hx : lt x d[h]! = false) : SrD lt d x a m (h + 1) j := by
  refine ⟨fun h' h1 h3 => ?_, r.hi⟩
  rcases Nat.lt_or_ge h' h with h4 | h4
  · exact hS.ntrans _ _ _ hx (hs h' h h1 h4 h2)
  · obtain rfl : h' = h := by omega
    exact hx
theorem SrD.yes (hS : SWO lt) {d : Array α} {x : α} {a m i j h : Nat} (hs : SortedIn lt a m d) (r : SrD lt d x a m i j) (h1 : a ≤ h) (hx : lt x d[h]! = true) : SrD lt d x a m i h := by
  refine ⟨r.lo, fun h' h3 h4 => ?_⟩
  rcases Nat.lt_or_ge h h' with h5 | h5
  · cases hc : lt x d[h']!
    · have := hS.ntrans _ _ _ hc (hs h h' h1 h5 h4)
      rw [hx] at this; cases this
    · rfl
  · obtain rfl : h' = h := by omega
    exact hx
theorem SrD.done (hS : SWO lt) {d : Array α} {a m i : Nat} (hs : SortedIn lt a m d) (r : SrD lt d d[m]! a m i i) (hi : a ≤ i) (him : i ≤ m) (hb : m < d.size) : SortedIn lt a (m + 1) (downS d m (m - i)) := by
  intro p q hp hpq hq
  have g := downS_get d hb (m - i) (by omega)
  have e : m - (m - i) = i := by omega
  rw [e] at g
  rw [g, g]
  by_cases hp1 : i < p
  · rw [if_pos (by omega), if_pos (by omega)]
    exact hs (p - 1) (q - 1) (by omega) (by omega) (by omega)
  · rw [if_neg (show ¬ (i < p ∧ p ≤ m) by omega)]
    by_cases hp2 : p = i
    · rw [if_pos hp2, if_pos (by omega)]
      exact hS.asymmA (r.hi (q - 1) (by omega) (by omega))
    · rw [if_neg hp2]
      by_cases hq1 : i < q
      · rw [if_pos (by omega)]
        exact hs p (q - 1) hp (by omega) (by omega)
      · rw [if_neg (by omega)]
        by_cases hq2 : q = i
        · rw [if_pos hq2]; exact r.lo p hp (by omega)
        · rw [if_neg hq2]; exact hs p q hp hpq (by omega)
end
end Go.Proofs.Ytckmmihbipmkcaa
