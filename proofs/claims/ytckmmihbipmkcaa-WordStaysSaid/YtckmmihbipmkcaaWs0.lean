/- A stable sort's parts: exchanging two stretches, turning a stretch round, merging in place. -/
import Derived.Sort.LotA
import Derived.Test.YtckmmihbipmkcaaW7
namespace Go.Proofs.Ytckmmihbipmkcaa
open Go.RowKit Go.Sort Go.Lib
section
variable {α : Type} [Inhabited α]
/-- Exchange [a, a+n) and [b, b+n). -/
def swR (d : Array α) (a b : Nat) : Nat → Array α
  | 0 => d
  | n + 1 => swp (swR d a b n) (a + n) (b + n)
theorem swR_size (d : Array α) (a b : Nat) : ∀ n, (swR d a b n).size = d.size
  | 0 => rfl
  | n + 1 => by rw [swR, size_swp, swR_size d a b n]
theorem swR_get (d : Array α) {a b : Nat} : ∀ (n : Nat), a + n ≤ b → b + n ≤ d.size → ∀ p, (swR d a b n)[p]! = if a ≤ p ∧ p < a + n then d[b + (p - a)]! else if b ≤ p ∧ p < b + n then d[a + (p - b)]! else d[p]!
  | 0, _, _, p => by rw [if_neg (by omega), if_neg (by omega)]; rfl
  | n + 1, h1, h2, p => by
    have ih := swR_get d (a := a) (b := b) n (by omega) (by omega)
    have hs := swR_size d a b n
    rw [swR]
    by_cases hp1 : p = a + n
    · subst hp1
      rw [swp_left (swR d a b n) (a + n) (b + n) (by omega) (by omega), ih, if_neg (by omega), if_neg (by omega), if_pos (by omega)]
      congr 1; omega
    · by_cases hp2 : p = b + n
      · subst hp2
        rw [swp_right (swR d a b n) (a + n) (b + n) (by omega), ih, if_neg (by omega), if_neg (by omega), if_neg (by omega), if_pos (by omega)]
        congr 1; omega
      · rw [swp_other _ _ _ _ hp1 hp2, ih]
        by_cases h3 : a ≤ p ∧ p < a + n
        · rw [if_pos h3, if_pos (by omega)]
        · rw [if_neg h3, if_neg (show ¬ (a ≤ p ∧ p < a + (n + 1)) by omega)]
          by_cases h4 : b ≤ p ∧ p < b + n
          · rw [if_pos h4, if_pos (by omega)]
          · rw [if_neg h4, if_neg (by omega)]
theorem swR_perm (d : Array α) {a b x y : Nat} (hx : x ≤ a) : ∀ n, a + n ≤ b → b + n ≤ y → y ≤ d.size → PermIn x y d (swR d a b n)
  | 0, _, _, _ => permIn_refl _ _ _
  | n + 1, h1, h2, h3 => permIn_trans _ _ _ _ _ (swR_perm d hx n (by omega) (by omega) h3) (swp_permIn _ _ _ _ _ (by omega) (by omega) (by omega) (by omega) (by rw [swR_size]; exact h3))
/-- What is left to turn round: the stretches of i and j about m. -/
structure RotI (T : Nat → α) (m i j : Nat) (d : Array α) : Prop where
  le : i ≤ m
  hi : ∀ q, q < j → d[m + q]! = T (m - i + q)
  lo : ∀ q, q < i → d[m - i + q]! = T (m - i + j + q)
  out : ∀ p, p < m - i ∨ m + j ≤ p → d[p]! = T p
theorem RotI.big {T : Nat → α} {m i j : Nat} {d : Array α} (h : RotI T m i j d) (hij : j < i) (hb : m + j ≤ d.size) : RotI T m (i - j) j (swR d (m - i) m j) := by
  have hle := h.le
  have g := swR_get d (a := m - i) (b := m) j (by omega) hb
  refine ⟨by omega, fun q hq => ?_, fun q hq => ?_, fun p hp => ?_⟩
  · rw [g, if_neg (by omega), if_pos (by omega), show m - i + (m + q - m) = m - i + q by omega, h.lo q (by omega)]; congr 1; omega
  · rw [g, if_neg (by omega), if_neg (by omega), show m - (i - j) + q = m - i + (j + q) by omega, h.lo (j + q) (by omega)]; congr 1; omega
  · rw [g]
    by_cases h1 : m - i ≤ p ∧ p < m - i + j
    · rw [if_pos h1, h.hi (p - (m - i)) (by omega)]; congr 1; omega
    · rw [if_neg h1, if_neg (by omega)]; exact h.out p (by omega)
theorem RotI.small {T : Nat → α} {m i j : Nat} {d : Array α} (h : RotI T m i j d) (hij : i < j) (hb : m + j ≤ d.size) : RotI T m i (j - i) (swR d (m - i) (m + j - i) i) := by
  have hle := h.le
  have g := swR_get d (a := m - i) (b := m + j - i) i (by omega) (by omega)
  refine ⟨by omega, fun q hq => ?_, fun q hq => ?_, fun p hp => ?_⟩
  · rw [g, if_neg (by omega), if_neg (by omega), h.hi q (by omega)]
  · rw [g, if_pos (by omega), show m + j - i + (m - i + q - (m - i)) = m + (j - i + q) by omega, h.hi (j - i + q) (by omega)]; congr 1; omega
  · rw [g]
    by_cases h1 : m + j - i ≤ p ∧ p < m + j - i + i
    · rw [if_neg (by omega), if_pos h1, h.lo (p - (m + j - i)) (by omega)]; congr 1; omega
    · rw [if_neg (by omega), if_neg h1]; exact h.out p (by omega)
theorem RotI.last {T : Nat → α} {m i : Nat} {d : Array α} (h : RotI T m i i d) (hb : m + i ≤ d.size) (p : Nat) : (swR d (m - i) m i)[p]! = T p := by
  have hle := h.le
  have g := swR_get d (a := m - i) (b := m) i (by omega) hb
  rw [g]
  by_cases h1 : m - i ≤ p ∧ p < m - i + i
  · rw [if_pos h1, h.hi (p - (m - i)) (by omega)]; congr 1; omega
  · rw [if_neg h1]
    by_cases h2 : m ≤ p ∧ p < m + i
    · rw [if_pos h2, h.lo (p - m) (by omega)]; congr 1; omega
    · rw [if_neg h2]; exact h.out p (by omega)
/-- [a, m) behind [m, b). -/
def rotT (d : Array α) (a m b p : Nat) : α := if a ≤ p ∧ p < a + (b - m) then d[m + (p - a)]! else if a + (b - m) ≤ p ∧ p < b then d[a + (p - (a + (b - m)))]! else d[p]!
theorem RotI.start (d : Array α) {a m b : Nat} (h1 : a ≤ m) (h2 : m ≤ b) : RotI (rotT d a m b) m (m - a) (b - m) d := by
  refine ⟨by omega, fun q hq => ?_, fun q hq => ?_, fun p hp => ?_⟩
  · unfold rotT; rw [if_pos (by omega)]; congr 1; omega
  · unfold rotT; rw [if_neg (by omega), if_pos (by omega)]; congr 1; omega
  · unfold rotT; rw [if_neg (by omega), if_neg (by omega)]
/-- Two sorted stretches, the one no later than the other. -/
theorem sorted_join {lt : α → α → Bool} {d : Array α} {a m b : Nat} (h1 : SortedIn lt a m d) (h2 : SortedIn lt m b d) (h : ∀ i j, a ≤ i → i < m → m ≤ j → j < b → lt d[j]! d[i]! = false) : SortedIn lt a b d := by
  intro i j hi hij hj
  by_cases hjm : j < m
  · exact h1 i j hi hij hjm
  · by_cases him : i < m
    · exact h i j hi him (by omega) hj
    · exact h2 i j (by omega) hij hj
theorem sorted_frame {lt : α → α → Bool} {d d' : Array α} {a b x y : Nat} (h : SortedIn lt x y d) (hp : PermIn a b d d') (ho : y ≤ a ∨ b ≤ x) : SortedIn lt x y d' := by
  intro i j hi hij hj
  rw [hp.2.1 i (by omega), hp.2.1 j (by omega)]
  exact h i j hi hij hj
/-- What one side's elements are to the other's stays so, whatever each is permuted to. -/
theorem cross_perm {lt : α → α → Bool} {d d1 d2 : Array α} {a m b : Nat} (hm : m ≤ d.size) (hb : b ≤ d.size) (h1 : PermIn a m d d1) (h2 : PermIn m b d1 d2) (h : ∀ i j, a ≤ i → i < m → m ≤ j → j < b → lt d[j]! d[i]! = false) :
    ∀ i j, a ≤ i → i < m → m ≤ j → j < b → lt d2[j]! d2[i]! = false := by
  have s1 := h1.1
  have A : ∀ i j, a ≤ i → i < m → m ≤ j → j < b → lt d[j]! d1[i]! = false := fun i j hi him hj hjb => permIn_all d d1 a m (fun x => lt d[j]! x = false) hm h1 (fun i' hi' him' => h i' j hi' him' hj hjb) i hi him
  have B : ∀ i j, a ≤ i → i < m → m ≤ j → j < b → lt d1[j]! d1[i]! = false := fun i j hi him hj hjb => by rw [h1.2.1 j (by omega)]; exact A i j hi him hj hjb
  intro i j hi him hj hjb
  rw [h2.2.1 i (by omega)]
  exact permIn_all d1 d2 m b (fun x => lt x d1[i]! = false) (by omega) h2 (fun j' hj' hjb' => B i j' hi him hj' hjb') j hj hjb
/-- Behind the turn: [a, mid) and [mid, b) are each two sorted stretches, and nothing of the second is less than anything of the first. -/
theorem sym_parts {lt : α → α → Bool} (hS : SWO lt) {d : Array α} {a m b mid s en : Nat} (has : a ≤ s) (hsm : s ≤ m) (hsn : s ≤ mid) (hen : m ≤ en) (heb : en ≤ b) (hmid : s + (en - m) = mid) (hmb : m ≤ b)
    (h1 : SortedIn lt a m d) (h2 : SortedIn lt m b d) (hlo : a < s → en < b → lt d[en]! d[s - 1]! = false) (hhi : s < m → m < en → lt d[en - 1]! d[s]! = true) :
    SortedIn lt a s (d) ∧ (∀ i j, a ≤ i → i < mid → mid ≤ j → j < b → lt (rotT d s m en j) (rotT d s m en i) = false) := by
  have le : ∀ i j, a ≤ i → i ≤ j → j < m → lt d[j]! d[i]! = false := fun i j hi hij hj => by
    rcases Nat.lt_or_ge i j with h | h
    · exact h1 i j hi h hj
    · obtain rfl : i = j := by omega
      exact hS.irrefl _
  have le2 : ∀ i j, m ≤ i → i ≤ j → j < b → lt d[j]! d[i]! = false := fun i j hi hij hj => by
    rcases Nat.lt_or_ge i j with h | h
    · exact h2 i j hi h hj
    · obtain rfl : i = j := by omega
      exact hS.irrefl _
  refine ⟨fun i j hi hij hj => h1 i j hi hij (by omega), fun i j hi him hj hjb => ?_⟩
  have ei : rotT d s m en i = if s ≤ i then d[m + (i - s)]! else d[i]! := by
    unfold rotT
    by_cases h : s ≤ i
    · rw [if_pos (by omega), if_pos h]
    · rw [if_neg (by omega), if_neg (by omega), if_neg h]
  have ej : rotT d s m en j = if j < en then d[s + (j - mid)]! else d[j]! := by
    unfold rotT
    by_cases h : j < en
    · rw [if_neg (by omega), if_pos (by omega), if_pos h]; congr 1; omega
    · rw [if_neg (by omega), if_neg (by omega), if_neg h]
  rw [ei, ej]
  by_cases hi1 : s ≤ i
  · rw [if_pos hi1]
    by_cases hj1 : j < en
    · rw [if_pos hj1]
      -- d[x], x in [m, en): x ≤ en-1 < d[s] ≤ d[y]
      have t1 := hhi (by omega) (by omega)
      have t2 := hS.asymmA t1
      exact hS.ntrans _ _ _ (le s (s + (j - mid)) has (by omega) (by omega)) (hS.ntrans _ _ _ t2 (le2 (m + (i - s)) (en - 1) (by omega) (by omega) (by omega)))
    · rw [if_neg hj1]
      exact le2 _ _ (by omega) (by omega) hjb
  · rw [if_neg hi1]
    by_cases hj1 : j < en
    · rw [if_pos hj1]
      exact le _ _ hi (by omega) (by omega)
    · rw [if_neg hj1]
      have t1 := hlo (by omega) (by omega)
      exact hS.ntrans _ _ _ (le2 en j hen (by omega) hjb) (hS.ntrans _ _ _ t1 (le i (s - 1) hi (by omega) (by omega)))
end
end Go.Proofs.Ytckmmihbipmkcaa
