/- Propositions in order, each once: the one strictly ascending list of the same members. -/
import Derived.Test.YtckmmihbipmkcaaLof5
namespace Go.Proofs.Ytckmmihbipmkcaa
open Go.RowKit Go.Sort Go.Lib

def Asc (l : List PP) : Prop := l.Pairwise plt

theorem asc_unique : ∀ {a b : List PP}, Asc a → Asc b → (∀ x, x ∈ a ↔ x ∈ b) → a = b
  | [], [], _, _, _ => rfl
  | [], y :: _, _, _, h => absurd ((h y).2 (by simp)) (by simp)
  | x :: _, [], _, _, h => absurd ((h x).1 (by simp)) (by simp)
  | x :: a, y :: b, ha, hb, h => by
    have ha' := List.pairwise_cons.1 ha
    have hb' := List.pairwise_cons.1 hb
    have hxy : x = y := by
      rcases List.mem_cons.1 ((h x).1 (by simp)) with e | e
      · exact e
      · rcases List.mem_cons.1 ((h y).2 (by simp)) with e2 | e2
        · exact e2.symm
        · exact absurd (hb'.1 x e) (plt_asymm (ha'.1 y e2))
    subst hxy
    congr 1
    refine asc_unique ha'.2 hb'.2 fun z => ?_
    have hz := h z
    simp only [List.mem_cons] at hz
    constructor
    · intro hm
      rcases hz.1 (.inr hm) with e | e
      · subst e; exact absurd (ha'.1 z hm) (plt_irrefl z)
      · exact e
    · intro hm
      rcases hz.2 (.inr hm) with e | e
      · subst e; exact absurd (hb'.1 z hm) (plt_irrefl z)
      · exact e

/-- Neighbours that are one, cut to one: as a recursion. -/
def ddr : List PP → List PP
  | [] => []
  | [x] => [x]
  | x :: y :: r => if x = y then ddr (y :: r) else x :: ddr (y :: r)

theorem msort_mem (l : List PP) (x : PP) : x ∈ msort l ↔ x ∈ l := List.mem_mergeSort
theorem msort_sorted (l : List PP) : (msort l).Pairwise fun x y => ¬ plt y x := by
  have := List.pairwise_mergeSort (le := fun x y => !(ltOf pord) y x) (fun a b c h1 h2 => by
    simp only [Bool.not_eq_true', ltOf_pord_f] at *
    intro h
    rcases plt_tri a b with h3 | h3 | h3
    · exact h2 (plt_trans h h3)
    · subst h3; exact h2 h
    · exact h1 h3) (fun a b => by
    simp only [Bool.or_eq_true, Bool.not_eq_true', ltOf_pord_f]
    rcases plt_tri a b with h | h | h
    · exact .inl (plt_asymm h)
    · subst h; exact .inl (plt_irrefl _)
    · exact .inr (plt_asymm h)) l
  refine this.imp fun h => ?_
  simpa only [Bool.not_eq_true', ltOf_pord_f] using h

theorem dd_mem_at (l : List PP) (x : PP) : x ∈ dd l ↔ ∃ j, j < l.length ∧ keeps l.toArray j = true ∧ l.toArray[j]! = x := by
  unfold dd compactUpTo
  simp only [List.mem_map, List.mem_filter, List.mem_range]
  constructor
  · rintro ⟨j, ⟨h1, h2⟩, h3⟩; exact ⟨j, h1, h2, h3⟩
  · rintro ⟨j, h1, h2, h3⟩; exact ⟨j, ⟨h1, h2⟩, h3⟩
theorem arr_get (l : List PP) (j : Nat) (h : j < l.length) : l.toArray[j]! = l[j] := by
  rw [getElem!_pos l.toArray j (by simpa using h)]; rfl
theorem dd_mem (l : List PP) (x : PP) : x ∈ dd l ↔ x ∈ l := by
  rw [dd_mem_at]
  constructor
  · rintro ⟨j, h1, _, rfl⟩
    rw [arr_get l j h1]; exact List.getElem_mem h1
  · intro h
    obtain ⟨i, hi, rfl⟩ := List.getElem_of_mem h
    induction i with
    | zero => exact ⟨0, hi, by simp [keeps], arr_get l 0 hi⟩
    | succ i ih =>
      by_cases he : l[i + 1] = l[i]
      · obtain ⟨j, h1, h2, h3⟩ := ih (by omega) (List.getElem_mem _)
        exact ⟨j, h1, h2, h3.trans he.symm⟩
      · refine ⟨i + 1, hi, ?_, arr_get l (i + 1) hi⟩
        rw [keeps_eq l i hi, Bool.not_eq_true', ← Bool.not_eq_true, ppeq_iff]
        exact he
theorem dd_asc {l : List PP} (h : l.Pairwise fun x y => ¬ plt y x) : Asc (dd l) := by
  unfold Asc dd compactUpTo
  rw [List.pairwise_map]
  refine (List.Pairwise.filter _ (List.pairwise_lt_range (n := l.length))).imp_of_mem ?_
  intro i j hi hj hlt
  simp only [List.mem_filter, List.mem_range] at hi hj
  obtain ⟨j, rfl⟩ : ∃ j', j = j' + 1 := ⟨j - 1, by omega⟩
  rw [arr_get l i hi.1, arr_get l (j + 1) hj.1]
  have hk := hj.2
  rw [keeps_eq l j hj.1, Bool.not_eq_true', ← Bool.not_eq_true, ppeq_iff] at hk
  have hs : ∀ a b (ha : a < l.length) (hb : b < l.length), a < b → ¬ plt l[b] l[a] := fun a b ha hb hab => List.pairwise_iff_getElem.1 h a b ha hb hab
  have h1 : plt l[j] l[j + 1] := by
    rcases plt_tri l[j] l[j + 1] with h3 | h3 | h3
    · exact h3
    · exact absurd h3.symm hk
    · exact absurd h3 (hs j (j + 1) (by omega) hj.1 (by omega))
  rcases Nat.lt_or_ge i j with hij | hij
  · rcases plt_tri l[i] l[j] with h3 | h3 | h3
    · exact plt_trans h3 h1
    · rw [h3]; exact h1
    · exact absurd h3 (hs i j hi.1 (by omega) hij)
  · have : i = j := by omega
    subst this; exact h1
theorem lof_asc (l : List PP) : Asc (lof l) := dd_asc (msort_sorted l)
theorem lof_mem (l : List PP) (x : PP) : x ∈ lof l ↔ x ∈ l := (dd_mem _ x).trans (msort_mem l x)
theorem lof_eq {l m : List PP} (hm : Asc m) (h : ∀ x, x ∈ m ↔ x ∈ l) : lof l = m := asc_unique (lof_asc l) hm fun x => (lof_mem l x).trans (h x).symm
end Go.Proofs.Ytckmmihbipmkcaa
