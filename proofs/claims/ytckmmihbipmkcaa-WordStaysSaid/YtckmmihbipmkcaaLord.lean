/- The order of propositions, in plain words: a strict total order. -/
import Derived.Test.YtckmmihbipmkcaaLsort
namespace Go.Proofs.Ytckmmihbipmkcaa
open Go.RowKit Go.Sort

theorem cmpB_neg : ∀ a b : List UInt8, Lib.compareBytes a b < 0 ↔ a < b
  | [], [] => by simp [Lib.compareBytes]
  | [], _ :: _ => by simp [Lib.compareBytes]
  | _ :: _, [] => by simp [Lib.compareBytes]
  | a :: x, b :: y => by
    unfold Lib.compareBytes
    rw [List.cons_lt_cons_iff]
    by_cases h : a < b
    · simp [h]
    · by_cases h2 : b < a
      · have : ¬ a = b := fun e => by subst e; exact h h2
        simp [h, h2, this]
      · have : a = b := UInt8.le_antisymm (UInt8.not_lt.1 h2) (UInt8.not_lt.1 h)
        subst this
        simp [cmpB_neg x y]
theorem cmpB_zero : ∀ a b : List UInt8, Lib.compareBytes a b = 0 ↔ a = b
  | [], [] => by simp [Lib.compareBytes]
  | [], _ :: _ => by simp [Lib.compareBytes]
  | _ :: _, [] => by simp [Lib.compareBytes]
  | a :: x, b :: y => by
    unfold Lib.compareBytes
    by_cases h : a < b
    · have : ¬ a = b := fun e => by subst e; exact absurd h (UInt8.lt_irrefl _)
      simp [h, this]
    · by_cases h2 : b < a
      · have : ¬ a = b := fun e => by subst e; exact h h2
        simp [h, h2, this]
      · have : a = b := UInt8.le_antisymm (UInt8.not_lt.1 h2) (UInt8.not_lt.1 h)
        subst this
        simp [cmpB_zero x y]

def plt (a b : PP) : Prop := a.name.data.toList < b.name.data.toList ∨ (a.name.data.toList = b.name.data.toList ∧ a.value < b.value)
theorem pord_neg (a b : PP) : pord a b < 0 ↔ plt a b := by
  unfold pord plt
  by_cases h : Lib.compareBytes a.name.data.toList b.name.data.toList = 0
  · have h' := (cmpB_zero _ _).1 h
    have h2 : ¬ a.name.data.toList < b.name.data.toList := by rw [h']; exact List.lt_irrefl _
    rw [if_neg (by omega)]
    constructor
    · intro hi
      refine .inr ⟨h', ?_⟩
      unfold Lib.compareInt at hi
      split at hi
      · assumption
      · split at hi <;> simp at hi
    · rintro (h3 | ⟨_, h3⟩)
      · exact absurd h3 h2
      · unfold Lib.compareInt; rw [if_pos h3]; decide
  · have h' : ¬ a.name.data.toList = b.name.data.toList := fun e => h ((cmpB_zero _ _).2 e)
    rw [if_pos h, cmpB_neg]
    constructor
    · exact .inl
    · rintro (h3 | ⟨h3, _⟩)
      · exact h3
      · exact absurd h3 h'
theorem pp_ext {a b : PP} (h : a.name.data.toList = b.name.data.toList) (h2 : a.value = b.value) : a = b := by
  obtain ⟨⟨⟨l⟩⟩, v⟩ := a
  obtain ⟨⟨⟨m⟩⟩, u⟩ := b
  simp at h h2
  subst h h2; rfl
theorem pord_zero (a b : PP) : pord a b = 0 ↔ a = b := by
  constructor
  · intro h
    unfold pord at h
    by_cases h0 : Lib.compareBytes a.name.data.toList b.name.data.toList = 0
    · rw [if_neg (by simpa using h0)] at h
      refine pp_ext ((cmpB_zero _ _).1 h0) ?_
      unfold Lib.compareInt at h
      split at h
      · simp at h
      · split at h
        · simp at h
        · omega
    · rw [if_pos h0] at h
      exact absurd h h0
  · rintro rfl
    unfold pord
    rw [(cmpB_zero _ _).2 rfl]
    simp [Lib.compareInt]
theorem plt_irrefl (a : PP) : ¬ plt a a := by
  unfold plt
  simp [List.lt_irrefl]
theorem plt_trans {a b c : PP} (h : plt a b) (h2 : plt b c) : plt a c := by
  unfold plt at *
  rcases h with h | ⟨h, h'⟩
  · rcases h2 with h2 | ⟨h2, _⟩
    · exact .inl (List.lt_trans h h2)
    · rw [h2] at h; exact .inl h
  · rw [h]
    rcases h2 with h2 | ⟨h2, h3⟩
    · exact .inl h2
    · exact .inr ⟨h2, by omega⟩
theorem plt_tri (a b : PP) : plt a b ∨ a = b ∨ plt b a := by
  by_cases h : a.name.data.toList = b.name.data.toList
  · by_cases h1 : a.value < b.value
    · exact .inl (.inr ⟨h, h1⟩)
    · by_cases h2 : b.value < a.value
      · exact .inr (.inr (.inr ⟨h.symm, h2⟩))
      · exact .inr (.inl (pp_ext h (by omega)))
  · by_cases h1 : a.name.data.toList < b.name.data.toList
    · exact .inl (.inl h1)
    · have h2 : b.name.data.toList ≤ a.name.data.toList := List.not_lt.1 h1
      rcases List.le_iff_lt_or_eq.1 h2 with h3 | h3
      · exact .inr (.inr (.inl h3))
      · exact absurd h3.symm h
theorem plt_asymm {a b : PP} (h : plt a b) : ¬ plt b a := fun h2 => plt_irrefl a (plt_trans h h2)
theorem ltOf_pord (a b : PP) : ltOf pord a b = true ↔ plt a b := by
  unfold ltOf
  rw [decide_eq_true_iff, pord_neg]
theorem ltOf_pord_f (a b : PP) : ltOf pord a b = false ↔ ¬ plt a b := by
  rw [← ltOf_pord]; simp
theorem pord_swo : SWO (ltOf pord) where
  irrefl x := (ltOf_pord_f x x).2 (plt_irrefl x)
  trans x y z h1 h2 := (ltOf_pord x z).2 (plt_trans ((ltOf_pord x y).1 h1) ((ltOf_pord y z).1 h2))
  ntrans x y z h1 h2 := (ltOf_pord_f x z).2 (by
    have h3 := (ltOf_pord_f x y).1 h1
    have h4 := (ltOf_pord_f y z).1 h2
    intro h
    rcases plt_tri x y with h5 | h5 | h5
    · exact h3 h5
    · subst h5; exact h4 h
    · exact h4 (plt_trans h5 h))
theorem pord_tot (x y : PP) (h : ltOf pord x y = false) (h2 : ltOf pord y x = false) : x = y := by
  rcases plt_tri x y with h3 | h3 | h3
  · exact absurd h3 ((ltOf_pord_f x y).1 h)
  · exact h3
  · exact absurd h3 ((ltOf_pord_f y x).1 h2)
theorem paheadB_iff (a b : PP) : paheadB a b = true ↔ plt a b := by
  unfold paheadB; rw [decide_eq_true_iff, pord_neg]
theorem pahead_less {a b : PP} (h : Op.bytesLess a.name.toList b.name.toList = true) : paheadB a b = true := by
  rw [paheadB_iff]
  rw [bytesLess_eq, decide_eq_true_iff, ByteArray.toList_eq, ByteArray.toList_eq] at h
  exact .inl h
theorem pahead_eq {a b : PP} (h : a.name.toList = b.name.toList) : paheadB a b = decide (a.value < b.value) := by
  rw [ByteArray.toList_eq, ByteArray.toList_eq] at h
  have h2 : ¬ a.name.data.toList < b.name.data.toList := by rw [h]; exact List.lt_irrefl _
  rw [Bool.eq_iff_iff, paheadB_iff, decide_eq_true_iff]
  unfold plt
  constructor
  · rintro (h3 | ⟨_, h3⟩)
    · exact absurd h3 h2
    · exact h3
  · exact fun h3 => .inr ⟨h, h3⟩
theorem pahead_no {a b : PP} (h : ¬ Op.bytesLess a.name.toList b.name.toList = true) (h2 : ¬ a.name.toList = b.name.toList) : paheadB a b = false := by
  rw [← Bool.not_eq_true, paheadB_iff]
  rw [bytesLess_eq, decide_eq_true_iff, ByteArray.toList_eq, ByteArray.toList_eq] at h
  rw [ByteArray.toList_eq, ByteArray.toList_eq] at h2
  rintro (h3 | ⟨h3, _⟩)
  · exact h h3
  · exact h2 h3
end Go.Proofs.Ytckmmihbipmkcaa
