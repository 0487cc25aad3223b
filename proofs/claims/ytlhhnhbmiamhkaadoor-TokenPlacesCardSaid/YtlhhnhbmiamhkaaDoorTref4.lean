/- The reference's token at a place: signs, in plain words. -/
import Derived.Test.YtlhhnhbmiamhkaaDoorTref2
namespace Go.Proofs.YtlhhnhbmiamhkaaDoor
open Go.RowKit Go.Shelf

def sgnAll : List (List UInt8) := [[33], [38], [124], [40], [41], [91], [93], [44], [45, 62], [60, 45, 62], [61], [33, 61], [60], [60, 61], [62], [62, 61], [70], [71], [85], [82]]
def bstep (l best x : List UInt8) : List UInt8 := if best.length < x.length ∧ l.take x.length = x then x else best
def bestK (k : Nat) (l : List UInt8) : List UInt8 := (sgnAll.take k).foldl (bstep l) []
theorem bestK_succ {k : Nat} (hk : k < sgnAll.length) (l : List UInt8) : bestK (k + 1) l = bstep l (bestK k l) sgnAll[k] := by
  unfold bestK
  rw [List.take_succ_eq_append_getElem hk, List.foldl_append]; rfl

/-- The best so far begins the text, and none of those that were seen and begin it is longer. -/
structure Best (l best : List UInt8) (seen : List (List UInt8)) : Prop where
  pre : l.take best.length = best
  mem : best = [] ∨ best ∈ seen
  max : ∀ x ∈ seen, l.take x.length = x → x.length ≤ best.length
theorem Best.start (l : List UInt8) : Best l [] [] := ⟨by simp, .inl rfl, fun x hx => by cases hx⟩
theorem Best.step {l best : List UInt8} {seen : List (List UInt8)} (h : Best l best seen) (x : List UInt8) : Best l (bstep l best x) (seen ++ [x]) := by
  unfold bstep
  by_cases hc : best.length < x.length ∧ l.take x.length = x
  · rw [if_pos hc]
    refine ⟨hc.2, .inr (by simp), fun y hy hp => ?_⟩
    rcases List.mem_append.1 hy with hy | hy
    · have := h.max y hy hp; omega
    · simp at hy; subst hy; exact Nat.le_refl _
  · rw [if_neg hc]
    refine ⟨h.pre, h.mem.imp id (fun h => List.mem_append_left _ h), fun y hy hp => ?_⟩
    rcases List.mem_append.1 hy with hy | hy
    · exact h.max y hy hp
    · simp at hy; subst hy
      rcases Nat.lt_or_ge best.length y.length with h' | h'
      · exact absurd ⟨h', hp⟩ hc
      · exact h'
theorem Best.fold (l : List UInt8) : ∀ (xs seen : List (List UInt8)) (best : List UInt8), Best l best seen → Best l (xs.foldl (bstep l) best) (seen ++ xs)
  | [], seen, best, h => by simpa using h
  | x :: xs, seen, best, h => by
    have := Best.fold l xs (seen ++ [x]) _ (h.step x)
    simpa using this
theorem sign_max (l : List UInt8) : ∀ x ∈ sgnAll, l.take x.length = x → x.length ≤ signLen l := by
  intro x hx hp
  have hlen0 : x.length = 3 ∧ x = [60, 45, 62] ∨ x.length = 2 ∧ x ∈ sgn2 ∨ (x.length = 1 ∧ x.headD 0 ∈ sgn1) := by
    clear hp
    revert x
    decide +kernel
  have hlen : x.length = 3 ∧ x = [60, 45, 62] ∨ x.length = 2 ∧ x ∈ sgn2 ∨ ∃ c, x = [c] ∧ c ∈ sgn1 := by
    refine hlen0.imp id (fun h => h.imp id fun h => ?_)
    obtain ⟨c, rfl⟩ := List.length_eq_one_iff.1 h.1
    exact ⟨c, rfl, h.2⟩
  unfold signLen
  rcases hlen with ⟨h, h2⟩ | ⟨h, h2⟩ | ⟨c, rfl, h2⟩
  · rw [h] at hp ⊢
    rw [if_pos (by rw [hp, h2])]
    exact Nat.le_refl _
  · rw [h] at hp ⊢
    split
    · omega
    · rw [if_pos (by rw [hp]; exact h2)]; exact Nat.le_refl _
  · simp only [List.length_singleton] at hp ⊢
    split
    · omega
    · split
      · omega
      · cases l with
        | nil => simp at hp
        | cons d r =>
          simp at hp
          subst hp
          simp only [if_pos h2]; exact Nat.le_refl _
theorem sign_mem {l : List UInt8} (h : 0 < signLen l) : l.take (signLen l) ∈ sgnAll := by
  unfold signLen at h ⊢
  by_cases h3 : l.take 3 = [60, 45, 62]
  · rw [if_pos h3, h3]; decide
  · rw [if_neg h3] at h ⊢
    by_cases h2 : l.take 2 ∈ sgn2
    · rw [if_pos h2]
      revert h2
      generalize l.take 2 = q
      revert q
      decide +kernel
    · rw [if_neg h2] at h ⊢
      cases l with
      | nil => simp at h
      | cons c r =>
        simp only at h ⊢
        by_cases hc : c ∈ sgn1
        · rw [if_pos hc, List.take_succ_cons, List.take_zero]
          clear h h2 h3
          revert hc
          revert c
          decide +kernel
        · rw [if_neg hc] at h; omega
theorem best_all (l : List UInt8) : bestK 20 l = l.take (signLen l) := by
  have hb : Best l (bestK 20 l) sgnAll := by
    have := Best.fold l sgnAll [] [] (Best.start l)
    simpa [bestK, sgnAll] using this
  generalize bestK 20 l = b at *
  have h1 : b.length ≤ signLen l := by
    rcases hb.mem with rfl | hm
    · simp
    · exact sign_max l b hm hb.pre
  rcases Nat.eq_zero_or_pos (signLen l) with h0 | h0
  · have : b = [] := List.eq_nil_of_length_eq_zero (by omega)
    rw [h0, this]; rfl
  · have hm := sign_mem h0
    have hle : (l.take (signLen l)).length = signLen l := by
      rw [List.length_take]
      cases l with
      | nil => simp [signLen, sgn2] at h0
      | cons c r => have := signLen_le (l := c :: r) (by simp); omega
    have h2 := hb.max _ hm (by rw [hle])
    rw [hle] at h2
    have e : b.length = signLen l := by omega
    rw [← hb.pre, e]
end Go.Proofs.YtlhhnhbmiamhkaaDoor
