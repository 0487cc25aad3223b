/- Tokens: the small walks of the program: bytes, numbers, signs. -/
import Derived.Test.YtidhlfcmjpnhgaaGreatDoorQTplain
namespace Go.Proofs.YtidhlfcmjpnhgaaGreatDoor
open Go.RowKit

theorem tw_len {α : Type} {p : α → Bool} : ∀ {l : List α} {k : Nat}, (∀ i, (hi : i < l.length) → i < k → p l[i] = true) → k ≤ l.length → (∀ hk : k < l.length, p l[k] = false) → (l.takeWhile p).length = k
  | [], k, _, hk, _ => by simp at hk; simp [hk]
  | a :: r, 0, _, _, he => by
    have := he (by simp)
    simp only [List.getElem_cons_zero] at this
    simp [this]
  | a :: r, k + 1, h, hk, he => by
    have h0 := h 0 (by simp) (by omega)
    simp only [List.getElem_cons_zero] at h0
    rw [List.takeWhile_cons, if_pos h0, List.length_cons]
    congr 1
    exact tw_len (fun i hi hik => by have := h (i + 1) (by simp; omega) (by omega); simpa using this) (by simpa using hk) (fun hk' => by have := he (by simp; omega); simpa using this)
theorem ba_get (s : ByteArray) (i : Nat) (h : i < s.size) : s.data.toList[i]'(by simpa using h) = s[i] := rfl
theorem ba_len (s : ByteArray) : s.data.toList.length = s.size := by simp

theorem numLen_45 {r : List UInt8} : numLen (45 :: r) = if (r.takeWhile digB).length = 0 then 0 else (r.takeWhile digB).length + 1 := by simp [numLen]
theorem numLen_no {c : UInt8} {r : List UInt8} (h : ¬ c = 45) : numLen (c :: r) = ((c :: r).takeWhile digB).length := by simp [numLen, h]

/-- The bytes of s from f on, ahead of k, are all of a kind. -/
def Runs (p : UInt8 → Bool) (s : ByteArray) (f k : Nat) : Prop := ∀ i, (hi : i < s.size) → f ≤ i → i < k → p s[i] = true
theorem Runs.start (p : UInt8 → Bool) (s : ByteArray) (f : Nat) : Runs p s f f := fun i _ h1 h2 => absurd h2 (by omega)
theorem Runs.len {p : UInt8 → Bool} {s : ByteArray} {f k : Nat} (h : Runs p s f k) (hf : f ≤ k) (hk : k ≤ s.size) (he : ∀ hk : k < s.size, p s[k] = false) : ((s.data.toList.drop f).takeWhile p).length = k - f := by
  refine tw_len (fun i hi hik => ?_) (by simp; omega) (fun hk => ?_)
  · rw [List.getElem_drop]
    exact h (f + i) (by simp at hi; omega) (by omega) (by omega)
  · rw [List.getElem_drop]
    have e : f + (k - f) = k := by omega
    simp only [e]
    exact he (by simp at hk; omega)
theorem Runs.next {p : UInt8 → Bool} {s : ByteArray} {f k : Nat} (h : Runs p s f k) (hk : k < s.size) (hd : p s[k] = true) : Runs p s f (k + 1) := by
  intro i hi hf hik
  rcases Nat.lt_succ_iff_lt_or_eq.1 hik with h' | h'
  · exact h i hi hf h'
  · subst h'; exact hd
theorem list_cons (s : ByteArray) (h : 1 ≤ s.size) : s.data.toList = s[0] :: s.data.toList.drop 1 := by
  have h0 : 0 < s.data.toList.length := by simp; omega
  have := List.drop_eq_getElem_cons h0
  rw [List.drop_zero] at this
  exact this

theorem num_min {s : ByteArray} (h1 : 1 ≤ s.size) (h : s[0] = 45) {k : Nat} (hk : 1 ≤ k) (hn : ((s.data.toList.drop 1).takeWhile digB).length = k - 1) : (numLen s.data.toList : Int) = if ((k : Int) == 1) = true then 0 else (k : Int) := by
  rw [list_cons s h1, h, numLen_45, hn]
  by_cases h1 : k = 1
  · subst h1; rfl
  · rw [if_neg (by omega), if_neg (by simp; omega)]; omega
theorem num_dig {s : ByteArray} (h1 : 1 ≤ s.size) (h : ¬ s[0] = 45) {k : Nat} (hn : ((s.data.toList.drop 0).takeWhile digB).length = k - 0) : (numLen s.data.toList : Int) = if ((k : Int) == 0) = true then 0 else (k : Int) := by
  rw [List.drop_zero] at hn
  rw [list_cons s h1] at hn ⊢
  rw [numLen_no h, hn]
  by_cases h1 : k = 0
  · subst h1; rfl
  · rw [if_neg (by simp; omega)]; omega
end Go.Proofs.YtidhlfcmjpnhgaaGreatDoor
