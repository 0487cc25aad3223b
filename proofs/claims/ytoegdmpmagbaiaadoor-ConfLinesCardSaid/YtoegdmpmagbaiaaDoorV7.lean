/- What strings.Split and strings.FieldsFunc cut, in plain words. No program in sight. -/
import Derived.Test.YtoegdmpmagbaiaaDoorV1
namespace Go.Proofs.YtoegdmpmagbaiaaDoor
open Go.RowKit Go.Lib

theorem index_cons (b c : UInt8) (l : List UInt8) : Lib.index (b :: l) [c] = if b = c then 0 else if Lib.index l [c] == -1 then -1 else Lib.index l [c] + 1 := by
  rw [Lib.index]
  by_cases h : b = c
  · subst h; simp [List.isPrefixOf]
  · have hp : ([c] : List UInt8).isPrefixOf (b :: l) = false := by simp [List.isPrefixOf, Ne.symm h]
    rw [hp, if_neg h]; simp
theorem splitK_eq (c : UInt8) : ∀ l : List UInt8, Lib.splitK [c] 0 (Lib.count l [c]) l = splitC c l
  | [] => by rw [Lib.count_one]; rfl
  | b :: l => by
    have ih := splitK_eq c l
    rw [splitC_cons]
    by_cases h : b = c
    · subst h
      rw [if_pos rfl, Lib.count_cons_eq, Nat.add_comm, Lib.splitK, index_cons, if_pos rfl]
      rw [if_neg (by decide)]
      exact congrArg (List.cons []) ih
    · rw [if_neg h, Lib.count_cons_ne b c l h]
      cases hk : Lib.count l [c] with
      | zero =>
        rw [hk] at ih
        rw [← ih]
        rfl
      | succ k =>
        rw [hk] at ih
        by_cases hm : Lib.index l [c] = -1
        · rw [Lib.count_miss hm] at hk; cases hk
        · have hge := Lib.index_ge l [c]
          have h1 : ¬ (Lib.index l [c] == -1) = true := fun e => hm (beq_iff_eq.1 e)
          rw [Lib.splitK, if_neg h1] at ih
          rw [← ih, Lib.splitK, index_cons, if_neg h, if_neg h1, if_neg (by simp only [beq_iff_eq]; omega)]
          obtain ⟨j, hj⟩ : ∃ j : Nat, Lib.index l [c] = j := ⟨(Lib.index l [c]).toNat, by omega⟩
          rw [hj]
          have e1 : ((j : Int) + 1).toNat = j + 1 := by omega
          have e2 : (j : Int).toNat = j := by omega
          rw [e1, e2]
          rfl
/-- The pieces of strings.Split. -/
theorem splitB_eq (s : ByteArray) : (Lib.splitB ⟨#[10]⟩ 0 (Lib.countB s ⟨#[10]⟩) s).map (·.data.toList) = splitC 10 s.data.toList := by
  rw [Lib.splitB_data]
  exact splitK_eq 10 s.data.toList

/-- A rune that is a blank is the byte of it; another one has no such byte. -/
theorem decode_32 (s : ByteArray) (pos : Nat) (h : pos < s.size) :
    (s.data.toList[pos]? = some 32 → Utf8.decode s pos = (32, 1)) ∧
    (s.data.toList[pos]? ≠ some 32 → (Utf8.decode s pos).1 ≠ 32 ∧ 1 ≤ (Utf8.decode s pos).2 ∧ pos + (Utf8.decode s pos).2 ≤ s.size ∧ ∀ i, pos ≤ i → i < pos + (Utf8.decode s pos).2 → s.data.toList[i]? ≠ some 32) := by
  have hg : ∀ i, (hi : i < s.size) → s.data.toList[i]? = some (s.get! i) := by
    intro i hi
    rw [List.getElem?_eq_getElem (by simpa using hi)]
    congr 1
    rw [ByteArray.get!]
    simp only [Array.getElem_toList]
    exact (getElem!_pos s.data i (by simpa using hi)).symm
  rw [Lib.decode_at]
  have h0 := hg pos h
  rw [h0]
  generalize hb0 : s.get! pos = b0
  generalize hb1 : s.get! (pos + 1) = b1
  generalize hb2 : s.get! (pos + 2) = b2
  generalize hb3 : s.get! (pos + 3) = b3
  have c1 := Lib.decodeN_cases (s.size - pos) b0.toNat b1.toNat b2.toNat b3.toNat
  have c2 := Lib.decodeN_conts (s.size - pos) b0.toNat b1.toNat b2.toNat b3.toNat
  have c3 := Lib.decodeN_le_n' (s.size - pos) b0.toNat b1.toNat b2.toNat b3.toNat (by omega)
  have c4 := Lib.decodeN_ge1 (s.size - pos) b0.toNat b1.toNat b2.toNat b3.toNat
  constructor
  · intro e
    have : b0 = 32 := by injection e
    subst this
    rfl
  · intro e
    have hne : b0 ≠ 32 := fun q => e (by rw [q])
    have hnn : b0.toNat ≠ 32 := fun q => hne (UInt8.toNat_inj.1 q)
    refine ⟨?_, c4, by omega, ?_⟩
    · rcases c1 with ⟨_, q⟩ | ⟨_, _, _, g, q⟩ | ⟨_, _, _, _, g, q⟩ | ⟨g, _⟩ | q
      · rw [q]; exact hnn
      · rw [q]; simp only []; omega
      · rw [q]; simp only []; omega
      · omega
      · rw [q]; decide
    · intro i hi1 hi2
      have hlt : i < s.size := by omega
      rw [hg i hlt]
      intro q
      have q : s.get! i = 32 := by injection q
      have hq : (s.get! i).toNat = 32 := by rw [q]; rfl
      obtain ⟨d1, d2, d3, d4⟩ := c2
      have : i = pos ∨ i = pos + 1 ∨ i = pos + 2 ∨ i = pos + 3 := by omega
      rcases this with rfl | rfl | rfl | rfl
      · rw [hb0] at hq; exact hnn hq
      · rw [hb1] at hq
        have := (d1 (by omega)).1
        omega
      · rw [hb2] at hq
        have := (d2 (by omega)).1
        omega
      · rw [hb3] at hq
        have := (d3 (by omega)).1
        omega
theorem wordsC_hit {k : List UInt8} (h1 : k ≠ []) (h2 : (32 : UInt8) ∉ k) (r : List UInt8) : wordsC (k ++ 32 :: r) = k :: wordsC r := by
  unfold wordsC
  rw [splitC_app h2, List.filter_cons_of_pos]
  cases k with
  | nil => exact absurd rfl h1
  | cons c q => rfl
theorem wordsC_end {k : List UInt8} (h1 : k ≠ []) (h2 : (32 : UInt8) ∉ k) : wordsC k = [k] := by
  unfold wordsC
  rw [splitC_none h2, List.filter_cons_of_pos]
  · rfl
  · cases k with
    | nil => exact absurd rfl h1
    | cons c q => rfl
theorem wordsC_skip (r : List UInt8) : wordsC (32 :: r) = wordsC r := by
  unfold wordsC
  rw [splitC_cons, if_pos rfl, List.filter_cons_of_neg (by simp)]
/-- The bytes of s from a up to b. -/
def cutL (s : ByteArray) (a b : Nat) : List UInt8 := (s.data.toList.drop a).take (b - a)
theorem cutL_eq (s : ByteArray) (a b : Nat) : (s.extract a b).data.toList = cutL s a b := Lib.extract_data s a b
theorem cutL_mem {s : ByteArray} {a b : Nat} {x : UInt8} (h : x ∈ cutL s a b) : ∃ i, a ≤ i ∧ i < b ∧ s.data.toList[i]? = some x := by
  obtain ⟨i, hi⟩ := List.mem_iff_getElem?.1 h
  unfold cutL at hi
  rw [List.getElem?_take] at hi
  split at hi
  · rw [List.getElem?_drop] at hi
    exact ⟨a + i, by omega, by omega, hi⟩
  · cases hi
theorem spans_words (s : ByteArray) : ∀ (f pos : Nat) (st : Option Nat) (acc : List (Nat × Nat)), s.size - pos ≤ f → pos ≤ s.size →
    (∀ a, st = some a → a < pos ∧ ∀ i, a ≤ i → i < pos → s.data.toList[i]? ≠ some 32) →
    (Lib.closeSpans s (Lib.spansFromP (· == 32) s f pos st acc)).map (fun x => cutL s x.1 x.2) = acc.map (fun x => cutL s x.1 x.2) ++ wordsC (s.data.toList.drop (st.getD pos)) := by
  have hlen : s.data.toList.length = s.size := by simp
  -- at the end
  have hend : ∀ (pos : Nat) (st : Option Nat) (acc : List (Nat × Nat)), pos = s.size → (∀ a, st = some a → a < pos ∧ ∀ i, a ≤ i → i < pos → s.data.toList[i]? ≠ some 32) →
      (Lib.closeSpans s (acc, st)).map (fun x => cutL s x.1 x.2) = acc.map (fun x => cutL s x.1 x.2) ++ wordsC (s.data.toList.drop (st.getD pos)) := by
    intro pos st acc hp hst
    subst hp
    cases st with
    | none =>
      simp only [Lib.closeSpans, Option.getD_none]
      rw [List.drop_of_length_le (by omega)]
      simp [wordsC, splitC]
    | some a =>
      obtain ⟨h1, h2⟩ := hst a rfl
      simp only [Lib.closeSpans, Option.getD_some, List.map_append, List.map_cons, List.map_nil]
      congr 1
      have e : cutL s a s.size = s.data.toList.drop a := by
        unfold cutL
        rw [List.take_of_length_le (by rw [List.length_drop]; omega)]
      rw [e, wordsC_end]
      · intro q
        have := congrArg List.length q
        rw [List.length_drop] at this
        simp at this
        omega
      · intro hm
        rw [← e] at hm
        obtain ⟨i, i1, i2, i3⟩ := cutL_mem hm
        exact h2 i i1 i2 i3
  intro f
  induction f with
  | zero =>
    intro pos st acc hf hp hst
    exact hend pos st acc (by omega) hst
  | succ f ih =>
    intro pos st acc hf hp hst
    unfold Lib.spansFromP
    by_cases hlt : pos < s.size
    · rw [if_pos hlt]
      obtain ⟨d1, d2⟩ := decode_32 s pos hlt
      by_cases h32 : s.data.toList[pos]? = some 32
      · rw [d1 h32]
        simp only [beq_self_eq_true, if_true]
        have hd : s.data.toList.drop pos = 32 :: s.data.toList.drop (pos + 1) := by
          rw [List.drop_eq_getElem_cons (by omega)]
          congr 1
          rw [List.getElem?_eq_getElem (by omega)] at h32
          injection h32
        cases st with
        | none =>
          simp only []
          rw [ih (pos + 1) none acc (by omega) (by omega) (fun a e => by cases e)]
          simp only [Option.getD_none]
          rw [hd, wordsC_skip]
        | some a =>
          obtain ⟨h1, h2⟩ := hst a rfl
          simp only []
          rw [ih (pos + 1) none _ (by omega) (by omega) (fun a e => by cases e)]
          simp only [Option.getD_none, Option.getD_some, List.map_append, List.map_cons, List.map_nil, List.append_assoc, List.singleton_append]
          congr 1
          have e : s.data.toList.drop a = cutL s a pos ++ 32 :: s.data.toList.drop (pos + 1) := by
            rw [← hd]
            unfold cutL
            have : s.data.toList.drop pos = (s.data.toList.drop a).drop (pos - a) := by rw [List.drop_drop]; congr 1; omega
            rw [this, List.take_append_drop]
          rw [e, wordsC_hit]
          · intro q
            have := congrArg List.length q
            unfold cutL at this
            rw [List.length_take, List.length_drop] at this
            simp at this
            omega
          · intro hm
            obtain ⟨i, i1, i2, i3⟩ := cutL_mem hm
            exact h2 i i1 i2 i3
      · obtain ⟨e1, e2, e3, e4⟩ := d2 h32
        have hb : ((Utf8.decode s pos).1 == 32) = false := by simpa using e1
        rw [if_neg (by rw [hb]; decide)]
        cases st with
        | none =>
          simp only []
          rw [ih _ (some pos) acc (by omega) e3 (fun a e => by injection e with e; subst e; exact ⟨by omega, e4⟩)]
          rfl
        | some a =>
          obtain ⟨h1, h2⟩ := hst a rfl
          simp only []
          rw [ih _ (some a) acc (by omega) e3 (fun a' e => by
            injection e with e; subst e
            refine ⟨by omega, fun i i1 i2 => ?_⟩
            by_cases hi : i < pos
            · exact h2 i i1 hi
            · exact e4 i (by omega) i2)]
          rfl
    · rw [if_neg hlt]
      exact hend pos st acc (by omega) hst
/-- The pieces of strings.FieldsFunc at blanks. -/
theorem fields_eq (s : ByteArray) : (Lib.goFieldsP (· == 32) s).map (·.data.toList) = wordsC s.data.toList := by
  unfold Lib.goFieldsP Lib.spansOfP
  rw [List.map_map]
  have := spans_words s s.size 0 none [] (by omega) (Nat.zero_le _) (fun a e => by cases e)
  simp only [List.map_nil, List.nil_append, Option.getD_none, List.drop_zero] at this
  rw [← this]
  congr 1
  funext x
  exact cutL_eq s x.1 x.2
end Go.Proofs.YtoegdmpmagbaiaaDoor
