/- What a text's tokens are, in plain words: their places, two texts, a token alone. -/
import Derived.Test.YtlhhnhbmiamhkaaDoorTref4
namespace Go.Proofs.YtlhhnhbmiamhkaaDoor
open Go.RowKit

theorem tw_idem {α : Type} (p : α → Bool) : ∀ l : List α, (l.takeWhile p).takeWhile p = l.takeWhile p
  | [] => rfl
  | c :: r => by
    cases h : p c
    · rw [List.takeWhile_cons_of_neg (by simp [h])]; rfl
    · rw [List.takeWhile_cons_of_pos h, List.takeWhile_cons_of_pos h, tw_idem p r]
theorem tw_sep {α : Type} (p : α → Bool) {b : α} (t : List α) (hb : p b = false) : ∀ l : List α, (l ++ b :: t).takeWhile p = l.takeWhile p
  | [] => by rw [List.nil_append, List.takeWhile_cons_of_neg (by simp [hb])]; rfl
  | c :: r => by
    cases h : p c
    · rw [List.cons_append, List.takeWhile_cons_of_neg (by simp [h]), List.takeWhile_cons_of_neg (by simp [h])]
    · rw [List.cons_append, List.takeWhile_cons_of_pos h, List.takeWhile_cons_of_pos h, tw_sep p t hb r]

theorem numLen_self {l : List UInt8} (h : 0 < numLen l) : numLen (l.take (numLen l)) = numLen l := by
  cases l with
  | nil => simp [numLen] at h
  | cons c r =>
    by_cases hc : c = 45
    · subst hc
      rw [numLen_45] at h ⊢
      by_cases h0 : (r.takeWhile digB).length = 0
      · rw [if_pos h0] at h; omega
      · rw [if_neg h0, List.take_succ_cons, takeWhile_take, numLen_45, tw_idem, if_neg h0]
    · rw [numLen_no hc] at h ⊢
      rw [takeWhile_take]
      cases hd : digB c
      · rw [List.takeWhile_cons_of_neg (by simp [hd])] at h; simp at h
      · rw [List.takeWhile_cons_of_pos hd, numLen_no hc, List.takeWhile_cons_of_pos hd, tw_idem]
theorem numLen_sep {b : UInt8} (t : List UInt8) (hb : blankB b = true) {l : List UInt8} (hl : l ≠ []) : numLen (l ++ b :: t) = numLen l := by
  have hd : digB b = false := by rcases (blank_iff b).1 hb with rfl | rfl | rfl <;> decide
  cases l with
  | nil => exact absurd rfl hl
  | cons c r =>
    rw [List.cons_append]
    by_cases hc : c = 45
    · subst hc; rw [numLen_45, numLen_45, tw_sep digB t hd]
    · rw [numLen_no hc, numLen_no hc, ← List.cons_append, tw_sep digB t hd]
theorem signLen_sep {b : UInt8} (t : List UInt8) (hb : blankB b = true) {l : List UInt8} (hl : l ≠ []) : signLen (l ++ b :: t) = signLen l := by
  have hne : b ≠ 45 ∧ b ≠ 62 ∧ b ≠ 61 := by rcases (blank_iff b).1 hb with rfl | rfl | rfl <;> decide
  obtain ⟨n1, n2, n3⟩ := hne
  match l, hl with
  | [c], _ =>
    have e3 : ¬ ([c] ++ b :: t).take 3 = [60, 45, 62] := by
      intro e; simp at e; exact n1 e.2.1
    have e2 : ¬ ([c] ++ b :: t).take 2 ∈ sgn2 := by
      intro e; simp [sgn2] at e; rcases e with e | e | e | e <;> first | exact n2 e.2 | exact n3 e.2
    unfold signLen
    rw [if_neg e3, if_neg e2, if_neg (by simp), if_neg (by simp [sgn2])]
    rfl
  | [c, d], _ =>
    have e3 : ¬ ([c, d] ++ b :: t).take 3 = [60, 45, 62] := by
      intro e; simp at e; exact n2 e.2.2
    have e3' : ¬ [c, d].take 3 = [60, 45, 62] := by intro e; simp at e
    have e2 : ([c, d] ++ b :: t).take 2 = [c, d].take 2 := rfl
    unfold signLen
    rw [if_neg e3, if_neg e3', e2]
    rfl
  | c :: d :: e :: r, _ => rfl
theorem nextT_sep {b : UInt8} (t : List UInt8) (hb : blankB b = true) {l : List UInt8} (hl : l ≠ []) : nextT (l ++ b :: t) = nextT l := by
  have hw : wordB b = false := by rcases (blank_iff b).1 hb with rfl | rfl | rfl <;> decide
  have h1 := numLen_sep t hb hl
  have h2 := signLen_sep t hb hl
  have h3 := numLen_le l
  have h4 := signLen_le hl
  have tk : ∀ k, k ≤ l.length → (l ++ b :: t).take k = l.take k := fun k hk => by rw [List.take_append_of_le_length hk]
  have t1 := tk _ h3
  have t2 := tk _ h4
  cases l with
  | nil => exact absurd rfl hl
  | cons c r =>
    have t3 := tk ((r.takeWhile wordB).length + 1) (by have := (List.takeWhile_prefix wordB (l := r)).length_le; simp; omega)
    rw [List.cons_append] at h1 h2 t1 t2 t3 ⊢
    unfold nextT
    simp only [h1, h2, tw_sep wordB t hw, t1, t2, t3]
theorem sign_self : ∀ x ∈ sgnAll, nextT x = (0, ⟨3, x, 0⟩) := by
  intro x hx
  simp only [sgnAll, List.mem_cons, List.not_mem_nil, or_false] at hx
  rcases hx with rfl | rfl | rfl | rfl | rfl | rfl | rfl | rfl | rfl | rfl | rfl | rfl | rfl | rfl | rfl | rfl | rfl | rfl | rfl | rfl <;> kernel_rfl
theorem nextT_self {l : List UInt8} {T : TK} (h : nextT l = (0, T)) : nextT T.text = (0, T) ∧ l.take T.text.length = T.text ∧ (T.kind = 1 ∨ T.kind = 2 ∨ T.kind = 3) := by
  cases l with
  | nil => simp [nextT] at h
  | cons c r =>
    by_cases h1 : smallB c = true
    · have e : nextT (c :: r) = if 12 < (r.takeWhile wordB).length + 1 then (21, ⟨0, [], 0⟩) else (0, ⟨1, (c :: r).take ((r.takeWhile wordB).length + 1), 0⟩) := by
        unfold nextT; simp only [h1, if_true]
      rw [e] at h
      by_cases h2 : 12 < (r.takeWhile wordB).length + 1
      · rw [if_pos h2] at h; simp at h
      · rw [if_neg h2, List.take_succ_cons, takeWhile_take] at h
        simp only [Prod.mk.injEq, true_and] at h
        subst h
        refine ⟨?_, ?_, .inl rfl⟩
        · simp only
          unfold nextT
          simp only [h1, if_true]
          rw [tw_idem, if_neg h2, List.take_succ_cons, List.take_length]
        · simp only [List.length_cons]
          rw [List.take_succ_cons, takeWhile_take]
    · by_cases h2 : 0 < numLen (c :: r)
      · have e : nextT (c :: r) = if (numVal ((c :: r).take (numLen (c :: r)))).1 = 0 then (0, ⟨2, (c :: r).take (numLen (c :: r)), (numVal ((c :: r).take (numLen (c :: r)))).2⟩) else ((numVal ((c :: r).take (numLen (c :: r)))).1, ⟨0, [], 0⟩) := by
          unfold nextT; simp only [h1, Bool.false_eq_true, if_false]; rw [if_pos h2]
        rw [e] at h
        by_cases h3 : (numVal ((c :: r).take (numLen (c :: r)))).1 = 0
        · rw [if_pos h3] at h
          simp only [Prod.mk.injEq, true_and] at h
          subst h
          have hle := numLen_le (c :: r)
          refine ⟨?_, ?_, .inr (.inl rfl)⟩
          · simp only
            have hs := numLen_self h2
            have hlen : ((c :: r).take (numLen (c :: r))).length = numLen (c :: r) := by rw [List.length_take]; omega
            obtain ⟨m, hm⟩ : ∃ m, numLen (c :: r) = m + 1 := ⟨numLen (c :: r) - 1, by omega⟩
            rw [hm, List.take_succ_cons] at hs hlen h3 ⊢
            have h4 : 0 < numLen (c :: r.take m) := by omega
            have h5 : (c :: r.take m).take (m + 1) = c :: r.take m := by rw [← hlen, List.take_length]
            unfold nextT
            simp only [h1, Bool.false_eq_true, if_false]
            rw [if_pos h4, hs, h5, if_pos h3]
          · simp only
            rw [List.length_take, Nat.min_eq_left hle]
        · rw [if_neg h3] at h
          simp only [Prod.mk.injEq] at h
          exact absurd h.1 h3
      · have e : nextT (c :: r) = if 0 < signLen (c :: r) then (0, ⟨3, (c :: r).take (signLen (c :: r)), 0⟩) else (20, ⟨0, [], 0⟩) := by
          unfold nextT; simp only [h1, Bool.false_eq_true, if_false]; rw [if_neg h2]
        rw [e] at h
        by_cases h3 : 0 < signLen (c :: r)
        · rw [if_pos h3] at h
          simp only [Prod.mk.injEq, true_and] at h
          subst h
          have hle := signLen_le (l := c :: r) (by simp)
          refine ⟨sign_self _ (sign_mem h3), ?_, .inr (.inr rfl)⟩
          simp only
          rw [List.length_take, Nat.min_eq_left hle]
        · rw [if_neg h3] at h; simp at h

theorem rdT_ne (n : Nat) : ∀ (at_ : Nat) (l : List UInt8), l.length ≤ n → (rdT at_ l).1.1 = 0 → (rdT at_ l).2 ≠ [] ∧ (rdT at_ l).1.2 = 0 := by
  induction n with
  | zero =>
    intro at_ l hl _
    have : l = [] := List.eq_nil_of_length_eq_zero (by omega)
    subst this
    rw [rdT_nil]; simp
  | succ n ih =>
    intro at_ l hl h
    cases l with
    | nil => rw [rdT_nil]; simp
    | cons c r =>
      simp only [List.length_cons] at hl
      cases hb : blankB c
      · by_cases h0 : (nextT (c :: r)).1 = 0
        · rw [rdT_tok hb h0] at h ⊢
          have := next_text h0
          exact ⟨by simp, (ih _ _ (by simp; omega) h).2⟩
        · rw [rdT_err hb h0] at h
          exact absurd h h0
      · rw [rdT_blank hb] at h ⊢
        exact ih _ _ (by omega) h
theorem rdT_place (n : Nat) : ∀ (at_ : Nat) (l : List UInt8), l.length ≤ n → (rdT at_ l).1.2 ≤ at_ + l.length := by
  induction n with
  | zero =>
    intro at_ l hl
    have : l = [] := List.eq_nil_of_length_eq_zero (by omega)
    subst this
    rw [rdT_nil]; simp
  | succ n ih =>
    intro at_ l hl
    cases l with
    | nil => rw [rdT_nil]; simp
    | cons c r =>
      simp only [List.length_cons] at hl ⊢
      cases hb : blankB c
      · by_cases h0 : (nextT (c :: r)).1 = 0
        · rw [rdT_tok hb h0]
          have := next_text h0
          have h2 := ih (at_ + (nextT (c :: r)).2.text.length) ((c :: r).drop (nextT (c :: r)).2.text.length) (by simp; omega)
          simp at h2 this ⊢
          omega
        · rw [rdT_err hb h0]; simp
      · rw [rdT_blank hb]
        have := ih (at_ + 1) r (by omega)
        omega

/-- How the reading goes on from a place: blanks, then the end or a token. -/
structure Head (s : List UInt8) (p : Nat) (o : List (TK × Nat)) (q : Nat) (T : TK) (o' : List (TK × Nat)) : Prop where
  le : p ≤ q
  hi : q + T.text.length ≤ s.length
  bl : ∀ j (h : j < s.length), p ≤ j → j < q → blankB s[j] = true
  eq : o = (T, q) :: o'
  at_end : T.text.length = 0 → q = s.length ∧ o' = [] ∧ T = tk0
  tok : 0 < T.text.length → nextT (s.drop q) = (0, T) ∧ (s.drop q).take T.text.length = T.text ∧ ¬ T.kind = 0 ∧ rdT (q + T.text.length) (s.drop (q + T.text.length)) = ((0, 0), o') ∧ o' ≠ []
theorem rd_head (s : List UInt8) (n : Nat) : ∀ (p : Nat) (o : List (TK × Nat)), s.length - p ≤ n → p ≤ s.length → rdT p (s.drop p) = ((0, 0), o) → ∃ q T o', Head s p o q T o' := by
  induction n with
  | zero =>
    intro p o hn hp h
    have : p = s.length := by omega
    subst this
    rw [List.drop_length, rdT_nil] at h
    simp only [Prod.mk.injEq, true_and] at h
    exact ⟨_, _, [], Nat.le_refl _, by simp [tk0], fun j hj h1 h2 => by omega, h.symm, fun _ => ⟨rfl, rfl, rfl⟩, fun h => by simp [tk0] at h⟩
  | succ n ih =>
    intro p o hn hp h
    by_cases hlt : p < s.length
    · rw [List.drop_eq_getElem_cons hlt] at h
      cases hb : blankB s[p]
      · by_cases h0 : (nextT (s[p] :: s.drop (p + 1))).1 = 0
        · rw [rdT_tok hb h0, ← List.drop_eq_getElem_cons hlt] at h
          rw [← List.drop_eq_getElem_cons hlt] at h0
          have ht := next_text h0
          obtain ⟨T, hT⟩ : ∃ T, nextT (s.drop p) = (0, T) := ⟨_, Prod.ext h0 rfl⟩
          rw [hT] at h ht
          simp only [List.drop_drop, List.length_drop] at h ht
          obtain ⟨_, h2, h3⟩ := nextT_self hT
          have he : (rdT (p + T.text.length) (s.drop (p + T.text.length))).1 = (0, 0) := by
            have := congrArg Prod.fst h; exact this
          have ho : (rdT (p + T.text.length) (s.drop (p + T.text.length))).2 ≠ [] := (rdT_ne _ _ _ (Nat.le_refl _) (by rw [he])).1
          refine ⟨p, T, _, Nat.le_refl _, by omega, fun j hj h1 h2 => by omega, (congrArg Prod.snd h).symm, fun h => by omega, fun _ => ⟨hT, h2, by omega, Prod.ext he rfl, ho⟩⟩
        · rw [rdT_err hb h0] at h
          simp only [Prod.mk.injEq] at h
          exact absurd h.1.1 h0
      · rw [rdT_blank hb] at h
        obtain ⟨q, T, o', H⟩ := ih (p + 1) o (by omega) hlt h
        refine ⟨q, T, o', by have := H.le; omega, H.hi, fun j hj h1 h2 => ?_, H.eq, H.at_end, H.tok⟩
        by_cases hjp : j = p
        · subst hjp; exact hb
        · exact H.bl j hj (by omega) h2
    · have : p = s.length := by omega
      subst this
      rw [List.drop_length, rdT_nil] at h
      simp only [Prod.mk.injEq, true_and] at h
      exact ⟨_, _, [], Nat.le_refl _, by simp [tk0], fun j hj h1 h2 => by omega, h.symm, fun _ => ⟨rfl, rfl, rfl⟩, fun h => by simp [tk0] at h⟩

theorem readT_err {l : List UInt8} (h : ¬ (readT l).1.1 = 0) : (readT l).2 = [] ∧ (readT l).1.2 ≤ l.length := by
  unfold readT at h ⊢
  by_cases hl : 512 < l.length
  · rw [if_pos hl]; simp
  · rw [if_neg hl] at h ⊢
    refine ⟨by simp only; rw [if_neg h], ?_⟩
    have := rdT_place _ 0 l (Nat.le_refl _)
    simp only; omega
theorem readT_ok {l : List UInt8} (h : (readT l).1.1 = 0) : (readT l).1.2 = 0 ∧ rdT 0 l = ((0, 0), (readT l).2) ∧ (readT l).2 ≠ [] ∧ l.length ≤ 512 := by
  unfold readT at h ⊢
  by_cases hl : 512 < l.length
  · rw [if_pos hl] at h; simp at h
  · rw [if_neg hl] at h ⊢
    simp only at h ⊢
    have h2 := rdT_ne _ 0 l (Nat.le_refl _) h
    refine ⟨h2.2, ?_, by rw [if_pos h]; exact h2.1, by omega⟩
    rw [if_pos h]
    exact Prod.ext (Prod.ext h h2.2) rfl

/-- Another beginning: the places move. -/
def moved (d : Nat) (o : List (TK × Nat)) : List (TK × Nat) := o.map fun x => (x.1, x.2 + d)
theorem rdT_move (d : Nat) (n : Nat) : ∀ (at_ : Nat) (l : List UInt8), l.length ≤ n → rdT (at_ + d) l = (if (rdT at_ l).1.1 = 0 then (0, 0) else ((rdT at_ l).1.1, (rdT at_ l).1.2 + d), moved d (rdT at_ l).2) := by
  induction n with
  | zero =>
    intro at_ l hl
    have : l = [] := List.eq_nil_of_length_eq_zero (by omega)
    subst this
    simp [rdT_nil, moved]
  | succ n ih =>
    intro at_ l hl
    cases l with
    | nil => simp [rdT_nil, moved]
    | cons c r =>
      simp only [List.length_cons] at hl
      cases hb : blankB c
      · by_cases h0 : (nextT (c :: r)).1 = 0
        · have := next_text h0
          rw [rdT_tok hb h0, rdT_tok hb h0]
          have h2 := ih (at_ + (nextT (c :: r)).2.text.length) ((c :: r).drop (nextT (c :: r)).2.text.length) (by simp; omega)
          rw [show at_ + d + (nextT (c :: r)).2.text.length = at_ + (nextT (c :: r)).2.text.length + d by omega, h2]
          simp [moved]
        · rw [rdT_err hb h0, rdT_err hb h0]; simp [h0, moved]
      · rw [rdT_blank hb, rdT_blank hb, show at_ + d + 1 = at_ + 1 + d by omega]
        exact ih _ _ (by omega)
/-- Two texts with a blank between. -/
theorem rdT_two {b : UInt8} (t : List UInt8) (hb : blankB b = true) (n : Nat) : ∀ (at_ : Nat) (l : List UInt8), l.length ≤ n →
    ((rdT at_ l).1.1 = 0 → ∃ o, (rdT at_ l).2 = o ++ [(tk0, at_ + l.length)] ∧ rdT at_ (l ++ b :: t) = ((rdT (at_ + l.length + 1) t).1, o ++ (rdT (at_ + l.length + 1) t).2)) ∧
    (¬ (rdT at_ l).1.1 = 0 → (rdT at_ (l ++ b :: t)).1 = (rdT at_ l).1) := by
  induction n with
  | zero =>
    intro at_ l hl
    have : l = [] := List.eq_nil_of_length_eq_zero (by omega)
    subst this
    refine ⟨fun _ => ⟨[], by rw [rdT_nil]; rfl, by rw [List.nil_append, rdT_blank hb]; rfl⟩, fun h => by rw [rdT_nil] at h; simp at h⟩
  | succ n ih =>
    intro at_ l hl
    cases l with
    | nil => refine ⟨fun _ => ⟨[], by rw [rdT_nil]; rfl, by rw [List.nil_append, rdT_blank hb]; rfl⟩, fun h => by rw [rdT_nil] at h; simp at h⟩
    | cons c r =>
      simp only [List.length_cons] at hl
      have hsep := nextT_sep t hb (l := c :: r) (by simp)
      rw [List.cons_append] at hsep
      cases hb' : blankB c
      · by_cases h0 : (nextT (c :: r)).1 = 0
        · have hlen := next_text h0
          have h0' : (nextT (c :: (r ++ b :: t))).1 = 0 := by rw [hsep]; exact h0
          have hih := ih (at_ + (nextT (c :: r)).2.text.length) ((c :: r).drop (nextT (c :: r)).2.text.length) (by simp; omega)
          have e1 : (c :: (r ++ b :: t)).drop (nextT (c :: r)).2.text.length = (c :: r).drop (nextT (c :: r)).2.text.length ++ b :: t := by
            rw [← List.cons_append, List.drop_append_of_le_length hlen.2]
          rw [List.cons_append, rdT_tok hb' h0', rdT_tok hb' h0, hsep, e1]
          have e2 : at_ + (nextT (c :: r)).2.text.length + ((c :: r).drop (nextT (c :: r)).2.text.length).length = at_ + (c :: r).length := by rw [List.length_drop]; omega
          rw [e2] at hih
          refine ⟨fun h => ?_, fun h => hih.2 h⟩
          obtain ⟨o, h1, h2⟩ := hih.1 h
          exact ⟨((nextT (c :: r)).2, at_) :: o, by simp only; rw [h1]; rfl, by rw [h2]; rfl⟩
        · have h0' : ¬ (nextT (c :: (r ++ b :: t))).1 = 0 := by rw [hsep]; exact h0
          rw [List.cons_append, rdT_err hb' h0', rdT_err hb' h0, hsep]
          exact ⟨fun h => absurd h h0, fun _ => rfl⟩
      · rw [List.cons_append, rdT_blank hb', rdT_blank hb']
        have := ih (at_ + 1) r (by omega)
        rw [show at_ + 1 + r.length = at_ + (c :: r).length by simp; omega] at this
        exact this
theorem readT_two {s t : List UInt8} {b : UInt8} (hb : blankB b = true) (hs : s.length ≤ 255) (ht : t.length ≤ 255) :
    (¬ (readT s).1.1 = 0 → readT (s ++ b :: t) = ((readT s).1, [])) ∧
    ((readT s).1.1 = 0 → ¬ (readT t).1.1 = 0 → readT (s ++ b :: t) = (((readT t).1.1, (readT t).1.2 + (s.length + 1)), [])) ∧
    ((readT s).1.1 = 0 → (readT t).1.1 = 0 → ∃ o, (readT s).2 = o ++ [(tk0, s.length)] ∧ readT (s ++ b :: t) = ((0, 0), o ++ moved (s.length + 1) (readT t).2)) := by
  have h1 := rdT_two t hb _ 0 s (Nat.le_refl _)
  have h2 := rdT_move (s.length + 1) _ 0 t (Nat.le_refl _)
  simp only [Nat.zero_add] at h1 h2
  rw [h2] at h1
  have hl : ¬ 512 < (s ++ b :: t).length := by simp; omega
  have hl1 : ¬ 512 < s.length := by omega
  have hl2 : ¬ 512 < t.length := by omega
  unfold readT
  simp only [if_neg hl, if_neg hl1, if_neg hl2]
  refine ⟨fun h => ?_, fun h h' => ?_, fun h h' => ?_⟩
  · rw [h1.2 h, if_neg h]
  · obtain ⟨o, _, h4⟩ := h1.1 h
    rw [h4]
    simp only [if_neg h']
  · obtain ⟨o, h3, h4⟩ := h1.1 h
    refine ⟨o, by rw [if_pos h, h3], ?_⟩
    rw [h4]
    simp only [if_pos h', if_true]
/-- A token's text, alone. -/
theorem readT_alone {T : TK} (h : nextT T.text = (0, T)) (hb : blankB (T.text.headD 0) = false) (hl : T.text.length ≤ 512) : readT T.text = ((0, 0), [(T, 0), (tk0, T.text.length)]) := by
  have e : rdT 0 T.text = ((0, 0), [(T, 0), (tk0, T.text.length)]) := by
    have h0 : (nextT T.text).1 = 0 := by rw [h]
    have hn := next_text h0
    obtain ⟨c, r, hc⟩ : ∃ c r, T.text = c :: r := List.exists_cons_of_ne_nil (fun e => by rw [h, e] at hn; simp at hn)
    rw [hc] at h0 hb
    have h1 := rdT_tok (at_ := 0) (c := c) (r := r) hb h0
    rw [← hc, h, List.drop_length, rdT_nil, Nat.zero_add] at h1
    exact h1
  unfold readT
  rw [if_neg (by omega), e]
  rfl
end Go.Proofs.YtlhhnhbmiamhkaaDoor
