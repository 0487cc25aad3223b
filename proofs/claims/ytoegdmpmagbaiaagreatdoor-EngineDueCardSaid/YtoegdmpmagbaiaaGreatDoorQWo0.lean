/- Words in plain: what makes a list of points the word of some events. -/
import Derived.Test.YtoegdmpmagbaiaaGreatDoorQW6
namespace Go.Proofs.YtoegdmpmagbaiaaGreatDoor
open Go.RowKit Go.Sort Go.Lib

theorem rightB_at {l : List PP} (h : rightB l = true) {k : Nat} (hk : k < l.length) : okAt l k l[k] = true := by
  unfold rightB at h
  rw [List.all_eq_true] at h
  have := h k (by simpa using hk)
  rwa [List.getD_eq_getElem?_getD, List.getElem?_eq_getElem hk] at this
theorem rightB_iff (l : List PP) : rightB l = true ↔ Asc l ∧ ∀ x ∈ l, nmOk x.name = true := by
  constructor
  · intro h
    have H := fun k (hk : k < l.length) => rightB_at h (k := k) hk
    refine ⟨?_, ?_⟩
    · unfold Asc
      rw [List.pairwise_iff_getElem]
      intro i j hi hj hij
      induction j with
      | zero => omega
      | succ j ih =>
        have h1 := H (j + 1) hj
        rw [okAt_succ (by omega), Bool.and_eq_true] at h1
        have h2 : plt l[j] l[j + 1] := (paheadB_iff _ _).1 h1.2
        rcases Nat.lt_succ_iff_lt_or_eq.1 hij with h3 | h3
        · exact plt_trans (ih (by omega) h3) h2
        · subst h3; exact h2
    · intro x hx
      obtain ⟨k, hk, rfl⟩ := List.getElem_of_mem hx
      have h1 := H k hk
      unfold okAt at h1
      rw [Bool.and_eq_true] at h1
      exact h1.1
  · rintro ⟨h1, h2⟩
    refine rightB_true fun k hk => ?_
    cases k with
    | zero => rw [okAt_zero]; exact h2 _ (List.getElem_mem hk)
    | succ k =>
      rw [okAt_succ (by omega), h2 _ (List.getElem_mem hk), Bool.true_and, paheadB_iff]
      exact List.pairwise_iff_getElem.1 h1 k (k + 1) (by omega) hk (by omega)
theorem wRight_iff (W : List Pt) : wRightB W = true ↔ (W.Pairwise fun p q => p.1 < q.1) ∧ ∀ p ∈ W, 0 ≤ p.1 ∧ rightB p.2 = true := by
  constructor
  · intro h
    refine ⟨?_, fun p hp => ?_⟩
    · rw [List.pairwise_iff_getElem]
      intro i j hi hj hij
      exact wRight_lt h hij hj
    · obtain ⟨k, hk, rfl⟩ := List.getElem_of_mem hp
      have h1 := wRight_at h hk
      unfold okPt at h1
      simp only [Bool.and_eq_true] at h1
      exact ⟨by have := h1.1.1; simp at this; exact this, h1.2⟩
  · rintro ⟨h1, h2⟩
    refine wRight_true fun k hk => ?_
    have h3 := h2 _ (List.getElem_mem hk)
    cases k with
    | zero => rw [okPt_zero, h3.2]; simp; exact h3.1
    | succ k =>
      have h4 := List.pairwise_iff_getElem.1 h1 k (k + 1) (by omega) hk (by omega)
      rw [okPt_succ (by omega), h3.2]
      simp
      exact ⟨h3.1, h4⟩
/-- May an event be put into a word? -/
def goodE (e : Pt) : Bool := decide (0 ≤ e.1) && rightB (lof e.2)
theorem goodE_iff (e : Pt) : goodE e = true ↔ 0 ≤ e.1 ∧ ∀ x ∈ e.2, nmOk x.name = true := by
  unfold goodE
  rw [Bool.and_eq_true, rightB_iff]
  simp only [decide_eq_true_eq]
  exact ⟨fun h => ⟨h.1, fun x hx => h.2.2 x ((lof_mem _ _).2 hx)⟩, fun h => ⟨h.1, lof_asc _, fun x hx => h.2 x ((lof_mem _ _).1 hx)⟩⟩
/-- The word of some events. -/
structure IsWord (E W : List Pt) : Prop where
  up : W.Pairwise fun p q => p.1 < q.1
  asc : ∀ p ∈ W, Asc p.2
  mem : ∀ p ∈ W, ∀ x, x ∈ p.2 ↔ ∃ e ∈ E, goodE e = true ∧ e.1 = p.1 ∧ x ∈ e.2
  src : ∀ p ∈ W, ∃ e ∈ E, goodE e = true ∧ e.1 = p.1
  has : ∀ e ∈ E, goodE e = true → ∃ p ∈ W, p.1 = e.1
theorem IsWord.of_mem {E E' W : List Pt} (h : IsWord E W) (hE : ∀ e, goodE e = true → (e ∈ E ↔ e ∈ E')) : IsWord E' W :=
  ⟨h.up, h.asc, fun p hp x => (h.mem p hp x).trans ⟨fun ⟨e, he, hg, h1⟩ => ⟨e, (hE e hg).1 he, hg, h1⟩, fun ⟨e, he, hg, h1⟩ => ⟨e, (hE e hg).2 he, hg, h1⟩⟩,
    fun p hp => let ⟨e, he, hg, h1⟩ := h.src p hp; ⟨e, (hE e hg).1 he, hg, h1⟩, fun e he hg => h.has e ((hE e hg).2 he) hg⟩
theorem IsWord.right {E W : List Pt} (h : IsWord E W) : wRightB W = true := by
  rw [wRight_iff]
  refine ⟨h.up, fun p hp => ?_⟩
  obtain ⟨e, _, hg, h1⟩ := h.src p hp
  refine ⟨by have := ((goodE_iff e).1 hg).1; omega, (rightB_iff _).2 ⟨h.asc p hp, fun x hx => ?_⟩⟩
  obtain ⟨e', _, hg', _, hx'⟩ := (h.mem p hp x).1 hx
  exact ((goodE_iff e').1 hg').2 x hx'
theorem IsWord.core {E A M B : List Pt} {t : Int} {ps : List PP} (h : IsWord E (A ++ (M ++ B))) (hA : ∀ p ∈ A, p.1 < t) (hB : ∀ p ∈ B, t < p.1) (hM : ∀ p ∈ M, p.1 = t) (hg : goodE (t, ps) = true) :
    IsWord (E ++ [(t, ps)]) (A ++ (t, lof (M.flatMap (fun m => m.2) ++ ps)) :: B) := by
  have up := h.up
  rw [List.pairwise_append, List.pairwise_append] at up
  obtain ⟨ua, ⟨_, ub, _⟩, _⟩ := up
  have inW : ∀ p, p ∈ A ∨ p ∈ B → p ∈ A ++ (M ++ B) ∧ p.1 ≠ t := fun p hp => by
    rcases hp with hp | hp
    · exact ⟨by simp [hp], by have := hA p hp; omega⟩
    · exact ⟨by simp [hp], by have := hB p hp; omega⟩
  refine ⟨?_, fun p hp => ?_, fun p hp x => ?_, fun p hp => ?_, fun e he hge => ?_⟩
  · rw [List.pairwise_append, List.pairwise_cons]
    refine ⟨ua, ⟨fun q hq => hB q hq, ub⟩, fun p hp q hq => ?_⟩
    have := hA p hp
    rcases List.mem_cons.1 hq with rfl | hq
    · exact this
    · have := hB q hq; omega
  · rw [List.mem_append, List.mem_cons] at hp
    rcases hp with hp | rfl | hp
    · exact h.asc p (inW p (.inl hp)).1
    · exact lof_asc _
    · exact h.asc p (inW p (.inr hp)).1
  · have far : p ∈ A ∨ p ∈ B → (x ∈ p.2 ↔ ∃ e ∈ E ++ [(t, ps)], goodE e = true ∧ e.1 = p.1 ∧ x ∈ e.2) := fun hp => by
      obtain ⟨h1, h2⟩ := inW p hp
      rw [h.mem p h1]
      constructor
      · rintro ⟨e, he, hh⟩
        exact ⟨e, by simp [he], hh⟩
      · rintro ⟨e, he, hge, het, hx⟩
        rcases List.mem_append.1 he with he | he
        · exact ⟨e, he, hge, het, hx⟩
        · rw [List.mem_singleton] at he
          subst he
          exact absurd het.symm h2
    rw [List.mem_append, List.mem_cons] at hp
    rcases hp with hp | rfl | hp
    · exact far (.inl hp)
    · dsimp only
      rw [lof_mem, List.mem_append, List.mem_flatMap]
      constructor
      · rintro (⟨m, hm, hx⟩ | hx)
        · obtain ⟨e, he, hge, het, hx⟩ := (h.mem m (by simp [hm]) x).1 hx
          exact ⟨e, by simp [he], hge, by rw [het, hM m hm], hx⟩
        · exact ⟨(t, ps), by simp, hg, rfl, hx⟩
      · rintro ⟨e, he, hge, het, hx⟩
        rcases List.mem_append.1 he with he | he
        · obtain ⟨q, hq, hqt⟩ := h.has e he hge
          have hqM : q ∈ M := by
            rw [List.mem_append, List.mem_append] at hq
            rcases hq with hq | hq | hq
            · have := hA q hq; omega
            · exact hq
            · have := hB q hq; omega
          exact .inl ⟨q, hqM, (h.mem q (by simp [hqM]) x).2 ⟨e, he, hge, by omega, hx⟩⟩
        · rw [List.mem_singleton] at he
          subst he
          exact .inr hx
    · exact far (.inr hp)
  · have far : p ∈ A ∨ p ∈ B → ∃ e ∈ E ++ [(t, ps)], goodE e = true ∧ e.1 = p.1 := fun hp => by
      obtain ⟨e, he, hh⟩ := h.src p (inW p hp).1
      exact ⟨e, by simp [he], hh⟩
    rw [List.mem_append, List.mem_cons] at hp
    rcases hp with hp | rfl | hp
    · exact far (.inl hp)
    · exact ⟨(t, ps), by simp, hg, rfl⟩
    · exact far (.inr hp)
  · rcases List.mem_append.1 he with he | he
    · obtain ⟨q, hq, hqt⟩ := h.has e he hge
      rw [List.mem_append, List.mem_append] at hq
      rcases hq with hq | hq | hq
      · exact ⟨q, by simp [hq], hqt⟩
      · exact ⟨(t, lof (M.flatMap (fun m => m.2) ++ ps)), by simp, by rw [← hqt, hM q hq]⟩
      · exact ⟨q, by simp [hq], hqt⟩
    · rw [List.mem_singleton] at he
      subst he
      exact ⟨(t, lof (M.flatMap (fun m => m.2) ++ ps)), by simp, rfl⟩
theorem IsWord.put {E W : List Pt} (h : IsWord E W) (t : Int) (ps : List PP) : IsWord (E ++ [(t, ps)]) (putW W t ps).1 := by
  have hr := h.right
  unfold putW
  rw [if_neg (by rw [hr]; simp)]
  cases hg : (decide (0 ≤ t) && rightB (lof ps))
  · rw [if_pos rfl]
    refine h.of_mem fun e he => ?_
    rw [List.mem_append, List.mem_singleton]
    constructor
    · exact .inl
    · rintro (h1 | rfl)
      · exact h1
      · unfold goodE at he; rw [he] at hg; cases hg
  · rw [if_neg (by simp)]
    have hge : goodE (t, ps) = true := hg
    have hA : ∀ p ∈ W.take (fromI W t), p.1 < t := fun p hp => by
      obtain ⟨j, hj, rfl⟩ := List.getElem_of_mem hp
      rw [List.length_take] at hj
      obtain ⟨h1, h2⟩ := fromI_lt (show j < fromI W t by omega)
      rw [List.getElem_take]; exact h2
    have hup : ∀ (k j : Nat) (hj : j < W.length) (hkj : k < j), (W[k]'(by omega)).1 < W[j].1 := fun k j hj hkj => List.pairwise_iff_getElem.1 h.up k j (by omega) hj hkj
    split
    · rename_i hx
      obtain ⟨hk, ht⟩ := hx
      have hB : ∀ p ∈ W.drop (fromI W t + 1), t < p.1 := fun p hp => by
        obtain ⟨j, hj, rfl⟩ := List.getElem_of_mem hp
        rw [List.length_drop] at hj
        rw [List.getElem_drop]
        have := hup (fromI W t) (fromI W t + 1 + j) (by omega) (by omega)
        rw [ht] at this
        exact this
      have e1 : W = W.take (fromI W t) ++ ([W[fromI W t]] ++ W.drop (fromI W t + 1)) := by
        rw [List.singleton_append, List.getElem_cons_drop, List.take_append_drop]
      have hc := IsWord.core (ps := ps) (e1 ▸ h : IsWord E (W.take (fromI W t) ++ ([W[fromI W t]] ++ W.drop (fromI W t + 1)))) hA hB (fun p hp => by rw [List.mem_singleton] at hp; subst hp; exact ht) hge
      dsimp only
      rw [List.set_eq_take_append_cons_drop, if_pos hk]
      simpa using hc
    · rename_i hx
      have hB : ∀ p ∈ W.drop (fromI W t), t < p.1 := fun p hp => by
        obtain ⟨j, hj, rfl⟩ := List.getElem_of_mem hp
        rw [List.length_drop] at hj
        rw [List.getElem_drop]
        have hk : fromI W t < W.length := by omega
        have h1 := fromI_ge hk
        have h2 : W[fromI W t].1 ≠ t := fun e => hx ⟨hk, e⟩
        cases j with
        | zero => simp only [Nat.add_zero]; omega
        | succ j =>
          have := hup (fromI W t) (fromI W t + (j + 1)) (by omega) (by omega)
          omega
      have e1 : W = W.take (fromI W t) ++ ([] ++ W.drop (fromI W t)) := by rw [List.nil_append, List.take_append_drop]
      have hc := IsWord.core (ps := ps) (e1 ▸ h : IsWord E (W.take (fromI W t) ++ ([] ++ W.drop (fromI W t)))) hA hB (fun p hp => by cases hp) hge
      simpa using hc
end Go.Proofs.YtoegdmpmagbaiaaGreatDoor
