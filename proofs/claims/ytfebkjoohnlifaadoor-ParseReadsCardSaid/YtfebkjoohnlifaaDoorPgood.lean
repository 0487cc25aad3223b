/- What a text is parsed as; texts in parentheses. Plain. -/
import Derived.Test.YtfebkjoohnlifaaDoorQ1
import Derived.Test.YtfebkjoohnlifaaDoorTone
import Derived.Test.YtfebkjoohnlifaaDoorFcheck
import Derived.Test.YtfebkjoohnlifaaDoorPall
namespace Go.Proofs.YtfebkjoohnlifaaDoor
open Go.RowKit

/-- A token as a text has it. -/
structure TG (t : TK) : Prop where
  ok : TOk t
  kind : t.kind = 1 ∨ t.kind = 2 ∨ t.kind = 3
  word : t.kind = 1 → ∃ c r, t.text = c :: r ∧ smallB c = true ∧ (∀ d ∈ r, wordB d = true) ∧ t.text.length ≤ 12
theorem valB_I64 {b : Bool} {n : Nat} : I64 (vres (valB b n)).2 := by
  unfold valB vres I64
  cases b
  · by_cases h : n ≤ 9223372036854775807
    · simp only [Bool.false_eq_true, if_false, h, if_true]; omega
    · simp only [Bool.false_eq_true, if_false, h]; omega
  · by_cases h : n ≤ 9223372036854775808
    · simp only [if_true, h]; omega
    · simp only [if_true, h, if_false]; omega
theorem numVal_I64 (l : List UInt8) : I64 (numVal l).2 := by
  unfold numVal
  dsimp only
  generalize (if (l.head? == some 45) = true then l.tail else l) = d
  by_cases h : (d.head? == some 48 && (l.head? == some 45 || decide (1 < d.length))) = true
  · rw [if_pos h]; exact i64_0
  · rw [if_neg h]; exact valB_I64
theorem nextT_good {l : List UInt8} (h : (nextT l).1 = 0) (hl : l.length ≤ 512) : TG (nextT l).2 := by
  have ht := next_text h
  have htl : (nextT l).2.text.length ≤ 512 := by omega
  cases l with
  | nil => simp [nextT] at h
  | cons c r =>
    by_cases h1 : smallB c = true
    · have e : nextT (c :: r) = if 12 < (r.takeWhile wordB).length + 1 then (21, ⟨0, [], 0⟩) else (0, ⟨1, (c :: r).take ((r.takeWhile wordB).length + 1), 0⟩) := by
        unfold nextT; simp only [h1, if_true]
      rw [e] at h htl ⊢
      by_cases h2 : 12 < (r.takeWhile wordB).length + 1
      · rw [if_pos h2] at h; simp at h
      · rw [if_neg h2, List.take_succ_cons, takeWhile_take] at htl ⊢
        exact ⟨⟨htl, i64_0⟩, .inl rfl, fun _ => ⟨c, _, rfl, h1, fun d hd => by have := List.all_takeWhile (l := r) (p := wordB); rw [List.all_eq_true] at this; exact this d hd, by simp only [List.length_cons]; omega⟩⟩
    · by_cases h2 : 0 < numLen (c :: r)
      · have e : nextT (c :: r) = if (numVal ((c :: r).take (numLen (c :: r)))).1 = 0 then (0, ⟨2, (c :: r).take (numLen (c :: r)), (numVal ((c :: r).take (numLen (c :: r)))).2⟩) else ((numVal ((c :: r).take (numLen (c :: r)))).1, ⟨0, [], 0⟩) := by
          unfold nextT; simp only [h1, Bool.false_eq_true, if_false]; rw [if_pos h2]
        rw [e] at h htl ⊢
        by_cases h3 : (numVal ((c :: r).take (numLen (c :: r)))).1 = 0
        · rw [if_pos h3] at htl ⊢
          exact ⟨⟨htl, numVal_I64 _⟩, .inr (.inl rfl), fun e => by simp at e⟩
        · rw [if_neg h3] at h; exact absurd h h3
      · have e : nextT (c :: r) = if 0 < signLen (c :: r) then (0, ⟨3, (c :: r).take (signLen (c :: r)), 0⟩) else (20, ⟨0, [], 0⟩) := by
          unfold nextT; simp only [h1, Bool.false_eq_true, if_false]; rw [if_neg h2]
        rw [e] at h htl ⊢
        by_cases h3 : 0 < signLen (c :: r)
        · rw [if_pos h3] at htl ⊢
          exact ⟨⟨htl, i64_0⟩, .inr (.inr rfl), fun e => by simp at e⟩
        · rw [if_neg h3] at h; simp at h
/-- A text's tokens. -/
structure TL (at_ n : Nat) (o : List (TK × Nat)) : Prop where
  len : o.length ≤ n + 1
  ends : ∃ us p, o = us ++ [(tk0, p)] ∧ ∀ x ∈ us, TG x.1
  place : ∀ x ∈ o, at_ ≤ x.2 ∧ x.2 ≤ at_ + n
theorem rdT_tl (n : Nat) : ∀ (at_ : Nat) (l : List UInt8), l.length ≤ n → l.length ≤ 512 → (rdT at_ l).1.1 = 0 → TL at_ l.length (rdT at_ l).2 := by
  induction n with
  | zero =>
    intro at_ l hl _ _
    have : l = [] := List.eq_nil_of_length_eq_zero (by omega)
    subst this
    rw [rdT_nil]
    exact ⟨by simp, ⟨[], at_, rfl, by simp⟩, by simp⟩
  | succ n ih =>
    intro at_ l hl h5 h
    cases l with
    | nil => rw [rdT_nil]; exact ⟨by simp, ⟨[], at_, rfl, by simp⟩, by simp⟩
    | cons c r =>
      simp only [List.length_cons] at hl h5
      cases hb : blankB c
      · by_cases h0 : (nextT (c :: r)).1 = 0
        · rw [rdT_tok hb h0] at h ⊢
          have ht := next_text h0
          have hg := nextT_good h0 (by simpa using h5)
          simp only [List.length_cons] at ht
          obtain ⟨i1, ⟨us, p, i2, i3⟩, i4⟩ := ih _ _ (by simp; omega) (by simp; omega) h
          simp only [List.length_drop, List.length_cons] at i1 i4
          refine ⟨by simp only [List.length_cons]; omega, ⟨((nextT (c :: r)).2, at_) :: us, p, by rw [i2]; rfl, ?_⟩, ?_⟩
          · intro x hx
            rcases List.mem_cons.1 hx with rfl | hx
            · exact hg
            · exact i3 x hx
          · intro x hx
            simp only [List.length_cons]
            rcases List.mem_cons.1 hx with rfl | hx
            · simp only; omega
            · have := i4 x hx; omega
        · rw [rdT_err hb h0] at h
          exact absurd h h0
      · rw [rdT_blank hb] at h ⊢
        obtain ⟨i1, i2, i4⟩ := ih _ _ (by omega) (by omega) h
        refine ⟨by simp only [List.length_cons]; omega, i2, fun x hx => ?_⟩
        have := i4 x hx
        simp only [List.length_cons]; omega
theorem readT_tl {l : List UInt8} (h : (readT l).1.1 = 0) : TL 0 l.length (readT l).2 := by
  obtain ⟨_, h2, _, h4⟩ := readT_ok h
  have := rdT_tl _ 0 l (Nat.le_refl _) h4 (by rw [h2])
  rw [h2] at this; exact this
theorem readT_toks {l : List UInt8} (h : (readT l).1.1 = 0) : Toks (readT l).2 := by
  have ht := readT_tl h
  obtain ⟨us, p, h1, h2⟩ := ht.ends
  refine ⟨by have := ht.len; have := (readT_ok h).2.2.2; omega, ⟨us, p, h1⟩, fun t ht => ?_⟩
  rw [h1] at ht
  rcases List.mem_append.1 ht with h3 | h3
  · exact (h2 t h3).ok
  · simp only [List.mem_singleton] at h3
    subst h3
    exact ⟨by simp [tk0], i64_0⟩
/-- What comes of a text. -/
inductive PQ where
  | good (x : Nd) (ks : Tr)
  | bad (e : Int) (p : Nat)
inductive ParseIs (l : List UInt8) : PQ → Prop where
  | lex (h : ¬ (readT l).1.1 = 0) : ParseIs l (.bad (readT l).1.1 (readT l).1.2)
  | wrong {e : Int} {k : Nat} (h : (readT l).1.1 = 0) (hk : k < (readT l).2.length) (hr : Reads (.lev 1 (remT (readT l).2 0)) (.bad e (remT (readT l).2 k))) : ParseIs l (.bad e (readT l).2[k].2)
  | more {x : Nd} {ks : Tr} {k : Nat} (h : (readT l).1.1 = 0) (hk : k < (readT l).2.length) (hr : Reads (.lev 1 (remT (readT l).2 0)) (.ok x ks (remT (readT l).2 k))) (h0 : ¬ (readT l).2[k].1.kind = 0) : ParseIs l (.bad 20 (readT l).2[k].2)
  | big {x : Nd} {ks : Tr} {k : Nat} (h : (readT l).1.1 = 0) (hk : k < (readT l).2.length) (hr : Reads (.lev 1 (remT (readT l).2 0)) (.ok x ks (remT (readT l).2 k))) (h0 : (readT l).2[k].1.kind = 0) (hc : ¬ checkT x ks = 0) : ParseIs l (.bad (checkT x ks) 0)
  | good {x : Nd} {ks : Tr} {k : Nat} (h : (readT l).1.1 = 0) (hk : k < (readT l).2.length) (hr : Reads (.lev 1 (remT (readT l).2 0)) (.ok x ks (remT (readT l).2 k))) (h0 : (readT l).2[k].1.kind = 0) (hc : checkT x ks = 0) : ParseIs l (.good x ks)
theorem reads_at {toks : List (TK × Nat)} (ht : Toks toks) {q : PR} (h : Reads (.lev 1 (remT toks 0)) q) : (∃ e k, k < toks.length ∧ q = .bad e (remT toks k)) ∨ ∃ x ks k, k < toks.length ∧ q = .ok x ks (remT toks k) := by
  have hl := reads_left h (remT_ok ht 0)
  cases q with
  | out => exact absurd rfl h.1
  | bad e r =>
    obtain ⟨j, _, h2, h3⟩ := sfx_pos ht hl.1 0 (toks_pos ht) rfl
    exact .inl ⟨e, j, h2, by rw [h3]⟩
  | ok x ks r =>
    obtain ⟨j, _, h2, h3⟩ := sfx_pos ht hl.1 0 (toks_pos ht) rfl
    exact .inr ⟨x, ks, j, h2, by rw [h3]⟩
theorem parse_all (l : List UInt8) : ∃ q, ParseIs l q := by
  by_cases h : (readT l).1.1 = 0
  · have ht := readT_toks h
    obtain ⟨q, hq⟩ := reads_lev (remT (readT l).2 0) (remT_ok ht 0) 1 (by decide) (by decide)
    rcases reads_at ht hq with ⟨e, k, hk, rfl⟩ | ⟨x, ks, k, hk, rfl⟩
    · exact ⟨_, .wrong h hk hq⟩
    · by_cases h0 : (readT l).2[k].1.kind = 0
      · by_cases hc : checkT x ks = 0
        · exact ⟨_, .good h hk hq h0 hc⟩
        · exact ⟨_, .big h hk hq h0 hc⟩
      · exact ⟨_, .more h hk hq h0⟩
  · exact ⟨_, .lex h⟩
theorem remT_inj' {toks : List (TK × Nat)} {k k' : Nat} (h : k < toks.length) (h' : k' < toks.length) (e : remT toks k = remT toks k') : k = k' := by
  have := congrArg List.length e
  rw [remT_len, remT_len] at this; omega
theorem ParseIs.uniq {l : List UInt8} {p q : PQ} (hp : ParseIs l p) (hq : ParseIs l q) : p = q := by
  cases hp with
  | lex h => cases hq with
    | lex => rfl
    | wrong h2 => exact absurd h2 h
    | more h2 => exact absurd h2 h
    | big h2 => exact absurd h2 h
    | good h2 => exact absurd h2 h
  | wrong h hk hr => cases hq with
    | lex h2 => exact absurd h h2
    | wrong _ hk2 hr2 =>
      have := hr.uniq hr2
      simp only [PR.bad.injEq] at this
      obtain ⟨rfl, h3⟩ := this
      have := remT_inj' hk hk2 h3
      subst this; rfl
    | more _ _ hr2 => exact absurd (hr.uniq hr2) (by simp)
    | big _ _ hr2 => exact absurd (hr.uniq hr2) (by simp)
    | good _ _ hr2 => exact absurd (hr.uniq hr2) (by simp)
  | more h hk hr h0 => cases hq with
    | lex h2 => exact absurd h h2
    | wrong _ _ hr2 => exact absurd (hr.uniq hr2) (by simp)
    | more _ hk2 hr2 =>
      have := hr.uniq hr2
      simp only [PR.ok.injEq] at this
      obtain ⟨rfl, rfl, h3⟩ := this
      have := remT_inj' hk hk2 h3
      subst this; rfl
    | big _ hk2 hr2 h02 =>
      have := hr.uniq hr2
      simp only [PR.ok.injEq] at this
      obtain ⟨rfl, rfl, h3⟩ := this
      have := remT_inj' hk hk2 h3
      subst this; exact absurd h02 h0
    | good _ hk2 hr2 h02 =>
      have := hr.uniq hr2
      simp only [PR.ok.injEq] at this
      obtain ⟨rfl, rfl, h3⟩ := this
      have := remT_inj' hk hk2 h3
      subst this; exact absurd h02 h0
  | big h hk hr h0 hc => cases hq with
    | lex h2 => exact absurd h h2
    | wrong _ _ hr2 => exact absurd (hr.uniq hr2) (by simp)
    | more _ hk2 hr2 h02 =>
      have := hr.uniq hr2
      simp only [PR.ok.injEq] at this
      obtain ⟨rfl, rfl, h3⟩ := this
      have := remT_inj' hk hk2 h3
      subst this; exact absurd h0 h02
    | big _ hk2 hr2 h02 =>
      have := hr.uniq hr2
      simp only [PR.ok.injEq] at this
      obtain ⟨rfl, rfl, h3⟩ := this
      rfl
    | good _ hk2 hr2 h02 hc2 =>
      have := hr.uniq hr2
      simp only [PR.ok.injEq] at this
      obtain ⟨rfl, rfl, h3⟩ := this
      exact absurd hc2 hc
  | good h hk hr h0 hc => cases hq with
    | lex h2 => exact absurd h h2
    | wrong _ _ hr2 => exact absurd (hr.uniq hr2) (by simp)
    | more _ hk2 hr2 h02 =>
      have := hr.uniq hr2
      simp only [PR.ok.injEq] at this
      obtain ⟨rfl, rfl, h3⟩ := this
      have := remT_inj' hk hk2 h3
      subst this; exact absurd h0 h02
    | big _ hk2 hr2 h02 hc2 =>
      have := hr.uniq hr2
      simp only [PR.ok.injEq] at this
      obtain ⟨rfl, rfl, h3⟩ := this
      exact absurd hc hc2
    | good _ hk2 hr2 h02 hc2 =>
      have := hr.uniq hr2
      simp only [PR.ok.injEq] at this
      obtain ⟨rfl, rfl, h3⟩ := this
      rfl
end Go.Proofs.YtfebkjoohnlifaaDoor
namespace Go.Proofs.YtfebkjoohnlifaaDoor
open Go.RowKit

theorem bind_ok {a : PR} {f : Nd → Tr → List TK → PR} {x : Nd} {ks : Tr} {r : List TK} (h : a.bind f = .ok x ks r) : ∃ y js r1, a = .ok y js r1 ∧ f y js r1 = .ok x ks r := by
  cases a with
  | ok y js r1 => exact ⟨y, js, r1, rfl, h⟩
  | bad e r1 => cases h
  | out => cases h
theorem sbind_ok {a : SR} {f : Int → Int → List TK → PR} {x : Nd} {ks : Tr} {r : List TK} (h : a.bind f = .ok x ks r) : ∃ lo hi r1, a = .ok lo hi r1 ∧ f lo hi r1 = .ok x ks r := by
  cases a with
  | ok lo hi r1 => exact ⟨lo, hi, r1, rfl, h⟩
  | bad e r1 => cases h
/-- b is a, with a closing sign and E behind it in the end's stead. -/
def Rep (E : List TK) (a b : List TK) : Prop := ∃ us : List TK, a = us ++ [tk0] ∧ b = us ++ tS [41] :: E ∧ ∀ t ∈ us, ¬ t.kind = 0
section
variable {E a b : List TK}
theorem Rep.hd_ne (h : Rep E a b) (hk : ¬ (hd a).kind = 0) : hd b = hd a ∧ Rep E a.tail b.tail := by
  obtain ⟨us, rfl, rfl, hu⟩ := h
  cases us with
  | nil => exact absurd rfl hk
  | cons u us => exact ⟨rfl, us, rfl, rfl, fun t ht => hu t (by simp [ht])⟩
theorem Rep.hd_eq (h : Rep E a b) (hk : (hd a).kind = 0) : a = [tk0] ∧ b = tS [41] :: E := by
  obtain ⟨us, rfl, rfl, hu⟩ := h
  cases us with
  | nil => exact ⟨rfl, rfl⟩
  | cons u us => exact absurd hk (hu u (by simp))
theorem Rep.sgn_t (h : Rep E a b) {s : List UInt8} (hs : sgn a s = true) : sgn b s = true ∧ Rep E a.tail b.tail := by
  have hk := sgn_kind hs
  obtain ⟨h1, h2⟩ := h.hd_ne hk
  exact ⟨by unfold sgn at hs ⊢; rw [h1]; exact hs, h2⟩
theorem Rep.sgn_f (h : Rep E a b) {s : List UInt8} (h41 : s ≠ [41]) (hs : sgn a s = false) : sgn b s = false := by
  by_cases hk : (hd a).kind = 0
  · obtain ⟨_, rfl⟩ := h.hd_eq hk
    simp [sgn, hd, tS, h41.symm]
  · unfold sgn at hs ⊢; rw [(h.hd_ne hk).1]; exact hs
theorem Rep.kind (h : Rep E a b) {n : Int} (hn : n = 1 ∨ n = 2) (hk : (hd a).kind = n) : hd b = hd a ∧ Rep E a.tail b.tail := h.hd_ne (by omega)
theorem Rep.cmp (h : Rep E a b) : cmpOf (hd b) = cmpOf (hd a) := by
  by_cases hk : (hd a).kind = 0
  · obtain ⟨rfl, rfl⟩ := h.hd_eq hk
    rfl
  · rw [(h.hd_ne hk).1]
theorem Rep.cmp_tail (h : Rep E a b) (hc : ¬ cmpOf (hd a) = 0) : Rep E a.tail b.tail := by
  refine (h.hd_ne fun hk => hc ?_).2
  unfold cmpOf; rw [if_neg (by omega)]
theorem Rep.span (h : Rep E a b) {lo hi : Int} {r : List TK} (hs : spanP a = .ok lo hi r) : ∃ r2, spanP b = .ok lo hi r2 ∧ Rep E r r2 := by
  unfold spanP at hs
  by_cases h1 : sgn a [91] = false
  · rw [if_pos h1] at hs; cases hs
  rw [if_neg h1] at hs
  obtain ⟨g1, r1⟩ := h.sgn_t (Bool.not_eq_false _ ▸ h1)
  by_cases h2 : ¬ (hd a.tail).kind = 2 ∨ (hd a.tail).num < 0
  · rw [if_pos h2] at hs; cases hs
  rw [if_neg h2] at hs
  obtain ⟨g2, r2⟩ := r1.kind (.inr rfl) (by omega : (hd a.tail).kind = 2)
  by_cases h3 : sgn a.tail.tail [44] = false
  · rw [if_pos h3] at hs; cases hs
  rw [if_neg h3] at hs
  obtain ⟨g3, r3⟩ := r2.sgn_t (Bool.not_eq_false _ ▸ h3)
  by_cases h4 : ¬ (hd a.tail.tail.tail).kind = 2 ∨ (hd a.tail.tail.tail).num < 0
  · rw [if_pos h4] at hs; cases hs
  rw [if_neg h4] at hs
  obtain ⟨g4, r4⟩ := r3.kind (.inr rfl) (by omega : (hd a.tail.tail.tail).kind = 2)
  by_cases h5 : (hd a.tail.tail.tail).num < (hd a.tail).num
  · rw [if_pos h5] at hs; cases hs
  rw [if_neg h5] at hs
  by_cases h6 : sgn a.tail.tail.tail.tail [93] = false
  · rw [if_pos h6] at hs; cases hs
  rw [if_neg h6] at hs
  obtain ⟨g6, r6⟩ := r4.sgn_t (Bool.not_eq_false _ ▸ h6)
  cases hs
  refine ⟨b.tail.tail.tail.tail.tail, ?_, r6⟩
  unfold spanP
  rw [g2, g4, if_neg (by simp [g1]), if_neg h2, if_neg (by simp [g3]), if_neg h4, if_neg h5, if_neg (by simp [g6])]
theorem Rep.word (h : Rep E a b) {x : Nd} {ks : Tr} {r : List TK} (hs : wordP a = .ok x ks r) : ∃ r2, wordP b = .ok x ks r2 ∧ Rep E r r2 := by
  unfold wordP at hs
  by_cases h1 : ¬ (hd a).kind = 1
  · rw [if_pos h1] at hs; cases hs
  rw [if_neg h1] at hs
  obtain ⟨g1, r1⟩ := h.kind (.inl rfl) (by omega : (hd a).kind = 1)
  unfold wordP
  rw [g1, if_neg h1]
  by_cases h2 : (hd a).text = trueW
  · rw [if_pos h2] at hs ⊢; cases hs; exact ⟨_, rfl, r1⟩
  rw [if_neg h2] at hs ⊢
  by_cases h3 : (hd a).text = falseW
  · rw [if_pos h3] at hs ⊢; cases hs; exact ⟨_, rfl, r1⟩
  rw [if_neg h3] at hs ⊢
  rw [r1.cmp]
  by_cases h4 : cmpOf (hd a.tail) = 0
  · rw [if_pos h4] at hs ⊢; cases hs; exact ⟨_, rfl, r1⟩
  rw [if_neg h4] at hs ⊢
  have r2 := r1.cmp_tail h4
  by_cases h5 : ¬ (hd a.tail.tail).kind = 2
  · rw [if_pos h5] at hs; cases hs
  rw [if_neg h5] at hs
  obtain ⟨g5, r5⟩ := r2.kind (.inr rfl) (by omega : (hd a.tail.tail).kind = 2)
  rw [g5, if_neg h5]
  cases hs
  exact ⟨_, rfl, r5⟩
end
def JRep (E : List TK) : Job → Job → Prop
  | .lev l a, .lev m b => l = m ∧ Rep E a b
  | .lp l x ks a, .lp m y js b => l = m ∧ x = y ∧ ks = js ∧ Rep E a b
  | _, _ => False
def Keeps (E : List TK) (S : Job → PR) : Prop := ∀ j j', JRep E j j' → ∀ x ks r, S j = .ok x ks r → ∃ r2, S j' = .ok x ks r2 ∧ Rep E r r2
theorem lsign_ne (l : Nat) : lsign l ≠ [41] := by unfold lsign; (repeat' split) <;> decide
section
variable {E : List TK} {S : Job → PR}
theorem Keeps.lev (hS : Keeps E S) (l : Nat) {a b : List TK} (h : Rep E a b) {x : Nd} {ks : Tr} {r : List TK} (hs : S (.lev l a) = .ok x ks r) : ∃ r2, S (.lev l b) = .ok x ks r2 ∧ Rep E r r2 := hS (.lev l a) (.lev l b) ⟨rfl, h⟩ x ks r hs
theorem Keeps.lp (hS : Keeps E S) (l : Nat) (y : Nd) (js : Tr) {a b : List TK} (h : Rep E a b) {x : Nd} {ks : Tr} {r : List TK} (hs : S (.lp l y js a) = .ok x ks r) : ∃ r2, S (.lp l y js b) = .ok x ks r2 ∧ Rep E r r2 := hS (.lp l y js a) (.lp l y js b) ⟨rfl, rfl, rfl, h⟩ x ks r hs
theorem keeps_body (hS : Keeps E S) : Keeps E (bodyP S) := by
  have up : ∀ (l : Nat) (a b : List TK), Rep E a b → ∀ x ks r, ((S (.lev (l + 1) a)).bind fun x ks r => S (.lp l x ks r)) = .ok x ks r → ∃ r2, ((S (.lev (l + 1) b)).bind fun x ks r => S (.lp l x ks r)) = .ok x ks r2 ∧ Rep E r r2 := by
    intro l a b h x ks r hs
    obtain ⟨y, js, r1, h1, h2⟩ := bind_ok hs
    obtain ⟨r2, g1, g2⟩ := hS.lev _ h h1
    obtain ⟨r3, g3, g4⟩ := hS.lp _ _ _ g2 h2
    exact ⟨r3, by rw [g1]; exact g3, g4⟩
  have un : ∀ (op : Int) (a b : List TK), Rep E a b → ∀ x ks r, ((spanP a.tail).bind fun lo hi r => (S (.lev 6 r)).bind fun y js r2 => .ok (nd1 op lo hi) (one y js) r2) = .ok x ks r → Rep E a.tail b.tail → ∃ r2, ((spanP b.tail).bind fun lo hi r => (S (.lev 6 r)).bind fun y js r2 => .ok (nd1 op lo hi) (one y js) r2) = .ok x ks r2 ∧ Rep E r r2 := by
    intro op a b h x ks r hs ht
    obtain ⟨lo, hi, r1, h1, h2⟩ := sbind_ok hs
    obtain ⟨y, js, r2, h3, h4⟩ := bind_ok h2
    obtain ⟨q1, g1, k1⟩ := ht.span h1
    obtain ⟨q2, g2, k2⟩ := hS.lev _ k1 h3
    simp only [PR.ok.injEq] at h4
    obtain ⟨rfl, rfl, rfl⟩ := h4
    exact ⟨q2, by rw [g1]; show (S (.lev 6 q1)).bind _ = _; rw [g2]; rfl, k2⟩
  have bi : ∀ (op : Int) (x0 : Nd) (k0 : Tr) (a b : List TK), ∀ x ks r, ((spanP a.tail).bind fun lo hi r2 => (S (.lev 5 r2)).bind fun y js r3 => .ok (nd1 op lo hi) (two x0 k0 y js) r3) = .ok x ks r → Rep E a.tail b.tail → ∃ r2, ((spanP b.tail).bind fun lo hi r2 => (S (.lev 5 r2)).bind fun y js r3 => .ok (nd1 op lo hi) (two x0 k0 y js) r3) = .ok x ks r2 ∧ Rep E r r2 := by
    intro op x0 k0 a b x ks r hs ht
    obtain ⟨lo, hi, r1, h1, h2⟩ := sbind_ok hs
    obtain ⟨y, js, r2, h3, h4⟩ := bind_ok h2
    obtain ⟨q1, g1, k1⟩ := ht.span h1
    obtain ⟨q2, g2, k2⟩ := hS.lev _ k1 h3
    simp only [PR.ok.injEq] at h4
    obtain ⟨rfl, rfl, rfl⟩ := h4
    exact ⟨q2, by rw [g1]; show (S (.lev 5 q1)).bind _ = _; rw [g2]; rfl, k2⟩
  intro j j' hj x ks r hs
  cases j with
  | lp l y js a =>
    cases j' with
    | lev => exact hj.elim
    | lp m y' js' b =>
      obtain ⟨rfl, rfl, rfl, h⟩ := hj
      change (if sgn a (lsign l) then (S (.lev (l + 1) a.tail)).bind fun y' js' r => S (.lp l (nd1 (lop l) 0 0) (two y js y' js') r) else .ok y js a) = _ at hs
      change ∃ r2, (if sgn b (lsign l) then (S (.lev (l + 1) b.tail)).bind fun y' js' r => S (.lp l (nd1 (lop l) 0 0) (two y js y' js') r) else .ok y js b) = _ ∧ _
      cases hq : sgn a (lsign l)
      · rw [hq] at hs
        rw [h.sgn_f (lsign_ne l) hq]
        simp only [Bool.false_eq_true, if_false, PR.ok.injEq] at hs ⊢
        obtain ⟨rfl, rfl, rfl⟩ := hs
        exact ⟨b, ⟨rfl, rfl, rfl⟩, h⟩
      · obtain ⟨g, ht⟩ := h.sgn_t hq
        rw [hq, if_pos rfl] at hs
        rw [g, if_pos rfl]
        obtain ⟨y2, js2, r1, h1, h2⟩ := bind_ok hs
        obtain ⟨r2, g1, g2⟩ := hS.lev _ ht h1
        obtain ⟨r3, g3, g4⟩ := hS.lp _ _ _ g2 h2
        exact ⟨r3, by rw [g1]; exact g3, g4⟩
  | lev l a =>
    cases j' with
    | lp => exact hj.elim
    | lev m b =>
      obtain ⟨rfl, h⟩ := hj
      by_cases h7 : l = 7
      · subst h7
        change (if sgn a [40] then (S (.lev 1 a.tail)).bind fun x ks r => if sgn r [41] then .ok x ks r.tail else .bad 20 r else wordP a) = _ at hs
        change ∃ r2, (if sgn b [40] then (S (.lev 1 b.tail)).bind fun x ks r => if sgn r [41] then .ok x ks r.tail else .bad 20 r else wordP b) = _ ∧ _
        cases hq : sgn a [40]
        · rw [hq] at hs
          rw [h.sgn_f (by decide) hq]
          simp only [Bool.false_eq_true, if_false] at hs ⊢
          exact h.word hs
        · obtain ⟨g, ht⟩ := h.sgn_t hq
          rw [hq, if_pos rfl] at hs
          rw [g, if_pos rfl]
          obtain ⟨y2, js2, r1, h1, h2⟩ := bind_ok hs
          obtain ⟨r2, g1, g2⟩ := hS.lev _ ht h1
          cases hc : sgn r1 [41]
          · rw [hc] at h2; simp at h2
          · rw [hc, if_pos rfl] at h2
            obtain ⟨g3, g4⟩ := g2.sgn_t hc
            simp only [PR.ok.injEq] at h2
            obtain ⟨rfl, rfl, rfl⟩ := h2
            exact ⟨r2.tail, by rw [g1]; show (if sgn r2 [41] then _ else _) = _; rw [g3, if_pos rfl], g4⟩
      by_cases h6 : l = 6
      · subst h6
        change (if sgn a [33] then (S (.lev 6 a.tail)).bind fun y js r => .ok (nd1 4 0 0) (one y js) r
          else if sgn a [70] then (spanP a.tail).bind fun lo hi r => (S (.lev 6 r)).bind fun y js r2 => .ok (nd1 9 lo hi) (one y js) r2
          else if sgn a [71] then (spanP a.tail).bind fun lo hi r => (S (.lev 6 r)).bind fun y js r2 => .ok (nd1 10 lo hi) (one y js) r2
          else S (.lev 7 a)) = _ at hs
        change ∃ r2, (if sgn b [33] then (S (.lev 6 b.tail)).bind fun y js r => .ok (nd1 4 0 0) (one y js) r
          else if sgn b [70] then (spanP b.tail).bind fun lo hi r => (S (.lev 6 r)).bind fun y js r2 => .ok (nd1 9 lo hi) (one y js) r2
          else if sgn b [71] then (spanP b.tail).bind fun lo hi r => (S (.lev 6 r)).bind fun y js r2 => .ok (nd1 10 lo hi) (one y js) r2
          else S (.lev 7 b)) = _ ∧ _
        cases q1 : sgn a [33]
        · rw [q1] at hs
          rw [h.sgn_f (by decide) q1]
          simp only [Bool.false_eq_true, if_false] at hs ⊢
          cases q2 : sgn a [70]
          · rw [q2] at hs
            rw [h.sgn_f (by decide) q2]
            simp only [Bool.false_eq_true, if_false] at hs ⊢
            cases q3 : sgn a [71]
            · rw [q3] at hs
              rw [h.sgn_f (by decide) q3]
              simp only [Bool.false_eq_true, if_false] at hs ⊢
              exact hS.lev _ h hs
            · obtain ⟨g, ht⟩ := h.sgn_t q3
              rw [q3, if_pos rfl] at hs
              rw [g, if_pos rfl]
              exact un 10 a b h x ks r hs ht
          · obtain ⟨g, ht⟩ := h.sgn_t q2
            rw [q2, if_pos rfl] at hs
            rw [g, if_pos rfl]
            exact un 9 a b h x ks r hs ht
        · obtain ⟨g, ht⟩ := h.sgn_t q1
          rw [q1, if_pos rfl] at hs
          rw [g, if_pos rfl]
          obtain ⟨y2, js2, r1, h1, h2⟩ := bind_ok hs
          obtain ⟨r2, g1, g2⟩ := hS.lev _ ht h1
          simp only [PR.ok.injEq] at h2
          obtain ⟨rfl, rfl, rfl⟩ := h2
          exact ⟨r2, by rw [g1]; rfl, g2⟩
      by_cases h5 : l = 5
      · subst h5
        change ((S (.lev 6 a)).bind fun x ks r =>
          if sgn r [85] then (spanP r.tail).bind fun lo hi r2 => (S (.lev 5 r2)).bind fun y js r3 => .ok (nd1 11 lo hi) (two x ks y js) r3
          else if sgn r [82] then (spanP r.tail).bind fun lo hi r2 => (S (.lev 5 r2)).bind fun y js r3 => .ok (nd1 12 lo hi) (two x ks y js) r3
          else .ok x ks r) = _ at hs
        change ∃ r2, ((S (.lev 6 b)).bind fun x ks r =>
          if sgn r [85] then (spanP r.tail).bind fun lo hi r2 => (S (.lev 5 r2)).bind fun y js r3 => .ok (nd1 11 lo hi) (two x ks y js) r3
          else if sgn r [82] then (spanP r.tail).bind fun lo hi r2 => (S (.lev 5 r2)).bind fun y js r3 => .ok (nd1 12 lo hi) (two x ks y js) r3
          else .ok x ks r) = _ ∧ _
        obtain ⟨y2, js2, r1, h1, h2⟩ := bind_ok hs
        obtain ⟨p2, g1, g2⟩ := hS.lev _ h h1
        rw [g1]
        change ∃ r2, (if sgn p2 [85] then (spanP p2.tail).bind fun lo hi r2 => (S (.lev 5 r2)).bind fun y js r3 => .ok (nd1 11 lo hi) (two y2 js2 y js) r3
          else if sgn p2 [82] then (spanP p2.tail).bind fun lo hi r2 => (S (.lev 5 r2)).bind fun y js r3 => .ok (nd1 12 lo hi) (two y2 js2 y js) r3
          else .ok y2 js2 p2) = _ ∧ _
        cases q1 : sgn r1 [85]
        · rw [q1] at h2
          rw [g2.sgn_f (by decide) q1]
          simp only [Bool.false_eq_true, if_false] at h2 ⊢
          cases q2 : sgn r1 [82]
          · rw [q2] at h2
            rw [g2.sgn_f (by decide) q2]
            simp only [Bool.false_eq_true, if_false, PR.ok.injEq] at h2 ⊢
            obtain ⟨rfl, rfl, rfl⟩ := h2
            exact ⟨p2, ⟨rfl, rfl, rfl⟩, g2⟩
          · obtain ⟨g, ht⟩ := g2.sgn_t q2
            rw [q2, if_pos rfl] at h2
            rw [g, if_pos rfl]
            exact bi 12 y2 js2 r1 p2 x ks r h2 ht
        · obtain ⟨g, ht⟩ := g2.sgn_t q1
          rw [q1, if_pos rfl] at h2
          rw [g, if_pos rfl]
          exact bi 11 y2 js2 r1 p2 x ks r h2 ht
      by_cases h2' : l = 2
      · subst h2'
        change ((S (.lev 3 a)).bind fun x ks r => if sgn r [45, 62] then (S (.lev 2 r.tail)).bind fun y js r2 => .ok (nd1 7 0 0) (two x ks y js) r2 else .ok x ks r) = _ at hs
        change ∃ r2, ((S (.lev 3 b)).bind fun x ks r => if sgn r [45, 62] then (S (.lev 2 r.tail)).bind fun y js r2 => .ok (nd1 7 0 0) (two x ks y js) r2 else .ok x ks r) = _ ∧ _
        obtain ⟨y2, js2, r1, h1, h2⟩ := bind_ok hs
        obtain ⟨p2, g1, g2⟩ := hS.lev _ h h1
        rw [g1]
        change ∃ r2, (if sgn p2 [45, 62] then (S (.lev 2 p2.tail)).bind fun y js r2 => .ok (nd1 7 0 0) (two y2 js2 y js) r2 else .ok y2 js2 p2) = _ ∧ _
        cases q1 : sgn r1 [45, 62]
        · rw [q1] at h2
          rw [g2.sgn_f (by decide) q1]
          simp only [Bool.false_eq_true, if_false, PR.ok.injEq] at h2 ⊢
          obtain ⟨rfl, rfl, rfl⟩ := h2
          exact ⟨p2, ⟨rfl, rfl, rfl⟩, g2⟩
        · obtain ⟨g, ht⟩ := g2.sgn_t q1
          rw [q1, if_pos rfl] at h2
          rw [g, if_pos rfl]
          obtain ⟨y3, js3, r3, h3, h4⟩ := bind_ok h2
          obtain ⟨p3, g3, g4⟩ := hS.lev _ ht h3
          simp only [PR.ok.injEq] at h4
          obtain ⟨rfl, rfl, rfl⟩ := h4
          exact ⟨p3, by rw [g3]; rfl, g4⟩
      have e : ∀ c, bodyP S (.lev l c) = (S (.lev (l + 1) c)).bind fun x ks r => S (.lp l x ks r) := by
        intro c
        match l, h7, h6, h5, h2' with
        | 0, _, _, _, _ => rfl
        | 1, _, _, _, _ => rfl
        | 3, _, _, _, _ => rfl
        | 4, _, _, _, _ => rfl
        | n + 8, _, _, _, _ => rfl
      rw [e] at hs ⊢
      exact up l a b h x ks r hs
theorem keeps_gP : ∀ n, Keeps E (gP n)
  | 0 => fun _ _ _ _ _ _ h => by cases h
  | n + 1 => keeps_body (keeps_gP n)
end
theorem reads_close {us E : List TK} {l : Nat} {x : Nd} {ks : Tr} (hu : ∀ t ∈ us, ¬ t.kind = 0) (h : Reads (.lev l (us ++ [tk0])) (.ok x ks [tk0])) : Reads (.lev l (us ++ tS [41] :: E)) (.ok x ks (tS [41] :: E)) := by
  obtain ⟨hne, N, hN⟩ := h
  refine ⟨by simp, N, fun n hn => ?_⟩
  obtain ⟨r2, h1, h2⟩ := (keeps_gP (E := E) n).lev l ⟨us, rfl, rfl, hu⟩ (hN n hn)
  rw [h1, (h2.hd_eq rfl).2]
end Go.Proofs.YtfebkjoohnlifaaDoor
namespace Go.Proofs.YtfebkjoohnlifaaDoor
open Go.RowKit

theorem numLen_cl (t : List UInt8) {l : List UInt8} (hl : l ≠ []) : numLen (l ++ 41 :: t) = numLen l := by
  have hd : digB 41 = false := by decide
  cases l with
  | nil => exact absurd rfl hl
  | cons c r =>
    rw [List.cons_append]
    by_cases hc : c = 45
    · subst hc; rw [numLen_45, numLen_45, tw_sep digB t hd]
    · rw [numLen_no hc, numLen_no hc, ← List.cons_append, tw_sep digB t hd]
theorem signLen_cl (t : List UInt8) {l : List UInt8} (hl : l ≠ []) : signLen (l ++ 41 :: t) = signLen l := by
  match l, hl with
  | [c], _ =>
    have e3 : ¬ ([c] ++ 41 :: t).take 3 = [60, 45, 62] := by
      intro e; simp at e
    have e2 : ¬ ([c] ++ 41 :: t).take 2 ∈ sgn2 := by
      intro e; simp [sgn2] at e
    unfold signLen
    rw [if_neg e3, if_neg e2, if_neg (by simp), if_neg (by simp [sgn2])]
    rfl
  | [c, d], _ =>
    have e3 : ¬ ([c, d] ++ 41 :: t).take 3 = [60, 45, 62] := by
      intro e; simp at e
    have e3' : ¬ [c, d].take 3 = [60, 45, 62] := by intro e; simp at e
    have e2 : ([c, d] ++ 41 :: t).take 2 = [c, d].take 2 := rfl
    unfold signLen
    rw [if_neg e3, if_neg e3', e2]
    rfl
  | c :: d :: e :: r, _ => rfl
theorem nextT_cl (t : List UInt8) {l : List UInt8} (hl : l ≠ []) : nextT (l ++ 41 :: t) = nextT l := by
  have hw : wordB 41 = false := by decide
  have h1 := numLen_cl t hl
  have h2 := signLen_cl t hl
  have h3 := numLen_le l
  have h4 := signLen_le hl
  have tk : ∀ k, k ≤ l.length → (l ++ 41 :: t).take k = l.take k := fun k hk => by rw [List.take_append_of_le_length hk]
  have t1 := tk _ h3
  have t2 := tk _ h4
  cases l with
  | nil => exact absurd rfl hl
  | cons c r =>
    have t3 := tk ((r.takeWhile wordB).length + 1) (by have := (List.takeWhile_prefix wordB (l := r)).length_le; simp; omega)
    rw [List.cons_append] at h1 h2 t1 t2 t3 ⊢
    unfold nextT
    simp only [h1, h2, tw_sep wordB t hw, t1, t2, t3]
theorem rdT_cl (t : List UInt8) (n : Nat) : ∀ (at_ : Nat) (l : List UInt8), l.length ≤ n → (rdT at_ l).1.1 = 0 →
    ∃ o, (rdT at_ l).2 = o ++ [(tk0, at_ + l.length)] ∧ rdT at_ (l ++ 41 :: t) = ((rdT (at_ + l.length) (41 :: t)).1, o ++ (rdT (at_ + l.length) (41 :: t)).2) := by
  induction n with
  | zero =>
    intro at_ l hl _
    have : l = [] := List.eq_nil_of_length_eq_zero (by omega)
    subst this
    exact ⟨[], by rw [rdT_nil]; rfl, by simp⟩
  | succ n ih =>
    intro at_ l hl h
    cases l with
    | nil => exact ⟨[], by rw [rdT_nil]; rfl, by simp⟩
    | cons c r =>
      simp only [List.length_cons] at hl
      have hsep := nextT_cl t (l := c :: r) (by simp)
      rw [List.cons_append] at hsep
      cases hb' : blankB c
      · by_cases h0 : (nextT (c :: r)).1 = 0
        · have hlen := next_text h0
          have h0' : (nextT (c :: (r ++ 41 :: t))).1 = 0 := by rw [hsep]; exact h0
          have hih := ih (at_ + (nextT (c :: r)).2.text.length) ((c :: r).drop (nextT (c :: r)).2.text.length) (by simp; omega)
          have e1 : (c :: (r ++ 41 :: t)).drop (nextT (c :: r)).2.text.length = (c :: r).drop (nextT (c :: r)).2.text.length ++ 41 :: t := by
            rw [← List.cons_append, List.drop_append_of_le_length hlen.2]
          rw [rdT_tok hb' h0] at h
          rw [List.cons_append, rdT_tok hb' h0', rdT_tok hb' h0, hsep, e1]
          have e2 : at_ + (nextT (c :: r)).2.text.length + ((c :: r).drop (nextT (c :: r)).2.text.length).length = at_ + (c :: r).length := by rw [List.length_drop]; omega
          rw [e2] at hih
          obtain ⟨o, h1, h2⟩ := hih h
          exact ⟨((nextT (c :: r)).2, at_) :: o, by simp only; rw [h1]; rfl, by rw [h2]; rfl⟩
        · rw [rdT_err hb' h0] at h; exact absurd h h0
      · rw [rdT_blank hb'] at h
        rw [List.cons_append, rdT_blank hb', rdT_blank hb']
        have := ih (at_ + 1) r (by omega) h
        rw [show at_ + 1 + r.length = at_ + (c :: r).length by simp; omega] at this
        exact this
/-- A token ahead of the rest. -/
theorem rdT_cons {T : TK} {r : List UInt8} {c : UInt8} {s : List UInt8} (hs : T.text = c :: s) (hb : blankB c = false) (h : nextT (T.text ++ r) = (0, T)) (at_ : Nat) : rdT at_ (T.text ++ r) = ((rdT (at_ + T.text.length) r).1, (T, at_) :: (rdT (at_ + T.text.length) r).2) := by
  rw [hs, List.cons_append] at h ⊢
  rw [rdT_tok hb (by rw [h]), h]
  have e : (c :: (s ++ r)).drop T.text.length = r := by rw [hs, ← List.cons_append, List.drop_left]
  rw [e, hs]
/-- What a text has that is a formula. -/
structure GoodT (l : List UInt8) (x : Nd) (ks : Tr) (o : List (TK × Nat)) : Prop where
  len : l.length ≤ 512
  rd : rdT 0 l = ((0, 0), o ++ [(tk0, l.length)])
  kinds : ∀ t ∈ o.map (·.1), ¬ t.kind = 0
  reads : Reads (.lev 1 (o.map (·.1) ++ [tk0])) (.ok x ks [tk0])
  check : checkT x ks = 0
theorem last_of {us : List (TK × Nat)} {p k : Nat} (hu : ∀ x ∈ us, ¬ x.1.kind = 0) (hk : k < (us ++ [(tk0, p)]).length) (h : (us ++ [(tk0, p)])[k].1.kind = 0) : k = us.length := by
  rcases Nat.lt_or_ge k us.length with hl | hg
  · rw [List.getElem_append_left hl] at h
    exact absurd h (hu _ (List.getElem_mem hl))
  · rw [List.length_append, List.length_singleton] at hk; omega
theorem good_of {l : List UInt8} {x : Nd} {ks : Tr} (h : ParseIs l (.good x ks)) : ∃ o, GoodT l x ks o := by
  cases h with
  | @good _ _ k h hk hr h0 hc =>
    have h1 := readT_ok h
    have h2 := readT_tl h
    obtain ⟨us, p, e, hg⟩ := h2.ends
    have hp : p = l.length := by
      obtain ⟨o, h3, _⟩ := rdT_cl [] _ 0 l (Nat.le_refl _) (by rw [h1.2.1])
      rw [h1.2.1, e] at h3
      have := congrArg List.getLast? h3
      simpa using this
    subst hp
    have hu : ∀ x ∈ us, ¬ x.1.kind = 0 := fun x hx => by have := (hg x hx).kind; omega
    simp only [e] at hk hr h0
    have hkk := last_of hu hk h0
    subst hkk
    refine ⟨us, h1.2.2.2, by rw [h1.2.1, e], fun t ht => ?_, ?_, hc⟩
    · obtain ⟨y, hy, rfl⟩ := List.mem_map.1 ht
      exact hu y hy
    · have e0 : remT (us ++ [(tk0, l.length)]) 0 = us.map (·.1) ++ [tk0] := by simp [remT]
      have e1 : remT (us ++ [(tk0, l.length)]) us.length = [tk0] := by simp [remT]
      rw [e0, e1] at hr; exact hr
theorem readT_of {l : List UInt8} {o : List (TK × Nat)} (hl : l.length ≤ 512) (h : rdT 0 l = ((0, 0), o)) : readT l = ((0, 0), o) := by
  unfold readT; rw [if_neg (by omega), h]; rfl
/-- From tokens to what a text is parsed as. -/
theorem parse_good {l : List UInt8} {us : List (TK × Nat)} {p : Nat} {x : Nd} {ks : Tr} (hr : readT l = ((0, 0), us ++ [(tk0, p)])) (h : Reads (.lev 1 (us.map (·.1) ++ [tk0])) (.ok x ks [tk0])) : (checkT x ks = 0 → ParseIs l (.good x ks)) ∧ (¬ checkT x ks = 0 → ParseIs l (.bad (checkT x ks) 0)) := by
  have e0 : remT (readT l).2 0 = us.map (·.1) ++ [tk0] := by rw [hr]; simp [remT]
  have e1 : remT (readT l).2 us.length = [tk0] := by rw [hr]; simp [remT]
  have hk : us.length < (readT l).2.length := by rw [hr]; simp
  have h0 : (readT l).2[us.length].1.kind = 0 := by
    have : ∀ hk, (readT l).2[us.length]'hk = (tk0, p) := by rw [hr]; intro hk; simp
    rw [this]; rfl
  rw [← e0, ← e1] at h
  exact ⟨fun hc => .good (by rw [hr]) hk h h0 hc, fun hc => .big (by rw [hr]) hk h h0 hc⟩
theorem parse_wrong {l : List UInt8} {us ts : List (TK × Nat)} {e : Int} {t : TK} {p : Nat} (hr : readT l = ((0, 0), us ++ (t, p) :: ts)) (h : Reads (.lev 1 ((us ++ (t, p) :: ts).map (·.1))) (.bad e (((t, p) :: ts).map (·.1)))) : ParseIs l (.bad e p) := by
  have e0 : remT (readT l).2 0 = (us ++ (t, p) :: ts).map (·.1) := by rw [hr]; simp [remT]
  have e1 : remT (readT l).2 us.length = ((t, p) :: ts).map (·.1) := by rw [hr]; simp [remT]
  have hk : us.length < (readT l).2.length := by rw [hr]; simp
  have hp : (readT l).2[us.length].2 = p := by
    have : ∀ hk, (readT l).2[us.length]'hk = (t, p) := by rw [hr]; intro hk; simp
    rw [this]
  rw [← e0, ← e1] at h
  have := ParseIs.wrong (by rw [hr]) hk h
  rw [hp] at this; exact this
theorem parse_more {l : List UInt8} {us ts : List (TK × Nat)} {x : Nd} {ks : Tr} {t : TK} {p : Nat} (hr : readT l = ((0, 0), us ++ (t, p) :: ts)) (h : Reads (.lev 1 ((us ++ (t, p) :: ts).map (·.1))) (.ok x ks (((t, p) :: ts).map (·.1)))) (h0 : ¬ t.kind = 0) : ParseIs l (.bad 20 p) := by
  have e0 : remT (readT l).2 0 = (us ++ (t, p) :: ts).map (·.1) := by rw [hr]; simp [remT]
  have e1 : remT (readT l).2 us.length = ((t, p) :: ts).map (·.1) := by rw [hr]; simp [remT]
  have hk : us.length < (readT l).2.length := by rw [hr]; simp
  have hp : (readT l).2[us.length] = (t, p) := by
    have : ∀ hk, (readT l).2[us.length]'hk = (t, p) := by rw [hr]; intro hk; simp
    rw [this]
  rw [← e0, ← e1] at h
  have := ParseIs.more (by rw [hr]) hk h (by rw [hp]; exact h0)
  rw [hp] at this; exact this
/-- What is wrong at a level is so at those above. -/
theorem bad_up {e : Int} {ts r : List TK} : ∀ d, d ≤ 6 → Reads (.lev 7 ts) (.bad e r) → sgn ts [33] = false → sgn ts [70] = false → sgn ts [71] = false → Reads (.lev (7 - d) ts) (.bad e r)
  | 0, _, h, _, _, _ => h
  | d + 1, hd, h, h1, h2, h3 => by
    have ih := bad_up d (by omega) h h1 h2 h3
    obtain ⟨_, N, hN⟩ := ih
    refine Reads.step (by simp) ⟨N, fun n hn => ?_⟩
    have hN' := hN n hn
    match d, hd with
    | 0, _ =>
      show (if sgn ts [33] then (gP n (.lev 6 ts.tail)).bind fun y js r => .ok (nd1 4 0 0) (one y js) r
        else if sgn ts [70] then (spanP ts.tail).bind fun lo hi r => (gP n (.lev 6 r)).bind fun y js r2 => .ok (nd1 9 lo hi) (one y js) r2
        else if sgn ts [71] then (spanP ts.tail).bind fun lo hi r => (gP n (.lev 6 r)).bind fun y js r2 => .ok (nd1 10 lo hi) (one y js) r2
        else gP n (.lev 7 ts)) = _
      rw [h1, h2, h3]; exact hN'
    | 1, _ => show (gP n (.lev 6 ts)).bind _ = _; rw [show gP n (.lev 6 ts) = _ from hN']; rfl
    | 2, _ => show (gP n (.lev 5 ts)).bind _ = _; rw [show gP n (.lev 5 ts) = _ from hN']; rfl
    | 3, _ => show (gP n (.lev 4 ts)).bind _ = _; rw [show gP n (.lev 4 ts) = _ from hN']; rfl
    | 4, _ => show (gP n (.lev 3 ts)).bind _ = _; rw [show gP n (.lev 3 ts) = _ from hN']; rfl
    | 5, _ => show (gP n (.lev 2 ts)).bind _ = _; rw [show gP n (.lev 2 ts) = _ from hN']; rfl
theorem rd7_open {x : Nd} {ks : Tr} {ts r : List TK} (k : sgn ts [40] = true) (m : Reads (.lev 1 ts.tail) (.ok x ks r)) (k2 : sgn r [41] = false) : Reads (.lev 7 ts) (.bad 20 r) := by
  obtain ⟨_, N, hN⟩ := m
  refine Reads.step (by simp) ⟨N, fun n hn => ?_⟩
  show (if sgn ts [40] then (gP n (.lev 1 ts.tail)).bind fun x ks r => if sgn r [41] then .ok x ks r.tail else .bad 20 r else wordP ts) = _
  rw [k, if_pos rfl, hN n hn]
  show (if sgn r [41] then _ else _) = _
  rw [k2]; rfl
theorem nf_end (p : Nat) : NF p [tk0] := ⟨fun _ => rfl, fun _ => rfl, fun _ => rfl, fun _ => rfl, fun _ => ⟨rfl, rfl⟩⟩
/-- A text in parentheses. -/
theorem paren_reads {us E : List TK} {x : Nd} {ks : Tr} (hu : ∀ t ∈ us, ¬ t.kind = 0) (h : Reads (.lev 1 (us ++ [tk0])) (.ok x ks [tk0])) : Reads (.lev 6 (tS [40] :: (us ++ tS [41] :: E))) (.ok x ks E) := by
  have h7 := rd7_par (ts := tS [40] :: (us ++ tS [41] :: E)) (by rw [sgn_tS]; rfl) (reads_close hu h) (by rw [sgn_tS]; rfl)
  exact rd6_up (by rw [sgn_tS]; rfl) (by rw [sgn_tS]; rfl) (by rw [sgn_tS]; rfl) h7
theorem paren_at {us E : List TK} {x : Nd} {ks : Tr} (hu : ∀ t ∈ us, ¬ t.kind = 0) (h : Reads (.lev 1 (us ++ [tk0])) (.ok x ks [tk0])) {p : Nat} (hp : 1 ≤ p) (hp6 : p ≤ 6) (hn : NF p E) : Reads (.lev p (tS [40] :: (us ++ tS [41] :: E))) (.ok x ks E) :=
  descend hp hn (6 - p) (by omega) (by rw [show p + (6 - p) = 6 by omega]; exact paren_reads hu h)
theorem moved_fst (d : Nat) (o : List (TK × Nat)) : (moved d o).map (·.1) = o.map (·.1) := by simp [moved]
theorem blank40 : blankB 40 = false := by decide
theorem blank41 : blankB 41 = false := by decide
theorem rd_open (r : List UInt8) (at_ : Nat) : rdT at_ (40 :: r) = ((rdT (at_ + 1) r).1, (tS [40], at_) :: (rdT (at_ + 1) r).2) := rdT_cons (T := tS [40]) rfl blank40 (tok_simple 40 (by decide) r) at_
theorem rd_shut (r : List UInt8) (at_ : Nat) : rdT at_ (41 :: r) = ((rdT (at_ + 1) r).1, (tS [41], at_) :: (rdT (at_ + 1) r).2) := rdT_cons (T := tS [41]) rfl blank41 (tok_simple 41 (by decide) r) at_
section
variable {l : List UInt8} {x : Nd} {ks : Tr} {o : List (TK × Nat)}
/-- The formula's text from another place on, with a closing sign behind it. -/
theorem GoodT.shut (h : GoodT l x ks o) (t : List UInt8) (at_ : Nat) : rdT at_ (l ++ 41 :: t) = ((rdT (at_ + l.length + 1) t).1, moved at_ o ++ (tS [41], at_ + l.length) :: (rdT (at_ + l.length + 1) t).2) := by
  have hm := rdT_move at_ _ 0 l (Nat.le_refl _)
  rw [h.rd, Nat.zero_add] at hm
  simp only [if_true] at hm
  obtain ⟨o2, h1, h2⟩ := rdT_cl t _ at_ l (Nat.le_refl _) (by rw [hm])
  rw [hm] at h1
  simp only [moved, List.map_append, List.map_cons, List.map_nil] at h1
  have h3 : o2 = moved at_ o := by
    have := (List.append_inj' h1 rfl).1
    rw [← this]; rfl
  rw [h2, rd_shut, h3]
theorem GoodT.open_ (h : GoodT l x ks o) : rdT 0 (40 :: l) = ((0, 0), (tS [40], 0) :: (moved 1 o ++ [(tk0, l.length + 1)])) := by
  have hm := rdT_move 1 _ 0 l (Nat.le_refl _)
  rw [h.rd, Nat.zero_add] at hm
  simp only [if_true] at hm
  rw [rd_open, hm]
  simp [moved]
theorem paren_both (h : GoodT l x ks o) (hl : l.length ≤ 510) : ParseIs (40 :: (l ++ [41])) (.good x ks) := by
  have hr : readT (40 :: (l ++ [41])) = ((0, 0), ((tS [40], 0) :: (moved 1 o ++ [(tS [41], 1 + l.length)])) ++ [(tk0, 1 + l.length + 1)]) := by
    refine readT_of (by simp; omega) ?_
    rw [rd_open, h.shut [] _, rdT_nil]
    simp
  refine (parse_good hr ?_).1 h.check
  have := paren_at (E := [tk0]) h.kinds h.reads (p := 1) (by decide) (by decide) (nf_end 1)
  simpa [moved_fst] using this
theorem paren_left (h : GoodT l x ks o) (hl : l.length ≤ 510) : ParseIs (40 :: l) (.bad 20 (l.length + 1)) := by
  have hr : readT (40 :: l) = ((0, 0), ((tS [40], 0) :: moved 1 o) ++ (tk0, l.length + 1) :: []) := by
    refine readT_of (by simp; omega) ?_
    rw [h.open_]; simp
  refine parse_wrong hr ?_
  have h7 := rd7_open (ts := tS [40] :: (o.map (·.1) ++ [tk0])) (by rw [sgn_tS]; rfl) h.reads rfl
  have := bad_up 6 (by decide) h7 (by rw [sgn_tS]; rfl) (by rw [sgn_tS]; rfl) (by rw [sgn_tS]; rfl)
  simpa [moved_fst] using this
theorem paren_right (h : GoodT l x ks o) (hl : l.length ≤ 510) : ParseIs (l ++ [41]) (.bad 20 l.length) := by
  have hr : readT (l ++ [41]) = ((0, 0), o ++ (tS [41], l.length) :: [(tk0, l.length + 1)]) := by
    refine readT_of (by simp; omega) ?_
    have hs := h.shut [] 0
    rw [hs, rdT_nil]
    simp [moved]
  refine parse_more (x := x) (ks := ks) hr ?_ (by decide)
  have := reads_close (E := [tk0]) h.kinds h.reads
  simpa using this
end
end Go.Proofs.YtfebkjoohnlifaaDoor
