/- The text of a formula that checks is parsed as that formula. Plain. -/
import Derived.Test.YtanhmigknafhkaaDoorPgood
namespace Go.Proofs.YtanhmigknafhkaaDoor
open Go.RowKit

theorem nextT_blank {c : UInt8} {r : List UInt8} (h : blankB c = true) : ¬ (nextT (c :: r)).1 = 0 := by
  rcases (blank_iff c).1 h with rfl | rfl | rfl <;> simp [nextT, numLen, signLen, smallB, digB, sgn2, sgn1]
theorem rd_render : ∀ (l : List (Option TK)) (at_ : Nat), OkC l [] → ∃ o, rdT at_ (render l) = ((0, 0), o ++ [(tk0, at_ + (render l).length)]) ∧ o.map (·.1) = strip l
  | [], at_, _ => ⟨[], by simp [render, rdT_nil], rfl⟩
  | none :: l, at_, h => by
    obtain ⟨o, h1, h2⟩ := rd_render l (at_ + 1) h
    refine ⟨o, ?_, h2⟩
    rw [render_cons, show itB none = [32] from rfl, List.singleton_append, rdT_blank (by decide), h1, List.length_cons, Nat.add_assoc, Nat.add_comm 1]
  | some T :: l, at_, h => by
    obtain ⟨⟨h1, c, t, h2, _⟩, h3⟩ := h
    rw [List.append_nil] at h1
    obtain ⟨o, h4, h5⟩ := rd_render l (at_ + T.text.length) h3
    have hb : blankB c = false := by
      cases hb : blankB c
      · rfl
      · rw [h2, List.cons_append] at h1
        exact absurd (by rw [h1]) (nextT_blank (r := t ++ render l) hb)
    refine ⟨(T, at_) :: o, ?_, by simp [h5, strip]⟩
    rw [render_cons, show itB (some T) = T.text from rfl, rdT_cons h2 hb h1, h4, List.length_append, Nat.add_assoc]
    rfl
theorem checks_first {x : Nd} {ks : Tr} (h : checkT x ks = 0) : wrongN x ks.len = 0 ∧ ks.good := by
  unfold checkT at h
  by_cases h1 : 48 < ks.size + 1
  · rw [if_pos h1] at h; exact absurd h (by decide)
  rw [if_neg h1] at h
  by_cases h2 : 12 < ks.deep + 1
  · rw [if_pos h2] at h; exact absurd h (by decide)
  rw [if_neg h2] at h
  exact (good_first x ks).1 h
theorem nm_of {x : Nd} (h : NdOk x) : Nm x := ⟨h.val, h.lo, h.hi⟩
theorem trnm_of : ∀ {t : Tr}, t.ok → t.nm
  | .nil, _ => trivial
  | .cons _ _ _, h => ⟨nm_of h.1, trnm_of h.2.1, trnm_of h.2.2⟩
theorem show_text {x : Nd} {ks : Tr} (h : checkT x ks = 0) : showT x ks = textT x ks := by
  unfold showT
  rw [if_pos ((good_first x ks).2 (checks_first h))]
theorem text_parse {x : Nd} {ks : Tr} (hx : NdOk x) (hk : ks.ok) (h : checkT x ks = 0) :
    ((showT x ks).data.toList.length ≤ 512 → ParseIs (showT x ks).data.toList (.good x ks)) ∧ (512 < (showT x ks).data.toList.length → ParseIs (showT x ks).data.toList (.bad 13 0)) := by
  obtain ⟨hw, hg⟩ := checks_first h
  have ha := text_both x ks
  have hf := fine_text hw hg (nm_of hx) (trnm_of hk)
  rw [show_text h, ← ha.2]
  refine ⟨fun hl => ?_, fun hl => ?_⟩
  · obtain ⟨o, h1, h2⟩ := rd_render (itemsT x ks) 0 (hf.ok [] (.inl rfl))
    have hr := readT_of hl h1
    refine (parse_good hr ?_).1 h
    rw [h2, ha.1]
    have hat := (read_show ks.size x ks (Nat.le_refl _) hw hg).1 1 (by decide) (by decide) [tk0] rfl (nf_end 1)
    rw [wrapK_bare (by have := place_range x.op; omega)] at hat
    exact hat
  · have e : readT (render (itemsT x ks)) = ((13, 0), []) := by unfold readT; rw [if_pos hl]
    have := ParseIs.lex (l := render (itemsT x ks)) (by rw [e]; decide)
    rw [e] at this; exact this
theorem text_ne {x : Nd} {ks : Tr} (hx : NdOk x) (hk : ks.ok) (h : checkT x ks = 0) : ¬ (showT x ks).data.toList = [] := by
  intro e
  obtain ⟨hw, hg⟩ := checks_first h
  have ha := text_both x ks
  have hf := fine_text hw hg (nm_of hx) (trnm_of hk)
  rw [show_text h, ← ha.2] at e
  obtain ⟨c, t, h1, _⟩ := hf.st
  rw [h1] at e; cases e
/-- What is parsed has numbers that are numbers, and short names. -/
theorem parsed_fit {l : List UInt8} {x : Nd} {ks : Tr} (h : ParseIs l (.good x ks)) : Fit x ks := by
  cases h with
  | good h hk hr => exact (reads_left hr (remT_ok (readT_toks h) 0)).2.2
end Go.Proofs.YtanhmigknafhkaaDoor
