/- The word laws: how large a word is; the place of a moment. -/
import Derived.Test.YtckmmihbipmkcaaWl1
namespace Go.Proofs.Ytckmmihbipmkcaa
open Go.RowKit Go.Sort Go.Lib Go.Shelf

theorem putW_len (l : List Pt) (t : Int) (ps : List PP) : (putW l t ps).1.length ≤ l.length + 1 := by
  unfold putW
  split
  · simp
  · split
    · simp
    · split
      · simp
      · have h1 : fromI l t ≤ l.length := fromI_le l t
        simp only [List.length_append, List.length_take, List.length_cons, List.length_drop]
        omega
theorem wordP_take_succ {E : List Pt} {k : Nat} (hk : k < E.length) : wordP (E.take (k + 1)) = (putW (wordP (E.take k)) E[k].1 E[k].2).1 := by
  rw [List.take_succ_eq_append_getElem hk, wordP_snoc]
theorem wordP_len (E : List Pt) : (wordP E).length ≤ E.length := by
  induction hn : E.length generalizing E with
  | zero => rw [List.length_eq_zero_iff] at hn; subst hn; simp [wordP]
  | succ n ih =>
    have hne : E ≠ [] := by intro e; subst e; simp at hn
    have e1 := List.dropLast_concat_getLast hne
    have h1 := ih E.dropLast (by rw [List.length_dropLast]; omega)
    rw [← e1, wordP_snoc]
    have := putW_len (wordP E.dropLast) (E.getLast hne).1 (E.getLast hne).2
    omega
theorem flat_bound {α β : Type} (f : α → List β) (n : Nat) : ∀ (l : List α), (∀ x ∈ l, (f x).length ≤ n) → (l.flatMap f).length ≤ l.length * n
  | [], _ => by simp
  | x :: l, h => by
    have h1 := flat_bound f n l (fun y hy => h y (by simp [hy]))
    have h2 := h x (by simp)
    rw [List.flatMap_cons, List.length_append, List.length_cons, Nat.add_mul, Nat.one_mul]
    omega
theorem IsWord.small {E W : List Pt} (h : IsWord E W) {n : Nat} (hn : ∀ e ∈ E, e.2.length ≤ n) : ∀ p ∈ W, p.2.length ≤ E.length * n := by
  intro p hp
  have e : p.2 = lof ((E.filter fun e => goodE e && e.1 == p.1).flatMap fun e => e.2) := by
    refine (lof_eq (h.asc p hp) fun x => ?_).symm
    rw [h.mem p hp, List.mem_flatMap]
    constructor
    · rintro ⟨e, he, hg, ht, hx⟩
      exact ⟨e, by simp [he, hg, ht], hx⟩
    · rintro ⟨e, he, hx⟩
      simp only [List.mem_filter, Bool.and_eq_true, beq_iff_eq] at he
      exact ⟨e, he.1, he.2.1, he.2.2, hx⟩
  rw [e]
  refine Nat.le_trans (lof_len _) (Nat.le_trans (flat_bound _ n _ fun x hx => hn x (List.mem_filter.1 hx).1) ?_)
  exact Nat.mul_le_mul_right _ (List.length_filter_le _ _)
theorem IsWord.names {E W : List Pt} (h : IsWord E W) {Q : PP → Prop} (hQ : ∀ e ∈ E, ∀ x ∈ e.2, Q x) : ∀ p ∈ W, ∀ x ∈ p.2, Q x := fun p hp x hx =>
  let ⟨e, he, _, _, hx'⟩ := (h.mem p hp x).1 hx
  hQ e he x hx'
/-- What the laws use of a word that was made of few events. -/
structure WOk (qs : List Pn) (E : List Pt) : Prop where
  eq : pts qs = wordP E
  is_ : IsWord E (pts qs)
  right : wRightB (pts qs) = true
  nm : NmW qs
theorem WOk.mk' {qs : List Pn} {E : List Pt} (h : pts qs = wordP E) (hn : ∀ e ∈ E, ∀ x ∈ e.2, x.name.size ≤ 40) : WOk qs E := by
  have h1 : IsWord E (pts qs) := by rw [h]; exact wordP_is E
  exact ⟨h, h1, h1.right, fun p hp x hx => Nat.le_trans (h1.names hn p.pt (List.mem_map.2 ⟨p, hp, rfl⟩) x hx) (by decide)⟩
theorem WOk.len {qs : List Pn} {E : List Pt} (h : WOk qs E) : qs.length ≤ E.length := by
  have := wordP_len E
  rwa [← h.eq, pts_len] at this
theorem WOk.pl {qs : List Pn} {E : List Pt} (h : WOk qs E) {n : Nat} (hn : ∀ e ∈ E, e.2.length ≤ n) : ∀ p ∈ qs, p.l.length ≤ E.length * n := fun p hp => h.is_.small hn p.pt (List.mem_map.2 ⟨p, hp, rfl⟩)
theorem fewE_pt {es : List Ev} (h : fewE es = true) : (es.map Ev.pt).length ≤ 30 ∧ (∀ e ∈ es.map Ev.pt, e.2.length ≤ 20) ∧ ∀ e ∈ es.map Ev.pt, ∀ x ∈ e.2, x.name.size ≤ 40 := by
  obtain ⟨h1, h2⟩ := fewE_imp h
  refine ⟨by simpa using h1, fun e he => ?_, fun e he x hx => ?_⟩
  · obtain ⟨v, hv, rfl⟩ := List.mem_map.1 he
    exact (h2 v hv).1
  · obtain ⟨v, hv, rfl⟩ := List.mem_map.1 he
    exact (h2 v hv).2 x hx
theorem fewE_of {es : List Ev} (h : fewE es = true) : NmE es ∧ es.length ≤ 100 ∧ ∀ e ∈ es, e.l.length ≤ 100 := by
  obtain ⟨h1, h2⟩ := fewE_imp h
  exact ⟨fun e he x hx => Nat.le_trans ((h2 e he).2 x hx) (by decide), by omega, fun e he => Nat.le_trans (h2 e he).1 (by decide)⟩
theorem fromI_iff {l : List Pt} (hup : l.Pairwise fun p q => p.1 < q.1) {t : Int} {i : Nat} (hi : i < l.length) : l[i].1 < t ↔ i < fromI l t := by
  constructor
  · intro h
    rcases Nat.lt_or_ge i (fromI l t) with h1 | h1
    · exact h1
    · have h2 := fromI_ge (l := l) (t := t) (by omega)
      rcases Nat.lt_or_ge (fromI l t) i with h3 | h3
      · have := List.pairwise_iff_getElem.1 hup (fromI l t) i (by omega) hi h3
        omega
      · have h4 : fromI l t = i := by omega
        simp only [h4] at h2
        omega
  · intro h
    obtain ⟨_, h2⟩ := fromI_lt h
    exact h2
theorem wd_FromK (w : World) (A : Option Addr) (c : Nat) (qs : List Pn) (t : Int) (h : WSl w A c qs) (hw : wRightB (pts qs) = true) (hnm : NmW qs) (hfew : qs.length ≤ 1000) :
    ∃ k, k ≤ qs.length ∧ (∀ i, (hi : i < qs.length) → (qs[i].t < t ↔ i < k)) ∧ Calls Try.prog 18 #[.slice A qs.length c, .int .i64 t] w fun e w' => e = .returned (.int .i64 k) ∧ Fr Nob w w' := by
  refine ⟨fromI (pts qs) t, by have := fromI_le (pts qs) t; rwa [pts_len] at this, fun i hi => ?_, ?_⟩
  · have h1 := fromI_iff ((wRight_iff _).1 hw).1 (t := t) (i := i) (by rw [pts_len]; exact hi)
    rwa [pts_get hi] at h1
  · have := wd_From w A c qs t h hnm hfew
    unfold fromW at this
    rwa [if_pos hw] at this
set_option maxRecDepth 100000 in
set_option maxHeartbeats 8000000 in
theorem law_WFrom (w : World) (A : Option Addr) (c : Nat) (es : List Ev) (t : Int) (h : ESl w A c es) :
    Calls Try.prog 6 #[.slice A es.length c, .int .i64 t] w fun e w' => e = .returned (.bool true) ∧ Fr Nob w w' := by
  have HL := Lib.hid h
  clear h
  go_enter Try.func6, Try.ntmps6
  go_wp2_with fail
  refine (law_wawake _).mono ?_
  rintro e w1 ⟨rfl, hf⟩
  have F1 := Lib.hid hf
  clear hf
  have HFW := Lib.hid (fun X (hf : Fr Nob w X) => law_fewE X A c es (HL.out.pure hf))
  cases hfe : fewE es
  · rw [hfe] at HFW
    clear hfe
    go_wp2_with (first
      | ((go_at_call 9); (with_reducible refine (HFW.out _ F1.out).mono ?_); rintro e w2 ⟨rfl, rfl⟩))
    go_ret
    exact ⟨rfl, F1.out⟩
  · rw [hfe] at HFW
    obtain ⟨o1, o2, o3⟩ := fewE_of hfe
    obtain ⟨p1, p2, p3⟩ := fewE_pt hfe
    have HO := Lib.hid (fun X (hf : Fr Nob w X) => wd_Of X A c es (HL.out.pure hf) o1 o2 o3)
    unfold OfD at HO
    have HP := Lib.hid (fun qs (h : pts qs = wordP (es.map Ev.pt)) => (show WOk qs (es.map Ev.pt) ∧ qs.length ≤ 30 from ⟨WOk.mk' h p3, Nat.le_trans (WOk.mk' h p3).len p1⟩))
    clear hfe o1 o2 o3 p1 p2 p3
    go_wp2_with (first
      | ((go_at_call 9); (with_reducible refine (HFW.out _ F1.out).mono ?_); rintro e w2 ⟨rfl, rfl⟩)
      | ((go_at_call 15); (with_reducible refine (HO.out _ F1.out).mono ?_); rintro e w3 ⟨A', c', qs, rfl, hq, hfr, hf3⟩; have HW := Lib.hid hfr.wsl; have HK := Lib.hid (HP.out qs hq); have F3 := Lib.hid (F1.out.call hf3 (fun _ h _ => h)); obtain ⟨k, hk, hki, hfm⟩ := wd_FromK w3 A' c' qs t hfr.wsl (HP.out qs hq).1.right (HP.out qs hq).1.nm (by have := (HP.out qs hq).2; omega); have HFM := Lib.hid hfm; have HKI := Lib.hid hki; clear hq hfr hf3 hfm hki)
      | ((go_at_call 18); (with_reducible refine (HFM.out).mono ?_); rintro e w4 ⟨rfl, hf4⟩; have HF4 := Lib.hid hf4; clear hf4))
    have hql := HK.out.2
    go_loop [9] (fun i => ∃ j : Nat, j ≤ qs.length ∧ i = .int .i64 j) (fun i => qs.length - (intOf i).toNat)
    case atStart => exact ⟨0, Nat.zero_le _, rfl⟩
    case round =>
      obtain ⟨j, hj, rfl⟩ := hrel
      by_cases hlt : j < qs.length
      · have hI : (j : Int) < qs.length := by omega
        have hI3 : 0 ≤ (j : Int) := by omega
        obtain ⟨b, off, rfl, hb, d0, d1⟩ := (HW.out.pure HF4.out).at_ hlt
        have hkj := HKI.out j hlt
        generalize qs[j].t = u at *
        by_cases hjk : j < k
        · have hu := hkj.2 hjk
          have hI4 : (j : Int) < k := by omega
          clear hkj
          go_wp2_with fail
          go_round
          case rel => exact ⟨j + 1, by omega, by go_num⟩
          case measure => simp [intOf]; omega
        · have hu : ¬ u < t := fun h => hjk (hkj.1 h)
          have hI4 : ¬ (j : Int) < k := by omega
          clear hkj
          go_wp2_with fail
          go_round
          case rel => exact ⟨j + 1, by omega, by go_num⟩
          case measure => simp [intOf]; omega
      · go_wp2_with fail
        go_ret
        exact ⟨rfl, F3.out.call HF4.out (fun _ h _ => h)⟩
end Go.Proofs.Ytckmmihbipmkcaa
