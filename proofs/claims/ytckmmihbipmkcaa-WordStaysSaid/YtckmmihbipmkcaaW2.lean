/- Words: the place of a moment. -/
import Derived.Test.YtckmmihbipmkcaaW1
namespace Go.Proofs.Ytckmmihbipmkcaa
open Go.RowKit Go.Sort Go.Lib

def fromI (l : List Pt) (t : Int) : Nat := (l.takeWhile (fun q => decide (q.1 < t))).length
def fromW (l : List Pt) (t : Int) : Nat := if wRightB l then fromI l t else 0
theorem fromI_eq : ∀ {l : List Pt} {t : Int} {k : Nat}, k ≤ l.length → (∀ j, (hj : j < l.length) → j < k → l[j].1 < t) → (∀ hk : k < l.length, ¬ l[k].1 < t) → fromI l t = k
  | [], _, k, hk, _, _ => by simp at hk; subst hk; rfl
  | x :: l, t, 0, _, _, h => by
    have := h (by simp)
    simp at this
    unfold fromI
    rw [List.takeWhile_cons, if_neg (by simpa using this)]; rfl
  | x :: l, t, k + 1, hk, h1, h2 => by
    have h0 := h1 0 (by simp) (by omega)
    simp at h0
    unfold fromI
    rw [List.takeWhile_cons, if_pos (by simpa using h0), List.length_cons]
    have := fromI_eq (l := l) (t := t) (k := k) (by simpa using hk) (fun j hj hjk => by have := h1 (j + 1) (by simpa using hj) (by omega); simpa using this) (fun hk' => by have := h2 (by simpa using hk'); simpa using this)
    unfold fromI at this
    omega
theorem fromI_le (l : List Pt) (t : Int) : fromI l t ≤ l.length := by unfold fromI; exact (List.takeWhile_sublist _).length_le
theorem fromI_cons (x : Pt) (l : List Pt) (t : Int) : fromI (x :: l) t = if x.1 < t then fromI l t + 1 else 0 := by
  unfold fromI
  rw [List.takeWhile_cons]
  by_cases h : x.1 < t
  · rw [if_pos (by simpa using h), if_pos h]; rfl
  · rw [if_neg (by simpa using h), if_neg h]; rfl
theorem fromI_lt {t : Int} : ∀ {l : List Pt} {j : Nat}, j < fromI l t → ∃ hj : j < l.length, l[j].1 < t
  | [], j, h => by simp [fromI] at h
  | x :: l, j, h => by
    rw [fromI_cons] at h
    by_cases hx : x.1 < t
    · rw [if_pos hx] at h
      cases j with
      | zero => exact ⟨by simp, by simpa using hx⟩
      | succ j =>
        obtain ⟨h1, h2⟩ := fromI_lt (t := t) (l := l) (j := j) (by omega)
        exact ⟨by simpa using h1, by simpa using h2⟩
    · rw [if_neg hx] at h; omega
theorem fromI_ge {t : Int} : ∀ {l : List Pt} (h : fromI l t < l.length), ¬ l[fromI l t].1 < t
  | [], h => by simp at h
  | x :: l, h => by
    by_cases hx : x.1 < t
    · have e : fromI (x :: l) t = fromI l t + 1 := by rw [fromI_cons, if_pos hx]
      have h2 : fromI l t < l.length := by rw [e] at h; simpa using h
      have := fromI_ge h2
      simp only [e, List.getElem_cons_succ]
      exact this
    · have e : fromI (x :: l) t = 0 := by rw [fromI_cons, if_neg hx]
      simp only [e, List.getElem_cons_zero]
      exact hx
/-- The moments of a word rise. -/
theorem wRight_lt {l : List Pt} (h : wRightB l = true) : ∀ {i j : Nat} (hij : i < j) (hj : j < l.length), (l[i]'(by omega)).1 < l[j].1 := by
  intro i j hij
  induction j with
  | zero => omega
  | succ j ih =>
    intro hj
    have h1 := wRight_at h hj
    rw [okPt_succ (by omega)] at h1
    simp only [Bool.and_eq_true, Bool.not_eq_true', decide_eq_false_iff_not] at h1
    rcases Nat.lt_succ_iff_lt_or_eq.1 hij with h' | h'
    · have := ih h' (by omega); omega
    · subst h'; omega
theorem cmpI_neg (a b : Int) : compareInt a b < 0 ↔ a < b := by unfold compareInt; split <;> (try split) <;> omega
set_option maxHeartbeats 1000000 in
theorem rw_From (w : World) (A : Option Addr) (c : Nat) (ps : List Pn) (t : Int) (h : WSl w A c ps) (hnm : NmW ps) (hfew : ps.length ≤ 1000) :
    Calls Try.prog 19 #[.slice A ps.length c, .int .i64 t] w fun e w' => e = .returned (.int .i64 (fromW (pts ps) t : Nat)) ∧ Fr Nob w w' := by
  have HR := Lib.hid (rw_Right w A c ps h hnm hfew)
  have HL := Lib.hid h
  unfold fromW
  clear h hnm
  cases hr : wRightB (pts ps)
  · rw [hr] at HR
    clear hr
    rw [if_neg (by simp)]
    go_enter Try.func19, Try.ntmps19
    go_wp2_with ((go_at_call 17); refine (HR.out).mono ?_; rintro e w1 ⟨rfl, hf1⟩)
    go_ret
    exact ⟨rfl, hf1⟩
  · rw [hr] at HR
    clear hr
    rw [if_pos rfl]
    go_enter Try.func19, Try.ntmps19
    go_wp2_with ((go_at_call 17); refine (HR.out).mono ?_; rintro e w1 ⟨rfl, hf1⟩; have HF1 := Lib.hid hf1; clear hf1)
    go_loopw [5] (fun i wr => ∃ k : Nat, k ≤ ps.length ∧ i = .int .i64 k ∧ Hid (∀ j, (hj : j < (pts ps).length) → j < k → (pts ps)[j].1 < t) ∧ Hid (wr = w1)) (fun i _ => ps.length - (intOf i).toNat)
    case atStart => exact ⟨0, Nat.zero_le _, rfl, Lib.hid (fun j _ hj => absurd hj (by omega)), Lib.hid rfl⟩
    case round =>
      obtain ⟨k, hk, rfl, hall, hwr⟩ := hrel
      obtain rfl := hwr.out
      by_cases hlt : k < ps.length
      · have hI : (k : Int) < ps.length := by omega
        have hI3 : 0 ≤ (k : Int) := by omega
        have hlp : k < (pts ps).length := by rw [pts_len]; exact hlt
        obtain ⟨b, off, rfl, hb, d0, d1⟩ := (HL.out.pure HF1.out).at_ hlt
        have HP := Lib.hid (show (pts ps)[k].1 = ps[k].t by simp [pts, Pn.pt])
        by_cases hge : ps[k].t < t
        · have HY := Lib.hid (show ∀ j, (hj : j < (pts ps).length) → j < k + 1 → (pts ps)[j].1 < t from fun j hj hjk => by
            rcases Nat.lt_succ_iff_lt_or_eq.1 hjk with h' | h'
            · exact hall.out j hj h'
            · subst h'; rw [HP.out]; exact hge)
          have hgb : ¬ t ≤ ps[k].t := by omega
          generalize ps[k].t = t0 at *
          go_wp2_with fail
          go_roundw
          case rel => exact ⟨_, by omega, by go_num, HY, Lib.hid trivial⟩
          case measure => simp [intOf]; omega
        · have HE := Lib.hid (fromI_eq (l := pts ps) (t := t) (k := k) (by omega) hall.out (fun hk' => by rw [HP.out]; exact hge))
          have hgb : t ≤ ps[k].t := by omega
          generalize ps[k].t = t0 at *
          go_wp2_with fail
          go_ret
          rw [HE.out]
          exact ⟨rfl, HF1.out⟩
      · have HE := Lib.hid (fromI_eq (l := pts ps) (t := t) (k := ps.length) (by rw [pts_len]; exact Nat.le_refl _) (fun j hj hjk => hall.out j hj (by omega)) (fun hk' => by rw [pts_len] at hk'; omega))
        go_wp2_with fail
        go_ret
        rw [HE.out]
        exact ⟨rfl, HF1.out⟩
theorem wd_moment (w : World) (t : Int) (v : Value) : Calls Try.prog 34 #[.agg #[.int .i64 t, v]] w fun e w' => e = .returned (.int .i64 t) ∧ Fr Nob w w' := by
  go_enter Try.func34, Try.ntmps34
  go_wp2_with fail
  go_ret
  exact ⟨rfl, (Fr.refl _ _).alloc _⟩
set_option maxHeartbeats 1000000 in
theorem wd_cmpf (w : World) (p : Pn) (t : Int) (bx : Nat) (h : Blk w bx 64 #[.func (.func 34) #[] #[]]) :
    Calls Try.prog 50 #[.agg #[.int .i64 p.t, .slice p.A p.l.length p.c], .int .i64 t, .pointer (some ⟨bx, 0, none⟩)] w fun e w' => e = .returned (.int .i64 (compareInt p.t t)) ∧ Fr Nob w w' := by
  have HC := Lib.hid (fun W' => (show Calls Try.prog 32 _ _ _ from AnyG.cmp_Compare_int Try.cmpInt p.t t W'))
  have c0 := h.cell 0
  have hl := h.lt
  obtain ⟨t0, A, c, l⟩ := p
  dsimp only at HC ⊢
  generalize compareInt t0 t = r at *
  clear h
  go_enter Try.func50, Try.ntmps50
  go_wp2_with (first
    | ((go_at_call 34); (with_reducible refine (wd_moment _ _ _).mono ?_); rintro e w1 ⟨rfl, hf1⟩)
    | ((go_at_call 32); (with_reducible refine (HC.out _).mono ?_); rintro e w2 ⟨rfl, rfl⟩))
  go_ret
  exact ⟨rfl, ((Fr.refl Nob w).alloc _).call hf1 (fun _ h _ => h)⟩
/-- The search's state. -/
structure BsI (l : List Pt) (t : Int) (i j : Nat) : Prop where
  le : i ≤ j
  hi : j ≤ l.length
  lo : ∀ q, (hq : q < l.length) → q < i → l[q].1 < t
  up : ∀ q, (hq : q < l.length) → j ≤ q → ¬ l[q].1 < t
theorem BsI.done {l : List Pt} {t : Int} {i : Nat} (h : BsI l t i i) : fromI l t = i := fromI_eq h.hi h.lo (fun hk => h.up i hk (Nat.le_refl _))
theorem BsI.right {l : List Pt} {t : Int} {i j h : Nat} (hw : wRightB l = true) (H : BsI l t i j) (h1 : i ≤ h) (h2 : h < j) (hl : h < l.length) (hlt : l[h].1 < t) : BsI l t (h + 1) j :=
  ⟨by omega, H.hi, fun q hq hqi => by
    rcases Nat.lt_succ_iff_lt_or_eq.1 hqi with h' | h'
    · have := wRight_lt hw h' hl; omega
    · subst h'; exact hlt, H.up⟩
theorem BsI.left {l : List Pt} {t : Int} {i j h : Nat} (hw : wRightB l = true) (H : BsI l t i j) (h1 : i ≤ h) (h2 : h < j) (hl : h < l.length) (hlt : ¬ l[h].1 < t) : BsI l t i h :=
  ⟨h1, by omega, H.lo, fun q hq hqi => by
    rcases Nat.lt_or_ge h q with h' | h'
    · have := wRight_lt hw h' hq; omega
    · have : q = h := by omega
      subst this; exact hlt⟩
set_option maxRecDepth 100000 in
set_option maxHeartbeats 4000000 in
theorem wd_search (w : World) (A : Option Addr) (c : Nat) (ps : List Pn) (t : Int) (bx : Nat) (hb : Blk w bx 64 #[.func (.func 34) #[] #[]]) (h : WSl w A c ps) (hr : wRightB (pts ps) = true) (hfew : ps.length ≤ 1000) :
    Calls Try.prog 49 #[.slice A ps.length c, .int .i64 t, .func (.func 50) #[] #[.pointer (some ⟨bx, 0, none⟩)]] w fun e w' => ∃ bv, e = .returned (.tuple #[.int .i64 (fromI (pts ps) t : Nat), .bool bv]) ∧ Fr Nob w w' := by
  have HL := Lib.hid h
  have HB := Lib.hid hb
  have HW := Lib.hid hr
  clear h hb hr
  go_enter Try.func49, Try.ntmps49
  go_wp2_with fail
  go_loopw [9, 10] (fun iv jv wr => ∃ i j : Nat, i ≤ j ∧ j ≤ ps.length ∧ iv = .int .i64 i ∧ jv = .int .i64 j ∧ Hid (BsI (pts ps) t i j) ∧ Hid (Fr Nob w wr)) (fun iv jv _ => (intOf jv).toNat - (intOf iv).toNat)
  case atStart => exact ⟨0, ps.length, Nat.zero_le _, Nat.le_refl _, rfl, rfl, Lib.hid ⟨Nat.zero_le _, by rw [pts_len]; exact Nat.le_refl _, fun q _ h => by omega, fun q hq h => by rw [pts_len] at hq; omega⟩, Lib.hid (Fr.refl _ _)⟩
  case round =>
    obtain ⟨i, j, hij, hjn, rfl, rfl, hbs, hfr⟩ := hrel
    by_cases hlt : i < j
    · have hI : (i : Int) < j := by omega
      obtain ⟨m, hm⟩ : ∃ m : Nat, m = (i + j) / 2 := ⟨_, rfl⟩
      have hme : ((i : Int) + (j : Int)) / 2 = (m : Int) := by omega
      have h1 : i ≤ m := by omega
      have h2 : m < j := by omega
      have hmI : (m : Int) < ps.length := by omega
      have hm0 : 0 ≤ (m : Int) := by omega
      have hml : m < ps.length := by omega
      have hmp : m < (pts ps).length := by rw [pts_len]; exact hml
      obtain ⟨b, off, hA, hbl, d0, d1⟩ := (HL.out.pure hfr.out).at_ hml
      have HC := Lib.hid (wd_cmpf wr ps[m] t bx (HB.out.fr hfr.out (fun e => e)))
      have HP := Lib.hid (show (pts ps)[m].1 = ps[m].t by simp [pts, Pn.pt])
      have HR := Lib.hid (fun hq => hbs.out.right HW.out h1 h2 hmp hq)
      have HE := Lib.hid (fun hq => hbs.out.left HW.out h1 h2 hmp hq)
      rw [HP.out] at HR HE
      clear hm hbs
      generalize ps[m] = p at *
      obtain ⟨t0, pA, pc, l⟩ := p
      dsimp only at HC HR HE d0 d1
      subst hA
      by_cases hlt2 : t0 < t
      · have hneg : compareInt t0 t < 0 := (cmpI_neg t0 t).2 hlt2
        replace HR := Lib.hid (HR.out hlt2)
        generalize compareInt t0 t = r at *
        clear HE hlt2
        go_wp2_with ((go_at_call 50); (with_reducible refine (HC.out).mono ?_); rintro e w1 ⟨rfl, hf1⟩; have HF1 := Lib.hid (hfr.out.call hf1 (fun _ h _ => h)); clear hf1)
        go_roundw
        case rel => exact ⟨m + 1, j, by omega, hjn, by go_num, rfl, HR, HF1⟩
        case measure => simp [intOf]; omega
      · have hneg : ¬ compareInt t0 t < 0 := fun h => hlt2 ((cmpI_neg t0 t).1 h)
        replace HE := Lib.hid (HE.out hlt2)
        generalize compareInt t0 t = r at *
        clear HR hlt2
        go_wp2_with ((go_at_call 50); (with_reducible refine (HC.out).mono ?_); rintro e w1 ⟨rfl, hf1⟩; have HF1 := Lib.hid (hfr.out.call hf1 (fun _ h _ => h)); clear hf1)
        go_roundw
        case rel => exact ⟨i, m, h1, by omega, rfl, rfl, HE, HF1⟩
        case measure => simp [intOf]; omega
    · have hji : j = i := by omega
      subst hji
      have HD := Lib.hid hbs.out.done
      clear hbs hlt hij
      by_cases hn : j < ps.length
      · have hnI : (j : Int) < ps.length := by omega
        have hn0 : 0 ≤ (j : Int) := by omega
        obtain ⟨b, off, hA, hbl, d0, d1⟩ := (HL.out.pure hfr.out).at_ hn
        have HC := Lib.hid (wd_cmpf wr ps[j] t bx (HB.out.fr hfr.out (fun e => e)))
        generalize ps[j] = p at *
        obtain ⟨t0, pA, pc, l⟩ := p
        dsimp only at HC d0 d1
        subst hA
        generalize compareInt t0 t = r at *
        go_wp2_with ((go_at_call 50); (with_reducible refine (HC.out).mono ?_); rintro e w1 ⟨rfl, hf1⟩; have HF1 := Lib.hid (hfr.out.call hf1 (fun _ h _ => h)); clear hf1)
        go_ret2
        rw [HD.out]
        exact ⟨_, rfl, HF1.out⟩
      · have hnI : (ps.length : Int) ≤ (j : Int) := by omega
        go_wp2_with fail
        go_ret2
        rw [HD.out]
        exact ⟨_, rfl, hfr.out⟩
set_option maxHeartbeats 1000000 in
theorem wd_first (w : World) (A : Option Addr) (c : Nat) (ps : List Pn) (t : Int) (h : WSl w A c ps) (hr : wRightB (pts ps) = true) (hfew : ps.length ≤ 1000) :
    Calls Try.prog 33 #[.slice A ps.length c, .int .i64 t, .func (.func 34) #[] #[]] w fun e w' => e = .returned (.int .i64 (fromI (pts ps) t : Nat)) ∧ Fr Nob w w' := by
  have HS := Lib.hid (wd_search _ A c ps t w.heap.size (Blk.new w _ _) (h.pure ((Fr.refl Nob w).alloc _)) hr hfew)
  generalize fromI (pts ps) t = k at *
  clear h hr
  go_enter Try.func33, Try.ntmps33
  go_wp2_with ((go_at_call 49); (with_reducible refine (HS.out).mono ?_); rintro e w1 ⟨bv, rfl, hf1⟩)
  go_ret
  exact ⟨rfl, ((Fr.refl Nob w).alloc _).call hf1 (fun _ h _ => h)⟩
set_option maxHeartbeats 1000000 in
theorem wd_From (w : World) (A : Option Addr) (c : Nat) (ps : List Pn) (t : Int) (h : WSl w A c ps) (hnm : NmW ps) (hfew : ps.length ≤ 1000) :
    Calls Try.prog 18 #[.slice A ps.length c, .int .i64 t] w fun e w' => e = .returned (.int .i64 (fromW (pts ps) t : Nat)) ∧ Fr Nob w w' := by
  have HR := Lib.hid (wd_Right w A c ps h hnm hfew)
  have HS := Lib.hid (fun X (hf : Fr Nob w X) hr => wd_first X A c ps t (h.pure hf) hr hfew)
  unfold fromW
  clear h hnm
  cases hr : wRightB (pts ps)
  · rw [hr] at HR
    clear hr HS
    rw [if_neg (by simp)]
    go_enter Try.func18, Try.ntmps18
    go_wp2_with ((go_at_call 14); refine (HR.out).mono ?_; rintro e w1 ⟨rfl, hf1⟩)
    go_ret
    exact ⟨rfl, hf1⟩
  · rw [hr] at HR
    replace HS := Lib.hid (fun X hf => HS.out X hf hr)
    clear hr
    rw [if_pos rfl]
    generalize fromI (pts ps) t = k at *
    go_enter Try.func18, Try.ntmps18
    go_wp2_with (first
      | ((go_at_call 14); refine (HR.out).mono ?_; rintro e w1 ⟨rfl, hf1⟩; have HF1 := Lib.hid hf1; clear hf1)
      | ((go_at_call 33); (with_reducible refine (HS.out _ HF1.out).mono ?_); rintro e w2 ⟨rfl, hf2⟩))
    go_ret
    exact ⟨rfl, HF1.out.call hf2 (fun _ h _ => h)⟩
end Go.Proofs.Ytckmmihbipmkcaa
