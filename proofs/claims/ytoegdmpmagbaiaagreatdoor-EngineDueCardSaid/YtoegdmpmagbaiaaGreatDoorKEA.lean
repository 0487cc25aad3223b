/- Engines, in plain words: what stands behind told points is known as it is in the whole word. -/
import Derived.Test.YtoegdmpmagbaiaaGreatDoorKR
import Derived.Test.YtoegdmpmagbaiaaGreatDoorQWo0
import Derived.Test.YtoegdmpmagbaiaaGreatDoorQW6
namespace Go.Proofs.YtoegdmpmagbaiaaGreatDoor
open Go.RowKit

section
variable {W : List Pt} {k i j : Nat} {x y : List Int} {u v : List Bool} {lo hi mark : Int}
theorem tAt_drop (W : List Pt) (k i : Nat) : tAt (W.drop k) i = tAt W (k + i) := by unfold tAt; rw [List.getD_eq_getElem?_getD, List.getElem?_drop, ← List.getD_eq_getElem?_getD]
theorem pAt_drop (W : List Pt) (k i : Nat) : pAt (W.drop k) i = pAt W (k + i) := by unfold pAt; rw [List.getD_eq_getElem?_getD, List.getElem?_drop, ← List.getD_eq_getElem?_getD]
theorem xAt_drop (x : List Int) (k i : Nat) : xAt (x.drop k) i = xAt x (k + i) := by unfold xAt; rw [List.getD_eq_getElem?_getD, List.getElem?_drop, ← List.getD_eq_getElem?_getD]
theorem InR_drop : InR (W.drop k) lo hi i j ↔ InR W lo hi (k + i) (k + j) := by unfold InR; rw [tAt_drop, tAt_drop]
theorem Rise.drop (h : Rise W) (k : Nat) : Rise (W.drop k) :=
  ⟨fun i j hij hj => by rw [tAt_drop, tAt_drop]; rw [List.length_drop] at hj; exact h.up _ _ (by omega) (by omega), fun i hi => by rw [tAt_drop]; rw [List.length_drop] at hi; exact h.lo _ (by omega), fun i hi => by rw [tAt_drop]; rw [List.length_drop] at hi; exact h.hi _ (by omega)⟩
theorem EvY_drop : EvY (W.drop k) lo hi i (x.drop k) ↔ EvY W lo hi (k + i) x := by
  constructor
  · rintro ⟨j, a, b, c, d⟩
    rw [List.length_drop] at b
    rw [xAt_drop] at d
    exact ⟨k + j, by omega, by omega, InR_drop.1 c, d⟩
  · rintro ⟨j, a, b, c, d⟩
    obtain ⟨m, rfl⟩ : ∃ m, j = k + m := ⟨j - k, by omega⟩
    exact ⟨m, by omega, by rw [List.length_drop]; omega, InR_drop.2 c, by rw [xAt_drop]; exact d⟩
theorem EvN_drop : EvN (W.drop k) mark lo hi i (x.drop k) ↔ EvN W mark lo hi (k + i) x := by
  unfold EvN
  rw [tAt_drop]
  refine and_congr_left fun _ => ⟨fun h j a b c => ?_, fun h j a b c => ?_⟩
  · obtain ⟨m, rfl⟩ : ∃ m, j = k + m := ⟨j - k, by omega⟩
    have := h m (by omega) (by rw [List.length_drop]; omega) (InR_drop.2 c)
    rwa [xAt_drop] at this
  · rw [List.length_drop] at b
    rw [xAt_drop]
    exact h (k + j) (by omega) (by omega) (InR_drop.1 c)
theorem evK_drop (W : List Pt) (mark lo hi : Int) (k i : Nat) (x : List Int) : evK (W.drop k) mark lo hi i (x.drop k) = evK W mark lo hi (k + i) x := by
  have hy := EvY_drop (W := W) (k := k) (i := i) (x := x) (lo := lo) (hi := hi)
  have hn := EvN_drop (W := W) (k := k) (i := i) (x := x) (lo := lo) (hi := hi) (mark := mark)
  rcases evK_eq (W.drop k) mark lo hi i (x.drop k) with ⟨a, e⟩ | ⟨a, b, e⟩ | ⟨a, b, e⟩ <;> rcases evK_eq W mark lo hi (k + i) x with ⟨a', e'⟩ | ⟨a', b', e'⟩ | ⟨a', b', e'⟩
  all_goals first
    | exact e.trans e'.symm
    | exact absurd (hy.1 a) a'
    | exact absurd (hy.2 a') a
    | exact absurd (hn.1 b) b'
    | exact absurd (hn.2 b') b
theorem farK_drop (hW : Rise W) (hi : Int) (k i : Nat) (x : List Int) : farK (W.drop k) hi i (x.drop k) = farK W hi (k + i) x := by
  apply Int.le_antisymm
  · rw [le_farK hW]
    obtain ⟨a, b, c⟩ := farK_le (hW.drop k) hi i (x.drop k)
    rw [tAt_drop] at b
    refine ⟨a, b, fun s h1 h2 h3 => ?_⟩
    obtain ⟨m, rfl⟩ : ∃ m, s = k + m := ⟨s - k, by omega⟩
    have := c m (by omega) (by rw [List.length_drop]; omega) (by rw [xAt_drop]; exact h3)
    rwa [tAt_drop, tAt_drop] at this
  · rw [le_farK (hW.drop k)]
    obtain ⟨a, b, c⟩ := farK_le hW hi (k + i) x
    refine ⟨a, by rw [tAt_drop]; exact b, fun s h1 h2 h3 => ?_⟩
    rw [List.length_drop] at h2
    rw [xAt_drop] at h3
    rw [tAt_drop, tAt_drop]
    exact c (k + s) (by omega) (by omega) h3
theorem UnY_drop : UnY (W.drop k) mark lo hi i (x.drop k) (y.drop k) ↔ UnY W mark lo hi (k + i) x y := by
  constructor
  · rintro ⟨j, a, b, c, d, e, f⟩
    rw [List.length_drop] at b
    rw [xAt_drop] at d
    rw [tAt_drop] at f
    refine ⟨k + j, by omega, by omega, InR_drop.1 c, d, fun l h1 h2 => ?_, by omega⟩
    obtain ⟨m, rfl⟩ : ∃ m, l = k + m := ⟨l - k, by omega⟩
    have := e m (by omega) (by omega)
    rwa [xAt_drop] at this
  · rintro ⟨j, a, b, c, d, e, f⟩
    obtain ⟨m, rfl⟩ : ∃ m, j = k + m := ⟨j - k, by omega⟩
    exact ⟨m, by omega, by rw [List.length_drop]; omega, InR_drop.2 c, by rw [xAt_drop]; exact d, fun l h1 h2 => by rw [xAt_drop]; exact e _ (by omega) (by omega), by rw [tAt_drop]; omega⟩
theorem UnN_drop (hW : Rise W) : UnN (W.drop k) mark lo hi i (x.drop k) (y.drop k) ↔ UnN W mark lo hi (k + i) x y := by
  unfold UnN
  rw [tAt_drop, farK_drop hW]
  refine and_congr_left fun _ => ⟨fun h j a b c d => ?_, fun h j a b c d => ?_⟩
  · obtain ⟨m, rfl⟩ : ∃ m, j = k + m := ⟨j - k, by omega⟩
    have := h m (by omega) (by rw [List.length_drop]; omega) (InR_drop.2 c) (fun l h1 h2 => by rw [xAt_drop]; exact d _ (by omega) (by omega))
    rwa [xAt_drop] at this
  · rw [List.length_drop] at b
    rw [xAt_drop]
    refine h (k + j) (by omega) (by omega) (InR_drop.1 c) fun l h1 h2 => ?_
    obtain ⟨m, rfl⟩ : ∃ m, l = k + m := ⟨l - k, by omega⟩
    have := d m (by omega) (by omega)
    rwa [xAt_drop] at this
theorem unK_drop (hW : Rise W) (mark lo hi : Int) (k i : Nat) (x y : List Int) : unK (W.drop k) mark lo hi i (x.drop k) (y.drop k) = unK W mark lo hi (k + i) x y := by
  have hy := UnY_drop (W := W) (k := k) (i := i) (x := x) (y := y) (lo := lo) (hi := hi) (mark := mark)
  have hn := UnN_drop hW (k := k) (i := i) (x := x) (y := y) (lo := lo) (hi := hi) (mark := mark)
  rcases unK_eq (W.drop k) mark lo hi i (x.drop k) (y.drop k) with ⟨a, e⟩ | ⟨a, b, e⟩ | ⟨a, b, e⟩ <;> rcases unK_eq W mark lo hi (k + i) x y with ⟨a', e'⟩ | ⟨a', b', e'⟩ | ⟨a', b', e'⟩
  all_goals first
    | exact e.trans e'.symm
    | exact absurd (hy.1 a) a'
    | exact absurd (hy.2 a') a
    | exact absurd (hn.1 b) b'
    | exact absurd (hn.2 b') b
theorem knK_drop (hW : Rise W) (mark : Int) (n : Nd) (k i : Nat) (x y : List Int) : knK (W.drop k) mark n i (x.drop k) (y.drop k) = knK W mark n (k + i) x y := by
  unfold knK
  rw [pAt_drop, tAt_drop, xAt_drop, xAt_drop, evK_drop, unK_drop hW]
theorem rowK_drop (hW : Rise W) (mark : Int) (n : Nd) (k : Nat) (x y : List Int) : rowK (W.drop k) mark n (x.drop k) (y.drop k) = (rowK W mark n x y).drop k := by
  unfold rowK
  refine List.ext_getElem (by simp) fun i h1 h2 => ?_
  simp only [List.getElem_map, List.getElem_range, List.getElem_drop]
  exact knK_drop hW mark n k i x y
theorem getD_map_drop {α : Type} (l : List (List α)) (k i : Nat) : (l.map (List.drop k)).getD i [] = (l.getD i []).drop k := by
  rw [List.getD_eq_getElem?_getD, List.getElem?_map, List.getD_eq_getElem?_getD]
  cases l[i]? <;> simp
theorem rowsK_drop (hW : Rise W) (mark : Int) (k : Nat) (t : Tr) : rowsK (W.drop k) mark t = (rowsK W mark t).map (List.drop k) := by
  induction t with
  | nil => rfl
  | cons n c r ihc ihr =>
    simp only [rowsK, List.map_cons]
    rw [ihc, ihr, getD_map_drop, getD_map_drop, rowK_drop hW]
theorem rowS_drop (hW : Rise W) (mark : Int) (k : Nat) (x : S1) : rowS (W.drop k) mark x = (rowS W mark x).drop k := by
  unfold rowS
  rw [rowsK_drop hW, getD_map_drop, getD_map_drop, rowK_drop hW]
/- Whether formulas hold. -/
end
/- A word with an event: told points stay. -/
theorem lof_one (a : List PP) : lof (lof a) = lof a := by
  have := lof_lof a []
  rwa [lof_nil, List.append_nil, List.append_nil] at this
theorem lof_app_lof (m l : List PP) : lof (m ++ lof l) = lof (m ++ l) := lof_eq (lof_asc _) fun x => by rw [lof_mem, List.mem_append, List.mem_append, lof_mem]
theorem putW_lof (W : List Pt) (t : Int) (l : List PP) : putW W t (lof l) = putW W t l := by
  unfold putW
  simp only [lof_one, lof_app_lof]
theorem fromI_drop : ∀ {k : Nat} {W : List Pt} {t : Int}, k ≤ W.length → (∀ i, i < k → tAt W i < t) → fromI W t = k + fromI (W.drop k) t
  | 0, W, t, _, _ => by simp
  | k + 1, [], t, h, _ => by simp at h
  | k + 1, p :: W, t, h, hp => by
    have h0 : p.1 < t := hp 0 (by omega)
    have ih := fromI_drop (k := k) (W := W) (t := t) (by simpa using h) (fun i hi => hp (i + 1) (by omega))
    rw [fromI_cons, if_pos h0, ih, List.drop_succ_cons]
    omega
theorem wRight_rise {W : List Pt} (h : wRightB W = true) {i : Nat} (hi : i < W.length) : 0 ≤ tAt W i ∧ rightB (pAt W i) = true ∧ (∀ j, j < i → tAt W j < tAt W i) := by
  have key : ∀ m, m < W.length → 0 ≤ tAt W m ∧ rightB (pAt W m) = true ∧ (0 < m → tAt W (m - 1) < tAt W m) := fun m hm => by
    have h1 := wRight_at h hm
    have e1 : tAt W m = W[m].1 := by unfold tAt; rw [List.getD_eq_getElem?_getD, List.getElem?_eq_getElem hm]; rfl
    have e2 : pAt W m = W[m].2 := by unfold pAt; rw [List.getD_eq_getElem?_getD, List.getElem?_eq_getElem hm]; rfl
    rw [e1, e2]
    cases m with
    | zero => rw [okPt_zero] at h1; simp at h1; exact ⟨h1.1, h1.2, fun h => absurd h (by omega)⟩
    | succ m =>
      rw [okPt_succ (by omega)] at h1
      simp at h1
      have e3 : tAt W m = W[m].1 := by unfold tAt; rw [List.getD_eq_getElem?_getD, List.getElem?_eq_getElem (by omega)]; rfl
      rw [Nat.add_sub_cancel, e3]
      exact ⟨h1.1.1, h1.2, fun _ => h1.1.2⟩
  refine ⟨(key i hi).1, (key i hi).2.1, ?_⟩
  have : ∀ d j, j + d + 1 < W.length → tAt W j < tAt W (j + d + 1) := by
    intro d
    induction d with
    | zero => intro j hj; have := (key (j + 1) hj).2.2 (by omega); rwa [Nat.add_sub_cancel] at this
    | succ d ih =>
      intro j hj
      have h1 := ih j (by omega)
      have h2 := (key (j + d + 1 + 1) (by omega)).2.2 (by omega)
      rw [Nat.add_sub_cancel] at h2
      rw [show j + (d + 1) + 1 = j + d + 1 + 1 by omega]
      omega
  intro j hj
  have := this (i - j - 1) j (by omega)
  rwa [show j + (i - j - 1) + 1 = i by omega] at this
theorem wRight_drop {W : List Pt} (h : wRightB W = true) (k : Nat) : wRightB (W.drop k) = true := by
  refine wRight_true fun i hi => ?_
  have hi' : k + i < W.length := by rw [List.length_drop] at hi; omega
  obtain ⟨h1, h2, h3⟩ := wRight_rise h hi'
  have e1 : (W.drop k)[i].1 = tAt W (k + i) := by unfold tAt; rw [List.getElem_drop, List.getD_eq_getElem?_getD, List.getElem?_eq_getElem hi']; rfl
  have e2 : (W.drop k)[i].2 = pAt W (k + i) := by unfold pAt; rw [List.getElem_drop, List.getD_eq_getElem?_getD, List.getElem?_eq_getElem hi']; rfl
  cases i with
  | zero => rw [okPt_zero, e1, e2, h2]; simp; exact h1
  | succ i =>
    rw [okPt_succ (by omega), e1, e2, h2]
    have e3 : (W.drop k)[i].1 = tAt W (k + i) := by unfold tAt; rw [List.getElem_drop, List.getD_eq_getElem?_getD, List.getElem?_eq_getElem (by omega)]; rfl
    have := h3 (k + i) (by omega)
    rw [e3]
    simp; exact ⟨h1, this⟩
theorem putW_cases {W : List Pt} {t : Int} {l : List PP} (hr : wRightB W = true) (hm : (decide (0 ≤ t) && rightB (lof l)) = true) :
    (∃ q, ∃ hq : q < W.length, q = fromI W t ∧ W[q].1 = t ∧ putW W t l = (W.set q (t, lof (W[q].2 ++ l)), q, false)) ∨
    (∃ q, q = fromI W t ∧ q ≤ W.length ∧ (∀ hk : q < W.length, t < W[q].1) ∧ putW W t l = (W.take q ++ (t, lof l) :: W.drop q, q, true)) := by
  unfold putW
  rw [if_neg (by simp [hr]), if_neg (by simp [hm])]
  by_cases H : ∃ hk : fromI W t < W.length, W[fromI W t].1 = t
  · rw [dif_pos H]
    obtain ⟨h1, h2⟩ := H
    exact .inl ⟨_, h1, rfl, h2, rfl⟩
  · rw [dif_neg H]
    refine .inr ⟨_, rfl, fromI_le W t, fun hk => ?_, rfl⟩
    have h1 := fromI_ge hk
    have h2 : W[fromI W t].1 ≠ t := fun e => H ⟨hk, e⟩
    omega
theorem putW_drop {W : List Pt} {k : Nat} {t : Int} {l : List PP} (h : wRightB W = true) (hk : k ≤ W.length) (hp : ∀ i, i < k → tAt W i < t) (hm : (decide (0 ≤ t) && rightB (lof l)) = true) :
    (putW W t l).1.drop k = (putW (W.drop k) t l).1 ∧ (putW W t l).2.1 = k + (putW (W.drop k) t l).2.1 ∧ (putW W t l).2.2 = (putW (W.drop k) t l).2.2 ∧ (putW W t l).1.take k = W.take k := by
  have hf := fromI_drop hk hp
  have hlen := List.length_drop (l := W) (i := k)
  rcases putW_cases h hm with ⟨q, h1, hq, h2, e1⟩ | ⟨q, hq, h0, h1, e1⟩ <;> rcases putW_cases (wRight_drop h k) hm with ⟨m, k1, hm', k2, e2⟩ | ⟨m, hm', k0, k1, e2⟩
  · obtain rfl : q = k + m := by omega
    rw [e1, e2]
    refine ⟨?_, rfl, rfl, List.take_set_of_le (by omega)⟩
    simp only [List.getElem_drop]
    rw [List.drop_set, if_neg (by omega), Nat.add_sub_cancel_left]
  · obtain rfl : q = k + m := by omega
    have := k1 (by omega)
    rw [List.getElem_drop] at this
    omega
  · obtain rfl : q = k + m := by omega
    have := h1 (by omega)
    rw [List.getElem_drop] at k2
    omega
  · obtain rfl : q = k + m := by omega
    have hkm : k ≤ (W.take (k + m)).length := by rw [List.length_take]; omega
    rw [e1, e2]
    refine ⟨?_, rfl, rfl, ?_⟩
    · show List.drop k (W.take (k + m) ++ _) = (W.drop k).take m ++ _ :: (W.drop k).drop m
      rw [List.drop_drop, List.drop_append_of_le_length hkm, List.drop_take, Nat.add_sub_cancel_left]
    · show List.take k (W.take (k + m) ++ _) = W.take k
      rw [List.take_append_of_le_length hkm, List.take_take, Nat.min_eq_left (by omega)]
end Go.Proofs.YtoegdmpmagbaiaaGreatDoor

/- Events in memory (for a seat without the stable sort). -/
namespace Go.Proofs.YtoegdmpmagbaiaaGreatDoor
open Go.RowKit Go.Sort Go.Lib

end Go.Proofs.YtoegdmpmagbaiaaGreatDoor

/- A word with events later than a mark: plain laws. -/
namespace Go.Proofs.YtoegdmpmagbaiaaGreatDoor
open Go.RowKit Go.Lib

/-- A word, and events later than a mark that were put into it. -/
def LateW (W V : List Pt) (mark : Int) : Prop := ∃ F : List Pt, (∀ e ∈ F, mark < e.1 ∧ e.1 ≤ last63) ∧ IsWord (W ++ F) V
theorem pt_uniq {W : List Pt} (h : W.Pairwise fun p q => p.1 < q.1) {p q : Pt} (hp : p ∈ W) (hq : q ∈ W) (e : p.1 = q.1) : p = q := by
  obtain ⟨i, hi, rfl⟩ := List.getElem_of_mem hp
  obtain ⟨j, hj, rfl⟩ := List.getElem_of_mem hq
  have h' := List.pairwise_iff_getElem.1 h
  rcases Nat.lt_trichotomy i j with h1 | h1 | h1
  · have := h' i j hi hj h1; omega
  · subst h1; rfl
  · have := h' j i hj hi h1; omega
theorem self_word {W : List Pt} (hr : wRightB W = true) : IsWord W W := by
  obtain ⟨h1, h2⟩ := (wRight_iff W).1 hr
  have hg : ∀ p ∈ W, goodE p = true := fun p hp => (goodE_iff p).2 ⟨(h2 p hp).1, ((rightB_iff _).1 (h2 p hp).2).2⟩
  exact ⟨h1, fun p hp => ((rightB_iff _).1 (h2 p hp).2).1, fun p hp x => ⟨fun hx => ⟨p, hp, hg p hp, rfl, hx⟩, fun ⟨e, he, _, h3, hx⟩ => by rw [← pt_uniq h1 he hp h3]; exact hx⟩,
    fun p hp => ⟨p, hp, hg p hp, rfl⟩, fun e he _ => ⟨e, he, rfl⟩⟩
theorem LateW.self {W : List Pt} (hr : wRightB W = true) (mark : Int) : LateW W W mark := ⟨[], (fun _ h => by cases h), by rw [List.append_nil]; exact self_word hr⟩
theorem LateW.put {W V : List Pt} {mark : Int} (h : LateW W V mark) {t : Int} (l : List PP) (ht : mark < t) (h63 : t ≤ last63) : LateW W (putW V t l).1 mark := by
  obtain ⟨F, hF, hw⟩ := h
  refine ⟨F ++ [(t, l)], fun e he => ?_, by rw [← List.append_assoc]; exact hw.put t l⟩
  rw [List.mem_append, List.mem_singleton] at he
  rcases he with he | rfl
  · exact hF e he
  · exact ⟨ht, h63⟩
theorem tAt_get {W : List Pt} {i : Nat} (hi : i < W.length) : tAt W i = W[i].1 := by
  unfold tAt; rw [List.getD_eq_getElem?_getD, List.getElem?_eq_getElem hi]; rfl
theorem rise_pts {W : List Pt} (hr : wRightB W = true) (h63 : ∀ p ∈ W, p.1 ≤ last63) : Rise W := by
  obtain ⟨h1, h2⟩ := (wRight_iff W).1 hr
  refine ⟨fun i j hij hj => ?_, fun i hi => ?_, fun i hi => ?_⟩
  · rw [tAt_get (by omega), tAt_get hj]; exact List.pairwise_iff_getElem.1 h1 i j (by omega) hj hij
  · rw [tAt_get hi]; exact (h2 _ (List.getElem_mem hi)).1
  · rw [tAt_get hi]; exact h63 _ (List.getElem_mem hi)
theorem LateW.hi {W V : List Pt} {mark : Int} (h : LateW W V mark) (h63 : ∀ p ∈ W, p.1 ≤ last63) : ∀ p ∈ V, p.1 ≤ last63 := fun p hp => by
  obtain ⟨F, hF, hw⟩ := h
  obtain ⟨e, he, _, h1⟩ := hw.src p hp
  rw [List.mem_append] at he
  rw [← h1]
  rcases he with he | he
  · exact h63 e he
  · exact (hF e he).2
/-- Points are few, with few propositions of short names. -/
def BndW (V : List Pt) (n m : Nat) : Prop := V.length ≤ n ∧ ∀ p ∈ V, p.2.length ≤ m ∧ ∀ x ∈ p.2, x.name.size ≤ 40
theorem lof_bnd {a b : List PP} {m : Nat} (ha : a.length ≤ m) (hb : b.length ≤ 10) (hx : ∀ x ∈ a, x.name.size ≤ 40) (hy : ∀ x ∈ b, x.name.size ≤ 40) : (lof (a ++ b)).length ≤ m + 10 ∧ ∀ x ∈ lof (a ++ b), x.name.size ≤ 40 := by
  refine ⟨by have := lof_len (a ++ b); rw [List.length_append] at this; omega, fun x h => ?_⟩
  rw [lof_mem, List.mem_append] at h
  rcases h with h | h
  · exact hx x h
  · exact hy x h
theorem BndW.put {V : List Pt} {n m : Nat} (h : BndW V n m) (t : Int) {l : List PP} (hl : l.length ≤ 10) (hs : ∀ x ∈ l, x.name.size ≤ 40) : BndW (putW V t l).1 (n + 1) (m + 10) := by
  have hw : BndW V (n + 1) (m + 10) := ⟨by have := h.1; omega, fun p hp => ⟨by have := (h.2 p hp).1; omega, (h.2 p hp).2⟩⟩
  unfold putW
  split
  · exact ⟨Nat.zero_le _, fun _ h => by cases h⟩
  · split
    · exact hw
    · split
      · rename_i hx
        obtain ⟨hk, ht⟩ := hx
        refine ⟨by dsimp only; rw [List.length_set]; exact hw.1, fun p hp => ?_⟩
        dsimp only at hp
        rcases List.mem_or_eq_of_mem_set hp with hp | rfl
        · exact hw.2 p hp
        · have := h.2 _ (List.getElem_mem hk)
          exact lof_bnd this.1 hl this.2 hs
      · refine ⟨by dsimp only; rw [List.length_append, List.length_cons, List.length_take, List.length_drop]; have := h.1; have := fromI_le V t; omega, fun p hp => ?_⟩
        dsimp only at hp
        rw [List.mem_append, List.mem_cons] at hp
        rcases hp with hp | rfl | hp
        · exact hw.2 p (List.mem_of_mem_take hp)
        · have := lof_bnd (a := []) (m := m) (Nat.zero_le _) hl (fun _ h => by cases h) hs
          rwa [List.nil_append] at this
        · exact hw.2 p (List.mem_of_mem_drop hp)
end Go.Proofs.YtoegdmpmagbaiaaGreatDoor

/- Engines, in plain words: the state, what each call does to it, what stays. -/
namespace Go.Proofs.YtoegdmpmagbaiaaGreatDoor
open Go.RowKit Go.Lib

/-- An engine: the word of all events, since when there is each point, how many verdicts were told, the mark. -/
structure EG where
  W : List Pt
  S : List Int
  told : Nat
  mark : Int
def EG.new : EG := ⟨[], [], 0, -1⟩
/-- The last moment of which there was a point. -/
def topE (W : List Pt) : Int := if W.length = 0 then -1 else tAt W (W.length - 1)
structure EG.Ok (g : EG) : Prop where
  right : wRightB g.W = true
  h63 : ∀ p ∈ g.W, p.1 ≤ last63
  len : g.S.length = g.W.length
  told : g.told ≤ g.W.length
  past : ∀ i, i < g.told → tAt g.W i ≤ g.mark
  lo : -1 ≤ g.mark
  hi : g.mark ≤ last63
def EG.live (g : EG) : List Pt := g.W.drop g.told
def EG.since (g : EG) : List Int := g.S.drop g.told
def insI (S : List Int) (k : Nat) (v : Int) : List Int := S.take k ++ v :: S.drop k
/-- May an event be taken? -/
def EG.may (g : EG) (t : Int) (l : List PP) : Bool := decide (0 ≤ t) && decide (g.mark < t) && rightB (lof l)
def EG.put (g : EG) (t : Int) (l : List PP) (now : Int) : EG :=
  { g with W := (putW g.W t l).1, S := if (putW g.W t l).2.2 then insI g.S (putW g.W t l).2.1 now else g.S }
def EG.raise (g : EG) (m : Int) : EG := { g with mark := m }
def EG.next (g : EG) : EG := { g with told := g.told + 1 }
theorem EG.new_ok : EG.new.Ok := ⟨rfl, (fun _ h => by cases h), rfl, Nat.le_refl _, (fun _ h => absurd h (by simp [EG.new])), Int.le_refl _, by decide⟩
theorem EG.Ok.rise {g : EG} (h : g.Ok) : Rise g.W := rise_pts h.right h.h63
theorem EG.Ok.lrise {g : EG} (h : g.Ok) : Rise g.live := h.rise.drop _
theorem EG.Ok.lright {g : EG} (h : g.Ok) : wRightB g.live = true := wRight_drop h.right _
theorem EG.Ok.slen {g : EG} (h : g.Ok) : g.since.length = g.live.length := by unfold EG.since EG.live; rw [List.length_drop, List.length_drop, h.len]
theorem may_iff {g : EG} {t : Int} {l : List PP} : g.may t l = true ↔ 0 ≤ t ∧ g.mark < t ∧ rightB (lof l) = true := by unfold EG.may; simp [and_assoc]
theorem may_good {g : EG} {t : Int} {l : List PP} (h : g.may t l = true) : (decide (0 ≤ t) && rightB (lof l)) = true := by
  obtain ⟨h1, _, h2⟩ := may_iff.1 h
  simp [h1, h2]
theorem putW_place {W : List Pt} {t : Int} {l : List PP} (hr : wRightB W = true) (hm : (decide (0 ≤ t) && rightB (lof l)) = true) : (putW W t l).2.1 = fromI W t := by
  rcases putW_cases hr hm with ⟨q, _, e, _, h⟩ | ⟨q, e, _, _, h⟩ <;> rw [h, ← e]
theorem putW_length {W : List Pt} {t : Int} {l : List PP} (hr : wRightB W = true) (hm : (decide (0 ≤ t) && rightB (lof l)) = true) : (putW W t l).1.length = W.length + if (putW W t l).2.2 then 1 else 0 := by
  have hf := fromI_le W t
  rcases putW_cases hr hm with ⟨q, _, e, _, h⟩ | ⟨q, e, _, _, h⟩
  · rw [h]; simp
  · rw [h]; simp only [List.length_append, List.length_cons, List.length_take, List.length_drop, if_true]; omega
theorem putW_word {W : List Pt} (hr : wRightB W = true) (t : Int) (l : List PP) : wRightB (putW W t l).1 = true := ((self_word hr).put t l).right
theorem putW_63 {W : List Pt} (hr : wRightB W = true) (h63 : ∀ p ∈ W, p.1 ≤ last63) {t : Int} (l : List PP) (ht : t ≤ last63) : ∀ p ∈ (putW W t l).1, p.1 ≤ last63 :=
  ((LateW.self hr (t - 1)).put l (by omega) ht).hi h63
theorem tAt_take {W : List Pt} {k i : Nat} (h : i < k) : tAt (W.take k) i = tAt W i := by
  unfold tAt; rw [List.getD_eq_getElem?_getD, List.getElem?_take, if_pos h, ← List.getD_eq_getElem?_getD]
theorem EG.put_take {g : EG} (h : g.Ok) {t : Int} {l : List PP} (hm : g.may t l = true) : (putW g.W t l).1.take g.told = g.W.take g.told :=
  (putW_drop h.right h.told (fun i hi => by have := h.past i hi; have := (may_iff.1 hm).2.1; omega) (may_good hm)).2.2.2
theorem EG.put_live {g : EG} (h : g.Ok) {t : Int} {l : List PP} (hm : g.may t l = true) :
    (putW g.W t l).1.drop g.told = (putW g.live t (lof l)).1 ∧ (putW g.W t l).2.1 = g.told + (putW g.live t (lof l)).2.1 ∧ (putW g.W t l).2.2 = (putW g.live t (lof l)).2.2 := by
  have := putW_drop h.right h.told (fun i hi => by have := h.past i hi; have := (may_iff.1 hm).2.1; omega) (may_good hm)
  rw [putW_lof]
  exact ⟨this.1, this.2.1, this.2.2.1⟩
theorem insI_len {S : List Int} {k : Nat} (h : k ≤ S.length) (v : Int) : (insI S k v).length = S.length + 1 := by
  unfold insI; simp only [List.length_append, List.length_cons, List.length_take, List.length_drop]; omega
theorem insI_drop {S : List Int} {m k : Nat} (h : m ≤ S.length) (v : Int) : (insI S (m + k) v).drop m = insI (S.drop m) k v := by
  unfold insI
  by_cases hk : m + k ≤ S.length
  · rw [List.drop_append_of_le_length (by rw [List.length_take]; omega), List.drop_take, Nat.add_sub_cancel_left, List.drop_drop]
  · have e1 : S.drop (m + k) = [] := List.drop_eq_nil_of_le (by omega)
    have e2 : (S.drop m).drop k = [] := List.drop_eq_nil_of_le (by rw [List.length_drop]; omega)
    rw [e1, e2, List.take_of_length_le (by omega), List.take_of_length_le (by rw [List.length_drop]; omega), List.drop_append_of_le_length h]
theorem EG.Ok.put {g : EG} (h : g.Ok) {t : Int} {l : List PP} (now : Int) (hm : g.may t l = true) (ht : t ≤ last63) : (g.put t l now).Ok := by
  have hg := may_good hm
  have hl := putW_length h.right hg
  have hp := putW_place h.right hg
  have hf := fromI_le g.W t
  refine ⟨putW_word h.right t l, putW_63 h.right h.h63 l ht, ?_, ?_, fun i hi => ?_, h.lo, h.hi⟩
  · show List.length (if (putW g.W t l).2.2 then insI g.S (putW g.W t l).2.1 now else g.S) = (putW g.W t l).1.length
    rw [hl]
    cases (putW g.W t l).2.2
    · simp [h.len]
    · rw [if_pos rfl, if_pos rfl, insI_len (by rw [hp, h.len]; exact hf), h.len]
  · show g.told ≤ (putW g.W t l).1.length
    have := h.told
    omega
  · show tAt (putW g.W t l).1 i ≤ g.mark
    have hi' : i < g.told := hi
    rw [← tAt_take hi', EG.put_take h hm, tAt_take hi']
    exact h.past i hi'
theorem EG.Ok.raise {g : EG} (h : g.Ok) {m : Int} (hm : g.mark < m) (h63 : m ≤ last63) : (g.raise m).Ok :=
  ⟨h.right, h.h63, h.len, h.told, fun i hi => by have := h.past i hi; show tAt g.W i ≤ m; omega, by have := h.lo; show -1 ≤ m; omega, h63⟩
theorem EG.Ok.next {g : EG} (h : g.Ok) (h1 : g.told < g.W.length) (h2 : tAt g.W g.told ≤ g.mark) : g.next.Ok :=
  ⟨h.right, h.h63, h.len, h1, fun i hi => by
    rcases Nat.lt_succ_iff_lt_or_eq.1 (show i < g.told + 1 from hi) with h3 | h3
    · exact h.past i h3
    · rw [h3]; exact h2, h.lo, h.hi⟩
theorem tAt_set {W : List Pt} {k : Nat} {p : Pt} (hk : k < W.length) (h : p.1 = tAt W k) (i : Nat) : tAt (W.set k p) i = tAt W i := by
  unfold tAt at *
  rw [List.getD_eq_getElem?_getD, List.getElem?_set]
  by_cases e : k = i
  · subst e; rw [if_pos rfl, if_pos hk, ← h]; rfl
  · rw [if_neg e, ← List.getD_eq_getElem?_getD]
theorem topE_put {W : List Pt} {t : Int} {l : List PP} (hr : wRightB W = true) (hm : (decide (0 ≤ t) && rightB (lof l)) = true) : topE (putW W t l).1 = max (topE W) t := by
  have ht0 : 0 ≤ t := by simp at hm; exact hm.1
  rcases putW_cases hr hm with ⟨q, hk, hq, e, h⟩ | ⟨q, hq, hf, hk, h⟩
  · rw [h]
    have ek : tAt W q = t := by rw [tAt_get hk]; exact e
    unfold topE
    dsimp only
    rw [List.length_set, if_neg (by omega), if_neg (by omega), tAt_set hk (by rw [ek])]
    have : t ≤ tAt W (W.length - 1) := by
      rcases Nat.lt_or_eq_of_le (show q ≤ W.length - 1 by omega) with h1 | h1
      · have := (wRight_rise hr (i := W.length - 1) (by omega)).2.2 _ h1; omega
      · rw [← h1, ek]; exact Int.le_refl _
    omega
  · rw [h]
    unfold topE
    dsimp only
    have hlen : (W.take q ++ (t, lof l) :: W.drop q).length = W.length + 1 := by simp only [List.length_append, List.length_cons, List.length_take, List.length_drop]; omega
    rw [hlen, if_neg (by omega), Nat.add_sub_cancel]
    have htl : (W.take q).length = q := by rw [List.length_take]; omega
    rcases Nat.lt_or_eq_of_le hf with h1 | h1
    · have h2 := hk h1
      have h3 : tAt (W.take q ++ (t, lof l) :: W.drop q) W.length = tAt W (W.length - 1) := by
        unfold tAt
        rw [List.getD_eq_getElem?_getD, List.getElem?_append_right (by omega), htl, show W.length - q = (W.length - 1 - q) + 1 by omega, List.getElem?_cons_succ, List.getElem?_drop, show q + (W.length - 1 - q) = W.length - 1 by omega, ← List.getD_eq_getElem?_getD]
      rw [h3, if_neg (by omega)]
      have h4 : tAt W q ≤ tAt W (W.length - 1) := by
        rcases Nat.lt_or_eq_of_le (show q ≤ W.length - 1 by omega) with h5 | h5
        · have := (wRight_rise hr (i := W.length - 1) (by omega)).2.2 _ h5; omega
        · rw [← h5]; exact Int.le_refl _
      rw [tAt_get h1] at h4
      omega
    · have h3 : tAt (W.take q ++ (t, lof l) :: W.drop q) W.length = t := by
        unfold tAt
        rw [List.getD_eq_getElem?_getD, List.getElem?_append_right (by omega), htl, show W.length - q = 0 by omega]
        rfl
      rw [h3]
      split
      · omega
      · have h4 : tAt W (W.length - 1) < t := by
          obtain ⟨hj, h5⟩ := fromI_lt (show W.length - 1 < fromI W t by omega)
          rw [tAt_get hj]; exact h5
        omega
/-- Whose verdict is next, and what it is: 2 if none is final. -/
def EG.nextV (g : EG) (s : S1) : Int := if g.told < g.W.length ∧ tAt g.W g.told ≤ g.mark then xAt (rowS g.W g.mark s) g.told else 2
theorem nextV_ne {g : EG} {s : S1} (h : g.nextV s ≠ 2) : g.told < g.W.length ∧ tAt g.W g.told ≤ g.mark ∧ g.nextV s = xAt (rowS g.W g.mark s) g.told := by
  unfold EG.nextV at *
  split at h
  · rename_i h1; rw [if_pos h1]; exact ⟨h1.1, h1.2, rfl⟩
  · exact absurd rfl h
/-- What is known of the live points. -/
theorem live_row {g : EG} (h : g.Ok) (s : S1) : rowS g.live g.mark s = (rowS g.W g.mark s).drop g.told := rowS_drop h.rise _ _ _
theorem b2i_ne (b : Bool) : b2i b ≠ 2 := by cases b <;> decide
/-- Under the last moment the next verdict is what holds. -/
theorem last_next {g : EG} {x : Nd} {t : Tr} (ho : g.Ok) (h1 : wrongN x t.len = 0) (h2 : t.good) (hm : g.mark = last63) (hl : g.told < g.W.length) : g.nextV (madeS x t) = b2i (vT g.W (x, t) g.told) := by
  unfold EG.nextV
  rw [if_pos ⟨hl, by rw [hm, tAt_get hl]; exact ho.h63 _ (List.getElem_mem hl)⟩, hm, last_rowS ho.rise (madeS x t) (madeS_good h1 h2).1 hl, ← madeS_row h1 h2 hl]
/-- Where no verdict is final each live point's moment and the horizon are above the mark. -/
theorem due_next {g : EG} {x : Nd} {t : Tr} (ho : g.Ok) (h1 : wrongN x t.len = 0) (h2 : t.good) (hv : g.nextV (madeS x t) = 2) (h0 : 0 ≤ far1 (x, t)) {i : Nat} (hi : g.told ≤ i) (hi2 : i < g.W.length) : g.mark < min (tAt g.W i + far1 (x, t)) last63 := by
  have hl : g.told < g.W.length := by omega
  have ht : tAt g.W g.told ≤ tAt g.W i := ho.rise.le hi hi2
  have hm := ho.hi
  have hf := far_madeS h1 h2
  by_cases hm2 : g.mark = last63
  · exfalso
    rw [last_next ho h1 h2 hm2 hl] at hv
    exact b2i_ne _ hv
  · have key : g.mark < tAt g.W g.told + far1 (x, t) := by
      unfold EG.nextV at hv
      by_cases h3 : tAt g.W g.told ≤ g.mark
      · rw [if_pos ⟨hl, h3⟩] at hv
        by_cases h4 : g.mark < tAt g.W g.told + far1 (x, t)
        · exact h4
        · exact absurd hv (whole_rowS ho.rise (madeS x t) (madeS_good h1 h2).1 hl (by omega))
      · omega
    omega
end Go.Proofs.YtoegdmpmagbaiaaGreatDoor
