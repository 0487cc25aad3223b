/- What is known of formulas, in plain words: by definition. -/
import Derived.Test.YtoegdmpmagbaiaaGreatDoorKF
import Derived.Test.YtoegdmpmagbaiaaGreatDoorKQ
namespace Go.Proofs.YtoegdmpmagbaiaaGreatDoor
open Go.RowKit

/-- A point's moment. -/
def tAt (W : List Pt) (i : Nat) : Int := (W.getD i (0, [])).1
def pAt (W : List Pt) (i : Nat) : List PP := (W.getD i (0, [])).2
def last63 : Int := 9223372036854775807
/-- Is a point in reach of another one, as far as their moments go? -/
def inR (W : List Pt) (lo hi : Int) (i j : Nat) : Bool := decide (lo ≤ tAt W j - tAt W i) && decide (tAt W j - tAt W i ≤ hi)
/-- May no new point come from lo to hi behind a moment? -/
def shutB (t lo hi mark : Int) : Bool := decide (hi < lo) || decide (hi ≤ mark - t)
/-- The places from i to n. -/
def from_ (i n : Nat) : List Nat := (List.range n).filter fun j => decide (i ≤ j)
theorem from_mem {i n j : Nat} : j ∈ from_ i n ↔ i ≤ j ∧ j < n := by
  unfold from_
  rw [List.mem_filter, List.mem_range, decide_eq_true_eq]
  exact ⟨fun h => ⟨h.2, h.1⟩, fun h => ⟨h.2, h.1⟩⟩
def xAt (x : List Int) (j : Nat) : Int := x.getD j 0
/-- Ev at a point. -/
def evK (W : List Pt) (mark lo hi : Int) (i : Nat) (x : List Int) : Int :=
  if (from_ i W.length).any (fun j => inR W lo hi i j && xAt x j == 1) then 1
  else if (from_ i W.length).all (fun j => !(inR W lo hi i j) || xAt x j == 0) && shutB (tAt W i) lo (min hi (last63 - tAt W i)) mark then 0
  else 2
/-- Was x known to hold at all points from i up to j? -/
def ahead1 (x : List Int) (i j : Nat) : Bool := (from_ i j).all fun k => xAt x k == 1
/-- Is x known not to hold at none of them? -/
def ahead0 (x : List Int) (i j : Nat) : Bool := (from_ i j).all fun k => !(xAt x k == 0)
/-- The first place from i on at which x is known not to hold. -/
def stopAt (x : List Int) (i n : Nat) : Option Nat := (from_ i n).find? fun k => xAt x k == 0
def farK (W : List Pt) (hi : Int) (i : Nat) (x : List Int) : Int :=
  match stopAt x i W.length with
  | none => min hi (last63 - tAt W i)
  | some s => min (min hi (last63 - tAt W i)) (tAt W s - 1 - tAt W i)
/-- Un at a point. -/
def unK (W : List Pt) (mark lo hi : Int) (i : Nat) (x y : List Int) : Int :=
  if (from_ i W.length).any (fun j => inR W lo hi i j && xAt y j == 1 && ahead1 x i j && (j == i || decide (tAt W j - 1 ≤ mark))) then 1
  else if (from_ i W.length).all (fun j => !(inR W lo hi i j && ahead0 x i j) || xAt y j == 0) && shutB (tAt W i) lo (farK W hi i x) mark then 0
  else 2
/-- What is known of a node at a point, by its kids' rows. -/
def knK (W : List Pt) (mark : Int) (n : Nd) (i : Nat) (x y : List Int) : Int :=
  if n.op = 1 then 1
  else if n.op = 2 then 0
  else if n.op = 3 then (if holdsB (pAt W i) n.name n.cmp n.val then 1 else if tAt W i ≤ mark then 0 else 2)
  else if n.op = 4 then (if xAt x i = 2 then 2 else 1 - xAt x i)
  else if n.op = 5 then (if xAt x i = 0 ∨ xAt y i = 0 then 0 else if xAt x i = 1 ∧ xAt y i = 1 then 1 else 2)
  else if n.op = 8 then (if xAt x i = 2 ∨ xAt y i = 2 then 2 else if xAt x i = xAt y i then 1 else 0)
  else if n.op = 9 then evK W mark n.lo n.hi i x
  else unK W mark n.lo n.hi i x y
def rowK (W : List Pt) (mark : Int) (n : Nd) (x y : List Int) : List Int := (List.range W.length).map fun i => knK W mark n i x y
def rowsK (W : List Pt) (mark : Int) : Tr → List (List Int)
  | .nil => []
  | .cons n k r => rowK W mark n ((rowsK W mark k).getD 0 []) ((rowsK W mark k).getD 1 []) :: rowsK W mark r
def rowS (W : List Pt) (mark : Int) (x : S1) : List Int := rowK W mark x.1 ((rowsK W mark x.2).getD 0 []) ((rowsK W mark x.2).getD 1 [])
theorem rowsK_len (W : List Pt) (mark : Int) (t : Tr) : (rowsK W mark t).length = t.len := by
  induction t with
  | nil => rfl
  | cons x k r _ ih => simp [rowsK, Tr.len, ih]
theorem rowK_len (W : List Pt) (mark : Int) (n : Nd) (x y : List Int) : (rowK W mark n x y).length = W.length := by simp [rowK]
/-- Is it one of the three? -/
def Tri (v : Int) : Prop := v = 0 ∨ v = 1 ∨ v = 2
theorem tri_knK (W : List Pt) (mark : Int) (n : Nd) (i : Nat) (x y : List Int) (hx : Tri (xAt x i)) : Tri (knK W mark n i x y) := by
  have he : Tri (evK W mark n.lo n.hi i x) := by unfold evK Tri; repeat' split <;> simp
  have hu : Tri (unK W mark n.lo n.hi i x y) := by unfold unK Tri; repeat' split <;> simp
  unfold knK
  unfold Tri at *
  repeat' split
  all_goals first | omega | exact he | exact hu
theorem rowS_len (W : List Pt) (mark : Int) (x : S1) : (rowS W mark x).length = W.length := rowK_len _ _ _ _ _
end Go.Proofs.YtoegdmpmagbaiaaGreatDoor

/- What is known stays known; under the last moment all is known; whether formulas hold: plain laws. -/
namespace Go.Proofs.YtoegdmpmagbaiaaGreatDoor
open Go.RowKit

/-- Moments rise, and may be. -/
structure Rise (W : List Pt) : Prop where
  up : ∀ i j, i < j → j < W.length → tAt W i < tAt W j
  lo : ∀ i, i < W.length → 0 ≤ tAt W i
  hi : ∀ i, i < W.length → tAt W i ≤ last63
theorem Rise.le {W : List Pt} (h : Rise W) {i j : Nat} (hij : i ≤ j) (hj : j < W.length) : tAt W i ≤ tAt W j := by
  rcases Nat.lt_or_eq_of_le hij with h1 | h1
  · exact Int.le_of_lt (h.up i j h1 hj)
  · rw [h1]; exact Int.le_refl _
def InR (W : List Pt) (lo hi : Int) (i j : Nat) : Prop := lo ≤ tAt W j - tAt W i ∧ tAt W j - tAt W i ≤ hi
theorem inR_iff {W : List Pt} {lo hi : Int} {i j : Nat} : inR W lo hi i j = true ↔ InR W lo hi i j := by unfold inR InR; simp
theorem shut_iff {t lo hi mark : Int} : shutB t lo hi mark = true ↔ hi < lo ∨ hi ≤ mark - t := by unfold shutB; simp
theorem ahead1_iff {x : List Int} {i j : Nat} : ahead1 x i j = true ↔ ∀ k, i ≤ k → k < j → xAt x k = 1 := by
  unfold ahead1; rw [List.all_eq_true]
  exact ⟨fun h k h1 h2 => by simpa using h k (from_mem.2 ⟨h1, h2⟩), fun h k hk => by have := from_mem.1 hk; simpa using h k this.1 this.2⟩
theorem ahead0_iff {x : List Int} {i j : Nat} : ahead0 x i j = true ↔ ∀ k, i ≤ k → k < j → xAt x k ≠ 0 := by
  unfold ahead0; rw [List.all_eq_true]
  exact ⟨fun h k h1 h2 => by simpa using h k (from_mem.2 ⟨h1, h2⟩), fun h k hk => by have := from_mem.1 hk; simpa using h k this.1 this.2⟩
/-- Ev is known to hold. -/
def EvY (W : List Pt) (lo hi : Int) (i : Nat) (x : List Int) : Prop := ∃ j, i ≤ j ∧ j < W.length ∧ InR W lo hi i j ∧ xAt x j = 1
def EvN (W : List Pt) (mark lo hi : Int) (i : Nat) (x : List Int) : Prop := (∀ j, i ≤ j → j < W.length → InR W lo hi i j → xAt x j = 0) ∧ (min hi (last63 - tAt W i) < lo ∨ min hi (last63 - tAt W i) ≤ mark - tAt W i)
theorem evY_iff {W : List Pt} {lo hi : Int} {i : Nat} {x : List Int} : ((from_ i W.length).any (fun j => inR W lo hi i j && xAt x j == 1)) = true ↔ EvY W lo hi i x := by
  rw [List.any_eq_true]
  constructor
  · rintro ⟨j, hj, h⟩
    have := from_mem.1 hj
    simp only [Bool.and_eq_true, beq_iff_eq] at h
    exact ⟨j, this.1, this.2, inR_iff.1 h.1, h.2⟩
  · rintro ⟨j, h1, h2, h3, h4⟩
    exact ⟨j, from_mem.2 ⟨h1, h2⟩, by simp [inR_iff.2 h3, h4]⟩
theorem evN_iff {W : List Pt} {mark lo hi : Int} {i : Nat} {x : List Int} : ((from_ i W.length).all (fun j => !(inR W lo hi i j) || xAt x j == 0) && shutB (tAt W i) lo (min hi (last63 - tAt W i)) mark) = true ↔ EvN W mark lo hi i x := by
  rw [Bool.and_eq_true, List.all_eq_true, shut_iff]
  unfold EvN
  constructor
  · rintro ⟨h1, h2⟩
    refine ⟨fun j a b c => ?_, h2⟩
    have := h1 j (from_mem.2 ⟨a, b⟩)
    simpa [inR_iff.2 c] using this
  · rintro ⟨h1, h2⟩
    refine ⟨fun j hj => ?_, h2⟩
    have := from_mem.1 hj
    by_cases hr : inR W lo hi i j = true
    · simp [h1 j this.1 this.2 (inR_iff.1 hr)]
    · simp [hr]
theorem evK_eq (W : List Pt) (mark lo hi : Int) (i : Nat) (x : List Int) : (EvY W lo hi i x ∧ evK W mark lo hi i x = 1) ∨ (¬ EvY W lo hi i x ∧ EvN W mark lo hi i x ∧ evK W mark lo hi i x = 0) ∨ (¬ EvY W lo hi i x ∧ ¬ EvN W mark lo hi i x ∧ evK W mark lo hi i x = 2) := by
  unfold evK
  by_cases h1 : EvY W lo hi i x
  · rw [if_pos (evY_iff.2 h1)]; exact .inl ⟨h1, rfl⟩
  · rw [if_neg (fun e => h1 (evY_iff.1 e))]
    by_cases h2 : EvN W mark lo hi i x
    · rw [if_pos (evN_iff.2 h2)]; exact .inr (.inl ⟨h1, h2, rfl⟩)
    · rw [if_neg (fun e => h2 (evN_iff.1 e))]; exact .inr (.inr ⟨h1, h2, rfl⟩)
theorem evK_one {W : List Pt} {mark lo hi : Int} {i : Nat} {x : List Int} (h : EvY W lo hi i x) : evK W mark lo hi i x = 1 := by
  rcases evK_eq W mark lo hi i x with h1 | h1 | h1
  · exact h1.2
  · exact absurd h h1.1
  · exact absurd h h1.1
theorem evN_not {W : List Pt} {mark lo hi : Int} {i : Nat} {x : List Int} (h : EvN W mark lo hi i x) : ¬ EvY W lo hi i x := by
  rintro ⟨j, a, b, c, d⟩
  have := h.1 j a b c; omega
theorem evK_zero {W : List Pt} {mark lo hi : Int} {i : Nat} {x : List Int} (h : EvN W mark lo hi i x) : evK W mark lo hi i x = 0 := by
  rcases evK_eq W mark lo hi i x with h1 | h1 | h1
  · exact absurd h1.1 (evN_not h)
  · exact h1.2.2
  · exact absurd h h1.2.1
/-- Un is known to hold. -/
def UnY (W : List Pt) (mark lo hi : Int) (i : Nat) (x y : List Int) : Prop := ∃ j, i ≤ j ∧ j < W.length ∧ InR W lo hi i j ∧ xAt y j = 1 ∧ (∀ k, i ≤ k → k < j → xAt x k = 1) ∧ (j = i ∨ tAt W j - 1 ≤ mark)
def UnN (W : List Pt) (mark lo hi : Int) (i : Nat) (x y : List Int) : Prop := (∀ j, i ≤ j → j < W.length → InR W lo hi i j → (∀ k, i ≤ k → k < j → xAt x k ≠ 0) → xAt y j = 0) ∧ (farK W hi i x < lo ∨ farK W hi i x ≤ mark - tAt W i)
theorem unY_iff {W : List Pt} {mark lo hi : Int} {i : Nat} {x y : List Int} : ((from_ i W.length).any (fun j => inR W lo hi i j && xAt y j == 1 && ahead1 x i j && (j == i || decide (tAt W j - 1 ≤ mark)))) = true ↔ UnY W mark lo hi i x y := by
  rw [List.any_eq_true]
  constructor
  · rintro ⟨j, hj, h⟩
    have := from_mem.1 hj
    simp only [Bool.and_eq_true, beq_iff_eq, Bool.or_eq_true, decide_eq_true_eq] at h
    exact ⟨j, this.1, this.2, inR_iff.1 h.1.1.1, h.1.1.2, ahead1_iff.1 h.1.2, h.2⟩
  · rintro ⟨j, h1, h2, h3, h4, h5, h6⟩
    exact ⟨j, from_mem.2 ⟨h1, h2⟩, by simp only [Bool.and_eq_true, beq_iff_eq, Bool.or_eq_true, decide_eq_true_eq]; exact ⟨⟨⟨inR_iff.2 h3, h4⟩, ahead1_iff.2 h5⟩, h6⟩⟩
theorem unN_iff {W : List Pt} {mark lo hi : Int} {i : Nat} {x y : List Int} : ((from_ i W.length).all (fun j => !(inR W lo hi i j && ahead0 x i j) || xAt y j == 0) && shutB (tAt W i) lo (farK W hi i x) mark) = true ↔ UnN W mark lo hi i x y := by
  rw [Bool.and_eq_true, List.all_eq_true, shut_iff]
  unfold UnN
  constructor
  · rintro ⟨h1, h2⟩
    refine ⟨fun j a b c d => ?_, h2⟩
    have := h1 j (from_mem.2 ⟨a, b⟩)
    simpa [inR_iff.2 c, ahead0_iff.2 d] using this
  · rintro ⟨h1, h2⟩
    refine ⟨fun j hj => ?_, h2⟩
    have := from_mem.1 hj
    by_cases hr : (inR W lo hi i j && ahead0 x i j) = true
    · rw [Bool.and_eq_true] at hr
      simp [h1 j this.1 this.2 (inR_iff.1 hr.1) (ahead0_iff.1 hr.2)]
    · simp only [Bool.not_eq_true] at hr
      simp [hr]
theorem unK_eq (W : List Pt) (mark lo hi : Int) (i : Nat) (x y : List Int) : (UnY W mark lo hi i x y ∧ unK W mark lo hi i x y = 1) ∨ (¬ UnY W mark lo hi i x y ∧ UnN W mark lo hi i x y ∧ unK W mark lo hi i x y = 0) ∨ (¬ UnY W mark lo hi i x y ∧ ¬ UnN W mark lo hi i x y ∧ unK W mark lo hi i x y = 2) := by
  unfold unK
  by_cases h1 : UnY W mark lo hi i x y
  · rw [if_pos (unY_iff.2 h1)]; exact .inl ⟨h1, rfl⟩
  · rw [if_neg (fun e => h1 (unY_iff.1 e))]
    by_cases h2 : UnN W mark lo hi i x y
    · rw [if_pos (unN_iff.2 h2)]; exact .inr (.inl ⟨h1, h2, rfl⟩)
    · rw [if_neg (fun e => h2 (unN_iff.1 e))]; exact .inr (.inr ⟨h1, h2, rfl⟩)
theorem unK_one {W : List Pt} {mark lo hi : Int} {i : Nat} {x y : List Int} (h : UnY W mark lo hi i x y) : unK W mark lo hi i x y = 1 := by
  rcases unK_eq W mark lo hi i x y with h1 | h1 | h1
  · exact h1.2
  · exact absurd h h1.1
  · exact absurd h h1.1
theorem unN_not {W : List Pt} {mark lo hi : Int} {i : Nat} {x y : List Int} (h : UnN W mark lo hi i x y) : ¬ UnY W mark lo hi i x y := by
  rintro ⟨j, a, b, c, d, e, _⟩
  have := h.1 j a b c (fun k h1 h2 => by rw [e k h1 h2]; decide); omega
theorem unK_zero {W : List Pt} {mark lo hi : Int} {i : Nat} {x y : List Int} (h : UnN W mark lo hi i x y) : unK W mark lo hi i x y = 0 := by
  rcases unK_eq W mark lo hi i x y with h1 | h1 | h1
  · exact absurd h1.1 (unN_not h)
  · exact h1.2.2
  · exact absurd h h1.2.1
/-- How far Un looks, as a greatest lower bound. -/
theorem le_farK {W : List Pt} (hW : Rise W) {hi v : Int} {i : Nat} {x : List Int} : v ≤ farK W hi i x ↔ v ≤ hi ∧ v ≤ last63 - tAt W i ∧ ∀ s, i ≤ s → s < W.length → xAt x s = 0 → v ≤ tAt W s - 1 - tAt W i := by
  unfold farK
  cases hs : stopAt x i W.length with
  | none =>
    unfold stopAt at hs
    rw [List.find?_eq_none] at hs
    have hno : ∀ s, i ≤ s → s < W.length → ¬ xAt x s = 0 := fun s h1 h2 => by simpa using hs s (from_mem.2 ⟨h1, h2⟩)
    show v ≤ min hi (last63 - tAt W i) ↔ _
    exact ⟨fun h => ⟨by omega, by omega, fun s a b c => absurd c (hno s a b)⟩, fun h => by omega⟩
  | some s =>
    have hp : xAt x s = 0 := by have := List.find?_some hs; simpa using this
    have hm := from_mem.1 (List.mem_of_find?_eq_some hs)
    have hfirst : ∀ k, i ≤ k → k < s → ¬ xAt x k = 0 := by
      intro k h1 h2 h3
      unfold stopAt at hs
      obtain ⟨_, l1, l2, hl, hno⟩ := List.find?_eq_some_iff_append.1 hs
      have hsort : (from_ i W.length).Pairwise (· < ·) := List.Pairwise.filter _ List.pairwise_lt_range
      have hk : k ∈ from_ i W.length := from_mem.2 ⟨h1, by omega⟩
      rw [hl] at hk hsort
      rw [List.pairwise_append] at hsort
      rcases List.mem_append.1 hk with hk | hk
      · have := hno k hk; simp [h3] at this
      · rcases List.mem_cons.1 hk with hk | hk
        · omega
        · have := (List.pairwise_cons.1 hsort.2.1).1 k hk; omega
    show v ≤ min (min hi (last63 - tAt W i)) (tAt W s - 1 - tAt W i) ↔ _
    constructor
    · intro h
      refine ⟨by omega, by omega, fun r a b c => ?_⟩
      rcases Nat.lt_or_ge r s with h1 | h1
      · exact absurd c (hfirst r a h1)
      · have := hW.le h1 b; omega
    · rintro ⟨h1, h2, h3⟩
      have := h3 s hm.1 hm.2 hp
      omega
theorem farK_le {W : List Pt} (hW : Rise W) (hi : Int) (i : Nat) (x : List Int) : farK W hi i x ≤ hi ∧ farK W hi i x ≤ last63 - tAt W i ∧ ∀ s, i ≤ s → s < W.length → xAt x s = 0 → farK W hi i x ≤ tAt W s - 1 - tAt W i := (le_farK hW).1 (Int.le_refl _)

section
variable {W V : List Pt} {mark later : Int} {κ : Nat → Nat}
theorem xAt_rowK (W : List Pt) (mark : Int) (n : Nd) (x y : List Int) {i : Nat} (h : i < W.length) : xAt (rowK W mark n x y) i = knK W mark n i x y := by
  unfold xAt rowK
  rw [List.getD_eq_getElem?_getD, List.getElem?_map, List.getElem?_range h]
  rfl
end
theorem tri_rows (W : List Pt) (mark : Int) (t : Tr) : ∀ p i, Tri (xAt ((rowsK W mark t).getD p []) i) := by
  induction t with
  | nil => intro p i; simp [rowsK, xAt, Tri]
  | cons n k r ihk ihr =>
    intro p i
    cases p with
    | zero =>
      simp only [rowsK, List.getD_cons_zero]
      by_cases hi' : i < W.length
      · rw [xAt_rowK _ _ _ _ _ hi']; exact tri_knK W mark n i _ _ (ihk 0 i)
      · unfold xAt; rw [List.getD_eq_getElem?_getD, List.getElem?_eq_none (by rw [rowK_len]; omega)]; exact .inl rfl
    | succ p => simpa [rowsK] using ihr p i
/-- How far a node looks; the farthest of some. -/
def maxF : Tr → Int
  | .nil => 0
  | .cons n k r => max (maxF k + if 9 ≤ n.op then n.hi else 0) (maxF r)
def far1 (s : S1) : Int := maxF s.2 + if 9 ≤ s.1.op then s.1.hi else 0
theorem maxF_pos (t : Tr) : 0 ≤ maxF t := by
  induction t with
  | nil => exact Int.le_refl _
  | cons n k r _ ih => simp only [maxF]; omega
/-- Where the horizon is not above the mark all is known. -/
theorem whole_kn {W : List Pt} (hW : Rise W) {mark : Int} (n : Nd) (hc : n.op = 1 ∨ n.op = 2 ∨ n.op = 3 ∨ n.op = 4 ∨ n.op = 5 ∨ n.op = 8 ∨ n.op = 9 ∨ n.op = 11) (m : Int) (hm : 0 ≤ m) {x y : List Int} (hx3 : ∀ i, Tri (xAt x i)) (hy3 : ∀ i, Tri (xAt y i))
    (hx : ∀ i, i < W.length → tAt W i + m ≤ mark → xAt x i ≠ 2) (hy : ∀ i, i < W.length → tAt W i + m ≤ mark → xAt y i ≠ 2) {i : Nat} (hi' : i < W.length) (ht : tAt W i + (m + if 9 ≤ n.op then n.hi else 0) ≤ mark) : knK W mark n i x y ≠ 2 := by
  unfold knK
  have tx := hx3 i
  have ty := hy3 i
  unfold Tri at tx ty
  rcases hc with h | h | h | h | h | h | h | h
  · simp [h]
  · simp [h]
  · simp only [h, show ¬ (9 : Int) ≤ 3 by decide, reduceIte, show ¬ (3 : Int) = 1 by decide, show ¬ (3 : Int) = 2 by decide] at ht ⊢
    split
    · decide
    · rw [if_pos (by omega)]; decide
  · simp only [h, show ¬ (9 : Int) ≤ 4 by decide, reduceIte, show ¬ (4 : Int) = 1 by decide, show ¬ (4 : Int) = 2 by decide, show ¬ (4 : Int) = 3 by decide] at ht ⊢
    have := hx i hi' (by omega)
    rw [if_neg this]; omega
  · simp only [h, show ¬ (9 : Int) ≤ 5 by decide, reduceIte, show ¬ (5 : Int) = 1 by decide, show ¬ (5 : Int) = 2 by decide, show ¬ (5 : Int) = 3 by decide, show ¬ (5 : Int) = 4 by decide] at ht ⊢
    have := hx i hi' (by omega)
    have := hy i hi' (by omega)
    repeat' split
    all_goals omega
  · simp only [h, show ¬ (9 : Int) ≤ 8 by decide, reduceIte, show ¬ (8 : Int) = 1 by decide, show ¬ (8 : Int) = 2 by decide, show ¬ (8 : Int) = 3 by decide, show ¬ (8 : Int) = 4 by decide, show ¬ (8 : Int) = 5 by decide] at ht ⊢
    have := hx i hi' (by omega)
    have := hy i hi' (by omega)
    repeat' split
    all_goals omega
  · simp only [h, reduceIte, show ¬ (9 : Int) = 1 by decide, show ¬ (9 : Int) = 2 by decide, show ¬ (9 : Int) = 3 by decide, show ¬ (9 : Int) = 4 by decide, show ¬ (9 : Int) = 5 by decide, show ¬ (9 : Int) = 8 by decide, show (9 : Int) ≤ 9 by decide] at ht ⊢
    rcases evK_eq W mark n.lo n.hi i x with ⟨_, h2⟩ | ⟨_, _, h2⟩ | ⟨h1, h3, _⟩
    · rw [h2]; decide
    · rw [h2]; decide
    · exfalso
      apply h3
      refine ⟨fun j a b c => ?_, by omega⟩
      have t3 := hx3 j
      have h4 : xAt x j ≠ 1 := fun e => h1 ⟨j, a, b, c, e⟩
      unfold InR at c
      have := hx j b (by omega)
      unfold Tri at t3; omega
  · simp only [h, reduceIte, show ¬ (11 : Int) = 1 by decide, show ¬ (11 : Int) = 2 by decide, show ¬ (11 : Int) = 3 by decide, show ¬ (11 : Int) = 4 by decide, show ¬ (11 : Int) = 5 by decide, show ¬ (11 : Int) = 8 by decide, show ¬ (11 : Int) = 9 by decide, show (9 : Int) ≤ 11 by decide] at ht ⊢
    rcases unK_eq W mark n.lo n.hi i x y with ⟨_, h2⟩ | ⟨_, _, h2⟩ | ⟨h1, h3, _⟩
    · rw [h2]; decide
    · rw [h2]; decide
    · exfalso
      apply h3
      have hf := farK_le hW n.hi i x
      refine ⟨fun j a b c d => ?_, by omega⟩
      have t3 := hy3 j
      have cc := c
      unfold InR at c
      have h5 := hy j b (by omega)
      have h4 : xAt y j ≠ 1 := fun e => h1 ⟨j, a, b, cc, e, fun k hk1 hk2 => by
        have t4 := hx3 k
        have h6 := d k hk1 hk2
        have h7 := hW.up k j hk2 b
        have h8 := hx k (by omega) (by omega)
        unfold Tri at t4; omega, .inr (by omega)⟩
      unfold Tri at t3; omega
theorem core_ops {op : Int} {n : Nat} (h : coreN op n) : op = 1 ∨ op = 2 ∨ op = 3 ∨ op = 4 ∨ op = 5 ∨ op = 8 ∨ op = 9 ∨ op = 11 := by unfold coreN at h; omega
theorem whole_rows {W : List Pt} (hW : Rise W) {mark : Int} (t : Tr) : t.core → ∀ p i, i < W.length → tAt W i + maxF t ≤ mark → xAt ((rowsK W mark t).getD p []) i ≠ 2 := by
  induction t with
  | nil => intro _ p i _ _; simp [rowsK, xAt]
  | cons n k r ihk ihr =>
    rintro ⟨h1, h2, h3⟩ p i hi' ht
    simp only [maxF] at ht
    cases p with
    | zero =>
      simp only [rowsK, List.getD_cons_zero]
      rw [xAt_rowK _ _ _ _ _ hi']
      exact whole_kn hW n (core_ops h1) (maxF k) (maxF_pos k) (tri_rows W mark k 0) (tri_rows W mark k 1) (fun j hj hjt => ihk h2 0 j hj hjt) (fun j hj hjt => ihk h2 1 j hj hjt) hi' (by omega)
    | succ p => simpa [rowsK] using ihr h3 p i hi' (by omega)
theorem whole_rowS {W : List Pt} (hW : Rise W) {mark : Int} (s : S1) (hc : coreS s) {i : Nat} (hi' : i < W.length) (ht : tAt W i + far1 s ≤ mark) : xAt (rowS W mark s) i ≠ 2 := by
  unfold rowS
  rw [xAt_rowK _ _ _ _ _ hi']
  exact whole_kn hW s.1 (core_ops hc.1) (maxF s.2) (maxF_pos _) (tri_rows W mark s.2 0) (tri_rows W mark s.2 1) (fun j hj hjt => whole_rows hW s.2 hc.2 0 j hj hjt) (fun j hj hjt => whole_rows hW s.2 hc.2 1 j hj hjt) hi' ht
end Go.Proofs.YtoegdmpmagbaiaaGreatDoor

/- Whether formulas hold: by definition; what norm makes says the same; under the last moment all is known, as it holds. -/
namespace Go.Proofs.YtoegdmpmagbaiaaGreatDoor
open Go.RowKit

def bAt (x : List Bool) (j : Nat) : Bool := x.getD j false
def someB (W : List Pt) (lo hi : Int) (i : Nat) (x : List Bool) (v : Bool) : Bool := (from_ i W.length).any fun j => inR W lo hi i j && (bAt x j == v)
def untB (W : List Pt) (lo hi : Int) (i : Nat) (x y : List Bool) : Bool := (from_ i W.length).any fun j => inR W lo hi i j && bAt y j && (from_ i j).all fun k => bAt x k
def relB (W : List Pt) (lo hi : Int) (i : Nat) (x y : List Bool) : Bool := (from_ i W.length).all fun j => !(inR W lo hi i j) || bAt y j || (from_ i j).any fun k => bAt x k
/-- Does a node hold at a point, by its kids' rows? -/
def knT (W : List Pt) (n : Nd) (i : Nat) (x y : List Bool) : Bool :=
  if n.op = 1 then true
  else if n.op = 2 then false
  else if n.op = 3 then holdsB (pAt W i) n.name n.cmp n.val
  else if n.op = 4 then !(bAt x i)
  else if n.op = 5 then bAt x i && bAt y i
  else if n.op = 6 then bAt x i || bAt y i
  else if n.op = 7 then !(bAt x i) || bAt y i
  else if n.op = 8 then bAt x i == bAt y i
  else if n.op = 9 then someB W n.lo n.hi i x true
  else if n.op = 10 then !(someB W n.lo n.hi i x false)
  else if n.op = 11 then untB W n.lo n.hi i x y
  else relB W n.lo n.hi i x y
def rowT (W : List Pt) (n : Nd) (x y : List Bool) : List Bool := (List.range W.length).map fun i => knT W n i x y
def rowsT (W : List Pt) : Tr → List (List Bool)
  | .nil => []
  | .cons n k r => rowT W n ((rowsT W k).getD 0 []) ((rowsT W k).getD 1 []) :: rowsT W r
def rowTS (W : List Pt) (x : S1) : List Bool := rowT W x.1 ((rowsT W x.2).getD 0 []) ((rowsT W x.2).getD 1 [])
theorem rowT_len (W : List Pt) (n : Nd) (x y : List Bool) : (rowT W n x y).length = W.length := by simp [rowT]
theorem rowTS_len (W : List Pt) (x : S1) : (rowTS W x).length = W.length := rowT_len _ _ _ _
theorem rowsT_len (W : List Pt) (t : Tr) : (rowsT W t).length = t.len := by
  induction t with
  | nil => rfl
  | cons x k r _ ih => simp [rowsT, Tr.len, ih]
theorem bAt_rowT (W : List Pt) (n : Nd) (x y : List Bool) {i : Nat} (h : i < W.length) : bAt (rowT W n x y) i = knT W n i x y := by
  unfold bAt rowT
  rw [List.getD_eq_getElem?_getD, List.getElem?_map, List.getElem?_range h]
  rfl
def vT (W : List Pt) (s : S1) (i : Nat) : Bool := bAt (rowTS W s) i
theorem vT_eq (W : List Pt) (s : S1) {i : Nat} (h : i < W.length) : vT W s i = knT W s.1 i ((rowsT W s.2).getD 0 []) ((rowsT W s.2).getD 1 []) := bAt_rowT W _ _ _ h
theorem someB_iff {W : List Pt} {lo hi : Int} {i : Nat} {x : List Bool} {v : Bool} : someB W lo hi i x v = true ↔ ∃ j, i ≤ j ∧ j < W.length ∧ InR W lo hi i j ∧ bAt x j = v := by
  unfold someB
  rw [List.any_eq_true]
  constructor
  · rintro ⟨j, hj, h⟩
    have := from_mem.1 hj
    rw [Bool.and_eq_true, beq_iff_eq] at h
    exact ⟨j, this.1, this.2, inR_iff.1 h.1, h.2⟩
  · rintro ⟨j, h1, h2, h3, h4⟩
    exact ⟨j, from_mem.2 ⟨h1, h2⟩, by rw [Bool.and_eq_true, beq_iff_eq]; exact ⟨inR_iff.2 h3, h4⟩⟩
theorem untB_iff {W : List Pt} {lo hi : Int} {i : Nat} {x y : List Bool} : untB W lo hi i x y = true ↔ ∃ j, i ≤ j ∧ j < W.length ∧ InR W lo hi i j ∧ bAt y j = true ∧ ∀ k, i ≤ k → k < j → bAt x k = true := by
  unfold untB
  rw [List.any_eq_true]
  constructor
  · rintro ⟨j, hj, h⟩
    have := from_mem.1 hj
    rw [Bool.and_eq_true, Bool.and_eq_true, List.all_eq_true] at h
    exact ⟨j, this.1, this.2, inR_iff.1 h.1.1, h.1.2, fun k h1 h2 => h.2 k (from_mem.2 ⟨h1, h2⟩)⟩
  · rintro ⟨j, h1, h2, h3, h4, h5⟩
    exact ⟨j, from_mem.2 ⟨h1, h2⟩, by rw [Bool.and_eq_true, Bool.and_eq_true, List.all_eq_true]; exact ⟨⟨inR_iff.2 h3, h4⟩, fun k hk => by have := from_mem.1 hk; exact h5 k this.1 this.2⟩⟩
theorem relB_iff {W : List Pt} {lo hi : Int} {i : Nat} {x y : List Bool} : relB W lo hi i x y = true ↔ ∀ j, i ≤ j → j < W.length → InR W lo hi i j → bAt y j = true ∨ ∃ k, i ≤ k ∧ k < j ∧ bAt x k = true := by
  unfold relB
  rw [List.all_eq_true]
  constructor
  · intro h j h1 h2 h3
    have := h j (from_mem.2 ⟨h1, h2⟩)
    rw [Bool.or_eq_true, Bool.or_eq_true, List.any_eq_true] at this
    rcases this with (this | this) | ⟨k, hk, this⟩
    · rw [inR_iff.2 h3] at this; cases this
    · exact .inl this
    · have hk := from_mem.1 hk; exact .inr ⟨k, hk.1, hk.2, this⟩
  · intro h j hj
    have hj := from_mem.1 hj
    rw [Bool.or_eq_true, Bool.or_eq_true, List.any_eq_true]
    by_cases hr : inR W lo hi i j = true
    · rcases h j hj.1 hj.2 (inR_iff.1 hr) with h | ⟨k, h1, h2, h3⟩
      · exact .inl (.inr h)
      · exact .inr ⟨k, from_mem.2 ⟨h1, h2⟩, h3⟩
    · exact .inl (.inl (by simpa using hr))
theorem bool_eq_iff {a b : Bool} (h : a = true ↔ b = true) : a = b := by cases a <;> cases b <;> simp_all
/-- Rows that are the same at each point of the word. -/
def EqR (W : List Pt) (x y : List Bool) : Prop := ∀ j, j < W.length → bAt x j = bAt y j
theorem someB_congr {W : List Pt} {lo hi : Int} {i : Nat} {x x' : List Bool} {v : Bool} (h : EqR W x x') : someB W lo hi i x v = someB W lo hi i x' v := by
  apply bool_eq_iff
  rw [someB_iff, someB_iff]
  exact ⟨fun ⟨j, a, b, c, d⟩ => ⟨j, a, b, c, by rw [← h j b]; exact d⟩, fun ⟨j, a, b, c, d⟩ => ⟨j, a, b, c, by rw [h j b]; exact d⟩⟩
theorem untB_congr {W : List Pt} {lo hi : Int} {i : Nat} {x x' y y' : List Bool} (h : EqR W x x') (k : EqR W y y') : untB W lo hi i x y = untB W lo hi i x' y' := by
  apply bool_eq_iff
  rw [untB_iff, untB_iff]
  exact ⟨fun ⟨j, a, b, c, d, e⟩ => ⟨j, a, b, c, by rw [← k j b]; exact d, fun r h1 h2 => by rw [← h r (by omega)]; exact e r h1 h2⟩, fun ⟨j, a, b, c, d, e⟩ => ⟨j, a, b, c, by rw [k j b]; exact d, fun r h1 h2 => by rw [h r (by omega)]; exact e r h1 h2⟩⟩
theorem relB_congr {W : List Pt} {lo hi : Int} {i : Nat} {x x' y y' : List Bool} (h : EqR W x x') (k : EqR W y y') : relB W lo hi i x y = relB W lo hi i x' y' := by
  apply bool_eq_iff
  rw [relB_iff, relB_iff]
  constructor
  · intro g j a b c
    rcases g j a b c with g | ⟨r, h1, h2, h3⟩
    · exact .inl (by rw [← k j b]; exact g)
    · exact .inr ⟨r, h1, h2, by rw [← h r (by omega)]; exact h3⟩
  · intro g j a b c
    rcases g j a b c with g | ⟨r, h1, h2, h3⟩
    · exact .inl (by rw [k j b]; exact g)
    · exact .inr ⟨r, h1, h2, by rw [h r (by omega)]; exact h3⟩
theorem knT_congr {W : List Pt} {n : Nd} {i : Nat} {x x' y y' : List Bool} (hi : i < W.length) (h : EqR W x x') (k : EqR W y y') : knT W n i x y = knT W n i x' y' := by
  unfold knT
  rw [h i hi, k i hi, someB_congr h, someB_congr (v := false) h, untB_congr h k, relB_congr h k]
theorem vT_one (W : List Pt) (op lo hi : Int) (x : S1) {i : Nat} (h : i < W.length) : vT W (mk1 op lo hi x) i = knT W (nd0 op lo hi) i (rowTS W x) [] := by
  rw [vT_eq _ _ h]; rfl
theorem vT_two (W : List Pt) (op lo hi : Int) (x y : S1) {i : Nat} (h : i < W.length) : vT W (mk2 op lo hi x y) i = knT W (nd0 op lo hi) i (rowTS W x) (rowTS W y) := by
  rw [vT_eq _ _ h]; rfl
theorem vT_true {W : List Pt} {s : S1} (hs : s.1.op = 1) {i : Nat} (h : i < W.length) : vT W s i = true := by rw [vT_eq _ _ h]; unfold knT; rw [if_pos hs]
theorem vT_false {W : List Pt} {s : S1} (hs : s.1.op = 2) {i : Nat} (h : i < W.length) : vT W s i = false := by rw [vT_eq _ _ h]; unfold knT; rw [if_neg (by omega), if_pos hs]
theorem vT_mk1 {W : List Pt} {i : Nat} (h : i < W.length) : vT W (mk0 1) i = true := vT_true rfl h
theorem vT_mk2 {W : List Pt} {i : Nat} (h : i < W.length) : vT W (mk0 2) i = false := vT_false rfl h
theorem vT_kid {W : List Pt} {s : S1} (h4 : s.1.op = 4) (hl : s.2.len = 1) {i : Nat} (h : i < W.length) : vT W s i = !(vT W (kidS s 0) i) := by
  obtain ⟨n, t⟩ := s
  cases t with
  | nil => simp [Tr.len] at hl
  | cons y k r =>
    rw [vT_eq _ _ h]
    dsimp only at h4
    unfold knT
    rw [if_neg (by dsimp only; omega), if_neg (by dsimp only; omega), if_neg (by dsimp only; omega), if_pos h4]
    rfl
theorem vT_not {W : List Pt} {s : S1} (hc : coreS s) {i : Nat} (h : i < W.length) : vT W (notS s) i = !(vT W s i) := by
  unfold notS
  split
  · rename_i h1; rw [vT_mk2 h, vT_true h1 h]; rfl
  · split
    · rename_i h1; rw [vT_mk1 h, vT_false h1 h]; rfl
    · split
      · rename_i h1
        have hl : s.2.len = 1 := by have := hc.1; unfold coreN at this; omega
        rw [vT_kid h1 hl h]; simp
      · rw [vT_one _ _ _ _ _ h]; rfl
theorem vT_and {W : List Pt} {s t : S1} {i : Nat} (h : i < W.length) : vT W (andS s t) i = (vT W s i && vT W t i) := by
  unfold andS
  split
  · rename_i h1
    rw [vT_mk2 h]
    rcases h1 with h1 | h1
    · rw [vT_false h1 h]; rfl
    · rw [vT_false h1 h, Bool.and_false]
  · split
    · rename_i h1; rw [vT_true h1 h]; rfl
    · split
      · rename_i h1
        rcases h1 with h1 | h1
        · rw [vT_true h1 h, Bool.and_true]
        · rw [(sameS_iff s t).1 h1, Bool.and_self]
      · rw [vT_two _ _ _ _ _ _ h]; rfl
theorem vT_iff {W : List Pt} {s t : S1} (hs : coreS s) (ht : coreS t) {i : Nat} (h : i < W.length) : vT W (iffS s t) i = (vT W s i == vT W t i) := by
  unfold iffS
  split
  · rename_i h1; rw [vT_mk1 h, (sameS_iff s t).1 h1]; simp
  · split
    · rename_i h1; rw [vT_true h1 h]; simp
    · split
      · rename_i h1; rw [vT_true h1 h]; simp
      · split
        · rename_i h1; rw [vT_not ht h, vT_false h1 h]; simp
        · split
          · rename_i h1; rw [vT_not hs h, vT_false h1 h]; simp
          · rw [vT_two _ _ _ _ _ _ h]; rfl
theorem vT_ev {W : List Pt} {lo hi : Int} (hh : 0 ≤ hi) {s : S1} {i : Nat} (h : i < W.length) : vT W (evS lo hi s) i = someB W lo hi i (rowTS W s) true := by
  apply bool_eq_iff
  rw [someB_iff]
  unfold evS
  split
  · rename_i h1
    rw [vT_mk2 h]
    exact ⟨fun e => (by cases e), fun ⟨j, a, b, c, d⟩ => by have := vT_false (W := W) h1 b; unfold vT at this; rw [this] at d; cases d⟩
  · split
    · rename_i h1
      rw [vT_mk1 h]
      exact ⟨fun _ => ⟨i, Nat.le_refl _, h, by unfold InR; omega, vT_true h1.1 h⟩, fun _ => rfl⟩
    · rw [vT_one _ _ _ _ _ h, ← someB_iff]; exact Iff.rfl
theorem vT_un {W : List Pt} {lo hi : Int} (hh : 0 ≤ hi) (hl : 0 ≤ lo) {s t : S1} {i : Nat} (h : i < W.length) : vT W (unS lo hi s t) i = untB W lo hi i (rowTS W s) (rowTS W t) := by
  apply bool_eq_iff
  rw [untB_iff]
  have hself : lo = 0 → InR W lo hi i i := fun e => by unfold InR; omega
  unfold unS
  split
  · rename_i h1
    rw [vT_mk2 h]
    exact ⟨fun e => (by cases e), fun ⟨j, a, b, c, d, _⟩ => by have := vT_false (W := W) h1 b; unfold vT at this; rw [this] at d; cases d⟩
  · split
    · rename_i h1
      have hone : ∀ j, i ≤ j → (∀ k, i ≤ k → k < j → bAt (rowTS W s) k = true) → j = i := fun j a e => by
        rcases Nat.lt_or_eq_of_le a with a | a
        · have := e i (Nat.le_refl _) a
          have h2 := vT_false (W := W) h1 h; unfold vT at h2; rw [h2] at this; cases this
        · exact a.symm
      split
      · rename_i h2
        exact ⟨fun e => ⟨i, Nat.le_refl _, h, hself h2, e, fun k a b => by omega⟩, fun ⟨j, a, b, c, d, e⟩ => by have := hone j a e; subst this; exact d⟩
      · rename_i h2
        rw [vT_mk2 h]
        exact ⟨fun e => (by cases e), fun ⟨j, a, b, c, d, e⟩ => by have := hone j a e; subst this; unfold InR at c; omega⟩
    · split
      · rename_i h1
        rw [vT_ev hh h, someB_iff]
        exact ⟨fun ⟨j, a, b, c, d⟩ => ⟨j, a, b, c, d, fun k h2 h3 => vT_true h1 (by omega)⟩, fun ⟨j, a, b, c, d, _⟩ => ⟨j, a, b, c, d⟩⟩
      · split
        · rename_i h1
          rw [vT_mk1 h]
          exact ⟨fun _ => ⟨i, Nat.le_refl _, h, hself h1.2, vT_true h1.1 h, fun k a b => by omega⟩, fun _ => rfl⟩
        · rw [vT_two _ _ _ _ _ _ h, ← untB_iff]; exact Iff.rfl
/-- What a node becomes says the same. -/
theorem vT_bec {W : List Pt} {n : Nd} {x y : S1} (h1 : 1 ≤ n.op) (h12 : n.op ≤ 12) (hsp : 9 ≤ n.op → 0 ≤ n.lo ∧ n.lo ≤ n.hi) (hx : 4 ≤ n.op → coreS x) (hy : 4 ≤ n.op → n.op ≠ 4 → n.op ≠ 9 → n.op ≠ 10 → coreS y) {i : Nat} (h : i < W.length) :
    vT W (becS n x y) i = knT W n i (rowTS W x) (rowTS W y) := by
  have hnx : 4 ≤ n.op → ∀ j, j < W.length → bAt (rowTS W (notS x)) j = !(bAt (rowTS W x) j) := fun e j hj => vT_not (hx e) hj
  have hny : 4 ≤ n.op → n.op ≠ 4 → n.op ≠ 9 → n.op ≠ 10 → ∀ j, j < W.length → bAt (rowTS W (notS y)) j = !(bAt (rowTS W y) j) := fun e a b c j hj => vT_not (hy e a b c) hj
  unfold becS
  by_cases h3 : n.op ≤ 3
  · rw [if_pos h3, vT_eq _ _ h]
    have : n.op = 1 ∨ n.op = 2 ∨ n.op = 3 := by omega
    unfold knT
    rcases this with e | e | e <;> simp [e]
  · rw [if_neg h3]
    have hx := hx (by omega)
    have hnx := hnx (by omega)
    have hy := hy (by omega)
    have hny := hny (by omega)
    unfold knT
    rw [if_neg (show ¬ n.op = 1 by omega), if_neg (show ¬ n.op = 2 by omega), if_neg (show ¬ n.op = 3 by omega)]
    by_cases h4 : n.op = 4
    · rw [if_pos h4, if_pos h4, vT_not hx h]; rfl
    rw [if_neg h4, if_neg h4]
    by_cases h5 : n.op = 5
    · rw [if_pos h5, if_pos h5, vT_and h]; rfl
    rw [if_neg h5, if_neg h5]
    by_cases h6 : n.op = 6
    · have hy := hy (by omega) (by omega) (by omega)
      rw [if_pos h6, if_pos h6, vT_not (core_and (core_not hx) (core_not hy)) h, vT_and h, vT_not hx h, vT_not hy h]
      unfold vT; simp
    rw [if_neg h6, if_neg h6]
    by_cases h7 : n.op = 7
    · have hy := hy (by omega) (by omega) (by omega)
      rw [if_pos h7, if_pos h7, vT_not (core_and hx (core_not hy)) h, vT_and h, vT_not hy h]
      unfold vT; simp
    rw [if_neg h7, if_neg h7]
    by_cases h8 : n.op = 8
    · have hy := hy (by omega) (by omega) (by omega)
      rw [if_pos h8, if_pos h8, vT_iff hx hy h]; rfl
    rw [if_neg h8, if_neg h8]
    obtain ⟨s1, s2⟩ := hsp (by omega)
    by_cases h9 : n.op = 9
    · rw [if_pos h9, if_pos h9, vT_ev (by omega) h]
    rw [if_neg h9, if_neg h9]
    by_cases h10 : n.op = 10
    · rw [if_pos h10, if_pos h10, vT_not (core_ev (core_not hx)) h, vT_ev (by omega) h]
      congr 1
      apply bool_eq_iff
      rw [someB_iff, someB_iff]
      exact ⟨fun ⟨j, a, b, c, d⟩ => ⟨j, a, b, c, by rw [hnx j b] at d; simpa using d⟩, fun ⟨j, a, b, c, d⟩ => ⟨j, a, b, c, by rw [hnx j b, d]; rfl⟩⟩
    rw [if_neg h10, if_neg h10]
    have hy := hy (by omega) (by omega) (by omega)
    have hny := hny (by omega) (by omega) (by omega)
    by_cases h11 : n.op = 11
    · rw [if_pos h11, if_pos h11, vT_un (by omega) s1 h]
    · rw [if_neg h11, if_neg h11, vT_not (core_un (core_not hx) (core_not hy)) h, vT_un (by omega) s1 h]
      apply bool_eq_iff
      rw [relB_iff, Bool.not_eq_true', ← Bool.not_eq_true, untB_iff]
      constructor
      · intro g j a b c
        by_cases hyj : bAt (rowTS W y) j = true
        · exact .inl hyj
        · right
          by_cases hex : ∃ k, i ≤ k ∧ k < j ∧ bAt (rowTS W x) k = true
          · exact hex
          · exfalso
            apply g
            refine ⟨j, a, b, c, by rw [hny j b]; simpa using hyj, fun k h1 h2 => ?_⟩
            rw [hnx k (by omega)]
            have : ¬ bAt (rowTS W x) k = true := fun e => hex ⟨k, h1, h2, e⟩
            simpa using this
      · rintro g ⟨j, a, b, c, d, e⟩
        rw [hny j b] at d
        rcases g j a b c with g | ⟨k, h1, h2, h3⟩
        · rw [g] at d; cases d
        · have := e k h1 h2
          rw [hnx k (by omega), h3] at this; cases this
theorem wrong_span {x : Nd} {n : Nat} (h : wrongN x n = 0) : 9 ≤ x.op → 0 ≤ x.lo ∧ x.lo ≤ x.hi := by
  intro h9
  unfold wrongN at h
  repeat' split at h
  all_goals try omega
  rename_i hs
  have : spanB x.lo x.hi = true := by
    by_cases e : spanB x.lo x.hi = true
    · exact e
    · exact absurd ⟨h9, by simpa using e⟩ hs
  simpa [spanB] using this
/-- norm keeps what a formula says. -/
theorem made_rows {W : List Pt} : ∀ {t : Tr}, t.good → ∀ p, p < t.len → EqR W ((rowsT W t).getD p []) (rowTS W ((madeF t).getD p (mk0 0)))
  | .nil, _, p, hp => by simp [Tr.len] at hp
  | .cons n k r, ⟨h1, h2, h3⟩, p, hp => by
    intro i hi
    cases p with
    | zero =>
      simp only [rowsT, madeF, List.getD_cons_zero]
      obtain ⟨o1, o2, o3⟩ := wrong_op h1
      have hk := made_good h2
      have hlen := madeF_len k
      have hcore : ∀ q, q < k.len → coreS ((madeF k).getD q (mk0 0)) := fun q hq => by
        rw [List.getD_eq_getElem?_getD, List.getElem?_eq_getElem (by omega)]; exact hk.1 _ (List.getElem_mem _)
      have ko : (4 ≤ n.op → 1 ≤ k.len) ∧ (4 ≤ n.op → n.op ≠ 4 → n.op ≠ 9 → n.op ≠ 10 → 2 ≤ k.len) ∧ ((n.op ≤ 3 ∨ n.op = 4 ∨ n.op = 9 ∨ n.op = 10) ∨ 2 ≤ k.len) := by
        rw [o3]; unfold kidsN
        refine ⟨fun e => ?_, fun a b c d => ?_, ?_⟩
        · repeat' split
          all_goals omega
        · repeat' split
          all_goals omega
        · repeat' split
          all_goals omega
      have hv := vT_bec (W := W) (n := n) (x := (madeF k).getD 0 (mk0 0)) (y := (madeF k).getD 1 (mk0 0)) o1 o2 (wrong_span h1) (fun e => hcore 0 (by have := ko.1 e; omega)) (fun a b c d => hcore 1 (by have := ko.2.1 a b c d; omega)) hi
      unfold vT at hv
      rw [hv, bAt_rowT _ _ _ _ hi]
      rcases ko.2.2 with hop | h2k
      · rcases hop with e | e
        · have : n.op = 1 ∨ n.op = 2 ∨ n.op = 3 := by omega
          unfold knT
          rcases this with e | e | e <;> simp [e]
        · have hx0 := made_rows h2 0 (by have := ko.1 (by omega); omega) (W := W)
          unfold knT
          rw [hx0 i hi, someB_congr hx0, someB_congr (v := false) hx0]
          rcases e with e | e | e <;> simp [e]
      · exact knT_congr hi (made_rows h2 0 (by omega)) (made_rows h2 1 (by omega))
    | succ p =>
      simp only [rowsT, madeF, List.getD_cons_succ]
      exact made_rows h3 p (by simp only [Tr.len] at hp; omega) i hi
theorem madeS_row {W : List Pt} {n : Nd} {k : Tr} (h1 : wrongN n k.len = 0) (h2 : k.good) {i : Nat} (h : i < W.length) : vT W (n, k) i = vT W (madeS n k) i := by
  exact made_rows (W := W) (t := .cons n k .nil) ⟨h1, h2, trivial⟩ 0 (by simp [Tr.len]) i h
def b2i (b : Bool) : Int := if b then 1 else 0
/-- Under the last moment all is known, as it holds. -/
theorem last_kn {W : List Pt} (hW : Rise W) (n : Nd) (hc : n.op = 1 ∨ n.op = 2 ∨ n.op = 3 ∨ n.op = 4 ∨ n.op = 5 ∨ n.op = 8 ∨ n.op = 9 ∨ n.op = 11) {x y : List Int} {a b : List Bool} (hx : ∀ i, i < W.length → xAt x i = b2i (bAt a i)) (hy : ∀ i, i < W.length → xAt y i = b2i (bAt b i)) {i : Nat} (hi' : i < W.length) :
    knK W last63 n i x y = b2i (knT W n i a b) := by
  have ex := hx i hi'
  have ey := hy i hi'
  unfold knK knT
  rcases hc with h | h | h | h | h | h | h | h
  · simp [h, b2i]
  · simp [h, b2i]
  · simp only [h, reduceIte, show ¬ (3 : Int) = 1 by decide, show ¬ (3 : Int) = 2 by decide]
    rw [if_pos (hW.hi i hi')]
    unfold b2i; rfl
  · simp only [h, reduceIte, show ¬ (4 : Int) = 1 by decide, show ¬ (4 : Int) = 2 by decide, show ¬ (4 : Int) = 3 by decide]
    rw [ex]; cases bAt a i <;> simp [b2i]
  · simp only [h, reduceIte, show ¬ (5 : Int) = 1 by decide, show ¬ (5 : Int) = 2 by decide, show ¬ (5 : Int) = 3 by decide, show ¬ (5 : Int) = 4 by decide]
    rw [ex, ey]; cases bAt a i <;> cases bAt b i <;> simp [b2i]
  · simp only [h, reduceIte, show ¬ (8 : Int) = 1 by decide, show ¬ (8 : Int) = 2 by decide, show ¬ (8 : Int) = 3 by decide, show ¬ (8 : Int) = 4 by decide, show ¬ (8 : Int) = 5 by decide, show ¬ (8 : Int) = 6 by decide, show ¬ (8 : Int) = 7 by decide]
    rw [ex, ey]; cases bAt a i <;> cases bAt b i <;> simp [b2i]
  · simp only [h, reduceIte, show ¬ (9 : Int) = 1 by decide, show ¬ (9 : Int) = 2 by decide, show ¬ (9 : Int) = 3 by decide, show ¬ (9 : Int) = 4 by decide, show ¬ (9 : Int) = 5 by decide, show ¬ (9 : Int) = 6 by decide, show ¬ (9 : Int) = 7 by decide, show ¬ (9 : Int) = 8 by decide]
    by_cases hs : someB W n.lo n.hi i a true = true
    · rw [hs]
      obtain ⟨j, p, q, r, s⟩ := someB_iff.1 hs
      rw [evK_one ⟨j, p, q, r, by rw [hx j q, s]; rfl⟩]; rfl
    · have hf : someB W n.lo n.hi i a true = false := by simpa using hs
      rw [hf, evK_zero ⟨fun j p q r => ?_, by omega⟩]
      · rfl
      · rw [hx j q]
        by_cases e : bAt a j = true
        · exact absurd (someB_iff.2 ⟨j, p, q, r, e⟩) hs
        · have e : bAt a j = false := by simpa using e
          rw [e]; rfl
  · simp only [h, reduceIte, show ¬ (11 : Int) = 1 by decide, show ¬ (11 : Int) = 2 by decide, show ¬ (11 : Int) = 3 by decide, show ¬ (11 : Int) = 4 by decide, show ¬ (11 : Int) = 5 by decide, show ¬ (11 : Int) = 6 by decide, show ¬ (11 : Int) = 7 by decide, show ¬ (11 : Int) = 8 by decide, show ¬ (11 : Int) = 9 by decide, show ¬ (11 : Int) = 10 by decide]
    by_cases hs : untB W n.lo n.hi i a b = true
    · rw [hs]
      obtain ⟨j, p, q, r, s, t⟩ := untB_iff.1 hs
      rw [unK_one ⟨j, p, q, r, by rw [hy j q, s]; rfl, fun k h1 h2 => by rw [hx k (by omega), t k h1 h2]; rfl, .inr (by have := hW.hi j q; omega)⟩]; rfl
    · have hf : untB W n.lo n.hi i a b = false := by simpa using hs
      have hfar := farK_le hW n.hi i x
      rw [hf, unK_zero ⟨fun j p q r s => ?_, by omega⟩]
      · rfl
      · rw [hy j q]
        by_cases e : bAt b j = true
        · refine absurd (untB_iff.2 ⟨j, p, q, r, e, fun k h1 h2 => ?_⟩) hs
          have h3 := s k h1 h2
          rw [hx k (by omega)] at h3
          cases hk : bAt a k with
          | true => rfl
          | false => rw [hk] at h3; exact absurd rfl h3
        · have e : bAt b j = false := by simpa using e
          rw [e]; rfl
theorem last_rows {W : List Pt} (hW : Rise W) (t : Tr) : t.core → ∀ p i, i < W.length → xAt ((rowsK W last63 t).getD p []) i = b2i (bAt ((rowsT W t).getD p []) i) := by
  induction t with
  | nil => intro _ p i _; simp [rowsK, rowsT, xAt, bAt, b2i]
  | cons n k r ihk ihr =>
    rintro ⟨h1, h2, h3⟩ p i hi'
    cases p with
    | zero =>
      simp only [rowsK, rowsT, List.getD_cons_zero]
      rw [xAt_rowK _ _ _ _ _ hi', bAt_rowT _ _ _ _ hi']
      exact last_kn hW n (core_ops h1) (fun j hj => ihk h2 0 j hj) (fun j hj => ihk h2 1 j hj) hi'
    | succ p => simpa [rowsK, rowsT] using ihr h3 p i hi'
theorem last_rowS {W : List Pt} (hW : Rise W) (s : S1) (hc : coreS s) {i : Nat} (hi' : i < W.length) : xAt (rowS W last63 s) i = b2i (vT W s i) := by
  unfold rowS
  rw [xAt_rowK _ _ _ _ _ hi', vT_eq _ _ hi']
  exact last_kn hW s.1 (core_ops hc.1) (fun j hj => last_rows hW s.2 hc.2 0 j hj) (fun j hj => last_rows hW s.2 hc.2 1 j hj) hi'
/-- Horizons: of what norm makes. -/
def HiN (n : Nd) : Prop := 9 ≤ n.op → 0 ≤ n.hi
theorem far1_pos {s : S1} (h : HiN s.1) : 0 ≤ far1 s := by
  unfold far1
  have := maxF_pos s.2
  by_cases h9 : 9 ≤ s.1.op
  · rw [if_pos h9]; have := h h9; omega
  · rw [if_neg h9]; omega
theorem maxF_cons (n : Nd) (k r : Tr) : maxF (.cons n k r) = max (far1 (n, k)) (maxF r) := rfl
theorem far_mk0 (op : Int) (h : op < 9) : far1 (mk0 op) = 0 := by unfold far1 mk0 nd0 maxF; rw [if_neg (by dsimp only; omega)]; rfl
theorem far_kid (t : Tr) : ∀ p, far1 (t.list.getD p (mk0 0)) ≤ maxF t := by
  induction t with
  | nil => intro p; simp only [Tr.list, List.getD_nil, maxF]; rw [far_mk0 0 (by decide)]; exact Int.le_refl _
  | cons n k r _ ih =>
    intro p
    rw [maxF_cons]
    cases p with
    | zero => simp only [Tr.list, List.getD_cons_zero]; omega
    | succ p => have := ih p; simp only [Tr.list, List.getD_cons_succ]; omega
theorem far_not {s : S1} (h : HiN s.1) : far1 (notS s) ≤ far1 s := by
  have hp := far1_pos h
  unfold notS
  repeat' split
  · rw [far_mk0 2 (by decide)]; exact hp
  · rw [far_mk0 1 (by decide)]; exact hp
  · rename_i h4
    have := far_kid s.2 0
    unfold kidS
    have e : far1 s = maxF s.2 := by unfold far1; rw [if_neg (by omega)]; omega
    omega
  · have e : far1 (mk1 4 0 0 s) = max (far1 s) 0 + 0 := rfl
    omega
theorem far_and {s t : S1} (h : HiN s.1) (k : HiN t.1) : far1 (andS s t) ≤ max (far1 s) (far1 t) := by
  have h1 := far1_pos h
  have h2 := far1_pos k
  unfold andS
  repeat' split
  · rw [far_mk0 2 (by decide)]; omega
  · omega
  · omega
  · have e : far1 (mk2 5 0 0 s t) = max (far1 s) (max (far1 t) 0) + 0 := rfl
    omega
theorem far_iff {s t : S1} (h : HiN s.1) (k : HiN t.1) : far1 (iffS s t) ≤ max (far1 s) (far1 t) := by
  have h1 := far1_pos h
  have h2 := far1_pos k
  have h3 := far_not h
  have h4 := far_not k
  unfold iffS
  repeat' split
  · rw [far_mk0 1 (by decide)]; omega
  · omega
  · omega
  · omega
  · omega
  · have e : far1 (mk2 8 0 0 s t) = max (far1 s) (max (far1 t) 0) + 0 := rfl
    omega
theorem far_ev {lo hi : Int} {s : S1} (hh : 0 ≤ hi) (h : HiN s.1) : far1 (evS lo hi s) ≤ far1 s + hi := by
  have h1 := far1_pos h
  unfold evS
  repeat' split
  · rw [far_mk0 2 (by decide)]; omega
  · rw [far_mk0 1 (by decide)]; omega
  · have e : far1 (mk1 9 lo hi s) = max (far1 s) 0 + hi := rfl
    omega
theorem far_un {lo hi : Int} {s t : S1} (hh : 0 ≤ hi) (h : HiN s.1) (k : HiN t.1) : far1 (unS lo hi s t) ≤ max (far1 s) (far1 t) + hi := by
  have h1 := far1_pos h
  have h2 := far1_pos k
  have h3 := far_ev (lo := lo) hh k
  unfold unS
  repeat' split
  · rw [far_mk0 2 (by decide)]; omega
  · omega
  · rw [far_mk0 2 (by decide)]; omega
  · omega
  · rw [far_mk0 1 (by decide)]; omega
  · have e : far1 (mk2 11 lo hi s t) = max (far1 s) (max (far1 t) 0) + hi := rfl
    omega
theorem hi_mk0 (op : Int) (_ : op ≠ 3) : HiN (nd0 op 0 0) := fun _ => Int.le_refl _
theorem far_bec {n : Nd} {x y : S1} (hn : HiN n) (hx : everyS HiN x) (hy : everyS HiN y) : far1 (becS n x y) ≤ max (far1 x) (far1 y) + if 9 ≤ n.op then n.hi else 0 := by
  have h1 := far1_pos hx.1
  have h2 := far1_pos hy.1
  have nx := all_not hi_mk0 hx
  have ny := all_not hi_mk0 hy
  have h3 := far_not hx.1
  have h4 := far_not hy.1
  unfold becS
  by_cases a : n.op ≤ 3
  · rw [if_pos a, if_neg (by omega)]
    have e : far1 ((⟨n.op, n.name, n.cmp, n.val, 0, 0⟩, .nil) : S1) = 0 := by unfold far1 maxF; rw [if_neg (by dsimp only; omega)]; rfl
    omega
  rw [if_neg a]
  by_cases a4 : n.op = 4
  · rw [if_pos a4, if_neg (by omega)]; omega
  rw [if_neg a4]
  by_cases a5 : n.op = 5
  · rw [if_pos a5, if_neg (by omega)]; have := far_and hx.1 hy.1; omega
  rw [if_neg a5]
  by_cases a6 : n.op = 6
  · rw [if_pos a6, if_neg (by omega)]; have := far_and nx.1 ny.1; have := far_not (all_and hi_mk0 nx ny).1; omega
  rw [if_neg a6]
  by_cases a7 : n.op = 7
  · rw [if_pos a7, if_neg (by omega)]; have := far_and hx.1 ny.1; have := far_not (all_and hi_mk0 hx ny).1; omega
  rw [if_neg a7]
  by_cases a8 : n.op = 8
  · rw [if_pos a8, if_neg (by omega)]; have := far_iff hx.1 hy.1; omega
  rw [if_neg a8]
  by_cases a9 : n.op = 9
  · have hh := hn (by omega)
    rw [if_pos a9, if_pos (by omega)]; have := far_ev (lo := n.lo) hh hx.1; omega
  rw [if_neg a9]
  by_cases a10 : n.op = 10
  · have hh := hn (by omega)
    rw [if_pos a10, if_pos (by omega)]; have := far_ev (lo := n.lo) hh nx.1; have := far_not (all_ev hi_mk0 (Q := HiN) (lo := n.lo) (hi := n.hi) (fun _ => hh) nx).1; omega
  rw [if_neg a10]
  have hh := hn (by omega)
  by_cases a11 : n.op = 11
  · rw [if_pos a11, if_pos (by omega)]; have := far_un (lo := n.lo) hh hx.1 hy.1; omega
  · rw [if_neg a11, if_pos (by omega)]; have := far_un (lo := n.lo) hh nx.1 ny.1; have := far_not (all_un hi_mk0 (Q := HiN) (lo := n.lo) (hi := n.hi) (fun _ => hh) (fun _ => hh) nx ny).1; omega
theorem hiN_made : ∀ {t : Tr}, t.allN HiN → ∀ i, everyS HiN ((madeF t).getD i (mk0 0))
  | .nil, _, i => by simpa [madeF] using all_mk0 hi_mk0 0 (by decide)
  | .cons x k r, ⟨h1, h2, h3⟩, i => by
    cases i with
    | succ i => simpa [madeF] using hiN_made h3 i
    | zero =>
      simp only [madeF, List.getD_cons_zero]
      have hx := hiN_made h2 0
      have hy := hiN_made h2 1
      by_cases h9 : 9 ≤ x.op
      · exact all_bec hi_mk0 (fun _ => Int.le_refl _) (fun _ => h1 h9) (fun _ => h1 h9) hx hy
      · unfold becS
        repeat' split
        · exact ⟨fun _ => Int.le_refl _, trivial⟩
        · exact all_not hi_mk0 hx
        · exact all_and hi_mk0 hx hy
        · exact all_not hi_mk0 (all_and hi_mk0 (all_not hi_mk0 hx) (all_not hi_mk0 hy))
        · exact all_not hi_mk0 (all_and hi_mk0 hx (all_not hi_mk0 hy))
        · exact all_iff hi_mk0 hx hy
        all_goals omega
theorem far_made : ∀ {t : Tr}, t.allN HiN → ∀ i, far1 ((madeF t).getD i (mk0 0)) ≤ maxF t
  | .nil, _, i => by simp only [madeF, List.getD_nil, maxF]; rw [far_mk0 0 (by decide)]; exact Int.le_refl _
  | .cons x k r, ⟨h1, h2, h3⟩, i => by
    cases i with
    | succ i => have := far_made h3 i; simp only [madeF, List.getD_cons_succ, maxF]; omega
    | zero =>
      simp only [madeF, List.getD_cons_zero, maxF]
      have := far_bec h1 (hiN_made h2 0) (hiN_made h2 1)
      have := far_made h2 0
      have := far_made h2 1
      omega
theorem good_hi : ∀ {t : Tr}, t.good → t.allN HiN
  | .nil, _ => trivial
  | .cons x k r, ⟨h1, h2, h3⟩ => ⟨fun h9 => by have := wrong_span h1 h9; omega, good_hi h2, good_hi h3⟩
theorem far_madeS {n : Nd} {k : Tr} (h1 : wrongN n k.len = 0) (h2 : k.good) : far1 (madeS n k) ≤ far1 (n, k) := by
  have := far_made (t := .cons n k .nil) (good_hi ⟨h1, h2, trivial⟩) 0
  have h3 : 0 ≤ far1 (n, k) := far1_pos (s := (n, k)) (fun h9 => by have := wrong_span h1 h9; show 0 ≤ n.hi; omega)
  simp only [madeF, List.getD_cons_zero] at this
  rw [maxF_cons] at this
  have e : maxF .nil = 0 := rfl
  unfold madeS
  omega
end Go.Proofs.YtoegdmpmagbaiaaGreatDoor

/- Loops over a word's points, in plain words: what is known of Ev and Un, whether they hold. -/
namespace Go.Proofs.YtoegdmpmagbaiaaGreatDoor
open Go.RowKit

section
variable {W : List Pt} {mark lo hi : Int} {i j : Nat} {x y : List Int} {a b : Bool}
/-- Beyond a point that is too far none is in reach. -/
theorem reach_lt (hW : Rise W) {k : Nat} (he : j = W.length ∨ hi < tAt W j - tAt W i) (hk : k < W.length) (hr : InR W lo hi i k) : k < j := by
  rcases Nat.lt_or_ge k j with h | h
  · exact h
  · rcases he with he | he
    · omega
    · have := hW.le h hk
      have := hr.2
      omega
/-- So far Ev wasn't seen to hold; a: was it known not to hold at each? -/
structure EvI (W : List Pt) (lo hi : Int) (i j : Nat) (x : List Int) (a : Bool) : Prop where
  no : ∀ k, i ≤ k → k < j → InR W lo hi i k → xAt x k ≠ 1
  all : a = true ↔ ∀ k, i ≤ k → k < j → InR W lo hi i k → xAt x k = 0
theorem EvI.zero : EvI W lo hi i i x true := ⟨fun k h1 h2 => absurd h2 (by omega), ⟨fun _ k h1 h2 => absurd h2 (by omega), fun _ => rfl⟩⟩
theorem EvI.skip (h : EvI W lo hi i j x a) (hn : ¬ InR W lo hi i j) : EvI W lo hi i (j + 1) x a := by
  refine ⟨fun k h1 h2 h3 => ?_, h.all.trans ⟨fun g k h1 h2 h3 => ?_, fun g k h1 h2 h3 => g k h1 (by omega) h3⟩⟩
  · rcases Nat.lt_succ_iff_lt_or_eq.1 h2 with h4 | rfl
    · exact h.no k h1 h4 h3
    · exact absurd h3 hn
  · rcases Nat.lt_succ_iff_lt_or_eq.1 h2 with h4 | rfl
    · exact g k h1 h4 h3
    · exact absurd h3 hn
theorem EvI.none (h : EvI W lo hi i j x a) (hv : xAt x j = 0) : EvI W lo hi i (j + 1) x a := by
  refine ⟨fun k h1 h2 h3 => ?_, h.all.trans ⟨fun g k h1 h2 h3 => ?_, fun g k h1 h2 h3 => g k h1 (by omega) h3⟩⟩
  · rcases Nat.lt_succ_iff_lt_or_eq.1 h2 with h4 | rfl
    · exact h.no k h1 h4 h3
    · omega
  · rcases Nat.lt_succ_iff_lt_or_eq.1 h2 with h4 | rfl
    · exact g k h1 h4 h3
    · exact hv
theorem EvI.some (h : EvI W lo hi i j x a) (hij : i ≤ j) (hr : InR W lo hi i j) (h1 : xAt x j ≠ 1) (h0 : xAt x j ≠ 0) : EvI W lo hi i (j + 1) x false := by
  refine ⟨fun k a1 a2 a3 => ?_, ⟨(fun e => by cases e), fun g => absurd (g j hij (Nat.lt_succ_self _) hr) h0⟩⟩
  rcases Nat.lt_succ_iff_lt_or_eq.1 a2 with h4 | rfl
  · exact h.no k a1 h4 a3
  · exact h1
theorem EvI.found (h1 : i ≤ j) (h2 : j < W.length) (hr : InR W lo hi i j) (hv : xAt x j = 1) : evK W mark lo hi i x = 1 := evK_one ⟨j, h1, h2, hr, hv⟩
theorem EvI.end_ (hW : Rise W) (h : EvI W lo hi i j x a) (he : j = W.length ∨ hi < tAt W j - tAt W i) (hj : j ≤ W.length) :
    evK W mark lo hi i x = if (a && shutB (tAt W i) lo (min hi (last63 - tAt W i)) mark) = true then 0 else 2 := by
  have hno : ¬ EvY W lo hi i x := fun ⟨k, a1, a2, a3, a4⟩ => h.no k a1 (reach_lt hW he a2 a3) a3 a4
  have hall : a = true ↔ ∀ k, i ≤ k → k < W.length → InR W lo hi i k → xAt x k = 0 := h.all.trans ⟨fun g k h1 h2 h3 => g k h1 (reach_lt hW he h2 h3) h3, fun g k h1 h2 h3 => g k h1 (by omega) h3⟩
  have hN : (a && shutB (tAt W i) lo (min hi (last63 - tAt W i)) mark) = true ↔ EvN W mark lo hi i x := by
    rw [Bool.and_eq_true, shut_iff, hall]; rfl
  rcases evK_eq W mark lo hi i x with ⟨h1, _⟩ | ⟨_, h1, h2⟩ | ⟨_, h1, h2⟩
  · exact absurd h1 hno
  · rw [if_pos (hN.2 h1), h2]
  · rw [if_neg (fun e => h1 (hN.1 e)), h2]

/-- So far Un wasn't seen to hold. -/
structure UnI (W : List Pt) (mark lo hi : Int) (i j r : Nat) (x y : List Int) (b a : Bool) : Prop where
  st : ∀ k, i ≤ k → k < j → xAt x k ≠ 0
  bef : b = true ↔ ∀ k, i ≤ k → k < j → xAt x k = 1
  no : ∀ k, i ≤ k → k < r → InR W lo hi i k → xAt y k = 1 → (∀ s, i ≤ s → s < k → xAt x s = 1) → (k = i ∨ tAt W k - 1 ≤ mark) → False
  all : a = true ↔ ∀ k, i ≤ k → k < r → InR W lo hi i k → xAt y k = 0
theorem UnI.zero : UnI W mark lo hi i i i x y true true := ⟨fun k h1 h2 => absurd h2 (by omega), ⟨fun _ k h1 h2 => absurd h2 (by omega), fun _ => rfl⟩, fun k h1 h2 => absurd h2 (by omega), ⟨fun _ k h1 h2 => absurd h2 (by omega), fun _ => rfl⟩⟩
theorem UnI.skip (h : UnI W mark lo hi i j j x y b a) (hn : ¬ InR W lo hi i j) : UnI W mark lo hi i j (j + 1) x y b a := by
  refine ⟨h.st, h.bef, fun k h1 h2 h3 => ?_, h.all.trans ⟨fun g k h1 h2 h3 => ?_, fun g k h1 h2 h3 => g k h1 (by omega) h3⟩⟩
  · rcases Nat.lt_succ_iff_lt_or_eq.1 h2 with h4 | rfl
    · exact h.no k h1 h4 h3
    · exact absurd h3 hn
  · rcases Nat.lt_succ_iff_lt_or_eq.1 h2 with h4 | rfl
    · exact g k h1 h4 h3
    · exact absurd h3 hn
theorem UnI.found (h : UnI W mark lo hi i j j x y b a) (h1 : i ≤ j) (h2 : j < W.length) (hr : InR W lo hi i j) (hv : xAt y j = 1) (hb : b = true) (hm : j = i ∨ tAt W j - 1 ≤ mark) : unK W mark lo hi i x y = 1 := unK_one ⟨j, h1, h2, hr, hv, h.bef.1 hb, hm⟩
theorem UnI.pass (h : UnI W mark lo hi i j j x y b a) (hij : i ≤ j) (hr : InR W lo hi i j) (hn : ¬ (xAt y j = 1 ∧ b = true ∧ (j = i ∨ tAt W j - 1 ≤ mark))) : UnI W mark lo hi i j (j + 1) x y b (a && decide (xAt y j = 0)) := by
  refine ⟨h.st, h.bef, fun k h1 h2 h3 h4 h5 h6 => ?_, ?_⟩
  · rcases Nat.lt_succ_iff_lt_or_eq.1 h2 with h7 | rfl
    · exact h.no k h1 h7 h3 h4 h5 h6
    · exact hn ⟨h4, h.bef.2 h5, h6⟩
  · rw [Bool.and_eq_true, decide_eq_true_eq, h.all]
    constructor
    · rintro ⟨g, g2⟩ k h1 h2 h3
      rcases Nat.lt_succ_iff_lt_or_eq.1 h2 with h7 | rfl
      · exact g k h1 h7 h3
      · exact g2
    · exact fun g => ⟨fun k h1 h2 h3 => g k h1 (by omega) h3, g j hij (Nat.lt_succ_self _) hr⟩
theorem UnI.next (h : UnI W mark lo hi i j (j + 1) x y b a) (hij : i ≤ j) (hx : xAt x j ≠ 0) : UnI W mark lo hi i (j + 1) (j + 1) x y (b && decide (xAt x j = 1)) a := by
  refine ⟨fun k h1 h2 => ?_, ?_, h.no, h.all⟩
  · rcases Nat.lt_succ_iff_lt_or_eq.1 h2 with h7 | rfl
    · exact h.st k h1 h7
    · exact hx
  · rw [Bool.and_eq_true, decide_eq_true_eq, h.bef]
    constructor
    · rintro ⟨g, g2⟩ k h1 h2
      rcases Nat.lt_succ_iff_lt_or_eq.1 h2 with h7 | rfl
      · exact g k h1 h7
      · exact g2
    · exact fun g => ⟨fun k h1 h2 => g k h1 (by omega), g j hij (Nat.lt_succ_self _)⟩
/-- The loop ends ahead of a point: none was known not to hold. -/
theorem un_end1 (hW : Rise W) (hst : ∀ k, i ≤ k → k < j → xAt x k ≠ 0) (hall : a = true ↔ ∀ k, i ≤ k → k < j → InR W lo hi i k → xAt y k = 0) (he : j = W.length ∨ hi < tAt W j - tAt W i) (hj : j ≤ W.length) (_hij : i ≤ j) (hno : ¬ UnY W mark lo hi i x y) :
    unK W mark lo hi i x y = if (a && shutB (tAt W i) lo (min hi (last63 - tAt W i)) mark) = true then 0 else 2 := by
  have hfar : farK W hi i x = min hi (last63 - tAt W i) := by
    have h1 := farK_le hW hi i x
    have h2 := (le_farK hW (hi := hi) (v := min hi (last63 - tAt W i)) (i := i) (x := x)).2 ⟨by omega, by omega, fun s a1 a2 a3 => by
      rcases Nat.lt_or_ge s j with h | h
      · exact absurd a3 (hst s a1 h)
      · rcases he with he | he
        · omega
        · have := hW.le h a2; omega⟩
    omega
  have hall' : a = true ↔ ∀ k, i ≤ k → k < W.length → InR W lo hi i k → (∀ s, i ≤ s → s < k → xAt x s ≠ 0) → xAt y k = 0 :=
    hall.trans ⟨fun g k h1 h2 h3 _ => g k h1 (reach_lt hW he h2 h3) h3, fun g k h1 h2 h3 => g k h1 (by omega) h3 (fun s a1 a2 => hst s a1 (by omega))⟩
  have hN : (a && shutB (tAt W i) lo (min hi (last63 - tAt W i)) mark) = true ↔ UnN W mark lo hi i x y := by
    rw [Bool.and_eq_true, shut_iff, hall', ← hfar]; rfl
  rcases unK_eq W mark lo hi i x y with ⟨h1, _⟩ | ⟨_, h1, h2⟩ | ⟨_, h1, h2⟩
  · exact absurd h1 hno
  · rw [if_pos (hN.2 h1), h2]
  · rw [if_neg (fun e => h1 (hN.1 e)), h2]
/-- The loop ends at a point that is known not to hold. -/
theorem un_end2 (hW : Rise W) (hst : ∀ k, i ≤ k → k < j → xAt x k ≠ 0) (hall : a = true ↔ ∀ k, i ≤ k → k < j + 1 → InR W lo hi i k → xAt y k = 0) (hij : i ≤ j) (hj : j < W.length) (hx : xAt x j = 0) (hno : ¬ UnY W mark lo hi i x y) :
    unK W mark lo hi i x y = if (a && shutB (tAt W i) lo (min (min hi (last63 - tAt W i)) (tAt W j - 1 - tAt W i)) mark) = true then 0 else 2 := by
  have hfar : farK W hi i x = min (min hi (last63 - tAt W i)) (tAt W j - 1 - tAt W i) := by
    have h1 := farK_le hW hi i x
    have h3 := h1.2.2 j hij hj hx
    have h2 := (le_farK hW (hi := hi) (v := min (min hi (last63 - tAt W i)) (tAt W j - 1 - tAt W i)) (i := i) (x := x)).2 ⟨by omega, by omega, fun s a1 a2 a3 => by
      rcases Nat.lt_or_ge s j with h | h
      · exact absurd a3 (hst s a1 h)
      · have := hW.le h a2; omega⟩
    omega
  have hall' : a = true ↔ ∀ k, i ≤ k → k < W.length → InR W lo hi i k → (∀ s, i ≤ s → s < k → xAt x s ≠ 0) → xAt y k = 0 :=
    hall.trans ⟨fun g k h1 h2 h3 h4 => g k h1 (by
      rcases Nat.lt_or_ge k (j + 1) with h | h
      · exact h
      · exact absurd hx (h4 j hij (by omega))) h3, fun g k h1 h2 h3 => g k h1 (by omega) h3 (fun s a1 a2 => hst s a1 (by omega))⟩
  have hN : (a && shutB (tAt W i) lo (min (min hi (last63 - tAt W i)) (tAt W j - 1 - tAt W i)) mark) = true ↔ UnN W mark lo hi i x y := by
    rw [Bool.and_eq_true, shut_iff, hall', ← hfar]; rfl
  rcases unK_eq W mark lo hi i x y with ⟨h1, _⟩ | ⟨_, h1, h2⟩ | ⟨_, h1, h2⟩
  · exact absurd h1 hno
  · rw [if_pos (hN.2 h1), h2]
  · rw [if_neg (fun e => h1 (hN.1 e)), h2]
theorem UnI.end1 (hW : Rise W) (h : UnI W mark lo hi i j j x y b a) (he : j = W.length ∨ hi < tAt W j - tAt W i) (hj : j ≤ W.length) (hij : i ≤ j) :
    unK W mark lo hi i x y = if (a && shutB (tAt W i) lo (min hi (last63 - tAt W i)) mark) = true then 0 else 2 :=
  un_end1 hW h.st h.all he hj hij fun ⟨k, a1, a2, a3, a4, a5, a6⟩ => h.no k a1 (reach_lt hW he a2 a3) a3 a4 a5 a6
theorem UnI.end2 (hW : Rise W) (h : UnI W mark lo hi i j (j + 1) x y b a) (hij : i ≤ j) (hj : j < W.length) (hx : xAt x j = 0) :
    unK W mark lo hi i x y = if (a && shutB (tAt W i) lo (min (min hi (last63 - tAt W i)) (tAt W j - 1 - tAt W i)) mark) = true then 0 else 2 :=
  un_end2 hW h.st h.all hij hj hx fun ⟨k, a1, a2, a3, a4, a5, a6⟩ => by
    rcases Nat.lt_or_ge k (j + 1) with h1 | h1
    · exact h.no k a1 h1 a3 a4 a5 a6
    · have := a5 j hij (by omega); omega
end
section
variable {W : List Pt} {lo hi : Int} {i j : Nat} {x y : List Bool} {v : Bool}
theorem some_yes (h1 : i ≤ j) (h2 : j < W.length) (hr : InR W lo hi i j) (hv : bAt x j = v) : someB W lo hi i x v = true := someB_iff.2 ⟨j, h1, h2, hr, hv⟩
theorem some_no (hW : Rise W) (h : ∀ k, i ≤ k → k < j → InR W lo hi i k → bAt x k ≠ v) (he : j = W.length ∨ hi < tAt W j - tAt W i) : someB W lo hi i x v = false := by
  rw [← Bool.not_eq_true, someB_iff]
  rintro ⟨k, a1, a2, a3, a4⟩
  exact h k a1 (reach_lt hW he a2 a3) a3 a4
theorem unt_yes (h1 : i ≤ j) (h2 : j < W.length) (hr : InR W lo hi i j) (hv : bAt y j = true) (hx : ∀ k, i ≤ k → k < j → bAt x k = true) : untB W lo hi i x y = true := untB_iff.2 ⟨j, h1, h2, hr, hv, hx⟩
theorem unt_no (hW : Rise W) (h : ∀ k, i ≤ k → k < j → InR W lo hi i k → bAt y k = false) (he : j = W.length ∨ hi < tAt W j - tAt W i) : untB W lo hi i x y = false := by
  rw [← Bool.not_eq_true, untB_iff]
  rintro ⟨k, a1, a2, a3, a4, _⟩
  rw [h k a1 (reach_lt hW he a2 a3) a3] at a4; cases a4
theorem unt_stop (h : ∀ k, i ≤ k → k < j + 1 → InR W lo hi i k → bAt y k = false) (hij : i ≤ j) (hx : bAt x j = false) : untB W lo hi i x y = false := by
  rw [← Bool.not_eq_true, untB_iff]
  rintro ⟨k, a1, a2, a3, a4, a5⟩
  rcases Nat.lt_or_ge k (j + 1) with h1 | h1
  · rw [h k a1 h1 a3] at a4; cases a4
  · rw [a5 j hij (by omega)] at hx; cases hx
theorem rel_no (h1 : i ≤ j) (h2 : j < W.length) (hr : InR W lo hi i j) (hv : bAt y j = false) (hx : ∀ k, i ≤ k → k < j → bAt x k = false) : relB W lo hi i x y = false := by
  rw [← Bool.not_eq_true, relB_iff]
  intro h
  rcases h j h1 h2 hr with h | ⟨k, a1, a2, a3⟩
  · rw [hv] at h; cases h
  · rw [hx k a1 a2] at a3; cases a3
theorem rel_end (hW : Rise W) (h : ∀ k, i ≤ k → k < j → InR W lo hi i k → bAt y k = true) (he : j = W.length ∨ hi < tAt W j - tAt W i) : relB W lo hi i x y = true :=
  relB_iff.2 fun k a1 a2 a3 => .inl (h k a1 (reach_lt hW he a2 a3) a3)
theorem rel_stop (h : ∀ k, i ≤ k → k < j + 1 → InR W lo hi i k → bAt y k = true) (hij : i ≤ j) (hx : bAt x j = true) : relB W lo hi i x y = true :=
  relB_iff.2 fun k a1 a2 a3 => by
    rcases Nat.lt_or_ge k (j + 1) with h1 | h1
    · exact .inl (h k a1 h1 a3)
    · exact .inr ⟨j, hij, by omega, hx⟩
/-- One point more. -/
theorem upto_next {P : Nat → Prop} (h : ∀ k, i ≤ k → k < j → P k) (hj : P j) : ∀ k, i ≤ k → k < j + 1 → P k := fun k h1 h2 => by
  rcases Nat.lt_succ_iff_lt_or_eq.1 h2 with h3 | rfl
  · exact h k h1 h3
  · exact hj
end
/-- What a sound node is, its kids apart. -/
def WN (n : Nd) : Prop := (n.op ≠ 3 → n.name.toList = [] ∧ n.cmp = 0 ∧ n.val = 0) ∧ (n.op < 9 → n.lo = 0 ∧ n.hi = 0) ∧ (0 ≤ n.cmp ∧ n.cmp ≤ 6 ∧ (n.cmp = 0 → n.val = 0)) ∧ (n.op = 3 → nmOk n.name = true) ∧ spanB n.lo n.hi = true
theorem wn_of {n : Nd} {k : Nat} (h : wrongN n k = 0) : WN n := by
  unfold wrongN at h
  repeat' split at h
  all_goals first | (exfalso; omega) | skip
  rename_i h1 h2 h3 h4 h5 h6
  have hs : spanB n.lo n.hi = true := by
    by_cases h9 : 9 ≤ n.op
    · have : ¬ spanB n.lo n.hi = false := fun e => h6 ⟨h9, e⟩
      simpa using this
    · have h0 : n.lo = 0 ∧ n.hi = 0 := by omega
      rw [h0.1, h0.2]; rfl
  refine ⟨fun e => ?_, by omega, by omega, fun e => ?_, hs⟩
  · by_cases hn : n.name.toList = []
    · exact ⟨hn, by omega, by omega⟩
    · exact absurd ⟨e, .inl hn⟩ h2
  · have : ¬ nmOk n.name = false := fun e2 => h5 ⟨e, e2⟩
    simpa using this
theorem wn_wrong {n : Nd} {k : Nat} (h : WN n) (hc : coreN n.op k) : wrongN n k = 0 := by
  obtain ⟨h1, h2, h3, h4, h5⟩ := h
  have hk : 1 ≤ n.op ∧ n.op ≤ 12 ∧ k = kidsN n.op := by
    unfold coreN at hc; unfold kidsN
    refine ⟨by omega, by omega, ?_⟩
    repeat' split
    all_goals omega
  unfold wrongN
  rw [if_neg (by omega), if_neg, if_neg (fun e => by have := h2 e.1; omega), if_neg (by omega), if_neg, if_neg]
  · rintro ⟨_, e⟩; rw [h5] at e; cases e
  · rintro ⟨e1, e⟩; rw [h4 e1] at e; cases e
  · rintro ⟨e1, e | e⟩
    · exact e (h1 e1).1
    · have := h1 e1; omega
theorem nil_list : (⟨#[]⟩ : ByteArray).toList = [] := by decide +kernel
theorem wn_mk0 (op : Int) (h : op ≠ 3) : WN (nd0 op 0 0) := ⟨fun _ => ⟨nil_list, rfl, rfl⟩, fun _ => ⟨rfl, rfl⟩, ⟨Int.le_refl _, (by decide : (0 : Int) ≤ 6), fun _ => rfl⟩, fun e => absurd e h, rfl⟩
theorem wn_nd {n : Nd} (h : WN n) (op : Int) (h9 : 9 ≤ op) : WN (nd0 op n.lo n.hi) := ⟨fun _ => ⟨nil_list, rfl, rfl⟩, fun e => absurd e (by show ¬ op < 9; omega), ⟨Int.le_refl _, (by decide : (0 : Int) ≤ 6), fun _ => rfl⟩, fun e => absurd e (by show ¬ op = 3; omega), h.2.2.2.2⟩
theorem wn_cut {n : Nd} (h : WN n) : WN ⟨n.op, n.name, n.cmp, n.val, 0, 0⟩ := ⟨h.1, fun _ => ⟨rfl, rfl⟩, h.2.2.1, h.2.2.2.1, rfl⟩
theorem good_wn : ∀ {t : Tr}, t.good → t.allN WN
  | .nil, _ => trivial
  | .cons _ _ _, ⟨h1, h2, h3⟩ => ⟨wn_of h1, good_wn h2, good_wn h3⟩
theorem wn_good : ∀ {t : Tr}, t.allN WN → t.core → t.good
  | .nil, _, _ => trivial
  | .cons _ _ _, ⟨h1, h2, h3⟩, ⟨c1, c2, c3⟩ => ⟨wn_wrong h1 c1, wn_good h2 c2, wn_good h3 c3⟩
/-- What norm makes is sound. -/
theorem made_sound {n : Nd} {k : Tr} (h1 : wrongN n k.len = 0) (h2 : k.good) : wrongN (madeS n k).1 (madeS n k).2.len = 0 ∧ (madeS n k).2.good := by
  have hw := all_madeS wn_mk0 (fun n h => ⟨wn_cut h, wn_nd h 9 (by decide), wn_nd h 11 (by decide)⟩) (wn_of h1) (good_wn h2)
  have hc := (madeS_good h1 h2).1
  exact ⟨wn_wrong hw.1 hc.1, wn_good hw.2 hc.2⟩
end Go.Proofs.YtoegdmpmagbaiaaGreatDoor
