/- A formula's text, in plain words. -/
import Derived.Test.YtoegdmpmagbaiaaDoorFsize
import Derived.Test.YtoegdmpmagbaiaaDoorDigs
namespace Go.Proofs.YtoegdmpmagbaiaaDoor
open Go.RowKit

def decB (n : Int) : ByteArray := ⟨(digsI n).toArray⟩
/-- A span's text. -/
def spanT (lo hi : Int) : ByteArray := ⟨#[91]⟩ ++ decB lo ++ ⟨#[44]⟩ ++ decB hi ++ ⟨#[93]⟩
/-- A comparison. -/
def cmpT (c : Int) : ByteArray := if c = 1 then ⟨#[61]⟩ else if c = 2 then ⟨#[33, 61]⟩ else if c = 3 then ⟨#[60]⟩ else if c = 4 then ⟨#[60, 61]⟩ else if c = 5 then ⟨#[62]⟩ else ⟨#[62, 61]⟩
/-- A node without kids. -/
def leafT (x : Nd) : ByteArray :=
  if x.op = 1 then ⟨#[116, 114, 117, 101]⟩ else if x.op = 2 then ⟨#[102, 97, 108, 115, 101]⟩ else if x.cmp = 0 then x.name else x.name ++ ⟨#[32]⟩ ++ cmpT x.cmp ++ ⟨#[32]⟩ ++ decB x.val
/-- Ahead of one kid, or between two. -/
def signT (x : Nd) : ByteArray :=
  if x.op = 4 then ⟨#[33]⟩ else if x.op = 5 then ⟨#[38]⟩ else if x.op = 6 then ⟨#[124]⟩ else if x.op = 7 then ⟨#[45, 62]⟩ else if x.op = 8 then ⟨#[60, 45, 62]⟩
  else if x.op = 9 then ⟨#[70]⟩ ++ spanT x.lo x.hi ++ ⟨#[32]⟩ else if x.op = 10 then ⟨#[71]⟩ ++ spanT x.lo x.hi ++ ⟨#[32]⟩ else if x.op = 11 then ⟨#[85]⟩ ++ spanT x.lo x.hi else ⟨#[82]⟩ ++ spanT x.lo x.hi
/-- Where a kind stands; where its kids stand. -/
def placeN (op : Int) : Int := if op ≤ 3 then 7 else if op = 8 then 1 else if op = 7 then 2 else if op = 6 then 3 else if op = 5 then 4 else if 11 ≤ op then 5 else 6
def pl0 (op : Int) : Int := if op = 5 then 4 else if op = 6 then 3 else if op = 7 then 3 else if op = 8 then 1 else 6
def pl1 (op : Int) : Int := if op = 6 then 4 else if op = 7 then 2 else if op = 8 then 2 else 5
def wrapT (p : Int) (k : Int × ByteArray) : ByteArray := if placeN k.1 < p then ⟨#[40]⟩ ++ k.2 ++ ⟨#[41]⟩ else k.2
def kid0 (l : List (Int × ByteArray)) : Int × ByteArray := l.getD 0 (0, .empty)
def kid1 (l : List (Int × ByteArray)) : Int × ByteArray := l.getD 1 (0, .empty)
/-- A node's text of its kids' texts. -/
def nodeT (x : Nd) (l : List (Int × ByteArray)) : ByteArray :=
  if kidsN x.op = 0 then leafT x else if kidsN x.op = 1 then signT x ++ wrapT (pl0 x.op) (kid0 l) else wrapT (pl0 x.op) (kid0 l) ++ (⟨#[32]⟩ ++ signT x ++ ⟨#[32]⟩) ++ wrapT (pl1 x.op) (kid1 l)
def Tr.texts : Tr → List (Int × ByteArray)
  | .nil => []
  | .cons x k r => (x.op, nodeT x k.texts) :: r.texts
/-- A formula's text, were each of its nodes sound. -/
def textT (x : Nd) (ks : Tr) : ByteArray := nodeT x ks.texts
/-- Sound throughout. -/
def Tr.good : Tr → Prop
  | .nil => True
  | .cons x k r => wrongN x k.len = 0 ∧ k.good ∧ r.good
def showT (x : Nd) (ks : Tr) : ByteArray := if firstW ((Tr.cons x ks .nil).nodes 1) = 0 then textT x ks else .empty
theorem wrong_op {x : Nd} {n : Nat} (h : wrongN x n = 0) : 1 ≤ x.op ∧ x.op ≤ 12 ∧ n = kidsN x.op := by
  unfold wrongN at h
  by_cases h1 : x.op < 1 ∨ 12 < x.op ∨ n ≠ kidsN x.op
  · rw [if_pos h1] at h; cases h
  · simp only [not_or, ne_eq, Decidable.not_not] at h1; omega
theorem firstW_zero (l : List (Nd × Nat × Nat)) : firstW l = 0 ↔ ∀ y ∈ l, wrongN y.1 y.2.1 = 0 := by
  have : ∀ (l : List (Nd × Nat × Nat)) (e : Int), l.foldl (fun e y => if e = 0 then wrongN y.1 y.2.1 else e) e = 0 ↔ e = 0 ∧ ∀ y ∈ l, wrongN y.1 y.2.1 = 0 := by
    intro l
    induction l with
    | nil => intro e; simp
    | cons y l ih =>
      intro e
      rw [List.foldl_cons, ih]
      by_cases he : e = 0
      · simp [he]
      · simp [he]
  unfold firstW
  rw [this]
  simp
theorem Tr.good_iff (t : Tr) : ∀ d, (∀ y ∈ t.nodes d, wrongN y.1 y.2.1 = 0) ↔ t.good := by
  induction t with
  | nil => intro d; simp [Tr.nodes, Tr.good]
  | cons x k r ihk ihr =>
    intro d
    simp only [Tr.nodes, Tr.good, List.mem_cons, List.mem_append, ← ihk (d + 1), ← ihr d]
    constructor
    · intro h; exact ⟨h (x, k.len, d) (.inl rfl), fun y hy => h y (.inr (.inl hy)), fun y hy => h y (.inr (.inr hy))⟩
    · rintro ⟨h1, h2, h3⟩ y (rfl | hy | hy)
      · exact h1
      · exact h2 y hy
      · exact h3 y hy
theorem good_first (x : Nd) (ks : Tr) : firstW ((Tr.cons x ks .nil).nodes 1) = 0 ↔ wrongN x ks.len = 0 ∧ ks.good := by
  rw [firstW_zero, Tr.good_iff]; simp [Tr.good]
theorem texts_len (t : Tr) : t.texts.length = t.len := by
  induction t with
  | nil => rfl
  | cons x k r _ ih => simp [Tr.texts, Tr.len, ih]
theorem op_one {op : Int} (h0 : ¬ kidsN op = 0) (h1 : kidsN op = 1) : (op = 4 ∨ op = 9 ∨ op = 10) := by
  unfold kidsN at h0 h1
  by_cases h : op ≤ 3
  · rw [if_pos h] at h0; omega
  · rw [if_neg h] at h1
    by_cases h2 : op = 4 ∨ op = 9 ∨ op = 10
    · exact h2
    · rw [if_neg h2] at h1; omega
theorem op_two {op : Int} (h : 1 ≤ op ∧ op ≤ 12) (h0 : ¬ kidsN op = 0) (h1 : ¬ kidsN op = 1) : op = 5 ∨ op = 6 ∨ op = 7 ∨ op = 8 ∨ op = 11 ∨ op = 12 := by
  unfold kidsN at h0 h1
  by_cases h3 : op ≤ 3
  · rw [if_pos h3] at h0; omega
  · rw [if_neg h3] at h1
    by_cases h2 : op = 4 ∨ op = 9 ∨ op = 10
    · rw [if_pos h2] at h1; omega
    · omega
theorem kidsN_two {op : Int} (h0 : ¬ kidsN op = 0) (h1 : ¬ kidsN op = 1) : kidsN op = 2 := by
  unfold kidsN at *
  split
  · rename_i h; rw [if_pos h] at h0; omega
  · rename_i h
    rw [if_neg h] at h1
    split
    · rename_i h2; rw [if_pos h2] at h1; omega
    · rfl
end Go.Proofs.YtoegdmpmagbaiaaDoor
