/- A number's digits: in plain words, and the reference's walk. -/
import Derived.Test.YtoegdmpmagbaiaaGreatDoorKA
import Derived.Laws.BytesArg
import Derived.IntWalk
import Derived.Test.YtoegdmpmagbaiaaGreatDoorKB
import Derived.Deep.RegionHeld3
namespace Go.Proofs.YtoegdmpmagbaiaaGreatDoor
open Go.RowKit

def dgt (k : Nat) : UInt8 := UInt8.ofNat (48 + k)
/-- A number's digits. -/
def dgF : Nat → Nat → List UInt8
  | 0, u => [dgt (u % 10)]
  | n + 1, u => if u < 10 then [dgt u] else dgF n (u / 10) ++ [dgt (u % 10)]
def dg (u : Nat) : List UInt8 := dgF u u
def digsI (n : Int) : List UInt8 := if n < 0 then 45 :: dg n.natAbs else dg n.natAbs

end Go.Proofs.YtoegdmpmagbaiaaGreatDoor

/- A formula's text, in plain words. -/
namespace Go.Proofs.YtoegdmpmagbaiaaGreatDoor
open Go.RowKit

def decB (n : Int) : ByteArray := ⟨(digsI n).toArray⟩
/-- A span's text. -/
def spanT (lo hi : Int) : ByteArray := ⟨#[91]⟩ ++ decB lo ++ ⟨#[44]⟩ ++ decB hi ++ ⟨#[93]⟩
/-- A comparison. -/
def cmpT (c : Int) : ByteArray := if c = 1 then ⟨#[61]⟩ else if c = 2 then ⟨#[33, 61]⟩ else if c = 3 then ⟨#[60]⟩ else if c = 4 then ⟨#[60, 61]⟩ else if c = 5 then ⟨#[62]⟩ else ⟨#[62, 61]⟩
/-- A node without kids. -/
def leafT (x : Nd) : ByteArray :=
  if x.op = 1 then ⟨#[116, 114, 117, 101]⟩ else if x.op = 2 then ⟨#[102, 97, 108, 115, 101]⟩ else if x.cmp = 0 then x.name else x.name ++ ⟨#[32]⟩ ++ cmpT x.cmp ++ ⟨#[32]⟩ ++ decB x.val
/-- Ahead of one kid, or between two. -/
def signT (x : Nd) : ByteArray :=
  if x.op = 4 then ⟨#[33]⟩ else if x.op = 5 then ⟨#[38]⟩ else if x.op = 6 then ⟨#[124]⟩ else if x.op = 7 then ⟨#[45, 62]⟩ else if x.op = 8 then ⟨#[60, 45, 62]⟩
  else if x.op = 9 then ⟨#[70]⟩ ++ spanT x.lo x.hi ++ ⟨#[32]⟩ else if x.op = 10 then ⟨#[71]⟩ ++ spanT x.lo x.hi ++ ⟨#[32]⟩ else if x.op = 11 then ⟨#[85]⟩ ++ spanT x.lo x.hi else ⟨#[82]⟩ ++ spanT x.lo x.hi
/-- Where a kind stands; where its kids stand. -/
def placeN (op : Int) : Int := if op ≤ 3 then 7 else if op = 8 then 1 else if op = 7 then 2 else if op = 6 then 3 else if op = 5 then 4 else if 11 ≤ op then 5 else 6
def pl0 (op : Int) : Int := if op = 5 then 4 else if op = 6 then 3 else if op = 7 then 3 else if op = 8 then 1 else 6
def pl1 (op : Int) : Int := if op = 6 then 4 else if op = 7 then 2 else if op = 8 then 2 else 5
def wrapT (p : Int) (k : Int × ByteArray) : ByteArray := if placeN k.1 < p then ⟨#[40]⟩ ++ k.2 ++ ⟨#[41]⟩ else k.2
def kid0 (l : List (Int × ByteArray)) : Int × ByteArray := l.getD 0 (0, .empty)
def kid1 (l : List (Int × ByteArray)) : Int × ByteArray := l.getD 1 (0, .empty)
/-- A node's text of its kids' texts. -/
def nodeT (x : Nd) (l : List (Int × ByteArray)) : ByteArray :=
  if kidsN x.op = 0 then leafT x else if kidsN x.op = 1 then signT x ++ wrapT (pl0 x.op) (kid0 l) else wrapT (pl0 x.op) (kid0 l) ++ (⟨#[32]⟩ ++ signT x ++ ⟨#[32]⟩) ++ wrapT (pl1 x.op) (kid1 l)
def Tr.texts : Tr → List (Int × ByteArray)
  | .nil => []
  | .cons x k r => (x.op, nodeT x k.texts) :: r.texts
/-- Sound throughout. -/
def Tr.good : Tr → Prop
  | .nil => True
  | .cons x k r => wrongN x k.len = 0 ∧ k.good ∧ r.good
theorem wrong_op {x : Nd} {n : Nat} (h : wrongN x n = 0) : 1 ≤ x.op ∧ x.op ≤ 12 ∧ n = kidsN x.op := by
  unfold wrongN at h
  by_cases h1 : x.op < 1 ∨ 12 < x.op ∨ n ≠ kidsN x.op
  · rw [if_pos h1] at h; cases h
  · simp only [not_or, ne_eq, Decidable.not_not] at h1; omega
theorem firstW_zero (l : List (Nd × Nat × Nat)) : firstW l = 0 ↔ ∀ y ∈ l, wrongN y.1 y.2.1 = 0 := by
  have : ∀ (l : List (Nd × Nat × Nat)) (e : Int), l.foldl (fun e y => if e = 0 then wrongN y.1 y.2.1 else e) e = 0 ↔ e = 0 ∧ ∀ y ∈ l, wrongN y.1 y.2.1 = 0 := by
    intro l
    induction l with
    | nil => intro e; simp
    | cons y l ih =>
      intro e
      rw [List.foldl_cons, ih]
      by_cases he : e = 0
      · simp [he]
      · simp [he]
  unfold firstW
  rw [this]
  simp
theorem Tr.good_iff (t : Tr) : ∀ d, (∀ y ∈ t.nodes d, wrongN y.1 y.2.1 = 0) ↔ t.good := by
  induction t with
  | nil => intro d; simp [Tr.nodes, Tr.good]
  | cons x k r ihk ihr =>
    intro d
    simp only [Tr.nodes, Tr.good, List.mem_cons, List.mem_append, ← ihk (d + 1), ← ihr d]
    constructor
    · intro h; exact ⟨h (x, k.len, d) (.inl rfl), fun y hy => h y (.inr (.inl hy)), fun y hy => h y (.inr (.inr hy))⟩
    · rintro ⟨h1, h2, h3⟩ y (rfl | hy | hy)
      · exact h1
      · exact h2 y hy
      · exact h3 y hy
theorem good_first (x : Nd) (ks : Tr) : firstW ((Tr.cons x ks .nil).nodes 1) = 0 ↔ wrongN x ks.len = 0 ∧ ks.good := by
  rw [firstW_zero, Tr.good_iff]; simp [Tr.good]
end Go.Proofs.YtoegdmpmagbaiaaGreatDoor

/- A formula's text: the reference. -/
namespace Go.Proofs.YtoegdmpmagbaiaaGreatDoor
open Go.RowKit

/-- A bound for a text's bytes. -/
def Tr.wt : Tr → Nat
  | .nil => 0
  | .cons x k r => x.name.size + 100 + k.wt + r.wt
/-- A node's numbers are int64's. -/
structure NdOk (x : Nd) : Prop where
  op : I64 x.op
  cmp : I64 x.cmp
  val : I64 x.val
  lo : I64 x.lo
  hi : I64 x.hi
def Tr.ok : Tr → Prop
  | .nil => True
  | .cons x k r => NdOk x ∧ k.ok ∧ r.ok
end Go.Proofs.YtoegdmpmagbaiaaGreatDoor
namespace Go.Proofs.YtoegdmpmagbaiaaGreatDoor
open Go.RowKit
end Go.Proofs.YtoegdmpmagbaiaaGreatDoor
