/- Whether two formulas are the same: in plain words; the reference's walk. -/
import Derived.Test.YtkmicfjcikilhaaGreatDoorKB
import Derived.Deep.RegionHeld3
namespace Go.Proofs.YtkmicfjcikilhaaGreatDoor
open Go.RowKit

def ndEq (x y : Nd) : Bool := x.op == y.op && x.name.toList == y.name.toList && x.cmp == y.cmp && x.val == y.val && x.lo == y.lo && x.hi == y.hi
def sameT : Tr → Tr → Bool
  | .nil, .nil => true
  | .cons x k r, .cons y j s => ndEq x y && k.len == j.len && sameT k j && sameT r s
  | _, _ => false
theorem toList_inj {a b : ByteArray} (h : a.toList = b.toList) : a = b := by
  rw [ByteArray.toList_eq, ByteArray.toList_eq] at h
  exact ByteArray.ext (Array.ext' h)
theorem ndEq_iff (x y : Nd) : ndEq x y = true ↔ x = y := by
  constructor
  · intro h
    simp only [ndEq, Bool.and_eq_true, beq_iff_eq] at h
    obtain ⟨⟨⟨⟨⟨h1, h2⟩, h3⟩, h4⟩, h5⟩, h6⟩ := h
    have h2 := toList_inj h2
    cases x; cases y; simp_all
  · rintro rfl; simp [ndEq]
theorem sameT_iff : ∀ t s : Tr, sameT t s = true ↔ t = s
  | .nil, .nil => by simp [sameT]
  | .nil, .cons _ _ _ => by simp [sameT]
  | .cons _ _ _, .nil => by simp [sameT]
  | .cons x k r, .cons y j s => by
    simp only [sameT, Bool.and_eq_true, beq_iff_eq, ndEq_iff, sameT_iff k j, sameT_iff r s, Tr.cons.injEq]
    constructor
    · rintro ⟨⟨⟨h1, _⟩, h3⟩, h4⟩; exact ⟨h1, h3, h4⟩
    · rintro ⟨h1, h3, h4⟩; exact ⟨⟨⟨h1, by rw [h3]⟩, h3⟩, h4⟩
/-- Two formulas. -/
def same1 (x : Nd) (k : Tr) (y : Nd) (j : Tr) : Bool := ndEq x y && k.len == j.len && sameT k j
theorem same1_iff (x : Nd) (k : Tr) (y : Nd) (j : Tr) : same1 x k y j = true ↔ x = y ∧ k = j := by
  simp only [same1, Bool.and_eq_true, beq_iff_eq, ndEq_iff, sameT_iff]
  constructor
  · rintro ⟨⟨h1, _⟩, h3⟩; exact ⟨h1, h3⟩
  · rintro ⟨h1, h3⟩; exact ⟨⟨h1, by rw [h3]⟩, h3⟩
end Go.Proofs.YtkmicfjcikilhaaGreatDoor
