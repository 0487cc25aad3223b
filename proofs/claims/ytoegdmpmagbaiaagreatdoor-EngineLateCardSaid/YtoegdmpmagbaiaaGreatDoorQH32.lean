/- ThreeLast: under the last moment as the mark all is known, as it holds; what a formula becomes is known as the formula is. -/
import Derived.Test.YtoegdmpmagbaiaaGreatDoorKT
import Derived.Test.YtoegdmpmagbaiaaGreatDoorQH27
import Derived.Test.YtoegdmpmagbaiaaGreatDoorKE
namespace Go.Proofs.YtoegdmpmagbaiaaGreatDoor
open Go.RowKit Go.Lib

theorem name_short {x : Nd} {k : Nat} (h : wrongN x k = 0) : x.name.size ≤ 40 := by
  have hw := wn_of h
  by_cases h3 : x.op = 3
  · have := hw.2.2.2.1 h3
    unfold nmOk at this
    simp only [Bool.and_eq_true, decide_eq_true_eq] at this
    omega
  · have h0 := (hw.1 h3).1
    have : x.name.size = 0 := by
      rw [← size_toList, h0]; rfl
    omega
theorem good_short : ∀ {t : Tr}, t.good → t.shortN
  | .nil, _ => trivial
  | .cons _ _ _, ⟨h1, h2, h3⟩ => ⟨name_short h1, good_short h2, good_short h3⟩
theorem rowA_tri (x : Nd) (t : Tr) (W : List Pt) (mark : Int) (i : Nat) : Tri (xAt (rowA x t W mark) i) := by
  unfold rowA
  split
  · exact tri_rowS _ _ _ _
  · exact .inl rfl
theorem rowA_made {x : Nd} {t : Tr} (W : List Pt) (mark : Int) (hg : firstW ((Tr.cons x t .nil).nodes 1) = 0) : rowA (madeS x t).1 (madeS x t).2 W mark = rowA x t W mark := by
  obtain ⟨h1, h2⟩ := (good_first x t).1 hg
  obtain ⟨h3, h4⟩ := made_sound h1 h2
  have hm := (good_first (madeS x t).1 (madeS x t).2).2 ⟨h3, h4⟩
  unfold rowA
  rw [hm, hg, made_made]
/-- A row of so many is returned. -/
def IMN (w w' : World) (e : Ending) (l : List Int) (n : Nat) : Prop := ∃ A c, e = .returned (.slice A n c) ∧ Sl w' 1 A n c (l.map ivI) ∧ Fr Nob w w'
theorem IMade.n {w w' : World} {e : Ending} {l : List Int} {n : Nat} (h : IMade w w' e l) (hl : l.length = n) : IMN w w' e l n := by subst hl; exact h
def BMN (w w' : World) (e : Ending) (l : List Bool) (n : Nat) : Prop := ∃ A c, e = .returned (.slice A n c) ∧ Sl w' 1 A n c (l.map ivB) ∧ Fr Nob w w'
theorem BMade.n {w w' : World} {e : Ending} {l : List Bool} {n : Nat} (h : BMade w w' e l) (hl : l.length = n) : BMN w w' e l n := by subst hl; exact h
end Go.Proofs.YtoegdmpmagbaiaaGreatDoor
