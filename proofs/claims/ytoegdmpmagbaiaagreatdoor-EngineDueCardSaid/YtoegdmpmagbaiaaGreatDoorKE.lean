/- The law's plain, walked. -/
import Derived.Test.YtoegdmpmagbaiaaGreatDoorKD
import Derived.Deep.AppendLies
import Derived.Deep.RegionLaw
import Derived.Test.YtoegdmpmagbaiaaGreatDoorKC
import Derived.Test.YtoegdmpmagbaiaaGreatDoorKDS
import Derived.Lib.QuietBelow
namespace Go.Proofs.YtoegdmpmagbaiaaGreatDoor
open Go.RowKit

/-- Seven cells stored, one by one. -/
def set7 (w : World) (g : Nat) (b0 b1 b2 b3 b4 b5 b6 : Value) : World := ((((((w.setCell ⟨g, 0, none⟩ b0).setCell ⟨g, 1, none⟩ b1).setCell ⟨g, 2, none⟩ b2).setCell ⟨g, 3, none⟩ b3).setCell ⟨g, 4, none⟩ b4).setCell ⟨g, 5, none⟩ b5).setCell ⟨g, 6, none⟩ b6
theorem set7_blk {w : World} {g : Nat} {t : TypeId} {a0 a1 a2 a3 a4 a5 a6 : Value} (h : Blk w g t #[a0, a1, a2, a3, a4, a5, a6]) (b0 b1 b2 b3 b4 b5 b6 : Value) : Blk (set7 w g b0 b1 b2 b3 b4 b5 b6) g t #[b0, b1, b2, b3, b4, b5, b6] := by
  have h7 := ((((((h.set 0 b0).set 1 b1).set 2 b2).set 3 b3).set 4 b4).set 5 b5).set 6 b6
  simpa [set7] using h7
theorem set7_fr (w : World) (g : Nat) (b0 b1 b2 b3 b4 b5 b6 : Value) : Fr (Only g) w (set7 w g b0 b1 b2 b3 b4 b5 b6) :=
  (((((((Fr.refl (Only g) w).setCell (p := ⟨g, 0, none⟩) (fun _ => rfl) b0).setCell (p := ⟨g, 1, none⟩) (fun _ => rfl) b1).setCell (p := ⟨g, 2, none⟩) (fun _ => rfl) b2).setCell (p := ⟨g, 3, none⟩) (fun _ => rfl) b3).setCell (p := ⟨g, 4, none⟩) (fun _ => rfl) b4).setCell (p := ⟨g, 5, none⟩) (fun _ => rfl) b5).setCell (p := ⟨g, 6, none⟩) (fun _ => rfl) b6
end Go.Proofs.YtoegdmpmagbaiaaGreatDoor

/- Formulas that are not too great; copies of formulas. -/
namespace Go.Proofs.YtoegdmpmagbaiaaGreatDoor
open Go.RowKit Go.Shelf Go.Sort

theorem shortN_nodes (t : Tr) : t.shortN → ∀ d, ∀ y ∈ t.nodes d, y.1.name.size ≤ 40 := by
  induction t with
  | nil => intro _ d y hy; simp [Tr.nodes] at hy
  | cons x k r ihk ihr =>
    rintro ⟨h1, h2, h3⟩ d y hy
    simp only [Tr.nodes, List.mem_cons, List.mem_append] at hy
    rcases hy with rfl | hy | hy
    · exact h1
    · exact ihk h2 _ y hy
    · exact ihr h3 _ y hy
theorem shortN_wt (t : Tr) : t.shortN → t.wt ≤ t.size * 140 := by
  induction t with
  | nil => intro _; exact Nat.le_refl _
  | cons x k r ihk ihr =>
    rintro ⟨h1, h2, h3⟩
    have := ihk h2; have := ihr h3
    simp only [Tr.wt, Tr.size]; omega
/-- What a formula that is not too great gives. -/
structure Few (x : Nd) (ks : Tr) (n : Nat) : Prop where
  size : ks.size + 1 ≤ n
  names : ∀ y ∈ (Tr.cons x ks .nil).nodes 1, y.1.name.size ≤ 9223372036854775807
  wt : x.name.size + ks.wt ≤ 140 * n
theorem few_of {x : Nd} {ks : Tr} {n : Nat} (h : 0 < left1 x ks n) : Few x ks n := by
  obtain ⟨h1, h2, h3⟩ := left1_pos h
  refine ⟨h1, fun y hy => ?_, ?_⟩
  · have := shortN_nodes (.cons x ks .nil) ⟨h2, h3, trivial⟩ 1 y hy
    omega
  · have := shortN_wt ks h3; omega
end Go.Proofs.YtoegdmpmagbaiaaGreatDoor
