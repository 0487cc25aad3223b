/- ThreeWhole: at a point whose horizon is at most the mark it is known whether a formula holds. -/
import Derived.Test.YtkmicfjcikilhaaGreatDoorQH33
import Derived.Test.YtkmicfjcikilhaaGreatDoorQH32
namespace Go.Proofs.YtkmicfjcikilhaaGreatDoor
open Go.RowKit Go.Lib

theorem good_hz : ∀ {t : Tr}, t.good → t.ok → t.allN HzN
  | .nil, _, _ => trivial
  | .cons x k r, ⟨h1, h2, h3⟩, ⟨o1, o2, o3⟩ => ⟨⟨fun h9 => by have := wrong_span h1 h9; omega, o1.hi, (wrong_op h1).2.1⟩, good_hz h2 o2, good_hz h3 o3⟩
def HzOf (x : Nd) (t : Tr) (w : World) (e : Ending) (w' : World) : Prop := ∃ h er, e = .returned (.tuple #[.int .i64 h, .int .i64 er]) ∧ (er = 0 → firstW ((Tr.cons x t .nil).nodes 1) = 0 ∧ h = far1 (x, t) ∧ I64 h ∧ 0 ≤ h) ∧ Fr Nob w w'
theorem ext_id {W : List Pt} (h : Rise W) (mark : Int) : Ext W W mark (fun i => i) :=
  ⟨h, h, fun _ hi => hi, fun _ _ => rfl, fun k hk => .inl ⟨k, hk, rfl⟩, fun _ _ _ _ _ hh => hh, fun _ _ _ _ _ _ hh => hh⟩
/-- Where the horizon is not above the mark it is known whether it holds. -/
theorem whole_val {ps : List Pn} (hW : Rise (pts ps)) {x : Nd} {t : Tr} (hg1 : wrongN x t.len = 0) (hg2 : t.good) {h mark : Int} (hh : h = far1 (x, t)) (_h64 : I64 h) (h0 : 0 ≤ h) {i : Nat} (hi : i < ps.length) (hd : (sadd (tAt (pts ps) i) h).1 ≤ mark) :
    xAt (rowS (pts ps) mark (madeS x t)) i = b2i (bAt (rowTS (pts ps) (x, t)) i) := by
  have hi' : i < (pts ps).length := by rw [pts_len]; exact hi
  have hc := (madeS_good hg1 hg2).1
  have hl := last_rowS hW (madeS x t) hc hi'
  have hm := madeS_row (W := pts ps) hg1 hg2 hi'
  have e : b2i (vT (pts ps) (madeS x t) i) = b2i (bAt (rowTS (pts ps) (x, t)) i) := by rw [← hm]; rfl
  rw [← e, ← hl]
  by_cases h63 : last63 ≤ mark
  · have hk := rowS_grow (ext_id hW last63) h63 (madeS x t) hi'
    rcases hk with hk | hk
    · rw [hl] at hk
      exfalso
      unfold b2i at hk
      split at hk <;> omega
    · exact hk.symm
  · have hfar := far_madeS hg1 hg2
    have hlo := hW.lo i hi'
    have hne := whole_rowS hW (mark := mark) (madeS x t) hc hi' (by
      unfold sadd last63 at *
      split at hd
      · simp only at hd; omega
      · split at hd
        · omega
        · simp only at hd; omega)
    have hk := rowS_grow (ext_id hW mark) (by omega : mark ≤ last63) (madeS x t) hi'
    rcases hk with hk | hk
    · exact absurd hk hne
    · exact hk
end Go.Proofs.YtkmicfjcikilhaaGreatDoor
