/- The nodes of a formula, with their kids: plain. -/
import Derived.Test.YtoegdmpmagbaiaaDoorN2
import Derived.Test.YtoegdmpmagbaiaaDoorFref
namespace Go.Proofs.YtoegdmpmagbaiaaDoor
open Go.RowKit Go.Shelf Go.Lib

/-- A node with its kids. -/
structure KN where
  x : Nd
  A : Option Addr
  c : Nat
  ks : Fo
def Fo.kn : Fo → List KN
  | .nil => []
  | .cons x A c ks r => ⟨x, A, c, ks⟩ :: (ks.kn ++ r.kn)
def Tr.kn : Tr → List (Nd × Tr)
  | .nil => []
  | .cons x k r => (x, k) :: (k.kn ++ r.kn)
theorem kn_tr : ∀ f : Fo, f.kn.map (fun y => (y.x, y.ks.tr)) = f.tr.kn
  | .nil => rfl
  | .cons x A c ks r => by simp [Fo.kn, Fo.tr, Tr.kn, kn_tr ks, kn_tr r]
theorem vis_kn : ∀ (f : Fo) (b off d : Nat), (f.vis b off d).map (fun v => (v.x, v.A, v.n, v.c)) = f.kn.map fun y => (y.x, y.A, y.ks.len, y.c)
  | .nil, _, _, _ => rfl
  | .cons x A c ks r, b, off, d => by simp [Fo.vis, Fo.kn, vis_kn ks, vis_kn r]
theorem at_kn {N : Nat} {w : World} : ∀ {f : Fo} {b off : Nat}, f.At N w b off → ∀ y ∈ f.kn, FoSl N w y.A y.c y.ks
  | .nil, _, _, _, y, hy => by cases hy
  | .cons x A c ks r, b, off, ⟨h1, h2, h3, h4, h5, h6, h7⟩, y, hy => by
    simp only [Fo.kn, List.mem_cons, List.mem_append] at hy
    rcases hy with rfl | hy | hy
    · exact ⟨h4, h5, h6⟩
    · rcases Nat.eq_zero_or_pos ks.len with h0 | h0
      · have : ks = .nil := by cases ks with | nil => rfl | cons => simp [Fo.len] at h0
        subst this
        cases hy
      · obtain ⟨bb, oo, rfl⟩ := h5 h0
        exact at_kn (h6 bb oo rfl) y hy
    · exact at_kn h7 y hy
theorem sl_kn {N : Nat} {w : World} {A : Option Addr} {c : Nat} {x : Nd} {ks : Fo} (h : FoSl N w A c ks) : ∀ y ∈ (Fo.cons x A c ks .nil).kn, FoSl N w y.A y.c y.ks := fun y hy => by
  simp only [Fo.kn, List.append_nil, List.mem_cons] at hy
  rcases hy with rfl | hy
  · exact h
  · rcases Nat.eq_zero_or_pos ks.len with h0 | h0
    · have : ks = .nil := by cases ks with | nil => rfl | cons => simp [Fo.len] at h0
      subst this
      cases hy
    · obtain ⟨bb, oo, rfl⟩ := h.some_ h0
      exact at_kn (h.at_ bb oo rfl) y hy
/-- The node at a place, of a formula and of its copy: the kids are the same. -/
theorem kn_same {x : Nd} {A B : Option Addr} {c d : Nat} {ks js : Fo} (e : js.tr = ks.tr) {i : Nat} (h : i < (Fo.cons x A c ks .nil).kn.length) : ∃ h' : i < (Fo.cons x B d js .nil).kn.length, (Fo.cons x A c ks .nil).kn[i].x = (Fo.cons x B d js .nil).kn[i].x ∧ (Fo.cons x A c ks .nil).kn[i].ks.tr = (Fo.cons x B d js .nil).kn[i].ks.tr := by
  have h1 := kn_tr (Fo.cons x A c ks .nil)
  have h2 := kn_tr (Fo.cons x B d js .nil)
  simp only [Fo.tr, e] at h1 h2
  rw [← h2] at h1
  have hl := congrArg List.length h1
  simp only [List.length_map] at hl
  refine ⟨by omega, ?_⟩
  have h3 := congrArg (·[i]?) h1
  simp only [List.getElem?_map] at h3
  rw [List.getElem?_eq_getElem h, List.getElem?_eq_getElem (by omega)] at h3
  simpa using h3
end Go.Proofs.YtoegdmpmagbaiaaDoor
