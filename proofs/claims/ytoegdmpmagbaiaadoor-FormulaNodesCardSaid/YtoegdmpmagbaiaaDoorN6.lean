/- FormulaNodes: the i-th node that was handed out, and the reference's. -/
import Derived.Test.YtoegdmpmagbaiaaDoorN5
namespace Go.Proofs.YtoegdmpmagbaiaaDoor
open Go.RowKit Go.Shelf Go.Lib

theorem kn_size : ∀ (f : Fo), ∀ y ∈ f.kn, y.ks.tr.size ≤ f.tr.size
  | .nil, y, hy => by cases hy
  | .cons x A c ks r, y, hy => by
    simp only [Fo.kn, List.mem_cons, List.mem_append] at hy
    simp only [Fo.tr, Tr.size]
    rcases hy with rfl | hy | hy
    · dsimp only; omega
    · have := kn_size ks y hy; omega
    · have := kn_size r y hy; omega
/-- Two nodes in two rows: the same node of a formula and of its copy. -/
structure NdTwo (N M : Nat) (W : World) (A' RA : Option Addr) (i : Nat) (k : Nat) (y z : KN) (b off b2 off2 : Nat) : Prop where
  a1 : A' = some ⟨b, off, none⟩
  a2 : RA = some ⟨b2, off2, none⟩
  l1 : b < W.heap.size
  l2 : b2 < W.heap.size
  n1 : NdAt W b (off + i * 7) y.x y.A y.ks.len y.c
  n2 : NdAt W b2 (off2 + i * 7) z.x z.A z.ks.len z.c
  s1 : FoSl N W y.A y.c y.ks
  s2 : FoSl M W z.A z.c z.ks
  x : z.x = y.x
  tr : z.ks.tr = y.ks.tr
  size : y.ks.tr.size ≤ k + 1
theorem nodes_at {N M : Nat} {W : World} {x : Nd} {A B : Option Addr} {c d b0 : Nat} {ks js : Fo} {pre : List Vis} {A' RA : Option Addr} {c' rc n : Nat} (hpre : pre <+: (Fo.cons x A c ks .nil).vis b0 0 1) (hgot : Sl W 7 A' pre.length c' (pre.flatMap vcs)) (hs : FoSl N W A c ks)
    (hn : n = js.tr.size + 1) (hrs : Sl W 7 RA n rc (nrow x B d js)) (hjs : FoSl M W B d js) (htr : js.tr = ks.tr) {i : Nat} (hi : i < pre.length) : ∃ y z b off b2 off2, NdTwo N M W A' RA i ks.tr.size y z b off b2 off2 := by
  subst hn
  have hlv : ((Fo.cons x A c ks .nil).vis b0 0 1).length = (Fo.cons x A c ks .nil).kn.length := by have := congrArg List.length (vis_kn (Fo.cons x A c ks .nil) b0 0 1); simpa using this
  have hiv : i < ((Fo.cons x A c ks .nil).vis b0 0 1).length := Nat.lt_of_lt_of_le hi hpre.length_le
  have hik : i < (Fo.cons x A c ks .nil).kn.length := by omega
  obtain ⟨hik2, hx, htt⟩ := kn_same (x := x) (A := A) (B := B) (c := c) (d := d) htr hik
  have hlr : ((Fo.cons x B d js .nil).vis 0 0 1).length = (Fo.cons x B d js .nil).kn.length := by have := congrArg List.length (vis_kn (Fo.cons x B d js .nil) 0 0 1); simpa using this
  have hrl : ((Fo.cons x B d js .nil).vis 0 0 1).length = js.tr.size + 1 := by rw [Fo.vis_len]; simp [Fo.tr, Tr.size]
  rw [nrow_vis, ← hrl] at hrs
  have hir : i < ((Fo.cons x B d js .nil).vis 0 0 1).length := by omega
  obtain ⟨b, off, h1, h2, h3⟩ := vis_cells hgot hi
  obtain ⟨b2, off2, h4, h5, h6⟩ := vis_cells hrs hir
  have e1 : pre[i] = ((Fo.cons x A c ks .nil).vis b0 0 1)[i] := hpre.getElem hi
  have k1 := congrArg (·[i]?) (vis_kn (Fo.cons x A c ks .nil) b0 0 1)
  have k2 := congrArg (·[i]?) (vis_kn (Fo.cons x B d js .nil) 0 0 1)
  simp only [List.getElem?_map, List.getElem?_eq_getElem hiv, List.getElem?_eq_getElem hik, List.getElem?_eq_getElem hir, List.getElem?_eq_getElem hik2, Option.map_some, Option.some.injEq, Prod.mk.injEq] at k1 k2
  rw [e1, k1.1, k1.2.1, k1.2.2.1, k1.2.2.2] at h3
  rw [k2.1, k2.2.1, k2.2.2.1, k2.2.2.2] at h6
  have hm1 := List.getElem_mem hik
  have hm2 := List.getElem_mem hik2
  refine ⟨_, _, b, off, b2, off2, h1, h4, h2, h5, h3, h6, sl_kn hs _ hm1, sl_kn hjs _ hm2, hx.symm, htt.symm, ?_⟩
  have := kn_size _ _ hm1
  simpa [Fo.tr, Tr.size] using this
end Go.Proofs.YtoegdmpmagbaiaaDoor
