/- Formulas in plain words: trees, their nodes, what is wrong; and how a tree lies in memory. -/
import Derived.Test.YtoegdmpmagbaiaaDoorMem
namespace Go.Proofs.YtoegdmpmagbaiaaDoor
open Go.RowKit

/-- A node, but its kids. -/
structure Nd where
  op : Int
  name : ByteArray
  cmp : Int
  val : Int
  lo : Int
  hi : Int
/-- Formulas one beside another, each with its kids. -/
inductive Tr where
  | nil
  | cons (x : Nd) (ks rest : Tr)
/-- The same, with where the kids lie. -/
inductive Fo where
  | nil
  | cons (x : Nd) (A : Option Addr) (c : Nat) (ks rest : Fo)
def Fo.tr : Fo → Tr
  | .nil => .nil
  | .cons x _ _ k r => .cons x k.tr r.tr
def Fo.len : Fo → Nat
  | .nil => 0
  | .cons _ _ _ _ r => r.len + 1
def Tr.len : Tr → Nat
  | .nil => 0
  | .cons _ _ r => r.len + 1
def Tr.size : Tr → Nat
  | .nil => 0
  | .cons _ k r => k.size + 1 + r.size
def Tr.deep : Tr → Nat
  | .nil => 0
  | .cons _ k r => max (k.deep + 1) r.deep
/-- The nodes, each ahead of its kids, with how many kids it has, and how deep it stands. -/
def Tr.nodes : Tr → Nat → List (Nd × Nat × Nat)
  | .nil, _ => []
  | .cons x k r, d => (x, k.len, d) :: (k.nodes (d + 1) ++ r.nodes d)
theorem Fo.tr_len (f : Fo) : f.tr.len = f.len := by
  induction f with
  | nil => rfl
  | cons x A c k r _ ih => simp [Fo.tr, Tr.len, Fo.len, ih]
theorem Tr.nodes_len (t : Tr) : ∀ d, (t.nodes d).length = t.size := by
  induction t with
  | nil => intro d; rfl
  | cons x k r ihk ihr => intro d; simp [Tr.nodes, Tr.size, ihk, ihr]; omega
theorem Tr.deep_size (t : Tr) : t.deep ≤ t.size := by
  induction t with
  | nil => exact Nat.le_refl _
  | cons x k r ihk ihr => simp only [Tr.deep, Tr.size]; omega
theorem Tr.len_size (t : Tr) : t.len ≤ t.size := by
  induction t with
  | nil => exact Nat.le_refl _
  | cons x k r _ ihr => simp only [Tr.len, Tr.size]; omega

/-- How many kids nodes of a kind have. -/
def kidsN (op : Int) : Nat := if op ≤ 3 then 0 else if op = 4 ∨ op = 9 ∨ op = 10 then 1 else 2

/-- A node's cells. -/
def fcs (x : Nd) (A : Option Addr) (n c : Nat) : List Value := [.int .i64 x.op, .string x.name, .int .i64 x.cmp, .int .i64 x.val, .int .i64 x.lo, .int .i64 x.hi, .slice A n c]
theorem fcs_len (x : Nd) (A : Option Addr) (n c : Nat) : (fcs x A n c).length = 7 := rfl
/-- A slice's own bounds. -/
structure SlOk (A : Option Addr) (n c : Nat) : Prop where
  le : n ≤ c
  max : c ≤ maxLen
  nil : A = none → c = 0
/-- The formulas lie at a place, one behind the other; all below block N. -/
def Fo.At (N : Nat) (w : World) : Nat → Nat → Fo → Prop
  | _, _, .nil => True
  | b, off, .cons x A c ks rest => b < N ∧ b < w.heap.size ∧ (∀ j u, (fcs x A ks.len c)[j]? = some u → w.cell? ⟨b, off + j, none⟩ = some u) ∧ SlOk A ks.len c ∧
      (0 < ks.len → ∃ bb oo, A = some ⟨bb, oo, none⟩) ∧ (∀ bb oo, A = some ⟨bb, oo, none⟩ → ks.At N w bb oo) ∧ rest.At N w b (off + 7)
/-- A slice of formulas. -/
structure FoSl (N : Nat) (w : World) (A : Option Addr) (c : Nat) (f : Fo) : Prop where
  ok : SlOk A f.len c
  some_ : 0 < f.len → ∃ bb oo, A = some ⟨bb, oo, none⟩
  at_ : ∀ bb oo, A = some ⟨bb, oo, none⟩ → f.At N w bb oo
theorem Fo.At.keep {N : Nat} {w w' : World} (hk : ∀ k, k < N → k < w.heap.size → w'.heap[k]? = w.heap[k]?) : ∀ {f : Fo} {b off : Nat}, f.At N w b off → f.At N w' b off
  | .nil, _, _, _ => trivial
  | .cons _ _ _ _ _, b, off, ⟨h1, h2, h3, h4, h5, h6, h7⟩ => by
    have hb := hk b h1 h2
    refine ⟨h1, ?_, fun j u hu => (World.cell?_of_block (w := w) (w' := w') (a := ⟨b, off + j, none⟩) hb).trans (h3 j u hu), h4, h5, fun bb oo e => (h6 bb oo e).keep hk, h7.keep hk⟩
    rcases Nat.lt_or_ge b w'.heap.size with hlt | hge
    · exact hlt
    · rw [Array.getElem?_eq_none hge, Array.getElem?_eq_getElem h2] at hb; cases hb
theorem Fo.At.mono {N M : Nat} {w : World} (hM : N ≤ M) : ∀ {f : Fo} {b off : Nat}, f.At N w b off → f.At M w b off
  | .nil, _, _, _ => trivial
  | .cons _ _ _ _ _, _, _, ⟨h1, h2, h3, h4, h5, h6, h7⟩ => ⟨Nat.lt_of_lt_of_le h1 hM, h2, h3, h4, h5, fun bb oo e => (h6 bb oo e).mono hM, h7.mono hM⟩
theorem FoSl.keep {N : Nat} {w w' : World} {A : Option Addr} {c : Nat} {f : Fo} (h : FoSl N w A c f) (hk : ∀ k, k < N → k < w.heap.size → w'.heap[k]? = w.heap[k]?) : FoSl N w' A c f := ⟨h.ok, h.some_, fun bb oo e => (h.at_ bb oo e).keep hk⟩
theorem FoSl.mono {N M : Nat} {w : World} {A : Option Addr} {c : Nat} {f : Fo} (h : FoSl N w A c f) (hM : N ≤ M) : FoSl M w A c f := ⟨h.ok, h.some_, fun bb oo e => (h.at_ bb oo e).mono hM⟩
theorem FoSl.fr {N : Nat} {w w' : World} {A : Option Addr} {c : Nat} {f : Fo} (h : FoSl N w A c f) (hf : Fr Nob w w') : FoSl N w' A c f := h.keep fun k _ hlt => hf.block k hlt (fun e => e)
theorem Fo.At.fr {N : Nat} {w w' : World} {f : Fo} {b off : Nat} (h : f.At N w b off) (hf : Fr Nob w w') : f.At N w' b off := h.keep fun k _ hlt => hf.block k hlt (fun e => e)
theorem FoSl.nil (N : Nat) (w : World) : FoSl N w none 0 .nil := ⟨⟨Nat.le_refl _, by simp, fun _ => rfl⟩, fun h => absurd h (by simp [Fo.len]), fun _ _ e => by cases e⟩
/-- The k-th of some formulas. -/
def Fo.get : Fo → Nat → Fo
  | .nil, _ => .nil
  | .cons x A c ks rest, 0 => .cons x A c ks rest
  | .cons _ _ _ _ rest, k + 1 => rest.get k
theorem Fo.At.get {N : Nat} {w : World} : ∀ {f : Fo} {b off : Nat} (k : Nat), f.At N w b off → (f.get k).At N w b (off + k * 7)
  | .nil, _, _, _, _ => trivial
  | .cons _ _ _ _ _, _, _, 0, h => by simpa [Fo.get] using h
  | .cons _ _ _ _ _, b, off, k + 1, ⟨_, _, _, _, _, _, h7⟩ => by
    have := h7.get k
    rw [show off + (k + 1) * 7 = off + 7 + k * 7 by omega]
    exact this
theorem Fo.get_cons : ∀ {f : Fo} {k : Nat}, k < f.len → ∃ x A c ks rest, f.get k = .cons x A c ks rest ∧ rest.len + 1 + k = f.len
  | .nil, _, h => by simp [Fo.len] at h
  | .cons x A c ks rest, 0, _ => ⟨x, A, c, ks, rest, rfl, rfl⟩
  | .cons _ _ _ _ rest, k + 1, h => by
    simp only [Fo.len] at h ⊢
    obtain ⟨y, B, d, js, rs, h1, h2⟩ := Fo.get_cons (f := rest) (k := k) (by omega)
    exact ⟨y, B, d, js, rs, h1, by omega⟩
/-- A node's cells, one by one. -/
structure NdAt (w : World) (b off : Nat) (x : Nd) (A : Option Addr) (n c : Nat) : Prop where
  h0 : w.cell? ⟨b, off, none⟩ = some (.int .i64 x.op)
  h1 : w.cell? ⟨b, off + 1, none⟩ = some (.string x.name)
  h2 : w.cell? ⟨b, off + 2, none⟩ = some (.int .i64 x.cmp)
  h3 : w.cell? ⟨b, off + 3, none⟩ = some (.int .i64 x.val)
  h4 : w.cell? ⟨b, off + 4, none⟩ = some (.int .i64 x.lo)
  h5 : w.cell? ⟨b, off + 5, none⟩ = some (.int .i64 x.hi)
  h6 : w.cell? ⟨b, off + 6, none⟩ = some (.slice A n c)
theorem NdAt.of {w : World} {b off : Nat} {x : Nd} {A : Option Addr} {n c : Nat} (h : ∀ j u, (fcs x A n c)[j]? = some u → w.cell? ⟨b, off + j, none⟩ = some u) : NdAt w b off x A n c :=
  ⟨h 0 _ rfl, h 1 _ rfl, h 2 _ rfl, h 3 _ rfl, h 4 _ rfl, h 5 _ rfl, h 6 _ rfl⟩

/-- The least number of blocks that a tree lies below: of trees of the call's own. -/
theorem Fo.At.lt {N : Nat} {w : World} {x : Nd} {A : Option Addr} {c : Nat} {ks rest : Fo} {b off : Nat} (h : (Fo.cons x A c ks rest).At N w b off) : b < N ∧ b < w.heap.size := ⟨h.1, h.2.1⟩
end Go.Proofs.YtoegdmpmagbaiaaDoor
