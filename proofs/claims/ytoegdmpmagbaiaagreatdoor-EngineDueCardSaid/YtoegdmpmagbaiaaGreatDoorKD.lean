/- The reference's Nodes, First, Check of a formula. -/
import Derived.Test.YtoegdmpmagbaiaaGreatDoorQFwrong
import Derived.Test.YtoegdmpmagbaiaaGreatDoorQFcheck
import Derived.Test.YtoegdmpmagbaiaaGreatDoorKA
import Derived.Deep.RegionHeld3
namespace Go.Proofs.YtoegdmpmagbaiaaGreatDoor
open Go.RowKit

theorem nd_one (x : Nd) (A : Option Addr) (n c : Nat) : ∀ u ∈ fcs x A n c, u.oneCell' = true := by
  intro u hu; simp [fcs] at hu; rcases hu with rfl | rfl | rfl | rfl | rfl | rfl | rfl <;> rfl
end Go.Proofs.YtoegdmpmagbaiaaGreatDoor

/- The law's plain: a formula as the model has it. -/
namespace Go.Proofs.YtoegdmpmagbaiaaGreatDoor
open Go.RowKit

/-- Formulas that lie in blocks of one kind. -/
def Fo.AtP (p : Nat → Prop) (w : World) : Nat → Nat → Fo → Prop
  | _, _, .nil => True
  | b, off, .cons x A c ks rest => p b ∧ b < w.heap.size ∧ (∀ j u, (fcs x A ks.len c)[j]? = some u → w.cell? ⟨b, off + j, none⟩ = some u) ∧ SlOk A ks.len c ∧
      (0 < ks.len → ∃ bb oo, A = some ⟨bb, oo, none⟩) ∧ (∀ bb oo, A = some ⟨bb, oo, none⟩ → ks.AtP p w bb oo) ∧ rest.AtP p w b (off + 7)
structure FoSlP (p : Nat → Prop) (w : World) (A : Option Addr) (c : Nat) (f : Fo) : Prop where
  ok : SlOk A f.len c
  some_ : 0 < f.len → ∃ bb oo, A = some ⟨bb, oo, none⟩
  at_ : ∀ bb oo, A = some ⟨bb, oo, none⟩ → f.AtP p w bb oo
theorem Fo.AtP.keep {p : Nat → Prop} {w w' : World} (hk : ∀ k, p k → k < w.heap.size → w'.heap[k]? = w.heap[k]?) : ∀ {f : Fo} {b off : Nat}, f.AtP p w b off → f.AtP p w' b off
  | .nil, _, _, _ => trivial
  | .cons _ _ _ _ _, b, off, ⟨h1, h2, h3, h4, h5, h6, h7⟩ => by
    have hb := hk b h1 h2
    refine ⟨h1, ?_, fun j u hu => (World.cell?_of_block (w := w) (w' := w') (a := ⟨b, off + j, none⟩) hb).trans (h3 j u hu), h4, h5, fun bb oo e => (h6 bb oo e).keep hk, h7.keep hk⟩
    rcases Nat.lt_or_ge b w'.heap.size with hlt | hge
    · exact hlt
    · rw [Array.getElem?_eq_none hge, Array.getElem?_eq_getElem h2] at hb; cases hb
theorem Fo.AtP.mono {p q : Nat → Prop} {w : World} (hM : ∀ k, p k → q k) : ∀ {f : Fo} {b off : Nat}, f.AtP p w b off → f.AtP q w b off
  | .nil, _, _, _ => trivial
  | .cons _ _ _ _ _, _, _, ⟨h1, h2, h3, h4, h5, h6, h7⟩ => ⟨hM _ h1, h2, h3, h4, h5, fun bb oo e => (h6 bb oo e).mono hM, h7.mono hM⟩
theorem Fo.AtP.at_ {p : Nat → Prop} {N : Nat} {w : World} (hM : ∀ k, p k → k < N) : ∀ {f : Fo} {b off : Nat}, f.AtP p w b off → f.At N w b off
  | .nil, _, _, _ => trivial
  | .cons _ _ _ _ _, _, _, ⟨h1, h2, h3, h4, h5, h6, h7⟩ => ⟨hM _ h1, h2, h3, h4, h5, fun bb oo e => (h6 bb oo e).at_ hM, h7.at_ hM⟩
theorem FoSlP.keep {p : Nat → Prop} {w w' : World} {A : Option Addr} {c : Nat} {f : Fo} (h : FoSlP p w A c f) (hk : ∀ k, p k → k < w.heap.size → w'.heap[k]? = w.heap[k]?) : FoSlP p w' A c f := ⟨h.ok, h.some_, fun bb oo e => (h.at_ bb oo e).keep hk⟩
theorem FoSlP.mono {p q : Nat → Prop} {w : World} {A : Option Addr} {c : Nat} {f : Fo} (h : FoSlP p w A c f) (hM : ∀ k, p k → q k) : FoSlP q w A c f := ⟨h.ok, h.some_, fun bb oo e => (h.at_ bb oo e).mono hM⟩
theorem FoSlP.sl {p : Nat → Prop} {N : Nat} {w : World} {A : Option Addr} {c : Nat} {f : Fo} (h : FoSlP p w A c f) (hM : ∀ k, p k → k < N) : FoSl N w A c f := ⟨h.ok, h.some_, fun bb oo e => (h.at_ bb oo e).at_ hM⟩

/-- One more formula behind some. -/
def Fo.snoc : Fo → Nd → Option Addr → Nat → Fo → Fo
  | .nil, x, A, c, ks => .cons x A c ks .nil
  | .cons y B d js rest, x, A, c, ks => .cons y B d js (rest.snoc x A c ks)
def Tr.app : Tr → Tr → Tr
  | .nil, t => t
  | .cons x k r, t => .cons x k (r.app t)
theorem Tr.app_nil (t : Tr) : t.app .nil = t := by
  induction t with
  | nil => rfl
  | cons x k r _ ih => simp [Tr.app, ih]
theorem Fo.snoc_tr (f : Fo) (x : Nd) (A : Option Addr) (c : Nat) (ks : Fo) (t : Tr) : (f.snoc x A c ks).tr.app t = f.tr.app (.cons x ks.tr t) := by
  induction f with
  | nil => rfl
  | cons y B d js r _ ih => simp [Fo.snoc, Fo.tr, Tr.app, ih]
theorem Fo.snoc_len (f : Fo) (x : Nd) (A : Option Addr) (c : Nat) (ks : Fo) : (f.snoc x A c ks).len = f.len + 1 := by
  induction f with
  | nil => rfl
  | cons y B d js r _ ih => simp [Fo.snoc, Fo.len, ih]
/-- The cells of formulas, but for their kids. -/
def Fo.tops : Fo → List Value
  | .nil => []
  | .cons x A c ks rest => fcs x A ks.len c ++ rest.tops
theorem Fo.snoc_tops (f : Fo) (x : Nd) (A : Option Addr) (c : Nat) (ks : Fo) : (f.snoc x A c ks).tops = f.tops ++ fcs x A ks.len c := by
  induction f with
  | nil => simp [Fo.snoc, Fo.tops]
  | cons y B d js r _ ih => simp [Fo.snoc, Fo.tops, ih]
theorem Fo.tops_len (f : Fo) : f.tops.length = f.len * 7 := by
  induction f with
  | nil => rfl
  | cons y B d js r _ ih => simp [Fo.tops, Fo.len, ih, fcs_len]; omega
/-- The kids of formulas, wherever they themselves lie. -/
def Fo.subs (p : Nat → Prop) (w : World) : Fo → Prop
  | .nil => True
  | .cons _ A c ks rest => FoSlP p w A c ks ∧ rest.subs p w
theorem Fo.subs_keep {p : Nat → Prop} {w w' : World} (hk : ∀ k, p k → k < w.heap.size → w'.heap[k]? = w.heap[k]?) : ∀ {f : Fo}, f.subs p w → f.subs p w'
  | .nil, _ => trivial
  | .cons _ _ _ _ _, ⟨h1, h2⟩ => ⟨h1.keep hk, Fo.subs_keep hk h2⟩
theorem Fo.subs_mono {p q : Nat → Prop} {w : World} (hM : ∀ k, p k → q k) : ∀ {f : Fo}, f.subs p w → f.subs q w
  | .nil, _ => trivial
  | .cons _ _ _ _ _, ⟨h1, h2⟩ => ⟨h1.mono hM, Fo.subs_mono hM h2⟩
theorem Fo.subs_snoc {p : Nat → Prop} {w : World} {x : Nd} {A : Option Addr} {c : Nat} {ks : Fo} (hs : FoSlP p w A c ks) : ∀ {f : Fo}, f.subs p w → (f.snoc x A c ks).subs p w
  | .nil, _ => ⟨hs, trivial⟩
  | .cons _ _ _ _ _, ⟨h1, h2⟩ => ⟨h1, Fo.subs_snoc hs h2⟩
/-- Tops and kids together. -/
theorem Fo.at_of {p : Nat → Prop} {w : World} {b : Nat} (hp : p b) (hb : b < w.heap.size) : ∀ {f : Fo} {off : Nat}, (∀ j u, f.tops[j]? = some u → w.cell? ⟨b, off + j, none⟩ = some u) → f.subs p w → f.AtP p w b off
  | .nil, _, _, _ => trivial
  | .cons x A c ks rest, off, hc, ⟨h1, h2⟩ => by
    refine ⟨hp, hb, fun j u hu => hc j u ?_, h1.ok, h1.some_, h1.at_, Fo.at_of hp hb (fun j u hu => ?_) h2⟩
    · rw [Fo.tops, List.getElem?_append_left (List.getElem?_eq_some_iff.1 hu).1]; exact hu
    · rw [Nat.add_assoc]
      refine hc (7 + j) u ?_
      rw [Fo.tops, List.getElem?_append_right (by rw [fcs_len]; omega), fcs_len, Nat.add_sub_cancel_left]
      exact hu
end Go.Proofs.YtoegdmpmagbaiaaGreatDoor
