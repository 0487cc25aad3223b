/- The law's plain: a formula as the model has it. -/
import Derived.Test.YtfebkjoohnlifaaDoorFref
import Derived.Deep.RegionHeld3
namespace Go.Proofs.YtfebkjoohnlifaaDoor
open Go.RowKit

set_option maxRecDepth 100000 in
theorem ref_Check (N : Nat) (w : World) (x : Nd) (B : Option Addr) (d : Nat) (ks : Fo) (hsz : ks.tr.size ≤ 100000) (hs : FoSl N w B d ks) (hnm : ∀ y ∈ (Tr.cons x ks.tr .nil).nodes 1, y.1.name.size ≤ 9223372036854775807) :
    Calls Tryd.prog 51 #[fval x B ks.len d] w fun e w' => e = .returned (.int .i64 (checkT x ks.tr)) ∧ Fr Nob w w' := by
  have H1 := Lib.hid (fun W (h : Fr Nob w W) => ref_Size _ N W x B d ks (Nat.le_refl _) hsz (hs.fr h))
  have H2 := Lib.hid (fun W (h : Fr Nob w W) => ref_Deep _ N W x B d ks (Nat.le_refl _) hsz (hs.fr h))
  have H3 := Lib.hid (fun W (h : Fr Nob w W) => ref_First N W x B d ks hsz (hs.fr h) hnm)
  have HCH := Lib.hid (show checkT x ks.tr = if 48 < ks.tr.size + 1 then 23 else if 12 < ks.tr.deep + 1 then 22 else firstW ((Tr.cons x ks.tr .nil).nodes 1) from rfl)
  have hdm := ks.tr.deep_size
  clear hs hnm
  generalize firstW ((Tr.cons x ks.tr .nil).nodes 1) = fw at *
  have h1 : ks.tr.size + 1 ≤ 100001 := by omega
  have h2 : ks.tr.deep + 1 ≤ 100001 := by omega
  generalize ks.tr.size + 1 = sz at *
  generalize ks.tr.deep + 1 = dp at *
  unfold fval at *
  go_enter Tryd.func51, Tryd.ntmps51
  go_wp2_with first | ((go_at_call 85); refine (H1.out _ ((Fr.refl _ _).alloc _)).mono ?_; rintro e w1 ⟨rfl, hf1⟩; have hb1 := (Blk.new w 34 #[.int .i64 x.op, .string x.name, .int .i64 x.cmp, .int .i64 x.val, .int .i64 x.lo, .int .i64 x.hi, .slice B ks.len d]).fr hf1 (fun e => e); have q1 := hb1.cell; have F1 := Lib.hid (((Fr.refl Nob w).alloc _).call hf1 (fun _ h _ => h)); clear hf1) | ((go_at_call 86); refine (H2.out _ F1.out).mono ?_; rintro e w2 ⟨rfl, hf2⟩; have q2 := (hb1.fr hf2 (fun e => e)).cell; have F2 := Lib.hid (F1.out.call hf2 (fun _ h _ => h)); clear hf2 q1) | ((go_at_call 57); refine (H3.out _ F2.out).mono ?_; rintro e w3 ⟨rfl, hf3⟩)
  · have HR := Lib.hid (show checkT x ks.tr = 23 by rw [HCH.out, if_pos (by omega)])
    go_ret
    rw [HR.out]
    exact ⟨rfl, F1.out⟩
  · have HR := Lib.hid (show checkT x ks.tr = 22 by rw [HCH.out, if_neg (by omega), if_pos (by omega)])
    go_ret
    rw [HR.out]
    exact ⟨rfl, F2.out⟩
  · have HR := Lib.hid (show checkT x ks.tr = fw by rw [HCH.out, if_neg (by omega), if_neg (by omega)])
    go_ret
    rw [HR.out]
    exact ⟨rfl, F2.out.call hf3 (fun _ h _ => h)⟩

/-- Formulas that lie in blocks of one kind. -/
def Fo.AtP (p : Nat → Prop) (w : World) : Nat → Nat → Fo → Prop
  | _, _, .nil => True
  | b, off, .cons x A c ks rest => p b ∧ b < w.heap.size ∧ (∀ j u, (fcs x A ks.len c)[j]? = some u → w.cell? ⟨b, off + j, none⟩ = some u) ∧ SlOk A ks.len c ∧
      (0 < ks.len → ∃ bb oo, A = some ⟨bb, oo, none⟩) ∧ (∀ bb oo, A = some ⟨bb, oo, none⟩ → ks.AtP p w bb oo) ∧ rest.AtP p w b (off + 7)
structure FoSlP (p : Nat → Prop) (w : World) (A : Option Addr) (c : Nat) (f : Fo) : Prop where
  ok : SlOk A f.len c
  some_ : 0 < f.len → ∃ bb oo, A = some ⟨bb, oo, none⟩
  at_ : ∀ bb oo, A = some ⟨bb, oo, none⟩ → f.AtP p w bb oo
theorem Fo.AtP.keep {p : Nat → Prop} {w w' : World} (hk : ∀ k, p k → k < w.heap.size → w'.heap[k]? = w.heap[k]?) : ∀ {f : Fo} {b off : Nat}, f.AtP p w b off → f.AtP p w' b off
  | .nil, _, _, _ => trivial
  | .cons _ _ _ _ _, b, off, ⟨h1, h2, h3, h4, h5, h6, h7⟩ => by
    have hb := hk b h1 h2
    refine ⟨h1, ?_, fun j u hu => (World.cell?_of_block (w := w) (w' := w') (a := ⟨b, off + j, none⟩) hb).trans (h3 j u hu), h4, h5, fun bb oo e => (h6 bb oo e).keep hk, h7.keep hk⟩
    rcases Nat.lt_or_ge b w'.heap.size with hlt | hge
    · exact hlt
    · rw [Array.getElem?_eq_none hge, Array.getElem?_eq_getElem h2] at hb; cases hb
theorem Fo.AtP.mono {p q : Nat → Prop} {w : World} (hM : ∀ k, p k → q k) : ∀ {f : Fo} {b off : Nat}, f.AtP p w b off → f.AtP q w b off
  | .nil, _, _, _ => trivial
  | .cons _ _ _ _ _, _, _, ⟨h1, h2, h3, h4, h5, h6, h7⟩ => ⟨hM _ h1, h2, h3, h4, h5, fun bb oo e => (h6 bb oo e).mono hM, h7.mono hM⟩
theorem Fo.AtP.at_ {p : Nat → Prop} {N : Nat} {w : World} (hM : ∀ k, p k → k < N) : ∀ {f : Fo} {b off : Nat}, f.AtP p w b off → f.At N w b off
  | .nil, _, _, _ => trivial
  | .cons _ _ _ _ _, _, _, ⟨h1, h2, h3, h4, h5, h6, h7⟩ => ⟨hM _ h1, h2, h3, h4, h5, fun bb oo e => (h6 bb oo e).at_ hM, h7.at_ hM⟩
theorem FoSlP.keep {p : Nat → Prop} {w w' : World} {A : Option Addr} {c : Nat} {f : Fo} (h : FoSlP p w A c f) (hk : ∀ k, p k → k < w.heap.size → w'.heap[k]? = w.heap[k]?) : FoSlP p w' A c f := ⟨h.ok, h.some_, fun bb oo e => (h.at_ bb oo e).keep hk⟩
theorem FoSlP.mono {p q : Nat → Prop} {w : World} {A : Option Addr} {c : Nat} {f : Fo} (h : FoSlP p w A c f) (hM : ∀ k, p k → q k) : FoSlP q w A c f := ⟨h.ok, h.some_, fun bb oo e => (h.at_ bb oo e).mono hM⟩
theorem FoSlP.sl {p : Nat → Prop} {N : Nat} {w : World} {A : Option Addr} {c : Nat} {f : Fo} (h : FoSlP p w A c f) (hM : ∀ k, p k → k < N) : FoSl N w A c f := ⟨h.ok, h.some_, fun bb oo e => (h.at_ bb oo e).at_ hM⟩

/-- One more formula behind some. -/
def Fo.snoc : Fo → Nd → Option Addr → Nat → Fo → Fo
  | .nil, x, A, c, ks => .cons x A c ks .nil
  | .cons y B d js rest, x, A, c, ks => .cons y B d js (rest.snoc x A c ks)
def Tr.app : Tr → Tr → Tr
  | .nil, t => t
  | .cons x k r, t => .cons x k (r.app t)
theorem Tr.app_nil (t : Tr) : t.app .nil = t := by
  induction t with
  | nil => rfl
  | cons x k r _ ih => simp [Tr.app, ih]
theorem Fo.snoc_tr (f : Fo) (x : Nd) (A : Option Addr) (c : Nat) (ks : Fo) (t : Tr) : (f.snoc x A c ks).tr.app t = f.tr.app (.cons x ks.tr t) := by
  induction f with
  | nil => rfl
  | cons y B d js r _ ih => simp [Fo.snoc, Fo.tr, Tr.app, ih]
theorem Fo.snoc_len (f : Fo) (x : Nd) (A : Option Addr) (c : Nat) (ks : Fo) : (f.snoc x A c ks).len = f.len + 1 := by
  induction f with
  | nil => rfl
  | cons y B d js r _ ih => simp [Fo.snoc, Fo.len, ih]
/-- The cells of formulas, but for their kids. -/
def Fo.tops : Fo → List Value
  | .nil => []
  | .cons x A c ks rest => fcs x A ks.len c ++ rest.tops
theorem Fo.snoc_tops (f : Fo) (x : Nd) (A : Option Addr) (c : Nat) (ks : Fo) : (f.snoc x A c ks).tops = f.tops ++ fcs x A ks.len c := by
  induction f with
  | nil => simp [Fo.snoc, Fo.tops]
  | cons y B d js r _ ih => simp [Fo.snoc, Fo.tops, ih]
theorem Fo.tops_len (f : Fo) : f.tops.length = f.len * 7 := by
  induction f with
  | nil => rfl
  | cons y B d js r _ ih => simp [Fo.tops, Fo.len, ih, fcs_len]; omega
/-- The kids of formulas, wherever they themselves lie. -/
def Fo.subs (p : Nat → Prop) (w : World) : Fo → Prop
  | .nil => True
  | .cons _ A c ks rest => FoSlP p w A c ks ∧ rest.subs p w
theorem Fo.subs_keep {p : Nat → Prop} {w w' : World} (hk : ∀ k, p k → k < w.heap.size → w'.heap[k]? = w.heap[k]?) : ∀ {f : Fo}, f.subs p w → f.subs p w'
  | .nil, _ => trivial
  | .cons _ _ _ _ _, ⟨h1, h2⟩ => ⟨h1.keep hk, Fo.subs_keep hk h2⟩
theorem Fo.subs_mono {p q : Nat → Prop} {w : World} (hM : ∀ k, p k → q k) : ∀ {f : Fo}, f.subs p w → f.subs q w
  | .nil, _ => trivial
  | .cons _ _ _ _ _, ⟨h1, h2⟩ => ⟨h1.mono hM, Fo.subs_mono hM h2⟩
theorem Fo.subs_snoc {p : Nat → Prop} {w : World} {x : Nd} {A : Option Addr} {c : Nat} {ks : Fo} (hs : FoSlP p w A c ks) : ∀ {f : Fo}, f.subs p w → (f.snoc x A c ks).subs p w
  | .nil, _ => ⟨hs, trivial⟩
  | .cons _ _ _ _ _, ⟨h1, h2⟩ => ⟨h1, Fo.subs_snoc hs h2⟩
/-- Tops and kids together. -/
theorem Fo.at_of {p : Nat → Prop} {w : World} {b : Nat} (hp : p b) (hb : b < w.heap.size) : ∀ {f : Fo} {off : Nat}, (∀ j u, f.tops[j]? = some u → w.cell? ⟨b, off + j, none⟩ = some u) → f.subs p w → f.AtP p w b off
  | .nil, _, _, _ => trivial
  | .cons x A c ks rest, off, hc, ⟨h1, h2⟩ => by
    refine ⟨hp, hb, fun j u hu => hc j u ?_, h1.ok, h1.some_, h1.at_, Fo.at_of hp hb (fun j u hu => ?_) h2⟩
    · rw [Fo.tops, List.getElem?_append_left (List.getElem?_eq_some_iff.1 hu).1]; exact hu
    · rw [Nat.add_assoc]
      refine hc (7 + j) u ?_
      rw [Fo.tops, List.getElem?_append_right (by rw [fcs_len]; omega), fcs_len, Nat.add_sub_cancel_left]
      exact hu
end Go.Proofs.YtfebkjoohnlifaaDoor
