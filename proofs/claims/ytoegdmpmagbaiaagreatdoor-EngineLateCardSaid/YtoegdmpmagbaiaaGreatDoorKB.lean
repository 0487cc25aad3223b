/- Formulas in plain words: trees, their nodes, what is wrong; and how a tree lies in memory. -/
import Derived.Test.YtoegdmpmagbaiaaGreatDoorKA
import Derived.IntWalk
import Derived.RangeFuncNested
import Derived.RangeFuncBound
import Derived.RangeFuncCalls
import Derived.RangeFuncLeaves
import Derived.Shelf.Abstract
import Derived.OwnWalkIn
import Derived.TacticsInMore
import Derived.LoopNIn
import Derived.LoopIn
namespace Go.Proofs.YtoegdmpmagbaiaaGreatDoor
open Go.RowKit

/-- A node, but its kids. -/
structure Nd where
  op : Int
  name : ByteArray
  cmp : Int
  val : Int
  lo : Int
  hi : Int
/-- Formulas one beside another, each with its kids. -/
inductive Tr where
  | nil
  | cons (x : Nd) (ks rest : Tr)
/-- The same, with where the kids lie. -/
inductive Fo where
  | nil
  | cons (x : Nd) (A : Option Addr) (c : Nat) (ks rest : Fo)
def Fo.tr : Fo → Tr
  | .nil => .nil
  | .cons x _ _ k r => .cons x k.tr r.tr
def Fo.len : Fo → Nat
  | .nil => 0
  | .cons _ _ _ _ r => r.len + 1
def Tr.len : Tr → Nat
  | .nil => 0
  | .cons _ _ r => r.len + 1
def Tr.size : Tr → Nat
  | .nil => 0
  | .cons _ k r => k.size + 1 + r.size
def Tr.deep : Tr → Nat
  | .nil => 0
  | .cons _ k r => max (k.deep + 1) r.deep
/-- The nodes, each ahead of its kids, with how many kids it has, and how deep it stands. -/
def Tr.nodes : Tr → Nat → List (Nd × Nat × Nat)
  | .nil, _ => []
  | .cons x k r, d => (x, k.len, d) :: (k.nodes (d + 1) ++ r.nodes d)
theorem Fo.tr_len (f : Fo) : f.tr.len = f.len := by
  induction f with
  | nil => rfl
  | cons x A c k r _ ih => simp [Fo.tr, Tr.len, Fo.len, ih]
theorem Tr.nodes_len (t : Tr) : ∀ d, (t.nodes d).length = t.size := by
  induction t with
  | nil => intro d; rfl
  | cons x k r ihk ihr => intro d; simp [Tr.nodes, Tr.size, ihk, ihr]; omega
theorem Tr.deep_size (t : Tr) : t.deep ≤ t.size := by
  induction t with
  | nil => exact Nat.le_refl _
  | cons x k r ihk ihr => simp only [Tr.deep, Tr.size]; omega
theorem Tr.len_size (t : Tr) : t.len ≤ t.size := by
  induction t with
  | nil => exact Nat.le_refl _
  | cons x k r _ ihr => simp only [Tr.len, Tr.size]; omega

/-- How many kids nodes of a kind have. -/
def kidsN (op : Int) : Nat := if op ≤ 3 then 0 else if op = 4 ∨ op = 9 ∨ op = 10 then 1 else 2

/-- A node's cells. -/
def fcs (x : Nd) (A : Option Addr) (n c : Nat) : List Value := [.int .i64 x.op, .string x.name, .int .i64 x.cmp, .int .i64 x.val, .int .i64 x.lo, .int .i64 x.hi, .slice A n c]
theorem fcs_len (x : Nd) (A : Option Addr) (n c : Nat) : (fcs x A n c).length = 7 := rfl
/-- A slice's own bounds. -/
structure SlOk (A : Option Addr) (n c : Nat) : Prop where
  le : n ≤ c
  max : c ≤ maxLen
  nil : A = none → c = 0
/-- The formulas lie at a place, one behind the other; all below block N. -/
def Fo.At (N : Nat) (w : World) : Nat → Nat → Fo → Prop
  | _, _, .nil => True
  | b, off, .cons x A c ks rest => b < N ∧ b < w.heap.size ∧ (∀ j u, (fcs x A ks.len c)[j]? = some u → w.cell? ⟨b, off + j, none⟩ = some u) ∧ SlOk A ks.len c ∧
      (0 < ks.len → ∃ bb oo, A = some ⟨bb, oo, none⟩) ∧ (∀ bb oo, A = some ⟨bb, oo, none⟩ → ks.At N w bb oo) ∧ rest.At N w b (off + 7)
/-- A slice of formulas. -/
structure FoSl (N : Nat) (w : World) (A : Option Addr) (c : Nat) (f : Fo) : Prop where
  ok : SlOk A f.len c
  some_ : 0 < f.len → ∃ bb oo, A = some ⟨bb, oo, none⟩
  at_ : ∀ bb oo, A = some ⟨bb, oo, none⟩ → f.At N w bb oo
theorem Fo.At.keep {N : Nat} {w w' : World} (hk : ∀ k, k < N → k < w.heap.size → w'.heap[k]? = w.heap[k]?) : ∀ {f : Fo} {b off : Nat}, f.At N w b off → f.At N w' b off
  | .nil, _, _, _ => trivial
  | .cons _ _ _ _ _, b, off, ⟨h1, h2, h3, h4, h5, h6, h7⟩ => by
    have hb := hk b h1 h2
    refine ⟨h1, ?_, fun j u hu => (World.cell?_of_block (w := w) (w' := w') (a := ⟨b, off + j, none⟩) hb).trans (h3 j u hu), h4, h5, fun bb oo e => (h6 bb oo e).keep hk, h7.keep hk⟩
    rcases Nat.lt_or_ge b w'.heap.size with hlt | hge
    · exact hlt
    · rw [Array.getElem?_eq_none hge, Array.getElem?_eq_getElem h2] at hb; cases hb
theorem Fo.At.mono {N M : Nat} {w : World} (hM : N ≤ M) : ∀ {f : Fo} {b off : Nat}, f.At N w b off → f.At M w b off
  | .nil, _, _, _ => trivial
  | .cons _ _ _ _ _, _, _, ⟨h1, h2, h3, h4, h5, h6, h7⟩ => ⟨Nat.lt_of_lt_of_le h1 hM, h2, h3, h4, h5, fun bb oo e => (h6 bb oo e).mono hM, h7.mono hM⟩
theorem FoSl.keep {N : Nat} {w w' : World} {A : Option Addr} {c : Nat} {f : Fo} (h : FoSl N w A c f) (hk : ∀ k, k < N → k < w.heap.size → w'.heap[k]? = w.heap[k]?) : FoSl N w' A c f := ⟨h.ok, h.some_, fun bb oo e => (h.at_ bb oo e).keep hk⟩
theorem FoSl.mono {N M : Nat} {w : World} {A : Option Addr} {c : Nat} {f : Fo} (h : FoSl N w A c f) (hM : N ≤ M) : FoSl M w A c f := ⟨h.ok, h.some_, fun bb oo e => (h.at_ bb oo e).mono hM⟩
theorem FoSl.fr {N : Nat} {w w' : World} {A : Option Addr} {c : Nat} {f : Fo} (h : FoSl N w A c f) (hf : Fr Nob w w') : FoSl N w' A c f := h.keep fun k _ hlt => hf.block k hlt (fun e => e)
theorem Fo.At.fr {N : Nat} {w w' : World} {f : Fo} {b off : Nat} (h : f.At N w b off) (hf : Fr Nob w w') : f.At N w' b off := h.keep fun k _ hlt => hf.block k hlt (fun e => e)
theorem FoSl.nil (N : Nat) (w : World) : FoSl N w none 0 .nil := ⟨⟨Nat.le_refl _, by simp, fun _ => rfl⟩, fun h => absurd h (by simp [Fo.len]), fun _ _ e => by cases e⟩
/-- The k-th of some formulas. -/
def Fo.get : Fo → Nat → Fo
  | .nil, _ => .nil
  | .cons x A c ks rest, 0 => .cons x A c ks rest
  | .cons _ _ _ _ rest, k + 1 => rest.get k
theorem Fo.At.get {N : Nat} {w : World} : ∀ {f : Fo} {b off : Nat} (k : Nat), f.At N w b off → (f.get k).At N w b (off + k * 7)
  | .nil, _, _, _, _ => trivial
  | .cons _ _ _ _ _, _, _, 0, h => by simpa [Fo.get] using h
  | .cons _ _ _ _ _, b, off, k + 1, ⟨_, _, _, _, _, _, h7⟩ => by
    have := h7.get k
    rw [show off + (k + 1) * 7 = off + 7 + k * 7 by omega]
    exact this
theorem Fo.get_cons : ∀ {f : Fo} {k : Nat}, k < f.len → ∃ x A c ks rest, f.get k = .cons x A c ks rest ∧ rest.len + 1 + k = f.len
  | .nil, _, h => by simp [Fo.len] at h
  | .cons x A c ks rest, 0, _ => ⟨x, A, c, ks, rest, rfl, rfl⟩
  | .cons _ _ _ _ rest, k + 1, h => by
    simp only [Fo.len] at h ⊢
    obtain ⟨y, B, d, js, rs, h1, h2⟩ := Fo.get_cons (f := rest) (k := k) (by omega)
    exact ⟨y, B, d, js, rs, h1, by omega⟩
/-- A node's cells, one by one. -/
structure NdAt (w : World) (b off : Nat) (x : Nd) (A : Option Addr) (n c : Nat) : Prop where
  h0 : w.cell? ⟨b, off, none⟩ = some (.int .i64 x.op)
  h1 : w.cell? ⟨b, off + 1, none⟩ = some (.string x.name)
  h2 : w.cell? ⟨b, off + 2, none⟩ = some (.int .i64 x.cmp)
  h3 : w.cell? ⟨b, off + 3, none⟩ = some (.int .i64 x.val)
  h4 : w.cell? ⟨b, off + 4, none⟩ = some (.int .i64 x.lo)
  h5 : w.cell? ⟨b, off + 5, none⟩ = some (.int .i64 x.hi)
  h6 : w.cell? ⟨b, off + 6, none⟩ = some (.slice A n c)
theorem NdAt.of {w : World} {b off : Nat} {x : Nd} {A : Option Addr} {n c : Nat} (h : ∀ j u, (fcs x A n c)[j]? = some u → w.cell? ⟨b, off + j, none⟩ = some u) : NdAt w b off x A n c :=
  ⟨h 0 _ rfl, h 1 _ rfl, h 2 _ rfl, h 3 _ rfl, h 4 _ rfl, h 5 _ rfl, h 6 _ rfl⟩

/-- The least number of blocks that a tree lies below: of trees of the call's own. -/
theorem Fo.At.lt {N : Nat} {w : World} {x : Nd} {A : Option Addr} {c : Nat} {ks rest : Fo} {b off : Nat} (h : (Fo.cons x A c ks rest).At N w b off) : b < N ∧ b < w.heap.size := ⟨h.1, h.2.1⟩
end Go.Proofs.YtoegdmpmagbaiaaGreatDoor

/- Recursions over formulas: how many nodes the reference counts, how deep they stand; how many nodes may be left. -/
namespace Go.Proofs.YtoegdmpmagbaiaaGreatDoor
open Go.RowKit

theorem Fo.get_size : ∀ {f : Fo} {k : Nat} {x : Nd} {A : Option Addr} {c : Nat} {ks rest : Fo}, f.get k = .cons x A c ks rest → ks.tr.size + 1 + rest.tr.size ≤ f.tr.size
  | .nil, _, _, _, _, _, _, h => by simp [Fo.get] at h
  | .cons _ _ _ _ _, 0, _, _, _, _, _, h => by
    simp only [Fo.get, Fo.cons.injEq] at h
    obtain ⟨rfl, rfl, rfl, rfl, rfl⟩ := h
    simp [Fo.tr, Tr.size]
  | .cons _ _ _ _ rest, k + 1, _, _, _, _, _, h => by
    have := Fo.get_size (f := rest) (k := k) h
    simp only [Fo.tr, Tr.size]; omega
theorem Fo.get_succ : ∀ {f : Fo} {k : Nat} {x : Nd} {A : Option Addr} {c : Nat} {ks rest : Fo}, f.get k = .cons x A c ks rest → f.get (k + 1) = rest
  | .nil, _, _, _, _, _, _, h => by simp [Fo.get] at h
  | .cons _ _ _ _ r, 0, _, _, _, _, _, h => by
    simp only [Fo.get, Fo.cons.injEq] at h
    obtain ⟨rfl, rfl, rfl, rfl, rfl⟩ := h
    cases r <;> rfl
  | .cons _ _ _ _ rest, k + 1, _, _, _, _, _, h => Fo.get_succ (f := rest) (k := k) h
theorem Fo.get_end : ∀ {f : Fo} {k : Nat}, f.len ≤ k → f.get k = .nil
  | .nil, _, _ => rfl
  | .cons _ _ _ _ _, 0, h => by simp [Fo.len] at h
  | .cons _ _ _ _ rest, k + 1, h => Fo.get_end (f := rest) (by simp only [Fo.len] at h; omega)
theorem Fo.get_zero (f : Fo) : f.get 0 = f := by cases f <;> rfl
theorem Fo.len_size (f : Fo) : f.len ≤ f.tr.size := by rw [← Fo.tr_len]; exact f.tr.len_size

/-- A kid that is looked at. -/
structure KidAt (N : Nat) (w : World) (A : Option Addr) (c : Nat) (f : Fo) (k : Nat) (b off : Nat) (y : Nd) (B : Option Addr) (d : Nat) (js rs : Fo) : Prop where
  slice : A = some ⟨b, off, none⟩
  get : f.get k = .cons y B d js rs
  lt : b < w.heap.size
  bN : b < N
  nd : NdAt w b (off + k * 7) y B js.len d
  sl : FoSl N w B d js
  len : rs.len + 1 + k = f.len
  size : js.tr.size + 1 + rs.tr.size ≤ f.tr.size
theorem FoSl.kid {N : Nat} {w : World} {A : Option Addr} {c : Nat} {f : Fo} {k : Nat} (h : FoSl N w A c f) (hk : k < f.len) : ∃ b off y B d js rs, KidAt N w A c f k b off y B d js rs := by
  obtain ⟨b, off, hA⟩ := h.some_ (by omega)
  obtain ⟨y, B, d, js, rs, hg, hl⟩ := Fo.get_cons hk
  have ha := (h.at_ b off hA).get k
  rw [hg] at ha
  obtain ⟨h1, h2, h3, h4, h5, h6, _⟩ := ha
  exact ⟨b, off, y, B, d, js, rs, hA, hg, h2, h1, NdAt.of h3, ⟨h4, h5, h6⟩, hl, Fo.get_size hg⟩
theorem NdAt.fr {w w' : World} {b off : Nat} {x : Nd} {A : Option Addr} {n c : Nat} (h : NdAt w b off x A n c) (hf : Fr Nob w w') : NdAt w' b off x A n c :=
  ⟨hf.cell h.h0 (fun e => e), hf.cell h.h1 (fun e => e), hf.cell h.h2 (fun e => e), hf.cell h.h3 (fun e => e), hf.cell h.h4 (fun e => e), hf.cell h.h5 (fun e => e), hf.cell h.h6 (fun e => e)⟩
def fval (x : Nd) (A : Option Addr) (n c : Nat) : Value := .agg #[.int .i64 x.op, .string x.name, .int .i64 x.cmp, .int .i64 x.val, .int .i64 x.lo, .int .i64 x.hi, .slice A n c]

set_option maxRecDepth 100000 in
set_option maxHeartbeats 4000000 in
theorem ref_Size : ∀ (m : Nat) (N : Nat) (w : World) (x : Nd) (A : Option Addr) (c : Nat) (ks : Fo), ks.tr.size ≤ m → ks.tr.size ≤ 100000 → FoSl N w A c ks →
    Calls Tryz.prog 112 #[fval x A ks.len c] w fun e w' => e = .returned (.int .i64 (ks.tr.size + 1 : Nat)) ∧ Fr Nob w w' := by
  intro m
  induction m with
  | zero =>
    intro N w x A c ks hm _ hs
    have hn : ks.len = 0 := by have := ks.len_size; omega
    have hz : ks.tr.size = 0 := by omega
    rw [hn, hz]
    unfold fval
    go_enter Tryz.func112, Tryz.ntmps112
    go_wp2_with fail
    go_loopw [3, 4] (fun s i wr => s = .int .i64 1 ∧ i = .int .i64 0 ∧ wr = w.alloc (.cells #[.int .i64 x.op, .string x.name, .int .i64 x.cmp, .int .i64 x.val, .int .i64 x.lo, .int .i64 x.hi, .slice A 0 c] 39)) (fun _ _ _ => 0)
    case atStart => exact ⟨rfl, rfl, rfl⟩
    case round =>
      obtain ⟨rfl, rfl, rfl⟩ := hrel
      go_wp2_with fail
      go_ret
      exact ⟨rfl, (Fr.refl _ _).alloc _⟩
  | succ m ih =>
    intro N w x A c ks hm hb hs
    have IH := Lib.hid ih
    have HS := Lib.hid hs
    have hlen := ks.len_size
    clear ih hs
    unfold fval at *
    go_enter Tryz.func112, Tryz.ntmps112
    go_wp2_with fail
    go_loopw [3, 4] (fun s i wr => ∃ k : Nat, k ≤ ks.len ∧ i = .int .i64 k ∧ s = .int .i64 ((ks.tr.size - (ks.get k).tr.size + 1 : Nat) : Int) ∧ Hid ((ks.get k).tr.size ≤ ks.tr.size) ∧ Hid (Fr Nob w wr) ∧ Hid (Blk wr w.heap.size 39 #[.int .i64 x.op, .string x.name, .int .i64 x.cmp, .int .i64 x.val, .int .i64 x.lo, .int .i64 x.hi, .slice A ks.len c])) (fun _ i _ => ks.len - (intOf i).toNat)
    case atStart => exact ⟨0, Nat.zero_le _, rfl, by rw [Fo.get_zero, Nat.sub_self]; rfl, Lib.hid (by rw [Fo.get_zero]; exact Nat.le_refl _), Lib.hid ((Fr.refl _ _).alloc _), Lib.hid (Blk.new _ _ _)⟩
    case round =>
      obtain ⟨k, hk, rfl, rfl, hle, hfr, hbx⟩ := hrel
      have c6 : wr.cell? ⟨w.heap.size, 6, none⟩ = some (.slice A ks.len c) := hbx.out.cell 6
      have hbl := Blk.lt hbx.out
      by_cases hlt : k < ks.len
      · have hI : (k : Int) < ks.len := by omega
        have hI3 : 0 ≤ (k : Int) := by omega
        obtain ⟨b, off, y, B, d, js, rs, K⟩ := (HS.out.fr hfr.out).kid hlt
        obtain ⟨d0, d1, d2, d3, d4, d5, d6⟩ := K.nd
        obtain rfl := K.slice
        have hlt2 := K.lt
        have hsz := K.size
        have hl1 := hle.out
        have hg := K.get
        have hg2 := Fo.get_succ hg
        have HC := Lib.hid (IH.out N wr y B d js (by omega) (by omega) K.sl)
        have HE := Lib.hid (show (ks.tr.size - (ks.get k).tr.size + 1 + (js.tr.size + 1) = ks.tr.size - (ks.get (k + 1)).tr.size + 1) ∧ (ks.get (k + 1)).tr.size ≤ ks.tr.size by
          rw [hg2]; rw [hg] at hl1 ⊢; simp only [Fo.tr, Tr.size] at hl1 ⊢; omega)
        clear hg hg2 K
        generalize ks.tr.size - (ks.get k).tr.size + 1 = a at *
        have ha : a ≤ 100001 := by have := HE.out.1; omega
        go_wp2_with ((go_at_call 112); refine (HC.out).mono ?_; rintro e w1 ⟨rfl, hf⟩)
        go_roundw
        case rel => exact ⟨k + 1, by omega, by go_num, vint (by have := HE.out.1; omega), Lib.hid HE.out.2, Lib.hid (hfr.out.call hf (fun _ h _ => h)), Lib.hid (hbx.out.fr hf (fun e => e))⟩
        case measure => simp [intOf]; omega
      · have HE := Lib.hid (show ks.tr.size - (ks.get k).tr.size + 1 = ks.tr.size + 1 by rw [Fo.get_end (by omega)]; rfl)
        go_wp2_with fail
        go_ret
        rw [HE.out]
        exact ⟨rfl, hfr.out⟩

set_option maxRecDepth 100000 in
set_option maxHeartbeats 4000000 in
theorem ref_Deep : ∀ (m : Nat) (N : Nat) (w : World) (x : Nd) (A : Option Addr) (c : Nat) (ks : Fo), ks.tr.size ≤ m → ks.tr.size ≤ 100000 → FoSl N w A c ks →
    Calls Tryz.prog 113 #[fval x A ks.len c] w fun e w' => e = .returned (.int .i64 (ks.tr.deep + 1 : Nat)) ∧ Fr Nob w w' := by
  intro m
  induction m with
  | zero =>
    intro N w x A c ks hm _ hs
    have hn : ks.len = 0 := by have := ks.len_size; omega
    have hz : ks.tr.deep = 0 := by have := ks.tr.deep_size; omega
    rw [hn, hz]
    unfold fval
    go_enter Tryz.func113, Tryz.ntmps113
    go_wp2_with fail
    go_loopw [3, 4] (fun s i wr => s = .int .i64 0 ∧ i = .int .i64 0 ∧ wr = w.alloc (.cells #[.int .i64 x.op, .string x.name, .int .i64 x.cmp, .int .i64 x.val, .int .i64 x.lo, .int .i64 x.hi, .slice A 0 c] 39)) (fun _ _ _ => 0)
    case atStart => exact ⟨rfl, rfl, rfl⟩
    case round =>
      obtain ⟨rfl, rfl, rfl⟩ := hrel
      go_wp2_with fail
      go_ret
      exact ⟨rfl, (Fr.refl _ _).alloc _⟩
  | succ m ih =>
    intro N w x A c ks hm hb hs
    have IH := Lib.hid ih
    have HS := Lib.hid hs
    have hlen := ks.len_size
    have hdm := ks.tr.deep_size
    clear ih hs
    unfold fval at *
    go_enter Tryz.func113, Tryz.ntmps113
    go_wp2_with fail
    go_loopw [3, 4] (fun s i wr => ∃ k v : Nat, k ≤ ks.len ∧ i = .int .i64 k ∧ s = .int .i64 v ∧ Hid (max v (ks.get k).tr.deep = ks.tr.deep) ∧ Hid (Fr Nob w wr) ∧ Hid (Blk wr w.heap.size 39 #[.int .i64 x.op, .string x.name, .int .i64 x.cmp, .int .i64 x.val, .int .i64 x.lo, .int .i64 x.hi, .slice A ks.len c])) (fun _ i _ => ks.len - (intOf i).toNat)
    case atStart => exact ⟨0, 0, Nat.zero_le _, rfl, rfl, Lib.hid (by rw [Fo.get_zero]; omega), Lib.hid ((Fr.refl _ _).alloc _), Lib.hid (Blk.new _ _ _)⟩
    case round =>
      obtain ⟨k, v, hk, rfl, rfl, hle, hfr, hbx⟩ := hrel
      have c6 : wr.cell? ⟨w.heap.size, 6, none⟩ = some (.slice A ks.len c) := hbx.out.cell 6
      have hbl := Blk.lt hbx.out
      have hv : v ≤ 100000 := by have := hle.out; omega
      by_cases hlt : k < ks.len
      · have hI : (k : Int) < ks.len := by omega
        have hI3 : 0 ≤ (k : Int) := by omega
        obtain ⟨b, off, y, B, d, js, rs, K⟩ := (HS.out.fr hfr.out).kid hlt
        obtain ⟨d0, d1, d2, d3, d4, d5, d6⟩ := K.nd
        obtain rfl := K.slice
        have hlt2 := K.lt
        have hsz := K.size
        have hg := K.get
        have hg2 := Fo.get_succ hg
        have HC := Lib.hid (IH.out N wr y B d js (by omega) (by omega) K.sl)
        have HE := Lib.hid (show max (max v (js.tr.deep + 1)) (ks.get (k + 1)).tr.deep = ks.tr.deep by
          have := hle.out; rw [hg] at this; rw [hg2]; simp only [Fo.tr, Tr.deep] at this; omega)
        have hjd : js.tr.deep + 1 ≤ 100000 := by have := HE.out; omega
        clear hg hg2 K
        by_cases hgt : v < js.tr.deep + 1
        · have hgtI : (v : Int) < ((js.tr.deep + 1 : Nat) : Int) := by omega
          generalize js.tr.deep + 1 = u at *
          go_wp2_with ((go_at_call 113); refine (HC.out).mono ?_; rintro e w1 ⟨rfl, hf⟩)
          go_roundw
          case rel => exact ⟨k + 1, u, by omega, by go_num, rfl, Lib.hid (by have := HE.out; omega), Lib.hid (hfr.out.call hf (fun _ h _ => h)), Lib.hid (hbx.out.fr hf (fun e => e))⟩
          case measure => simp [intOf]; omega
        · have hgtI : ((js.tr.deep + 1 : Nat) : Int) ≤ v := by omega
          generalize js.tr.deep + 1 = u at *
          go_wp2_with ((go_at_call 113); refine (HC.out).mono ?_; rintro e w1 ⟨rfl, hf⟩)
          go_roundw
          case rel => exact ⟨k + 1, v, by omega, by go_num, rfl, Lib.hid (by have := HE.out; omega), Lib.hid (hfr.out.call hf (fun _ h _ => h)), Lib.hid (hbx.out.fr hf (fun e => e))⟩
          case measure => simp [intOf]; omega
      · have HE := Lib.hid (show v = ks.tr.deep by have := hle.out; rw [Fo.get_end (by omega)] at this; simpa [Fo.tr, Tr.deep] using this)
        go_wp2_with fail
        go_ret
        rw [← HE.out]
        exact ⟨ret1i (by omega), hfr.out⟩

/-- How many nodes may still come behind some formulas; 0: too many, or a long name. -/
def leftF : Tr → Nat → Nat
  | .nil, m => m
  | .cons x k r, m => if m = 0 then 0 else leftF r (if 40 < x.name.size then 0 else leftF k (m - 1))
theorem leftF_zero (t : Tr) : leftF t 0 = 0 := by cases t <;> simp [leftF]
theorem leftF_le (t : Tr) : ∀ m, leftF t m ≤ m := by
  induction t with
  | nil => intro m; exact Nat.le_refl _
  | cons x k r ihk ihr =>
    intro m
    unfold leftF
    split
    · omega
    · split
      · rw [leftF_zero]; omega
      · have := ihk (m - 1); have := ihr (leftF k (m - 1)); omega
def left1 (x : Nd) (ks : Tr) (n : Nat) : Nat := if n = 0 ∨ 40 < x.name.size then 0 else leftF ks (n - 1)
/-- All names are short. -/
def Tr.shortN : Tr → Prop
  | .nil => True
  | .cons x k r => x.name.size ≤ 40 ∧ k.shortN ∧ r.shortN
theorem leftF_pos (t : Tr) : ∀ m, 0 < leftF t m → t.size + leftF t m = m ∧ t.shortN := by
  induction t with
  | nil => intro m _; simp [Tr.size, leftF, Tr.shortN]
  | cons x k r ihk ihr =>
    intro m h
    unfold leftF at h ⊢
    split at h
    · omega
    · rename_i hm
      split at h
      · rw [leftF_zero] at h; omega
      · rename_i hx
        rw [if_neg hm, if_neg hx]
        obtain ⟨h1, h2⟩ := ihr _ h
        obtain ⟨h3, h4⟩ := ihk (m - 1) (by omega)
        simp only [Tr.size, Tr.shortN]
        exact ⟨by omega, by omega, h4, h2⟩
theorem left1_pos {x : Nd} {ks : Tr} {n : Nat} (h : 0 < left1 x ks n) : ks.size + 1 ≤ n ∧ x.name.size ≤ 40 ∧ ks.shortN := by
  unfold left1 at h
  split at h
  · omega
  · obtain ⟨h1, h2⟩ := leftF_pos ks _ h
    exact ⟨by omega, by omega, h2⟩

set_option maxRecDepth 100000 in
set_option maxHeartbeats 4000000 in
theorem law_left : ∀ (n : Nat) (N : Nat) (w : World) (x : Nd) (A : Option Addr) (c : Nat) (ks : Fo), n ≤ 100000 → FoSl N w A c ks →
    Calls Tryz.prog 9 #[fval x A ks.len c, .int .i64 n] w fun e w' => e = .returned (.int .i64 (left1 x ks.tr n : Nat)) ∧ Fr Nob w w' := by
  intro n
  induction n using Nat.strongRecOn with
  | _ n ih =>
    intro N w x A c ks hn hs
    have IH := Lib.hid ih
    have HS := Lib.hid hs
    have hmx : ks.len ≤ 9223372036854775807 := Nat.le_trans hs.ok.le (by have := hs.ok.max; unfold maxLen at this; exact this)
    clear ih hs
    unfold fval at *
    by_cases h0 : n = 0
    · subst h0
      have HR := Lib.hid (show left1 x ks.tr 0 = 0 by simp [left1])
      go_enter Tryz.func9, Tryz.ntmps9
      go_wp2_with fail
      go_ret
      rw [HR.out]
      exact ⟨rfl, (Fr.refl _ _).alloc _⟩
    · have hnI : ¬ (n : Int) ≤ 0 := by omega
      have hnI2 : (0 : Int) < n := by omega
      by_cases hnm : 40 < x.name.size
      · have hnm' : (40 : Int) < x.name.size := by omega
        have HR := Lib.hid (show left1 x ks.tr n = 0 by simp [left1, hnm])
        clear h0
        go_enter Tryz.func9, Tryz.ntmps9
        go_wp2_with fail
        go_ret
        rw [HR.out]
        exact ⟨rfl, (Fr.refl _ _).alloc _⟩
      · have hnm' : (x.name.size : Int) ≤ 40 := by omega
        have HR := Lib.hid (show left1 x ks.tr n = leftF ks.tr (n - 1) by simp [left1, hnm, h0])
        clear h0
        have e1 : (n : Int) - 1 = ((n - 1 : Nat) : Int) := by omega
        have E1 := Lib.hid e1
        clear e1
        go_enter Tryz.func9, Tryz.ntmps9
        go_wp2_with fail
        go_loopw [5, 6] (fun s i wr => ∃ k v : Nat, k ≤ ks.len ∧ i = .int .i64 k ∧ s = .int .i64 v ∧ v < n ∧ Hid (leftF (ks.get k).tr v = leftF ks.tr (n - 1)) ∧ Hid (Fr Nob w wr) ∧ Hid (Blk wr w.heap.size 28 #[.int .i64 x.op, .string x.name, .int .i64 x.cmp, .int .i64 x.val, .int .i64 x.lo, .int .i64 x.hi, .slice A ks.len c])) (fun _ i _ => ks.len - (intOf i).toNat)
        case atStart => exact ⟨0, n - 1, Nat.zero_le _, rfl, vint E1.out, by omega, Lib.hid (by rw [Fo.get_zero]), Lib.hid ((Fr.refl _ _).alloc _), Lib.hid (Blk.new _ _ _)⟩
        case round =>
          obtain ⟨k, v, hk, rfl, rfl, hvn, hle, hfr, hbx⟩ := hrel
          have c6 : wr.cell? ⟨w.heap.size, 6, none⟩ = some (.slice A ks.len c) := hbx.out.cell 6
          have hbl := Blk.lt hbx.out
          by_cases hlt : k < ks.len
          · have hI : (k : Int) < ks.len := by omega
            have hI3 : 0 ≤ (k : Int) := by omega
            by_cases hv0 : v = 0
            · have HE := Lib.hid (show leftF ks.tr (n - 1) = 0 by rw [← hle.out, hv0, leftF_zero])
              subst hv0
              clear hle
              go_wp2_with fail
              go_ret
              rw [HR.out, HE.out]
              exact ⟨rfl, hfr.out⟩
            · have hvI : (0 : Int) < v := by omega
              obtain ⟨b, off, y, B, d, js, rs, K⟩ := (HS.out.fr hfr.out).kid hlt
              obtain ⟨d0, d1, d2, d3, d4, d5, d6⟩ := K.nd
              obtain rfl := K.slice
              have hlt2 := K.lt
              have hg := K.get
              have hg2 := Fo.get_succ hg
              have HC := Lib.hid (IH.out v hvn N wr y B d js (by omega) K.sl)
              have HE := Lib.hid (show leftF (ks.get (k + 1)).tr (left1 y js.tr v) = leftF ks.tr (n - 1) by
                rw [← hle.out, hg, hg2]; simp only [Fo.tr, leftF]; rw [if_neg hv0]; unfold left1; by_cases hy : 40 < y.name.size <;> simp [hy, hv0])
              have hlv : left1 y js.tr v < n := by
                have : left1 y js.tr v ≤ v := by unfold left1; split; omega; have := leftF_le js.tr (v - 1); omega
                omega
              clear hg hg2 K hv0
              generalize left1 y js.tr v = u at *
              go_wp2_with ((go_at_call 9); refine (HC.out).mono ?_; rintro e w1 ⟨rfl, hf⟩)
              go_roundw
              case rel => exact ⟨k + 1, u, by omega, by go_num, rfl, hlv, HE, Lib.hid (hfr.out.call hf (fun _ h _ => h)), Lib.hid (hbx.out.fr hf (fun e => e))⟩
              case measure => simp [intOf]; omega
          · have HE := Lib.hid (show leftF ks.tr (n - 1) = v by rw [← hle.out, Fo.get_end (by omega)]; rfl)
            go_wp2_with fail
            go_ret
            rw [HR.out, HE.out]
            exact ⟨rfl, hfr.out⟩
end Go.Proofs.YtoegdmpmagbaiaaGreatDoor

/- A range over a function whose iterator keeps cells of its own: what the caller owes. (The library's laws ask that an iterator turn no cells.) -/
namespace Go.Proofs.YtoegdmpmagbaiaaGreatDoor
open Go.RowKit Go.Shelf

/-- J says nothing of what is laid from block B on. -/
def Far {β : Type} (B : Nat) (J : β → World → Prop) : Prop := ∀ s W W' row, J s W → W.grownBy W' row → (∀ r, row = some r → B ≤ r) → J s W'
theorem Far.put {β : Type} {B : Nat} {J : β → World → Prop} (h : Far B J) {s : β} {W : World} {l : Nat} (o : Obj) (hs : J s W) (hl : B ≤ l) : J s (W.putObj l o) :=
  h s W _ (some l) hs (grownBy_putObj' W l o) (fun r e => by cases e; exact hl)
theorem Far.alloc {β : Type} {B : Nat} {J : β → World → Prop} (h : Far B J) {s : β} {W : World} (o : Obj) (hs : J s W) : J s (W.alloc o) :=
  h s W _ none hs (World.grownBy_alloc W o none) (fun r e => by cases e)
theorem Far.and {β : Type} {B : Nat} {J K : β → World → Prop} (h : Far B J) (k : Far B K) : Far B (fun s W => J s W ∧ K s W) := fun s W W' row hs hg hr => ⟨h s W W' row hs.1 hg hr, k s W W' row hs.2 hg hr⟩
theorem Far.mono {β : Type} {B C : Nat} {J : β → World → Prop} (h : Far B J) (hc : B ≤ C) : Far C J := fun s W W' row hs hg hr => h s W W' row hs hg fun r e => Nat.le_trans hc (hr r e)
theorem far_block {β : Type} {B k : Nat} {o : Obj} (hk : k < B) : Far B (fun (_ : β) W => W.heap[k]? = some o) := fun _ _ _ _ hs hg hr =>
  (hg.block k (Array.getElem?_eq_some_iff.1 hs).1 (fun e => by have := hr k e.symm; omega)).trans hs
theorem far_below {β : Type} {B m : Nat} {w0 : World} (hm : m ≤ w0.heap.size) (hB : m ≤ B) : Far B (fun (_ : β) W => Below m w0 W) := fun _ _ _ _ hs hg hr =>
  hs.grown hg (Nat.le_trans hm hs.size) (fun k e => Nat.le_trans hB (hr k e))
theorem far_pure {β : Type} {B : Nat} {J : β → Prop} : Far B (fun s _ => J s) := fun _ _ _ _ hs _ _ => hs

/-- What a round keeps: all cells but those of the blocks S. -/
def KpS (S : Nat → Prop) (W W' : World) : Prop := W.heap.size ≤ W'.heap.size ∧ ∀ k o, W.heap[k]? = some o → o.isCells = true → ¬ S k → W'.heap[k]? = some o
theorem KpS.refl (S : Nat → Prop) (W : World) : KpS S W W := ⟨Nat.le_refl _, fun _ _ h _ _ => h⟩
theorem KpS.trans {S : Nat → Prop} {A B C : World} (h : KpS S A B) (k : KpS S B C) : KpS S A C := ⟨Nat.le_trans h.1 k.1, fun i o hi hc hn => k.2 i o (h.2 i o hi hc hn) hc hn⟩
theorem KpS.put {S : Nat → Prop} (W : World) (l : Nat) (o o' : Obj) (h : W.heap[l]? = some o) (hc : o.isCells = false) : KpS S W (W.putObj l o') :=
  ⟨by simp, fun _ q hk hq _ => (World.putObj_heap_other (fun e => by subst e; rw [h] at hk; cases hk; rw [hc] at hq; cases hq)).trans hk⟩
theorem KpS.fr {S : Nat → Prop} {W W' : World} (h : Fr S W W') : KpS S W W' := ⟨h.size, fun k _ hk _ hn => (h.block k (Array.getElem?_eq_some_iff.1 hk).1 hn).trans hk⟩

variable {F : Fence} {n : Nat} {P : Program}
/-- What an iterator owes that may turn cells that it has laid itself. -/
def SeqFar {α : Type} (F : Fence) (n : Nat) (P : Program) (g : Nat) (lb : Array Value) (encs : α → Array Value) (S : Nat → Prop) (xs : List α) (w : World) : Prop :=
  ∀ (l : Nat) (J Jx : List α → World → Prop) (W : World), Below w.heap.size w W → Far W.heap.size J → Far W.heap.size Jx →
    (∀ pre x W1, J pre W1 → pre ++ [x] <+: xs → YieldAt F (n - 1) P l (encs x) W1 fun e W' =>
      (e = .returned (.bool true) ∧ J (pre ++ [x]) W' ∧ KpS S W1 W' ∧ KeepsFrom W.heap.size W1 W') ∨ (e = .returned (.bool false) ∧ Jx (pre ++ [x]) W' ∧ KeepsFrom W.heap.size W1 W')) →
    J [] W →
    CallsIn F n P g (#[.func (.yield l) #[] #[]] ++ lb) W fun e W' => (∃ v, e = .returned v) ∧ (J xs W' ∨ ∃ pre, pre <+: xs ∧ Jx pre W')

theorem range_farG {α : Type} {g : Operand} {ps : Array Tmp} {assign body : Code} {Q : Exit → Act → World → Prop} {a : Act} {w : World}
    (hro : F.round = none) (h1 : 1 ≤ n) {gf : Nat} {lb : Array Value} (hg : a.eval g = .func (.func gf) #[] lb) (hFg : F.fn gf) (eg : ∀ args w, (callFunc gf args).run P w = .ok (.enter gf args) w)
    {encs : α → Array Value} {S : Nat → Prop} {xs : List α} {w0 : World} (hseq : SeqFar F (n - 1) P gf lb encs S xs w0) (hb0 : Below w0.heap.size w0 w) (hps : ∀ x, (encs x).size = ps.size)
    (I : List α → World → Prop) (Ix : Code → List α → World → Prop) (hI : Far w.heap.size I) (hIx : ∀ c, Far w.heap.size (Ix c)) (h0 : I [] w) (a₁ : α → Act)
    (hassign : ∀ (l : Nat) (x : α) (W : World) (K : Act → World → Prop), K (a₁ x) W →
      assign.wpIn (F.inRound l) (n - 1 - 1) P (Exit.then K (fun _ _ _ => False)) { tmps := (ps.zip (encs x)).foldl (fun t (p, v) => t.setIfInBounds p v) a.tmps, defers := [] } W)
    (hbody : ∀ (l : Nat) (pre : List α) (x : α) (W : World), I pre W → pre ++ [x] <+: xs → body.wpIn (F.inRound l) (n - 1 - 1) P (ownPostG w.heap.size (KpS S) I Ix (pre ++ [x]) W) (a₁ x) W)
    (hdone : ∀ (D : Nat) (W : World), w.heap.size ≤ D → I xs W → W.heap[D]? = some (.deferred (some [])) → Q .normal { a with defers := { target := .collected D, args := #[] } :: a.defers } W)
    (hstop : ∀ (D : Nat) (c : Code) (pre : List α) (W : World), w.heap.size ≤ D → pre <+: xs → Ix c pre W → W.heap[D]? = some (.deferred (some [])) → c.wpIn F n P Q { a with defers := { target := .collected D, args := #[] } :: a.defers } W) :
    (Code.rangeFunc g ps assign body).wpIn F n P Q a w := by
  refine wpIn_rangeFunc fun fn hfn => ?_
  rw [hro]
  obtain ⟨B, hB⟩ : ∃ B, w.heap.size = B := ⟨_, rfl⟩
  obtain ⟨rec, hrec⟩ : ∃ rec : LoopState → Option Code → Loop, rec = fun st pe => { state := st, pending := pe, fn, tmps := a.tmps, params := ps, assign, body, defers := B } := ⟨_, rfl⟩
  obtain ⟨W1, hW1⟩ : ∃ W1, (w.alloc (.deferred (some []))).alloc (.loop (rec .ready none)) = W1 := ⟨_, rfl⟩
  have hsz : W1.heap.size = B + 2 := by rw [← hW1]; simp [hB]
  have hL1 : W1.heap[B + 1]? = some (.loop (rec .ready none)) := by
    have := World.alloc_heap_new (w.alloc (.deferred (some []))) (.loop (rec .ready none))
    rw [World.size_alloc, hB, hW1] at this; exact this
  have hK1 : W1.heap[B]? = some (.deferred (some [])) := by
    have h := World.alloc_heap_new w (.deferred (some []))
    rw [hB] at h
    rw [← hW1]; exact (Below.heap_alloc _ _ B (by simp [hB])).trans h
  rw [hB] at hI hIx
  have hI1 : I [] W1 := by rw [← hW1]; exact hI.alloc _ (hI.alloc _ h0)
  have hb1 : Below w0.heap.size w0 W1 := by
    have := hb0.size
    rw [← hW1]; exact (hb0.alloc (by omega) _).alloc (by simp; omega) _
  refine ⟨B + 1, [{ target := .collected B, args := #[] }], W1, { target := .fn (.func gf) lb, args := #[.func (.yield (B + 1)) #[] #[]] }, W1, gf,
    #[.func (.yield (B + 1)) #[] #[]] ++ lb, W1, ?_, ?_, ?_, ?_, fun _ => h1, ?_⟩
  · rw [← hW1, hrec, ← hB]; exact run_enterLoop_outer _ _ _ _ _
  · simp only [resolve, hg]
    simp [go_sem]
  · intro f' hf'; simp [Target.leads] at hf'; subst hf'; exact hFg
  · simp [invoke, go_sem, eg]
  let Jb : World → Prop := fun W => W.heap[B]? = some (.deferred (some []))
  refine (hseq (B + 1) (fun pre W => I pre W ∧ W.heap[B + 1]? = some (.loop (rec .ready none)) ∧ Jb W)
    (fun pre W => ∃ c, Ix c pre W ∧ W.heap[B + 1]? = some (.loop (rec .done (some c))) ∧ Jb W) W1 hb1
    ((hI.mono (by omega)).and ((far_block (by omega)).and (far_block (by omega)))) ?_ ?_ ⟨hI1, hL1, hK1⟩).mono ?_
  · rintro s A C row ⟨c, hc, hl, hk⟩ hgr hr
    exact ⟨c, (hIx c).mono (by omega) s A C row hc hgr hr, far_block (β := Unit) (by omega) () A C row hl hgr hr, far_block (β := Unit) (by omega) () A C row hk hgr hr⟩
  · rintro pre x W ⟨hi, hl, hk⟩ hpre
    have hlt : B + 1 < W.heap.size := (Array.getElem?_eq_some_iff.1 hl).1
    have hy := run_yield (P := P) (args := encs x) hl (by rw [hrec]; exact hps x)
    rw [hrec] at hy
    refine ⟨fn, _, assign, body, hy, roundIn_of_wpIn hfn (hassign _ x W _ ⟨_, run_beginRound hl (by rw [hrec]), ?_⟩)⟩
    obtain ⟨W2, hW2⟩ : ∃ W2, W.putObj (B + 1) (.loop { rec .ready none with state := .busy }) = W2 := ⟨_, rfl⟩
    rw [hW2]
    have hl2 : W2.heap[B + 1]? = some (.loop { rec .ready none with state := .busy }) := by rw [← hW2]; exact World.putObj_heap_same hlt
    have hk2 : Jb W2 := by rw [← hW2]; exact (World.putObj_heap_other (by omega)).trans hk
    have hw2 : KpS S W W2 := by rw [← hW2]; exact KpS.put _ _ _ _ hl rfl
    refine wpIn_mono (hbody _ pre x _ (by rw [← hW2]; exact hI.put _ hi (by omega)) hpre) ?_
    have fin : ∀ (jump : Option Code) (W3 : World), KeepsFrom w.heap.size W2 W3 →
        (Instr.endRound (B + 1) jump).run P W3 = .ok (.bool jump.isNone) (W3.putObj (B + 1) (.loop (rec (if jump.isNone then .ready else .done) jump))) ∧
        W3.heap[B + 1]? = some (.loop { rec .ready none with state := .busy }) ∧
        (W3.putObj (B + 1) (.loop (rec (if jump.isNone then .ready else .done) jump))).heap[B + 1]? = some (.loop (rec (if jump.isNone then .ready else .done) jump)) ∧
        Jb (W3.putObj (B + 1) (.loop (rec (if jump.isNone then .ready else .done) jump))) := fun jump W3 hk3 => by
      have hl3 := hk3.same _ _ (by omega) hl2 rfl
      have hr := run_endRound (P := P) jump hl3
      rw [hrec] at hr ⊢
      exact ⟨hr, by rw [hrec] at hl3; exact hl3, World.putObj_heap_same (Array.getElem?_eq_some_iff.1 hl3).1, (World.putObj_heap_other (by omega)).trans (hk3.same _ _ (by omega) hk2 rfl)⟩
    have keep : ∀ (W3 : World) (o : Obj), KeepsFrom w.heap.size W2 W3 → KeepsFrom W1.heap.size W (W3.putObj (B + 1) o) := fun W3 o hk3 => by
      have h1 : KeepsFrom W1.heap.size W W2 := by rw [← hW2]; exact KeepsFrom.of_grownBy (grownBy_putObj' _ _ _) (fun j e => by cases e; omega)
      have h2 : KeepsFrom W1.heap.size W2 W3 := ⟨hk3.size, fun k o hk => hk3.same k o (by omega)⟩
      exact (h1.trans h2).trans (KeepsFrom.of_grownBy (grownBy_putObj' _ _ _) (fun j e => by cases e; omega))
    rintro e a3 W3 hp
    cases e with
    | normal =>
      obtain ⟨hk3, hkp3, hi3⟩ := hp
      obtain ⟨hr, hl3, hl4, hk4⟩ := fin none W3 hk3
      exact ⟨_, _, hr, .inl ⟨rfl, ⟨hI.put _ hi3 (by omega), hl4, hk4⟩, (hw2.trans hkp3).trans (KpS.put _ _ _ _ hl3 rfl), keep _ _ hk3⟩⟩
    | ret =>
      obtain ⟨hk3, hi3⟩ := hp
      obtain ⟨hr, hl3, hl4, hk4⟩ := fin (some .ret) W3 hk3
      exact ⟨_, _, hr, .inr ⟨rfl, ⟨.ret, (hIx _).put _ hi3 (by omega), hl4, hk4⟩, keep _ _ hk3⟩⟩
    | exit id =>
      obtain ⟨hk3, hi3⟩ := hp
      obtain ⟨hr, hl3, hl4, hk4⟩ := fin (some (.exit id)) W3 hk3
      exact ⟨_, _, hr, .inr ⟨rfl, ⟨.exit id, (hIx _).put _ hi3 (by omega), hl4, hk4⟩, keep _ _ hk3⟩⟩
    | goto t =>
      obtain ⟨hk3, hi3⟩ := hp
      obtain ⟨hr, hl3, hl4, hk4⟩ := fin (some (.goto t)) W3 hk3
      exact ⟨_, _, hr, .inr ⟨rfl, ⟨.goto t, (hIx _).put _ hi3 (by omega), hl4, hk4⟩, keep _ _ hk3⟩⟩
    | panic ch => exact hp.elim
    | outgrown => exact hp.elim
  · rintro e W2 ⟨⟨v, rfl⟩, (⟨hi, hl, hk⟩ | ⟨pre, hpre, c, hi, hl, hk⟩)⟩
    · exact ⟨none, _, by have := run_endLoop (P := P) hl (by rw [hrec]; simp); rw [hrec] at this; exact this, hdone B _ (by omega) (hI.put _ hi (by omega)) ((World.putObj_heap_other (by omega)).trans hk)⟩
    · exact ⟨some c, _, by have := run_endLoop (P := P) hl (by rw [hrec]; simp); rw [hrec] at this; exact this, hstop B c pre _ (by omega) hpre ((hIx c).put _ hi (by omega)) ((World.putObj_heap_other (by omega)).trans hk)⟩
theorem range_far {α : Type} {g : Operand} {ps : Array Tmp} {assign body : Code} {Q : Exit → Act → World → Prop} {a : Act} {w : World}
    (hro : F.round = none) (h1 : 1 ≤ n) {gf : Nat} {lb : Array Value} (hg : a.eval g = .func (.func gf) #[] lb) (hFg : F.fn gf) (eg : ∀ args w, (callFunc gf args).run P w = .ok (.enter gf args) w)
    {encs : α → Array Value} {S : Nat → Prop} {xs : List α} {w0 : World} (hseq : SeqFar F (n - 1) P gf lb encs S xs w0) (hb0 : Below w0.heap.size w0 w) (hps : ∀ x, (encs x).size = ps.size)
    (I : List α → World → Prop) (Ix : Code → List α → World → Prop) (hI : Far w.heap.size I) (hIx : ∀ c, Far w.heap.size (Ix c)) (h0 : I [] w) (a₁ : α → Act)
    (hassign : ∀ (l : Nat) (x : α) (W : World) (K : Act → World → Prop), K (a₁ x) W →
      assign.wpIn (F.inRound l) (n - 1 - 1) P (Exit.then K (fun _ _ _ => False)) { tmps := (ps.zip (encs x)).foldl (fun t (p, v) => t.setIfInBounds p v) a.tmps, defers := [] } W)
    (hbody : ∀ (l : Nat) (pre : List α) (x : α) (W : World), I pre W → pre ++ [x] <+: xs → body.wpIn (F.inRound l) (n - 1 - 1) P (ownPostK (KpS S) I Ix (pre ++ [x]) W) (a₁ x) W)
    (hdone : ∀ (D : Nat) (W : World), w.heap.size ≤ D → I xs W → W.heap[D]? = some (.deferred (some [])) → Q .normal { a with defers := { target := .collected D, args := #[] } :: a.defers } W)
    (hstop : ∀ (D : Nat) (c : Code) (pre : List α) (W : World), w.heap.size ≤ D → pre <+: xs → Ix c pre W → W.heap[D]? = some (.deferred (some [])) → c.wpIn F n P Q { a with defers := { target := .collected D, args := #[] } :: a.defers } W) :
    (Code.rangeFunc g ps assign body).wpIn F n P Q a w :=
  range_farG hro h1 hg hFg eg hseq hb0 hps I Ix hI hIx h0 a₁ hassign (fun l pre x W hi hp => wpIn_mono (hbody l pre x W hi hp) ownPostG_of_ownPostK) hdone hstop
end Go.Proofs.YtoegdmpmagbaiaaGreatDoor
