/- ThreeGrows: what is known stays so under a later mark, and with later events. -/
import Derived.Test.YtkmicfjcikilhaaGreatDoorQH34
import Derived.Test.YtkmicfjcikilhaaGreatDoorQH36
namespace Go.Proofs.YtkmicfjcikilhaaGreatDoor
open Go.RowKit Go.Lib

def oldL (W V : List Pt) (z : List Int) (n : Nat) : List Int := (List.range n).map fun i => xAt z (fromI V (tAt W i))
theorem oldL_len (W V : List Pt) (z : List Int) (n : Nat) : (oldL W V z n).length = n := by simp [oldL]
theorem oldL_snoc (W V : List Pt) (z : List Int) (n : Nat) : oldL W V z (n + 1) = oldL W V z n ++ [xAt z (fromI V (tAt W n))] := by
  unfold oldL; rw [List.range_succ, List.map_append]; rfl
theorem oldL_at (W V : List Pt) (z : List Int) {n i : Nat} (hi : i < n) : xAt (oldL W V z n) i = xAt z (fromI V (tAt W i)) := by
  unfold oldL
  show ((List.range n).map _).getD i 0 = _
  rw [List.getD_eq_getElem?_getD, List.getElem?_map, List.getElem?_range hi]
  rfl
def oldV (W V : List Pt) (z : List Int) (n : Nat) : List Value := (oldL W V z n).map ivI
theorem oldV_nil (W V : List Pt) (z : List Int) : oldV W V z 0 = [] := rfl
theorem oldV_snoc (W V : List Pt) (z : List Int) (n : Nat) : oldV W V z (n + 1) = oldV W V z n ++ [ivI (xAt z (fromI V (tAt W n)))] := by
  unfold oldV; rw [oldL_snoc, List.map_append]; rfl
theorem iv_one (v : Int) : ∀ u ∈ [ivI v], u.oneCell' = true := by intro u hu; simp at hu; subst hu; rfl
theorem rowA_len {x : Nd} {t : Tr} {W : List Pt} {mark : Int} (hg : firstW ((Tr.cons x t .nil).nodes 1) = 0) (hr : wRightB W = true) (hm : -1 ≤ mark) : (rowA x t W mark).length = W.length := by
  unfold rowA; rw [if_pos ⟨hg, hr, hm⟩, rowS_len]
theorem rowA_later {x : Nd} {t : Tr} {W : List Pt} {mark later : Int} (hg : firstW ((Tr.cons x t .nil).nodes 1) = 0) (hr : wRightB W = true) (h63 : ∀ p ∈ W, p.1 ≤ last63) (hm : -1 ≤ mark) (hl : mark ≤ later) {i : Nat} (hi : i < W.length) : xAt (rowA x t W mark) i = 2 ∨ xAt (rowA x t W mark) i = xAt (rowA x t W later) i := by
  unfold rowA
  rw [if_pos ⟨hg, hr, hm⟩, if_pos ⟨hg, hr, Int.le_trans hm hl⟩]
  exact rowS_grow (ext_id (rise_pts hr h63) mark) hl (madeS x t) hi
theorem rowA_more {x : Nd} {t : Tr} {W V : List Pt} {mark : Int} (hg : firstW ((Tr.cons x t .nil).nodes 1) = 0) (hr : wRightB W = true) (h63 : ∀ p ∈ W, p.1 ≤ last63) (hm : -1 ≤ mark) (hV : LateW W V mark) {i : Nat} (hi : i < W.length) : xAt (rowA x t W mark) i = 2 ∨ xAt (rowA x t W mark) i = xAt (oldL W V (rowA x t V mark) W.length) i := by
  rw [oldL_at _ _ _ hi]
  unfold rowA
  rw [if_pos ⟨hg, hr, hm⟩, if_pos ⟨hg, hV.right, hm⟩]
  exact row_more hV hr h63 (madeS x t) hi
theorem pts63 {ps : List Pn} (h63 : ∀ p ∈ ps, p.t ≤ last63) : ∀ p ∈ pts ps, p.1 ≤ last63 := fun p hp => by
  unfold pts at hp
  rw [List.mem_map] at hp
  obtain ⟨q, hq, rfl⟩ := hp
  exact h63 q hq
theorem pn63 {qs : List Pn} {V : List Pt} (hq : pts qs = V) (h63 : ∀ p ∈ V, p.1 ≤ last63) : ∀ p ∈ qs, p.t ≤ last63 := fun p hp => by
  have := h63 p.pt (by rw [← hq]; exact List.mem_map_of_mem hp)
  exact this
/-- The word with the later events: where it lies, and what may be asked of it. -/
structure MoreP (W V : List Pt) (mark : Int) : Prop where
  late : LateW W V mark
  right : wRightB V = true
  bnd : BndW V 26 110
  hi : ∀ p ∈ V, p.1 ≤ last63
theorem MoreP.nm {W V : List Pt} {mark : Int} (h : MoreP W V mark) {qs : List Pn} (hq : pts qs = V) : NmW qs ∧ qs.length ≤ 26 ∧ ∀ p ∈ qs, p.t ≤ last63 := by
  have hb := h.bnd
  rw [← hq] at hb
  obtain ⟨h1, h2⟩ := bnd_pn hb
  exact ⟨fun p hp y hy => by have := (h2 p hp).2 y hy; omega, h1, pn63 hq h.hi⟩
theorem MoreP.from_ {W V : List Pt} {mark : Int} (h : MoreP W V mark) (hr : wRightB W = true) (h63 : ∀ p ∈ W, p.1 ≤ last63) {i : Nat} (hi : i < W.length) : fromI V (tAt W i) < V.length := (h.late.ext hr h63).lt i hi
set_option maxRecDepth 100000 in
set_option maxHeartbeats 4000000 in
theorem more_From (w : World) {W V : List Pt} {mark : Int} (h : MoreP W V mark) (A : Option Addr) (c : Nat) (qs : List Pn) (hq : pts qs = V) (hw : WSl w A c qs) (t : Int) :
    Calls Tryz.prog 13 #[.slice A qs.length c, .int .i64 t] w fun e w' => e = .returned (.int .i64 (fromI V t : Nat)) ∧ Fr Nob w w' := by
  have h1 := h.nm hq
  have h2 := wd_From w A c qs t hw h1.1 (by omega)
  rw [hq] at h2
  unfold fromW at h2
  rwa [if_pos h.right] at h2
end Go.Proofs.YtkmicfjcikilhaaGreatDoor
