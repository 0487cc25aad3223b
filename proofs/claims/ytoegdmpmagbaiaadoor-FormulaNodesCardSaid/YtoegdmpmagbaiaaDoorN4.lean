/- FormulaNodes' round: what stands behind it. -/
import Derived.Test.YtoegdmpmagbaiaaDoorN2
import Derived.Test.YtoegdmpmagbaiaaDoorFref
namespace Go.Proofs.YtoegdmpmagbaiaaDoor
open Go.RowKit Go.Shelf Go.Lib

def SN (G N0 : Nat) (k t : Nat) : Prop := k = G ∨ (N0 ≤ k ∧ t = 28)
/-- A round is over: what stands. -/
structure RoundOk (n : Int) (G nb : Nat) (W5 W6 : World) (k : Nat) (xs : List Value) (g cap : Nat) (W8 : World) : Prop where
  kf : KeepsFrom W5.heap.size W6 W8
  kp : KpT (SN G W5.heap.size) W6 W8
  fr : Fr (Only G) W5 W8
  own : W8.ownsRow W5.heap.size 28 7 (.slice (some ⟨g, 0, none⟩) (k + 1) cap) (k + 1) xs
  box : Blk W8 G 26 #[.slice (some ⟨g, 0, none⟩) (k + 1) cap]
  nbox : Blk W8 nb 5 #[.int .u8 n]
theorem round_ok {n : Int} {G nb k c' g cap : Nat} {A' : Option Addr} {W5 W6 W7 W8 : World} {o : Obj} {xs ys : List Value} (hG : G < W5.heap.size) (hnb : nb < G) (hfr : Fr (Only G) W5 W6) (hown : W6.ownsRow W5.heap.size 28 7 (.slice A' k c') k xs)
    (hgr : (W6.drew.alloc o).grownBy W7 (Value.slice A' k c').ownBlock) (hlies : (Value.slice A' k c').ownBlock = some g ∨ g = (W6.drew.alloc o).heap.size) (hn : Blk W6 nb 5 #[.int .u8 n])
    (h78 : Fr (fun j => j = g ∨ j = G) W7 W8) (hown8 : W8.ownsRow W5.heap.size 28 7 (.slice (some ⟨g, 0, none⟩) (k + 1) cap) (k + 1) ys) (hbox : Blk W8 G 26 #[.slice (some ⟨g, 0, none⟩) (k + 1) cap]) :
    RoundOk n G nb W5 W6 k ys g cap W8 := by
  have h67 : Fr (fun j => (Value.slice A' k c').ownBlock = some j) W6 W7 := ((Fr.refl _ W6).drew.alloc o).grown hgr (fun j hj _ => hj)
  have hob : ∀ j, (Value.slice A' k c').ownBlock = some j → W5.heap.size ≤ j ∧ ∃ cur f, W6.heap[j]? = some (.cells cur 28 f) := fun j hj => by
    refine ⟨(hown.lt j hj).1, ?_⟩
    rcases hown.2 with ⟨h2, _⟩ | ⟨g', cap', cur, hv, hb, hg, _⟩
    · rw [h2] at hj; cases hj
    · rw [hv] at hj
      simp [Value.ownBlock] at hj
      subst hj
      exact ⟨cur, _, hg⟩
  have hs6 := hfr.size
  have hs7 := h67.size
  have hs8 := h78.size
  have hgs : (Value.slice A' k c').ownBlock = some g ∨ W6.heap.size ≤ g := by
    rcases hlies with h | h
    · exact .inl h
    · right; rw [h]; simp
  have keep : ∀ j ob, W6.heap[j]? = some ob → j ≠ G → (Value.slice A' k c').ownBlock ≠ some j → W8.heap[j]? = some ob := fun j ob hj h1 h2 => by
    have hlt := (Array.getElem?_eq_some_iff.1 hj).1
    rw [h78.block j (by omega) (fun e => by
      rcases e with rfl | e
      · rcases hgs with h | h
        · exact h2 h
        · omega
      · exact h1 e), h67.block j hlt h2]
    exact hj
  refine ⟨⟨by omega, fun j ob hB hj hc => keep j ob hj (by omega) (fun e => by
      obtain ⟨_, cur, f, hh⟩ := hob j e
      rw [hj] at hh; cases hh; cases hc)⟩, ⟨by omega, fun j cs t f hj hS => keep j _ hj (fun e => hS (.inl e)) (fun e => by
      obtain ⟨h1, cur, f', hh⟩ := hob j e
      rw [hj] at hh; cases hh
      exact hS (.inr ⟨h1, rfl⟩))⟩, ?_, hown8, hbox, keep nb _ hn (by omega) (fun e => by have := (hob nb e).1; omega)⟩
  refine (hfr.call h67 (fun j e hlt => by have := (hob j e).1; omega)).call h78 (fun j e hlt => ?_)
  rcases e with rfl | e
  · rcases hgs with h | h
    · have := (hob _ h).1; omega
    · omega
  · exact e
end Go.Proofs.YtoegdmpmagbaiaaDoor
