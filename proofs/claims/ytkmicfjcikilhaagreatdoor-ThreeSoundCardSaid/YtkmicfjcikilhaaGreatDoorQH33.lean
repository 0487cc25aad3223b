/- horizon: how far a formula looks ahead. -/
import Derived.Test.YtkmicfjcikilhaaGreatDoorQH22
import Derived.Test.YtkmicfjcikilhaaGreatDoorQFcheck
namespace Go.Proofs.YtkmicfjcikilhaaGreatDoor
open Go.RowKit Go.Lib

def sadd (a b : Int) : Int × Bool :=
  if 9223372036854775807 < a + b then (9223372036854775807, true)
  else if a + b < -9223372036854775808 then (-9223372036854775808, true) else (a + b, false)
theorem sadd_I64 (a b : Int) : I64 (sadd a b).1 := by
  unfold sadd I64
  split
  · simp
  · split
    · simp
    · simp; omega
theorem sadd_hi {a b : Int} (ha : I64 a) (hb : I64 b) (h : 0 < b) (h' : wrap64 (a + b) < a) : sadd a b = (9223372036854775807, true) := by
  unfold I64 at ha hb; unfold wrap64 at h'; unfold sadd; rw [if_pos (by omega)]
theorem sadd_lo {a b : Int} (ha : I64 a) (hb : I64 b) (h : b < 0) (h' : a < wrap64 (a + b)) : sadd a b = (-9223372036854775808, true) := by
  unfold I64 at ha hb; unfold wrap64 at h'; unfold sadd; rw [if_neg (by omega), if_pos (by omega)]
theorem sadd_mid {a b : Int} (ha : I64 a) (hb : I64 b) (h : 0 < b → a ≤ wrap64 (a + b)) (h' : b < 0 → wrap64 (a + b) ≤ a) : sadd a b = (wrap64 (a + b), false) := by
  unfold I64 at ha hb; unfold wrap64 at h h'; unfold wrap64 sadd
  rw [if_neg (by omega), if_neg (by omega)]
  congr 1
  omega
/-- What a node must be for its horizon. -/
def HzN (n : Nd) : Prop := HiN n ∧ I64 n.hi ∧ n.op ≤ 12
def FarR (x : Nd) (t : Tr) (w : World) (e : Ending) (w' : World) : Prop := ∃ h c, e = .returned (.tuple #[.int .i64 h, .bool c]) ∧ (c = false → h = far1 (x, t)) ∧ I64 h ∧ 0 ≤ h ∧ Fr Nob w w'
def HzI (t : Tr) (r : Tr) (most : Int) (cut : Bool) : Prop := (cut = false → max most (maxF r) = maxF t) ∧ 0 ≤ most ∧ I64 most
theorem get_len : ∀ (f : Fo), f.get f.len = .nil
  | .nil => rfl
  | .cons _ _ _ _ r => by simpa [Fo.get, Fo.len] using get_len r
theorem allN_get {Q : Nd → Prop} : ∀ {f : Fo} {k : Nat} {y : Nd} {B : Option Addr} {d : Nat} {js rs : Fo}, f.tr.allN Q → f.get k = .cons y B d js rs → Q y ∧ js.tr.allN Q
  | .nil, _, _, _, _, _, _, _, h => by simp [Fo.get] at h
  | .cons x A c ks r, 0, _, _, _, _, _, h0, h => by
    simp only [Fo.get, Fo.cons.injEq] at h
    obtain ⟨rfl, rfl, rfl, rfl, rfl⟩ := h
    exact ⟨h0.1, h0.2.1⟩
  | .cons x A c ks r, k + 1, _, _, _, _, _, h0, h => allN_get (f := r) (k := k) h0.2.2 (by simpa [Fo.get] using h)
theorem HzI.step {t r : Tr} {y : Nd} {j : Tr} {most h : Int} {cut c : Bool} (hi : HzI t (.cons y j r) most cut) (hc : c = false → h = far1 (y, j)) (h0 : 0 ≤ h) (h64 : I64 h) : HzI t r (max most h) (cut || c) := by
  obtain ⟨a, b, d⟩ := hi
  unfold I64 at *
  refine ⟨fun e => ?_, by omega, by omega, by omega⟩
  rw [Bool.or_eq_false_iff] at e
  have h1 := a e.1
  rw [maxF_cons, ← hc e.2] at h1
  omega
end Go.Proofs.YtkmicfjcikilhaaGreatDoor
