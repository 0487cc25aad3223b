/- A number's digits: in plain words, and the reference's walk. -/
import Derived.Test.YtfebkjoohnlifaaDoorMem
import Derived.Laws.BytesArg
import Derived.IntWalk
namespace Go.Proofs.YtfebkjoohnlifaaDoor
open Go.RowKit

def dgt (k : Nat) : UInt8 := UInt8.ofNat (48 + k)
/-- A number's digits. -/
def dgF : Nat → Nat → List UInt8
  | 0, u => [dgt (u % 10)]
  | n + 1, u => if u < 10 then [dgt u] else dgF n (u / 10) ++ [dgt (u % 10)]
def dg (u : Nat) : List UInt8 := dgF u u
theorem dgF_fuel : ∀ (n m u : Nat), u ≤ n → u ≤ m → dgF n u = dgF m u
  | 0, 0, _, _, _ => rfl
  | 0, m + 1, u, h, _ => by
    have : u = 0 := by omega
    subst this; rfl
  | n + 1, 0, u, _, h => by
    have : u = 0 := by omega
    subst this; rfl
  | n + 1, m + 1, u, hn, hm => by
    unfold dgF
    by_cases h : u < 10
    · rw [if_pos h, if_pos h]
    · rw [if_neg h, if_neg h, dgF_fuel n m (u / 10) (by omega) (by omega)]
theorem dg_small {u : Nat} (h : u < 10) : dg u = [dgt u] := by
  unfold dg
  cases u with
  | zero => rfl
  | succ n => unfold dgF; rw [if_pos h]
theorem dg_big {u : Nat} (h : ¬ u < 10) : dg u = dg (u / 10) ++ [dgt (u % 10)] := by
  unfold dg
  cases u with
  | zero => omega
  | succ n =>
    rw [dgF, if_neg h, dgF_fuel n ((n + 1) / 10) _ (by omega) (Nat.le_refl _)]
theorem dg_ind {p : Nat → Prop} (h1 : ∀ u, u < 10 → p u) (h2 : ∀ u, ¬ u < 10 → p (u / 10) → p u) : ∀ u, p u := by
  intro u
  induction u using Nat.strongRecOn with
  | _ u ih =>
    by_cases h : u < 10
    · exact h1 u h
    · exact h2 u h (ih _ (by omega))
theorem dg_len (u : Nat) : ∀ k, 1 ≤ k → u < 10 ^ k → (dg u).length ≤ k := by
  refine dg_ind (p := fun u => ∀ k, 1 ≤ k → u < 10 ^ k → (dg u).length ≤ k) (fun u h k hk _ => by rw [dg_small h]; simpa using hk) (fun u h ih k hk hu => ?_) u
  rw [dg_big h, List.length_append, List.length_singleton]
  obtain ⟨m, rfl⟩ : ∃ m, k = m + 1 := ⟨k - 1, by omega⟩
  rcases Nat.eq_zero_or_pos m with rfl | hm
  · simp at hu; omega
  · have := ih m hm (by rw [Nat.pow_succ] at hu; omega)
    omega
def digsI (n : Int) : List UInt8 := if n < 0 then 45 :: dg n.natAbs else dg n.natAbs

theorem str_cons (d : Int) (acc : List UInt8) : strOfNums [d] ++ ⟨acc.toArray⟩ = ⟨(UInt8.ofNat d.toNat :: acc).toArray⟩ := by
  apply ByteArray.ext
  simp [strOfNums]
theorem str_45 (l : List UInt8) : ByteArray.mk #[45] ++ ByteArray.mk l.toArray = ⟨(45 :: l).toArray⟩ := by
  apply ByteArray.ext
  simp
theorem dgt_I (v : Nat) : UInt8.ofNat (48 + (v : Int)).toNat = dgt v := by unfold dgt; congr 1
theorem dgt_I2 (v : Nat) : UInt8.ofNat (48 + (v : Int) % 10).toNat = dgt (v % 10) := by unfold dgt; congr 1
def Dg (u : Nat) (v : Nat) (acc : List UInt8) : Prop := dg u = dg v ++ acc
theorem Dg.few {u v : Nat} {acc : List UInt8} (h : Dg u v acc) (hu : u < 18446744073709551616) : acc.length ≤ 20 := by
  have h1 := dg_len u 20 (by omega) (by omega)
  have h2 := congrArg List.length h
  rw [List.length_append] at h2
  omega
end Go.Proofs.YtfebkjoohnlifaaDoor
