/- A number's digits: in plain words, and the reference's walk. -/
import Derived.Test.YtoegdmpmagbaiaaDoorMem
import Derived.Laws.BytesArg
import Derived.IntWalk
namespace Go.Proofs.YtoegdmpmagbaiaaDoor
open Go.RowKit

def dgt (k : Nat) : UInt8 := UInt8.ofNat (48 + k)
/-- A number's digits. -/
def dgF : Nat → Nat → List UInt8
  | 0, u => [dgt (u % 10)]
  | n + 1, u => if u < 10 then [dgt u] else dgF n (u / 10) ++ [dgt (u % 10)]
def dg (u : Nat) : List UInt8 := dgF u u
theorem dgF_fuel : ∀ (n m u : Nat), u ≤ n → u ≤ m → dgF n u = dgF m u
  | 0, 0, _, _, _ => rfl
  | 0, m + 1, u, h, _ => by
    have : u = 0 := by omega
    subst this; rfl
  | n + 1, 0, u, _, h => by
    have : u = 0 := by omega
    subst this; rfl
  | n + 1, m + 1, u, hn, hm => by
    unfold dgF
    by_cases h : u < 10
    · rw [if_pos h, if_pos h]
    · rw [if_neg h, if_neg h, dgF_fuel n m (u / 10) (by omega) (by omega)]
theorem dg_small {u : Nat} (h : u < 10) : dg u = [dgt u] := by
  unfold dg
  cases u with
  | zero => rfl
  | succ n => unfold dgF; rw [if_pos h]
theorem dg_big {u : Nat} (h : ¬ u < 10) : dg u = dg (u / 10) ++ [dgt (u % 10)] := by
  unfold dg
  cases u with
  | zero => omega
  | succ n =>
    rw [dgF, if_neg h, dgF_fuel n ((n + 1) / 10) _ (by omega) (Nat.le_refl _)]
theorem dg_ind {p : Nat → Prop} (h1 : ∀ u, u < 10 → p u) (h2 : ∀ u, ¬ u < 10 → p (u / 10) → p u) : ∀ u, p u := by
  intro u
  induction u using Nat.strongRecOn with
  | _ u ih =>
    by_cases h : u < 10
    · exact h1 u h
    · exact h2 u h (ih _ (by omega))
theorem dg_len (u : Nat) : ∀ k, 1 ≤ k → u < 10 ^ k → (dg u).length ≤ k := by
  refine dg_ind (p := fun u => ∀ k, 1 ≤ k → u < 10 ^ k → (dg u).length ≤ k) (fun u h k hk _ => by rw [dg_small h]; simpa using hk) (fun u h ih k hk hu => ?_) u
  rw [dg_big h, List.length_append, List.length_singleton]
  obtain ⟨m, rfl⟩ : ∃ m, k = m + 1 := ⟨k - 1, by omega⟩
  rcases Nat.eq_zero_or_pos m with rfl | hm
  · simp at hu; omega
  · have := ih m hm (by rw [Nat.pow_succ] at hu; omega)
    omega
def digsI (n : Int) : List UInt8 := if n < 0 then 45 :: dg n.natAbs else dg n.natAbs

theorem str_cons (d : Int) (acc : List UInt8) : strOfNums [d] ++ ⟨acc.toArray⟩ = ⟨(UInt8.ofNat d.toNat :: acc).toArray⟩ := by
  apply ByteArray.ext
  simp [strOfNums]
theorem str_45 (l : List UInt8) : ByteArray.mk #[45] ++ ByteArray.mk l.toArray = ⟨(45 :: l).toArray⟩ := by
  apply ByteArray.ext
  simp
theorem dgt_I (v : Nat) : UInt8.ofNat (48 + (v : Int)).toNat = dgt v := by unfold dgt; congr 1
theorem dgt_I2 (v : Nat) : UInt8.ofNat (48 + (v : Int) % 10).toNat = dgt (v % 10) := by unfold dgt; congr 1
def Dg (u : Nat) (v : Nat) (acc : List UInt8) : Prop := dg u = dg v ++ acc
theorem Dg.few {u v : Nat} {acc : List UInt8} (h : Dg u v acc) (hu : u < 18446744073709551616) : acc.length ≤ 20 := by
  have h1 := dg_len u 20 (by omega) (by omega)
  have h2 := congrArg List.length h
  rw [List.length_append] at h2
  omega
set_option maxHeartbeats 2000000 in
theorem ref_Digits (w : World) (n : Int) (hn : I64 n) : Calls Tryd.prog 24 #[.int .i64 n] w fun e w' => e = .returned (.string ⟨(digsI n).toArray⟩) ∧ Fr Nob w w' := by
  unfold I64 at hn
  obtain ⟨n1, n2⟩ := hn
  by_cases h : n < 0
  · obtain ⟨u, hu⟩ : ∃ u : Nat, n.natAbs = u := ⟨_, rfl⟩
    have HU := Lib.hid (show digsI n = 45 :: dg u by unfold digsI; rw [if_pos h, hu])
    have hub : u ≤ 9223372036854775808 := by omega
    have HE := Lib.hid (show -(n + 1) + 1 = (u : Int) by omega)
    clear hu
    go_enter Tryd.func24, Tryd.ntmps24
    go_wp2_with fail
    go_loopw [3, 4] (fun uv sv wr => ∃ (v : Nat) (acc : List UInt8), v ≤ 9223372036854775808 ∧ uv = .int .u64 v ∧ sv = .string ⟨acc.toArray⟩ ∧ Hid (Fr Nob w wr) ∧ Hid (Dg u v acc)) (fun uv _ _ => (intOf uv).toNat)
    case atStart => exact ⟨u, [], by omega, by first | rfl | exact vint (by have := HE.out; omega), rfl, Lib.hid (Fr.refl _ _), Lib.hid (by simp [Dg])⟩
    case round =>
      obtain ⟨v, acc, hv, rfl, rfl, hfr, hd⟩ := hrel
      have hcv := fun (W : World) (x : Int) => run_convert_bytes_arg (P := Tryd.prog) (W.alloc (.cells #[.int .u8 x] 5)) 93 5 Tryd.underlying93 Tryd.underlying5 W.heap.size 0 1 1 [x] rfl (fun i hi => by
        have : i = 0 := by omega
        subst this
        exact (Blk.new W _ _).cell 0) 9 Tryd.underlying9
      have hss : ∀ x : Int, (strOfNums [x]).size = 1 := fun _ => rfl
      have hfew := hd.out.few (by omega)
      by_cases h10 : v < 10
      · have hI : (v : Int) < 10 := by omega
        have HR := Lib.hid (show dg u = dgt v :: acc by rw [hd.out, dg_small h10]; rfl)
        go_wp2_with fail
        rw [str_cons, dgt_I]
        go_ret
        refine ⟨?_, by first | exact hfr.out.alloc _⟩
        rw [HU.out, HR.out]
        exact ret1 (by first | rfl | (rw [str_45]; rfl))
      · have hI : (10 : Int) ≤ v := by omega
        have HD := Lib.hid (show Dg u (v / 10) (dgt (v % 10) :: acc) by unfold Dg; rw [hd.out, dg_big h10]; simp)
        have m1 : 0 ≤ (v : Int) % 10 := by omega
        have m2 : (v : Int) % 10 < 10 := by omega
        go_wp2_with fail
        rw [str_cons, dgt_I2]
        go_roundw
        case rel => exact ⟨v / 10, _, by omega, rfl, rfl, Lib.hid (hfr.out.alloc _), HD⟩
        case measure => simp [intOf]; omega
  · have h0 : 0 ≤ n := by omega
    obtain ⟨u, rfl⟩ : ∃ u : Nat, n = u := ⟨n.toNat, by omega⟩
    have HU := Lib.hid (show digsI u = dg u by unfold digsI; rw [if_neg h]; rfl)
    clear h
    go_enter Tryd.func24, Tryd.ntmps24
    go_wp2_with fail
    go_loopw [3, 4] (fun uv sv wr => ∃ (v : Nat) (acc : List UInt8), v ≤ 9223372036854775808 ∧ uv = .int .u64 v ∧ sv = .string ⟨acc.toArray⟩ ∧ Hid (Fr Nob w wr) ∧ Hid (Dg u v acc)) (fun uv _ _ => (intOf uv).toNat)
    case atStart => exact ⟨u, [], by omega, by first | rfl | rfl, rfl, Lib.hid (Fr.refl _ _), Lib.hid (by simp [Dg])⟩
    case round =>
      obtain ⟨v, acc, hv, rfl, rfl, hfr, hd⟩ := hrel
      have hcv := fun (W : World) (x : Int) => run_convert_bytes_arg (P := Tryd.prog) (W.alloc (.cells #[.int .u8 x] 5)) 93 5 Tryd.underlying93 Tryd.underlying5 W.heap.size 0 1 1 [x] rfl (fun i hi => by
        have : i = 0 := by omega
        subst this
        exact (Blk.new W _ _).cell 0) 9 Tryd.underlying9
      have hss : ∀ x : Int, (strOfNums [x]).size = 1 := fun _ => rfl
      have hfew := hd.out.few (by omega)
      by_cases h10 : v < 10
      · have hI : (v : Int) < 10 := by omega
        have HR := Lib.hid (show dg u = dgt v :: acc by rw [hd.out, dg_small h10]; rfl)
        go_wp2_with fail
        rw [str_cons, dgt_I]
        go_ret
        refine ⟨?_, by first | exact hfr.out.alloc _⟩
        rw [HU.out, HR.out]
        exact ret1 (by first | rfl | (rw [str_45]; rfl))
      · have hI : (10 : Int) ≤ v := by omega
        have HD := Lib.hid (show Dg u (v / 10) (dgt (v % 10) :: acc) by unfold Dg; rw [hd.out, dg_big h10]; simp)
        have m1 : 0 ≤ (v : Int) % 10 := by omega
        have m2 : (v : Int) % 10 < 10 := by omega
        go_wp2_with fail
        rw [str_cons, dgt_I2]
        go_roundw
        case rel => exact ⟨v / 10, _, by omega, rfl, rfl, Lib.hid (hfr.out.alloc _), HD⟩
        case measure => simp [intOf]; omega
end Go.Proofs.YtoegdmpmagbaiaaDoor
