/- Numbers' digits: digits they are, their value, the first one. -/
import Derived.Test.YtoegdmpmagbaiaaDoorTplain
import Derived.Test.YtoegdmpmagbaiaaDoorDigs
namespace Go.Proofs.YtoegdmpmagbaiaaDoor
open Go.RowKit

theorem dgt_nat {k : Nat} (h : k < 10) : (dgt k).toNat = 48 + k := by
  unfold dgt
  rw [UInt8.toNat_ofNat']
  omega
theorem dgt_dig {k : Nat} (h : k < 10) : digB (dgt k) = true := by
  simp only [digB, dgt_nat h, Bool.and_eq_true, decide_eq_true_eq]
  omega
theorem dg_digs (u : Nat) : ∀ c ∈ dg u, digB c = true := by
  refine dg_ind (p := fun u => ∀ c ∈ dg u, digB c = true) (fun u h c hc => ?_) (fun u h ih c hc => ?_) u
  · rw [dg_small h] at hc
    simp only [List.mem_singleton] at hc
    subst hc
    exact dgt_dig h
  · rw [dg_big h] at hc
    rcases List.mem_append.1 hc with hc | hc
    · exact ih c hc
    · simp only [List.mem_singleton] at hc
      subst hc
      exact dgt_dig (by omega)
theorem dg_ne (u : Nat) : dg u ≠ [] := by
  refine dg_ind (p := fun u => dg u ≠ []) (fun u h => by rw [dg_small h]; simp) (fun u h _ => by rw [dg_big h]; simp) u
theorem dg_dec (u : Nat) : ddec 0 (dg u) = u := by
  refine dg_ind (p := fun u => ddec 0 (dg u) = u) (fun u h => ?_) (fun u h ih => ?_) u
  · rw [dg_small h]
    show dstep 0 (dgt u) = u
    unfold dstep
    rw [dgt_nat h]
    omega
  · rw [dg_big h, ddec_snoc, ih]
    unfold dstep
    rw [dgt_nat (by omega)]
    omega
theorem dg_head (u : Nat) : (dg u).head? = some 48 → u = 0 := by
  refine dg_ind (p := fun u => (dg u).head? = some 48 → u = 0) (fun u h e => ?_) (fun u h ih e => ?_) u
  · rw [dg_small h] at e
    simp only [List.head?_cons, Option.some.injEq] at e
    have := dgt_nat h
    rw [e] at this
    have h48 : UInt8.toNat 48 = 48 := rfl
    omega
  · rw [dg_big h] at e
    obtain ⟨c, r, hc⟩ := List.exists_cons_of_ne_nil (dg_ne (u / 10))
    rw [hc] at e ih
    have := ih e
    omega
end Go.Proofs.YtoegdmpmagbaiaaDoor
