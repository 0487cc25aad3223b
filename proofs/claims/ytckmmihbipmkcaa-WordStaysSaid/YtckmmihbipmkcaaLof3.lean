/- slices.Compact at propositions. -/
import Derived.Test.YtckmmihbipmkcaaLof2
import Derived.Lib.SlicesCompact
import Derived.Laws.StructEq
namespace Go.Proofs.Ytckmmihbipmkcaa
open Go.RowKit Go.Sort Go.Shelf Go.Lib

def ppeq (x y : PP) : Bool := x.name.toList == y.name.toList && x.value == y.value
theorem ppeq_iff (x y : PP) : ppeq x y = true ↔ x = y := by
  unfold ppeq
  rw [ByteArray.toList_eq, ByteArray.toList_eq]
  constructor
  · intro h
    simp only [Bool.and_eq_true, beq_iff_eq] at h
    exact pp_ext h.1 h.2
  · rintro rfl; simp
instance : DecidableEq PP := fun x y => if h : ppeq x y = true then isTrue ((ppeq_iff x y).1 h) else isFalse fun e => h ((ppeq_iff x y).2 e)

theorem pp_eql (x y : PP) (w : World) : Sem.run Try.prog (binOp .eql 51 (.agg #[.string x.name, .int .i64 x.value]) (.agg #[.string y.name, .int .i64 y.value])) w = .ok (.bool (ppeq x y)) w := by
  have hS : Try.prog.underlying 51 = some (.struct (Try.prog.fieldsOf 51)) := by kernel_rfl
  have hp : Try.prog.stoodInHeld 51 = false := by kernel_rfl
  rw [run_eql_struct, show (10000 : Nat) = 9999 + 1 from rfl, run_equalIn_agg w 9999 51 _ _ hS hp]
  simp only [Program.fieldsOf, Try.underlying51]
  go_simp
  unfold ppeq
  by_cases h1 : x.name.toList = y.name.toList <;> by_cases h2 : x.value = y.value <;> simp [h1, h2]
theorem pp_neq (x y : PP) (w : World) : Sem.run Try.prog (binOp .neq 51 (.agg #[.string x.name, .int .i64 x.value]) (.agg #[.string y.name, .int .i64 y.value])) w = .ok (.bool (!ppeq x y)) w := by
  have hS : Try.prog.underlying 51 = some (.struct (Try.prog.fieldsOf 51)) := by kernel_rfl
  have hp : Try.prog.stoodInHeld 51 = false := by kernel_rfl
  rw [run_neq_struct, show (10000 : Nat) = 9999 + 1 from rfl, run_equalIn_agg w 9999 51 _ _ hS hp]
  simp only [Program.fieldsOf, Try.underlying51]
  go_simp
  unfold ppeq
  by_cases h1 : x.name.toList = y.name.toList <;> by_cases h2 : x.value = y.value <;> simp [h1, h2]
theorem pp_guard (op : BinOp) (a b : Operand) (x y : PP) (w : World) : Sem.run Try.prog (eqGuard op 51 a b (.agg #[.string x.name, .int .i64 x.value]) (.agg #[.string y.name, .int .i64 y.value])) w = .ok () w :=
  run_eqGuard_agg w op 51 a b _ _ (by kernel_rfl)
theorem Heads.cells {w : World} {b t : Nat} {cur : Array Value} {l : List PP} (h : Blk w b t cur) (hh : Heads cur l) {k : Nat} (hk : k < l.length) :
    w.cell? ⟨b, 0 + k * 2, none⟩ = some (.string l[k].name) ∧ w.cell? ⟨b, 0 + k * 2 + 1, none⟩ = some (.int .i64 l[k].value) := by
  have h0 := flat_get pcs 2 pcs_len l k 0 hk (by omega)
  have h1 := flat_get pcs 2 pcs_len l k 1 hk (by omega)
  rw [h.cell, h.cell, hh.get (by omega), hh.get (by omega), Nat.zero_add, ← Nat.add_zero (k * 2), h0, Nat.add_zero, h1]
  exact ⟨rfl, rfl⟩
theorem Heads.put {cur : Array Value} {l : List PP} (hh : Heads cur l) (hc : l.length * 2 ≤ cur.size) {k : Nat} (hk : k < l.length) (x : PP) :
    Heads ((cur.setIfInBounds (k * 2) (.string x.name)).setIfInBounds (k * 2 + 1) (.int .i64 x.value)) (l.set k x) := by
  unfold Heads
  apply List.ext_getElem?
  intro j
  by_cases hj : j < l.length * 2
  · have h2 := flat_get pcs 2 pcs_len (l.set k x) (j / 2) (j % 2) (by simp; omega) (by omega)
    rw [show j / 2 * 2 + j % 2 = j by omega] at h2
    rw [h2, List.getElem?_take_of_lt (by simpa using hj), Array.getElem?_toList, Array.getElem?_setIfInBounds, Array.getElem?_setIfInBounds, List.getElem_set]
    have h3 := flat_get pcs 2 pcs_len l (j / 2) (j % 2) (by omega) (by omega)
    rw [show j / 2 * 2 + j % 2 = j by omega] at h3
    by_cases hk2 : k = j / 2
    · rw [if_pos hk2]
      rcases Nat.mod_two_eq_zero_or_one j with h | h
      · rw [if_neg (by omega), if_pos (by omega), h, if_pos (by omega)]; rfl
      · rw [if_pos (by omega), h, if_pos (by simp; omega)]; rfl
    · rw [if_neg hk2, if_neg (by omega), if_neg (by omega), hh.get hj, h3]
  · rw [List.getElem?_eq_none (by simp; omega), List.getElem?_eq_none (by rw [flat_len pcs 2 pcs_len]; simp; omega)]
end Go.Proofs.Ytckmmihbipmkcaa
