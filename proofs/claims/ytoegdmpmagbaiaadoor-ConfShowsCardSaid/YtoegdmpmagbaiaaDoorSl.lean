/- More words for memory: a slice's tail, a row that is made. -/
import Derived.Test.YtoegdmpmagbaiaaDoorOpen
import Derived.Laws.MakeOwn
import Derived.Deep.RegionHeld3
import Derived.IntWalk
namespace Go.Proofs.YtoegdmpmagbaiaaDoor
open Go.RowKit

theorem add_addr (b off n : Nat) : (⟨b, off, none⟩ : Addr).add n = ⟨b, off + n, none⟩ := add_zero_addr b off n
theorem Sl.cut {w : World} {size n cap : Nat} {A : Option Addr} {xs : List Value} (h : Sl w size A n cap xs) {k : Nat} (hk : k ≤ n) :
    Sl w size (if cap = k then A else A.map (·.add (k * size))) (n - k) (cap - k) (xs.drop (k * size)) := by
  refine ⟨by rw [List.length_drop, h.len, Nat.sub_mul], by have := h.le; omega, by have := h.max; omega, fun e => ?_, fun hn => ?_⟩
  · have := h.le
    split at e
    · omega
    · cases A with
      | none => have := h.nil rfl; omega
      | some a => cases e
  · obtain ⟨b, off, rfl, hb, hc⟩ := h.cells (by omega)
    have := h.le
    rw [if_neg (by omega)]
    refine ⟨b, off + k * size, by simp [add_addr], hb, fun j u hu => ?_⟩
    rw [Nat.add_assoc]
    exact hc _ u (by rw [← hu, List.getElem?_drop])
theorem run_cut {P : Program} {t e : TypeId} {size bytes : Nat} (hE : ElemT P t e size bytes) (A : Option Addr) {n cap : Nat} (k : Nat) (hk : k ≤ n) (W : World) :
    (Instr.slice t (.slice A n cap) (some (.int .i64 k)) none none).run P W = .ok (.slice (if cap = k then A else A.map (·.add (k * size))) (n - k) (cap - k)) W := by
  obtain ⟨ht, _, i, z, hi, _, hsize, _, _⟩ := hE
  have he : P.elem t = e := by simp [Program.elem, ht]
  have ht' : P.underlying t = some (.slice (P.elem t)) := by rw [he]; exact ht
  rw [run_slice_l W t A n cap ht' .i64 k (by omega) (by omega), he]
  simp [sizeOf, typeInfo, hi, sliced, hsize]
theorem run_mk {P : Program} {t e : TypeId} {size bytes : Nat} (hE : ElemT P t e size bytes) (n : Nat) (c : Int) (hc : c = n) (hb : bytes * n ≤ 281474976710656) (h63 : n ≤ maxLen) :
    ∃ cs : Array Value, cs.size = n * size ∧ ∀ W : World, (Instr.makeSlice t (.int .i64 0) (.int .i64 c)).run P W = .ok (.slice (some ⟨W.heap.size, 0, none⟩) 0 n) (W.alloc (.cells cs e)) := by
  obtain ⟨ht, _, i, z, hi, hz, hsize, hby, _⟩ := hE
  subst hc
  refine ⟨madeCells z.cells (n * size), size_madeCells _ _, fun W => ?_⟩
  have hb' : (i.bytes : Int) * (n : Int) ≤ 281474976710656 := by
    rw [hby]
    have h : ((bytes * n : Nat) : Int) ≤ 281474976710656 := by omega
    rwa [Int.natCast_mul] at h
  have hr := run_make (P := P) W t e i z ht hi hz .i64 .i64 0 n (Int.le_refl _) (by omega) hb' (by unfold maxLen at h63; omega)
  simp only [Int.toNat_zero, Int.toNat_natCast, hsize] at hr
  exact hr
end Go.Proofs.YtoegdmpmagbaiaaDoor
