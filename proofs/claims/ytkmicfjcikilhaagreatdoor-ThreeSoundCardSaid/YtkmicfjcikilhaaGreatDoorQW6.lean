/- Words: the model's word with one more event. -/
import Derived.Test.YtkmicfjcikilhaaGreatDoorQW5b
namespace Go.Proofs.YtkmicfjcikilhaaGreatDoor
open Go.RowKit Go.Sort Go.Lib

theorem run_cut2 {P : Program} {t e : TypeId} {size bytes : Nat} (hE : ElemT P t e size bytes) (A : Option Addr) {n cap : Nat} (k : Nat) (hk : k ≤ cap) (W : World) :
    (Instr.slice t (.slice A n cap) none (some (.int .i64 k)) none).run P W = .ok (.slice A k cap) W := by
  obtain ⟨ht, _, i, z, hi, _, hsize, _, _⟩ := hE
  have he : P.elem t = e := by simp [Program.elem, ht]
  have ht' : P.underlying t = some (.slice (P.elem t)) := by rw [he]; exact ht
  rw [run_slice_h W t A n cap ht' .i64 k (by omega) (by omega), he]
  simp [sizeOf, typeInfo, hi, sliced, hsize]
  intro _
  cases A with
  | none => rfl
  | some a => simp [Addr.add]; (try (obtain ⟨b, o, s⟩ := a; cases s <;> rfl))
theorem Sl.pre {w : World} {size n cap : Nat} {A : Option Addr} {xs : List Value} (h : Sl w size A n cap xs) {k : Nat} (hk : k ≤ n) : Sl w size A k cap (xs.take (k * size)) := by
  refine ⟨by rw [List.length_take, h.len]; exact Nat.min_eq_left (Nat.mul_le_mul_right _ hk), by have := h.le; omega, h.max, h.nil, fun hn => ?_⟩
  obtain ⟨b, off, rfl, hb, hc⟩ := h.cells (by omega)
  refine ⟨b, off, rfl, hb, fun j u hu => hc j u ?_⟩
  rw [List.getElem?_take] at hu
  split at hu
  · exact hu
  · cases hu
theorem take_pnc : ∀ (ps : List Pn) (k : Nat), (ps.flatMap pnc).take (k * 2) = (ps.take k).flatMap pnc
  | [], _ => by simp
  | p :: ps, 0 => by simp
  | p :: ps, k + 1 => by
    have h := take_pnc ps k
    rw [List.flatMap_cons, List.take_succ_cons, List.flatMap_cons, ← h, show (k + 1) * 2 = k * 2 + 1 + 1 by omega]
    rfl
def insJ (ps : List Pn) (k j : Nat) (q : Pn) : List Pn := ps.take k ++ q :: ps.drop j
theorem insJ_len {ps : List Pn} {k j : Nat} {q : Pn} (hk : k ≤ ps.length) : (insJ ps k j q).length = k + 1 + (ps.length - j) := by
  unfold insJ; rw [List.length_append, List.length_cons, List.length_take, List.length_drop]; omega
theorem insJ_sl {w w5 : World} {A A5 : Option Addr} {c c5 m : Nat} {ps : List Pn} {k j base T : Nat} {q : Pn} (hk : k ≤ ps.length) (hm : m = k + 1 + (ps.length - j)) (h : WSl w A c ps) (hq : Sl w5 2 q.A q.l.length q.c (q.l.flatMap pcs)) (hf : Fr Nob w w5)
    (hown : w5.ownsRow base T 2 (.slice A5 m c5) m ((ps.take k).flatMap pnc ++ (pnc q ++ (ps.drop j).flatMap pnc))) : m = (insJ ps k j q).length ∧ WSl w5 A5 c5 (insJ ps k j q) := by
  have e : m = (insJ ps k j q).length := by rw [insJ_len hk, hm]
  refine ⟨e, ?_, fun p hp => ?_⟩
  · have h1 := Sl.of_own hown
    rw [e] at h1
    have e2 : (insJ ps k j q).flatMap pnc = (ps.take k).flatMap pnc ++ (pnc q ++ (ps.drop j).flatMap pnc) := by unfold insJ; simp
    rw [e2]; exact h1
  · unfold insJ at hp
    rw [List.mem_append, List.mem_cons] at hp
    rcases hp with hp | rfl | hp
    · exact (h.inn p (List.mem_of_mem_take hp)).pure hf
    · exact hq
    · exact (h.inn p (List.mem_of_mem_drop hp)).pure hf
theorem pts_insJ {ps : List Pn} {k j : Nat} {q : Pn} : pts (insJ ps k j q) = (pts ps).take k ++ q.pt :: (pts ps).drop j := by
  unfold pts insJ; rw [List.map_append, List.map_cons, List.map_take, List.map_drop]
def RPut (w : World) (q : List Pt × Nat × Bool) (e : Ending) (w' : World) : Prop := ∃ (A' : Option Addr) (c' : Nat) (qs : List Pn), e = .returned (.tuple #[.slice A' qs.length c', .int .i64 q.2.1, .bool q.2.2]) ∧ pts qs = q.1 ∧ WSl w' A' c' qs ∧ Fr Nob w w'
/-- Blocks outside a stretch. -/
def Mid (lo hi : Nat) (i : Nat) : Prop := i < lo ∨ hi ≤ i
end Go.Proofs.YtkmicfjcikilhaaGreatDoor
