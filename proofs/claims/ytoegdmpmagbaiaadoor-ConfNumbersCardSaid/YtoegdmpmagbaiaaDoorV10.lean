/- The map of settings that were there. -/
import Derived.Test.YtoegdmpmagbaiaaDoorV9
import Derived.MapKept
namespace Go.Proofs.YtoegdmpmagbaiaaDoor
open Go.RowKit Go.Lib

def keyV (k : Nat) : Value := strV (keysC.getD k [])
/-- The map at r holds the settings of S. -/
def MapC (w : World) (r : Nat) (S : List Nat) : Prop := ∃ es clock, w.heap[r]? = some (.map es clock) ∧ es.toList.map (·.key) = (S.reverse.map keyV) ∧ (∀ e ∈ es.toList, e.val = .bool true) ∧ ∀ k ∈ S, k < 7
theorem keyV_inj {k j : Nat} (hk : k < 7) (hj : j < 7) (h : keyV k = keyV j) : k = j := by
  have h1 : keysC.getD k [] = keysC.getD j [] := by
    unfold keyV strV at h
    injection h with h
    injection h with h
    exact List.toArray_inj h
  have e := congrArg keyC h1
  have f : ∀ k, k < 7 → keyC (keysC.getD k []) = k := by decide
  rw [f k hk, f j hj] at e
  exact e
theorem MapC.lt {w : World} {r : Nat} {S : List Nat} (h : MapC w r S) : r < w.heap.size := by
  obtain ⟨es, clock, h1, _⟩ := h
  exact (Array.getElem?_eq_some_iff.1 h1).1
theorem MapC.fr {P : Nat → Prop} {w w' : World} {r : Nat} {S : List Nat} (h : MapC w r S) (hf : Fr P w w') (hr : ¬ P r) : MapC w' r S := by
  have hlt := h.lt
  obtain ⟨es, clock, h1, h2⟩ := h
  exact ⟨es, clock, (hf.block r hlt hr).trans h1, h2⟩
theorem map_find {es : Array MapEntry} {S : List Nat} (h2 : es.toList.map (·.key) = S.reverse.map keyV) (h3 : ∀ e ∈ es.toList, e.val = .bool true) (h4 : ∀ k ∈ S, k < 7) {k : Nat} (hk : k < 7) :
    (k ∈ S → ∃ j, Instr.findNow .string (keyV k) es.toList 0 = some (some (j, .bool true))) ∧ (k ∉ S → Instr.findNow .string (keyV k) es.toList 0 = some none) := by
  have hks : ∀ x ∈ es.toList, Go.MapKept.IsKey .string x.key := by
    intro x hx
    have : x.key ∈ es.toList.map (·.key) := List.mem_map.2 ⟨x, hx, rfl⟩
    rw [h2] at this
    obtain ⟨j, _, hj⟩ := List.mem_map.1 this
    rw [← hj]
    trivial
  have hin : ∀ x ∈ es.toList, ∃ j ∈ S, x.key = keyV j := by
    intro x hx
    have : x.key ∈ es.toList.map (·.key) := List.mem_map.2 ⟨x, hx, rfl⟩
    rw [h2] at this
    obtain ⟨j, hj, e⟩ := List.mem_map.1 this
    exact ⟨j, List.mem_reverse.1 hj, e.symm⟩
  rcases Go.MapKept.findNow_spec (d := .string) (k := keyV k) trivial es.toList 0 hks with ⟨h5, h6⟩ | ⟨j, e, h5, h6, h7⟩
  · refine ⟨fun hm => ?_, fun _ => h5⟩
    have : keyV k ∈ es.toList.map (·.key) := by rw [h2]; exact List.mem_map.2 ⟨k, List.mem_reverse.2 hm, rfl⟩
    obtain ⟨x, hx, e⟩ := List.mem_map.1 this
    exact absurd e (h6 x hx)
  · have he := List.mem_of_getElem? h6
    refine ⟨fun _ => ⟨_, by rw [h5, h3 e he]⟩, fun hn => ?_⟩
    obtain ⟨i, hi, e2⟩ := hin e he
    rw [h7] at e2
    exact absurd (keyV_inj hk (h4 i hi) e2 ▸ hi) hn
theorem map_lookup {w : World} {r : Nat} {S : List Nat} (h : MapC w r S) {k : Nat} (hk : k < 7) : (Instr.lookup 73 (.map (some r)) (keyV k) false).run Tryd.prog w = .ok (.bool (decide (k ∈ S))) w := by
  obtain ⟨es, clock, h1, h2, h3, h4⟩ := h
  have hu : Tryd.prog.underlying 73 = some (.map 9 4) := by kernel_rfl
  have hd : Tryd.prog.underlying 9 = some .string := by kernel_rfl
  have hc := Go.MapKept.run_checkKey (P := Tryd.prog) (w := w) (k := keyV k) hd trivial es.isEmpty 9999
  have hz : (zeroValue 4).run Tryd.prog w = .ok (.bool false) w := by go_simp
  have hb2 := Go.MapKept.run_getObj_map (P := Tryd.prog) h1
  obtain ⟨f1, f2⟩ := map_find h2 h3 h4 hk
  unfold Instr.lookup
  by_cases hm : k ∈ S
  · obtain ⟨j, hj⟩ := f1 hm
    have hf := Go.MapKept.run_findKey (P := Tryd.prog) (w := w) hd hj
    simp only [Sem.run_bind, run_underlying hu, Result.andThen_ok, hb2, Sem.run_pure, hc, hf, hm]
    rfl
  · have hf := Go.MapKept.run_findKey (P := Tryd.prog) (w := w) hd (f2 hm)
    simp only [Sem.run_bind, run_underlying hu, Result.andThen_ok, hb2, Sem.run_pure, hc, hf, hz, hm]
    rfl
theorem map_update {w : World} {r : Nat} {S : List Nat} (h : MapC w r S) {k : Nat} (hk : k < 7) (hn : k ∉ S) :
    ∃ w', (Instr.mapUpdate 73 (.map (some r)) (keyV k) (.bool true)).run Tryd.prog w = .ok () w' ∧ MapC w' r (k :: S) ∧ Fr (Only r) w w' := by
  obtain ⟨es, clock, h1, h2, h3, h4⟩ := h
  have hu : Tryd.prog.underlying 73 = some (.map 9 4) := by kernel_rfl
  have hd : Tryd.prog.underlying 9 = some .string := by kernel_rfl
  have hc := Go.MapKept.run_checkKey (P := Tryd.prog) (w := w) (k := keyV k) hd trivial false 9999
  have hb2 := Go.MapKept.run_getObj_map (P := Tryd.prog) h1
  have hlt : r < w.heap.size := (Array.getElem?_eq_some_iff.1 h1).1
  have hf := Go.MapKept.run_findKey (P := Tryd.prog) (w := w) hd ((map_find h2 h3 h4 hk).2 hn)
  refine ⟨{ w with heap := w.heap.setIfInBounds r (.map (es.push { key := keyV k, val := .bool true, born := clock }) (clock + 1)) }, ?_, ?_, ?_⟩
  · unfold Instr.mapUpdate
    simp only [Sem.run_bind, run_underlying hu, Result.andThen_ok, hb2, hc, hf]
    exact Go.MapKept.run_setObj_map _ h1
  · refine ⟨es.push { key := keyV k, val := .bool true, born := clock }, clock + 1, by simp [hlt], ?_, ?_, ?_⟩
    · rw [Array.toList_push, List.map_append, h2]
      simp
    · intro e he
      rw [Array.toList_push] at he
      rcases List.mem_append.1 he with he | he
      · exact h3 e he
      · simp only [List.mem_singleton] at he
        subst he; rfl
    · intro j hj
      rcases List.mem_cons.1 hj with rfl | hj
      · exact hk
      · exact h4 j hj
  · exact ⟨rfl, rfl, rfl, by simp, fun q hq hn => by
      show (w.heap.setIfInBounds r _)[q]? = _
      rw [Array.getElem?_setIfInBounds, if_neg (fun e => hn e.symm)]⟩
end Go.Proofs.YtoegdmpmagbaiaaDoor
