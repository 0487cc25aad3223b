/- clear at a row of propositions. -/
import Derived.Test.YtckmmihbipmkcaaLof3
import Derived.Lib.SliceRun
namespace Go.Proofs.Ytckmmihbipmkcaa
open Go.RowKit Go.Sort Go.Shelf Go.Lib

theorem Blk.setCells {b t : Nat} : ∀ (L : List Value) (o : Nat) (w : World) (cur : Array Value), Blk w b t cur → ∃ cur', Blk (w.setCells b o L) b t cur' ∧ cur'.size = cur.size ∧ (∀ i, i < o → cur'[i]? = cur[i]?) ∧ Fr (Only b) w (w.setCells b o L)
  | [], _, w, cur, h => ⟨cur, h, rfl, fun _ _ => rfl, Fr.refl _ w⟩
  | v :: r, o, w, cur, h => by
    obtain ⟨cur', h1, h2, h3, h4⟩ := Blk.setCells r (o + 1) _ _ (h.set o v)
    refine ⟨cur', h1, by rw [h2]; simp, fun i hi => ?_, ((Fr.refl (Only b) w).setCell (p := ⟨b, o, none⟩) (fun _ => rfl) v).call h4 (fun _ e _ => e)⟩
    rw [h3 i (by omega), Array.getElem?_setIfInBounds, if_neg (by omega)]

theorem clear_PP {wr : World} {b t m c o : Nat} {cur : Array Value} (hb : Blk wr b t cur) (ho : o * 2 + m * 2 ≤ cur.size) (hm : 0 < m) :
    ∃ Z : List Value, ∀ ty, (Builtin.clear_ #[30] ty #[.slice (some ⟨b, o * 2, none⟩) m c]).run Try.prog wr = .ok (.tuple #[]) (wr.setCells b (o * 2) Z) := by
  have hv : ∀ w, (zeroValue 51).run Try.prog w = .ok (.agg #[.string default, .int .i64 0]) w := fun w => by kernel_rfl
  have hzl : (Builtin.zeroCells (Value.agg #[.string default, .int .i64 0]).cells m).toList.length = m * 2 := by simp [Builtin.zeroCells, Value.cells]
  refine ⟨(Builtin.zeroCells (Value.agg #[.string default, .int .i64 0]).cells m).toList, fun ty => ?_⟩
  have hst := run_storeCells_cells (P := Try.prog) b (o * 2) (Builtin.zeroCells (Value.agg #[.string default, .int .i64 0]).cells m).toList 0 wr
    (fun j hj => by rw [hb.cell, Array.getElem?_eq_getElem (by omega)]; rfl) (fun j _ => hb.frozen _) (fun v hv' => by
      simp only [Builtin.zeroCells, Value.cells, Array.toList_map, List.mem_map] at hv'
      obtain ⟨i, _, rfl⟩ := hv'
      have : i % 2 = 0 ∨ i % 2 = 1 := by omega
      simp only [List.size_toArray, List.length_cons, List.length_nil]
      rcases this with h | h <;> (simp only [Nat.zero_add, Nat.reduceAdd, h]; rfl))
  simp only [Nat.add_zero] at hst
  obtain ⟨n, rfl⟩ : ∃ n, m = n + 1 := ⟨m - 1, by omega⟩
  simp only [Builtin.clear_]
  simp [run_underlying Try.underlying30, hv, hst]
end Go.Proofs.Ytckmmihbipmkcaa
