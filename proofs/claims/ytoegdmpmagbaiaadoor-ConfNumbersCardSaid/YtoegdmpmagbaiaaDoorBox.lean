/- A store of a whole box. -/
import Derived.Test.YtoegdmpmagbaiaaDoorMem
import Derived.Deep.MidRow
namespace Go.Proofs.YtoegdmpmagbaiaaDoor
open Go.RowKit

theorem setCells_fr (g : Nat) : ∀ (vs : List Value) (o : Nat) (w : World), Fr (Only g) w (w.setCells g o vs)
  | [], _, w => Fr.refl _ w
  | v :: r, o, w => (((Fr.refl (Only g) w).setCell (p := ⟨g, o, none⟩) (fun _ => rfl) v)).call (setCells_fr g r (o + 1) _) (fun _ h _ => h)
def setArr (F : Array Value) : Nat → List Value → Array Value
  | _, [] => F
  | s, v :: r => setArr (F.setIfInBounds s v) (s + 1) r
theorem setArr_size : ∀ (vs : List Value) (s : Nat) (F : Array Value), (setArr F s vs).size = F.size
  | [], _, _ => rfl
  | v :: r, s, F => by rw [setArr, setArr_size r]; simp
theorem setArr_get : ∀ (vs : List Value) (s : Nat) (F : Array Value) (t : Nat), (setArr F s vs)[t]? = if s ≤ t ∧ t < s + vs.length ∧ t < F.size then vs[t - s]? else F[t]?
  | [], s, F, t => by rw [if_neg (by simp; omega)]; rfl
  | v :: r, s, F, t => by
    rw [setArr, setArr_get r]
    simp only [Array.size_setIfInBounds, Array.getElem?_setIfInBounds, List.length_cons]
    by_cases h1 : t = s
    · subst h1
      rw [if_neg (by omega), if_pos rfl]
      by_cases h2 : t < F.size
      · rw [if_pos h2, if_pos (by omega), Nat.sub_self]; rfl
      · rw [if_neg h2, if_neg (by omega), Array.getElem?_eq_none (by omega)]
    · by_cases h3 : s + 1 ≤ t ∧ t < s + 1 + r.length ∧ t < F.size
      · rw [if_pos h3, if_pos (by omega), show t - s = t - (s + 1) + 1 by omega, List.getElem?_cons_succ]
      · rw [if_neg h3, if_neg (fun e => h1 e.symm), if_neg (by omega)]
theorem Blk.putCells {g t : Nat} : ∀ (vs : List Value) (o : Nat) {w : World} {arr : Array Value}, Blk w g t arr → Blk (w.setCells g o vs) g t (setArr arr o vs)
  | [], _, _, _, h => h
  | v :: r, o, _, _, h => Blk.putCells r (o + 1) (h.set o v)
theorem Blk.setAll {g t : Nat} {w : World} {arr : Array Value} (h : Blk w g t arr) (vs : Array Value) (hs : vs.size = arr.size) : Blk (w.setCells g 0 vs.toList) g t vs := by
  have := h.putCells vs.toList 0
  have e : setArr arr 0 vs.toList = vs := by
    apply Array.ext_getElem?
    intro i
    rw [setArr_get]
    by_cases hi : i < vs.size
    · rw [if_pos (by simp; omega), Nat.sub_zero, Array.getElem?_toList]
    · rw [if_neg (by simp; omega), Array.getElem?_eq_none (by omega), Array.getElem?_eq_none (by omega)]
  rwa [e] at this
section
variable {P : Program} {ops : Array Oper} {rest : List Oper} {o : Oper} {a : Act} {w : World} {Q : Exit → Act → World → Prop}
theorem wp_stBox {K : Act → World → Prop} {ty : TypeId} {x y : Operand} (ho : o.op = .store ty x y) {g t : Nat} {arr vs : Array Value} (hx : a.eval x = .pointer (some ⟨g, 0, none⟩)) (hy : a.eval y = .agg vs)
    (hi : (P.info? ty).map (·.size) = some vs.size) (h1 : vs.toList.all (·.oneCell') = true) (hB : Blk w g t arr) (hs : vs.size = arr.size)
    (h : ∀ w', Blk w' g t vs → Fr (Only g) w w' → K (a.put o.dst undef) w') : o.wp P a w K Q :=
  wp_store_mid ty x y ho g 0 vs hx hy (fun j hj => ⟨by rw [Nat.zero_add, hB.cell, Array.getElem?_eq_getElem (by omega)]; rfl, hB.frozen _⟩) hi (by rw [← Array.all_toList]; exact h1) (h _ (hB.setAll vs hs) (setCells_fr g _ _ _))
/-- A whole box is written. -/
theorem wpList_stBox (hgd : o.guard = none) {ty : TypeId} {x y : Operand} (ho : o.op = .store ty x y) {g t : Nat} {arr vs : Array Value} (hx : a.eval x = .pointer (some ⟨g, 0, none⟩)) (hy : a.eval y = .agg vs)
    (hi : (P.info? ty).map (·.size) = some vs.size) (h1 : vs.toList.all (·.oneCell') = true) (hB : Blk w g t arr) (hs : vs.size = arr.size)
    (h : ∀ w', Blk w' g t vs → Fr (Only g) w w' → wpList P ops Q rest (a.put o.dst undef) w') : wpList P ops Q (o :: rest) a w :=
  wpList_store_mid hgd ty x y ho g 0 vs hx hy (fun j hj => ⟨by rw [Nat.zero_add, hB.cell, Array.getElem?_eq_getElem (by omega)]; rfl, hB.frozen _⟩) hi (by rw [← Array.all_toList]; exact h1) (h _ (hB.setAll vs hs) (setCells_fr g _ _ _))
end
end Go.Proofs.YtoegdmpmagbaiaaDoor
