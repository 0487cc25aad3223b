/- From a statement's reading to the walks' words, and back: slices of rows; the close of every law that answers true and leaves what it was given. -/
import Derived.Test.YtoegdmpmagbaiaaDoorMem
import Derived.ProofKit
import Derived.OpenShut
import Derived.JoinedCond
import Derived.Deep.Slices
namespace Go.Proofs.YtoegdmpmagbaiaaDoor
open Go.ChangeShapes Go.WideShapes Go.ChangeAt Go.RowKit Go.Deep

theorem exists_list {α : Type} (p : Nat → α → Prop) (n : Nat) (h : ∀ i, i < n → ∃ y, p i y) : ∃ l : List α, l.length = n ∧ ∀ i (hi : i < l.length), p i l[i] := by
  induction n with
  | zero => exact ⟨[], rfl, fun i hi => by simp at hi⟩
  | succ n ih =>
    obtain ⟨l, hl, hp⟩ := ih (fun i hi => h i (by omega))
    obtain ⟨y, hy⟩ := h n (by omega)
    refine ⟨l ++ [y], by simp [hl], fun i hi => ?_⟩
    by_cases hin : i < l.length
    · rw [List.getElem_append_left hin]; exact hp i hin
    · have : i = n := by simp at hi; omega
      subst this
      rw [List.getElem_append_right (by omega)]
      simpa [hl] using hy

/-- Rows of equal length, one behind the other: which cell stands at place i * size + j. -/
theorem flat_get {α : Type} (f : α → List Value) (size : Nat) (hf : ∀ y, (f y).length = size) : ∀ (l : List α) (i j : Nat) (hi : i < l.length), j < size → (l.flatMap f)[i * size + j]? = (f l[i])[j]? := by
  intro l
  induction l with
  | nil => intro i j hi; simp at hi
  | cons x l ih =>
    intro i j hi hj
    rw [List.flatMap_cons]
    cases i with
    | zero => rw [List.getElem?_append_left (by rw [hf]; omega)]; simp
    | succ i =>
      rw [List.getElem?_append_right (by rw [hf, Nat.add_mul]; omega), hf]
      have e : (i + 1) * size + j - size = i * size + j := by rw [Nat.add_mul]; omega
      rw [e]
      exact ih i j (by simpa using hi) hj
theorem flat_len {α : Type} (f : α → List Value) (size : Nat) (hf : ∀ y, (f y).length = size) (l : List α) : (l.flatMap f).length = l.length * size := by
  induction l with
  | nil => simp
  | cons x l ih => rw [List.flatMap_cons, List.length_append, hf, ih, List.length_cons, Nat.add_mul]; omega

/-- A cell of an element of a slice of rows. -/
theorem Sl.row {α : Type} {f : α → List Value} {size : Nat} (hf : ∀ y, (f y).length = size) {w : World} {A : Option Addr} {c : Nat} {l : List α} {k : Nat} (h : Sl w size A l.length c (l.flatMap f)) (hk : k < l.length) :
    ∃ b off, A = some ⟨b, off, none⟩ ∧ b < w.heap.size ∧ ∀ j u, (f l[k])[j]? = some u → w.cell? ⟨b, off + (k * size + j), none⟩ = some u := by
  obtain ⟨b, off, hA, hb, hc⟩ := h.cells (by omega)
  refine ⟨b, off, hA, hb, fun j u hu => hc _ _ ?_⟩
  have hj : j < size := by rw [← hf l[k]]; exact (List.getElem?_eq_some_iff.1 hu).1
  rw [flat_get f size hf l k j hk hj]; exact hu

section
variable {H : Type} {enc : TypeId × Value → H} {P : Program} {w : World} {base : Nat} {spare : Nat → Bool} {held : Bool}

theorem open_rows {α : Type} {t e : TypeId} {fuel : Nat} {cs : List Value} {x : DataW H × List MemPlace} (f : α → List Value) (good : α → Prop) (size : Nat) (hsz : 0 < size) (hf : ∀ y, (f y).length = size)
    (ht : P.underlying t = some (.slice e)) (hC : P.cellsOf e = size)
    (hone : ∀ n cs x, DataW.trod enc P w base spare held n e cs = some x → ∃ y, cs = f y ∧ good y)
    (h : DataW.trod enc P w base spare held fuel t cs = some x) :
    ∃ (A : Option Addr) (cap : Nat) (l : List α), cs = [.slice A l.length cap] ∧ Sl w size A l.length cap (l.flatMap f) ∧ ∀ y ∈ l, good y := by
  rcases open_slice ht h with ⟨hcs, _⟩ | ⟨a, len, cap, m, n, D, Pl, hcs, hb, hl, hm, hmm, hx, hi⟩
  · exact ⟨none, 0, [], hcs, Sl.none_ w size, fun y hy => by cases hy⟩
  · have hml : len ≤ m := by rw [hmm]; split <;> omega
    obtain ⟨l, hll, hp⟩ := exists_list (fun i y => (∀ j, j < size → w.cell? ((a.add (i * size)).add j) = (f y)[j]?) ∧ good y) len (fun i hlt => by
      obtain ⟨cs', h1, h2⟩ := hi i (by omega)
      rw [hC] at h1
      obtain ⟨_, _, h3⟩ := World.cells?_some h1
      obtain ⟨y, rfl, hy⟩ := hone _ _ _ h2
      exact ⟨y, h3, hy⟩)
    refine ⟨some a, cap, l, by rw [hll]; exact hcs, ⟨by rw [flat_len f size hf], by omega, hm, (fun e => by cases e), fun hn => ?_⟩, fun y hy => ?_⟩
    · have h0 := (hp 0 hn).1 0 hsz
      have hz : ∃ u, w.cell? a = some u := by
        have e : (a.add (0 * size)).add 0 = a := by simp [Addr.add]
        rw [e] at h0
        rw [h0, List.getElem?_eq_getElem (by rw [hf]; omega)]
        exact ⟨_, rfl⟩
      obtain ⟨u, hu⟩ := hz
      obtain ⟨b, off, sp⟩ := a
      have hsp : sp = none := by
        unfold World.cell? at hu
        cases sp with
        | none => rfl
        | some s => simp at hu; split at hu <;> simp at hu
      subst hsp
      refine ⟨b, off, rfl, World.block_lt_of_cell? w _ hu, fun j v hv => ?_⟩
      have hj : j < l.length * size := by rw [← flat_len f size hf]; exact (List.getElem?_eq_some_iff.1 hv).1
      have hd := Nat.div_add_mod j size
      have hmod : j % size < size := Nat.mod_lt _ hsz
      have hdiv : j / size < l.length := (Nat.div_lt_iff_lt_mul hsz).2 hj
      have e : j = j / size * size + j % size := by rw [Nat.mul_comm]; omega
      rw [e, flat_get f size hf l _ _ hdiv hmod] at hv
      have h4 := (hp (j / size) hdiv).1 (j % size) hmod
      rw [add_zero_addr, add_zero_addr, hv, Nat.add_assoc, ← e] at h4
      exact h4
    · obtain ⟨i, hi', rfl⟩ := List.getElem_of_mem hy
      exact (hp i hi').2

theorem trodAll_below {ts : List TypeId} {W W' : World} (hl : laidOutB P = true) (hr : ts.all (fun t => P.readableRec t && decide (t < P.types.size)) = true) (hb : Below W.heap.size W W') :
    ∀ {vs : List Value} {ds : List (DataW H)} {ps : List MemPlace}, DataW.TrodAll enc P W 0 (fun _ => true) true ts vs ds ps → (∀ x ∈ ps, x.block < W.heap.size) →
      DataW.TrodAll enc P W' 0 (fun b => decide (b < W.heap.size)) true ts vs ds ps := by
  induction ts with
  | nil =>
    intro vs ds ps h _
    obtain ⟨rfl, rfl, rfl⟩ := trodAll_nil h
    exact trodAll_mk0
  | cons t ts ih =>
    intro vs ds ps h hlt
    obtain ⟨v, vs', d, ds', p, q, rfl, rfl, rfl, h0, r0⟩ := trodAll_cons h
    simp only [List.all_cons, Bool.and_eq_true, decide_eq_true_eq] at hr
    exact trodAll_cons_mk (Below.trod hl hr.1.1 hr.1.2 h0 hb (fun x hx => hlt x (by simp [hx]))) (ih hr.2 r0 (fun x hx => hlt x (by simp [hx])))

/-- The close of every law. -/
theorem law_post {f : Func} {s : ChangeSpec} {W W' : World} {args : Array Value} {ds gs : List (DataW H)} {before : List MemPlace} {tb : TypeId}
    (hl : laidOutB P = true) (hr : f.params.toList.all (fun t => P.readableRec t && decide (t < P.types.size)) = true) (hv : s.vars = []) (hrt : f.resultTypes = #[tb]) (htb : P.underlying tb = some .bool)
    (hW : DataW.Whole enc P f.params.toList s.vars false W args.toList ds gs before)
    (hres : (s.fn H ds).results = [.lit (.bool true)]) (hargs : (s.fn H ds).args = ds) (hvs : (s.fn H ds).vars = []) (hb : Below W.heap.size W W') :
    s.post enc P f false true false false W args (.bool true) W' := by
  have hlt := hW.lt
  have hW' := hW
  obtain ⟨p, q, hA, hV, rfl, hfz, hnd⟩ := hW
  rw [hv] at hV
  obtain ⟨rfl, rfl⟩ := trodVars_none hV
  refine ⟨ds, [], p ++ [], [], p, [], hW', ?_, ?_, ?_, hb.frame _, fun h => by cases h⟩
  · rw [hrt, List.append_nil, hres]
    exact trodAll_cons_mk (shut_bool htb _) trodAll_mk0
  · rw [List.append_nil, hargs]
    exact trodAll_below hl hr hb hA (fun x hx => hlt x (by simp [hx]))
  · rw [hv, List.append_nil, hvs]
    exact rfl
end

end Go.Proofs.YtoegdmpmagbaiaaDoor
