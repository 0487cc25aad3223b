/- Configurations, and lines, as they come in. -/
import Derived.Test.YtoegdmpmagbaiaaDoorV31
import Derived.Test.YtoegdmpmagbaiaaDoorVand
import Derived.SliceStrings
namespace Go.Proofs.YtoegdmpmagbaiaaDoor
open Go.ChangeShapes Go.WideShapes Go.ChangeAt Go.RowKit Go.Deep

section
variable {H : Type} {enc : TypeId × Value → H} {w : World} {base : Nat} {spare : Nat → Bool} {held : Bool}
theorem ints_flat (l : List Int) : l.flatMap (fun v => [Value.int .i64 v]) = ints l := by
  induction l with
  | nil => rfl
  | cons a l ih => simp [ints] at ih ⊢; exact ih
theorem open_intsIn {n : Nat} {cs : List Value} {x : DataW H × List MemPlace} (h : DataW.trod enc Tryd.prog w base spare held n 41 cs = some x) :
    ∃ (A : Option Addr) (cap : Nat) (l : List Int), cs = [.slice A l.length cap] ∧ Sl w 1 A l.length cap (ints l) := by
  obtain ⟨A, cap, l, h1, h2, _⟩ := open_rows (fun v : Int => [Value.int .i64 v]) (fun _ => True) 1 (by decide) (fun _ => rfl) Tryd.underlying41 (by kernel_rfl) (fun n cs x hx => by
    obtain ⟨z, hz, _, _⟩ := DataW.trod_int (k := .i64) Tryd.underlying3 hx
    exact ⟨z, hz, trivial⟩) h
  rw [ints_flat] at h2
  exact ⟨A, cap, l, h1, h2⟩
structure CfB where
  c : CF
  A : Option Addr
  cap : Nat
def cfbc (y : CfB) : List Value := (cfA y.c y.A y.cap).toList
def cfbok (w : World) (y : CfB) : Prop := Sl w 1 y.A y.c.weights.length y.cap (ints y.c.weights) ∧ y.c.timeout ≤ 9223372036854775807 ∧ y.c.patience ≤ 9223372036854775807
set_option maxRecDepth 100000 in
theorem open_cfb {n : Nat} {cs : List Value} {x : DataW H × List MemPlace} (h : DataW.trod enc Tryd.prog w base spare held n 43 cs = some x) : ∃ y : CfB, cs = cfbc y ∧ cfbok w y := by
  obtain ⟨xs, m, _, rfl, hlen, hxs, hf⟩ := DataW.trod_struct Tryd.underlying43 h
  have hl : cs.length = 7 := hlen.trans (by kernel_rfl)
  match cs, hl with
  | [v0, v1, v2, v3, v4, v5, v6], _ =>
    have e0 := hf 0 _ rfl
    have e1 := hf 1 _ rfl
    have e2 := hf 2 _ rfl
    have e3 := hf 3 _ rfl
    have e4 := hf 4 _ rfl
    have e5 := hf 5 _ rfl
    have e6 := hf 6 _ rfl
    have hx : xs.length = 7 := hxs
    rw [List.getElem?_eq_getElem (by omega)] at e0 e1 e2 e3 e4 e5 e6
    obtain ⟨a0, h0, _, _⟩ := DataW.trod_int (k := .i64) (by kernel_rfl) e0
    obtain ⟨a1, h1, _, _⟩ := DataW.trod_int (k := .i64) (by kernel_rfl) e1
    obtain ⟨a2, h2, _⟩ := DataW.trod_bool (by kernel_rfl) e2
    obtain ⟨A, c, l, h3, hsl⟩ := open_intsIn e3
    obtain ⟨a4, h4, _, _⟩ := DataW.trod_int (k := .i64) (by kernel_rfl) e4
    obtain ⟨a5, h5, _, w5⟩ := DataW.trod_int (k := .i64) (by kernel_rfl) e5
    obtain ⟨a6, h6, _, w6⟩ := DataW.trod_int (k := .i64) (by kernel_rfl) e6
    have g0 : [v0] = [Value.int .i64 a0] := h0
    have g1 : [v1] = [Value.int .i64 a1] := h1
    have g2 : [v2] = [Value.bool a2] := h2
    have g3 : [v3] = [Value.slice A l.length c] := h3
    have g4 : [v4] = [Value.int .i64 a4] := h4
    have g5 : [v5] = [Value.int .i64 a5] := h5
    have g6 : [v6] = [Value.int .i64 a6] := h6
    simp only [List.cons.injEq, and_true] at g0 g1 g2 g3 g4 g5 g6
    subst g0 g1 g2 g3 g4 g5 g6
    exact ⟨⟨⟨a0, a1, a2, l, a4, a5, a6⟩, A, c⟩, rfl, hsl, (wf_i64 w5).2, (wf_i64 w6).2⟩
set_option maxRecDepth 100000 in
theorem open_conf {r : Reach} {b0 : Nat} {v : Value} {d : DataW H} {ps : List MemPlace} (hval : Value.okWide Tryd.prog w r b0 43 v) (h : DataW.Trod enc Tryd.prog w base spare held 43 v d ps) :
    ∃ c A cap, v = .agg (cfA c A cap) ∧ Sl w 1 A c.weights.length cap (ints c.weights) ∧ c.timeout ≤ 9223372036854775807 ∧ c.patience ≤ 9223372036854775807 := by
  obtain ⟨y, rfl, h1, h2, h3⟩ := open_struct cfbc (cfbok w) Tryd.underlying43 (fun _ _ _ hx => open_cfb hx) hval h
  exact ⟨y.c, y.A, y.cap, by simp [cfbc], h1, h2, h3⟩
set_option maxRecDepth 100000 in
theorem open_lines {r : Reach} {b0 : Nat} {v : Value} {d : DataW H} {ps : List MemPlace} (hval : Value.okWide Tryd.prog w r b0 59 v) (h : DataW.Trod enc Tryd.prog w base spare held 59 v d ps) :
    ∃ A cap ws, v = .slice A (List.length ws) cap ∧ Sl w 1 A ws.length cap (strB ws) ∧ (ws = [] ∨ ∃ el sp, d = .slice el sp ∧ ∀ s ∈ ws, DataW.lit (.string s.data.toList) ∈ el) := by
  obtain ⟨fuel, hfu⟩ := h
  obtain ⟨a0, len0, cap0, rfl⟩ := okWide_slice Tryd.underlying59 hval
  rcases open_strings Tryd.underlying59 Tryd.underlying9 (by kernel_rfl) hfu with ⟨hcs, _⟩ | ⟨a, len, cap, ss, hcs, _, hl, hm, hz, hx, hcell, hsz⟩
  · have : Value.slice a0 len0 cap0 = .slice none 0 0 := by simpa [Value.cells] using hcs
    exact ⟨none, 0, [], this, Sl.none_ _ _, .inl rfl⟩
  · have e0 : Value.slice a0 len0 cap0 = .slice (some a) len cap := by simpa [Value.cells] using hcs
    have hls : len ≤ ss.length := by rw [hz]; split <;> omega
    have htl : (ss.take len).length = len := by rw [List.length_take]; omega
    refine ⟨some a, cap, ss.take len, by rw [htl]; exact e0, ⟨by simp [strB], by rw [htl]; exact hl, hm, (fun e => by cases e), fun hn => ?_⟩, .inr ?_⟩
    · rw [htl] at hn
      have h0 := hcell 0 (by omega)
      have ea : a.add 0 = a := by simp [Addr.add]
      rw [ea] at h0
      obtain ⟨b, off, sp⟩ := a
      have hsp : sp = none := by
        unfold World.cell? at h0
        cases sp with
        | none => rfl
        | some s => simp at h0; split at h0 <;> simp at h0
      subst hsp
      refine ⟨b, off, rfl, World.block_lt_of_cell? w _ h0, fun j u hu => ?_⟩
      unfold strB at hu
      rw [List.getElem?_map, Option.map_eq_some_iff] at hu
      obtain ⟨s, hs, rfl⟩ := hu
      have hj : j < len := by
        have := (List.getElem?_eq_some_iff.1 hs).1
        rwa [htl] at this
      rw [List.getElem?_take, if_pos hj] at hs
      have h4 := hcell j (by omega)
      rw [add_zero_addr, List.getD_eq_getElem?_getD, hs] at h4
      exact h4
    · have hd := congrArg Prod.fst hx
      exact ⟨_, _, hd, fun s hs => by unfold ChangeShapes.strs; exact List.mem_map.2 ⟨s, hs, rfl⟩⟩
theorem lines_small {P : Program} {ts : List TypeId} {ds : List (DataW H)} (h : (DataW.weightsEach P ts ds).all (· ≤ reachBytes) = true) {j : Nat} {t e : TypeId} {d : DataW H} {ws : List ByteArray}
    (ht : ts[j]? = some t) (hu : P.underlying t = some (.slice e)) (hd : ds[j]? = some d) (hw : ws = [] ∨ ∃ el sp, d = .slice el sp ∧ ∀ s ∈ ws, DataW.lit (.string s.data.toList) ∈ el) : ∀ s ∈ ws, s.size ≤ 140737488355328 := by
  intro s hs
  rcases hw with rfl | ⟨el, sp, rfl, hm⟩
  · cases hs
  · have := sized_strs h ht hd hu (hm s hs)
    rw [ba_len] at this
    exact Nat.le_trans this (by decide)
end
end Go.Proofs.YtoegdmpmagbaiaaDoor
