/- Formulas as they come in. -/
import Derived.Test.YtoegdmpmagbaiaaDoorFtxt
import Derived.Test.YtoegdmpmagbaiaaDoorClose
namespace Go.Proofs.YtoegdmpmagbaiaaDoor
open Go.ChangeShapes Go.WideShapes Go.ChangeAt Go.RowKit Go.Deep

section
variable {H : Type} {enc : TypeId × Value → H} {w : World} {base : Nat} {spare : Nat → Bool} {held : Bool}
/-- A formula that came in. -/
def FoCame (w : World) (cs : List Value) : Prop := ∃ x A c ks, cs = fcs x A (Fo.len ks) c ∧ NdOk x ∧ ks.tr.ok ∧ FoSl w.heap.size w A c ks
theorem fo_build (w : World) (b : Nat) (hb : b < w.heap.size) : ∀ (n off : Nat), (∀ i, i < n → ∃ cs, FoCame w cs ∧ ∀ j u, cs[j]? = some u → w.cell? ⟨b, off + (i * 7 + j), none⟩ = some u) → ∃ f : Fo, f.len = n ∧ f.tr.ok ∧ f.At w.heap.size w b off := by
  intro n
  induction n with
  | zero => intro off _; exact ⟨.nil, rfl, trivial, trivial⟩
  | succ n ih =>
    intro off h
    obtain ⟨f, hl, hok, hat⟩ := ih (off + 7) (fun i hi => by
      obtain ⟨cs, h1, h2⟩ := h (i + 1) (by omega)
      refine ⟨cs, h1, fun j u hu => ?_⟩
      have := h2 j u hu
      rwa [show off + ((i + 1) * 7 + j) = off + 7 + (i * 7 + j) by omega] at this)
    obtain ⟨cs, ⟨x, A, c, ks, rfl, hx, hk, hs⟩, h2⟩ := h 0 (by omega)
    refine ⟨.cons x A c ks f, by simp [Fo.len, hl], ⟨hx, hk, hok⟩, hb, hb, fun j u hu => ?_, hs.ok, hs.some_, hs.at_, hat⟩
    have := h2 j u hu
    simpa using this
set_option maxRecDepth 100000 in
theorem open_f : ∀ (fuel : Nat) (cs : List Value) (x : DataW H × List MemPlace), DataW.trod enc Tryd.prog w base spare held fuel 28 cs = some x → FoCame w cs := by
  intro fuel
  induction fuel using Nat.strongRecOn with
  | _ fuel ih =>
    intro cs x h
    obtain ⟨xs, m, rfl, rfl, hlen, hxs, hf⟩ := DataW.trod_struct Tryd.underlying28 h
    have hl : cs.length = 7 := hlen.trans (by kernel_rfl)
    match cs, hl with
    | [v0, v1, v2, v3, v4, v5, v6], _ =>
      have e0 := hf 0 _ rfl
      have e1 := hf 1 _ rfl
      have e2 := hf 2 _ rfl
      have e3 := hf 3 _ rfl
      have hx : xs.length = 4 := hxs
      rw [List.getElem?_eq_getElem (by omega)] at e0 e1 e2 e3
      obtain ⟨o, ho, _, wo⟩ := DataW.trod_int (k := .i64) (by kernel_rfl) e0
      have h0 : [v0] = [Value.int .i64 o] := ho
      simp only [List.cons.injEq, and_true] at h0
      subst h0
      obtain ⟨ys, m1, _, _, _, hys, hg⟩ := DataW.trod_struct Tryd.underlying23 e1
      have g0 := hg 0 _ rfl
      have g1 := hg 1 _ rfl
      have g2 := hg 2 _ rfl
      have hy : ys.length = 3 := hys
      rw [List.getElem?_eq_getElem (by omega)] at g0 g1 g2
      obtain ⟨s, hs, _, _⟩ := DataW.trod_string (by kernel_rfl) g0
      obtain ⟨p, hp, _, wp⟩ := DataW.trod_int (k := .i64) (by kernel_rfl) g1
      obtain ⟨q, hq, _, wq⟩ := DataW.trod_int (k := .i64) (by kernel_rfl) g2
      have h1 : [v1] = [Value.string s] := hs
      have h2 : [v2] = [Value.int .i64 p] := hp
      have h3 : [v3] = [Value.int .i64 q] := hq
      simp only [List.cons.injEq, and_true] at h1 h2 h3
      subst h1 h2 h3
      obtain ⟨zs, m2, _, _, _, hzs, hk⟩ := DataW.trod_struct Tryd.underlying25 e2
      have k0 := hk 0 _ rfl
      have k1 := hk 1 _ rfl
      have hz : zs.length = 2 := hzs
      rw [List.getElem?_eq_getElem (by omega)] at k0 k1
      obtain ⟨lo, hlo, _, wlo⟩ := DataW.trod_int (k := .i64) (by kernel_rfl) k0
      obtain ⟨hi, hhi, _, whi⟩ := DataW.trod_int (k := .i64) (by kernel_rfl) k1
      have h4 : [v4] = [Value.int .i64 lo] := hlo
      have h5 : [v5] = [Value.int .i64 hi] := hhi
      simp only [List.cons.injEq, and_true] at h4 h5
      subst h4 h5
      have hnd : NdOk ⟨o, s, p, q, lo, hi⟩ := ⟨wf_i64 wo, wf_i64 wp, wf_i64 wq, wf_i64 wlo, wf_i64 whi⟩
      have e3' : DataW.trod enc Tryd.prog w base spare held m 26 [v6] = some xs[3] := e3
      rcases DataW.trod_slice Tryd.underlying26 e3' with ⟨hn, _⟩ | ⟨a, len, cap, elems, rest, n, rfl, hv, _, _, hlc, hcm, hel, helt, _⟩
      · simp only [List.cons.injEq, and_true] at hn
        subst hn
        exact ⟨⟨o, s, p, q, lo, hi⟩, none, 0, .nil, rfl, hnd, trivial, FoSl.nil _ _⟩
      · simp only [List.cons.injEq, and_true] at hv
        subst hv
        have hC : (Tryd.prog).cellsOf 28 = 7 := by kernel_rfl
        rw [hC] at helt
        have hone : ∀ i, i < len → ∃ cs, FoCame w cs ∧ cs.length = 7 ∧ ∀ j, j < 7 → w.cell? ((a.add (i * 7)).add j) = cs[j]? := by
          intro i hi
          have h6 := helt i hi
          rw [List.getElem?_eq_getElem (by omega)] at h6
          obtain ⟨cs', hc1, hc2⟩ := Option.bind_eq_some_iff.1 h6
          obtain ⟨_, hc3, hc4⟩ := World.cells?_some hc1
          exact ⟨cs', ih n (by omega) cs' _ hc2, hc3, hc4⟩
        rcases Nat.eq_zero_or_pos len with hz0 | hpos
        · subst hz0
          exact ⟨⟨o, s, p, q, lo, hi⟩, some a, cap, .nil, rfl, hnd, trivial, ⟨⟨Nat.zero_le _, hcm, fun e => by cases e⟩, fun h => absurd h (by simp [Fo.len]), fun _ _ _ => trivial⟩⟩
        · obtain ⟨cs0, _, hl0, hc0⟩ := hone 0 hpos
          have hz : ∃ u, w.cell? a = some u := by
            have h7 := hc0 0 (by omega)
            have e : (a.add (0 * 7)).add 0 = a := by simp [Addr.add]
            rw [e, List.getElem?_eq_getElem (by omega)] at h7
            exact ⟨_, h7⟩
          obtain ⟨u, hu⟩ := hz
          obtain ⟨b, off, sp⟩ := a
          have hsp : sp = none := by
            unfold World.cell? at hu
            cases sp with
            | none => rfl
            | some s => simp at hu; split at hu <;> simp at hu
          subst hsp
          obtain ⟨f, hfl, hfo, hfa⟩ := fo_build w b (World.block_lt_of_cell? w _ hu) len off (fun i hi => by
            obtain ⟨cs, h1, h2, h3⟩ := hone i hi
            refine ⟨cs, h1, fun j u hu => ?_⟩
            have hj : j < 7 := by rw [← h2]; exact (List.getElem?_eq_some_iff.1 hu).1
            have h4 := h3 j hj
            rw [add_zero_addr, add_zero_addr, hu, Nat.add_assoc] at h4
            exact h4)
          subst hfl
          refine ⟨⟨o, s, p, q, lo, hi⟩, some ⟨b, off, none⟩, cap, f, rfl, hnd, hfo, ⟨hlc, hcm, fun e => by cases e⟩, fun _ => ⟨b, off, rfl⟩, fun bb oo e => ?_⟩
          simp only [Option.some.injEq, Addr.mk.injEq, and_true] at e
          obtain ⟨rfl, rfl⟩ := e
          exact hfa
set_option maxRecDepth 100000 in
theorem open_formula {r : Reach} {b0 : Nat} {v : Value} {d : DataW H} {ps : List MemPlace} (hval : Value.okWide Tryd.prog w r b0 28 v) (h : DataW.Trod enc Tryd.prog w base spare held 28 v d ps) :
    ∃ x A c ks, v = fval x A (Fo.len ks) c ∧ NdOk x ∧ ks.tr.ok ∧ FoSl w.heap.size w A c ks := by
  obtain ⟨fuel, hfu⟩ := h
  obtain ⟨cs, rfl, hsize⟩ := okWide_struct Tryd.underlying28 hval
  obtain ⟨x, A, c, ks, hy, h1, h2, h3⟩ := open_f _ _ _ hfu
  refine ⟨x, A, c, ks, ?_, h1, h2, h3⟩
  have : cs.toList = fcs x A ks.len c := by simpa [Value.cells] using hy
  unfold fval
  rw [show cs = (fcs x A ks.len c).toArray by rw [← this]]
  rfl
end
end Go.Proofs.YtoegdmpmagbaiaaDoor
