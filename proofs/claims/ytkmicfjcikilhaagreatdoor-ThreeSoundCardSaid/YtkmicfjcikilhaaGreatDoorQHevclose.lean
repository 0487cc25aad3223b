/- Events as they come in; laws of four and five parameters. -/
import Derived.Test.YtkmicfjcikilhaaGreatDoorKV
import Derived.Test.YtkmicfjcikilhaaGreatDoorQHev
import Derived.ChangeShapes
namespace Go.Proofs.YtkmicfjcikilhaaGreatDoor
open Go.ChangeShapes Go.WideShapes Go.ChangeAt Go.RowKit Go.Deep

section
variable {H : Type} {enc : TypeId × Value → H} {w : World} {base : Nat} {spare : Nat → Bool} {held : Bool}
def evok (w : World) (e : Ev) : Prop := I64 e.t ∧ Sl w 2 e.A e.l.length e.c (e.l.flatMap pcs)
set_option maxRecDepth 100000 in
theorem open_ev {n : Nat} {cs : List Value} {x : DataW H × List MemPlace} (h : DataW.trod enc Tryz.prog w base spare held n 53 cs = some x) : ∃ y : Ev, cs = evc y ∧ evok w y := by
  obtain ⟨xs, m, _, rfl, hlen, hxs, hf⟩ := DataW.trod_struct Tryz.underlying53 h
  have hl : cs.length = 3 := hlen.trans (by kernel_rfl)
  match cs, hl with
  | [v0, v1, v2], _ =>
    have e0 := hf 0 _ rfl
    have e1 := hf 1 _ rfl
    have e2 := hf 2 _ rfl
    have hx : xs.length = 3 := hxs
    rw [List.getElem?_eq_getElem (by omega)] at e0 e1 e2
    obtain ⟨s, hs, _, _⟩ := DataW.trod_int (k := .u64) (by kernel_rfl) e0
    obtain ⟨t, ht, _, wt⟩ := DataW.trod_int (k := .i64) (by kernel_rfl) e1
    obtain ⟨A, c, l, hsl, h1, _⟩ := open_propsIn e2
    have h3 : [v0] = [Value.int .u64 s] := hs
    have h4 : [v1] = [Value.int .i64 t] := ht
    have h5 : [v2] = [Value.slice A l.length c] := hsl
    simp only [List.cons.injEq, and_true] at h3 h4 h5
    subst h3 h4 h5
    exact ⟨⟨s, t, A, c, l⟩, rfl, wf_i64 wt, h1⟩
set_option maxRecDepth 100000 in
theorem open_events63 {r : Reach} {b0 : Nat} {v : Value} {d : DataW H} {ps : List MemPlace} (hval : Value.okWide Tryz.prog w r b0 30 v) (h : DataW.Trod enc Tryz.prog w base spare held 30 v d ps) :
    ∃ A cap es, v = .slice A (List.length es) cap ∧ ESl w A cap es ∧ ∀ e ∈ es, e.t ≤ last63 := by
  obtain ⟨A, cap, l, h1, h2, h3⟩ := open_list evc (evok w) 3 (by decide) evc_len Tryz.underlying30 (by kernel_rfl) (fun _ _ _ hx => open_ev hx) hval h
  exact ⟨A, cap, l, h1, ⟨h2, fun p hp => (h3 p hp).2⟩, fun p hp => (h3 p hp).1.2⟩
theorem trodAll_four {P : Program} {t0 t1 t2 t3 : TypeId} {args : Array Value} {ds : List (DataW H)} {ps : List MemPlace} (h : DataW.TrodAll enc P w base spare held [t0, t1, t2, t3] args.toList ds ps) :
    ∃ v0 v1 v2 v3 d0 d1 d2 d3 p0 p1 p2 p3, args = #[v0, v1, v2, v3] ∧ ds = [d0, d1, d2, d3] ∧ ps = p0 ++ p1 ++ p2 ++ p3 ∧ DataW.Trod enc P w base spare held t0 v0 d0 p0 ∧ DataW.Trod enc P w base spare held t1 v1 d1 p1 ∧ DataW.Trod enc P w base spare held t2 v2 d2 p2 ∧ DataW.Trod enc P w base spare held t3 v3 d3 p3 := by
  obtain ⟨v0, vs0, d0, ds0, p0, q0, hargs, rfl, rfl, h0, r0⟩ := trodAll_cons h
  obtain ⟨v1, vs1, d1, ds1, p1, q1, rfl, rfl, rfl, h1, r1⟩ := trodAll_cons r0
  obtain ⟨v2, vs2, d2, ds2, p2, q2, rfl, rfl, rfl, h2, r2⟩ := trodAll_cons r1
  obtain ⟨v3, vs3, d3, ds3, p3, q3, rfl, rfl, rfl, h3, r3⟩ := trodAll_cons r2
  obtain ⟨rfl, rfl, rfl⟩ := trodAll_nil r3
  exact ⟨v0, v1, v2, v3, d0, d1, d2, d3, p0, p1, p2, p3, by cases args; simp_all, rfl, by simp, h0, h1, h2, h3⟩
theorem trodAll_five {P : Program} {t0 t1 t2 t3 t4 : TypeId} {args : Array Value} {ds : List (DataW H)} {ps : List MemPlace} (h : DataW.TrodAll enc P w base spare held [t0, t1, t2, t3, t4] args.toList ds ps) :
    ∃ v0 v1 v2 v3 v4 d0 d1 d2 d3 d4 p0 p1 p2 p3 p4, args = #[v0, v1, v2, v3, v4] ∧ ds = [d0, d1, d2, d3, d4] ∧ ps = p0 ++ p1 ++ p2 ++ p3 ++ p4 ∧ DataW.Trod enc P w base spare held t0 v0 d0 p0 ∧ DataW.Trod enc P w base spare held t1 v1 d1 p1 ∧ DataW.Trod enc P w base spare held t2 v2 d2 p2 ∧ DataW.Trod enc P w base spare held t3 v3 d3 p3 ∧ DataW.Trod enc P w base spare held t4 v4 d4 p4 := by
  obtain ⟨v0, vs0, d0, ds0, p0, q0, hargs, rfl, rfl, h0, r0⟩ := trodAll_cons h
  obtain ⟨v1, vs1, d1, ds1, p1, q1, rfl, rfl, rfl, h1, r1⟩ := trodAll_cons r0
  obtain ⟨v2, vs2, d2, ds2, p2, q2, rfl, rfl, rfl, h2, r2⟩ := trodAll_cons r1
  obtain ⟨v3, vs3, d3, ds3, p3, q3, rfl, rfl, rfl, h3, r3⟩ := trodAll_cons r2
  obtain ⟨v4, vs4, d4, ds4, p4, q4, rfl, rfl, rfl, h4, r4⟩ := trodAll_cons r3
  obtain ⟨rfl, rfl, rfl⟩ := trodAll_nil r4
  exact ⟨v0, v1, v2, v3, v4, d0, d1, d2, d3, d4, p0, p1, p2, p3, p4, by cases args; simp_all, rfl, by simp, h0, h1, h2, h3, h4⟩
end
end Go.Proofs.YtkmicfjcikilhaaGreatDoor
