/- Events and points as they come in. -/
import Derived.Test.YtckmmihbipmkcaaWl1
import Derived.Test.YtckmmihbipmkcaaLclose
namespace Go.Proofs.Ytckmmihbipmkcaa
open Go.ChangeShapes Go.WideShapes Go.ChangeAt Go.RowKit Go.Deep

section
variable {H : Type} {enc : TypeId × Value → H} {w : World} {base : Nat} {spare : Nat → Bool} {held : Bool}
theorem open_propsIn {n : Nat} {cs : List Value} {x : DataW H × List MemPlace} (h : DataW.trod enc Try.prog w base spare held n 30 cs = some x) :
    ∃ (A : Option Addr) (cap : Nat) (l : List PP), cs = [.slice A l.length cap] ∧ Sl w 2 A l.length cap (l.flatMap pcs) ∧ ∀ y ∈ l, ppok y :=
  open_rows pcs ppok 2 (by decide) pcs_len Try.underlying30 (by kernel_rfl) (fun _ _ _ hx => open_pp hx) h
def evok (w : World) (e : Ev) : Prop := Sl w 2 e.A e.l.length e.c (e.l.flatMap pcs) ∧ ∀ y ∈ e.l, ppok y
def pnok (w : World) (e : Pn) : Prop := I64 e.t ∧ Sl w 2 e.A e.l.length e.c (e.l.flatMap pcs) ∧ ∀ y ∈ e.l, ppok y
set_option maxRecDepth 100000 in
theorem open_ev {n : Nat} {cs : List Value} {x : DataW H × List MemPlace} (h : DataW.trod enc Try.prog w base spare held n 32 cs = some x) : ∃ y : Ev, cs = evc y ∧ evok w y := by
  obtain ⟨xs, m, _, rfl, hlen, hxs, hf⟩ := DataW.trod_struct Try.underlying32 h
  have hl : cs.length = 3 := hlen.trans (by kernel_rfl)
  match cs, hl with
  | [v0, v1, v2], _ =>
    have e0 := hf 0 _ rfl
    have e1 := hf 1 _ rfl
    have e2 := hf 2 _ rfl
    have hx : xs.length = 3 := hxs
    rw [List.getElem?_eq_getElem (by omega)] at e0 e1 e2
    obtain ⟨s, hs, _, ws⟩ := DataW.trod_int (k := .u64) (by kernel_rfl) e0
    obtain ⟨t, ht, _, wt⟩ := DataW.trod_int (k := .i64) (by kernel_rfl) e1
    obtain ⟨A, c, l, hsl, h1, h2⟩ := open_propsIn e2
    have h3 : [v0] = [Value.int .u64 s] := hs
    have h4 : [v1] = [Value.int .i64 t] := ht
    have h5 : [v2] = [Value.slice A l.length c] := hsl
    simp only [List.cons.injEq, and_true] at h3 h4 h5
    subst h3 h4 h5
    exact ⟨⟨s, t, A, c, l⟩, rfl, h1, h2⟩
set_option maxRecDepth 100000 in
theorem open_pn {n : Nat} {cs : List Value} {x : DataW H × List MemPlace} (h : DataW.trod enc Try.prog w base spare held n 41 cs = some x) : ∃ y : Pn, cs = pnc y ∧ pnok w y := by
  obtain ⟨xs, m, _, rfl, hlen, hxs, hf⟩ := DataW.trod_struct Try.underlying41 h
  have hl : cs.length = 2 := hlen.trans (by kernel_rfl)
  match cs, hl with
  | [v1, v2], _ =>
    have e1 := hf 0 _ rfl
    have e2 := hf 1 _ rfl
    have hx : xs.length = 2 := hxs
    rw [List.getElem?_eq_getElem (by omega)] at e1 e2
    obtain ⟨t, ht, _, wt⟩ := DataW.trod_int (k := .i64) (by kernel_rfl) e1
    obtain ⟨A, c, l, hsl, h1, h2⟩ := open_propsIn e2
    have h4 : [v1] = [Value.int .i64 t] := ht
    have h5 : [v2] = [Value.slice A l.length c] := hsl
    simp only [List.cons.injEq, and_true] at h4 h5
    subst h4 h5
    exact ⟨⟨t, A, c, l⟩, rfl, wf_i64 wt, h1, h2⟩
theorem open_events {r : Reach} {b0 : Nat} {v : Value} {d : DataW H} {ps : List MemPlace} (hval : Value.okWide Try.prog w r b0 22 v) (h : DataW.Trod enc Try.prog w base spare held 22 v d ps) :
    ∃ A cap es, v = .slice A (List.length es) cap ∧ ESl w A cap es := by
  obtain ⟨A, cap, l, h1, h2, h3⟩ := open_list evc (evok w) 3 (by decide) evc_len Try.underlying22 (by kernel_rfl) (fun _ _ _ hx => open_ev hx) hval h
  exact ⟨A, cap, l, h1, h2, fun e he => (h3 e he).1⟩
theorem open_points {r : Reach} {b0 : Nat} {v : Value} {d : DataW H} {ps : List MemPlace} (hval : Value.okWide Try.prog w r b0 25 v) (h : DataW.Trod enc Try.prog w base spare held 25 v d ps) :
    ∃ A cap ps, v = .slice A (List.length ps) cap ∧ WSl w A cap ps ∧ ∀ p ∈ ps, ∀ x ∈ p.l, ppok x := by
  obtain ⟨A, cap, l, h1, h2, h3⟩ := open_list pnc (pnok w) 2 (by decide) pnc_len Try.underlying25 (by kernel_rfl) (fun _ _ _ hx => open_pn hx) hval h
  exact ⟨A, cap, l, h1, ⟨h2, fun p hp => (h3 p hp).2.1⟩, fun p hp => (h3 p hp).2.2⟩
def u8c (n : Nat) : List Value := [.int .u8 n]
theorem open_bytes {r : Reach} {b0 : Nat} {v : Value} {d : DataW H} {ps : List MemPlace} (hval : Value.okWide Try.prog w r b0 47 v) (h : DataW.Trod enc Try.prog w base spare held 47 v d ps) :
    ∃ A cap ns, v = .slice A (List.length ns) cap ∧ Sl w 1 A ns.length cap (ns.flatMap u8c) ∧ ∀ n ∈ ns, n ≤ 255 :=
  open_list u8c (fun n => n ≤ 255) 1 (by decide) (fun _ => rfl) Try.underlying47 (by kernel_rfl) (fun _ cs x hx => by
    obtain ⟨n, hn, _, wn⟩ := DataW.trod_int (k := .u8) (by kernel_rfl) hx
    obtain ⟨h0, h1⟩ := wf_u8 wn
    exact ⟨n.toNat, by rw [hn]; unfold u8c; rw [Int.toNat_of_nonneg h0], by omega⟩) hval h
end
end Go.Proofs.Ytckmmihbipmkcaa
