/- A message as it comes in. -/
import Derived.Test.YtidhlfcmjpnhgaaGreatDoorQYawake
import Derived.Test.YtidhlfcmjpnhgaaGreatDoorQClose
import Derived.ChangeShapes
namespace Go.Proofs.YtidhlfcmjpnhgaaGreatDoor
open Go.ChangeShapes Go.WideShapes Go.ChangeAt Go.RowKit Go.Deep

section
variable {H : Type} {enc : TypeId × Value → H} {w : World} {base : Nat} {spare : Nat → Bool} {held : Bool}
def yppok (p : PP) : Prop := p.name.size ≤ 9223372036854775807 ∧ I64 p.value
theorem ywf_u64 {n : Int} (h : (Lit.int .u64 n).wf = true) : 0 ≤ n ∧ n < 18446744073709551616 := by
  simp [Lit.wf, IntKind.min, IntKind.max, IntKind.signed, IntKind.bits] at h
  omega
set_option maxRecDepth 100000 in
theorem yopen_pp {n : Nat} {cs : List Value} {x : DataW H × List MemPlace} (h : DataW.trod enc Tryz.prog w base spare held n 41 cs = some x) : ∃ y : PP, cs = pcs y ∧ yppok y := by
  obtain ⟨xs, m, _, rfl, hlen, hxs, hf⟩ := DataW.trod_struct Tryz.underlying41 h
  have hl : cs.length = 2 := hlen.trans (by kernel_rfl)
  match cs, hl with
  | [v0, v1], _ =>
    have e0 := hf 0 _ rfl
    have e1 := hf 1 _ rfl
    have hx : xs.length = 2 := hxs
    rw [List.getElem?_eq_getElem (by omega)] at e0 e1
    obtain ⟨s, hs, _, ws⟩ := DataW.trod_string (by kernel_rfl) e0
    obtain ⟨m, hm, _, wm⟩ := DataW.trod_int (k := .i64) (by kernel_rfl) e1
    have h0 : [v0] = [Value.string s] := hs
    have h1 : [v1] = [Value.int .i64 m] := hm
    simp only [List.cons.injEq, and_true] at h0 h1
    subst h0 h1
    exact ⟨⟨s, m⟩, rfl, by simpa [maxLen] using ws, wf_i64 wm⟩
theorem yopen_props {n : Nat} {cs : List Value} {x : DataW H × List MemPlace} (h : DataW.trod enc Tryz.prog w base spare held n 37 cs = some x) :
    ∃ (A : Option Addr) (cap : Nat) (l : List PP), cs = [.slice A l.length cap] ∧ Sl w 2 A l.length cap (l.flatMap pcs) ∧ ∀ y ∈ l, yppok y :=
  open_rows pcs yppok 2 (by decide) pcs_len Tryz.underlying37 (by kernel_rfl) (fun _ _ _ hx => yopen_pp hx) h
structure MsB where
  m : MC
  A : Option Addr
  cap : Nat
def msbc (y : MsB) : List Value := (mV y.m y.A y.cap).toList
def msbok (w : World) (y : MsB) : Prop := Sl w 2 y.A y.m.props.length y.cap (y.m.props.flatMap pcs) ∧ (0 ≤ y.m.seq ∧ y.m.seq < 18446744073709551616) ∧ I64 y.m.at_ ∧ ∀ p ∈ y.m.props, I64 p.value
set_option maxRecDepth 100000 in
theorem open_msb {n : Nat} {cs : List Value} {x : DataW H × List MemPlace} (h : DataW.trod enc Tryz.prog w base spare held n 39 cs = some x) : ∃ y : MsB, cs = msbc y ∧ msbok w y := by
  obtain ⟨xs, m, _, rfl, hlen, hxs, hf⟩ := DataW.trod_struct Tryz.underlying39 h
  have hl : cs.length = 4 := hlen.trans (by kernel_rfl)
  match cs, hl with
  | [v0, v1, v2, v3], _ =>
    have e0 := hf 0 _ rfl
    have e1 := hf 1 _ rfl
    have e2 := hf 2 _ rfl
    have e3 := hf 3 _ rfl
    have hx : xs.length = 4 := hxs
    rw [List.getElem?_eq_getElem (by omega)] at e0 e1 e2 e3
    obtain ⟨a0, h0, _, _⟩ := DataW.trod_int (k := .u8) (by kernel_rfl) e0
    obtain ⟨a1, h1, _, w1⟩ := DataW.trod_int (k := .u64) (by kernel_rfl) e1
    obtain ⟨a2, h2, _, w2⟩ := DataW.trod_int (k := .i64) (by kernel_rfl) e2
    obtain ⟨A, c, l, h3, hsl, hok⟩ := yopen_props e3
    have g0 : [v0] = [Value.int .u8 a0] := h0
    have g1 : [v1] = [Value.int .u64 a1] := h1
    have g2 : [v2] = [Value.int .i64 a2] := h2
    have g3 : [v3] = [Value.slice A l.length c] := h3
    simp only [List.cons.injEq, and_true] at g0 g1 g2 g3
    subst g0 g1 g2 g3
    exact ⟨⟨⟨a0, a1, a2, l⟩, A, c⟩, rfl, hsl, ywf_u64 w1, wf_i64 w2, fun p hp => (hok p hp).2⟩
set_option maxRecDepth 100000 in
theorem open_message {r : Reach} {b0 : Nat} {v : Value} {d : DataW H} {ps : List MemPlace} (hval : Value.okWide Tryz.prog w r b0 39 v) (h : DataW.Trod enc Tryz.prog w base spare held 39 v d ps) :
    ∃ m A cap, v = .agg (mV m A cap) ∧ Sl w 2 A m.props.length cap (m.props.flatMap pcs) ∧ (0 ≤ m.seq ∧ m.seq < 18446744073709551616) ∧ I64 m.at_ ∧ ∀ p ∈ m.props, I64 p.value := by
  obtain ⟨y, rfl, h1, h2, h3, h4⟩ := open_struct msbc (msbok w) Tryz.underlying39 (fun _ _ _ hx => open_msb hx) hval h
  exact ⟨y.m, y.A, y.cap, by simp [msbc], h1, h2, h3, h4⟩
end
end Go.Proofs.YtidhlfcmjpnhgaaGreatDoor
