/- Propositions and atoms as they come in. -/
import Derived.Test.YtckmmihbipmkcaaLunion
import Derived.Test.YtckmmihbipmkcaaClose
namespace Go.Proofs.Ytckmmihbipmkcaa
open Go.ChangeShapes Go.WideShapes Go.ChangeAt Go.RowKit Go.Deep

structure Atm where
  name : ByteArray
  op : Int
  value : Int
def acs (a : Atm) : List Value := [.string a.name, .int .i64 a.op, .int .i64 a.value]
def ppok (p : PP) : Prop := p.name.size ≤ 9223372036854775807 ∧ I64 p.value
def atok (a : Atm) : Prop := a.name.size ≤ 9223372036854775807 ∧ I64 a.op ∧ I64 a.value
section
variable {H : Type} {enc : TypeId × Value → H} {w : World} {base : Nat} {spare : Nat → Bool} {held : Bool}
set_option maxRecDepth 100000 in
theorem open_pp {n : Nat} {cs : List Value} {x : DataW H × List MemPlace} (h : DataW.trod enc Try.prog w base spare held n 51 cs = some x) : ∃ y : PP, cs = pcs y ∧ ppok y := by
  obtain ⟨xs, m, _, rfl, hlen, hxs, hf⟩ := DataW.trod_struct Try.underlying51 h
  have hl : cs.length = 2 := hlen.trans (by kernel_rfl)
  match cs, hl with
  | [v0, v1], _ =>
    have e0 := hf 0 _ rfl
    have e1 := hf 1 _ rfl
    have hx : xs.length = 2 := hxs
    rw [List.getElem?_eq_getElem (by omega)] at e0 e1
    obtain ⟨s, hs, _, ws⟩ := DataW.trod_string (by kernel_rfl) e0
    obtain ⟨m, hm, _, wm⟩ := DataW.trod_int (k := .i64) (by kernel_rfl) e1
    have h0 : [v0] = [Value.string s] := hs
    have h1 : [v1] = [Value.int .i64 m] := hm
    simp only [List.cons.injEq, and_true] at h0 h1
    subst h0 h1
    exact ⟨⟨s, m⟩, rfl, by simpa [maxLen] using ws, wf_i64 wm⟩
theorem open_props {r : Reach} {b0 : Nat} {v : Value} {d : DataW H} {ps : List MemPlace} (hval : Value.okWide Try.prog w r b0 30 v) (h : DataW.Trod enc Try.prog w base spare held 30 v d ps) :
    ∃ A cap l, v = .slice A (List.length l) cap ∧ Sl w 2 A l.length cap (l.flatMap pcs) ∧ ∀ y ∈ l, ppok y :=
  open_list pcs ppok 2 (by decide) pcs_len Try.underlying30 (by kernel_rfl) (fun _ _ _ hx => open_pp hx) hval h
theorem open_prop {r : Reach} {b0 : Nat} {v : Value} {d : DataW H} {ps : List MemPlace} (hval : Value.okWide Try.prog w r b0 51 v) (h : DataW.Trod enc Try.prog w base spare held 51 v d ps) :
    ∃ p : PP, v = .agg #[.string p.name, .int .i64 p.value] ∧ ppok p :=
  open_struct pcs ppok Try.underlying51 (fun _ _ _ hx => open_pp hx) hval h
end
end Go.Proofs.Ytckmmihbipmkcaa
