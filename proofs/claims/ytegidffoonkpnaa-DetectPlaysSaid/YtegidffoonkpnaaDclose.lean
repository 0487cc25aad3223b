/- What the closes of the Detect laws share. -/
import Derived.Test.YtegidffoonkpnaaDlaw2
namespace Go.Proofs.Ytegidffoonkpnaa
open Go.ChangeShapes Go.WideShapes Go.ChangeAt Go.RowKit

theorem own_knob : ownKnob Try.prog.godebug = none := by kernel_rfl
theorem laid_out : laidOutB Try.prog = true := by kernel_rfl
theorem wf_i64 {n : Int} (h : (Lit.int .i64 n).wf = true) : I64 n := by
  simp [Lit.wf, IntKind.min, IntKind.max, IntKind.signed, IntKind.bits] at h
  unfold I64; omega
theorem wf_u8 {n : Int} (h : (Lit.int .u8 n).wf = true) : 0 ≤ n ∧ n ≤ 255 := by
  simp [Lit.wf, IntKind.min, IntKind.max, IntKind.signed, IntKind.bits] at h
  omega

section
variable {H : Type} {enc : TypeId × Value → H} {w : World} {base : Nat} {spare : Nat → Bool} {held : Bool}
theorem open_act {n : Nat} {cs : List Value} {x : DataW H × List MemPlace} (h : DataW.trod enc Try.prog w base spare held n 43 cs = some x) : ∃ y : Act3, cs = actc y ∧ actok y := by
  obtain ⟨xs, m, rfl, _, hlen, hxs, hf⟩ := DataW.trod_struct Try.underlying43 h
  have hl : cs.length = 3 := hlen.trans (by kernel_rfl)
  match cs, hl with
  | [v0, v1, v2], _ =>
    have e0 := hf 0 _ rfl
    have e1 := hf 1 _ rfl
    have e2 := hf 2 _ rfl
    have hx : xs.length = 3 := hxs
    rw [List.getElem?_eq_getElem (by omega)] at e0 e1 e2
    obtain ⟨a, ha, _, wa⟩ := DataW.trod_int (k := .u8) (by kernel_rfl) e0
    obtain ⟨s, hs, _, ws⟩ := DataW.trod_int (k := .i64) (by kernel_rfl) e1
    obtain ⟨m, hm, _, wm⟩ := DataW.trod_int (k := .i64) (by kernel_rfl) e2
    have h0 : [v0] = [Value.int .u8 a] := ha
    have h1 : [v1] = [Value.int .i64 s] := hs
    have h2 : [v2] = [Value.int .i64 m] := hm
    simp only [List.cons.injEq, and_true] at h0 h1 h2
    subst h0 h1 h2
    exact ⟨⟨a, s, m⟩, rfl, wf_u8 wa, wf_i64 ws, wf_i64 wm⟩
theorem open_acts {r : Reach} {b0 : Nat} {v : Value} {d : DataW H} {ps : List MemPlace} (hval : Value.okWide Try.prog w r b0 22 v) (h : DataW.Trod enc Try.prog w base spare held 22 v d ps) :
    ∃ A cap l, v = .slice A (List.length l) cap ∧ Sl w 3 A l.length cap (l.flatMap actc) ∧ ∀ y ∈ l, actok y := by
  obtain ⟨fuel, hf⟩ := h
  obtain ⟨a0, len0, cap0, rfl⟩ := okWide_slice Try.underlying22 hval
  obtain ⟨A, cap, l, hcs, hsl, hg⟩ := open_rows actc actok 3 (by decide) actc_len Try.underlying22 (by kernel_rfl) (fun n cs x hx => open_act hx) hf
  have : Value.slice a0 len0 cap0 = .slice A l.length cap := by simpa [Value.cells] using hcs
  exact ⟨A, cap, l, this, hsl, hg⟩
end

end Go.Proofs.Ytegidffoonkpnaa
