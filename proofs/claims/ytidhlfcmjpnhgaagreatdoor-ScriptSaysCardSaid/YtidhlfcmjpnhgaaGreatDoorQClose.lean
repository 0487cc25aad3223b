/- What the closes of all laws share. -/
import Derived.Test.YtidhlfcmjpnhgaaGreatDoorSA
import Derived.Lib.SmallJoins
import Derived.ChangeMaps5
namespace Go.Proofs.YtidhlfcmjpnhgaaGreatDoor
open Go.ChangeShapes Go.WideShapes Go.ChangeAt Go.RowKit Go.Deep

theorem own_knob : ownKnob Tryz.prog.godebug = none := by kernel_rfl
theorem laid_out : laidOutB Tryz.prog = true := by kernel_rfl
theorem wf_i64 {n : Int} (h : (Lit.int .i64 n).wf = true) : I64 n := by
  simp [Lit.wf, IntKind.min, IntKind.max, IntKind.signed, IntKind.bits] at h
  unfold I64; omega
theorem wf_u8 {n : Int} (h : (Lit.int .u8 n).wf = true) : 0 ≤ n ∧ n ≤ 255 := by
  simp [Lit.wf, IntKind.min, IntKind.max, IntKind.signed, IntKind.bits] at h
  omega

section
variable {H : Type} {enc : TypeId × Value → H} {P : Program} {w : World} {base : Nat} {spare : Nat → Bool} {held : Bool}
/-- A slice of rows as a value. -/
theorem open_list {α : Type} {t e : TypeId} {r : Reach} {b0 : Nat} {v : Value} {d : DataW H} {ps : List MemPlace} (f : α → List Value) (good : α → Prop) (size : Nat) (hsz : 0 < size) (hf : ∀ y, (f y).length = size)
    (ht : P.underlying t = some (.slice e)) (hC : P.cellsOf e = size) (hone : ∀ n cs x, DataW.trod enc P w base spare held n e cs = some x → ∃ y, cs = f y ∧ good y)
    (hval : Value.okWide P w r b0 t v) (h : DataW.Trod enc P w base spare held t v d ps) :
    ∃ A cap l, v = .slice A (List.length l) cap ∧ Sl w size A l.length cap (l.flatMap f) ∧ ∀ y ∈ l, good y := by
  obtain ⟨fuel, hfu⟩ := h
  obtain ⟨a0, len0, cap0, rfl⟩ := okWide_slice ht hval
  obtain ⟨A, cap, l, hcs, hsl, hg⟩ := open_rows f good size hsz hf ht hC hone hfu
  have : Value.slice a0 len0 cap0 = .slice A l.length cap := by simpa [Value.cells] using hcs
  exact ⟨A, cap, l, this, hsl, hg⟩
/-- A struct by value. -/
theorem open_struct {α : Type} {t : TypeId} {fs : Array Field} {r : Reach} {b0 : Nat} {v : Value} {d : DataW H} {ps : List MemPlace} (f : α → List Value) (good : α → Prop)
    (ht : P.underlying t = some (.struct fs)) (hone : ∀ n cs x, DataW.trod enc P w base spare held n t cs = some x → ∃ y, cs = f y ∧ good y)
    (hval : Value.okWide P w r b0 t v) (h : DataW.Trod enc P w base spare held t v d ps) :
    ∃ y, v = .agg (f y).toArray ∧ good y := by
  obtain ⟨fuel, hfu⟩ := h
  obtain ⟨cs, rfl, hsize⟩ := okWide_struct ht hval
  obtain ⟨y, hy, hg⟩ := hone _ _ _ hfu
  refine ⟨y, ?_, hg⟩
  rw [← hy]
  simp [Value.cells]
end
end Go.Proofs.YtidhlfcmjpnhgaaGreatDoor
