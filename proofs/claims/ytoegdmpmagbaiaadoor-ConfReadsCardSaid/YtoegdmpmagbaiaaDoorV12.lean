/- A text's lines, a line's words: the library's calls. -/
import Derived.Test.YtoegdmpmagbaiaaDoorV11
import Derived.Test.YtoegdmpmagbaiaaDoorV7
namespace Go.Proofs.YtoegdmpmagbaiaaDoor
open Go.RowKit Go.Lib Go.Shelf

/-- The library's bound on short texts holds a number. -/
def MaxVar (w : World) : Prop := ∃ m, w.cell? ⟨2, 0, none⟩ = some (.int .i64 m)
theorem MaxVar.fr {w w' : World} (h : MaxVar w) (hf : Fr Nob w w') : MaxVar w' := by
  obtain ⟨m, h⟩ := h
  exact ⟨m, hf.cell h (fun e => e)⟩
theorem prg_Split (w : World) (s : ByteArray) (hs : s.size ≤ 100000) (hm : MaxVar w) : Calls Tryd.prog 34 #[.string s, .string ⟨#[10]⟩] w fun e w' => IsB e w w' (splitC 10 s.data.toList) := by
  obtain ⟨m, hm⟩ := hm
  have := Any.strings_Split Tryd.strSplit (by kernel_rfl) s ⟨#[10]⟩ m w (by omega) hm (by decide)
  change Calls Tryd.prog 34 _ _ _ at this
  refine this.mono fun e w' ⟨h1, h2⟩ => ?_
  have hl := Lib.splitB_all ⟨#[10]⟩ (by decide) 0 _ s rfl
  have hc := Lib.countB_le ⟨#[10]⟩ (by decide) s.size s (Nat.le_refl _)
  refine ⟨_, _, _, Lib.splitB ⟨#[10]⟩ 0 (Lib.countB s ⟨#[10]⟩) s, h1, splitB_eq s, ?_, fun g o e => ?_, by rw [h2]; exact (Fr.refl _ _).alloc _⟩
  · rw [h2]
    have := Sl.new1 (Blk.new w 9 ((Lib.splitB ⟨#[10]⟩ 0 (Lib.countB s ⟨#[10]⟩) s).map Value.string).toArray) 1 (Lib.countB s ⟨#[10]⟩ + 1) (by simp [hl]) (by unfold maxLen; omega)
    simp only [strB] at this ⊢
    exact this
  · injection e with e; injection e with e1; omega
set_option maxHeartbeats 2000000 in
theorem prg_blank (w : World) (x : Nat) : Calls Tryd.prog 36 #[.int .i32 x] w fun e w' => e = .returned (.bool (x == 32)) ∧ ∃ q, w' = w.drewN q := by
  by_cases h : x = 32
  · have h1 : ((x : Int) == 32) = true := by rw [h]; rfl
    have HR := Lib.hid (show (x == 32) = true by rw [h]; rfl)
    clear h
    go_enter Tryd.func36, Tryd.ntmps36
    go_wp2
    go_ret
    exact ⟨by rw [HR.out]; rfl, 0, rfl⟩
  · have h1 : ((x : Int) == 32) = false := by rw [beq_eq_false_iff_ne]; omega
    have HR := Lib.hid (show (x == 32) = false by rw [beq_eq_false_iff_ne]; exact h)
    clear h
    go_enter Tryd.func36, Tryd.ntmps36
    go_wp2
    go_ret
    exact ⟨by rw [HR.out]; rfl, 0, rfl⟩
theorem prg_Fields (w : World) (s : ByteArray) (hs : s.size ≤ 100000) : Calls Tryd.prog 35 #[.string s, .func (.func 36) #[] #[]] w fun e w' => IsB e w w' (wordsC s.data.toList) := by
  have := Any.strings_FieldsFunc_runes Tryd.strFields 36 #[] (enters_of Tryd.func36 (by kernel_rfl) rfl) (· == 32) s w (by omega) (fun W x _ _ => prg_blank W x) (by kernel_rfl) (by kernel_rfl)
  change Calls Tryd.prog 35 _ _ _ at this
  refine this.mono fun e w' ⟨A, h1, h2, h3, h4⟩ => ?_
  exact ⟨_, _, _, Lib.goFieldsP (· == 32) s, h1, fields_eq s, Sl.of_own h3, fun g o e => by injection e with e; injection e with e1; omega, Fr.of_below h4⟩
end Go.Proofs.YtoegdmpmagbaiaaDoor
