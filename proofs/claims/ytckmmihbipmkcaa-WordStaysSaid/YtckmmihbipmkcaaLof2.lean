/- slices.Clone and slices.Compact at propositions. -/
import Derived.Test.YtckmmihbipmkcaaLof1
import Derived.Laws.StructEq
import Derived.Lib.SliceRun
namespace Go.Proofs.Ytckmmihbipmkcaa
open Go.RowKit Go.Sort Go.Shelf

theorem elemPP : ElemT Try.prog 30 51 2 24 := ElemT.mk (z := .agg #[.string default, .int .i64 0]) Try.underlying30 (by kernel_rfl) (by kernel_rfl) (by decide)

theorem pcs_one {l : List PP} : ∀ u ∈ l.flatMap pcs, u.oneCell' = true := by
  intro u hu
  simp only [List.mem_flatMap] at hu
  obtain ⟨x, _, hx⟩ := hu
  simp [pcs] at hx
  rcases hx with rfl | rfl <;> rfl

/-- A row that the call owns, or none. -/
theorem lab_Clone (w : World) (A : Option Addr) (c : Nat) (l : List PP) (hl : Sl w 2 A l.length c (l.flatMap pcs)) (h63 : l.length ≤ 10000) :
    Calls Try.prog 38 #[.slice A l.length c] w fun e w' => ∃ A' c', e = .returned (.slice A' l.length c') ∧ w'.ownsRow w.heap.size 51 2 (.slice A' l.length c') l.length (l.flatMap pcs) ∧ Fr Nob w w' := by
  have HL := Lib.hid hl
  have hm := hl.max
  have hle := hl.le
  have hnil := hl.nil
  unfold maxLen at hm
  clear hl
  have q24 : ∀ (w : World) (a : Option Addr) (n c n' c' : Nat), Sem.run Try.prog (binOp .eql 30 (.slice a n c) (.slice none n' c')) w = .ok (.bool a.isNone) w := fun w a n c n' c' => Lib.run_eql_slice_nil w _ _ a n c n' c' Try.underlying30
  cases A with
  | none =>
    have h0 : l = [] := List.eq_nil_of_length_eq_zero (by have := hnil rfl; omega)
    subst h0
    clear hnil
    go_enter Try.func38, Try.ntmps38
    go_wp2_with fail
    go_ret
    exact ⟨none, 0, rfl, ⟨rfl, .inl ⟨rfl, rfl⟩⟩, Fr.refl _ _⟩
  | some a =>
    clear hnil
    go_enter Try.func38, Try.ntmps38
    go_wp2_with (at_builtin; refine wpList_app rfl _ _ 30 rfl elemPP (base := w.heap.size) (xs := []) (news := l.flatMap pcs) rfl ?own rfl ?src ?one ?h63 ?hby ?hbase ?_)
    case own => exact World.ownsRow_made w #[] 0 (Nat.le_refl _) (Nat.zero_le _) (by simp)
    case src => exact HL.out.alloc _
    case one => exact pcs_one
    case h63 => unfold maxLen; omega
    case hby => omega
    case hbase => simp
    intro A' c' w1 hown hgr hlies
    go_wp2_with fail
    go_ret
    dsimp only at hown ⊢
    exact ⟨A', c', rfl, hown, ((Fr.refl Nob w).alloc _).grown hgr (fun k hk hlt => by simp at hk; omega)⟩

end Go.Proofs.Ytckmmihbipmkcaa
