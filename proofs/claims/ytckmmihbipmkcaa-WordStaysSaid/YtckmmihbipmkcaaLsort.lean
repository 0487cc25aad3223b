/- How two propositions stand: the program's order, the reference's. -/
import Derived.Test.YtckmmihbipmkcaaLbase
import Derived.Test.YtckmmihbipmkcaaLlays
namespace Go.Proofs.Ytckmmihbipmkcaa
open Go.RowKit Go.Shelf Go.Sort


def pord (a b : PP) : Int := if Lib.compareBytes a.name.data.toList b.name.data.toList ≠ 0 then Lib.compareBytes a.name.data.toList b.name.data.toList else Lib.compareInt a.value b.value
def paheadB (a b : PP) : Bool := decide (pord a b < 0)
set_option maxHeartbeats 1000000 in
theorem lab_order (w : World) (a b : PP) :
    Calls Try.prog 40 #[.agg #[.string a.name, .int .i64 a.value], .agg #[.string b.name, .int .i64 b.value]] w fun e w' => e = .returned (.int .i64 (pord a b)) ∧ ∃ q os', w' = grow (w.drewN q) os' := by
  have hs := fun W' => Any.strings_Compare Try.strCmp a.name b.name W'
  change ∀ W', Calls Try.prog 51 _ _ _ at hs
  have hi := fun W' => AnyG.cmp_Compare_int Try.cmpInt a.value b.value W'
  change ∀ W', Calls Try.prog 32 _ _ _ at hi
  have HP := Lib.hid (show pord a b = if Lib.compareBytes a.name.data.toList b.name.data.toList ≠ 0 then Lib.compareBytes a.name.data.toList b.name.data.toList else Lib.compareInt a.value b.value from rfl)
  generalize Lib.compareInt a.value b.value = r at *
  generalize Lib.compareBytes a.name.data.toList b.name.data.toList = s at *
  by_cases h0 : s = 0
  · subst h0
    go_enter Try.func40, Try.ntmps40
    go_wp2_with (first | (go_at_call 51; refine (hs _).mono ?_; rintro e w' ⟨rfl, rfl⟩) | (go_at_call 32; refine (hi _).mono ?_; rintro e w' ⟨rfl, rfl⟩))
    go_ret
    exact ⟨by rw [HP.out]; rfl, 0, _, by simp only [alloc_eq_grow, grow_grow]; rfl⟩
  · go_enter Try.func40, Try.ntmps40
    go_wp2_with (first | (go_at_call 51; refine (hs _).mono ?_; rintro e w' ⟨rfl, rfl⟩) | (go_at_call 32; refine (hi _).mono ?_; rintro e w' ⟨rfl, rfl⟩))
    go_ret
    exact ⟨by rw [HP.out, if_pos h0]; rfl, 0, _, by simp only [alloc_eq_grow, grow_grow]; rfl⟩
end Go.Proofs.Ytckmmihbipmkcaa
