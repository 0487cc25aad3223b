/- How a value stands to an atom's, how two propositions stand. -/
import Derived.Test.YtaikenlhapfboaaLname
import Derived.Test.YtaikenlhapfboaaOpen
namespace Go.Proofs.Ytaikenlhapfboaa
open Go.RowKit

structure PP where
  name : ByteArray
  value : Int
def pcs (p : PP) : List Value := [.string p.name, .int .i64 p.value]
theorem pcs_len (p : PP) : (pcs p).length = 2 := rfl

def meets (v op x : Int) : Bool :=
  if op = 0 then true else if op = 1 then v == x else if op = 2 then v != x else if op = 3 then decide (v < x) else if op = 4 then decide (v ≤ x) else if op = 5 then decide (x < v) else if op = 6 then decide (x ≤ v) else false

set_option maxHeartbeats 1000000 in
theorem lab_stands (w : World) (v op x : Int) :
    Calls Try.prog 22 #[.int .i64 v, .int .i64 op, .int .i64 x] w fun e w' => e = .returned (.bool (meets v op x)) ∧ w = w' := by
  by_cases h0 : op = 0
  · subst h0
    go_enter Try.func22, Try.ntmps22
    go_wp2
    all_goals (go_ret; exact ⟨rfl, rfl⟩)
  by_cases h1 : op = 1
  · subst h1
    go_enter Try.func22, Try.ntmps22
    go_wp2
    all_goals (go_ret; exact ⟨rfl, rfl⟩)
  by_cases h2 : op = 2
  · subst h2
    go_enter Try.func22, Try.ntmps22
    go_wp2
    all_goals (go_ret; exact ⟨rfl, rfl⟩)
  by_cases h3 : op = 3
  · subst h3
    go_enter Try.func22, Try.ntmps22
    go_wp2
    all_goals (go_ret; exact ⟨rfl, rfl⟩)
  by_cases h4 : op = 4
  · subst h4
    go_enter Try.func22, Try.ntmps22
    go_wp2
    all_goals (go_ret; exact ⟨rfl, rfl⟩)
  by_cases h5 : op = 5
  · subst h5
    go_enter Try.func22, Try.ntmps22
    go_wp2
    all_goals (go_ret; exact ⟨rfl, rfl⟩)
  by_cases h6 : op = 6
  · subst h6
    go_enter Try.func22, Try.ntmps22
    go_wp2
    all_goals (go_ret; exact ⟨by simp [meets], rfl⟩)
  have H := Lib.hid (show meets v op x = false by unfold meets; rw [if_neg h0, if_neg h1, if_neg h2, if_neg h3, if_neg h4, if_neg h5, if_neg h6])
  go_enter Try.func22, Try.ntmps22
  go_wp2
  all_goals (go_ret; exact ⟨ret1b H.out.symm, rfl⟩)
set_option maxHeartbeats 1000000 in
theorem ref_Meets (w : World) (v op x : Int) :
    Calls Try.prog 23 #[.int .i64 v, .int .i64 op, .int .i64 x] w fun e w' => e = .returned (.bool (meets v op x)) ∧ w = w' := by
  by_cases h0 : op = 0
  · subst h0
    go_enter Try.func23, Try.ntmps23
    go_wp2
    all_goals (go_ret; exact ⟨rfl, rfl⟩)
  by_cases h1 : op = 1
  · subst h1
    go_enter Try.func23, Try.ntmps23
    go_wp2
    all_goals (go_ret; exact ⟨rfl, rfl⟩)
  by_cases h2 : op = 2
  · subst h2
    go_enter Try.func23, Try.ntmps23
    go_wp2
    all_goals (go_ret; exact ⟨rfl, rfl⟩)
  by_cases h3 : op = 3
  · subst h3
    go_enter Try.func23, Try.ntmps23
    go_wp2
    all_goals (go_ret; exact ⟨rfl, rfl⟩)
  by_cases h4 : op = 4
  · subst h4
    go_enter Try.func23, Try.ntmps23
    go_wp2
    all_goals (go_ret; exact ⟨rfl, rfl⟩)
  by_cases h5 : op = 5
  · subst h5
    go_enter Try.func23, Try.ntmps23
    go_wp2
    all_goals (go_ret; exact ⟨rfl, rfl⟩)
  by_cases h6 : op = 6
  · subst h6
    go_enter Try.func23, Try.ntmps23
    go_wp2
    all_goals (go_ret; exact ⟨by simp [meets], rfl⟩)
  have H := Lib.hid (show meets v op x = false by unfold meets; rw [if_neg h0, if_neg h1, if_neg h2, if_neg h3, if_neg h4, if_neg h5, if_neg h6])
  go_enter Try.func23, Try.ntmps23
  go_wp2
  all_goals (go_ret; exact ⟨ret1b H.out.symm, rfl⟩)

end Go.Proofs.Ytaikenlhapfboaa
