/- What is wrong with a node: the reference's walk. -/
import Derived.Test.YtanhmigknafhkaaDoorFwrong
namespace Go.Proofs.YtanhmigknafhkaaDoor
open Go.RowKit

theorem ref_kids (w : World) (op : Int) : Calls Tryd.prog 87 #[.int .i64 op] w fun e w' => e = .returned (.int .i64 (kidsN op)) ∧ w = w' := by
  go_enter Tryd.func87, Tryd.ntmps87
  go_wp2_with fail
  all_goals
    go_ret
    refine ⟨ret1i ?_, rfl⟩
    unfold kidsN
  all_goals (split <;> (try split) <;> first | rfl | omega | (exfalso; simp at *; omega))
def spansB (op : Int) : Bool := decide (9 ≤ op) && decide (op ≤ 12)
theorem ref_spans (w : World) (op : Int) : Calls Tryd.prog 88 #[.int .i64 op] w fun e w' => e = .returned (.bool (spansB op)) ∧ w = w' := by
  go_enter Tryd.func88, Tryd.ntmps88
  go_wp2_with fail
  all_goals
    go_ret
    refine ⟨ret1b ?_, rfl⟩
    first | (simp_all [spansB]; done) | (simp_all [spansB]; omega)
theorem ref_Right (w : World) (lo hi : Int) : Calls Tryd.prog 90 #[.agg #[.int .i64 lo, .int .i64 hi]] w fun e w' => e = .returned (.bool (spanB lo hi)) ∧ Fr Nob w w' := by
  go_enter Tryd.func90, Tryd.ntmps90
  go_wp2_with fail
  all_goals
    go_ret
    refine ⟨ret1b ?_, (Fr.refl _ _).alloc _⟩
    first | (simp_all [spanB]; done) | (simp_all [spanB]; omega)

set_option maxRecDepth 100000 in
set_option maxHeartbeats 8000000 in
theorem ref_Wrong (w : World) (x : Nd) (A : Option Addr) (n c : Nat) (hsz : x.name.size ≤ 9223372036854775807) :
    Calls Tryd.prog 81 #[fval x A n c] w fun e w' => e = .returned (.int .i64 (wrongN x n)) ∧ Fr Nob w w' := by
  obtain ⟨op, nm, cm, va, lo, hi⟩ := x
  unfold fval
  simp only at hsz ⊢
  by_cases h1 : op < 1
  · have HR := Lib.hid (show wrongN ⟨op, nm, cm, va, lo, hi⟩ n = 1 by simp [wrongN, h1])
    go_enter Tryd.func81, Tryd.ntmps81
    go_wp2_with fail
    go_quiet (fail)
    go_wp2_with fail
    go_ret
    rw [HR.out]
    exact ⟨rfl, ((Fr.refl _ _).alloc _).drewN _⟩
  have h1' : decide (op < 1) = false := by simpa using h1
  have h1'' : 1 ≤ op := by omega
  by_cases h2 : 12 < op
  · have HR := Lib.hid (show wrongN ⟨op, nm, cm, va, lo, hi⟩ n = 1 by simp [wrongN, h2])
    go_enter Tryd.func81, Tryd.ntmps81
    go_wp2_with fail
    go_quiet (fail)
    go_wp2_with fail
    go_ret
    rw [HR.out]
    exact ⟨rfl, ((Fr.refl _ _).alloc _).drewN _⟩
  have h2' : decide (12 < op) = false := by simpa using h2
  have hkd := Lib.hid (fun W => ref_kids W op)
  by_cases h3 : n ≠ kidsN op
  · have HR := Lib.hid (show wrongN ⟨op, nm, cm, va, lo, hi⟩ n = 1 by simp [wrongN, h3])
    have h3' : ((n : Int) == kidsN op) = false := by rw [beq_eq_false_iff_ne]; omega
    clear h3
    generalize (kidsN op : Int) = kd at *
    go_enter Tryd.func81, Tryd.ntmps81
    go_wp2_with fail
    go_quiet ((go_at_call 87; exact Calls.quiet_of_same ((hkd.out _).mono fun _ _ ⟨h1, h2⟩ => ⟨h1, h2.symm⟩)))
    go_wp2_with fail
    go_ret
    rw [HR.out]
    exact ⟨rfl, ((Fr.refl _ _).alloc _).drewN _⟩
  have h3 : n = kidsN op := by omega
  subst h3
  have h3' : ((kidsN op : Int) == kidsN op) = true := by simp
  have hnm := Lib.hid (fun W => ref_Name W nm hsz)
  by_cases h4 : op = 3
  · subst h4
    have hss := Lib.hid (fun W => ref_spans W 3)
    rw [show spansB 3 = false from rfl] at hss
    rw [show kidsN 3 = 0 from rfl] at *
    go_enter Tryd.func81, Tryd.ntmps81
    go_wp2_with fail
    go_quiet ((go_at_call 87; exact Calls.quiet_of_same ((hkd.out _).mono fun _ _ ⟨h1, h2⟩ => ⟨h1, h2.symm⟩)))
    go_wp2_with (first | ((go_at_call 89); refine (hnm.out _).mono ?_; rintro e w1 ⟨rfl, rfl⟩) | ((go_at_call 88); refine (hss.out _).mono ?_; rintro e w1 ⟨rfl, rfl⟩) | ((go_at_call 90); refine (ref_Right _ lo hi).mono ?_; rintro e w1 ⟨rfl, hf⟩))
    all_goals
      go_ret
      refine ⟨ret1i ?_, by first | exact ((Fr.refl _ _).alloc _).drewN _ | exact (((Fr.refl _ _).alloc _).drewN _).call hf (fun _ h _ => h)⟩
      clear hnm hss hkd h1' h1'' h2' h3' hsz
      skip
    all_goals first
      | (simp_all [wrongN, kidsN]; done)
      | (simp_all [wrongN, kidsN]; omega)
      | ((unfold wrongN; repeat' split) <;> first | rfl | (exfalso; simp_all; done) | (exfalso; simp_all; omega))
  have h4' : (op == 3) = false := by rw [beq_eq_false_iff_ne]; exact h4
  have h4'' : (op != 3) = true := by simpa using h4
  have hsp := Lib.hid (show spansB op = decide (9 ≤ op) by unfold spansB; rw [show decide (op ≤ 12) = true by simp; omega, Bool.and_true])
  have hss := Lib.hid (fun W => ref_spans W op)
  rw [hsp.out] at hss
  clear hsp
  have H4 := Lib.hid h4
  clear h4
  go_enter Tryd.func81, Tryd.ntmps81
  go_wp2_with fail
  go_quiet ((go_at_call 87; exact Calls.quiet_of_same ((hkd.out _).mono fun _ _ ⟨h1, h2⟩ => ⟨h1, h2.symm⟩)))
  go_wp2_with (first | ((go_at_call 89); refine (hnm.out _).mono ?_; rintro e w1 ⟨rfl, rfl⟩) | ((go_at_call 88); refine (hss.out _).mono ?_; rintro e w1 ⟨rfl, rfl⟩) | ((go_at_call 90); refine (ref_Right _ lo hi).mono ?_; rintro e w1 ⟨rfl, hf⟩))
  all_goals
    go_ret
    refine ⟨ret1i ?_, by first | exact ((Fr.refl _ _).alloc _).drewN _ | exact (((Fr.refl _ _).alloc _).drewN _).call hf (fun _ h _ => h)⟩
    clear hnm hss hkd h1' h1'' h2' h3' hsz
    clear h4' h4''; have h4 := H4.out
  all_goals first
    | (simp_all [wrongN, kidsN]; done)
    | (simp_all [wrongN, kidsN]; omega)
    | ((unfold wrongN; repeat' split) <;> first | rfl | (exfalso; simp_all; done) | (exfalso; simp_all; omega))
end Go.Proofs.YtanhmigknafhkaaDoor
