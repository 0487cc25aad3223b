/- What is wrong with a node: the program's walk, and the reference's. -/
import Derived.Test.YtoegdmpmagbaiaaGreatDoorKA
import Derived.Test.YtoegdmpmagbaiaaGreatDoorQLname
namespace Go.Proofs.YtoegdmpmagbaiaaGreatDoor
open Go.RowKit

/-- May a span be? -/
def spanB (lo hi : Int) : Bool := decide (0 ≤ lo) && decide (lo ≤ hi)
/-- What is wrong with a node with so many kids. -/
def wrongN (x : Nd) (n : Nat) : Int :=
  if x.op < 1 ∨ 12 < x.op ∨ n ≠ kidsN x.op then 1
  else if x.op ≠ 3 ∧ (x.name.toList ≠ [] ∨ x.cmp ≠ 0 ∨ x.val ≠ 0) then 1
  else if x.op < 9 ∧ (x.lo ≠ 0 ∨ x.hi ≠ 0) then 1
  else if x.cmp < 0 ∨ 6 < x.cmp ∨ (x.cmp = 0 ∧ x.val ≠ 0) then 1
  else if x.op = 3 ∧ nmOk x.name = false then 21
  else if 9 ≤ x.op ∧ spanB x.lo x.hi = false then 24 else 0

/-- What formula.shapes holds: kids, where a kind stands, where its kids stand. -/
def shapeL : List (Int × Int × Int × Int) := [(0, 0, 0, 0), (0, 7, 0, 0), (0, 7, 0, 0), (0, 7, 0, 0), (1, 6, 6, 0), (2, 4, 4, 5), (2, 3, 3, 4), (2, 2, 3, 2), (2, 1, 1, 2), (1, 6, 6, 0), (1, 6, 6, 0), (2, 5, 6, 5), (2, 5, 6, 5)]
def ShVar (w : World) : Prop := ∀ k (h : k < shapeL.length), w.cell? ⟨3, k * 4, none⟩ = some (.int .i64 shapeL[k].1) ∧ w.cell? ⟨3, k * 4 + 1, none⟩ = some (.int .i64 shapeL[k].2.1) ∧
  w.cell? ⟨3, k * 4 + 2, none⟩ = some (.int .i64 shapeL[k].2.2.1) ∧ w.cell? ⟨3, k * 4 + 3, none⟩ = some (.int .i64 shapeL[k].2.2.2)
theorem ShVar.fr {w w' : World} (h : ShVar w) (hf : Fr Nob w w') : ShVar w' := fun k hk =>
  ⟨hf.cell (h k hk).1 (fun e => e), hf.cell (h k hk).2.1 (fun e => e), hf.cell (h k hk).2.2.1 (fun e => e), hf.cell (h k hk).2.2.2 (fun e => e)⟩
theorem shape_kids : ∀ k (h : k < shapeL.length), shapeL[k].1 = kidsN k := by
  intro k h
  simp only [shapeL, List.length_cons, List.length_nil] at h
  have : k = 0 ∨ k = 1 ∨ k = 2 ∨ k = 3 ∨ k = 4 ∨ k = 5 ∨ k = 6 ∨ k = 7 ∨ k = 8 ∨ k = 9 ∨ k = 10 ∨ k = 11 ∨ k = 12 := by omega
  rcases this with rfl | rfl | rfl | rfl | rfl | rfl | rfl | rfl | rfl | rfl | rfl | rfl | rfl <;> rfl

theorem sat_Right (w : World) (lo hi : Int) : Calls Tryz.prog 130 #[.agg #[.int .i64 lo, .int .i64 hi]] w fun e w' => e = .returned (.bool (spanB lo hi)) ∧ Fr Nob w w' := by
  by_cases h1 : 0 ≤ lo
  · by_cases h2 : lo ≤ hi
    · have HR := Lib.hid (show spanB lo hi = true by simp [spanB, h1, h2])
      go_enter Tryz.func130, Tryz.ntmps130
      go_wp2_with fail
      go_ret
      rw [HR.out]
      exact ⟨rfl, (Fr.refl _ _).alloc _⟩
    · have HR := Lib.hid (show spanB lo hi = false by simp [spanB, h2])
      have h2' : hi < lo := by omega
      go_enter Tryz.func130, Tryz.ntmps130
      go_wp2_with fail
      go_ret
      rw [HR.out]
      exact ⟨rfl, (Fr.refl _ _).alloc _⟩
  · have HR := Lib.hid (show spanB lo hi = false by simp [spanB, h1])
    have h1' : lo < 0 := by omega
    go_enter Tryz.func130, Tryz.ntmps130
    go_wp2_with fail
    go_ret
    rw [HR.out]
    exact ⟨rfl, (Fr.refl _ _).alloc _⟩

set_option maxRecDepth 100000 in
set_option maxHeartbeats 4000000 in
theorem prg_wrong (w : World) (b off : Nat) (x : Nd) (A : Option Addr) (n c : Nat) (hv : ShVar w) (hsz : x.name.size ≤ 9223372036854775807) (hn : NdAt w b off x A n c) :
    Calls Tryz.prog 85 #[.pointer (some ⟨b, off, none⟩)] w fun e w' => e = .returned (.int .i64 (wrongN x n)) ∧ Fr Nob w w' := by
  obtain ⟨d0, d1, d2, d3, d4, d5, d6⟩ := hn
  obtain ⟨op, nm, cm, va, lo, hi⟩ := x
  simp only at d0 d1 d2 d3 d4 d5 d6 hsz
  by_cases h1 : op < 1
  · have HR := Lib.hid (show wrongN ⟨op, nm, cm, va, lo, hi⟩ n = 1 by simp [wrongN, h1])
    go_enter Tryz.func85, Tryz.ntmps85
    go_wp2_with fail
    go_quiet (fail)
    go_wp2_with fail
    go_ret
    rw [HR.out]
    exact ⟨rfl, (Fr.refl _ _).drewN _⟩
  have h1' : decide (op < 1) = false := by simpa using h1
  have h1'' : 1 ≤ op := by omega
  by_cases h2 : 12 < op
  · have HR := Lib.hid (show wrongN ⟨op, nm, cm, va, lo, hi⟩ n = 1 by simp [wrongN, h2])
    go_enter Tryz.func85, Tryz.ntmps85
    go_wp2_with fail
    go_quiet (fail)
    go_wp2_with fail
    go_ret
    rw [HR.out]
    exact ⟨rfl, (Fr.refl _ _).drewN _⟩
  have h2' : decide (12 < op) = false := by simpa using h2
  obtain ⟨k, rfl⟩ : ∃ k : Nat, op = k := ⟨op.toNat, by omega⟩
  have hk13 : (k : Int) < 13 := by omega
  have hk0 : (0 : Int) ≤ k := by omega
  have hks := (hv k (by simp [shapeL]; omega)).1
  rw [shape_kids] at hks
  by_cases h3 : n ≠ kidsN k
  · have HR := Lib.hid (show wrongN ⟨k, nm, cm, va, lo, hi⟩ n = 1 by simp [wrongN, h3])
    have h3' : ((n : Int) == kidsN k) = false := by rw [beq_eq_false_iff_ne]; omega
    clear h3
    go_enter Tryz.func85, Tryz.ntmps85
    go_wp2_with fail
    go_quiet (fail)
    go_wp2_with fail
    go_ret
    rw [HR.out]
    exact ⟨rfl, (Fr.refl _ _).drewN _⟩
  have h3 : n = kidsN k := by omega
  subst h3
  have h3' : ((kidsN k : Int) == kidsN k) = true := by simp
  have hnm := Lib.hid (fun W => lab_Name W nm hsz)
  go_enter Tryz.func85, Tryz.ntmps85
  go_wp2_with fail
  go_quiet (fail)
  go_wp2_with (first | ((go_at_call 58); refine (hnm.out _).mono ?_; rintro e w1 ⟨rfl, rfl⟩) | ((go_at_call 130); refine (sat_Right _ lo hi).mono ?_; rintro e w1 ⟨rfl, hf⟩))
  all_goals
    go_ret
    refine ⟨ret1i ?_, by first | exact (Fr.refl _ _).drewN _ | exact ((Fr.refl _ _).drewN _).call hf (fun _ h _ => h)⟩
    clear d0 d1 d2 d3 d4 d5 d6 hks hnm h1' h1'' h2' hk13 hk0 h3' h3 hv hsz
  all_goals first
    | (simp_all [wrongN]; done)
    | (simp_all [wrongN]; omega)
    | skip
/- What is wrong with a node: the reference's walk. -/
open Go.RowKit

end Go.Proofs.YtoegdmpmagbaiaaGreatDoor
