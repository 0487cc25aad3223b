/- Right: names, in order, each once. -/
import Derived.Test.YtckmmihbipmkcaaLplain
import Derived.Deep.RegionHeld3
import Derived.IntWalk
namespace Go.Proofs.Ytckmmihbipmkcaa
open Go.RowKit Go.Sort Go.Lib

def okAt (l : List PP) (i : Nat) (p : PP) : Bool := nmOk p.name && (i == 0 || paheadB (l.getD (i - 1) p) p)
def rightB (l : List PP) : Bool := (List.range l.length).all fun i => okAt l i (l.getD i default)
theorem rightB_false {l : List PP} {k : Nat} (hk : k < l.length) (h : okAt l k (l[k]) = false) : rightB l = false := by
  unfold rightB
  rw [List.all_eq_false]
  exact ⟨k, by simpa using hk, by rw [List.getD_eq_getElem?_getD, List.getElem?_eq_getElem hk]; simpa using h⟩
theorem rightB_true {l : List PP} (h : ∀ k, (hk : k < l.length) → okAt l k (l[k]) = true) : rightB l = true := by
  unfold rightB
  rw [List.all_eq_true]
  intro i hi
  have hi' : i < l.length := by simpa using hi
  rw [List.getD_eq_getElem?_getD, List.getElem?_eq_getElem hi']
  exact h i hi'

theorem okAt_zero {l : List PP} {p : PP} : okAt l 0 p = nmOk p.name := by unfold okAt; simp
theorem okAt_succ {l : List PP} {k : Nat} (hk : k < l.length) {p : PP} : okAt l (k + 1) p = (nmOk p.name && paheadB l[k] p) := by
  unfold okAt
  rw [Nat.add_sub_cancel, List.getD_eq_getElem?_getD, List.getElem?_eq_getElem hk]
  simp

theorem lab_orderF (w : World) (a b : PP) :
    Calls Try.prog 40 #[.agg #[.string a.name, .int .i64 a.value], .agg #[.string b.name, .int .i64 b.value]] w fun e w' => e = .returned (.int .i64 (pord a b)) ∧ Fr Nob w w' :=
  (lab_order w a b).mono fun _ _ ⟨he, q, os, hw⟩ => ⟨he, hw ▸ fr_grow w q os⟩

set_option maxHeartbeats 4000000 in
theorem lab_Right (w : World) (A : Option Addr) (c : Nat) (l : List PP) (hl : Sl w 2 A l.length c (l.flatMap pcs)) (hsz : ∀ p ∈ l, p.name.size ≤ 9223372036854775807) :
    Calls Try.prog 29 #[.slice A l.length c] w fun e w' => e = .returned (.bool (rightB l)) ∧ Fr Nob w w' := by
  have HL := Lib.hid hl
  have HZ := Lib.hid hsz
  have hle := hl.le
  have hmx := hl.max
  unfold maxLen at hmx
  clear hl hsz
  go_enter Try.func29, Try.ntmps29
  go_wp2_with fail
  go_loopw [7] (fun i wl => ∃ k : Nat, k ≤ l.length ∧ i = .int .i64 k ∧ Hid (Fr Nob w wl) ∧ Hid (∀ j, (hj : j < l.length) → j < k → okAt l j (l[j]) = true)) (fun i _ => l.length - (intOf i).toNat)
  case atStart => exact ⟨0, Nat.zero_le _, rfl, Lib.hid (Fr.refl Nob w), Lib.hid (fun j _ hj => absurd hj (by omega))⟩
  case round =>
    obtain ⟨k, hk, rfl, hfr, hall⟩ := hrel
    by_cases hlt : k < l.length
    · have hI : (k : Int) < l.length := by omega
      have hI3 : 0 ≤ (k : Int) := by omega
      have HF := Lib.hid (fun h => rightB_false hlt h)
      have HT := Lib.hid (fun (h : okAt l k l[k] = true) => show ∀ j, (hj : j < l.length) → j < k + 1 → okAt l j (l[j]) = true from fun j hj hjk => by
        rcases Nat.lt_succ_iff_lt_or_eq.1 hjk with h' | h'
        · exact hall.out j hj h'
        · subst h'; exact h)
      have HS := Lib.hid (HZ.out l[k] (List.getElem_mem hlt))
      have HX := hfr
      cases k with
      | zero =>
        obtain ⟨ba, off, rfl, hba, d0, d1⟩ := pp_cells (HL.out.pure hfr.out) hlt
        rw [okAt_zero] at HF HT
        generalize l[0] = x at *
        obtain ⟨xn, xv⟩ := x
        simp only [Nat.zero_mul, Nat.add_zero, Nat.zero_add] at d0 d1 HF HT HS
        have HN := Lib.hid (fun W => lab_Name W xn HS.out)
        generalize nmOk xn = nb at *
        cases nb
        all_goals
          go_wp2_with fail
          go_quiet ((go_at_call 46; exact Calls.quiet_of_same ((HN.out _).mono fun _ _ ⟨h1, h2⟩ => ⟨h1, h2.symm⟩)))
          all_goals go_wp2_with fail
        · have HR := Lib.hid (HF.out (by simp))
          go_ret
          exact ⟨ret1b HR.out.symm, (hfr.out.alloc _).drewN _⟩
        · go_roundw
          case rel => exact ⟨1, by omega, by go_num, Lib.hid ((hfr.out.alloc _).drewN _), Lib.hid (HT.out (by simp))⟩
          case measure => simp [intOf]; omega
      | succ k =>
        obtain ⟨ba, off, rfl, hba, d0, d1⟩ := pp_cells (HL.out.pure hfr.out) hlt
        obtain ⟨ba2, off2, he, _, p0, p1⟩ := pp_cells (HL.out.pure hfr.out) (k := k) (by omega)
        cases he
        rw [okAt_succ (by omega)] at HF HT
        have HX : Hid (Fr Nob w wr) := hfr
        generalize l[k + 1] = x at *
        generalize l[k] = y at *
        obtain ⟨xn, xv⟩ := x
        obtain ⟨yn, yv⟩ := y
        simp only at d0 d1 p0 p1 HF HT HS
        have HN := Lib.hid (fun W => lab_Name W xn HS.out)
        have HO := Lib.hid (fun W => lab_orderF W ⟨yn, yv⟩ ⟨xn, xv⟩)
        have hk0 : (0 : Int) ≤ (k : Int) := by omega
        have hk1 : (k : Int) < l.length := by omega
        have hk2 : (k : Int) < c := by omega
        have e1 : IntKind.i64.wrap (k : Int) = (k : Int) := IntWalk.i64_in _ (by omega)
        have e2 : IntKind.i64.wrap ((k : Int) + 1 - 1) = (k : Int) := by rw [show (k : Int) + 1 - 1 = (k : Int) by omega]; exact e1
        generalize nmOk xn = nb at *
        cases nb
        · go_wp2_with fail
          go_quiet ((go_at_call 46; exact Calls.quiet_of_same ((HN.out _).mono fun _ _ ⟨h1, h2⟩ => ⟨h1, h2.symm⟩)))
          all_goals go_wp2_with fail
          have HR := Lib.hid (HF.out (by simp))
          go_ret
          exact ⟨ret1b HR.out.symm, (hfr.out.alloc _).drewN _⟩
        · simp only [Bool.true_and] at HF HT
          unfold paheadB at HF HT
          generalize pord ⟨yn, yv⟩ ⟨xn, xv⟩ = r at *
          by_cases hr : r < 0
          all_goals
            go_wp2_with fail
            go_region_held3 (fun w' => w'.cell? ⟨wr.heap.size, 0, none⟩ = some (.string xn) ∧ w'.cell? ⟨wr.heap.size, 1, none⟩ = some (.int .i64 xv) ∧ w'.cell? ⟨ba, off + k * 2, none⟩ = some (.string yn) ∧ w'.cell? ⟨ba, off + k * 2 + 1, none⟩ = some (.int .i64 yv)) (first | go_keep | (go_split_ands; refine ⟨?_, ?_, ?_, ?_⟩ <;> exact Fr.cell hf1 (by assumption) (fun e => e))) (first | ((go_at_call 46); refine (HN.out _).mono ?_; rintro e w1 ⟨rfl, rfl⟩) | ((go_at_call 40); refine (HO.out _).mono ?_; rintro e w1 ⟨rfl, hf1⟩))
            all_goals go_wp2_with fail
          · go_roundw
            case rel => exact ⟨k + 1 + 1, by omega, by go_num, Lib.hid ((hfr.out.alloc _).drew.call hf1 (fun _ h _ => h)), Lib.hid (HT.out (by simpa using hr))⟩
            case measure => simp [intOf]; omega
          · have HR := Lib.hid (HF.out (by simpa using hr))
            go_ret
            exact ⟨ret1b HR.out.symm, (hfr.out.alloc _).drew.call hf1 (fun _ h _ => h)⟩
    · have HR := Lib.hid (rightB_true (l := l) (fun k' hk' => hall.out k' hk' (by omega)))
      go_wp2_with fail
      go_ret
      exact ⟨ret1b HR.out.symm, hfr.out⟩
end Go.Proofs.Ytckmmihbipmkcaa
