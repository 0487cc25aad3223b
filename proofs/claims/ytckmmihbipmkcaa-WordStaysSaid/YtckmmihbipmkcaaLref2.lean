/- The reference's right, same; few: walks. -/
import Derived.Test.YtckmmihbipmkcaaLref
namespace Go.Proofs.Ytckmmihbipmkcaa
open Go.RowKit Go.Sort Go.Lib

set_option maxHeartbeats 4000000 in
theorem ref_Right (w : World) (A : Option Addr) (c : Nat) (l : List PP) (hl : Sl w 2 A l.length c (l.flatMap pcs)) (hsz : ∀ p ∈ l, p.name.size ≤ 9223372036854775807) :
    Calls Try.prog 26 #[.slice A l.length c] w fun e w' => e = .returned (.bool (rightB l)) ∧ Fr Nob w w' := by
  have HL := Lib.hid hl
  have HZ := Lib.hid hsz
  have hle := hl.le
  have hmx := hl.max
  unfold maxLen at hmx
  clear hl hsz
  go_enter Try.func26, Try.ntmps26
  go_wp2_with fail
  go_loopw [3] (fun i wl => ∃ k : Nat, k ≤ l.length ∧ i = .int .i64 k ∧ Hid (Fr Nob w wl) ∧ Hid (∀ j, (hj : j < l.length) → j < k → okAt l j (l[j]) = true)) (fun i _ => l.length - (intOf i).toNat)
  case atStart => exact ⟨0, Nat.zero_le _, rfl, Lib.hid (Fr.refl Nob w), Lib.hid (fun j _ hj => absurd hj (by omega))⟩
  case round =>
    obtain ⟨k, hk, rfl, hfr, hall⟩ := hrel
    by_cases hlt : k < l.length
    · have hI : (k : Int) < l.length := by omega
      have hI3 : 0 ≤ (k : Int) := by omega
      have HF := Lib.hid (fun h => rightB_false hlt h)
      have HT := Lib.hid (fun (h : okAt l k l[k] = true) => show ∀ j, (hj : j < l.length) → j < k + 1 → okAt l j (l[j]) = true from fun j hj hjk => by
        rcases Nat.lt_succ_iff_lt_or_eq.1 hjk with h' | h'
        · exact hall.out j hj h'
        · subst h'; exact h)
      have HS := Lib.hid (HZ.out l[k] (List.getElem_mem hlt))
      have HX := hfr
      cases k with
      | zero =>
        obtain ⟨ba, off, rfl, hba, d0, d1⟩ := pp_cells (HL.out.pure hfr.out) hlt
        rw [okAt_zero] at HF HT
        generalize l[0] = x at *
        obtain ⟨xn, xv⟩ := x
        simp only [Nat.zero_mul, Nat.add_zero, Nat.zero_add] at d0 d1 HF HT HS
        have HN := Lib.hid (fun W => ref_Name W xn HS.out)
        generalize nmOk xn = nb at *
        cases nb
        all_goals
          go_wp2_with fail
          go_quiet ((go_at_call 44; exact Calls.quiet_of_same ((HN.out _).mono fun _ _ ⟨h1, h2⟩ => ⟨h1, h2.symm⟩)))
          all_goals go_wp2_with fail
        · have HR := Lib.hid (HF.out (by simp))
          go_ret
          exact ⟨ret1b HR.out.symm, hfr.out.drewN _⟩
        · go_roundw
          case rel => exact ⟨1, by omega, by go_num, Lib.hid (hfr.out.drewN _), Lib.hid (HT.out (by simp))⟩
          case measure => simp [intOf]; omega
      | succ k =>
        obtain ⟨ba, off, rfl, hba, d0, d1⟩ := pp_cells (HL.out.pure hfr.out) hlt
        obtain ⟨ba2, off2, he, _, p0, p1⟩ := pp_cells (HL.out.pure hfr.out) (k := k) (by omega)
        cases he
        rw [okAt_succ (by omega)] at HF HT
        have HX : Hid (Fr Nob w wr) := hfr
        generalize l[k + 1] = x at *
        generalize l[k] = y at *
        obtain ⟨xn, xv⟩ := x
        obtain ⟨yn, yv⟩ := y
        simp only at d0 d1 p0 p1 HF HT HS
        have HN := Lib.hid (fun W => ref_Name W xn HS.out)
        have HO := Lib.hid (fun W => ref_Ahead W ⟨yn, yv⟩ ⟨xn, xv⟩)
        have hk0 : (0 : Int) ≤ (k : Int) := by omega
        have hk1 : (k : Int) < l.length := by omega
        have hk2 : (k : Int) < c := by omega
        have hk3 : (k : Int) + 1 < l.length := by omega
        have hk4 : (0 : Int) ≤ (k : Int) + 1 := by omega
        have e1 : IntKind.i64.wrap (k : Int) = (k : Int) := IntWalk.i64_in _ (by omega)
        have e2 : IntKind.i64.wrap ((k : Int) + 1 - 1) = (k : Int) := by rw [show (k : Int) + 1 - 1 = (k : Int) by omega]; exact e1
        generalize nmOk xn = nb at *
        cases nb
        · go_wp2_with fail
          go_quiet ((go_at_call 44; exact Calls.quiet_of_same ((HN.out _).mono fun _ _ ⟨h1, h2⟩ => ⟨h1, h2.symm⟩)))
          all_goals go_wp2_with fail
          have HR := Lib.hid (HF.out (by simp))
          go_ret
          exact ⟨ret1b HR.out.symm, hfr.out.drewN _⟩
        · simp only [Bool.true_and] at HF HT
          generalize paheadB ⟨yn, yv⟩ ⟨xn, xv⟩ = r at *
          cases r
          rotate_left
          all_goals
            go_wp2_with fail
            go_region_held3 (fun w' => w'.cell? ⟨ba, off + (k + 1) * 2, none⟩ = some (.string xn) ∧ w'.cell? ⟨ba, off + (k + 1) * 2 + 1, none⟩ = some (.int .i64 xv) ∧ w'.cell? ⟨ba, off + k * 2, none⟩ = some (.string yn) ∧ w'.cell? ⟨ba, off + k * 2 + 1, none⟩ = some (.int .i64 yv)) (first | go_keep | (go_split_ands; refine ⟨?_, ?_, ?_, ?_⟩ <;> exact Fr.cell hf1 (by assumption) (fun e => e))) (first | ((go_at_call 44); refine (HN.out _).mono ?_; rintro e w1 ⟨rfl, rfl⟩) | ((go_at_call 45); refine (HO.out _).mono ?_; rintro e w1 ⟨rfl, hf1⟩))
            all_goals go_wp2_with fail
          · go_roundw
            case rel => exact ⟨k + 1 + 1, by omega, by go_num, Lib.hid (hfr.out.drew.call hf1 (fun _ h _ => h)), Lib.hid (HT.out (by simp))⟩
            case measure => simp [intOf]; omega
          · have HR := Lib.hid (HF.out (by simp))
            go_ret
            exact ⟨ret1b HR.out.symm, hfr.out.drew.call hf1 (fun _ h _ => h)⟩
    · have HR := Lib.hid (rightB_true (l := l) (fun k' hk' => hall.out k' hk' (by omega)))
      go_wp2_with fail
      go_ret
      exact ⟨ret1b HR.out.symm, hfr.out⟩

def sameB (a b : List PP) : Bool := decide (a = b)
theorem same_ne_at {a b : List PP} {k : Nat} (hl : a.length = b.length) (hk : k < a.length) (h : ppeq a[k] (b[k]'(hl ▸ hk)) = false) : sameB a b = false := by
  unfold sameB
  rw [decide_eq_false_iff_not]
  rintro rfl
  rw [(ppeq_iff _ _).2 rfl] at h; cases h
theorem same_len {a b : List PP} (hl : a.length ≠ b.length) : sameB a b = false := by
  unfold sameB
  rw [decide_eq_false_iff_not]
  rintro rfl; exact hl rfl
theorem same_all {a b : List PP} (hl : a.length = b.length) (h : ∀ k, (hk : k < a.length) → ppeq a[k] (b[k]'(hl ▸ hk)) = true) : sameB a b = true := by
  unfold sameB
  rw [decide_eq_true_iff]
  exact List.ext_getElem hl fun i h1 h2 => (ppeq_iff _ _).1 (h i h1)

set_option maxHeartbeats 4000000 in
theorem ref_Same (w : World) (A : Option Addr) (c : Nat) (a : List PP) (B : Option Addr) (d : Nat) (b : List PP) (ha : Sl w 2 A a.length c (a.flatMap pcs)) (hb : Sl w 2 B b.length d (b.flatMap pcs)) :
    Calls Try.prog 28 #[.slice A a.length c, .slice B b.length d] w fun e w' => e = .returned (.bool (sameB a b)) ∧ Fr Nob w w' := by
  have HA := Lib.hid ha
  have HB := Lib.hid hb
  have hle := ha.le
  have hmx := ha.max
  have hle2 := hb.le
  have hmx2 := hb.max
  unfold maxLen at hmx hmx2
  clear ha hb
  have hn : ∀ (xn yn : ByteArray) (xv yv : Int) (w : World), Sem.run Try.prog (binOp .neq 51 (.agg #[.string xn, .int .i64 xv]) (.agg #[.string yn, .int .i64 yv])) w = .ok (.bool (!ppeq ⟨xn, xv⟩ ⟨yn, yv⟩)) w := fun xn yn xv yv w => pp_neq ⟨xn, xv⟩ ⟨yn, yv⟩ w
  have hg : ∀ (op : BinOp) (a b : Operand) (xn yn : ByteArray) (xv yv : Int) (w : World), Sem.run Try.prog (eqGuard op 51 a b (.agg #[.string xn, .int .i64 xv]) (.agg #[.string yn, .int .i64 yv])) w = .ok () w := fun op a b xn yn xv yv w => pp_guard op a b ⟨xn, xv⟩ ⟨yn, yv⟩ w
  by_cases hne : a.length = b.length
  · have hneI : ((a.length : Int) != (b.length : Int)) = false := by simp [hne]
    have HNE := Lib.hid hne
    have hI0 : (a.length : Int) = b.length := by omega
    have HI0 := Lib.hid hI0
    clear hI0 hne
    go_enter Try.func28, Try.ntmps28
    go_wp2_with fail
    go_loopw [5] (fun i wr => ∃ k : Nat, k ≤ a.length ∧ i = .int .i64 k ∧ Hid (Fr Nob w wr) ∧ Hid (∀ j, (hj : j < a.length) → j < k → ppeq a[j] (b[j]'(HNE.out ▸ hj)) = true)) (fun i _ => a.length - (intOf i).toNat)
    case atStart => exact ⟨0, Nat.zero_le _, rfl, Lib.hid (Fr.refl Nob w), Lib.hid (fun j _ hj => absurd hj (by omega))⟩
    case round =>
      obtain ⟨k, hk, rfl, hfr, hall⟩ := hrel
      by_cases hlt : k < a.length
      · have hltb : k < b.length := HNE.out ▸ hlt
        have hI : (k : Int) < a.length := by omega
        have hIb : (k : Int) < b.length := by omega
        have hI3 : 0 ≤ (k : Int) := by omega
        have HF := Lib.hid (fun h => same_ne_at HNE.out hlt h)
        have HT := Lib.hid (fun (h : ppeq a[k] b[k] = true) => show ∀ j, (hj : j < a.length) → j < k + 1 → ppeq a[j] (b[j]'(HNE.out ▸ hj)) = true from fun j hj hjk => by
          rcases Nat.lt_succ_iff_lt_or_eq.1 hjk with h' | h'
          · exact hall.out j hj h'
          · subst h'; exact h)
        obtain ⟨ba, off, rfl, hba, d0, d1⟩ := pp_cells (HA.out.pure hfr.out) hlt
        obtain ⟨ba2, off2, rfl, hba2, p0, p1⟩ := pp_cells (HB.out.pure hfr.out) hltb
        generalize a[k] = x at *
        generalize b[k] = y at *
        obtain ⟨xn, xv⟩ := x
        obtain ⟨yn, yv⟩ := y
        simp only at d0 d1 p0 p1
        generalize hpe : ppeq ⟨xn, xv⟩ ⟨yn, yv⟩ = pe at HF HT
        cases pe
        · go_wp2_with fail
          go_quiet (fail)
          go_wp2_with fail
          have HR := Lib.hid (HF.out (by simp))
          go_ret
          exact ⟨ret1b HR.out.symm, hfr.out.drewN _⟩
        · go_wp2_with fail
          go_quiet (fail)
          go_wp2_with fail
          go_roundw
          case rel => exact ⟨k + 1, by omega, by go_num, Lib.hid (hfr.out.drewN _), Lib.hid (HT.out (by simp))⟩
          case measure => simp [intOf]; omega
      · have HR := Lib.hid (same_all HNE.out (fun k' hk' => hall.out k' hk' (by omega)))
        clear hn hg
        go_wp2_with fail
        go_ret
        exact ⟨ret1b HR.out.symm, hfr.out⟩
  · have hneI : ((a.length : Int) != (b.length : Int)) = true := by rw [bne_iff_ne]; omega
    have HR := Lib.hid (same_len hne)
    clear hne hn hg
    go_enter Try.func28, Try.ntmps28
    go_wp2_with fail
    go_ret
    exact ⟨ret1b HR.out.symm, Fr.refl Nob w⟩

def fewB (l : List PP) : Bool := l.all (fun p => decide (p.name.size ≤ 40)) && decide (l.length ≤ 40)
theorem few_no {l : List PP} {k : Nat} (hk : k < l.length) (h : 40 < l[k].name.size) : fewB l = false := by
  unfold fewB
  rw [Bool.and_eq_false_iff]
  left
  rw [List.all_eq_false]
  exact ⟨l[k], List.getElem_mem hk, by simp; omega⟩
theorem few_all {l : List PP} (h : ∀ k, (hk : k < l.length) → l[k].name.size ≤ 40) : fewB l = decide (l.length ≤ 40) := by
  unfold fewB
  have : l.all (fun p => decide (p.name.size ≤ 40)) = true := by
    rw [List.all_eq_true]
    intro x hx
    obtain ⟨i, hi, rfl⟩ := List.getElem_of_mem hx
    simpa using h i hi
  rw [this, Bool.true_and]
theorem few_len {l : List PP} (h : fewB l = true) : l.length ≤ 40 := by
  unfold fewB at h
  rw [Bool.and_eq_true, decide_eq_true_iff] at h
  exact h.2
end Go.Proofs.Ytckmmihbipmkcaa
