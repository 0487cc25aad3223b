/- The walks of label and its reference that make nothing: ahead, holds, right, same, few. -/
import Derived.Test.YtaikenlhapfboaaLord
namespace Go.Proofs.Ytaikenlhapfboaa
open Go.RowKit Go.Sort

theorem fr_grow (w : World) (q : Nat) (os : Array Obj) : Fr Nob w (grow (w.drewN q) os) := by
  have h : ∀ (os : List Obj) (v : World), Fr Nob w v → Fr Nob w (grow v os.toArray) := by
    intro os
    induction os with
    | nil => intro v hv; simpa [grow] using hv
    | cons o os ih => intro v hv; have := ih _ (hv.alloc o); rwa [alloc_eq_grow, grow_grow, show #[o] ++ os.toArray = (o :: os).toArray by simp] at this
  simpa using h os.toList _ ((Fr.refl Nob w).drewN q)

theorem ref_Ahead (w : World) (a b : PP) :
    Calls Try.prog 30 #[.agg #[.string a.name, .int .i64 a.value], .agg #[.string b.name, .int .i64 b.value]] w fun e w' => e = .returned (.bool (paheadB a b)) ∧ Fr Nob w w' := by
  by_cases hl : Op.bytesLess a.name.toList b.name.toList = true
  · have H := Lib.hid (pahead_less hl)
    go_enter Try.func30, Try.ntmps30
    go_wp2
    go_ret
    exact ⟨ret1b H.out.symm, ((Fr.refl Nob w).alloc _).alloc _⟩
  · by_cases he : a.name.toList = b.name.toList
    · have H := Lib.hid (pahead_eq he)
      generalize hd : decide (a.value < b.value) = d at H
      go_enter Try.func30, Try.ntmps30
      go_wp2
      all_goals go_ret
      all_goals exact ⟨by rw [H.out]; first | rfl | exact ret1b hd | simp_all, ((Fr.refl Nob w).alloc _).alloc _⟩
    · have H := Lib.hid (pahead_no hl he)
      go_enter Try.func30, Try.ntmps30
      go_wp2
      all_goals go_ret
      all_goals exact ⟨ret1b H.out.symm, ((Fr.refl Nob w).alloc _).alloc _⟩

theorem pp_cells {w : World} {A : Option Addr} {c : Nat} {l : List PP} {k : Nat} (h : Sl w 2 A l.length c (l.flatMap pcs)) (hk : k < l.length) :
    ∃ b off, A = some ⟨b, off, none⟩ ∧ b < w.heap.size ∧ w.cell? ⟨b, off + k * 2, none⟩ = some (.string l[k].name) ∧ w.cell? ⟨b, off + k * 2 + 1, none⟩ = some (.int .i64 l[k].value) := by
  obtain ⟨b, off, hA, hb, hc⟩ := Sl.row (size := 2) pcs_len h hk
  exact ⟨b, off, hA, hb, hc 0 _ rfl, by rw [Nat.add_assoc]; exact hc 1 _ rfl⟩

def holdsB (l : List PP) (n : ByteArray) (op v : Int) : Bool := l.any fun p => p.name.toList == n.toList && meets p.value op v
theorem holds_snoc {l : List PP} {n : ByteArray} {op v : Int} {k : Nat} (hk : k < l.length) (h : holdsB (l.take k) n op v = false) (h2 : (l[k].name.toList == n.toList && meets l[k].value op v) = false) : holdsB (l.take (k + 1)) n op v = false := by
  unfold holdsB at *
  rw [List.take_succ_eq_append_getElem hk, List.any_append, h]
  simpa using h2
theorem holds_at {l : List PP} {n : ByteArray} {op v : Int} {k : Nat} (hk : k < l.length) (h2 : (l[k].name.toList == n.toList && meets l[k].value op v) = true) : holdsB l n op v = true := by
  unfold holdsB
  rw [List.any_eq_true]
  exact ⟨l[k], List.getElem_mem hk, h2⟩

set_option maxHeartbeats 1000000 in
theorem lab_Holds (w : World) (A : Option Addr) (c : Nat) (l : List PP) (n : ByteArray) (op v : Int) (hl : Sl w 2 A l.length c (l.flatMap pcs)) :
    Calls Try.prog 13 #[.slice A l.length c, .agg #[.string n, .int .i64 op, .int .i64 v]] w fun e w' => e = .returned (.bool (holdsB l n op v)) ∧ Fr Nob w w' := by
  have HL := Lib.hid hl
  have hle := hl.le
  have hmx := hl.max
  unfold maxLen at hmx
  clear hl
  go_enter Try.func13, Try.ntmps13
  go_wp2_with fail
  go_loopw [9] (fun i wl => ∃ k : Nat, k ≤ l.length ∧ i = .int .i64 k ∧ Hid (Fr Nob w wl) ∧ Hid (Blk wl w.heap.size 26 #[.string n, .int .i64 op, .int .i64 v]) ∧ Hid (holdsB (l.take k) n op v = false)) (fun i _ => l.length - (intOf i).toNat)
  case atStart => exact ⟨0, Nat.zero_le _, rfl, Lib.hid ((Fr.refl Nob w).alloc _), Lib.hid (Blk.new _ _ _), Lib.hid rfl⟩
  case round =>
    obtain ⟨k, hk, rfl, hfr, hbx, hno⟩ := hrel
    have c0 := hbx.out.cell
    have hbl := Blk.lt hbx.out
    by_cases hlt : k < l.length
    · have hI : (k : Int) < l.length := by omega
      have hI3 : 0 ≤ (k : Int) := by omega
      obtain ⟨ba, off, rfl, hba, d0, d1⟩ := pp_cells (HL.out.pure hfr.out) hlt
      have HY := Lib.hid (fun h2 => holds_at (n := n) (op := op) (v := v) hlt h2)
      have HN := Lib.hid (fun h2 => holds_snoc hlt hno.out h2)
      generalize l[k] = x at *
      obtain ⟨xn, xv⟩ := x
      simp only at d0 d1 HY HN
      by_cases hn : xn.toList = n.toList
      · have hn' : (xn.toList == n.toList) = true := by simpa using hn
        rw [hn', Bool.true_and] at HY HN
        go_wp2_with ((go_at_call 22); refine (lab_stands _ _ _ _).mono ?_; rintro e w1 ⟨rfl, rfl⟩)
        · have HR := Lib.hid (HY.out (by assumption))
          go_ret
          exact ⟨ret1b HR.out.symm, by first | exact hfr.out | exact hfr.out.alloc _⟩
        · have HR := Lib.hid (HN.out (by assumption))
          go_roundw
          case rel => exact ⟨k + 1, by omega, by go_num, by first | exact Lib.hid hfr.out | exact Lib.hid (hfr.out.alloc _), by first | exact hbx | exact Lib.hid (hbx.out.alloc _), HR⟩
          case measure => simp [intOf]; omega
      · have hn' : (xn.toList == n.toList) = false := by simpa using hn
        rw [hn', Bool.false_and] at HN
        have HR := Lib.hid (HN.out rfl)
        clear HN HY
        go_wp2_with fail
        go_roundw
        case rel => exact ⟨k + 1, by omega, by go_num, by first | exact hfr | exact Lib.hid (hfr.out.alloc _), by first | exact hbx | exact Lib.hid (hbx.out.alloc _), HR⟩
        case measure => simp [intOf]; omega
    · have hkk : k = l.length := by omega
      have HR := Lib.hid (show holdsB l n op v = false by rw [← hno.out, List.take_of_length_le (by omega)])
      go_wp2_with fail
      go_ret
      exact ⟨ret1b HR.out.symm, hfr.out⟩
set_option maxHeartbeats 1000000 in
theorem ref_Holds (w : World) (A : Option Addr) (c : Nat) (l : List PP) (n : ByteArray) (op v : Int) (hl : Sl w 2 A l.length c (l.flatMap pcs)) :
    Calls Try.prog 14 #[.slice A l.length c, .agg #[.string n, .int .i64 op, .int .i64 v]] w fun e w' => e = .returned (.bool (holdsB l n op v)) ∧ Fr Nob w w' := by
  have HL := Lib.hid hl
  have hle := hl.le
  have hmx := hl.max
  unfold maxLen at hmx
  clear hl
  go_enter Try.func14, Try.ntmps14
  go_wp2_with fail
  go_loopw [5] (fun i wl => ∃ k : Nat, k ≤ l.length ∧ i = .int .i64 k ∧ Hid (Fr Nob w wl) ∧ Hid (Blk wl w.heap.size 30 #[.string n, .int .i64 op, .int .i64 v]) ∧ Hid (holdsB (l.take k) n op v = false)) (fun i _ => l.length - (intOf i).toNat)
  case atStart => exact ⟨0, Nat.zero_le _, rfl, Lib.hid ((Fr.refl Nob w).alloc _), Lib.hid (Blk.new _ _ _), Lib.hid rfl⟩
  case round =>
    obtain ⟨k, hk, rfl, hfr, hbx, hno⟩ := hrel
    have c0 := hbx.out.cell
    have hbl := Blk.lt hbx.out
    by_cases hlt : k < l.length
    · have hI : (k : Int) < l.length := by omega
      have hI3 : 0 ≤ (k : Int) := by omega
      obtain ⟨ba, off, rfl, hba, d0, d1⟩ := pp_cells (HL.out.pure hfr.out) hlt
      have HY := Lib.hid (fun h2 => holds_at (n := n) (op := op) (v := v) hlt h2)
      have HN := Lib.hid (fun h2 => holds_snoc hlt hno.out h2)
      generalize l[k] = x at *
      obtain ⟨xn, xv⟩ := x
      simp only at d0 d1 HY HN
      by_cases hn : xn.toList = n.toList
      · have hn' : (xn.toList == n.toList) = true := by simpa using hn
        rw [hn', Bool.true_and] at HY HN
        have HM := fun W => ref_Meets W xv op v
        generalize meets xv op v = mb at *
        cases mb
        all_goals
          go_wp2_with fail
          go_quiet ((go_at_call 23; exact Calls.quiet_of_same ((HM _).mono fun _ _ ⟨h1, h2⟩ => ⟨h1, h2.symm⟩)))
          go_wp2_with fail
        rotate_left
        · have HR := Lib.hid (HY.out (by simp))
          go_ret
          exact ⟨ret1b HR.out.symm, by first | exact hfr.out | exact hfr.out.drewN _⟩
        · have HR := Lib.hid (HN.out (by simp))
          go_roundw
          case rel => exact ⟨k + 1, by omega, by go_num, by first | exact Lib.hid hfr.out | exact Lib.hid (hfr.out.drewN _), by first | exact hbx | exact Lib.hid (hbx.out.drewN _), HR⟩
          case measure => simp [intOf]; omega
      · have hn' : (xn.toList == n.toList) = false := by simpa using hn
        rw [hn', Bool.false_and] at HN
        have HR := Lib.hid (HN.out rfl)
        clear HN HY
        go_wp2_with fail
        go_quiet (fail)
        go_wp2_with fail
        go_roundw
        case rel => exact ⟨k + 1, by omega, by go_num, by first | exact hfr | exact Lib.hid (hfr.out.drewN _), by first | exact hbx | exact Lib.hid (hbx.out.drewN _), HR⟩
        case measure => simp [intOf]; omega
    · have hkk : k = l.length := by omega
      have HR := Lib.hid (show holdsB l n op v = false by rw [← hno.out, List.take_of_length_le (by omega)])
      go_wp2_with fail
      go_ret
      exact ⟨ret1b HR.out.symm, hfr.out⟩
end Go.Proofs.Ytaikenlhapfboaa
