/- The label laws, walked. -/
import Derived.Test.YtaikenlhapfboaaLunion
namespace Go.Proofs.Ytaikenlhapfboaa
open Go.RowKit Go.Sort Go.Lib

theorem law_Names (w : World) (s : ByteArray) (hs : s.size ≤ 9223372036854775807) : Calls Try.prog 3 #[.string s] w fun e w' => e = .returned (.bool true) ∧ Fr Nob w w' := by
  have HN := Lib.hid (fun W => lab_Name W s hs)
  have HR := Lib.hid (fun W => ref_Name W s hs)
  generalize nmOk s = nb at *
  have hnn : (nb == nb) = true := by simp
  go_enter Try.func3, Try.ntmps3
  go_wp2_with fail
  refine (law_awake _).mono ?_
  rintro e w1 ⟨rfl, hf⟩
  have F1 := Lib.hid hf
  clear hf
  by_cases h200 : 200 < s.size
  · have hI : (200 : Int) < s.size := by omega
    go_wp2_with fail
    go_ret
    exact ⟨rfl, F1.out⟩
  · have hI : ¬ (200 : Int) < s.size := by omega
    go_wp2_with fail
    refine (HN.out _).mono ?_
    rintro e w2 ⟨rfl, rfl⟩
    go_wp2_with fail
    refine (HR.out _).mono ?_
    rintro e w2 ⟨rfl, rfl⟩
    go_wp2_with fail
    go_ret
    exact ⟨by simp, F1.out⟩

set_option maxRecDepth 100000 in
set_option maxHeartbeats 4000000 in
theorem law_Holds (w : World) (A : Option Addr) (c : Nat) (l : List PP) (n : ByteArray) (op v : Int) (hl : Sl w 2 A l.length c (l.flatMap pcs)) :
    Calls Try.prog 4 #[.slice A l.length c, .agg #[.string n, .int .i64 op, .int .i64 v]] w fun e w' => e = .returned (.bool true) ∧ Fr Nob w w' := by
  have HL := Lib.hid hl
  clear hl
  have HW := Lib.hid (fun W (h : Fr Nob w W) => law_few W A c l (HL.out.pure h))
  have HA := Lib.hid (fun W (h : Fr Nob w W) => lab_Holds W A c l n op v (HL.out.pure h))
  have HB := Lib.hid (fun W (h : Fr Nob w W) => ref_Holds W A c l n op v (HL.out.pure h))
  generalize holdsB l n op v = hb at *
  generalize fewB l = fb at *
  go_enter Try.func4, Try.ntmps4
  go_wp2_with fail
  refine (law_awake _).mono ?_
  rintro e w1 ⟨rfl, hf⟩
  have F1 := Lib.hid (((Fr.refl Nob w).alloc _).call hf (fun _ h _ => h))
  have B1 := Lib.hid ((Blk.new w 26 #[.string n, .int .i64 op, .int .i64 v]).fr hf (fun e => e))
  have b0 := B1.out.cell 0
  have b1 := B1.out.cell 1
  have b2 := B1.out.cell 2
  clear hf
  go_wp2_with fail
  refine (HW.out _ F1.out).mono ?_
  rintro e w2 ⟨rfl, rfl⟩
  cases fb
  · go_wp2_with fail
    go_ret
    exact ⟨rfl, F1.out⟩
  · go_wp2_with fail
    go_region_held3 (fun w' => w'.cell? ⟨w.heap.size, 0, none⟩ = some (.string n) ∧ w'.cell? ⟨w.heap.size, 1, none⟩ = some (.int .i64 op) ∧ w'.cell? ⟨w.heap.size, 2, none⟩ = some (.int .i64 v)) (first | go_keep | (go_split_ands; refine ⟨?_, ?_, ?_⟩ <;> first | exact Fr.cell hfa (by assumption) (fun e => e) | exact Fr.cell hfb (by assumption) (fun e => e)))
      (first
        | ((go_at_call 13); refine (HA.out _ ?_).mono ?_; (first | exact F1.out.drew | exact F1.out.drew.call hfb (fun _ h _ => h)); rintro e wa ⟨rfl, hfa⟩)
        | ((go_at_call 14); refine (HB.out _ ?_).mono ?_; (first | exact F1.out.drew | exact F1.out.drew.call hfa (fun _ h _ => h)); rintro e wb ⟨rfl, hfb⟩))
    all_goals
      go_wp2_with fail
      go_ret
      exact ⟨by simp, by first | exact (F1.out.drew.call hfa (fun _ h _ => h)).call hfb (fun _ h _ => h) | exact (F1.out.drew.call hfb (fun _ h _ => h)).call hfa (fun _ h _ => h)⟩

theorem holds_one {p : PP} {op v : Int} : holdsB [p] p.name op v = meets p.value op v := by simp [holdsB]
theorem holds_any {p : PP} {n : ByteArray} : holdsB [p] n 0 0 = (p.name.toList == n.toList) := by simp [holdsB, meets]

set_option maxRecDepth 100000 in
set_option maxHeartbeats 8000000 in
theorem law_Opposite (w : World) (p : PP) (v : Int) (other : ByteArray) :
    Calls Try.prog 5 #[.agg #[.string p.name, .int .i64 p.value], .int .i64 v, .string other] w fun e w' => e = .returned (.bool true) ∧ Fr Nob w w' := by
  obtain ⟨pn, pv⟩ := p
  have HO := Lib.hid (show ∀ b : Bool, (pn.toList == other.toList) = b → (other.toList == pn.toList) = b by intro b h; rw [← h, Bool.eq_iff_iff, beq_iff_eq, beq_iff_eq]; exact ⟨Eq.symm, Eq.symm⟩)
  have H0 := Lib.hid (holds_any (p := ⟨pn, pv⟩) (n := other))
  simp only at H0
  obtain ⟨bo, hbo⟩ : ∃ bo, (pn.toList == other.toList) = bo := ⟨_, rfl⟩
  rw [hbo] at H0
  have hbo2 := HO.out bo hbo
  clear hbo HO
  go_enter Try.func5, Try.ntmps5
  go_wp2_with fail
  refine (law_awake _).mono ?_
  rintro e w1 ⟨rfl, hf⟩
  have F1' := Lib.hid (((Fr.refl Nob w).alloc (.cells #[.string pn, .int .i64 pv] 32)).call hf (fun _ h _ => h))
  have B1' := Lib.hid ((Blk.new w 32 #[.string pn, .int .i64 pv]).fr hf (fun e => e))
  have b0 := B1'.out.cell 0
  have b1 := B1'.out.cell 1
  have hwl : w.heap.size < w1.heap.size := Blk.lt B1'.out
  clear hf
  have F1 := Lib.hid (F1'.out.alloc (.cells #[.string pn, .int .i64 pv] 32))
  have B1 := Lib.hid (B1'.out.fr ((Fr.refl Nob w1).alloc (.cells #[.string pn, .int .i64 pv] 32)) (fun e => e))
  have S1 := Lib.hid (Sl.new1 (Blk.new w1 32 #[.string pn, .int .i64 pv]) 2 1 rfl (by decide))
  have F2 := Lib.hid (Fr.refl Nob (w1.alloc (.cells #[.string pn, .int .i64 pv] 32)))
  rcases Int.lt_trichotomy pv v with hc | hc | hc
  ·
    have H1 := Lib.hid (show holdsB [⟨pn, pv⟩] pn 1 v = false by rw [holds_one]; simp [meets]; try omega)
    have H2 := Lib.hid (show holdsB [⟨pn, pv⟩] pn 2 v = true by rw [holds_one]; simp [meets]; try omega)
    have H3 := Lib.hid (show holdsB [⟨pn, pv⟩] pn 3 v = true by rw [holds_one]; simp [meets]; try omega)
    have H4 := Lib.hid (show holdsB [⟨pn, pv⟩] pn 4 v = true by rw [holds_one]; simp [meets]; try omega)
    have H5 := Lib.hid (show holdsB [⟨pn, pv⟩] pn 5 v = false by rw [holds_one]; simp [meets]; try omega)
    have H6 := Lib.hid (show holdsB [⟨pn, pv⟩] pn 6 v = false by rw [holds_one]; simp [meets]; try omega)
    clear hc
    cases bo
    all_goals
      go_wp2_with fail
      refine (lab_Holds _ _ 1 [⟨pn, pv⟩] pn 3 v (S1.out.pure F2.out)).mono ?_
      rw [H3.out]
      rintro e w3 ⟨rfl, hf⟩
      have F3 := Lib.hid (F2.out.call hf (fun _ h _ => h))
      have c3 := (B1.out.fr F3.out (fun e => e)).cell 0
      clear hf
      go_wp2_with fail
      refine (lab_Holds _ _ 1 [⟨pn, pv⟩] pn 1 v (S1.out.pure F3.out)).mono ?_
      rw [H1.out]
      rintro e w4 ⟨rfl, hf⟩
      have F4 := Lib.hid (F3.out.call hf (fun _ h _ => h))
      have c4 := (B1.out.fr F4.out (fun e => e)).cell 0
      clear hf
      clear c3
      go_wp2_with fail
      refine (lab_Holds _ _ 1 [⟨pn, pv⟩] pn 5 v (S1.out.pure F4.out)).mono ?_
      rw [H5.out]
      rintro e w5 ⟨rfl, hf⟩
      have F5 := Lib.hid (F4.out.call hf (fun _ h _ => h))
      have c5 := (B1.out.fr F5.out (fun e => e)).cell 0
      clear hf
      clear c4
      go_wp2_with fail
      refine (lab_Holds _ _ 1 [⟨pn, pv⟩] pn 4 v (S1.out.pure F5.out)).mono ?_
      rw [H4.out]
      rintro e w6 ⟨rfl, hf⟩
      have F6 := Lib.hid (F5.out.call hf (fun _ h _ => h))
      have c6 := (B1.out.fr F6.out (fun e => e)).cell 0
      clear hf
      clear c5
      go_wp2_with fail
      refine (lab_Holds _ _ 1 [⟨pn, pv⟩] pn 6 v (S1.out.pure F6.out)).mono ?_
      rw [H6.out]
      rintro e w7 ⟨rfl, hf⟩
      have F7 := Lib.hid (F6.out.call hf (fun _ h _ => h))
      have c7 := (B1.out.fr F7.out (fun e => e)).cell 0
      clear hf
      clear c6
      go_wp2_with fail
      refine (lab_Holds _ _ 1 [⟨pn, pv⟩] pn 5 v (S1.out.pure F7.out)).mono ?_
      rw [H5.out]
      rintro e w8 ⟨rfl, hf⟩
      have F8 := Lib.hid (F7.out.call hf (fun _ h _ => h))
      have c8 := (B1.out.fr F8.out (fun e => e)).cell 0
      clear hf
      clear c7
      go_wp2_with fail
      refine (lab_Holds _ _ 1 [⟨pn, pv⟩] pn 3 v (S1.out.pure F8.out)).mono ?_
      rw [H3.out]
      rintro e w9 ⟨rfl, hf⟩
      have F9 := Lib.hid (F8.out.call hf (fun _ h _ => h))
      have c9 := (B1.out.fr F9.out (fun e => e)).cell 0
      clear hf
      clear c8
      go_wp2_with fail
      refine (lab_Holds _ _ 1 [⟨pn, pv⟩] pn 2 v (S1.out.pure F9.out)).mono ?_
      rw [H2.out]
      rintro e w10 ⟨rfl, hf⟩
      have F10 := Lib.hid (F9.out.call hf (fun _ h _ => h))
      have c10 := (B1.out.fr F10.out (fun e => e)).cell 0
      clear hf
      clear c9
      go_wp2_with fail
      refine (lab_Holds _ _ 1 [⟨pn, pv⟩] other 0 0 (S1.out.pure F10.out)).mono ?_
      rw [H0.out]
      rintro e w11 ⟨rfl, hf⟩
      have F11 := Lib.hid (F10.out.call hf (fun _ h _ => h))
      have c11 := (B1.out.fr F11.out (fun e => e)).cell 0
      clear hf c10
      go_wp2_with fail
      go_ret
      exact ⟨rfl, F1.out.call F11.out (fun _ h _ => h)⟩
  ·
    have H1 := Lib.hid (show holdsB [⟨pn, pv⟩] pn 1 v = true by rw [holds_one]; simp [meets]; try omega)
    have H2 := Lib.hid (show holdsB [⟨pn, pv⟩] pn 2 v = false by rw [holds_one]; simp [meets]; try omega)
    have H3 := Lib.hid (show holdsB [⟨pn, pv⟩] pn 3 v = false by rw [holds_one]; simp [meets]; try omega)
    have H4 := Lib.hid (show holdsB [⟨pn, pv⟩] pn 4 v = true by rw [holds_one]; simp [meets]; try omega)
    have H5 := Lib.hid (show holdsB [⟨pn, pv⟩] pn 5 v = false by rw [holds_one]; simp [meets]; try omega)
    have H6 := Lib.hid (show holdsB [⟨pn, pv⟩] pn 6 v = true by rw [holds_one]; simp [meets]; try omega)
    clear hc
    cases bo
    all_goals
      go_wp2_with fail
      refine (lab_Holds _ _ 1 [⟨pn, pv⟩] pn 3 v (S1.out.pure F2.out)).mono ?_
      rw [H3.out]
      rintro e w3 ⟨rfl, hf⟩
      have F3 := Lib.hid (F2.out.call hf (fun _ h _ => h))
      have c3 := (B1.out.fr F3.out (fun e => e)).cell 0
      clear hf
      go_wp2_with fail
      refine (lab_Holds _ _ 1 [⟨pn, pv⟩] pn 1 v (S1.out.pure F3.out)).mono ?_
      rw [H1.out]
      rintro e w4 ⟨rfl, hf⟩
      have F4 := Lib.hid (F3.out.call hf (fun _ h _ => h))
      have c4 := (B1.out.fr F4.out (fun e => e)).cell 0
      clear hf
      clear c3
      go_wp2_with fail
      refine (lab_Holds _ _ 1 [⟨pn, pv⟩] pn 5 v (S1.out.pure F4.out)).mono ?_
      rw [H5.out]
      rintro e w5 ⟨rfl, hf⟩
      have F5 := Lib.hid (F4.out.call hf (fun _ h _ => h))
      have c5 := (B1.out.fr F5.out (fun e => e)).cell 0
      clear hf
      clear c4
      go_wp2_with fail
      refine (lab_Holds _ _ 1 [⟨pn, pv⟩] pn 4 v (S1.out.pure F5.out)).mono ?_
      rw [H4.out]
      rintro e w6 ⟨rfl, hf⟩
      have F6 := Lib.hid (F5.out.call hf (fun _ h _ => h))
      have c6 := (B1.out.fr F6.out (fun e => e)).cell 0
      clear hf
      clear c5
      go_wp2_with fail
      refine (lab_Holds _ _ 1 [⟨pn, pv⟩] pn 6 v (S1.out.pure F6.out)).mono ?_
      rw [H6.out]
      rintro e w7 ⟨rfl, hf⟩
      have F7 := Lib.hid (F6.out.call hf (fun _ h _ => h))
      have c7 := (B1.out.fr F7.out (fun e => e)).cell 0
      clear hf
      clear c6
      go_wp2_with fail
      refine (lab_Holds _ _ 1 [⟨pn, pv⟩] pn 5 v (S1.out.pure F7.out)).mono ?_
      rw [H5.out]
      rintro e w8 ⟨rfl, hf⟩
      have F8 := Lib.hid (F7.out.call hf (fun _ h _ => h))
      have c8 := (B1.out.fr F8.out (fun e => e)).cell 0
      clear hf
      clear c7
      go_wp2_with fail
      refine (lab_Holds _ _ 1 [⟨pn, pv⟩] pn 3 v (S1.out.pure F8.out)).mono ?_
      rw [H3.out]
      rintro e w9 ⟨rfl, hf⟩
      have F9 := Lib.hid (F8.out.call hf (fun _ h _ => h))
      have c9 := (B1.out.fr F9.out (fun e => e)).cell 0
      clear hf
      clear c8
      go_wp2_with fail
      refine (lab_Holds _ _ 1 [⟨pn, pv⟩] pn 2 v (S1.out.pure F9.out)).mono ?_
      rw [H2.out]
      rintro e w10 ⟨rfl, hf⟩
      have F10 := Lib.hid (F9.out.call hf (fun _ h _ => h))
      have c10 := (B1.out.fr F10.out (fun e => e)).cell 0
      clear hf
      clear c9
      go_wp2_with fail
      refine (lab_Holds _ _ 1 [⟨pn, pv⟩] other 0 0 (S1.out.pure F10.out)).mono ?_
      rw [H0.out]
      rintro e w11 ⟨rfl, hf⟩
      have F11 := Lib.hid (F10.out.call hf (fun _ h _ => h))
      have c11 := (B1.out.fr F11.out (fun e => e)).cell 0
      clear hf c10
      go_wp2_with fail
      go_ret
      exact ⟨rfl, F1.out.call F11.out (fun _ h _ => h)⟩
  ·
    have H1 := Lib.hid (show holdsB [⟨pn, pv⟩] pn 1 v = false by rw [holds_one]; simp [meets]; try omega)
    have H2 := Lib.hid (show holdsB [⟨pn, pv⟩] pn 2 v = true by rw [holds_one]; simp [meets]; try omega)
    have H3 := Lib.hid (show holdsB [⟨pn, pv⟩] pn 3 v = false by rw [holds_one]; simp [meets]; try omega)
    have H4 := Lib.hid (show holdsB [⟨pn, pv⟩] pn 4 v = false by rw [holds_one]; simp [meets]; try omega)
    have H5 := Lib.hid (show holdsB [⟨pn, pv⟩] pn 5 v = true by rw [holds_one]; simp [meets]; try omega)
    have H6 := Lib.hid (show holdsB [⟨pn, pv⟩] pn 6 v = true by rw [holds_one]; simp [meets]; try omega)
    clear hc
    cases bo
    all_goals
      go_wp2_with fail
      refine (lab_Holds _ _ 1 [⟨pn, pv⟩] pn 3 v (S1.out.pure F2.out)).mono ?_
      rw [H3.out]
      rintro e w3 ⟨rfl, hf⟩
      have F3 := Lib.hid (F2.out.call hf (fun _ h _ => h))
      have c3 := (B1.out.fr F3.out (fun e => e)).cell 0
      clear hf
      go_wp2_with fail
      refine (lab_Holds _ _ 1 [⟨pn, pv⟩] pn 1 v (S1.out.pure F3.out)).mono ?_
      rw [H1.out]
      rintro e w4 ⟨rfl, hf⟩
      have F4 := Lib.hid (F3.out.call hf (fun _ h _ => h))
      have c4 := (B1.out.fr F4.out (fun e => e)).cell 0
      clear hf
      clear c3
      go_wp2_with fail
      refine (lab_Holds _ _ 1 [⟨pn, pv⟩] pn 5 v (S1.out.pure F4.out)).mono ?_
      rw [H5.out]
      rintro e w5 ⟨rfl, hf⟩
      have F5 := Lib.hid (F4.out.call hf (fun _ h _ => h))
      have c5 := (B1.out.fr F5.out (fun e => e)).cell 0
      clear hf
      clear c4
      go_wp2_with fail
      refine (lab_Holds _ _ 1 [⟨pn, pv⟩] pn 4 v (S1.out.pure F5.out)).mono ?_
      rw [H4.out]
      rintro e w6 ⟨rfl, hf⟩
      have F6 := Lib.hid (F5.out.call hf (fun _ h _ => h))
      have c6 := (B1.out.fr F6.out (fun e => e)).cell 0
      clear hf
      clear c5
      go_wp2_with fail
      refine (lab_Holds _ _ 1 [⟨pn, pv⟩] pn 6 v (S1.out.pure F6.out)).mono ?_
      rw [H6.out]
      rintro e w7 ⟨rfl, hf⟩
      have F7 := Lib.hid (F6.out.call hf (fun _ h _ => h))
      have c7 := (B1.out.fr F7.out (fun e => e)).cell 0
      clear hf
      clear c6
      go_wp2_with fail
      refine (lab_Holds _ _ 1 [⟨pn, pv⟩] pn 5 v (S1.out.pure F7.out)).mono ?_
      rw [H5.out]
      rintro e w8 ⟨rfl, hf⟩
      have F8 := Lib.hid (F7.out.call hf (fun _ h _ => h))
      have c8 := (B1.out.fr F8.out (fun e => e)).cell 0
      clear hf
      clear c7
      go_wp2_with fail
      refine (lab_Holds _ _ 1 [⟨pn, pv⟩] pn 3 v (S1.out.pure F8.out)).mono ?_
      rw [H3.out]
      rintro e w9 ⟨rfl, hf⟩
      have F9 := Lib.hid (F8.out.call hf (fun _ h _ => h))
      have c9 := (B1.out.fr F9.out (fun e => e)).cell 0
      clear hf
      clear c8
      go_wp2_with fail
      refine (lab_Holds _ _ 1 [⟨pn, pv⟩] pn 2 v (S1.out.pure F9.out)).mono ?_
      rw [H2.out]
      rintro e w10 ⟨rfl, hf⟩
      have F10 := Lib.hid (F9.out.call hf (fun _ h _ => h))
      have c10 := (B1.out.fr F10.out (fun e => e)).cell 0
      clear hf
      clear c9
      go_wp2_with fail
      refine (lab_Holds _ _ 1 [⟨pn, pv⟩] other 0 0 (S1.out.pure F10.out)).mono ?_
      rw [H0.out]
      rintro e w11 ⟨rfl, hf⟩
      have F11 := Lib.hid (F10.out.call hf (fun _ h _ => h))
      have c11 := (B1.out.fr F11.out (fun e => e)).cell 0
      clear hf c10
      go_wp2_with fail
      go_ret
      exact ⟨rfl, F1.out.call F11.out (fun _ h _ => h)⟩
end Go.Proofs.Ytaikenlhapfboaa
