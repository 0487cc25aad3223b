/- The reference's parse: its smallest acts: sign, bad, two, span, compare. -/
import Derived.Test.YtfebkjoohnlifaaDoorQ3
namespace Go.Proofs.YtfebkjoohnlifaaDoor
open Go.RowKit Go.Shelf

/-- What the reference's reading answers, as a value. -/
def rval (x : Nd) (B : Option Addr) (n d : Nat) (k e : Int) : Value := .agg #[.int .i64 x.op, .string x.name, .int .i64 x.cmp, .int .i64 x.val, .int .i64 x.lo, .int .i64 x.hi, .slice B n d, .int .i64 k, .int .i64 e]
section
variable {w : World} {A : Option Addr} {c : Nat} {toks : List (TK × Nat)} {k : Nat}
/-- A token's cells in a row of tokens. -/
structure TkAt (w : World) (A : Option Addr) (x : TK × Nat) (k b off : Nat) : Prop where
  hA : A = some ⟨b, off, none⟩
  lt : b < w.heap.size
  d0 : w.cell? ⟨b, off + k * 4, none⟩ = some (.int .i64 x.1.kind)
  d1 : w.cell? ⟨b, off + k * 4 + 1, none⟩ = some (.string ⟨x.1.text.toArray⟩)
  d2 : w.cell? ⟨b, off + k * 4 + 2, none⟩ = some (.int .i64 x.1.num)
  d3 : w.cell? ⟨b, off + k * 4 + 3, none⟩ = some (.int .i64 x.2)
theorem tkAt (h : Sl w 4 A toks.length c (toks.flatMap tcs)) (hk : k < toks.length) : ∃ b off, TkAt w A toks[k] k b off := by
  obtain ⟨b, off, hA, hb, hc⟩ := Sl.row (size := 4) tcs_len h hk
  exact ⟨b, off, hA, hb, by simpa using hc 0 _ rfl, by simpa [Nat.add_assoc] using hc 1 _ rfl, by simpa [Nat.add_assoc] using hc 2 _ rfl, by simpa [Nat.add_assoc] using hc 3 _ rfl⟩
end
set_option maxHeartbeats 1000000 in
theorem rf_sign (W : World) (A : Option Addr) (c : Nat) (toks : List (TK × Nat)) (k : Nat) (h : Sl W 4 A toks.length c (toks.flatMap tcs)) (hk : k < toks.length) (s : List UInt8) :
    Calls Tryd.prog 82 #[.slice A toks.length c, .int .i64 k, .string ⟨s.toArray⟩] W fun en w' => en = .returned (.bool (tsg toks[k] s)) ∧ w' = W := by
  obtain ⟨b, off, hT⟩ := tkAt h hk
  have hI : (k : Int) < toks.length := by omega
  have hI0 : 0 ≤ (k : Int) := by omega
  obtain ⟨rfl, hb, d0, d1, d2, d3⟩ := hT
  unfold tsg
  generalize toks[k] = x at *
  obtain ⟨⟨kd, tx, nm⟩, pl⟩ := x
  dsimp only at *
  clear h
  by_cases h3 : kd = 3
  · subst h3
    cases hs : tx == s
    · go_enter Tryd.func82, Tryd.ntmps82
      go_wp2_with fail
      go_ret
      exact ⟨rfl, rfl⟩
    · go_enter Tryd.func82, Tryd.ntmps82
      go_wp2_with fail
      go_ret
      exact ⟨rfl, rfl⟩
  · have h3' : (kd == 3) = false := by simpa using h3
    rw [h3']
    go_enter Tryd.func82, Tryd.ntmps82
    go_wp2_with fail
    go_ret
    exact ⟨rfl, rfl⟩

theorem rf_sign' (W : World) (A : Option Addr) (c : Nat) (toks : List (TK × Nat)) (k : Nat) (h : Sl W 4 A toks.length c (toks.flatMap tcs)) (hk : k < toks.length) (s : List UInt8) {ki : Int} (hki : ki = k) :
    Calls Tryd.prog 82 #[.slice A toks.length c, .int .i64 ki, .string ⟨s.toArray⟩] W fun en w' => en = .returned (.bool (tsg toks[k] s)) ∧ w' = W := by
  subst hki; exact rf_sign W A c toks k h hk s
set_option maxHeartbeats 1000000 in
theorem rf_bad (W : World) (k e : Int) : Calls Tryd.prog 50 #[.int .i64 k, .int .i64 e] W fun en w' => en = .returned (rval (nd1 0 0 0) none 0 0 k e) ∧ Fr Nob W w' := by
  unfold rval nd1
  go_enter Tryd.func50, Tryd.ntmps50
  go_wp2_with fail
  refine bodyPost_ret (v := .agg #[.int .i64 0, .string ⟨#[]⟩, .int .i64 0, .int .i64 0, .int .i64 0, .int .i64 0, .slice none 0 0, .int .i64 k, .int .i64 e]) (by simp [results, Tryd.results50, go_sem]) rfl ⟨rfl, ?_⟩
  exact (Fr.refl _ _).alloc _
set_option maxHeartbeats 4000000 in
theorem rf_two (W : World) (op lo hi : Int) (x : Nd) (B : Option Addr) (n d : Nat) (y : Nd) (C : Option Addr) (m e : Nat) :
    Calls Tryd.prog 83 #[.int .i64 op, .int .i64 lo, .int .i64 hi, fval x B n d, fval y C m e] W fun en w' => ∃ g, en = .returned (fval (nd1 op lo hi) (some ⟨g, 0, none⟩) 2 2) ∧ W.heap.size ≤ g ∧
      Blk w' g 34 #[.int .i64 x.op, .string x.name, .int .i64 x.cmp, .int .i64 x.val, .int .i64 x.lo, .int .i64 x.hi, .slice B n d, .int .i64 y.op, .string y.name, .int .i64 y.cmp, .int .i64 y.val, .int .i64 y.lo, .int .i64 y.hi, .slice C m e] ∧ Fr Nob W w' := by
  unfold fval nd1
  go_enter Tryd.func83, Tryd.ntmps83
  go_wp2_with fail
  refine bodyPost_ret (v := .agg #[.int .i64 op, .string ⟨#[]⟩, .int .i64 0, .int .i64 0, .int .i64 lo, .int .i64 hi, .slice (some ⟨W.heap.size + 1 + 1 + 1, 0, none⟩) 2 2]) (by simp [results, Tryd.results83, go_sem]) rfl ⟨_, rfl, by omega, Blk.new_eq (by simp), ?_⟩
  exact ((((Fr.refl _ _).alloc _).alloc _).alloc _).alloc _
def RSpan (W : World) (toks : List (TK × Nat)) (r : SR) (en : Ending) (w' : World) : Prop := match r with
  | .ok lo hi rest => ∃ k : Nat, en = .returned (.tuple #[.int .i64 lo, .int .i64 hi, .int .i64 k, .int .i64 0]) ∧ k < toks.length ∧ rest = remT toks k ∧ Fr Nob W w'
  | .bad e rest => ∃ (k : Nat), en = .returned (.tuple #[.int .i64 0, .int .i64 0, .int .i64 k, .int .i64 e]) ∧ ¬ e = 0 ∧ k < toks.length ∧ rest = remT toks k ∧ Fr Nob W w'
theorem tsg_kind {x : TK × Nat} {s : List UInt8} (h : tsg x s = true) : ¬ x.1.kind = 0 := by
  unfold tsg at h
  simp at h
  omega
set_option maxRecDepth 100000 in
set_option maxHeartbeats 4000000 in
theorem rf_span (W : World) (A : Option Addr) (c : Nat) (toks : List (TK × Nat)) (ht : Toks toks) (k : Nat) (h : Sl W 4 A toks.length c (toks.flatMap tcs)) (hk : k < toks.length) :
    Calls Tryd.prog 84 #[.slice A toks.length c, .int .i64 k] W fun en w' => RSpan W toks (spanP (remT toks k)) en w' := by
  have hk6 : (k : Int) ≤ 600 := by have := ht.few; omega
  have HL6 := Lib.hid ht.few
  rw [spanP_at hk]
  have HS0 := Lib.hid (fun s => rf_sign W A c toks k h hk s)
  cases h1 : tsg toks[k] [91]
  · rw [if_pos rfl]
    replace HS0 := Lib.hid (HS0.out [91])
    rw [h1] at HS0
    clear h
    go_enter Tryd.func84, Tryd.ntmps84
    go_wp2_with ((go_at_call 82); (with_reducible refine (HS0.out).mono ?_); rintro en w1 ⟨rfl, rfl⟩)
    refine bodyPost_ret (v := .tuple #[.int .i64 0, .int .i64 0, .int .i64 k, .int .i64 20]) (by simp [results, Tryd.results84, go_sem]) rfl ?_
    exact ⟨k, rfl, by decide, hk, rfl, (by repeat' (first | exact Fr.refl _ _ | refine Fr.drewN ?_ _))⟩
  · have hk1 := next_lt ht hk (tsg_kind h1)
    rw [if_neg (by simp), remT_hd hk1]
    replace HS0 := Lib.hid (HS0.out [91])
    rw [h1] at HS0
    obtain ⟨b1, o1, hT1⟩ := tkAt h hk1
    have hI1 : (k : Int) + 1 < toks.length := by omega
    have hJ1 : 0 ≤ (k : Int) + 1 := by omega
    have hkk := fun (hn : ¬ toks[k + 1].1.kind = 0) => next_lt ht hk1 hn
    generalize toks[k + 1] = x1 at *
    obtain ⟨⟨kd1, tx1, nm1⟩, pl1⟩ := x1
    obtain ⟨hA, hb, d0, d1, d2, d3⟩ := hT1
    dsimp only at *
    have HA := Lib.hid hA
    have e1 : ((k : Int) + 1).toNat = k + 1 := by omega
    clear hA
    by_cases hb1 : ¬ kd1 = 2 ∨ nm1 < 0
    · rw [if_pos hb1]
      obtain rfl := HA.out
      by_cases hkd : kd1 = 2
      · have hnm : nm1 < 0 := by omega
        have hnm2 : decide (nm1 < 0) = true := by simpa using hnm
        subst hkd
        clear h
        go_enter Tryd.func84, Tryd.ntmps84
        go_wp2_with ((go_at_call 82); (with_reducible refine (HS0.out).mono ?_); rintro en w1 ⟨rfl, rfl⟩)
        refine bodyPost_ret (v := .tuple #[.int .i64 0, .int .i64 0, .int .i64 ((k : Int) + 1), .int .i64 20]) (by simp [results, Tryd.results84, go_sem]) rfl ?_
        exact ⟨k + 1, by go_num, by decide, hk1, rfl, (by repeat' (first | exact Fr.refl _ _ | refine Fr.drewN ?_ _))⟩
      · clear h
        go_enter Tryd.func84, Tryd.ntmps84
        go_wp2_with ((go_at_call 82); (with_reducible refine (HS0.out).mono ?_); rintro en w1 ⟨rfl, rfl⟩)
        refine bodyPost_ret (v := .tuple #[.int .i64 0, .int .i64 0, .int .i64 ((k : Int) + 1), .int .i64 20]) (by simp [results, Tryd.results84, go_sem]) rfl ?_
        exact ⟨k + 1, by go_num, by decide, hk1, rfl, (by repeat' (first | exact Fr.refl _ _ | refine Fr.drewN ?_ _))⟩
    · rw [if_neg hb1]
      have hkd : kd1 = 2 := by omega
      have hnm : 0 ≤ nm1 := by omega
      have hnm1 : decide (nm1 < 0) = false := by simpa using hnm
      subst hkd
      have hk2 := hkk (by decide)
      clear hkk hb1
      rw [sgn_rem hk2]
      have HS2 := Lib.hid (rf_sign' W A c toks (k + 2) h hk2 [44] (ki := (k : Int) + 2) (by omega))
      cases h2 : tsg toks[k + 2] [44]
      · rw [if_pos rfl]
        rw [h2] at HS2
        clear h
        obtain rfl := HA.out
        go_enter Tryd.func84, Tryd.ntmps84
        go_wp2_with (first | ((go_at_call 82); (with_reducible refine (HS0.out).mono ?_); rintro en w1 ⟨rfl, rfl⟩) | ((go_at_call 82); (with_reducible refine (HS2.out).mono ?_); rintro en w1 ⟨rfl, rfl⟩) | ((go_at_call 82); (with_reducible refine (HS4.out _ ((Fr.refl _ _).drewN _)).mono ?_); rintro en w1 ⟨rfl, rfl⟩))
        refine bodyPost_ret (v := .tuple #[.int .i64 0, .int .i64 0, .int .i64 ((k : Int) + 2), .int .i64 20]) (by simp [results, Tryd.results84, go_sem]) rfl ?_
        exact ⟨k + 2, by go_num, by decide, hk2, rfl, (by repeat' (first | exact Fr.refl _ _ | refine Fr.drewN ?_ _))⟩
      · have hk3 := next_lt ht hk2 (tsg_kind h2)
        rw [h2] at HS2
        rw [if_neg (by simp), remT_hd hk3]
        obtain ⟨b3, o3, hT3⟩ := tkAt h hk3
        have hI3 : (k : Int) + 3 < toks.length := by omega
        have hJ3 : 0 ≤ (k : Int) + 3 := by omega
        have hkk := fun (hn : ¬ toks[k + 3].1.kind = 0) => next_lt ht hk3 hn
        generalize toks[k + 3] = x3 at *
        obtain ⟨⟨kd3, tx3, nm3⟩, pl3⟩ := x3
        obtain ⟨hA3, hb3, f0, f1, f2, f3⟩ := hT3
        obtain rfl := HA.out
        obtain ⟨rfl, rfl, _⟩ : b1 = b3 ∧ o1 = o3 ∧ True := by simpa using hA3
        dsimp only at *
        clear hA3 d1 d3 f1 f3
        have e3 : ((k : Int) + 3).toNat = k + 3 := by omega
        by_cases hb3 : ¬ kd3 = 2 ∨ nm3 < 0
        · rw [if_pos hb3]
          by_cases hkd : kd3 = 2
          · have hnm : nm3 < 0 := by omega
            have hnm2 : decide (nm3 < 0) = true := by simpa using hnm
            subst hkd
            clear h
            go_enter Tryd.func84, Tryd.ntmps84
            go_wp2_with (first | ((go_at_call 82); (with_reducible refine (HS0.out).mono ?_); rintro en w1 ⟨rfl, rfl⟩) | ((go_at_call 82); (with_reducible refine (HS2.out).mono ?_); rintro en w1 ⟨rfl, rfl⟩) | ((go_at_call 82); (with_reducible refine (HS4.out _ ((Fr.refl _ _).drewN _)).mono ?_); rintro en w1 ⟨rfl, rfl⟩))
            refine bodyPost_ret (v := .tuple #[.int .i64 0, .int .i64 0, .int .i64 ((k : Int) + 3), .int .i64 20]) (by simp [results, Tryd.results84, go_sem]) rfl ?_
            exact ⟨k + 3, by go_num, by decide, hk3, rfl, (by repeat' (first | exact Fr.refl _ _ | refine Fr.drewN ?_ _))⟩
          · clear h
            go_enter Tryd.func84, Tryd.ntmps84
            go_wp2_with (first | ((go_at_call 82); (with_reducible refine (HS0.out).mono ?_); rintro en w1 ⟨rfl, rfl⟩) | ((go_at_call 82); (with_reducible refine (HS2.out).mono ?_); rintro en w1 ⟨rfl, rfl⟩) | ((go_at_call 82); (with_reducible refine (HS4.out _ ((Fr.refl _ _).drewN _)).mono ?_); rintro en w1 ⟨rfl, rfl⟩))
            refine bodyPost_ret (v := .tuple #[.int .i64 0, .int .i64 0, .int .i64 ((k : Int) + 3), .int .i64 20]) (by simp [results, Tryd.results84, go_sem]) rfl ?_
            exact ⟨k + 3, by go_num, by decide, hk3, rfl, (by repeat' (first | exact Fr.refl _ _ | refine Fr.drewN ?_ _))⟩
        · rw [if_neg hb3]
          have hkd : kd3 = 2 := by omega
          have hnm3 : 0 ≤ nm3 := by omega
          have hnm4 : decide (nm3 < 0) = false := by simpa using hnm3
          subst hkd
          have hk4 := hkk (by decide)
          clear hkk hb3
          by_cases h4 : nm3 < nm1
          · rw [if_pos h4]
            clear h
            go_enter Tryd.func84, Tryd.ntmps84
            go_wp2_with (first | ((go_at_call 82); (with_reducible refine (HS0.out).mono ?_); rintro en w1 ⟨rfl, rfl⟩) | ((go_at_call 82); (with_reducible refine (HS2.out).mono ?_); rintro en w1 ⟨rfl, rfl⟩) | ((go_at_call 82); (with_reducible refine (HS4.out _ ((Fr.refl _ _).drewN _)).mono ?_); rintro en w1 ⟨rfl, rfl⟩))
            go_quiet (fail)
            go_wp2_with fail
            refine bodyPost_ret (v := .tuple #[.int .i64 0, .int .i64 0, .int .i64 ((k : Int) + 3), .int .i64 24]) (by simp [results, Tryd.results84, go_sem]) rfl ?_
            exact ⟨k + 3, by go_num, by decide, hk3, rfl, (by repeat' (first | exact Fr.refl _ _ | refine Fr.drewN ?_ _))⟩
          · rw [if_neg h4]
            have h4I : nm1 ≤ nm3 := by omega
            rw [sgn_rem hk4]
            have HS4 := Lib.hid (fun X (hf : Fr Nob W X) => rf_sign' X (some ⟨b1, o1, none⟩) c toks (k + 4) (h.pure hf) hk4 [93] (ki := (k : Int) + 4) (by omega))
            cases h5 : tsg toks[k + 4] [93]
            · rw [if_pos rfl]
              rw [h5] at HS4
              clear h
              go_enter Tryd.func84, Tryd.ntmps84
              go_wp2_with (first | ((go_at_call 82); (with_reducible refine (HS0.out).mono ?_); rintro en w1 ⟨rfl, rfl⟩) | ((go_at_call 82); (with_reducible refine (HS2.out).mono ?_); rintro en w1 ⟨rfl, rfl⟩) | ((go_at_call 82); (with_reducible refine (HS4.out _ ((Fr.refl _ _).drewN _)).mono ?_); rintro en w1 ⟨rfl, rfl⟩))
              go_quiet (fail)
              go_wp2_with (first | ((go_at_call 82); (with_reducible refine (HS0.out).mono ?_); rintro en w1 ⟨rfl, rfl⟩) | ((go_at_call 82); (with_reducible refine (HS2.out).mono ?_); rintro en w1 ⟨rfl, rfl⟩) | ((go_at_call 82); (with_reducible refine (HS4.out _ ((Fr.refl _ _).drewN _)).mono ?_); rintro en w1 ⟨rfl, rfl⟩))
              refine bodyPost_ret (v := .tuple #[.int .i64 0, .int .i64 0, .int .i64 ((k : Int) + 4), .int .i64 20]) (by simp [results, Tryd.results84, go_sem]) rfl ?_
              exact ⟨k + 4, by go_num, by decide, hk4, rfl, (by repeat' (first | exact Fr.refl _ _ | refine Fr.drewN ?_ _))⟩
            · have hk5 := next_lt ht hk4 (tsg_kind h5)
              rw [if_neg (by simp)]
              rw [h5] at HS4
              clear h
              go_enter Tryd.func84, Tryd.ntmps84
              go_wp2_with (first | ((go_at_call 82); (with_reducible refine (HS0.out).mono ?_); rintro en w1 ⟨rfl, rfl⟩) | ((go_at_call 82); (with_reducible refine (HS2.out).mono ?_); rintro en w1 ⟨rfl, rfl⟩) | ((go_at_call 82); (with_reducible refine (HS4.out _ ((Fr.refl _ _).drewN _)).mono ?_); rintro en w1 ⟨rfl, rfl⟩))
              go_quiet (fail)
              go_wp2_with (first | ((go_at_call 82); (with_reducible refine (HS0.out).mono ?_); rintro en w1 ⟨rfl, rfl⟩) | ((go_at_call 82); (with_reducible refine (HS2.out).mono ?_); rintro en w1 ⟨rfl, rfl⟩) | ((go_at_call 82); (with_reducible refine (HS4.out _ ((Fr.refl _ _).drewN _)).mono ?_); rintro en w1 ⟨rfl, rfl⟩))
              go_quiet (fail)
              go_wp2_with fail
              refine bodyPost_ret (v := .tuple #[.int .i64 nm1, .int .i64 nm3, .int .i64 ((k : Int) + 5), .int .i64 0]) (by simp [results, Tryd.results84, go_sem]) rfl ?_
              exact ⟨k + 5, by go_num, hk5, rfl, (by repeat' (first | exact Fr.refl _ _ | refine Fr.drewN ?_ _))⟩
theorem cmp_none {x : TK} {ss : List (List UInt8)} (hs : ss = [[61], [33, 61], [60], [60, 61], [62], [62, 61]]) (h : ∀ j, (hj : j < ss.length) → ¬ ss[j] = x.text) : cmpOf x = 0 := by
  subst hs
  have h0 := h 0 (by decide); have h1 := h 1 (by decide); have h2 := h 2 (by decide); have h3 := h 3 (by decide); have h4 := h 4 (by decide); have h5 := h 5 (by decide)
  simp only [List.getElem_cons_zero, List.getElem_cons_succ] at h0 h1 h2 h3 h4 h5
  unfold cmpOf
  rw [if_neg (Ne.symm h0), if_neg (Ne.symm h1), if_neg (Ne.symm h2), if_neg (Ne.symm h3), if_neg (Ne.symm h4), if_neg (Ne.symm h5)]
  simp
def cmpS : List (List UInt8) := [[61], [33, 61], [60], [60, 61], [62], [62, 61]]
theorem cmp_some {x : TK} (h3 : x.kind = 3) {j : Nat} (hj : j < 6) (h : (cmpS.getD j []) = x.text) : cmpOf x = ((j + 1 : Nat) : Int) := by
  unfold cmpOf cmpS at *
  rw [if_pos h3, ← h]
  rcases (by omega : j = 0 ∨ j = 1 ∨ j = 2 ∨ j = 3 ∨ j = 4 ∨ j = 5) with rfl | rfl | rfl | rfl | rfl | rfl <;> decide
set_option maxRecDepth 100000 in
set_option maxHeartbeats 4000000 in
theorem rf_compare (W : World) (x : TK × Nat) : Calls Tryd.prog 139 #[tokV x] W fun en w' => en = .returned (.int .i64 (cmpOf x.1)) ∧ Fr Nob W w' := by
  obtain ⟨⟨kd, tx, nm⟩, pl⟩ := x
  unfold tokV
  dsimp only
  by_cases h3 : kd = 3
  · have HC := Lib.hid (fun j hj h => cmp_some (x := ⟨kd, tx, nm⟩) h3 (j := j) hj h)
    have HN := Lib.hid (fun h => cmp_none (x := ⟨kd, tx, nm⟩) (ss := cmpS) rfl h)
    generalize cmpOf ⟨kd, tx, nm⟩ = v at *
    subst h3
    go_enter Tryd.func139, Tryd.ntmps139
    go_wp2_with fail
    go_loopw [2, 4] (fun rv i wr => ∃ k : Nat, k ≤ 6 ∧ rv = .int .i64 0 ∧ i = .int .i64 k ∧ Hid (∀ j, j < k → ¬ (cmpS.getD j []) = tx) ∧ Hid (Fr Nob ((W.alloc (.cells #[.int .i64 3, .string ⟨tx.toArray⟩, .int .i64 nm, .int .i64 pl] 99)).alloc (.cells #[.string ⟨#[61]⟩, .string ⟨#[33, 61]⟩, .string ⟨#[60]⟩, .string ⟨#[60, 61]⟩, .string ⟨#[62]⟩, .string ⟨#[62, 61]⟩] 9)) wr)) (fun _ i _ => 6 - (intOf i).toNat)
    case atStart => exact ⟨0, by omega, rfl, rfl, Lib.hid (fun j hj => absurd hj (by omega)), Lib.hid (Fr.refl _ _)⟩
    case round =>
      obtain ⟨k, hk, rfl, rfl, hno, hfr⟩ := hrel
      have hx := Blk.new W 99 #[.int .i64 3, .string ⟨tx.toArray⟩, .int .i64 nm, .int .i64 pl]
      have xc := ((hx.alloc _).fr hfr.out (fun e => e)).cell
      have xs := ((Blk.new (W.alloc (.cells #[.int .i64 3, .string ⟨tx.toArray⟩, .int .i64 nm, .int .i64 pl] 99)) 9 #[.string ⟨#[61]⟩, .string ⟨#[33, 61]⟩, .string ⟨#[60]⟩, .string ⟨#[60, 61]⟩, .string ⟨#[62]⟩, .string ⟨#[62, 61]⟩]).fr hfr.out (fun e => e)).cell
      have hz := hfr.out.size
      simp only [World.size_alloc] at hz xs
      have hz2 : W.heap.size < wr.heap.size := by omega
      have hz3 : W.heap.size + 1 < wr.heap.size := by omega
      clear hx
      rcases (by omega : k = 0 ∨ k = 1 ∨ k = 2 ∨ k = 3 ∨ k = 4 ∨ k = 5 ∨ k = 6) with rfl | rfl | rfl | rfl | rfl | rfl | rfl
      · have cs : wr.cell? ⟨W.heap.size + 1, 0, none⟩ = some (.string ⟨#[61]⟩) := xs 0
        have ct : wr.cell? ⟨W.heap.size, 1, none⟩ = some (.string ⟨tx.toArray⟩) := xc 1
        by_cases hq : [61] = tx
        · have hq2 : ((⟨#[61]⟩ : ByteArray).toList == (⟨tx.toArray⟩ : ByteArray).toList) = true := by rw [show (⟨#[61]⟩ : ByteArray) = ⟨[61].toArray⟩ from rfl, ba_beq]; simpa using hq
          have hq3 : ([61] == tx) = true := by simpa using hq
          replace HC := HC.out 0 (by decide) (by rw [← hq]; rfl)
          clear xs xc hno HN hq
          go_wp2_with fail
          go_quiet (fail)
          go_wp2_with fail
          go_ret
          rw [HC]
          exact ⟨rfl, (((Fr.refl Nob W).alloc _).alloc _).call (hfr.out.drewN _) (fun _ h _ => h)⟩
        · have hq2 : ((⟨#[61]⟩ : ByteArray).toList == (⟨tx.toArray⟩ : ByteArray).toList) = false := by rw [show (⟨#[61]⟩ : ByteArray) = ⟨[61].toArray⟩ from rfl, ba_beq]; simpa using hq
          have hq3 : ([61] == tx) = false := by simpa using hq
          clear xs xc
          go_wp2_with fail
          go_quiet (fail)
          go_wp2_with fail
          go_roundw
          case rel => exact ⟨0 + 1, by decide, rfl, rfl, Lib.hid (fun j hj => by rcases (by omega : j < 0 ∨ j = 0) with h | rfl; exact hno.out j h; exact hq), Lib.hid (hfr.out.drewN _)⟩
          case measure => simp [intOf]
      · have cs : wr.cell? ⟨W.heap.size + 1, 1, none⟩ = some (.string ⟨#[33, 61]⟩) := xs 1
        have ct : wr.cell? ⟨W.heap.size, 1, none⟩ = some (.string ⟨tx.toArray⟩) := xc 1
        by_cases hq : [33, 61] = tx
        · have hq2 : ((⟨#[33, 61]⟩ : ByteArray).toList == (⟨tx.toArray⟩ : ByteArray).toList) = true := by rw [show (⟨#[33, 61]⟩ : ByteArray) = ⟨[33, 61].toArray⟩ from rfl, ba_beq]; simpa using hq
          have hq3 : ([33, 61] == tx) = true := by simpa using hq
          replace HC := HC.out 1 (by decide) (by rw [← hq]; rfl)
          clear xs xc hno HN hq
          go_wp2_with fail
          go_quiet (fail)
          go_wp2_with fail
          go_ret
          rw [HC]
          exact ⟨rfl, (((Fr.refl Nob W).alloc _).alloc _).call (hfr.out.drewN _) (fun _ h _ => h)⟩
        · have hq2 : ((⟨#[33, 61]⟩ : ByteArray).toList == (⟨tx.toArray⟩ : ByteArray).toList) = false := by rw [show (⟨#[33, 61]⟩ : ByteArray) = ⟨[33, 61].toArray⟩ from rfl, ba_beq]; simpa using hq
          have hq3 : ([33, 61] == tx) = false := by simpa using hq
          clear xs xc
          go_wp2_with fail
          go_quiet (fail)
          go_wp2_with fail
          go_roundw
          case rel => exact ⟨1 + 1, by decide, rfl, rfl, Lib.hid (fun j hj => by rcases (by omega : j < 1 ∨ j = 1) with h | rfl; exact hno.out j h; exact hq), Lib.hid (hfr.out.drewN _)⟩
          case measure => simp [intOf]
      · have cs : wr.cell? ⟨W.heap.size + 1, 2, none⟩ = some (.string ⟨#[60]⟩) := xs 2
        have ct : wr.cell? ⟨W.heap.size, 1, none⟩ = some (.string ⟨tx.toArray⟩) := xc 1
        by_cases hq : [60] = tx
        · have hq2 : ((⟨#[60]⟩ : ByteArray).toList == (⟨tx.toArray⟩ : ByteArray).toList) = true := by rw [show (⟨#[60]⟩ : ByteArray) = ⟨[60].toArray⟩ from rfl, ba_beq]; simpa using hq
          have hq3 : ([60] == tx) = true := by simpa using hq
          replace HC := HC.out 2 (by decide) (by rw [← hq]; rfl)
          clear xs xc hno HN hq
          go_wp2_with fail
          go_quiet (fail)
          go_wp2_with fail
          go_ret
          rw [HC]
          exact ⟨rfl, (((Fr.refl Nob W).alloc _).alloc _).call (hfr.out.drewN _) (fun _ h _ => h)⟩
        · have hq2 : ((⟨#[60]⟩ : ByteArray).toList == (⟨tx.toArray⟩ : ByteArray).toList) = false := by rw [show (⟨#[60]⟩ : ByteArray) = ⟨[60].toArray⟩ from rfl, ba_beq]; simpa using hq
          have hq3 : ([60] == tx) = false := by simpa using hq
          clear xs xc
          go_wp2_with fail
          go_quiet (fail)
          go_wp2_with fail
          go_roundw
          case rel => exact ⟨2 + 1, by decide, rfl, rfl, Lib.hid (fun j hj => by rcases (by omega : j < 2 ∨ j = 2) with h | rfl; exact hno.out j h; exact hq), Lib.hid (hfr.out.drewN _)⟩
          case measure => simp [intOf]
      · have cs : wr.cell? ⟨W.heap.size + 1, 3, none⟩ = some (.string ⟨#[60, 61]⟩) := xs 3
        have ct : wr.cell? ⟨W.heap.size, 1, none⟩ = some (.string ⟨tx.toArray⟩) := xc 1
        by_cases hq : [60, 61] = tx
        · have hq2 : ((⟨#[60, 61]⟩ : ByteArray).toList == (⟨tx.toArray⟩ : ByteArray).toList) = true := by rw [show (⟨#[60, 61]⟩ : ByteArray) = ⟨[60, 61].toArray⟩ from rfl, ba_beq]; simpa using hq
          have hq3 : ([60, 61] == tx) = true := by simpa using hq
          replace HC := HC.out 3 (by decide) (by rw [← hq]; rfl)
          clear xs xc hno HN hq
          go_wp2_with fail
          go_quiet (fail)
          go_wp2_with fail
          go_ret
          rw [HC]
          exact ⟨rfl, (((Fr.refl Nob W).alloc _).alloc _).call (hfr.out.drewN _) (fun _ h _ => h)⟩
        · have hq2 : ((⟨#[60, 61]⟩ : ByteArray).toList == (⟨tx.toArray⟩ : ByteArray).toList) = false := by rw [show (⟨#[60, 61]⟩ : ByteArray) = ⟨[60, 61].toArray⟩ from rfl, ba_beq]; simpa using hq
          have hq3 : ([60, 61] == tx) = false := by simpa using hq
          clear xs xc
          go_wp2_with fail
          go_quiet (fail)
          go_wp2_with fail
          go_roundw
          case rel => exact ⟨3 + 1, by decide, rfl, rfl, Lib.hid (fun j hj => by rcases (by omega : j < 3 ∨ j = 3) with h | rfl; exact hno.out j h; exact hq), Lib.hid (hfr.out.drewN _)⟩
          case measure => simp [intOf]
      · have cs : wr.cell? ⟨W.heap.size + 1, 4, none⟩ = some (.string ⟨#[62]⟩) := xs 4
        have ct : wr.cell? ⟨W.heap.size, 1, none⟩ = some (.string ⟨tx.toArray⟩) := xc 1
        by_cases hq : [62] = tx
        · have hq2 : ((⟨#[62]⟩ : ByteArray).toList == (⟨tx.toArray⟩ : ByteArray).toList) = true := by rw [show (⟨#[62]⟩ : ByteArray) = ⟨[62].toArray⟩ from rfl, ba_beq]; simpa using hq
          have hq3 : ([62] == tx) = true := by simpa using hq
          replace HC := HC.out 4 (by decide) (by rw [← hq]; rfl)
          clear xs xc hno HN hq
          go_wp2_with fail
          go_quiet (fail)
          go_wp2_with fail
          go_ret
          rw [HC]
          exact ⟨rfl, (((Fr.refl Nob W).alloc _).alloc _).call (hfr.out.drewN _) (fun _ h _ => h)⟩
        · have hq2 : ((⟨#[62]⟩ : ByteArray).toList == (⟨tx.toArray⟩ : ByteArray).toList) = false := by rw [show (⟨#[62]⟩ : ByteArray) = ⟨[62].toArray⟩ from rfl, ba_beq]; simpa using hq
          have hq3 : ([62] == tx) = false := by simpa using hq
          clear xs xc
          go_wp2_with fail
          go_quiet (fail)
          go_wp2_with fail
          go_roundw
          case rel => exact ⟨4 + 1, by decide, rfl, rfl, Lib.hid (fun j hj => by rcases (by omega : j < 4 ∨ j = 4) with h | rfl; exact hno.out j h; exact hq), Lib.hid (hfr.out.drewN _)⟩
          case measure => simp [intOf]
      · have cs : wr.cell? ⟨W.heap.size + 1, 5, none⟩ = some (.string ⟨#[62, 61]⟩) := xs 5
        have ct : wr.cell? ⟨W.heap.size, 1, none⟩ = some (.string ⟨tx.toArray⟩) := xc 1
        by_cases hq : [62, 61] = tx
        · have hq2 : ((⟨#[62, 61]⟩ : ByteArray).toList == (⟨tx.toArray⟩ : ByteArray).toList) = true := by rw [show (⟨#[62, 61]⟩ : ByteArray) = ⟨[62, 61].toArray⟩ from rfl, ba_beq]; simpa using hq
          have hq3 : ([62, 61] == tx) = true := by simpa using hq
          replace HC := HC.out 5 (by decide) (by rw [← hq]; rfl)
          clear xs xc hno HN hq
          go_wp2_with fail
          go_quiet (fail)
          go_wp2_with fail
          go_ret
          rw [HC]
          exact ⟨rfl, (((Fr.refl Nob W).alloc _).alloc _).call (hfr.out.drewN _) (fun _ h _ => h)⟩
        · have hq2 : ((⟨#[62, 61]⟩ : ByteArray).toList == (⟨tx.toArray⟩ : ByteArray).toList) = false := by rw [show (⟨#[62, 61]⟩ : ByteArray) = ⟨[62, 61].toArray⟩ from rfl, ba_beq]; simpa using hq
          have hq3 : ([62, 61] == tx) = false := by simpa using hq
          clear xs xc
          go_wp2_with fail
          go_quiet (fail)
          go_wp2_with fail
          go_roundw
          case rel => exact ⟨5 + 1, by decide, rfl, rfl, Lib.hid (fun j hj => by rcases (by omega : j < 5 ∨ j = 5) with h | rfl; exact hno.out j h; exact hq), Lib.hid (hfr.out.drewN _)⟩
          case measure => simp [intOf]
      · go_wp2_with fail
        go_ret
        rw [HN.out (fun j hj => by have := hno.out j (by simpa [cmpS] using hj); unfold cmpS at *; simpa [List.getD_eq_getElem?_getD, List.getElem?_eq_getElem hj] using this)]
        exact ⟨rfl, (((Fr.refl Nob W).alloc _).alloc _).call hfr.out (fun _ h _ => h)⟩
  · have hc : cmpOf ⟨kd, tx, nm⟩ = 0 := by unfold cmpOf; rw [if_neg h3]
    rw [hc]
    go_enter Tryd.func139, Tryd.ntmps139
    go_wp2_with fail
    go_ret
    exact ⟨rfl, (Fr.refl _ _).alloc _⟩
/- The reference's parse: an atom. -/
open Go.RowKit Go.Shelf
attribute [local go_sem] Instr.field asAgg

theorem kids_two' {t : TypeId} {q : Nat → Prop} {w : World} {g : Nat} {x y : Nd} {B C : Option Addr} {d e : Nat} {ks js : Fo} (hb : Blk w g t (pairC x B ks.len d y C js.len e)) (h1 : FoSlP q w B d ks) (h2 : FoSlP q w C e js) (hg : q g) : FoSlP q w (some ⟨g, 0, none⟩) 2 (.cons x B d ks (.cons y C e js .nil)) := by
  refine ⟨⟨Nat.le_refl _, by decide, fun e => by cases e⟩, fun _ => ⟨_, _, rfl⟩, fun bb oo e => ?_⟩
  cases e
  refine Fo.at_of hg hb.lt (fun j u hu => ?_) ⟨h1, h2, trivial⟩
  rw [Nat.zero_add, hb.cell]
  have : (Fo.cons x B d ks (.cons y C e js .nil)).tops.toArray = pairC x B ks.len d y C js.len e := by simp [Fo.tops, fcs, pairC]
  rw [← this]; simpa using hu
theorem kids_one' {t : TypeId} {q : Nat → Prop} {w : World} {g : Nat} {x : Nd} {B : Option Addr} {d : Nat} {ks : Fo} (hb : Blk w g t #[.int .i64 x.op, .string x.name, .int .i64 x.cmp, .int .i64 x.val, .int .i64 x.lo, .int .i64 x.hi, .slice B ks.len d]) (h1 : FoSlP q w B d ks) (hg : q g) : FoSlP q w (some ⟨g, 0, none⟩) 1 (.cons x B d ks .nil) := by
  refine ⟨⟨Nat.le_refl _, by decide, fun e => by cases e⟩, fun _ => ⟨_, _, rfl⟩, fun bb oo e => ?_⟩
  cases e
  refine Fo.at_of hg hb.lt (fun j u hu => ?_) ⟨h1, trivial⟩
  rw [Nat.zero_add, hb.cell]
  have : (Fo.cons x B d ks .nil).tops.toArray = #[.int .i64 x.op, .string x.name, .int .i64 x.cmp, .int .i64 x.val, .int .i64 x.lo, .int .i64 x.hi, .slice B ks.len d] := by simp [Fo.tops, fcs]
  rw [← this]; simpa using hu

/-- What a reading of the reference answers. -/
def RRes (W : World) (toks : List (TK × Nat)) (r : PR) (en : Ending) (w' : World) : Prop := match r with
  | .ok x ks rest => ∃ (B : Option Addr) (d : Nat) (f : Fo) (k : Nat), en = .returned (rval x B f.len d k 0) ∧ k < toks.length ∧ rest = remT toks k ∧ f.tr = ks ∧ FoSlP (fun b => W.heap.size ≤ b) w' B d f ∧ Fr Nob W w'
  | .bad e rest => ∃ (x : Nd) (B : Option Addr) (m d k : Nat), en = .returned (rval x B m d k e) ∧ ¬ e = 0 ∧ k < toks.length ∧ rest = remT toks k ∧ Fr Nob W w'
  | .out => True
def LevOk (A : Option Addr) (c : Nat) (toks : List (TK × Nat)) (l : Nat) (S : Job → PR) : Prop := ∀ (W : World) (k : Nat), Sl W 4 A toks.length c (toks.flatMap tcs) → k < toks.length → ¬ S (.lev l (remT toks k)) = .out →
  Calls Tryd.prog 49 #[.int .i64 l, .slice A toks.length c, .int .i64 k] W (RRes W toks (S (.lev l (remT toks k))))
def UnOk (A : Option Addr) (c : Nat) (toks : List (TK × Nat)) (S : Job → PR) : Prop := ∀ (W : World) (k : Nat), Sl W 4 A toks.length c (toks.flatMap tcs) → k < toks.length → ¬ S (.lev 6 (remT toks k)) = .out →
  Calls Tryd.prog 80 #[.slice A toks.length c, .int .i64 k] W (RRes W toks (S (.lev 6 (remT toks k))))
def AtOk (A : Option Addr) (c : Nat) (toks : List (TK × Nat)) (S : Job → PR) : Prop := ∀ (W : World) (k : Nat), Sl W 4 A toks.length c (toks.flatMap tcs) → k < toks.length → ¬ S (.lev 7 (remT toks k)) = .out →
  Calls Tryd.prog 81 #[.slice A toks.length c, .int .i64 k] W (RRes W toks (S (.lev 7 (remT toks k))))
section
variable {A : Option Addr} {c : Nat} {toks : List (TK × Nat)} {S : Job → PR} {l k k' : Nat} {x : Nd} {ks : Tr} {er : Int} {r : List TK} {W : World} {en : Ending} {w' : World}
theorem RRes.ok_at (h : RRes W toks (.ok x ks (remT toks k')) en w') (hk' : k' < toks.length) : ∃ (B : Option Addr) (d : Nat) (f : Fo), en = .returned (rval x B f.len d k' 0) ∧ f.tr = ks ∧ FoSlP (fun b => W.heap.size ≤ b) w' B d f ∧ Fr Nob W w' := by
  obtain ⟨B, d, f, k2, h1, h2, h3, h4⟩ := h
  obtain rfl := remT_inj hk' h2 h3
  exact ⟨B, d, f, h1, h4⟩
theorem lv_ok (h : LevOk A c toks l S) (hk : k < toks.length) (hs : S (.lev l (remT toks k)) = .ok x ks (remT toks k')) (hk' : k' < toks.length) {li ki : Int} (hli : li = l) (hki : ki = k) (W : World) (hr : Sl W 4 A toks.length c (toks.flatMap tcs)) :
    Calls Tryd.prog 49 #[.int .i64 li, .slice A toks.length c, .int .i64 ki] W fun en w' => ∃ (B : Option Addr) (d : Nat) (f : Fo), en = .returned (rval x B f.len d k' 0) ∧ f.tr = ks ∧ FoSlP (fun b => W.heap.size ≤ b) w' B d f ∧ Fr Nob W w' := by
  subst hli; subst hki
  have h1 := h W k hr hk (by rw [hs]; simp)
  rw [hs] at h1
  exact h1.mono fun en w' h2 => h2.ok_at hk'
theorem lv_bad (h : LevOk A c toks l S) (hk : k < toks.length) (hs : S (.lev l (remT toks k)) = .bad er r) {li ki : Int} (hli : li = l) (hki : ki = k) (W : World) (hr : Sl W 4 A toks.length c (toks.flatMap tcs)) :
    Calls Tryd.prog 49 #[.int .i64 li, .slice A toks.length c, .int .i64 ki] W (RRes W toks (.bad er r)) := by
  subst hli; subst hki
  have h1 := h W k hr hk (by rw [hs]; simp)
  rw [hs] at h1
  exact h1
theorem un_ok (h : UnOk A c toks S) (hk : k < toks.length) (hs : S (.lev 6 (remT toks k)) = .ok x ks (remT toks k')) (hk' : k' < toks.length) {ki : Int} (hki : ki = k) (W : World) (hr : Sl W 4 A toks.length c (toks.flatMap tcs)) :
    Calls Tryd.prog 80 #[.slice A toks.length c, .int .i64 ki] W fun en w' => ∃ (B : Option Addr) (d : Nat) (f : Fo), en = .returned (rval x B f.len d k' 0) ∧ f.tr = ks ∧ FoSlP (fun b => W.heap.size ≤ b) w' B d f ∧ Fr Nob W w' := by
  subst hki
  have h1 := h W k hr hk (by rw [hs]; simp)
  rw [hs] at h1
  exact h1.mono fun en w' h2 => h2.ok_at hk'
theorem un_bad (h : UnOk A c toks S) (hk : k < toks.length) (hs : S (.lev 6 (remT toks k)) = .bad er r) {ki : Int} (hki : ki = k) (W : World) (hr : Sl W 4 A toks.length c (toks.flatMap tcs)) :
    Calls Tryd.prog 80 #[.slice A toks.length c, .int .i64 ki] W (RRes W toks (.bad er r)) := by
  subst hki
  have h1 := h W k hr hk (by rw [hs]; simp)
  rw [hs] at h1
  exact h1
theorem sp_ok (ht : Toks toks) (hk : k < toks.length) {lo hi : Int} (hs : spanP (remT toks k) = .ok lo hi (remT toks k')) (hk' : k' < toks.length) {ki : Int} (hki : ki = k) (W : World) (hr : Sl W 4 A toks.length c (toks.flatMap tcs)) :
    Calls Tryd.prog 84 #[.slice A toks.length c, .int .i64 ki] W fun en w' => en = .returned (.tuple #[.int .i64 lo, .int .i64 hi, .int .i64 k', .int .i64 0]) ∧ Fr Nob W w' := by
  subst hki
  have h1 := rf_span W A c toks ht k hr hk
  rw [hs] at h1
  refine h1.mono fun en w' ⟨k2, h2, h3, h4, h5⟩ => ?_
  obtain rfl := remT_inj hk' h3 h4
  exact ⟨h2, h5⟩
theorem sp_bad (ht : Toks toks) (hk : k < toks.length) (hs : spanP (remT toks k) = .bad er r) {ki : Int} (hki : ki = k) (W : World) (hr : Sl W 4 A toks.length c (toks.flatMap tcs)) :
    Calls Tryd.prog 84 #[.slice A toks.length c, .int .i64 ki] W fun en w' => ∃ (k : Nat), en = .returned (.tuple #[.int .i64 0, .int .i64 0, .int .i64 k, .int .i64 er]) ∧ ¬ er = 0 ∧ k < toks.length ∧ r = remT toks k ∧ Fr Nob W w' := by
  subst hki
  have h1 := rf_span W A c toks ht k hr hk
  rw [hs] at h1
  exact h1
end
theorem slp_fr {N : Nat} {w w' : World} {B : Option Addr} {d : Nat} {f : Fo} (h : FoSlP (fun b => N ≤ b) w B d f) (hf : Fr Nob w w') : FoSlP (fun b => N ≤ b) w' B d f := h.keep (fun k _ hlt => hf.block k hlt (fun e => e))
theorem slp_fr1 {N M : Nat} {w w' : World} {B : Option Addr} {d : Nat} {f : Fo} (h : FoSlP (fun b => N ≤ b) w B d f) (hf : Fr (Only M) w w') (hM : M < N) : FoSlP (fun b => N ≤ b) w' B d f := h.keep (fun k hk hlt => hf.block k hlt (by unfold Only; omega))
theorem slp_up {M N : Nat} {w : World} {B : Option Addr} {d : Nat} {f : Fo} (h : FoSlP (fun b => N ≤ b) w B d f) (hN : M ≤ N) : FoSlP (fun b => M ≤ b) w B d f := h.mono (fun k hk => by omega)
theorem slp_end {W w2 W9 : World} {B : Option Addr} {d : Nat} {f : Fo} (h : FoSlP (fun b => W.heap.size + 1 ≤ b) w2 B d f) (hf : Fr (Only W.heap.size) w2 W9) : FoSlP (fun b => W.heap.size ≤ b) W9 B d f := slp_up (slp_fr1 h hf (by omega)) (by omega)
/-- Nine cells written into a box. -/
def set9c (w : World) (g : Nat) (b0 b1 b2 b3 b4 b5 b6 b7 b8 : Value) : World := ((((((((w.setCell ⟨g, 0, none⟩ b0).setCell ⟨g, 1, none⟩ b1).setCell ⟨g, 2, none⟩ b2).setCell ⟨g, 3, none⟩ b3).setCell ⟨g, 4, none⟩ b4).setCell ⟨g, 5, none⟩ b5).setCell ⟨g, 6, none⟩ b6).setCell ⟨g, 7, none⟩ b7).setCell ⟨g, 8, none⟩ b8
theorem set9c_blk {w : World} {g : Nat} {t : TypeId} {a0 a1 a2 a3 a4 a5 a6 a7 a8 : Value} (h : Blk w g t #[a0, a1, a2, a3, a4, a5, a6, a7, a8]) (b0 b1 b2 b3 b4 b5 b6 b7 b8 : Value) : Blk (set9c w g b0 b1 b2 b3 b4 b5 b6 b7 b8) g t #[b0, b1, b2, b3, b4, b5, b6, b7, b8] := by
  have := ((((((((h.set 0 b0).set 1 b1).set 2 b2).set 3 b3).set 4 b4).set 5 b5).set 6 b6).set 7 b7).set 8 b8
  simpa [set9c] using this
theorem set9c_fr (w : World) (g : Nat) (b0 b1 b2 b3 b4 b5 b6 b7 b8 : Value) : Fr (Only g) w (set9c w g b0 b1 b2 b3 b4 b5 b6 b7 b8) :=
  (((((((((Fr.refl (Only g) w).setCell (p := ⟨g, 0, none⟩) (fun _ => rfl) _).setCell (p := ⟨g, 1, none⟩) (fun _ => rfl) _).setCell (p := ⟨g, 2, none⟩) (fun _ => rfl) _).setCell (p := ⟨g, 3, none⟩) (fun _ => rfl) _).setCell (p := ⟨g, 4, none⟩) (fun _ => rfl) _).setCell (p := ⟨g, 5, none⟩) (fun _ => rfl) _).setCell (p := ⟨g, 6, none⟩) (fun _ => rfl) _).setCell (p := ⟨g, 7, none⟩) (fun _ => rfl) _).setCell (p := ⟨g, 8, none⟩) (fun _ => rfl) _
def z9 : Array Value := #[.int .i64 0, .string ⟨#[]⟩, .int .i64 0, .int .i64 0, .int .i64 0, .int .i64 0, .slice none 0 0, .int .i64 0, .int .i64 0]
theorem own9 {W w1 w2 : World} (h : Fr Nob W w1) (hf : Fr (Only W.heap.size) w1 w2) : Fr Nob W w2 := h.call hf (fun i hi hlt => by unfold Only at hi; omega)
theorem fo_nil (N : Nat) (w : World) : FoSlP (fun b => N ≤ b) w none 0 .nil := ⟨⟨Nat.le_refl _, by simp, fun _ => rfl⟩, fun h => absurd h (by simp [Fo.len]), fun _ _ e => by cases e⟩
set_option maxRecDepth 100000 in
set_option maxHeartbeats 4000000 in
theorem rf_word (A : Option Addr) (c : Nat) (toks : List (TK × Nat)) (ht : Toks toks) (W : World) (k : Nat) (h : Sl W 4 A toks.length c (toks.flatMap tcs)) (hk : k < toks.length) (h1 : tsg toks[k] [40] = false) :
    Calls Tryd.prog 81 #[.slice A toks.length c, .int .i64 k] W (RRes W toks (wordP (remT toks k))) := by
  have hk6 : (k : Int) ≤ 600 := by have := ht.few; omega
  have HSG := Lib.hid (fun X (hf : Fr Nob W X) => rf_sign X A c toks k (h.pure hf) hk [40])
  rw [h1] at HSG
  have HZ := Lib.hid (Blk.new W 97 z9)
  have HFR := Lib.hid ((Fr.refl Nob W).alloc (.cells z9 97))
  unfold z9 at HZ HFR
  have zc := HZ.out.cell
  have zf := HZ.out.frozen
  have zl := HZ.out.lt
  obtain ⟨b, o, hT⟩ := tkAt h hk
  have hI : (k : Int) < toks.length := by omega
  have hI0 : 0 ≤ (k : Int) := by omega
  unfold wordP
  rw [remT_hd hk, remT_tail]
  have hkk := fun (hn : ¬ toks[k].1.kind = 0) => next_lt ht hk hn
  generalize toks[k] = x0 at *
  obtain ⟨⟨kd, tx, nm⟩, pl⟩ := x0
  obtain ⟨rfl, hb, d0, d1, d2, d3⟩ := hT
  dsimp only at *
  by_cases hkd : kd = 1
  · subst hkd
    rw [if_neg (by simp)]
    have hk1 := hkk (by decide)
    by_cases htr : tx = trueW
    · rw [if_pos htr]
      subst htr
      clear h hkk
      unfold RRes rval nd1 trueW at *
      go_enter Tryd.func81, Tryd.ntmps81
      go_wp2_with (first
        | ((go_at_call 82); (with_reducible refine (HSG.out _ ((Fr.refl _ _).alloc _)).mono ?_); rintro en w1 ⟨rfl, rfl⟩)
        )
      refine bodyPost_ret (v := .agg #[.int .i64 1, .string ⟨#[]⟩, .int .i64 0, .int .i64 0, .int .i64 0, .int .i64 0, .slice none 0 0, .int .i64 ((k : Int) + 1), .int .i64 0]) (by simp [results, Tryd.results81, go_sem]) rfl ?_
      exact ⟨none, 0, .nil, k + 1, rfl, hk1, rfl, rfl, fo_nil _ _, (Fr.refl _ _).alloc _⟩
    · rw [if_neg htr]
      have htb : (tx == [116, 114, 117, 101]) = false := by simpa [trueW] using htr
      by_cases hfa : tx = falseW
      · rw [if_pos hfa]
        subst hfa
        clear h hkk
        unfold RRes rval nd1 falseW at *
        go_enter Tryd.func81, Tryd.ntmps81
        go_wp2_with (first
          | ((go_at_call 82); (with_reducible refine (HSG.out _ ((Fr.refl _ _).alloc _)).mono ?_); rintro en w1 ⟨rfl, rfl⟩)
          )
        refine bodyPost_ret (v := .agg #[.int .i64 2, .string ⟨#[]⟩, .int .i64 0, .int .i64 0, .int .i64 0, .int .i64 0, .slice none 0 0, .int .i64 ((k : Int) + 1), .int .i64 0]) (by simp [results, Tryd.results81, go_sem]) rfl ?_
        exact ⟨none, 0, .nil, k + 1, rfl, hk1, rfl, rfl, fo_nil _ _, (Fr.refl _ _).alloc _⟩
      · rw [if_neg hfa, remT_hd hk1, remT_tail]
        have hfb : (tx == [102, 97, 108, 115, 101]) = false := by simpa [falseW] using hfa
        obtain ⟨b1, o1, hT1⟩ := tkAt h hk1
        have hI1 : (k : Int) + 1 < toks.length := by omega
        have hJ1 : 0 ≤ (k : Int) + 1 := by omega
        have e1 : ((k : Int) + 1).toNat = k + 1 := by omega
        have hkk1 := fun (hn : ¬ toks[k + 1].1.kind = 0) => next_lt ht hk1 hn
        have HC0 := Lib.hid (fun (hc : ¬ cmpOf toks[k + 1].1 = 0) => (show ¬ toks[k + 1].1.kind = 0 from fun e => hc (by unfold cmpOf; rw [e]; simp)))
        have HCM := Lib.hid (fun X => rf_compare X toks[k + 1])
        unfold tokV at HCM
        generalize toks[k + 1] = x1 at *
        obtain ⟨⟨kd1, tx1, nm1⟩, pl1⟩ := x1
        obtain ⟨hA1, hb1, f0, f1, f2, f3⟩ := hT1
        obtain ⟨rfl, rfl, _⟩ : b = b1 ∧ o = o1 ∧ True := by simpa using hA1
        clear hA1 hkk
        dsimp only at *
        generalize cmpOf ⟨kd1, tx1, nm1⟩ = cv at *
        by_cases hc : cv = 0
        · rw [if_pos hc]
          subst hc
          clear h hkk1 HC0 htr hfa
          unfold RRes rval at *
          go_enter Tryd.func81, Tryd.ntmps81
          go_wp2_with (first
            | ((go_at_call 82); (with_reducible refine (HSG.out _ ((Fr.refl _ _).alloc _)).mono ?_); rintro en w1 ⟨rfl, rfl⟩)
            | ((go_at_call 139); (with_reducible refine (HCM.out _).mono ?_); rintro en w2 ⟨rfl, hf2⟩; replace HZ := Lib.hid (HZ.out.fr hf2 (fun e => e)); replace HFR := Lib.hid (HFR.out.call hf2 (fun _ h _ => h)); have q1 := HFR.out.cell d1 (fun e => e); have hbw := Nat.lt_of_lt_of_le hb HFR.out.size; (try (have q2 := HFR.out.cell g0 (fun e => e))); (try (have q3 := HFR.out.cell g2 (fun e => e))); replace zc := HZ.out.cell; replace zf := HZ.out.frozen; replace zl := HZ.out.lt; clear hf2)
            )
          have HB9 := Lib.hid (set9c_blk HZ.out (.int .i64 3) (.string ⟨tx.toArray⟩) (.int .i64 0) (.int .i64 0) (.int .i64 0) (.int .i64 0) (.slice none 0 0) (.int .i64 ((k : Int) + 1)) (.int .i64 0))
          have HF9 := Lib.hid (set9c_fr w2 W.heap.size (.int .i64 3) (.string ⟨tx.toArray⟩) (.int .i64 0) (.int .i64 0) (.int .i64 0) (.int .i64 0) (.slice none 0 0) (.int .i64 ((k : Int) + 1)) (.int .i64 0))
          change bodyPost _ _ _ _ _ (set9c w2 W.heap.size (.int .i64 3) (.string ⟨tx.toArray⟩) (.int .i64 0) (.int .i64 0) (.int .i64 0) (.int .i64 0) (.slice none 0 0) (.int .i64 ((k : Int) + 1)) (.int .i64 0))
          generalize set9c w2 W.heap.size (.int .i64 3) (.string ⟨tx.toArray⟩) (.int .i64 0) (.int .i64 0) (.int .i64 0) (.int .i64 0) (.slice none 0 0) (.int .i64 ((k : Int) + 1)) (.int .i64 0) = W9 at *
          have HS := HB9.out.cell
          refine bodyPost_ret (v := .agg #[.int .i64 3, .string ⟨tx.toArray⟩, .int .i64 0, .int .i64 0, .int .i64 0, .int .i64 0, .slice none 0 0, .int .i64 ((k : Int) + 1), .int .i64 0]) (by simp [results, Tryd.results81, go_sem, HS]) rfl ?_
          exact ⟨none, 0, .nil, k + 1, rfl, hk1, rfl, rfl, fo_nil _ _, own9 HFR.out HF9.out⟩
        · rw [if_neg hc]
          have hcb : (cv == 0) = false := by simpa using hc
          have hk2 := hkk1 (HC0.out hc)
          rw [remT_hd hk2]
          obtain ⟨b2, o2, hT2⟩ := tkAt h hk2
          have hI2 : (k : Int) + 2 < toks.length := by omega
          have hJ2 : 0 ≤ (k : Int) + 2 := by omega
          have e2 : ((k : Int) + 2).toNat = k + 1 + 1 := by omega
          have hkk2 := fun (hn : ¬ toks[k + 1 + 1].1.kind = 0) => next_lt ht hk2 hn
          generalize toks[k + 1 + 1] = x2 at *
          obtain ⟨⟨kd2, tx2, nm2⟩, pl2⟩ := x2
          obtain ⟨hA2, hb2, g0, g1, g2, g3⟩ := hT2
          obtain ⟨rfl, rfl, _⟩ : b = b2 ∧ o = o2 ∧ True := by simpa using hA2
          clear hA2 hkk1 g1 g3
          dsimp only at *
          by_cases h2 : kd2 = 2
          · rw [if_neg (by simpa using h2)]
            subst h2
            have hk3 := hkk2 (by decide)
            clear h htr hfa
            unfold RRes rval at *
            go_enter Tryd.func81, Tryd.ntmps81
            go_wp2_with (first
              | ((go_at_call 82); (with_reducible refine (HSG.out _ ((Fr.refl _ _).alloc _)).mono ?_); rintro en w1 ⟨rfl, rfl⟩)
              | ((go_at_call 139); (with_reducible refine (HCM.out _).mono ?_); rintro en w2 ⟨rfl, hf2⟩; replace HZ := Lib.hid (HZ.out.fr hf2 (fun e => e)); replace HFR := Lib.hid (HFR.out.call hf2 (fun _ h _ => h)); have q1 := HFR.out.cell d1 (fun e => e); have hbw := Nat.lt_of_lt_of_le hb HFR.out.size; (try (have q2 := HFR.out.cell g0 (fun e => e))); (try (have q3 := HFR.out.cell g2 (fun e => e))); replace zc := HZ.out.cell; replace zf := HZ.out.frozen; replace zl := HZ.out.lt; clear hf2)
              )
            go_region
            go_wp2_with fail
            have HB9 := Lib.hid (set9c_blk HZ.out (.int .i64 3) (.string ⟨tx.toArray⟩) (.int .i64 cv) (.int .i64 nm2) (.int .i64 0) (.int .i64 0) (.slice none 0 0) (.int .i64 ((k : Int) + 3)) (.int .i64 0)).drew
            have HF9 := Lib.hid (set9c_fr w2 W.heap.size (.int .i64 3) (.string ⟨tx.toArray⟩) (.int .i64 cv) (.int .i64 nm2) (.int .i64 0) (.int .i64 0) (.slice none 0 0) (.int .i64 ((k : Int) + 3)) (.int .i64 0)).drew
            change bodyPost _ _ _ _ _ (set9c w2 W.heap.size (.int .i64 3) (.string ⟨tx.toArray⟩) (.int .i64 cv) (.int .i64 nm2) (.int .i64 0) (.int .i64 0) (.slice none 0 0) (.int .i64 ((k : Int) + 3)) (.int .i64 0)).drew
            generalize (set9c w2 W.heap.size (.int .i64 3) (.string ⟨tx.toArray⟩) (.int .i64 cv) (.int .i64 nm2) (.int .i64 0) (.int .i64 0) (.slice none 0 0) (.int .i64 ((k : Int) + 3)) (.int .i64 0)).drew = W9 at *
            have HS := HB9.out.cell
            refine bodyPost_ret (v := .agg #[.int .i64 3, .string ⟨tx.toArray⟩, .int .i64 cv, .int .i64 nm2, .int .i64 0, .int .i64 0, .slice none 0 0, .int .i64 ((k : Int) + 3), .int .i64 0]) (by simp [results, Tryd.results81, go_sem, HS]) rfl ?_
            exact ⟨none, 0, .nil, k + 1 + 1 + 1, by rw [show (((k + 1 + 1 + 1 : Nat)) : Int) = (k : Int) + 3 by omega]; rfl, hk3, remT_tail _ _, rfl, fo_nil _ _, own9 HFR.out HF9.out⟩
          · rw [if_pos h2]
            clear h htr hfa
            unfold RRes rval at *
            go_enter Tryd.func81, Tryd.ntmps81
            go_wp2_with (first
              | ((go_at_call 82); (with_reducible refine (HSG.out _ ((Fr.refl _ _).alloc _)).mono ?_); rintro en w1 ⟨rfl, rfl⟩)
              | ((go_at_call 139); (with_reducible refine (HCM.out _).mono ?_); rintro en w2 ⟨rfl, hf2⟩; replace HZ := Lib.hid (HZ.out.fr hf2 (fun e => e)); replace HFR := Lib.hid (HFR.out.call hf2 (fun _ h _ => h)); have q1 := HFR.out.cell d1 (fun e => e); have hbw := Nat.lt_of_lt_of_le hb HFR.out.size; (try (have q2 := HFR.out.cell g0 (fun e => e))); (try (have q3 := HFR.out.cell g2 (fun e => e))); replace zc := HZ.out.cell; replace zf := HZ.out.frozen; replace zl := HZ.out.lt; clear hf2)
              | ((go_at_call 50); (with_reducible refine (rf_bad _ _ _).mono ?_); unfold rval nd1; rintro en w3 ⟨rfl, hf2⟩; replace HZ := Lib.hid (HZ.out.fr hf2 (fun e => e)); replace HFR := Lib.hid (HFR.out.call hf2 (fun _ h _ => h)); replace zc := HZ.out.cell; replace zf := HZ.out.frozen; replace zl := HZ.out.lt; clear hf2)
              )
            have HB9 := Lib.hid (set9c_blk HZ.out (.int .i64 0) (.string ⟨#[]⟩) (.int .i64 0) (.int .i64 0) (.int .i64 0) (.int .i64 0) (.slice none 0 0) (.int .i64 ((k : Int) + 2)) (.int .i64 20))
            have HF9 := Lib.hid (set9c_fr w3 W.heap.size (.int .i64 0) (.string ⟨#[]⟩) (.int .i64 0) (.int .i64 0) (.int .i64 0) (.int .i64 0) (.slice none 0 0) (.int .i64 ((k : Int) + 2)) (.int .i64 20))
            change bodyPost _ _ _ _ _ (set9c w3 W.heap.size (.int .i64 0) (.string ⟨#[]⟩) (.int .i64 0) (.int .i64 0) (.int .i64 0) (.int .i64 0) (.slice none 0 0) (.int .i64 ((k : Int) + 2)) (.int .i64 20))
            generalize set9c w3 W.heap.size (.int .i64 0) (.string ⟨#[]⟩) (.int .i64 0) (.int .i64 0) (.int .i64 0) (.int .i64 0) (.slice none 0 0) (.int .i64 ((k : Int) + 2)) (.int .i64 20) = W9 at *
            have HS := HB9.out.cell
            refine bodyPost_ret (v := .agg #[.int .i64 0, .string ⟨#[]⟩, .int .i64 0, .int .i64 0, .int .i64 0, .int .i64 0, .slice none 0 0, .int .i64 ((k : Int) + 2), .int .i64 20]) (by simp [results, Tryd.results81, go_sem, HS]) rfl ?_
            exact ⟨nd1 0 0 0, none, 0, 0, k + 1 + 1, by rw [show (((k + 1 + 1 : Nat)) : Int) = (k : Int) + 2 by omega]; rfl, by decide, hk2, rfl, own9 HFR.out HF9.out⟩
  · rw [if_pos hkd]
    clear h hkk
    unfold RRes rval at *
    go_enter Tryd.func81, Tryd.ntmps81
    go_wp2_with (first
      | ((go_at_call 82); (with_reducible refine (HSG.out _ ((Fr.refl _ _).alloc _)).mono ?_); rintro en w1 ⟨rfl, rfl⟩)
      | ((go_at_call 50); (with_reducible refine (rf_bad _ _ _).mono ?_); unfold rval nd1; rintro en w3 ⟨rfl, hf2⟩; replace HZ := Lib.hid (HZ.out.fr hf2 (fun e => e)); replace HFR := Lib.hid (HFR.out.call hf2 (fun _ h _ => h)); replace zc := HZ.out.cell; replace zf := HZ.out.frozen; replace zl := HZ.out.lt; clear hf2)
      )
    have HB9 := Lib.hid (set9c_blk HZ.out (.int .i64 0) (.string ⟨#[]⟩) (.int .i64 0) (.int .i64 0) (.int .i64 0) (.int .i64 0) (.slice none 0 0) (.int .i64 (k)) (.int .i64 20))
    have HF9 := Lib.hid (set9c_fr w3 W.heap.size (.int .i64 0) (.string ⟨#[]⟩) (.int .i64 0) (.int .i64 0) (.int .i64 0) (.int .i64 0) (.slice none 0 0) (.int .i64 (k)) (.int .i64 20))
    change bodyPost _ _ _ _ _ (set9c w3 W.heap.size (.int .i64 0) (.string ⟨#[]⟩) (.int .i64 0) (.int .i64 0) (.int .i64 0) (.int .i64 0) (.slice none 0 0) (.int .i64 (k)) (.int .i64 20))
    generalize set9c w3 W.heap.size (.int .i64 0) (.string ⟨#[]⟩) (.int .i64 0) (.int .i64 0) (.int .i64 0) (.int .i64 0) (.slice none 0 0) (.int .i64 (k)) (.int .i64 20) = W9 at *
    have HS := HB9.out.cell
    refine bodyPost_ret (v := .agg #[.int .i64 0, .string ⟨#[]⟩, .int .i64 0, .int .i64 0, .int .i64 0, .int .i64 0, .slice none 0 0, .int .i64 (k), .int .i64 20]) (by simp [results, Tryd.results81, go_sem, HS]) rfl ?_
    exact ⟨nd1 0 0 0, none, 0, 0, k, rfl, by decide, hk, rfl, own9 HFR.out HF9.out⟩
set_option maxRecDepth 100000 in
set_option maxHeartbeats 4000000 in
theorem rf_atom (A : Option Addr) (c : Nat) (toks : List (TK × Nat)) (ht : Toks toks) (n : Nat) (hlev : LevOk A c toks 1 (gP n)) : AtOk A c toks (gP (n + 1)) := by
  intro W k h hk hne
  rw [show gP (n + 1) (.lev 7 (remT toks k)) = if sgn (remT toks k) [40] then (gP n (.lev 1 (remT toks k).tail)).bind fun x ks r => if sgn r [41] then .ok x ks r.tail else .bad 20 r else wordP (remT toks k) from rfl] at hne ⊢
  rw [sgn_rem hk, remT_tail] at hne ⊢
  cases h1 : tsg toks[k] [40]
  · rw [if_neg (by simp)]
    exact rf_word A c toks ht W k h hk h1
  · rw [h1, if_pos rfl] at hne
    rw [if_pos rfl]
    have hk1 := next_lt ht hk (tsg_kind h1)
    have hk6 : (k : Int) ≤ 600 := by have := ht.few; omega
    have HSG := Lib.hid (fun X (hf : Fr Nob W X) => rf_sign X A c toks k (h.pure hf) hk [40])
    rw [h1] at HSG
    have HZ := Lib.hid (Blk.new W 97 z9)
    have HFR := Lib.hid ((Fr.refl Nob W).alloc (.cells z9 97))
    unfold z9 at HZ HFR
    have zc := HZ.out.cell
    have zf := HZ.out.frozen
    have zl := HZ.out.lt
    cases hq : gP n (.lev 1 (remT toks (k + 1))) with
    | out => rw [hq] at hne; exact absurd rfl hne
    | bad er r =>
      have HLV := Lib.hid (fun X (hf : Fr Nob W X) => lv_bad hlev hk1 hq (li := 1) (ki := (k : Int) + 1) (by omega) (by omega) X (h.pure hf))
      rw [show ∀ g, (PR.bad er r).bind g = .bad er r from fun _ => rfl]
      clear h hne hq hlev h1
      unfold RRes at *
      unfold rval at *
      go_enter Tryd.func81, Tryd.ntmps81
      go_upto_region 3 with (first
        | ((go_at_call 82); (with_reducible refine (HSG.out _ ((Fr.refl _ _).alloc _)).mono ?_); rintro en w1 ⟨rfl, rfl⟩)
        | ((go_at_call 49); (with_reducible refine (HLV.out _ ((Fr.refl _ _).alloc _)).mono ?_); rintro en w2 ⟨x, B, m, d, k2, rfl, he, hk2, hr2, hf2⟩; replace HZ := Lib.hid (HZ.out.fr hf2 (fun e => e)); replace HFR := Lib.hid (HFR.out.call hf2 (fun _ h _ => h)); replace zc := HZ.out.cell; replace zf := HZ.out.frozen; replace zl := HZ.out.lt; have he2 : (er == 0) = false := (by simpa using he); clear hf2)
        )
      obtain ⟨wa, hwa⟩ : ∃ wa, w2.alloc (.cells #[.int .i64 x.op, .string x.name, .int .i64 x.cmp, .int .i64 x.val, .int .i64 x.lo, .int .i64 x.hi, .slice B m d, .int .i64 k2, .int .i64 er] 97) = wa := ⟨_, rfl⟩
      have hfa : Fr Nob w2 wa := by rw [← hwa]; exact (Fr.refl _ _).alloc _
      have hXA : Blk wa w2.heap.size 97 #[.int .i64 x.op, .string x.name, .int .i64 x.cmp, .int .i64 x.val, .int .i64 x.lo, .int .i64 x.hi, .slice B m d, .int .i64 k2, .int .i64 er] := by rw [← hwa]; exact Blk.new _ _ _
      rw [hwa]
      have hGZ : w2.heap.size ≠ W.heap.size := by omega
      replace HZ := Lib.hid (HZ.out.fr hfa (fun e => e))
      replace HFR := Lib.hid (HFR.out.call hfa (fun _ h _ => h))
      have HFA := Lib.hid hfa
      have HX := Lib.hid hXA
      replace zc := HZ.out.cell
      replace zf := HZ.out.frozen
      replace zl := HZ.out.lt
      have xc := HX.out.cell
      have xf := HX.out.frozen
      have xl := HX.out.lt
      clear hwa hfa hXA
      go_wp2_with fail
      have HB9 := Lib.hid (set9c_blk HZ.out (.int .i64 x.op) (.string x.name) (.int .i64 x.cmp) (.int .i64 x.val) (.int .i64 x.lo) (.int .i64 x.hi) (.slice B m d) (.int .i64 (k2)) (.int .i64 er))
      have HF9 := Lib.hid (set9c_fr wa W.heap.size (.int .i64 x.op) (.string x.name) (.int .i64 x.cmp) (.int .i64 x.val) (.int .i64 x.lo) (.int .i64 x.hi) (.slice B m d) (.int .i64 (k2)) (.int .i64 er))
      change bodyPost _ _ _ _ _ (set9c wa W.heap.size (.int .i64 x.op) (.string x.name) (.int .i64 x.cmp) (.int .i64 x.val) (.int .i64 x.lo) (.int .i64 x.hi) (.slice B m d) (.int .i64 (k2)) (.int .i64 er))
      generalize set9c wa W.heap.size (.int .i64 x.op) (.string x.name) (.int .i64 x.cmp) (.int .i64 x.val) (.int .i64 x.lo) (.int .i64 x.hi) (.slice B m d) (.int .i64 (k2)) (.int .i64 er) = W9 at *
      have HS := HB9.out.cell
      refine bodyPost_ret (v := .agg #[.int .i64 x.op, .string x.name, .int .i64 x.cmp, .int .i64 x.val, .int .i64 x.lo, .int .i64 x.hi, .slice B m d, .int .i64 (k2), .int .i64 er]) (by simp [results, Tryd.results81, go_sem, HS]) rfl ?_
      exact ⟨x, B, m, d, k2, rfl, he, hk2, hr2, own9 HFR.out HF9.out⟩
    | ok x ks r =>
      obtain ⟨k1, hk1', rfl⟩ := lev_pos ht hk1 hq
      have HLV := Lib.hid (fun X (hf : Fr Nob W X) => lv_ok hlev hk1 hq hk1' (li := 1) (ki := (k : Int) + 1) (by omega) (by omega) X (h.pure hf))
      have HS2 := Lib.hid (fun X (hf : Fr Nob W X) => rf_sign X A c toks k1 (h.pure hf) hk1' [41])
      rw [show ∀ g, (PR.ok x ks (remT toks k1)).bind g = g x ks (remT toks k1) from fun _ => rfl]
      simp only [sgn_rem hk1', remT_tail]
      have hk16 : (k1 : Int) ≤ 600 := by have := ht.few; omega
      have hnx := fun hs => next_lt ht hk1' (tsg_kind (s := [41]) hs)
      clear h hne hq hlev h1
      unfold rval at *
      cases h2 : tsg toks[k1] [41]
      · rw [h2] at HS2
        rw [if_neg (by simp)]
        clear h2 hnx
        unfold RRes rval at *
        go_enter Tryd.func81, Tryd.ntmps81
        go_upto_region 3 with (first
          | ((go_at_call 82); (with_reducible refine (HSG.out _ ((Fr.refl _ _).alloc _)).mono ?_); rintro en w1 ⟨rfl, rfl⟩)
          | ((go_at_call 49); (with_reducible refine (HLV.out _ ((Fr.refl _ _).alloc _)).mono ?_); rintro en w2 ⟨B, d, f, rfl, htr, hsl, hf2⟩; replace HZ := Lib.hid (HZ.out.fr hf2 (fun e => e)); replace HFR := Lib.hid (HFR.out.call hf2 (fun _ h _ => h)); have HSL := Lib.hid (slp_up (M := W.heap.size + 1) hsl (by simp)); have HSZ := Lib.hid (show W.heap.size + 1 ≤ w2.heap.size by have := hf2.size; simpa using this); have HTR := Lib.hid htr; replace zc := HZ.out.cell; replace zf := HZ.out.frozen; replace zl := HZ.out.lt; clear hf2 htr hsl)
          )
        obtain ⟨wa, hwa⟩ : ∃ wa, w2.alloc (.cells #[.int .i64 x.op, .string x.name, .int .i64 x.cmp, .int .i64 x.val, .int .i64 x.lo, .int .i64 x.hi, .slice B f.len d, .int .i64 k1, .int .i64 0] 97) = wa := ⟨_, rfl⟩
        have hfa : Fr Nob w2 wa := by rw [← hwa]; exact (Fr.refl _ _).alloc _
        have hXA : Blk wa w2.heap.size 97 #[.int .i64 x.op, .string x.name, .int .i64 x.cmp, .int .i64 x.val, .int .i64 x.lo, .int .i64 x.hi, .slice B f.len d, .int .i64 k1, .int .i64 0] := by rw [← hwa]; exact Blk.new _ _ _
        rw [hwa]
        have hGZ : w2.heap.size ≠ W.heap.size := by omega
        replace HZ := Lib.hid (HZ.out.fr hfa (fun e => e))
        replace HFR := Lib.hid (HFR.out.call hfa (fun _ h _ => h))
        have HFA := Lib.hid hfa
        have HX := Lib.hid hXA
        replace zc := HZ.out.cell
        replace zf := HZ.out.frozen
        replace zl := HZ.out.lt
        have xc := HX.out.cell
        have xf := HX.out.frozen
        have xl := HX.out.lt
        clear hwa hfa hXA
        go_wp2_with (first
          | ((go_at_call 82); (with_reducible refine (HS2.out _ HFR.out).mono ?_); rintro en w1 ⟨rfl, rfl⟩)
          | ((go_at_call 50); (with_reducible refine (rf_bad _ _ _).mono ?_); unfold rval nd1; rintro en w3 ⟨rfl, hf2⟩; replace HZ := Lib.hid (HZ.out.fr hf2 (fun e => e)); replace HFR := Lib.hid (HFR.out.call hf2 (fun _ h _ => h)); replace zc := HZ.out.cell; replace zf := HZ.out.frozen; replace zl := HZ.out.lt; clear hf2)
          )
        have HB9 := Lib.hid (set9c_blk HZ.out (.int .i64 0) (.string ⟨#[]⟩) (.int .i64 0) (.int .i64 0) (.int .i64 0) (.int .i64 0) (.slice none 0 0) (.int .i64 (k1)) (.int .i64 20))
        have HF9 := Lib.hid (set9c_fr w3 W.heap.size (.int .i64 0) (.string ⟨#[]⟩) (.int .i64 0) (.int .i64 0) (.int .i64 0) (.int .i64 0) (.slice none 0 0) (.int .i64 (k1)) (.int .i64 20))
        change bodyPost _ _ _ _ _ (set9c w3 W.heap.size (.int .i64 0) (.string ⟨#[]⟩) (.int .i64 0) (.int .i64 0) (.int .i64 0) (.int .i64 0) (.slice none 0 0) (.int .i64 (k1)) (.int .i64 20))
        generalize set9c w3 W.heap.size (.int .i64 0) (.string ⟨#[]⟩) (.int .i64 0) (.int .i64 0) (.int .i64 0) (.int .i64 0) (.slice none 0 0) (.int .i64 (k1)) (.int .i64 20) = W9 at *
        have HS := HB9.out.cell
        refine bodyPost_ret (v := .agg #[.int .i64 0, .string ⟨#[]⟩, .int .i64 0, .int .i64 0, .int .i64 0, .int .i64 0, .slice none 0 0, .int .i64 (k1), .int .i64 20]) (by simp [results, Tryd.results81, go_sem, HS]) rfl ?_
        exact ⟨nd1 0 0 0, none, 0, 0, k1, rfl, by decide, hk1', rfl, own9 HFR.out HF9.out⟩
      · rw [h2] at HS2
        rw [if_pos rfl]
        have hk3 := hnx h2
        clear h2 hnx
        unfold RRes rval at *
        go_enter Tryd.func81, Tryd.ntmps81
        go_upto_region 3 with (first
          | ((go_at_call 82); (with_reducible refine (HSG.out _ ((Fr.refl _ _).alloc _)).mono ?_); rintro en w1 ⟨rfl, rfl⟩)
          | ((go_at_call 49); (with_reducible refine (HLV.out _ ((Fr.refl _ _).alloc _)).mono ?_); rintro en w2 ⟨B, d, f, rfl, htr, hsl, hf2⟩; replace HZ := Lib.hid (HZ.out.fr hf2 (fun e => e)); replace HFR := Lib.hid (HFR.out.call hf2 (fun _ h _ => h)); have HSL := Lib.hid (slp_up (M := W.heap.size + 1) hsl (by simp)); have HSZ := Lib.hid (show W.heap.size + 1 ≤ w2.heap.size by have := hf2.size; simpa using this); have HTR := Lib.hid htr; replace zc := HZ.out.cell; replace zf := HZ.out.frozen; replace zl := HZ.out.lt; clear hf2 htr hsl)
          )
        obtain ⟨wa, hwa⟩ : ∃ wa, w2.alloc (.cells #[.int .i64 x.op, .string x.name, .int .i64 x.cmp, .int .i64 x.val, .int .i64 x.lo, .int .i64 x.hi, .slice B f.len d, .int .i64 k1, .int .i64 0] 97) = wa := ⟨_, rfl⟩
        have hfa : Fr Nob w2 wa := by rw [← hwa]; exact (Fr.refl _ _).alloc _
        have hXA : Blk wa w2.heap.size 97 #[.int .i64 x.op, .string x.name, .int .i64 x.cmp, .int .i64 x.val, .int .i64 x.lo, .int .i64 x.hi, .slice B f.len d, .int .i64 k1, .int .i64 0] := by rw [← hwa]; exact Blk.new _ _ _
        rw [hwa]
        have hGZ : w2.heap.size ≠ W.heap.size := by omega
        replace HZ := Lib.hid (HZ.out.fr hfa (fun e => e))
        replace HFR := Lib.hid (HFR.out.call hfa (fun _ h _ => h))
        have HFA := Lib.hid hfa
        have HX := Lib.hid hXA
        replace zc := HZ.out.cell
        replace zf := HZ.out.frozen
        replace zl := HZ.out.lt
        have xc := HX.out.cell
        have xf := HX.out.frozen
        have xl := HX.out.lt
        clear hwa hfa hXA
        go_wp2_with (first
          | ((go_at_call 82); (with_reducible refine (HS2.out _ HFR.out).mono ?_); rintro en w1 ⟨rfl, rfl⟩)
          )
        obtain ⟨wb, hwb⟩ : ∃ wb, w1.setCell ⟨w2.heap.size, 7, none⟩ (.int .i64 ((k1 : Int) + 1)) = wb := ⟨_, rfl⟩
        have hfb : Fr Nob W wb := by rw [← hwb]; exact HFR.out.setCell (p := ⟨w2.heap.size, 7, none⟩) (fun h => absurd h (by have := HSZ.out; simp; omega)) _
        have hf2 : Fr (Only W.heap.size) w2 wb := by rw [← hwb]; exact (HFA.out.mono (fun _ _ h => h.elim)).setCell (p := ⟨w2.heap.size, 7, none⟩) (fun h => absurd h (by simp)) _
        have hzb := HZ.out.far (p := ⟨w2.heap.size, 7, none⟩) (Ne.symm hGZ) (.int .i64 ((k1 : Int) + 1))
        rw [hwb] at hzb ⊢
        replace HZ := Lib.hid hzb
        have HB9 := Lib.hid (set9c_blk HZ.out (.int .i64 x.op) (.string x.name) (.int .i64 x.cmp) (.int .i64 x.val) (.int .i64 x.lo) (.int .i64 x.hi) (.slice B f.len d) (.int .i64 ((k1 : Int) + 1)) (.int .i64 0))
        have HF9 := Lib.hid (set9c_fr wb W.heap.size (.int .i64 x.op) (.string x.name) (.int .i64 x.cmp) (.int .i64 x.val) (.int .i64 x.lo) (.int .i64 x.hi) (.slice B f.len d) (.int .i64 ((k1 : Int) + 1)) (.int .i64 0))
        change bodyPost _ _ _ _ _ (set9c wb W.heap.size (.int .i64 x.op) (.string x.name) (.int .i64 x.cmp) (.int .i64 x.val) (.int .i64 x.lo) (.int .i64 x.hi) (.slice B f.len d) (.int .i64 ((k1 : Int) + 1)) (.int .i64 0))
        generalize set9c wb W.heap.size (.int .i64 x.op) (.string x.name) (.int .i64 x.cmp) (.int .i64 x.val) (.int .i64 x.lo) (.int .i64 x.hi) (.slice B f.len d) (.int .i64 ((k1 : Int) + 1)) (.int .i64 0) = W9 at *
        have HS := HB9.out.cell
        refine bodyPost_ret (v := .agg #[.int .i64 x.op, .string x.name, .int .i64 x.cmp, .int .i64 x.val, .int .i64 x.lo, .int .i64 x.hi, .slice B f.len d, .int .i64 ((k1 : Int) + 1), .int .i64 0]) (by simp [results, Tryd.results81, go_sem, HS]) rfl ?_
        exact ⟨B, d, f, k1 + 1, rfl, hk3, rfl, HTR.out, slp_end HSL.out (hf2.call HF9.out (fun _ h _ => h)), own9 hfb HF9.out⟩
end Go.Proofs.YtfebkjoohnlifaaDoor
