/- The law DetectIdle, walked. -/
import Derived.Test.YtakmdblcigcifaaDlaw2
namespace Go.Proofs.Ytakmdblcigcifaa
open Go.RowKit

theorem dlasts_le (D : DD) (k : Nat) : 0 ≤ dlasts D k := by
  induction k with
  | zero => exact Int.le_refl _
  | succ k ih => simp only [dlasts]; omega
def danyk (D : DD) (k : Nat) : Bool := (List.range k).any fun i => D.st.getD i 0 == 1
theorem danyk_succ (D : DD) (k : Nat) : danyk D (k + 1) = (danyk D k || (D.st.getD k 0 == 1)) := by
  unfold danyk; rw [List.range_succ, List.any_append]; simp
theorem dactive_eq {D : DD} : dactive D = danyk D D.st.length := rfl

set_option maxRecDepth 100000 in
set_option maxHeartbeats 1600000 in
theorem law_Idle (w : World) (n to : Int) (hn : I64 n) (hto : I64 to) (A : Option Addr) (c : Nat) (l : List Act3) (hl : Sl w 3 A l.length c (l.flatMap actc)) (hok : ∀ x ∈ l, actok x) :
    Calls Try.prog 6 #[.int .i64 n, .int .i64 to, .slice A l.length c] w fun e w' => e = .returned (.bool true) ∧ Fr Nob w w' := by
  have HL := Lib.hid hl
  have HOK := Lib.hid hok
  have hto2 := hto.2
  clear hl hok hto
  go_enter Try.func6, Try.ntmps6
  go_wp2_with fail
  refine (law_awake _).mono ?_
  rintro e w1 ⟨rfl, hf⟩
  have F1 := Lib.hid hf
  clear hf
  by_cases h120 : 120 < l.length
  · have hI : 120 < (l.length : Int) := by omega
    go_wp2_with fail
    go_ret
    exact ⟨rfl, F1.out⟩
  · have hI : ¬ 120 < (l.length : Int) := by omega
    by_cases hbad : n < 1 ∨ 8 < n ∨ to < 1
    · go_wp2_with fail
      refine (det_New_no _ n to hbad).mono ?_
      rintro e w2 ⟨rfl, rfl⟩
      clear hbad
      go_wp2_with fail
      go_ret
      exact ⟨rfl, F1.out⟩
    · have hn1 : 1 ≤ n := by omega
      have hn8 : n ≤ 8 := by omega
      have ht1 : 1 ≤ to := by omega
      clear hbad
      obtain ⟨N, rfl⟩ := Int.eq_ofNat_of_zero_le (show 0 ≤ n by omega)
      go_wp2_with fail
      refine (det_New _ N to (by omega) (by omega) ht1).mono ?_
      rintro e w2 ⟨rfl, hd, hf⟩
      have F2 := Lib.hid (F1.out.call hf (fun _ h _ => h))
      have D2 := Lib.hid hd
      have W2 := Lib.hid (wf_new N to (by omega) (by omega) ht1 hto2)
      have hb0 : w.heap.size ≤ w1.heap.size := F1.out.size
      clear hd hf
      generalize w1.heap.size = b at *
      go_wp2_with fail
      go_loopw [10] (fun i wr => ∃ (k : Nat) (D : DD), k ≤ l.length ∧ i = .int .i64 k ∧ Hid (Det wr b D) ∧ Hid (WF D) ∧ Hid (SJ D) ∧ Hid (D.st.length = N) ∧ Hid (D.to = to) ∧ Hid (Fr Nob w wr)) (fun i _ => l.length - (intOf i).toNat)
      case atStart => exact ⟨0, dnew N to, Nat.zero_le _, rfl, D2.out, W2.out, sj_new N to, by simp [dnew, Hid], rfl, F2.out⟩
      case round =>
        obtain ⟨k, D, hk, rfl, hd, hw, hj, hlen, hdto, hfr⟩ := hrel
        by_cases hlt : k < l.length
        · have hI2 : (k : Int) < l.length := by omega
          have hI3 : 0 ≤ (k : Int) := by omega
          have HC := Lib.hid (fun W (h : Fr Nob w W) => act_cells (HL.out.pure h) hlt)
          obtain ⟨ba, off, rfl, hba, c0, c1, c2⟩ := HC.out wr hfr.out
          have hak := HOK.out l[k] (List.getElem_mem hlt)
          have HA := Lib.hid hak
          have ha0 := hak.1.1
          have ha1 := hak.1.2
          clear hak
          have hle := HL.out.le
          have hmx := HL.out.max
          unfold maxLen at hmx
          generalize l[k] = x at *
          obtain ⟨xa, xs, xn⟩ := x
          simp only at c0 c1 c2 ha0 ha1 HC
          have W3 := Lib.hid (wf_dplay hw.out xa xs xn)
          have J3 := Lib.hid (sj_play hw.out hj.out xa xs xn)
          have L3 := Lib.hid (show (dplay D xa xs xn).1.st.length = N by rw [(play_len D xa xs xn).1, hlen.out])
          have T3 := Lib.hid (show (dplay D xa xs xn).1.to = to by rw [(play_len D xa xs xn).2, hdto.out])
          go_wp2_with fail
          refine (law_play _ b D xa xs xn HA.out.2.2 hw.out hd.out).mono ?_
          rintro e w3 ⟨rfl, hd3, hf3⟩
          have F3 := Lib.hid (fr_only_new hfr.out hb0 hf3)
          have D3 := Lib.hid hd3
          clear hd3 hf3
          generalize hplay : dplay D xa xs xn = r at *
          obtain ⟨P3, v3⟩ := r
          simp only at D3 W3 J3 L3 T3
          clear hplay
          go_wp2_with fail
          go_loop [11, 12, 13] (fun a m s => ∃ j : Nat, j ≤ N ∧ s = .int .i64 j ∧ a = .bool (danyk P3 j) ∧ m = .int .i64 (dlasts P3 j)) (fun _ _ s => N - (intOf s).toNat)
          case atStart => exact ⟨0, Nat.zero_le _, rfl, rfl, rfl⟩
          case round =>
            obtain ⟨j, hj, rfl, rfl, rfl⟩ := hrel
            by_cases hjn : j < N
            · have hjI : (j : Int) < N := by omega
              have hj5 : j < P3.st.length := by rw [L3.out]; exact hjn
              have hhas : dhas P3 (j : Int) = true := by unfold dhas; rw [L3.out]; simp; omega
              have HS1 := Lib.hid (show dlast P3 (j : Int) = P3.la.getD j 0 by unfold dlast; rw [if_pos hhas]; rfl)
              have HS2 := Lib.hid (show dstate P3 (j : Int) = P3.st.getD j 0 by unfold dstate; rw [if_pos hhas]; rfl)
              have HM := Lib.hid (show dlasts P3 (j + 1) = max (dlasts P3 j) (P3.la.getD j 0) from rfl)
              have HA2 := Lib.hid (danyk_succ P3 j)
              clear hhas
              generalize P3.la.getD j 0 = la at *
              generalize P3.st.getD j 0 = st at *
              generalize hda : danyk P3 j = da at *
              generalize hdm : dlasts P3 j = dm at *
              clear hda hdm
              cases da
              · go_wp2_with fail
                refine (det_State _ b P3 _ W3.out D3.out).mono ?_
                rintro e w5 ⟨rfl, rfl⟩
                rw [HS2.out]
                go_wp2_with fail
                refine (det_Last _ b P3 _ W3.out D3.out).mono ?_
                rintro e w5 ⟨rfl, rfl⟩
                rw [HS1.out]
                go_wp2_with fail
                all_goals
                  go_round
                  case rel => exact ⟨j + 1, by omega, by go_num, by rw [HA2.out]; simp, by rw [HM.out]; exact vint (by omega)⟩
                  case measure => simp [intOf]; omega
              · go_wp2_with fail
                refine (det_Last _ b P3 _ W3.out D3.out).mono ?_
                rintro e w5 ⟨rfl, rfl⟩
                rw [HS1.out]
                go_wp2_with fail
                all_goals
                  go_round
                  case rel => exact ⟨j + 1, by omega, by go_num, by rw [HA2.out]; simp, by rw [HM.out]; exact vint (by omega)⟩
                  case measure => simp [intOf]; omega
            · have hjj : j = N := by omega
              subst hjj
              have HD := Lib.hid (show danyk P3 j = dactive P3 by rw [dactive_eq, L3.out])
              by_cases hact : dactive P3 = true
              · have HI := Lib.hid (show didle P3 = (0, false) by unfold didle; rw [if_pos hact])
                have HD2 := Lib.hid (show danyk P3 j = true by rw [HD.out]; exact hact)
                clear hact
                rw [HD2.out]
                go_wp2_with fail
                refine (det_Idle _ b P3 W3.out D3.out).mono ?_
                rw [HI.out]
                rintro e w5 ⟨rfl, hf5⟩
                have F5 := Lib.hid (F3.out.call hf5 (fun _ h _ => h))
                have D5 := Lib.hid (Det.fr D3.out hf5 (fun e => e))
                clear hf5
                go_wp2_with fail
                go_roundw
                case rel => exact ⟨k + 1, P3, by omega, by go_num, D5.out, W3.out, J3.out, L3.out, T3.out, F5.out⟩
                case measure => simp [intOf]; omega
              · have hact : dactive P3 = false := by simpa using hact
                have HI := Lib.hid (show didle P3 = (dsince P3 j, true) by unfold didle; rw [hact, L3.out]; rfl)
                have HD2 := Lib.hid (show danyk P3 j = false by rw [HD.out]; exact hact)
                have hin := dsince_in W3.out J3.out (fun s hs h1 => by have := dactive_at hs h1; rw [hact] at this; cases this) j (by rw [L3.out]; exact Nat.le_refl _)
                have q1 := hin.1
                have q2 := hin.2.1
                have q3 := hin.2.2
                clear hact hin
                rw [HD2.out]
                go_wp2_with fail
                refine (det_Idle _ b P3 W3.out D3.out).mono ?_
                rw [HI.out]
                rintro e w5 ⟨rfl, hf5⟩
                have F5 := Lib.hid (F3.out.call hf5 (fun _ h _ => h))
                have D5 := Lib.hid (Det.fr D3.out hf5 (fun e => e))
                clear hf5
                generalize dsince P3 j = si at *
                generalize dlasts P3 j = lm at *
                go_wp2_with fail
                refine (det_Now _ b P3 D5.out).mono ?_
                rintro e w6 ⟨rfl, rfl⟩
                go_wp2_with fail
                go_roundw
                case rel => exact ⟨k + 1, P3, by omega, by go_num, D5.out, W3.out, J3.out, L3.out, T3.out, F5.out⟩
                case measure => simp [intOf]; omega
        · have hkk : k = l.length := by omega
          subst hkk
          go_wp2_with fail
          go_ret
          exact ⟨rfl, hfr.out⟩
end Go.Proofs.Ytakmdblcigcifaa
