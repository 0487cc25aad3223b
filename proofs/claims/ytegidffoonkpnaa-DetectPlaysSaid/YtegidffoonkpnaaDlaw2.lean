/- The laws DetectTimes and DetectIdle, walked. -/
import Derived.Test.YtegidffoonkpnaaDplain
import Derived.Test.YtegidffoonkpnaaOpen
namespace Go.Proofs.Ytegidffoonkpnaa
open Go.RowKit

structure Act3 where
  a : Int
  s : Int
  n : Int
def actc (x : Act3) : List Value := [.int .u8 x.a, .int .i64 x.s, .int .i64 x.n]
def actok (x : Act3) : Prop := (0 ≤ x.a ∧ x.a ≤ 255) ∧ I64 x.s ∧ I64 x.n
theorem actc_len (x : Act3) : (actc x).length = 3 := rfl
theorem act_cells {w : World} {A : Option Addr} {c : Nat} {l : List Act3} {k : Nat} (h : Sl w 3 A l.length c (l.flatMap actc)) (hk : k < l.length) :
    ∃ b off, A = some ⟨b, off, none⟩ ∧ b < w.heap.size ∧ w.cell? ⟨b, off + k * 3, none⟩ = some (.int .u8 l[k].a) ∧ w.cell? ⟨b, off + k * 3 + 1, none⟩ = some (.int .i64 l[k].s) ∧ w.cell? ⟨b, off + k * 3 + 2, none⟩ = some (.int .i64 l[k].n) := by
  obtain ⟨b, off, hA, hb, hc⟩ := Sl.row (size := 3) actc_len h hk
  exact ⟨b, off, hA, hb, hc 0 _ rfl, by rw [Nat.add_assoc]; exact hc 1 _ rfl, by rw [Nat.add_assoc]; exact hc 2 _ rfl⟩

theorem fr_only_new {w w1 w2 : World} {b : Nat} (h : Fr Nob w w1) (hb : w.heap.size ≤ b) (hf : Fr (Only b) w1 w2) : Fr Nob w w2 := h.call hf (fun i hi hlt => by unfold Only at hi; omega)

set_option maxRecDepth 100000 in
set_option maxHeartbeats 1600000 in
theorem law_Times (w : World) (n to : Int) (hn : I64 n) (hto : I64 to) (A : Option Addr) (c : Nat) (l : List Act3) (hl : Sl w 3 A l.length c (l.flatMap actc)) (hok : ∀ x ∈ l, actok x) :
    Calls Try.prog 4 #[.int .i64 n, .int .i64 to, .slice A l.length c] w fun e w' => e = .returned (.bool true) ∧ Fr Nob w w' := by
  have HL := Lib.hid hl
  have HOK := Lib.hid hok
  have hto2 := hto.2
  clear hl hok hto
  go_enter Try.func4, Try.ntmps4
  go_wp2_with fail
  refine (law_awake _).mono ?_
  rintro e w1 ⟨rfl, hf⟩
  have F1 := Lib.hid hf
  clear hf
  by_cases h120 : 120 < l.length
  · have hI : 120 < (l.length : Int) := by omega
    go_wp2_with fail
    go_ret
    exact ⟨rfl, F1.out⟩
  · have hI : ¬ 120 < (l.length : Int) := by omega
    by_cases hbad : n < 1 ∨ 8 < n ∨ to < 1
    · go_wp2_with fail
      refine (det_New_no _ n to hbad).mono ?_
      rintro e w2 ⟨rfl, rfl⟩
      clear hbad
      go_wp2_with fail
      go_ret
      exact ⟨rfl, F1.out⟩
    · have hn1 : 1 ≤ n := by omega
      have hn8 : n ≤ 8 := by omega
      have ht1 : 1 ≤ to := by omega
      clear hbad
      obtain ⟨N, rfl⟩ := Int.eq_ofNat_of_zero_le (show 0 ≤ n by omega)
      go_wp2_with fail
      refine (det_New _ N to (by omega) (by omega) ht1).mono ?_
      rintro e w2 ⟨rfl, hd, hf⟩
      have F2 := Lib.hid (F1.out.call hf (fun _ h _ => h))
      have D2 := Lib.hid hd
      have W2 := Lib.hid (wf_new N to (by omega) (by omega) ht1 hto2)
      have hb0 : w.heap.size ≤ w1.heap.size := F1.out.size
      clear hd hf
      generalize w1.heap.size = b at *
      go_wp2_with fail
      go_loopw [10] (fun i wr => ∃ (k : Nat) (D : DD), k ≤ l.length ∧ i = .int .i64 k ∧ Hid (Det wr b D) ∧ Hid (WF D) ∧ Hid (SJ D) ∧ Hid (D.st.length = N) ∧ Hid (D.to = to) ∧ Hid (Fr Nob w wr)) (fun i _ => l.length - (intOf i).toNat)
      case atStart => exact ⟨0, dnew N to, Nat.zero_le _, rfl, D2.out, W2.out, sj_new N to, by simp [dnew, Hid], rfl, F2.out⟩
      case round =>
        obtain ⟨k, D, hk, rfl, hd, hw, hj, hlen, hdto, hfr⟩ := hrel
        by_cases hlt : k < l.length
        · have hI2 : (k : Int) < l.length := by omega
          have hI3 : 0 ≤ (k : Int) := by omega
          have HC := Lib.hid (fun W (h : Fr Nob w W) => act_cells (HL.out.pure h) hlt)
          obtain ⟨ba, off, rfl, hba, c0, c1, c2⟩ := HC.out wr hfr.out
          have hak := HOK.out l[k] (List.getElem_mem hlt)
          have HA := Lib.hid hak
          have ha0 := hak.1.1
          have ha1 := hak.1.2
          clear hak
          have hle := HL.out.le
          have hmx := HL.out.max
          unfold maxLen at hmx
          generalize l[k] = x at *
          obtain ⟨xa, xs, xn⟩ := x
          simp only at c0 c1 c2 ha0 ha1 HC
          have W3 := Lib.hid (wf_dplay hw.out xa xs xn)
          have J3 := Lib.hid (sj_play hw.out hj.out xa xs xn)
          have L3 := Lib.hid (show (dplay D xa xs xn).1.st.length = N by rw [(play_len D xa xs xn).1, hlen.out])
          have T3 := Lib.hid (show (dplay D xa xs xn).1.to = to by rw [(play_len D xa xs xn).2, hdto.out])
          have E3 := Lib.hid (show xa = 0 → (dtick (dplay D xa xs xn).1 0).2.1 = [] by
            intro h; subst h; exact tick_again (wf_dplay hw.out 0 xs xn) (ak_tick D xn))
          go_wp2_with fail
          refine (law_play _ b D xa xs xn HA.out.2.2 hw.out hd.out).mono ?_
          rintro e w3 ⟨rfl, hd3, hf3⟩
          have F3 := Lib.hid (fr_only_new hfr.out hb0 hf3)
          have D3 := Lib.hid hd3
          clear hd3 hf3
          generalize hplay : dplay D xa xs xn = r at *
          obtain ⟨P3, v3⟩ := r
          simp only at D3 W3 J3 L3 T3 E3
          clear hplay
          go_wp2_with fail
          refine (det_Tick _ b P3 0 (i64_small (by omega) (by omega)) W3.out D3.out).mono ?_
          rintro e w4 ⟨A4, c4, rfl, hd4, hsl4, hf4, hfresh4⟩
          have F4 := Lib.hid (fr_only_new F3.out hb0 hf4)
          have D4 := Lib.hid hd4
          have W4 := Lib.hid (wf_dtick W3.out 0)
          have J4 := Lib.hid (sj_tick W3.out J3.out 0)
          have K4 := Lib.hid (ak_tick P3 0)
          have L4 := Lib.hid (show (dtick P3 0).1.st.length = N by rw [(dtick_rest P3 0).2.2.2, L3.out])
          have T4 := Lib.hid (show (dtick P3 0).1.to = to by rw [(dtick_rest P3 0).2.1, T3.out])
          obtain ⟨bb, oo, hA4, _, d0, _, _⟩ := HC.out w4 F4.out
          cases hA4
          clear hd4 hf4 hsl4 hfresh4
          by_cases hx0 : xa = 0
          · have hE := E3.out hx0
            rw [hE]
            clear hE
            subst hx0
            go_wp2_with fail
            generalize (dtick P3 0).1 = D5 at *
            go_loop [13] (fun s => ∃ j : Nat, j ≤ N ∧ s = .int .i64 j) (fun s => N - (intOf s).toNat)
            case atStart => exact ⟨0, Nat.zero_le _, rfl⟩
            case round =>
              obtain ⟨j, hj, rfl⟩ := hrel
              by_cases hjn : j < N
              · have hjI : (j : Int) < N := by omega
                have hj5 : j < D5.st.length := by rw [L4.out]; exact hjn
                have q1 := W4.out.sts j hj5
                have q2 := W4.out.las j hj5
                have q3 := W4.out.now2
                have q4 := J4.out j hj5
                have q5 := K4.out j hj5
                rw [T4.out] at q4 q5
                have hhas : dhas D5 (j : Int) = true := by unfold dhas; rw [L4.out]; simp; omega
                have HS1 := Lib.hid (show dlast D5 (j : Int) = D5.la.getD j 0 by unfold dlast; rw [if_pos hhas]; rfl)
                have HS2 := Lib.hid (show dstate D5 (j : Int) = D5.st.getD j 0 by unfold dstate; rw [if_pos hhas]; rfl)
                clear hhas
                generalize D5.la.getD j 0 = la at *
                generalize D5.st.getD j 0 = st at *
                have q21 := q2.1
                have q22 := q2.2
                have hst : st = 1 ∨ st = 2 ∨ st = 3 := by omega
                clear q2 q1
                rcases hst with rfl | rfl | rfl
                · have q6 := q5 rfl
                  clear q4 q5
                  go_wp2_with fail
                  refine (det_Now _ b D5 D4.out).mono ?_
                  rintro e w5 ⟨rfl, rfl⟩
                  go_wp2_with fail
                  refine (det_Last _ b D5 _ W4.out D4.out).mono ?_
                  rintro e w5 ⟨rfl, rfl⟩
                  rw [HS1.out]
                  go_wp2_with fail
                  refine (det_State _ b D5 _ W4.out D4.out).mono ?_
                  rintro e w5 ⟨rfl, rfl⟩
                  rw [HS2.out]
                  go_wp2_with fail
                  go_round
                  case rel => exact ⟨j + 1, by omega, by go_num⟩
                  case measure => simp [intOf]; omega
                · have q6 := q4 rfl
                  clear q4 q5
                  go_wp2_with fail
                  refine (det_Now _ b D5 D4.out).mono ?_
                  rintro e w5 ⟨rfl, rfl⟩
                  go_wp2_with fail
                  refine (det_Last _ b D5 _ W4.out D4.out).mono ?_
                  rintro e w5 ⟨rfl, rfl⟩
                  rw [HS1.out]
                  go_wp2_with fail
                  refine (det_State _ b D5 _ W4.out D4.out).mono ?_
                  rintro e w5 ⟨rfl, rfl⟩
                  rw [HS2.out]
                  go_wp2_with fail
                  go_round
                  case rel => exact ⟨j + 1, by omega, by go_num⟩
                  case measure => simp [intOf]; omega
                · clear q4 q5
                  go_wp2_with fail
                  refine (det_Now _ b D5 D4.out).mono ?_
                  rintro e w5 ⟨rfl, rfl⟩
                  go_wp2_with fail
                  refine (det_Last _ b D5 _ W4.out D4.out).mono ?_
                  rintro e w5 ⟨rfl, rfl⟩
                  rw [HS1.out]
                  go_wp2_with fail
                  refine (det_State _ b D5 _ W4.out D4.out).mono ?_
                  rintro e w5 ⟨rfl, rfl⟩
                  rw [HS2.out]
                  go_wp2_with fail
                  go_round
                  case rel => exact ⟨j + 1, by omega, by go_num⟩
                  case measure => simp [intOf]; omega
              · have hjj : j = N := by omega
                subst hjj
                go_wp2_with fail
                go_roundw
                case rel => exact ⟨k + 1, D5, by omega, by go_num, D4.out, W4.out, J4.out, L4.out, T4.out, F4.out⟩
                case measure => simp [intOf]; omega
          · have hx0' : (xa == 0) = false := by simpa using hx0
            clear hx0
            generalize (dtick P3 0).2.1 = fnd at *
            go_wp2_with fail
            generalize (dtick P3 0).1 = D5 at *
            go_loop [13] (fun s => ∃ j : Nat, j ≤ N ∧ s = .int .i64 j) (fun s => N - (intOf s).toNat)
            case atStart => exact ⟨0, Nat.zero_le _, rfl⟩
            case round =>
              obtain ⟨j, hj, rfl⟩ := hrel
              by_cases hjn : j < N
              · have hjI : (j : Int) < N := by omega
                have hj5 : j < D5.st.length := by rw [L4.out]; exact hjn
                have q1 := W4.out.sts j hj5
                have q2 := W4.out.las j hj5
                have q3 := W4.out.now2
                have q4 := J4.out j hj5
                have q5 := K4.out j hj5
                rw [T4.out] at q4 q5
                have hhas : dhas D5 (j : Int) = true := by unfold dhas; rw [L4.out]; simp; omega
                have HS1 := Lib.hid (show dlast D5 (j : Int) = D5.la.getD j 0 by unfold dlast; rw [if_pos hhas]; rfl)
                have HS2 := Lib.hid (show dstate D5 (j : Int) = D5.st.getD j 0 by unfold dstate; rw [if_pos hhas]; rfl)
                clear hhas
                generalize D5.la.getD j 0 = la at *
                generalize D5.st.getD j 0 = st at *
                have q21 := q2.1
                have q22 := q2.2
                have hst : st = 1 ∨ st = 2 ∨ st = 3 := by omega
                clear q2 q1
                rcases hst with rfl | rfl | rfl
                · have q6 := q5 rfl
                  clear q4 q5
                  go_wp2_with fail
                  refine (det_Now _ b D5 D4.out).mono ?_
                  rintro e w5 ⟨rfl, rfl⟩
                  go_wp2_with fail
                  refine (det_Last _ b D5 _ W4.out D4.out).mono ?_
                  rintro e w5 ⟨rfl, rfl⟩
                  rw [HS1.out]
                  go_wp2_with fail
                  refine (det_State _ b D5 _ W4.out D4.out).mono ?_
                  rintro e w5 ⟨rfl, rfl⟩
                  rw [HS2.out]
                  go_wp2_with fail
                  go_round
                  case rel => exact ⟨j + 1, by omega, by go_num⟩
                  case measure => simp [intOf]; omega
                · have q6 := q4 rfl
                  clear q4 q5
                  go_wp2_with fail
                  refine (det_Now _ b D5 D4.out).mono ?_
                  rintro e w5 ⟨rfl, rfl⟩
                  go_wp2_with fail
                  refine (det_Last _ b D5 _ W4.out D4.out).mono ?_
                  rintro e w5 ⟨rfl, rfl⟩
                  rw [HS1.out]
                  go_wp2_with fail
                  refine (det_State _ b D5 _ W4.out D4.out).mono ?_
                  rintro e w5 ⟨rfl, rfl⟩
                  rw [HS2.out]
                  go_wp2_with fail
                  go_round
                  case rel => exact ⟨j + 1, by omega, by go_num⟩
                  case measure => simp [intOf]; omega
                · clear q4 q5
                  go_wp2_with fail
                  refine (det_Now _ b D5 D4.out).mono ?_
                  rintro e w5 ⟨rfl, rfl⟩
                  go_wp2_with fail
                  refine (det_Last _ b D5 _ W4.out D4.out).mono ?_
                  rintro e w5 ⟨rfl, rfl⟩
                  rw [HS1.out]
                  go_wp2_with fail
                  refine (det_State _ b D5 _ W4.out D4.out).mono ?_
                  rintro e w5 ⟨rfl, rfl⟩
                  rw [HS2.out]
                  go_wp2_with fail
                  go_round
                  case rel => exact ⟨j + 1, by omega, by go_num⟩
                  case measure => simp [intOf]; omega
              · have hjj : j = N := by omega
                subst hjj
                go_wp2_with fail
                go_roundw
                case rel => exact ⟨k + 1, D5, by omega, by go_num, D4.out, W4.out, J4.out, L4.out, T4.out, F4.out⟩
                case measure => simp [intOf]; omega
        · have hkk : k = l.length := by omega
          subst hkk
          go_wp2_with fail
          go_ret
          exact ⟨rfl, hfr.out⟩
end Go.Proofs.Ytegidffoonkpnaa
