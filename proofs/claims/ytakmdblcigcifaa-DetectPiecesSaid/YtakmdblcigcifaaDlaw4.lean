/- The law DetectPieces: its plain law, and its walk. -/
import Derived.Test.YtakmdblcigcifaaDlaw2
namespace Go.Proofs.Ytakmdblcigcifaa
open Go.RowKit

theorem sadd_nn {a b : Int} (ha : 0 ≤ a) (hb : 0 ≤ b) : (sadd a b).1 = min (a + b) 9223372036854775807 ∧ ((sadd a b).2 = true ↔ 9223372036854775807 < a + b) := by
  unfold sadd
  split
  · exact ⟨by simp only; omega, by simp; omega⟩
  · rw [if_neg (by omega)]; exact ⟨by simp only; omega, by simp; omega⟩
theorem dd_ext {D E : DD} (h1 : D.st = E.st) (h2 : D.la = E.la) (h3 : D.to = E.to) (h4 : D.now = E.now) : D = E := by
  cases D; cases E; simp_all
theorem list_ext_getD {l m : List Int} (hl : l.length = m.length) (h : ∀ i, i < l.length → l.getD i 0 = m.getD i 0) : l = m := by
  apply List.ext_getElem hl
  intro i h1 h2
  have := h i h1
  simpa [List.getD_eq_getElem?_getD, h1, h2] using this

theorem now_pieces {D : DD} (hw : WF D) {a b : Int} (ha : 0 ≤ a) (hb : 0 ≤ b) : (dtick (dtick D a).1 b).1.now = (dtick D (sadd a b).1).1.now ∧ ((dtick D (sadd a b).1).2.2 = true → (dtick D a).2.2 = true ∨ (dtick (dtick D a).1 b).2.2 = true) := by
  have h0 := hw.now0
  have s1 := sadd_nn h0 ha
  have s2 := sadd_nn ha hb
  have s3 := sadd_nn (a := (sadd D.now a).1) (b := b) (by rw [s1.1]; omega) hb
  have s4 := sadd_nn (a := D.now) (b := (sadd a b).1) h0 (by rw [s2.1]; omega)
  have hn := hw.now2
  rw [(dtick_rest _ _).2.2.1, (dtick_rest _ _).2.2.1, (dtick_rest _ _).2.2.1, show max a 0 = a by omega, show max b 0 = b by omega, show max (sadd a b).1 0 = (sadd a b).1 by rw [s2.1]; omega]
  refine ⟨by rw [s3.1, s4.1, s1.1, s2.1]; omega, ?_⟩
  unfold dtick
  simp only
  rw [show max a 0 = a by omega, show max b 0 = b by omega, show max (sadd a b).1 0 = (sadd a b).1 by rw [s2.1]; omega]
  intro h
  rw [s4.2, s2.1] at h
  have e : (dupd (dlate D a) D.st.length).now = (sadd D.now a).1 := by rw [(dupd_rest _ _).2.2]; unfold dlate; simp only; rw [show max a 0 = a by omega]
  rw [e, s1.2, s3.2, s1.1]
  omega

theorem silent_pieces {D : DD} (hw : WF D) {a b : Int} (ha : 0 ≤ a) (hb : 0 ≤ b) {s : Nat} (hs : s < D.st.length) :
    (dsilent (dlate D (sadd a b).1) s = true ↔ dsilent (dlate D a) s = true ∨ dsilent (dlate (dtick D a).1 b) s = true) ∧ ¬ (dsilent (dlate D a) s = true ∧ dsilent (dlate (dtick D a).1 b) s = true) := by
  have h0 := hw.now0
  have hn := hw.now2
  have s1 := sadd_nn h0 ha
  have s2 := sadd_nn ha hb
  have s3 := sadd_nn (a := (sadd D.now a).1) (b := b) (by rw [s1.1]; omega) hb
  have s4 := sadd_nn (a := D.now) (b := (sadd a b).1) h0 (by rw [s2.1]; omega)
  have ht := dtick_rest D a
  have hst := dtick_st D a s hs
  have e1 : dsilent (dlate D a) s = true ↔ D.st.getD s 0 = 1 ∧ D.to < (sadd D.now a).1 - D.la.getD s 0 := by
    unfold dsilent dlate; simp only; rw [show max a 0 = a by omega]; simp
  have e2 : dsilent (dlate (dtick D a).1 b) s = true ↔ (dtick D a).1.st.getD s 0 = 1 ∧ D.to < (sadd (sadd D.now a).1 b).1 - D.la.getD s 0 := by
    unfold dsilent dlate; simp only; rw [ht.1, ht.2.1, ht.2.2.1, show max b 0 = b by omega, show max a 0 = a by omega]; simp
  have e3 : dsilent (dlate D (sadd a b).1) s = true ↔ D.st.getD s 0 = 1 ∧ D.to < (sadd D.now (sadd a b).1).1 - D.la.getD s 0 := by
    unfold dsilent dlate; simp only; rw [show max (sadd a b).1 0 = (sadd a b).1 by rw [s2.1]; omega]; simp
  rw [e3, e1, e2]
  by_cases hq : dsilent (dlate D a) s = true
  · have hq' := e1.1 hq
    rw [if_pos hq] at hst
    rw [hst, s4.1, s3.1, s2.1, s1.1]
    rw [s1.1] at hq'
    omega
  · rw [if_neg hq] at hst
    by_cases h1 : D.st.getD s 0 = 1
    · have hq' : ¬ D.to < (sadd D.now a).1 - D.la.getD s 0 := fun h => hq (e1.2 ⟨h1, h⟩)
      rw [hst, s4.1, s3.1, s2.1, s1.1]
      rw [s1.1] at hq'
      omega
    · rw [hst]
      exact ⟨⟨fun h => absurd h.1 h1, fun h => by rcases h with h | h <;> exact absurd h.1 h1⟩, fun h => h1 h.1.1⟩

theorem count_split {α : Type} (p q r : α → Bool) : ∀ l : List α, (∀ x ∈ l, (r x = true ↔ p x = true ∨ q x = true) ∧ ¬ (p x = true ∧ q x = true)) → (l.filter p).length + (l.filter q).length = (l.filter r).length := by
  intro l
  induction l with
  | nil => intro _; rfl
  | cons x l ih =>
    intro h
    have ih := ih (fun y hy => h y (by simp [hy]))
    have hx := h x (by simp)
    cases hp : p x <;> cases hq : q x <;> cases hr : r x <;> simp_all <;> omega

theorem found_pieces {D : DD} (hw : WF D) {a b : Int} (ha : 0 ≤ a) (hb : 0 ≤ b) : (dtick D a).2.1.length + (dtick (dtick D a).1 b).2.1.length = (dtick D (sadd a b).1).2.1.length := by
  have hlen := (dtick_rest D a).2.2.2
  have e1 : (dtick D a).2.1 = dfound (dlate D a) D.st.length := rfl
  have e2 : (dtick (dtick D a).1 b).2.1 = dfound (dlate (dtick D a).1 b) D.st.length := by show dfound _ (dtick D a).1.st.length = _; rw [hlen]
  have e3 : (dtick D (sadd a b).1).2.1 = dfound (dlate D (sadd a b).1) D.st.length := rfl
  rw [e1, e2, e3, dfound_eq (dlate D a) D.st.length (Nat.le_refl _), dfound_eq (dlate (dtick D a).1 b) D.st.length (by show _ ≤ (dtick D a).1.st.length; rw [hlen]; exact Nat.le_refl _), dfound_eq (dlate D (sadd a b).1) D.st.length (Nat.le_refl _), List.length_map, List.length_map, List.length_map]
  exact count_split _ _ _ _ fun s hs => silent_pieces hw ha hb (by simpa using hs)

theorem tick_pieces {D : DD} (hw : WF D) {a b : Int} (ha : 0 ≤ a) (hb : 0 ≤ b) : (dtick (dtick D a).1 b).1 = (dtick D (sadd a b).1).1 := by
  have h1 := dtick_rest D a
  have h2 := dtick_rest (dtick D a).1 b
  have h3 := dtick_rest D (sadd a b).1
  refine dd_ext (list_ext_getD (by rw [h2.2.2.2, h1.2.2.2, h3.2.2.2]) fun s hs => ?_) (by rw [h2.1, h1.1, h3.1]) (by rw [h2.2.1, h1.2.1, h3.2.1]) (now_pieces hw ha hb).1
  rw [h2.2.2.2, h1.2.2.2] at hs
  have hp := silent_pieces hw ha hb hs
  rw [dtick_st _ _ _ (by rw [h1.2.2.2]; exact hs), dtick_st D a s hs, dtick_st D _ s hs]
  by_cases q1 : dsilent (dlate D a) s = true <;> by_cases q2 : dsilent (dlate (dtick D a).1 b) s = true <;> by_cases q3 : dsilent (dlate D (sadd a b).1) s = true <;> simp_all

theorem fr_two {w w1 w2 : World} {b : Nat} (h : Fr Nob w w1) (hb : w.heap.size ≤ b) (hf : Fr (Only b) w1 w2) : Fr Nob w w2 := h.call hf (fun i hi hlt => by unfold Only at hi; omega)

set_option maxRecDepth 100000 in
set_option maxHeartbeats 1600000 in
theorem law_Pieces (w : World) (n to a b : Int) (hn : I64 n) (hto : I64 to) (ha64 : I64 a) (hb64 : I64 b) (A : Option Addr) (c : Nat) (l : List Act3) (hl : Sl w 3 A l.length c (l.flatMap actc)) (hok : ∀ x ∈ l, actok x) :
    Calls Try.prog 5 #[.int .i64 n, .int .i64 to, .slice A l.length c, .int .i64 a, .int .i64 b] w fun e w' => e = .returned (.bool true) ∧ Fr Nob w w' := by
  have HL := Lib.hid hl
  have HOK := Lib.hid hok
  have hto2 := hto.2
  have HA64 := Lib.hid ha64
  have HB64 := Lib.hid hb64
  clear hl hok hto ha64 hb64
  by_cases hskip : 60 < l.length ∨ a < 0 ∨ b < 0
  · have hs : (decide (60 < (l.length : Int)) || decide (a < 0) || decide (b < 0)) = true := by simp; omega
    go_enter Try.func5, Try.ntmps5
    go_wp2_with fail
    refine (law_awake _).mono ?_
    rintro e w1 ⟨rfl, hf⟩
    have F1 := Lib.hid hf
    clear hf
    by_cases c1 : 60 < (l.length : Int)
    · go_wp2_with fail
      go_ret
      exact ⟨rfl, F1.out⟩
    · by_cases c2 : a < 0
      · go_wp2_with fail
        go_ret
        exact ⟨rfl, F1.out⟩
      · have c3 : b < 0 := by omega
        go_wp2_with fail
        go_ret
        exact ⟨rfl, F1.out⟩
  · have c1 : ¬ 60 < (l.length : Int) := by omega
    have c2 : 0 ≤ a := by omega
    have c3 : 0 ≤ b := by omega
    clear hskip
    go_enter Try.func5, Try.ntmps5
    go_wp2_with fail
    refine (law_awake _).mono ?_
    rintro e w1 ⟨rfl, hf⟩
    have F1 := Lib.hid hf
    clear hf
    by_cases hbad : n < 1 ∨ 8 < n ∨ to < 1
    · have Hbad := Lib.hid hbad
      clear hbad
      go_wp2_with fail
      refine (det_New_no _ n to Hbad.out).mono ?_
      rintro e w2 ⟨rfl, rfl⟩
      go_wp2_with fail
      refine (det_New_no _ n to Hbad.out).mono ?_
      rintro e w2 ⟨rfl, rfl⟩
      go_wp2_with fail
      go_ret
      exact ⟨rfl, F1.out⟩
    · have hn1 : 1 ≤ n := by omega
      have hn8 : n ≤ 8 := by omega
      have ht1 : 1 ≤ to := by omega
      clear hbad
      obtain ⟨N, rfl⟩ := Int.eq_ofNat_of_zero_le (show 0 ≤ n by omega)
      go_wp2_with fail
      refine (det_New _ N to (by omega) (by omega) ht1).mono ?_
      rintro e w2 ⟨rfl, hd, hf⟩
      have F2 := Lib.hid (F1.out.call hf (fun _ h _ => h))
      have D2 := Lib.hid hd
      have W2 := Lib.hid (wf_new N to (by omega) (by omega) ht1 hto2)
      have hb0 : w.heap.size ≤ w1.heap.size := F1.out.size
      have hb1 : w1.heap.size < w2.heap.size := Blk.lt D2.out
      clear hd hf
      go_wp2_with fail
      refine (det_New _ N to (by omega) (by omega) ht1).mono ?_
      rintro e w3 ⟨rfl, hd, hf⟩
      have F3 := Lib.hid (F2.out.call hf (fun _ h _ => h))
      have D3 := Lib.hid hd
      have D2' := Lib.hid (Det.fr D2.out hf (fun e => e))
      clear hd hf
      have hb2 : w.heap.size ≤ w2.heap.size := by omega
      have hne : w1.heap.size ≠ w2.heap.size := by omega
      generalize w1.heap.size = b1 at *
      generalize w2.heap.size = b2 at *
      clear D2 hb1
      go_wp2_with fail
      go_loopw [16] (fun i wr => ∃ (k : Nat) (D : DD), k ≤ l.length ∧ i = .int .i64 k ∧ Hid (Det wr b1 D) ∧ Hid (Det wr b2 D) ∧ Hid (WF D) ∧ Hid (D.st.length = N) ∧ Hid (Fr Nob w wr)) (fun i _ => l.length - (intOf i).toNat)
      case atStart => exact ⟨0, dnew N to, Nat.zero_le _, rfl, D2'.out, D3.out, W2.out, by simp [dnew, Hid], F3.out⟩
      case round =>
        obtain ⟨k, D, hk, rfl, hd1, hd2, hw, hlen, hfr⟩ := hrel
        by_cases hlt : k < l.length
        · have hI2 : (k : Int) < l.length := by omega
          have hI3 : 0 ≤ (k : Int) := by omega
          have HC := Lib.hid (fun W (h : Fr Nob w W) => act_cells (HL.out.pure h) hlt)
          obtain ⟨ba, off, rfl, hba, c0, c1', c2'⟩ := HC.out wr hfr.out
          have hak := HOK.out l[k] (List.getElem_mem hlt)
          have HA := Lib.hid hak
          have ha0 := hak.1.1
          have ha1 := hak.1.2
          clear hak
          have hle := HL.out.le
          have hmx := HL.out.max
          unfold maxLen at hmx
          generalize l[k] = x at *
          obtain ⟨xa, xs, xn⟩ := x
          simp only at c0 c1' c2' ha0 ha1 HC
          have W3 := Lib.hid (wf_dplay hw.out xa xs xn)
          have L3 := Lib.hid (show (dplay D xa xs xn).1.st.length = N by rw [(play_len D xa xs xn).1, hlen.out])
          go_wp2_with fail
          refine (law_play _ b1 D xa xs xn HA.out.2.2 hw.out hd1.out).mono ?_
          rintro e w3 ⟨rfl, hd3, hf3⟩
          have F3' := Lib.hid (fr_only_new hfr.out hb0 hf3)
          have E1 := Lib.hid hd3
          have E2 := Lib.hid (Det.fr hd2.out hf3 (fun e => hne e.symm))
          obtain ⟨bb, oo, hA4, _, d0, d1, d2⟩ := HC.out w3 F3'.out
          cases hA4
          clear hd3 hf3
          go_wp2_with fail
          refine (law_play _ b2 D xa xs xn HA.out.2.2 hw.out E2.out).mono ?_
          rintro e w4 ⟨rfl, hd4, hf4⟩
          have F4 := Lib.hid (fr_only_new F3'.out hb2 hf4)
          have G2 := Lib.hid hd4
          have G1 := Lib.hid (Det.fr E1.out hf4 (fun e => hne e))
          clear hd4 hf4
          generalize (dplay D xa xs xn).1 = P3 at *
          go_wp2_with fail
          go_roundw
          case rel => exact ⟨k + 1, P3, by omega, by go_num, G1.out, G2.out, W3.out, L3.out, F4.out⟩
          case measure => simp [intOf]; omega
        · have hkk : k = l.length := by omega
          subst hkk
          have W4 := Lib.hid (wf_dtick hw.out a)
          have W5 := Lib.hid (wf_dtick hw.out (sadd a b).1)
          have TP := Lib.hid (tick_pieces hw.out c2 c3)
          have FP := Lib.hid (found_pieces hw.out c2 c3)
          have NP := Lib.hid (now_pieces hw.out c2 c3).2
          have HS64 := Lib.hid (sadd_I64 a b)
          go_wp2_with fail
          refine (ref_Add _ _ _ HA64.out HB64.out).mono ?_
          rintro e w2 ⟨rfl, rfl⟩
          go_wp2_with fail
          refine (det_Tick _ b1 D a HA64.out hw.out hd1.out).mono ?_
          rintro e w2 ⟨A1, c1', rfl, hd3, hsl3, hf3, hfresh3⟩
          have F2' := Lib.hid (fr_only_new hfr.out hb0 hf3)
          have E1 := Lib.hid hd3
          have E2 := Lib.hid (Det.fr hd2.out hf3 (fun e => hne e.symm))
          have n1 : (dtick D a).2.1.length ≤ 9223372036854775807 := by have := hsl3.le; have := hsl3.max; unfold maxLen at this; omega
          have m1 : (dtick D a).2.1.length ≤ 8 := by have := dfound_len (dlate D a) D.st.length; have := hw.out.le8; show (dfound _ _).length ≤ 8; omega
          clear hd3 hsl3 hf3 hfresh3
          go_wp2_with fail
          refine (det_Tick _ b1 _ b HB64.out W4.out E1.out).mono ?_
          rintro e w3 ⟨A2, c2', rfl, hd3, hsl3, hf3, hfresh3⟩
          rw [TP.out] at hd3
          have F3' := Lib.hid (fr_only_new F2'.out hb0 hf3)
          have G1 := Lib.hid hd3
          have G2 := Lib.hid (Det.fr E2.out hf3 (fun e => hne e.symm))
          have m2 : (dtick (dtick D a).1 b).2.1.length ≤ 8 := by have := dfound_len (dlate (dtick D a).1 b) (dtick D a).1.st.length; have := W4.out.le8; show (dfound _ _).length ≤ 8; omega
          clear hd3 hsl3 hf3 hfresh3
          go_wp2_with fail
          refine (det_Tick _ b2 D (sadd a b).1 HS64.out hw.out G2.out).mono ?_
          rintro e w4 ⟨A3, c3', rfl, hd3, hsl3, hf3, hfresh3⟩
          have F4 := Lib.hid (fr_only_new F3'.out hb2 hf3)
          have E1' := Lib.hid (Det.fr G1.out hf3 (fun e => hne e))
          have E2' := Lib.hid hd3
          clear hd3 hsl3 hf3 hfresh3 E1 E2 G1 G2
          have E1 := E1'
          have E2 := E2'
          have L5 := Lib.hid (show (dtick D (sadd a b).1).1.st.length = N by rw [(dtick_rest _ _).2.2.2, hlen.out])
          clear W4 TP
          generalize (dtick D a).2.1.length = q1 at *
          generalize (dtick (dtick D a).1 b).2.1.length = q2 at *
          generalize (dtick D (sadd a b).1).2.1.length = q3 at *
          generalize (dtick D a).2.2 = p1 at *
          generalize (dtick (dtick D a).1 b).2.2 = p2 at *
          generalize (dtick D (sadd a b).1).2.2 = p3 at *
          have hq : ((q1 : Int) + q2 != q3) = false := by have := FP.out; simp; omega
          have hp : p3 = true → p1 = true ∨ p2 = true := NP.out
          clear NP FP
          cases p3
          · skip
            generalize (dtick D (sadd a b).1).1 = D5 at *
            go_wp2_with fail
            refine (det_Now _ b1 D5 E1.out).mono ?_
            rintro e w5 ⟨rfl, rfl⟩
            go_wp2_with fail
            refine (det_Now _ b2 D5 E2.out).mono ?_
            rintro e w5 ⟨rfl, rfl⟩
            go_wp2_with fail
            refine (det_Idle _ b1 D5 W5.out E1.out).mono ?_
            rintro e w5 ⟨rfl, hf5⟩
            have F5 := Lib.hid (F4.out.call hf5 (fun _ h _ => h))
            have G1 := Lib.hid (Det.fr E1.out hf5 (fun e => e))
            have G2 := Lib.hid (Det.fr E2.out hf5 (fun e => e))
            clear hf5
            go_wp2_with fail
            refine (det_Idle _ b2 D5 W5.out G2.out).mono ?_
            rintro e w6 ⟨rfl, hf6⟩
            have F6 := Lib.hid (F5.out.call hf6 (fun _ h _ => h))
            have H1 := Lib.hid (Det.fr G1.out hf6 (fun e => e))
            have H2 := Lib.hid (Det.fr G2.out hf6 (fun e => e))
            clear hf6
            generalize (didle D5).1 = i1 at *
            generalize (didle D5).2 = i2 at *
            have hi1 : (i1 != i1) = false := by simp
            have hi2 : (i2 != i2) = false := by simp
            go_wp2_with fail
            go_loop [29] (fun s => ∃ j : Nat, j ≤ N ∧ s = .int .i64 j) (fun s => N - (intOf s).toNat)
            case atStart => exact ⟨0, Nat.zero_le _, rfl⟩
            case round =>
              obtain ⟨j, hj, rfl⟩ := hrel
              by_cases hjn : j < N
              · have hjI : (j : Int) < N := by omega
                go_wp2_with fail
                refine (det_State _ b1 D5 _ W5.out H1.out).mono ?_
                rintro e w7 ⟨rfl, rfl⟩
                obtain ⟨ds, hds⟩ : ∃ ds, dstate D5 (j : Int) = ds := ⟨_, rfl⟩
                obtain ⟨dl, hdl⟩ : ∃ dl, dlast D5 (j : Int) = dl := ⟨_, rfl⟩
                have HS1 := Lib.hid hds
                have HS2 := Lib.hid hdl
                clear hds hdl
                rw [HS1.out]
                have hds : (ds != ds) = false := by simp
                have hdl : (dl != dl) = false := by simp
                go_wp2_with fail
                refine (det_State _ b2 D5 _ W5.out H2.out).mono ?_
                rintro e w7 ⟨rfl, rfl⟩
                rw [HS1.out]
                go_wp2_with fail
                refine (det_Last _ b1 D5 _ W5.out H1.out).mono ?_
                rintro e w7 ⟨rfl, rfl⟩
                rw [HS2.out]
                go_wp2_with fail
                refine (det_Last _ b2 D5 _ W5.out H2.out).mono ?_
                rintro e w7 ⟨rfl, rfl⟩
                rw [HS2.out]
                go_wp2_with fail
                go_round
                case rel => exact ⟨j + 1, by omega, by go_num⟩
                case measure => simp [intOf]; omega
              · have hjj : j = N := by omega
                subst hjj
                go_wp2_with fail
                go_ret
                exact ⟨rfl, F6.out⟩
          · cases p1
            · have hp2 : p2 = true := by simpa using hp
              clear hp
              subst hp2
              generalize (dtick D (sadd a b).1).1 = D5 at *
              go_wp2_with fail
              refine (det_Now _ b1 D5 E1.out).mono ?_
              rintro e w5 ⟨rfl, rfl⟩
              go_wp2_with fail
              refine (det_Now _ b2 D5 E2.out).mono ?_
              rintro e w5 ⟨rfl, rfl⟩
              go_wp2_with fail
              refine (det_Idle _ b1 D5 W5.out E1.out).mono ?_
              rintro e w5 ⟨rfl, hf5⟩
              have F5 := Lib.hid (F4.out.call hf5 (fun _ h _ => h))
              have G1 := Lib.hid (Det.fr E1.out hf5 (fun e => e))
              have G2 := Lib.hid (Det.fr E2.out hf5 (fun e => e))
              clear hf5
              go_wp2_with fail
              refine (det_Idle _ b2 D5 W5.out G2.out).mono ?_
              rintro e w6 ⟨rfl, hf6⟩
              have F6 := Lib.hid (F5.out.call hf6 (fun _ h _ => h))
              have H1 := Lib.hid (Det.fr G1.out hf6 (fun e => e))
              have H2 := Lib.hid (Det.fr G2.out hf6 (fun e => e))
              clear hf6
              generalize (didle D5).1 = i1 at *
              generalize (didle D5).2 = i2 at *
              have hi1 : (i1 != i1) = false := by simp
              have hi2 : (i2 != i2) = false := by simp
              go_wp2_with fail
              go_loop [29] (fun s => ∃ j : Nat, j ≤ N ∧ s = .int .i64 j) (fun s => N - (intOf s).toNat)
              case atStart => exact ⟨0, Nat.zero_le _, rfl⟩
              case round =>
                obtain ⟨j, hj, rfl⟩ := hrel
                by_cases hjn : j < N
                · have hjI : (j : Int) < N := by omega
                  go_wp2_with fail
                  refine (det_State _ b1 D5 _ W5.out H1.out).mono ?_
                  rintro e w7 ⟨rfl, rfl⟩
                  obtain ⟨ds, hds⟩ : ∃ ds, dstate D5 (j : Int) = ds := ⟨_, rfl⟩
                  obtain ⟨dl, hdl⟩ : ∃ dl, dlast D5 (j : Int) = dl := ⟨_, rfl⟩
                  have HS1 := Lib.hid hds
                  have HS2 := Lib.hid hdl
                  clear hds hdl
                  rw [HS1.out]
                  have hds : (ds != ds) = false := by simp
                  have hdl : (dl != dl) = false := by simp
                  go_wp2_with fail
                  refine (det_State _ b2 D5 _ W5.out H2.out).mono ?_
                  rintro e w7 ⟨rfl, rfl⟩
                  rw [HS1.out]
                  go_wp2_with fail
                  refine (det_Last _ b1 D5 _ W5.out H1.out).mono ?_
                  rintro e w7 ⟨rfl, rfl⟩
                  rw [HS2.out]
                  go_wp2_with fail
                  refine (det_Last _ b2 D5 _ W5.out H2.out).mono ?_
                  rintro e w7 ⟨rfl, rfl⟩
                  rw [HS2.out]
                  go_wp2_with fail
                  go_round
                  case rel => exact ⟨j + 1, by omega, by go_num⟩
                  case measure => simp [intOf]; omega
                · have hjj : j = N := by omega
                  subst hjj
                  go_wp2_with fail
                  go_ret
                  exact ⟨rfl, F6.out⟩
            · clear hp
              generalize (dtick D (sadd a b).1).1 = D5 at *
              go_wp2_with fail
              refine (det_Now _ b1 D5 E1.out).mono ?_
              rintro e w5 ⟨rfl, rfl⟩
              go_wp2_with fail
              refine (det_Now _ b2 D5 E2.out).mono ?_
              rintro e w5 ⟨rfl, rfl⟩
              go_wp2_with fail
              refine (det_Idle _ b1 D5 W5.out E1.out).mono ?_
              rintro e w5 ⟨rfl, hf5⟩
              have F5 := Lib.hid (F4.out.call hf5 (fun _ h _ => h))
              have G1 := Lib.hid (Det.fr E1.out hf5 (fun e => e))
              have G2 := Lib.hid (Det.fr E2.out hf5 (fun e => e))
              clear hf5
              go_wp2_with fail
              refine (det_Idle _ b2 D5 W5.out G2.out).mono ?_
              rintro e w6 ⟨rfl, hf6⟩
              have F6 := Lib.hid (F5.out.call hf6 (fun _ h _ => h))
              have H1 := Lib.hid (Det.fr G1.out hf6 (fun e => e))
              have H2 := Lib.hid (Det.fr G2.out hf6 (fun e => e))
              clear hf6
              generalize (didle D5).1 = i1 at *
              generalize (didle D5).2 = i2 at *
              have hi1 : (i1 != i1) = false := by simp
              have hi2 : (i2 != i2) = false := by simp
              go_wp2_with fail
              go_loop [29] (fun s => ∃ j : Nat, j ≤ N ∧ s = .int .i64 j) (fun s => N - (intOf s).toNat)
              case atStart => exact ⟨0, Nat.zero_le _, rfl⟩
              case round =>
                obtain ⟨j, hj, rfl⟩ := hrel
                by_cases hjn : j < N
                · have hjI : (j : Int) < N := by omega
                  go_wp2_with fail
                  refine (det_State _ b1 D5 _ W5.out H1.out).mono ?_
                  rintro e w7 ⟨rfl, rfl⟩
                  obtain ⟨ds, hds⟩ : ∃ ds, dstate D5 (j : Int) = ds := ⟨_, rfl⟩
                  obtain ⟨dl, hdl⟩ : ∃ dl, dlast D5 (j : Int) = dl := ⟨_, rfl⟩
                  have HS1 := Lib.hid hds
                  have HS2 := Lib.hid hdl
                  clear hds hdl
                  rw [HS1.out]
                  have hds : (ds != ds) = false := by simp
                  have hdl : (dl != dl) = false := by simp
                  go_wp2_with fail
                  refine (det_State _ b2 D5 _ W5.out H2.out).mono ?_
                  rintro e w7 ⟨rfl, rfl⟩
                  rw [HS1.out]
                  go_wp2_with fail
                  refine (det_Last _ b1 D5 _ W5.out H1.out).mono ?_
                  rintro e w7 ⟨rfl, rfl⟩
                  rw [HS2.out]
                  go_wp2_with fail
                  refine (det_Last _ b2 D5 _ W5.out H2.out).mono ?_
                  rintro e w7 ⟨rfl, rfl⟩
                  rw [HS2.out]
                  go_wp2_with fail
                  go_round
                  case rel => exact ⟨j + 1, by omega, by go_num⟩
                  case measure => simp [intOf]; omega
                · have hjj : j = N := by omega
                  subst hjj
                  go_wp2_with fail
                  go_ret
                  exact ⟨rfl, F6.out⟩
end Go.Proofs.Ytakmdblcigcifaa
