/- The reference: are two configurations the same; what is wrong with one. -/
import Derived.Test.YtoegdmpmagbaiaaDoorV8
import Derived.Test.YtoegdmpmagbaiaaDoorV15
namespace Go.Proofs.YtoegdmpmagbaiaaDoor
open Go.RowKit Go.Lib

def sameC (a b : CF) : Bool := decide (a = b)
theorem same_no {a b : CF} (h : ¬ a = b) : sameC a b = false := decide_eq_false h
theorem same_yes (a : CF) : sameC a a = true := decide_eq_true rfl
set_option maxRecDepth 100000 in
set_option maxHeartbeats 4000000 in
theorem ref_Same (w : World) (a b : CF) (A B : Option Addr) (ca cb : Nat) (ha : Sl w 1 A a.weights.length ca (ints a.weights)) (hb : Sl w 1 B b.weights.length cb (ints b.weights)) (ha5 : a.weights.length ≤ 1000) :
    Calls Tryd.prog 18 #[.agg (cfA a A ca), .agg (cfA b B cb)] w fun e w' => e = .returned (.bool (sameC a b)) ∧ Fr Nob w w' := by
  have HA := Lib.hid ha
  have HB := Lib.hid hb
  have hma := ha.max
  have hmb := hb.max
  have hla := ha.le
  have hlb := hb.le
  unfold maxLen at hma hmb
  clear ha hb
  obtain ⟨s1, r1, o1, w1, q1, t1, p1⟩ := a
  obtain ⟨s2, r2, o2, w2, q2, t2, p2⟩ := b
  simp only [] at HA HB ha5 hla hlb
  unfold cfA
  simp only []
  by_cases hlen : w1.length = w2.length
  · obtain ⟨n, HN1⟩ : ∃ n, Hid (w1.length = n) := ⟨_, Lib.hid rfl⟩
    have HN2 := Lib.hid (show w2.length = n by rw [← HN1.out, hlen])
    rw [HN1.out] at ha5 hla ⊢
    rw [HN2.out] at hlb ⊢
    clear hlen
    go_enter Tryd.func18, Tryd.ntmps18
    go_upto_region 1 with fail
    obtain ⟨W1, hW1⟩ : ∃ W1, W1 = (w.alloc (.cells #[.int .i64 s1, .int .i64 r1, .bool o1, .slice A n ca, .int .i64 q1, .int .i64 t1, .int .i64 p1] 47)).alloc (.cells #[.int .i64 s2, .int .i64 r2, .bool o2, .slice B n cb, .int .i64 q2, .int .i64 t2, .int .i64 p2] 47) := ⟨_, rfl⟩
    have HF1 := Lib.hid (show Fr Nob w W1 by rw [hW1]; exact ((Fr.refl _ _).alloc _).alloc _)
    have HX := Lib.hid (show Blk W1 w.heap.size 47 #[.int .i64 s1, .int .i64 r1, .bool o1, .slice A n ca, .int .i64 q1, .int .i64 t1, .int .i64 p1] by rw [hW1]; exact (Blk.new _ _ _).alloc _)
    have HY := Lib.hid (show Blk W1 (w.heap.size + 1) 47 #[.int .i64 s2, .int .i64 r2, .bool o2, .slice B n cb, .int .i64 q2, .int .i64 t2, .int .i64 p2] by rw [hW1]; exact Blk.new_eq (by simp))
    rw [← hW1]
    clear hW1
    have xc := HX.out.cell
    have yc := HY.out.cell
    have xl := HX.out.lt
    have yl := HY.out.lt
    go_wp2_with fail
    clear xc yc xl yl
    go_loopw [5] (fun iv wr => ∃ k : Nat, k ≤ n ∧ iv = .int .i64 k ∧ Hid (Fr Nob W1 wr) ∧ Hid (w1.take k = w2.take k)) (fun iv _ => n - (RowKit.intOf iv).toNat)
    case atStart => exact ⟨0, Nat.zero_le _, rfl, Lib.hid (Fr.refl _ _), Lib.hid rfl⟩
    case round =>
      obtain ⟨k, hk, rfl, hf, ht⟩ := hrel
      have HFW := Lib.hid (HF1.out.call hf.out (fun _ e _ => e))
      have xc := (HX.out.fr hf.out (fun e => e)).cell
      have yc := (HY.out.fr hf.out (fun e => e)).cell
      have xl := (HX.out.fr hf.out (fun e => e)).lt
      have yl := (HY.out.fr hf.out (fun e => e)).lt
      by_cases hlt : k < n
      · have hI : (k : Int) < n := by omega
        have hI3 : 0 ≤ (k : Int) := by omega
        have hk1 : k < w1.length := by rw [HN1.out]; exact hlt
        have hk2 : k < w2.length := by rw [HN2.out]; exact hlt
        obtain ⟨g, o, hAe, hg, hc1⟩ := (HA.out.pure HFW.out).int_at hk1
        obtain ⟨g2, o2', hBe, hg2, hc2⟩ := (HB.out.pure HFW.out).int_at hk2
        subst hAe
        subst hBe
        by_cases hq : w1[k] = w2[k]
        · have HT := Lib.hid (show w1.take (k + 1) = w2.take (k + 1) by
            rw [List.take_succ_eq_append_getElem hk1, List.take_succ_eq_append_getElem hk2, ht.out, hq])
          have hqe : (w1[k] == w2[k]) = true := by simpa using hq
          generalize w1[k] = u at *
          generalize w2[k] = v at *
          clear hq hk1 hk2
          go_wp2_with fail
          go_quiet (fail)
          go_wp2_with fail
          go_roundw
          case rel => exact ⟨k + 1, by omega, by go_num, Lib.hid (hf.out.drewN _), HT⟩
          case measure => simp [RowKit.intOf]; omega
        · have HR := Lib.hid (show sameC ⟨s1, r1, o1, w1, q1, t1, p1⟩ ⟨s2, r2, o2, w2, q2, t2, p2⟩ = false from same_no (fun e => hq (by injection e with _ _ _ e4; subst e4; rfl)))
          have hqe : (w1[k] == w2[k]) = false := by simpa using hq
          generalize w1[k] = u at *
          generalize w2[k] = v at *
          clear hq hk1 hk2
          go_wp2_with fail
          go_quiet (fail)
          go_wp2_with fail
          go_ret
          rw [HR.out]
          exact ⟨rfl, HFW.out.drewN _⟩
      · have hI : ¬ (k : Int) < n := by omega
        obtain rfl : k = n := by omega
        have hww : w1 = w2 := by
          have := ht.out
          rwa [List.take_of_length_le (by rw [HN1.out]; exact Nat.le_refl _), List.take_of_length_le (by rw [HN2.out]; exact Nat.le_refl _)] at this
        subst hww
        clear ht hf
        by_cases h1 : s1 = s2
        · subst h1
          by_cases h2 : r1 = r2
          · subst h2
            by_cases h3 : o1 = o2
            · subst h3
              by_cases h4 : q1 = q2
              · subst h4
                by_cases h5 : t1 = t2
                · subst h5
                  by_cases h6 : p1 = p2
                  · subst h6
                    have HR := Lib.hid (same_yes ⟨s1, r1, o1, w1, q1, t1, p1⟩)
                    go_wp2_with fail
                    go_ret
                    rw [HR.out]
                    exact ⟨rfl, HFW.out⟩
                  · have HR := Lib.hid (show sameC ⟨s1, r1, o1, w1, q1, t1, p1⟩ ⟨s1, r1, o1, w1, q1, t1, p2⟩ = false from same_no (fun e => h6 (by injection e)))
                    have hqe : (p1 == p2) = false := by simpa using h6
                    clear h6
                    go_wp2_with fail
                    go_ret
                    rw [HR.out]
                    exact ⟨rfl, HFW.out⟩
                · have HR := Lib.hid (show sameC ⟨s1, r1, o1, w1, q1, t1, p1⟩ ⟨s1, r1, o1, w1, q1, t2, p2⟩ = false from same_no (fun e => h5 (by injection e)))
                  have hqe : (t1 == t2) = false := by simpa using h5
                  clear h5
                  go_wp2_with fail
                  go_ret
                  rw [HR.out]
                  exact ⟨rfl, HFW.out⟩
              · have HR := Lib.hid (show sameC ⟨s1, r1, o1, w1, q1, t1, p1⟩ ⟨s1, r1, o1, w1, q2, t2, p2⟩ = false from same_no (fun e => h4 (by injection e)))
                have hqe : (q1 == q2) = false := by simpa using h4
                clear h4
                go_wp2_with fail
                go_ret
                rw [HR.out]
                exact ⟨rfl, HFW.out⟩
            · have HR := Lib.hid (show sameC ⟨s1, r1, o1, w1, q1, t1, p1⟩ ⟨s1, r1, o2, w1, q2, t2, p2⟩ = false from same_no (fun e => h3 (by injection e)))
              have hqe : (o1 == o2) = false := by simpa using h3
              clear h3
              go_wp2_with fail
              go_ret
              rw [HR.out]
              exact ⟨rfl, HFW.out⟩
          · have HR := Lib.hid (show sameC ⟨s1, r1, o1, w1, q1, t1, p1⟩ ⟨s1, r2, o2, w1, q2, t2, p2⟩ = false from same_no (fun e => h2 (by injection e)))
            have hqe : (r1 == r2) = false := by simpa using h2
            clear h2
            go_wp2_with fail
            go_ret
            rw [HR.out]
            exact ⟨rfl, HFW.out⟩
        · have HR := Lib.hid (show sameC ⟨s1, r1, o1, w1, q1, t1, p1⟩ ⟨s2, r2, o2, w1, q2, t2, p2⟩ = false from same_no (fun e => h1 (by injection e)))
          have hqe : (s1 == s2) = false := by simpa using h1
          clear h1
          go_wp2_with fail
          go_ret
          rw [HR.out]
          exact ⟨rfl, HFW.out⟩
  · have HR := Lib.hid (show sameC ⟨s1, r1, o1, w1, q1, t1, p1⟩ ⟨s2, r2, o2, w2, q2, t2, p2⟩ = false from same_no (fun e => hlen (by injection e with _ _ _ e4; rw [e4])))
    have hqe : ((w1.length : Int) == w2.length) = false := by rw [beq_eq_false_iff_ne]; omega
    clear hlen
    go_enter Tryd.func18, Tryd.ntmps18
    go_wp2_with fail
    go_ret
    rw [HR.out]
    exact ⟨rfl, ((Fr.refl _ _).alloc _).alloc _⟩
theorem check_is {c : CF} (h : ∀ k, k < 7 → (tellC c k).all (inC k) = true) : checkC c = if (c.weights.length : Int) = c.sources then 0 else 34 := by
  unfold checkC
  rw [if_pos (List.all_eq_true.2 fun k hk => h k (List.mem_range.1 hk))]
theorem chk_bad {c : CF} {k : Nat} {v : Int} (hk : k < 7) (ht : tellC c k = [v]) (hv : ¬ (loC k ≤ v ∧ v ≤ hiC k)) : checkC c = 33 := by
  refine check_far hk (v := v) (by rw [ht]; simp) ?_
  unfold inC
  rw [← Bool.not_eq_true]
  simpa using hv
set_option maxRecDepth 100000 in
set_option maxHeartbeats 4000000 in
theorem ref_Check (w : World) (c : CF) (A : Option Addr) (cap : Nat) (hl : Sl w 1 A c.weights.length cap (ints c.weights)) (h63 : c.weights.length ≤ 1000) (ht : c.timeout ≤ 9223372036854775807) (hp : c.patience ≤ 9223372036854775807) :
    Calls Tryd.prog 21 #[.agg (cfA c A cap)] w fun e w' => e = .returned (.int .i64 (checkC c)) ∧ Fr Nob w w' := by
  have HL := Lib.hid hl
  have hmx := hl.max
  have hle := hl.le
  unfold maxLen at hmx
  have H0 := Lib.hid (fun (h : ¬ (1 ≤ c.sources ∧ c.sources ≤ 8)) => chk_bad (c := c) (k := 0) (by decide) rfl h)
  have H1 := Lib.hid (fun (h : ¬ (1 ≤ c.room ∧ c.room ≤ 64)) => chk_bad (c := c) (k := 1) (by decide) rfl h)
  have H4 := Lib.hid (fun (h : ¬ (1 ≤ c.quantum ∧ c.quantum ≤ 64)) => chk_bad (c := c) (k := 4) (by decide) rfl h)
  have H5 := Lib.hid (fun (h : ¬ (1 ≤ c.timeout ∧ c.timeout ≤ 9223372036854775807)) => chk_bad (c := c) (k := 5) (by decide) rfl h)
  have H6 := Lib.hid (fun (h : ¬ (0 ≤ c.patience ∧ c.patience ≤ 9223372036854775807)) => chk_bad (c := c) (k := 6) (by decide) rfl h)
  have H3 := Lib.hid (fun (v : Int) (hv : v ∈ c.weights) (h : inC 3 v = false) => check_far (c := c) (k := 3) (by decide) hv h)
  have HALL := Lib.hid (fun (h0 : 1 ≤ c.sources ∧ c.sources ≤ 8) (h1 : 1 ≤ c.room ∧ c.room ≤ 64) (h3 : c.weights.all (inC 3) = true) (h4 : 1 ≤ c.quantum ∧ c.quantum ≤ 64) (h5 : 1 ≤ c.timeout ∧ c.timeout ≤ 9223372036854775807) (h6 : 0 ≤ c.patience ∧ c.patience ≤ 9223372036854775807) => check_is (c := c) (fun k hk => by
    have a : k = 0 ∨ k = 1 ∨ k = 2 ∨ k = 3 ∨ k = 4 ∨ k = 5 ∨ k = 6 := by omega
    rcases a with rfl | rfl | rfl | rfl | rfl | rfl | rfl
    · show (inC 0 c.sources && true) = true; simp [inC, loC, hiC]; exact h0
    · show (inC 1 c.room && true) = true; simp [inC, loC, hiC]; exact h1
    · show (inC 2 _ && true) = true; cases c.oldest <;> rfl
    · exact h3
    · show (inC 4 c.quantum && true) = true; simp [inC, loC, hiC]; exact h4
    · show (inC 5 c.timeout && true) = true; simp [inC, loC, hiC]; exact h5
    · show (inC 6 c.patience && true) = true; simp [inC, loC, hiC]; exact h6))
  clear hl
  generalize checkC c = er at *
  obtain ⟨s, r, o, ws, q, t, p⟩ := c
  simp only [] at *
  unfold cfA
  simp only []
  by_cases h0 : 1 ≤ s
  case neg =>
    have HR := Lib.hid (H0.out (fun e => h0 e.1))
    clear H0 H1 H3 H4 H5 H6 HALL
    go_enter Tryd.func21, Tryd.ntmps21
    go_wp2_with fail
    go_ret
    rw [HR.out]
    exact ⟨rfl, (Fr.refl _ _).alloc _⟩
  by_cases h0b : s ≤ 8
  case neg =>
    have HR := Lib.hid (H0.out (fun e => h0b e.2))
    clear H0 H1 H3 H4 H5 H6 HALL
    go_enter Tryd.func21, Tryd.ntmps21
    go_wp2_with fail
    go_ret
    rw [HR.out]
    exact ⟨rfl, (Fr.refl _ _).alloc _⟩
  by_cases h1 : 1 ≤ r
  case neg =>
    have HR := Lib.hid (H1.out (fun e => h1 e.1))
    clear H0 H1 H3 H4 H5 H6 HALL
    go_enter Tryd.func21, Tryd.ntmps21
    go_wp2_with fail
    go_ret
    rw [HR.out]
    exact ⟨rfl, (Fr.refl _ _).alloc _⟩
  by_cases h1b : r ≤ 64
  case neg =>
    have HR := Lib.hid (H1.out (fun e => h1b e.2))
    clear H0 H1 H3 H4 H5 H6 HALL
    go_enter Tryd.func21, Tryd.ntmps21
    go_wp2_with fail
    go_ret
    rw [HR.out]
    exact ⟨rfl, (Fr.refl _ _).alloc _⟩
  by_cases h4 : 1 ≤ q
  case neg =>
    have HR := Lib.hid (H4.out (fun e => h4 e.1))
    clear H0 H1 H3 H4 H5 H6 HALL
    go_enter Tryd.func21, Tryd.ntmps21
    go_wp2_with fail
    go_ret
    rw [HR.out]
    exact ⟨rfl, (Fr.refl _ _).alloc _⟩
  by_cases h4b : q ≤ 64
  case neg =>
    have HR := Lib.hid (H4.out (fun e => h4b e.2))
    clear H0 H1 H3 H4 H5 H6 HALL
    go_enter Tryd.func21, Tryd.ntmps21
    go_wp2_with fail
    go_ret
    rw [HR.out]
    exact ⟨rfl, (Fr.refl _ _).alloc _⟩
  by_cases h5 : 1 ≤ t
  case neg =>
    have HR := Lib.hid (H5.out (fun e => h5 e.1))
    clear H0 H1 H3 H4 H5 H6 HALL
    go_enter Tryd.func21, Tryd.ntmps21
    go_wp2_with fail
    go_ret
    rw [HR.out]
    exact ⟨rfl, (Fr.refl _ _).alloc _⟩
  by_cases h6 : 0 ≤ p
  case neg =>
    have HR := Lib.hid (H6.out (fun e => h6 e.1))
    clear H0 H1 H3 H4 H5 H6 HALL
    go_enter Tryd.func21, Tryd.ntmps21
    go_wp2_with fail
    go_ret
    rw [HR.out]
    exact ⟨rfl, (Fr.refl _ _).alloc _⟩
  have HC := Lib.hid (fun h3 => HALL.out ⟨h0, h0b⟩ ⟨h1, h1b⟩ h3 ⟨h4, h4b⟩ ⟨h5, ht⟩ ⟨h6, hp⟩)
  clear H0 H1 H4 H5 H6 HALL
  obtain ⟨n, HN⟩ : ∃ n, Hid (ws.length = n) := ⟨_, Lib.hid rfl⟩
  rw [HN.out] at HC hle h63 ⊢
  go_enter Tryd.func21, Tryd.ntmps21
  go_wp2_with fail
  obtain ⟨W1, hW1⟩ : ∃ W1, W1 = w.alloc (.cells #[.int .i64 s, .int .i64 r, .bool o, .slice A n cap, .int .i64 q, .int .i64 t, .int .i64 p] 47) := ⟨_, rfl⟩
  have HF1 := Lib.hid (show Fr Nob w W1 by rw [hW1]; exact (Fr.refl _ _).alloc _)
  have HX := Lib.hid (show Blk W1 w.heap.size 47 #[.int .i64 s, .int .i64 r, .bool o, .slice A n cap, .int .i64 q, .int .i64 t, .int .i64 p] by rw [hW1]; exact Blk.new _ _ _)
  rw [← hW1]
  clear hW1
  have xc := HX.out.cell
  have xl := HX.out.lt
  go_loop [3] (fun iv => ∃ k : Nat, k ≤ n ∧ iv = .int .i64 k ∧ Hid ((ws.take k).all (inC 3) = true)) (fun iv => n - (RowKit.intOf iv).toNat)
  case atStart => exact ⟨0, Nat.zero_le _, rfl, Lib.hid rfl⟩
  case round =>
    obtain ⟨k, hk, rfl, hr⟩ := hrel
    by_cases hlt : k < n
    · have hI : (k : Int) < n := by omega
      have hI3 : 0 ≤ (k : Int) := by omega
      have hk1 : k < ws.length := by rw [HN.out]; exact hlt
      obtain ⟨g, o2, hAe, hg, hc⟩ := (HL.out.pure HF1.out).int_at hk1
      subst hAe
      have HM := Lib.hid (show ws[k] ∈ ws from List.getElem_mem _)
      have HT := Lib.hid (show inC 3 ws[k] = true → (ws.take (k + 1)).all (inC 3) = true from fun e => by
        rw [List.take_succ_eq_append_getElem hk1, List.all_append, hr.out]
        simp [e])
      generalize ws[k] = v at *
      clear hk1
      have HIN := Lib.hid (show inC 3 v = (decide (1 ≤ v) && decide (v ≤ 16)) from rfl)
      by_cases hlo : v < 1
      · have HR := Lib.hid (H3.out v HM.out (by rw [HIN.out]; simp [show ¬ 1 ≤ v by omega]))
        go_wp2_with fail
        go_ret
        rw [HR.out]
        exact ⟨rfl, HF1.out⟩
      · by_cases hhi : 16 < v
        · have HR := Lib.hid (H3.out v HM.out (by rw [HIN.out]; simp [show ¬ v ≤ 16 by omega]))
          go_wp2_with fail
          go_ret
          rw [HR.out]
          exact ⟨rfl, HF1.out⟩
        · have HT2 := Lib.hid (HT.out (by rw [HIN.out]; simp [show 1 ≤ v by omega, show v ≤ 16 by omega]))
          go_wp2_with fail
          go_round
          case rel => exact ⟨k + 1, by omega, by go_num, HT2⟩
          case measure => simp [RowKit.intOf]; omega
    · have hI : ¬ (k : Int) < n := by omega
      obtain rfl : k = n := by omega
      have HCE := Lib.hid (HC.out (by have := hr.out; rwa [List.take_of_length_le (by rw [HN.out]; exact Nat.le_refl _)] at this))
      by_cases hq : (k : Int) = s
      · have HR := Lib.hid (HCE.out.trans (if_pos hq))
        have hq2 : ((k : Int) == s) = true := by simpa using hq
        clear hq
        go_wp2_with fail
        go_ret
        rw [HR.out]
        exact ⟨rfl, HF1.out⟩
      · have HR := Lib.hid (HCE.out.trans (if_neg hq))
        have hq2 : ((k : Int) == s) = false := by simpa using hq
        clear hq
        go_wp2_with fail
        go_ret
        rw [HR.out]
        exact ⟨rfl, HF1.out⟩
end Go.Proofs.YtoegdmpmagbaiaaDoor
