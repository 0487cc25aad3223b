/- A line's step: the reference. -/
import Derived.Test.YtidhlfcmjpnhgaaGreatDoorQZ13
namespace Go.Proofs.YtidhlfcmjpnhgaaGreatDoor
open Go.RowKit Go.Lib

set_option maxRecDepth 100000
set_option maxHeartbeats 4000000
theorem uses_le (q : Nat) : (usesN q).length ≤ 3 ∧ ∀ u ∈ usesN q, u ≤ 3 := by
  have h : ∀ k, k < 9 → (usesN k).length ≤ 3 ∧ ∀ u ∈ usesN k, u ≤ 3 := by decide
  by_cases hq : q < 9
  · exact h q hq
  · have : usesN q = [] := by
      unfold usesN
      rw [List.getD_eq_getElem?_getD, List.getElem?_eq_none (by simp; omega)]
      rfl
    rw [this]; simp
theorem mostN_lt (u : Nat) : mostN u < 18446744073709551616 := by unfold mostN; split <;> (try split) <;> omega
theorem ref_Line (w : World) (A : Option Addr) (c : Nat) (ws : List ByteArray) (a : List UInt8) (r : List (List UInt8)) (hl : Sl w 1 A ws.length c (strB ws)) (hb : bl ws = a :: r) (hn : ws.length ≤ 9000) (hz : ∀ x ∈ ws, x.size ≤ 100000 ∧ x.size ≠ 0) :
    Calls Tryz.prog 21 #[.slice A ws.length c] w (MdP w (lineS a r)) := by
  have HL := Lib.hid hl
  have HBL := Lib.hid hb
  have HZ := Lib.hid hz
  have hle := hl.le
  have hrl : ws.length = r.length + 1 := by have := congrArg List.length hb; rw [bl_len] at this; simpa using this
  obtain ⟨hw0, hx0⟩ := bl_head hb
  obtain ⟨g, o, rfl, hg, hc0⟩ := hl.str_at hw0
  rw [Nat.add_zero] at hc0
  obtain ⟨x0, HX0⟩ : ∃ x0, Hid (x0 = ws[0]) := ⟨_, Lib.hid rfl⟩
  rw [← HX0.out] at hc0 hx0
  obtain ⟨q, hq⟩ : ∃ q, wordN a = q := ⟨_, rfl⟩
  have hq9 : q ≤ 9 := hq ▸ zwordN_le _
  have HRL := Lib.hid hrl
  have HNB := Lib.hid (fun W => ref_numbers W x0 q (by rw [hx0]; exact hq))
  have hnI : 0 < (ws.length : Int) := by omega
  clear hl hb hz hrl
  obtain ⟨zr, HZR⟩ : ∃ zr, Hid (zr = lineS a r) := ⟨_, Lib.hid rfl⟩
  rw [← HZR.out]
  go_enter Tryz.func21, Tryz.ntmps21
  go_upto_region 2 with (first
    | ((go_at_call 41); (with_reducible refine (HNB.out _).mono ?_); rintro e w1 ⟨UA, uc, rfl, hs1, hf1⟩; have HU := Lib.hid hs1; have HF1 := Lib.hid (((Fr.refl Nob w).alloc _).call hf1 (fun _ e _ => e)); have HBZ := Lib.hid ((Blk.new _ _ _).fr hf1 (fun e => e)); clear hs1 hf1)
    | fail)
  have hgw1 : w.heap.size < w1.heap.size := HBZ.out.lt
  by_cases hq9' : q = 9
  · have HR := Lib.hid (show zr = (30, z0) by rw [HZR.out]; exact lineS_none (by rw [hq, hq9']))
    subst hq9'
    have zc := HBZ.out.cell
    have zf := HBZ.out.frozen
    go_wp2_with fail
    rw [HR.out]
    refine bodyPost_ret (v := .tuple #[.agg #[.int .i64 0, .int .i64 0, .int .i64 0, .string ⟨#[]⟩], .int .i64 30]) (by simp [results, Tryz.results21, go_sem, zc]) rfl ?_
    exact ⟨rfl, (HF1.out.mono (fun _ _ e => e.elim)).call (set4_fr _ _ _ _ _ _) (fun k (e : k = w.heap.size) hk => by omega)⟩
  · have hq8 : q < 9 := by omega
    rw [decide_eq_true hq8]
    have hul := (uses_le q).1
    have hx0q := (wordIs (show wordN x0.data.toList = q by rw [hx0]; exact hq)).bytes
    have hx0e := (wordIs (show wordN x0.data.toList = q by rw [hx0]; exact hq)).event
    have hc1 := Fr.cell HF1.out hc0 (fun e => e)
    have hg1 : g < w1.heap.size := by have := HF1.out.size; omega
    have zc := HBZ.out.cell
    have zf := HBZ.out.frozen
    by_cases hbad : r.length < wantsN q ∨ (wantsN q < r.length ∧ q ≠ 3)
    · have HR := Lib.hid (show zr = (11, z0) by rw [HZR.out]; exact lineS_len hq hq8 hbad)
      have hrl := HRL.out
      unfold wantsN at hbad
      generalize (usesN q).length = u at *
      by_cases hlt : ws.length < u + 1
      · have hI : (ws.length : Int) < (u : Int) + 1 := by omega
        clear hrl
        go_wp2_with fail
        rw [HR.out]
        refine bodyPost_ret (v := .tuple #[.agg #[.int .i64 0, .int .i64 0, .int .i64 0, .string ⟨#[]⟩], .int .i64 11]) (by simp [results, Tryz.results21, go_sem, zc]) rfl ?_
        exact ⟨rfl, (HF1.out.mono (fun _ _ e => e.elim)).call (set4_fr _ _ _ _ _ _) (fun k (e : k = w.heap.size) hk => by omega)⟩
      · have hI : ¬ (ws.length : Int) < (u : Int) + 1 := by omega
        by_cases hq1 : q = 1
        · rw [if_pos hq1] at hbad
          rw [decide_eq_true hq1] at hx0q
          have hJ : ((ws.length : Int) != (u : Int) + 1 + 1) = true := by rw [bne_iff_ne]; omega
          clear hrl
          by_cases hJ2 : (u : Int) + 1 < (ws.length : Int)
          all_goals
            go_wp2_with fail
            rw [HR.out]
            refine bodyPost_ret (v := .tuple #[.agg #[.int .i64 0, .int .i64 0, .int .i64 0, .string ⟨#[]⟩], .int .i64 11]) (by simp [results, Tryz.results21, go_sem, zc]) rfl ?_
            exact ⟨rfl, (HF1.out.mono (fun _ _ e => e.elim)).call (set4_fr _ _ _ _ _ _) (fun k (e : k = w.heap.size) hk => by omega)⟩
        · rw [if_neg hq1] at hbad
          rw [decide_eq_false hq1] at hx0q
          have hq3 : q ≠ 3 := by omega
          rw [decide_eq_false hq3] at hx0e
          have hJ : (u : Int) + 1 < (ws.length : Int) := by omega
          clear hrl
          go_wp2_with fail
          rw [HR.out]
          refine bodyPost_ret (v := .tuple #[.agg #[.int .i64 0, .int .i64 0, .int .i64 0, .string ⟨#[]⟩], .int .i64 11]) (by simp [results, Tryz.results21, go_sem, zc]) rfl ?_
          exact ⟨rfl, (HF1.out.mono (fun _ _ e => e.elim)).call (set4_fr _ _ _ _ _ _) (fun k (e : k = w.heap.size) hk => by omega)⟩
    · have hLOK := Lib.hid (fun st h => lineS_ok (st := st) hq hq8 hbad h)
      have hLBD := Lib.hid (fun h => lineS_bad (r := r) hq hq8 h)
      have hrl := HRL.out
      have hge : (usesN q).length ≤ r.length ∧ (q = 1 → r.length = (usesN q).length + 1) ∧ (q ≠ 1 → (usesN q).length < r.length → q = 3) := by
        unfold wantsN at hbad
        refine ⟨by split at hbad <;> omega, fun h1 => ?_, fun h1 h2 => ?_⟩
        · rw [if_pos h1] at hbad; omega
        · rw [if_neg h1] at hbad; omega
      have HUS := Lib.hid (uses_le q).2
      obtain ⟨u, HQU⟩ : ∃ u, Hid (u = (usesN q).length) := ⟨_, Lib.hid rfl⟩
      rw [← HQU.out] at hge HU HNB hul ⊢
      obtain ⟨hge1, hge2, hge3⟩ := hge
      have hI0 : ¬ (ws.length : Int) < (u : Int) + 1 := by omega
      have hn2 : q = 1 → ((ws.length : Int) != (u : Int) + 1 + 1) = false := fun h => by have := hge2 h; rw [bne_eq_false_iff_eq]; omega
      have hn3 : q ≠ 1 → (u : Int) + 1 < (ws.length : Int) → q = 3 := fun h h2 => hge3 h (by omega)
      have HN2 := Lib.hid hn2
      have HN3 := Lib.hid hn3
      have HGE := Lib.hid hge1
      clear hge1 hge2 hge3 hn2 hn3 hrl hbad HNB
      obtain ⟨b1, HB1⟩ : ∃ b1, Hid (b1 = decide (q = 1)) := ⟨_, Lib.hid rfl⟩
      rw [← HB1.out] at hx0q
      clear zc zf
      go_upto_region 6 with fail
      go_cut [68] (fun cv wx => cv = .bool false ∧ wx = w1)
      case first =>
        by_cases hq1 : q = 1
        · have hb : b1 = true := by rw [HB1.out, decide_eq_true hq1]
          subst hb
          have hJ := HN2.out hq1
          go_wp2_with fail
          all_goals
            go_meet
            exact ⟨rfl, rfl⟩
        · have hb : b1 = false := by rw [HB1.out, decide_eq_false hq1]
          subst hb
          by_cases hJ : (u : Int) + 1 < (ws.length : Int)
          · rw [decide_eq_true (HN3.out hq1 hJ)] at hx0e
            go_wp2_with fail
            go_meet
            exact ⟨rfl, rfl⟩
          · go_wp2_with fail
            go_meet
            exact ⟨rfl, rfl⟩
      case rest =>
        obtain ⟨rfl, h4⟩ := hcut
        have h4' := h4.symm
        subst h4'
        clear h4
        have HSI := Lib.hid (HL.out.pure HF1.out)
        have hlI : (u : Int) + 1 ≤ ws.length := by omega
        have HC0 := Lib.hid hc0
        clear hnI hI0 hc1 hx0e hx0q hc0
        go_wp2_with fail
        go_loopw [8, 9, 10] (fun fv nv iv wr => ∃ (j : Nat) (st : SC) (L : List Nat) (A' : Option Addr) (c' : Nat), j ≤ u ∧ L.length = j ∧ iv = .int .i64 ((j + 1 : Nat) : Int) ∧ fv = .bool st.fits ∧ nv = .slice A' j c' ∧ Hid (LnA q r j st L) ∧ Hid (Ap w1 wr w1.heap.size 36 A' c' j (u64s L))) (fun _ _ iv _ => u + 1 - (RowKit.intOf iv).toNat)
        case atStart => exact ⟨0, s0, [], none, 0, Nat.zero_le _, rfl, rfl, rfl, rfl, Lib.hid (LnA.start q r), Lib.hid (Ap.start (Fr.refl _ _) (Nat.le_refl _) (Nat.le_refl _))⟩
        case round =>
          obtain ⟨j, st, L, A', c', hj, hLj, rfl, rfl, rfl, HA, HP⟩ := hrel
          by_cases hlt : j < u
          · have hju : j < (usesN q).length := by rw [← HQU.out]; exact hlt
            have hjr : j < r.length := by have := HGE.out; omega
            obtain ⟨hjw, hrx⟩ := bl_tail HBL.out hjr
            obtain ⟨g1, o1, he, -, hcx⟩ := (HSI.out.pure HP.out.fr).str_at hjw
            obtain ⟨rfl, rfl⟩ : g = g1 ∧ o = o1 := by injection he with he; injection he with e1 e2; exact ⟨e1, e2⟩
            clear he
            have hjU : j < (usesN q).length := hju
            obtain ⟨gu, ou, rfl, hgu, hcu⟩ := (HU.out.pure HP.out.fr).i64_at hjU
            have hzx := HZ.out _ (List.getElem_mem hjw)
            have HGD := Lib.hid (show (usesN q).getD j 0 = (usesN q)[j] by rw [List.getD_eq_getElem?_getD, List.getElem?_eq_getElem hju]; rfl)
            have HNX := Lib.hid (fun (v n : Nat) => HA.out.next (v := v) (n := n) hju hjr)
            have HBD := Lib.hid (HA.out.bad hju hjr)
            rw [HGD.out, hrx] at HNX
            rw [hrx] at HBD
            generalize ws[j + 1] = x at *
            generalize (usesN q)[j] = us at *
            have HMO := Lib.hid (fun W => ref_most W us)
            have HNU := Lib.hid (fun W => ref_number W x (mostN us) hzx.1 (mostN_lt us))
            have hK0 : (0 : Int) ≤ (j : Int) := by omega
            have hK1 : (j : Int) < u := by omega
            have hK2 : (0 : Int) ≤ (j : Int) + 1 := by omega
            have hK3 : (j : Int) + 1 < ws.length := by omega
            have hK4 : (j : Int) + 1 < (u : Int) + 1 := by omega
            have e1 : IntKind.i64.wrap (j : Int) = (j : Int) := IntWalk.i64_in _ (by omega)
            have e2 : IntKind.i64.wrap ((j : Int) + 1 - 1) = (j : Int) := by rw [show (j : Int) + 1 - 1 = (j : Int) by omega]; exact e1
            have HD0 := Lib.hid (show wr.drew.cell? ⟨g, o + (j + 1), none⟩ = some (.string x) ∧ wr.drew.cell? ⟨gu, ou + j, none⟩ = some (.int .i64 us) from ⟨Fr.cell (Fr.refl Nob wr).drew hcx (fun e => e), Fr.cell (Fr.refl Nob wr).drew hcu (fun e => e)⟩)
            have HPD := Lib.hid (HP.out.pure (Fr.refl Nob wr).drew)
            have HFD := Lib.hid (HF1.out.call HPD.out.fr (fun _ e _ => e))
            go_upto_region 13 with fail
            cases hnc : natC x.data.toList with
            | none =>
              have HR := Lib.hid (show zr = (11, z0) by rw [HZR.out]; exact hLBD.out (HBD.out hnc))
              rw [hnc] at HNU
              unfold NumR at HNU
              go_region_held3 (fun W => W.cell? ⟨g, o + (j + 1), none⟩ = some (.string x) ∧ W.cell? ⟨gu, ou + j, none⟩ = some (.int .i64 us)) (with_reducible exact HD0.out) (first
                | ((go_at_call 43); (with_reducible refine (HMO.out _).mono ?_); rintro e w2 ⟨rfl, rfl⟩)
                | ((go_at_call 42); (with_reducible refine (HNU.out _).mono ?_); rintro e w3 ⟨rfl, rfl⟩)
                | fail)
              all_goals
                generalize wr.drew = W3 at *
                have HZ3 := Lib.hid (HBZ.out.fr HPD.out.fr (fun e => e))
                have zc := HZ3.out.cell
                have zf := HZ3.out.frozen
                have hzl := HZ3.out.lt
                go_wp2_with fail
                rw [HR.out]
                refine bodyPost_ret (v := .tuple #[.agg #[.int .i64 0, .int .i64 0, .int .i64 0, .string ⟨#[]⟩], .int .i64 11]) (by simp [results, Tryz.results21, go_sem, zc]) rfl ?_
                exact ⟨rfl, (HFD.out.mono (fun _ _ e => e.elim)).call (set4_fr _ _ _ _ _ _) (fun k (e : k = w.heap.size) hk => by omega)⟩
            | some v =>
              rw [hnc] at HNU
              unfold NumR at HNU
              go_region_held3 (fun W => W.cell? ⟨g, o + (j + 1), none⟩ = some (.string x) ∧ W.cell? ⟨gu, ou + j, none⟩ = some (.int .i64 us)) (with_reducible exact HD0.out) (first
                | ((go_at_call 43); (with_reducible refine (HMO.out _).mono ?_); rintro e w2 ⟨rfl, rfl⟩)
                | ((go_at_call 42); (with_reducible refine (HNU.out _).mono ?_); rintro e w3 ⟨⟨n, hn1, hn2, rfl⟩, rfl⟩)
                | fail)
              all_goals
                generalize wr.drew = W3 at *
                have HNX2 := Lib.hid (HNX.out v n hnc hn1 hn2)
                clear HNX HBD hn1
                generalize decide (v ≤ mostN us) = vf at *
                obtain ⟨ns, bb, pps, ff⟩ := st
                simp only at HNX2 ⊢
                cases ff
                all_goals
                  go_wp2_with (at_builtin; refine wpList_app rfl _ _ 88 rfl elemU64 (base := w1.heap.size) (xs := u64s L) (news := [.int .u64 n]) rfl ?own rfl ?src ?one ?h63 ?hby ?hbase ?_)
                  case own => exact HPD.out.own_al _
                  case src => exact Sl.new1 (Blk.new_eq (by first | rfl | simp)) 1 1 rfl (by decide)
                  case one => first | rfl | exact (by intro u hu; simp at hu; subst hu; rfl)
                  case h63 => unfold maxLen; omega
                  case hby => omega
                  case hbase => have h1 := HPD.out.hi; simp at h1 ⊢; omega
                  intro A2 c2 w2 hown hgr _
                  rw [show u64s L ++ [.int .u64 n] = u64s (L ++ [n]) by simp [u64s]] at hown
                  have HP2 := Lib.hid ((HPD.out.pure ((Fr.refl Nob _).alloc _)).app hown hgr)
                  clear hown hgr
                  go_wp2_with fail
                  go_roundw
                  case rel => exact ⟨j + 1, _, L ++ [n], A2, c2, by omega, by simp [hLj], by go_num, by simp, by go_num, HNX2, HP2⟩
                  case measure => simp [RowKit.intOf]; omega
          · obtain rfl : j = u := by omega
            have HB := Lib.hid (show LnB q r j st L [] by rw [HQU.out] at HA ⊢; exact HA.out.turn)
            have HSB := Lib.hid HA.out.b
            have hbz := HBZ.out.fr HP.out.fr (fun e => e)
            have HZ2 := Lib.hid hbz
            have hF2 := HF1.out.call HP.out.fr (fun _ e _ => e)
            have HF2 := Lib.hid hF2
            have HN := Lib.hid HP.out.sl
            have HS2 := Lib.hid (HSI.out.pure HP.out.fr)
            have hjr := HGE.out
            have hgw : w.heap.size < wr.heap.size := hbz.lt
            have hjI : ¬ (j : Int) + 1 < (j : Int) + 1 := by omega
            have HLJ := Lib.hid hLj
            clear HP HA hF2 hbz HGE hLj hlt
            generalize wr = W2 at *
            go_wp2_with fail
            go_loopw [8, 14, 15, 16] (fun fv bv pv iv wl => ∃ (m : Nat) (t : SC) (P : List PP) (A2 : Option Addr) (c2 : Nat), m ≤ r.length ∧ j ≤ m ∧ iv = .int .i64 ((m + 1 : Nat) : Int) ∧ fv = .bool t.fits ∧ bv = .string ⟨t.b.toArray⟩ ∧ pv = .slice A2 P.length c2 ∧ Hid (LnB q r m t L P) ∧ Hid (ApP W2 wl A2 c2 P)) (fun _ _ _ iv _ => r.length + 1 - (RowKit.intOf iv).toNat)
            case atStart => exact ⟨j, st, [], none, 0, hjr, Nat.le_refl _, by go_num, rfl, by rw [HSB.out], rfl, HB, Lib.hid (ApP.start _)⟩
            case round =>
              clear HB HSB
              obtain ⟨m, t, P, A2, c2, hm, hjm, rfl, rfl, rfl, rfl, HB, HP⟩ := hrel
              have hzl := HZ2.out.fr HP.out.fr (fun e => e)
              have HZL := Lib.hid hzl
              have HFL := Lib.hid (HF2.out.call HP.out.fr (fun _ e _ => e))
              have hrl := HRL.out
              by_cases hlt : m < r.length
              · obtain ⟨hmw, hrx⟩ := bl_tail HBL.out hlt
                obtain ⟨g1, o1, he, -, hcx⟩ := (HS2.out.pure HP.out.fr).str_at hmw
                obtain ⟨rfl, rfl⟩ : g = g1 ∧ o = o1 := by injection he with he; injection he with e1 e2; exact ⟨e1, e2⟩
                clear he
                have hzx := HZ.out _ (List.getElem_mem hmw)
                have hju : (usesN q).length ≤ m := by rw [← HQU.out]; exact hjm
                have hK2 : (0 : Int) ≤ (m : Int) + 1 := by omega
                have hK3 : (m : Int) + 1 < ws.length := by omega
                have hPl : P.length ≤ 9000 := by have := HB.out.few; omega
                clear hrl
                cases b1 with
                | true =>
                  have hq1 : q = 1 := by have := HB1.out.symm; simpa using this
                  have HPR := Lib.hid (fun W => ref_pairs W ws[m + 1] hzx.1 hzx.2)
                  have HBD := Lib.hid (HB.out.noBytes hju hlt hq1)
                  have HBN := Lib.hid (fun bb => HB.out.bytes (x := bb) hju hlt hq1)
                  rw [hrx] at HBD HBN
                  generalize ws[m + 1] = x at *
                  cases hpc : pairsC x.data.toList with
                  | none =>
                    have HR := Lib.hid (show zr = (11, z0) by rw [HZR.out]; exact hLBD.out (HBD.out hpc))
                    rw [hpc] at HPR
                    simp only [Option.getD_none, Option.isSome_none] at HPR
                    clear HBD HBN
                    go_upto_region 25 with (first
                      | ((go_at_call 44); (with_reducible refine (HPR.out _).mono ?_); rintro e w3 ⟨rfl, hf3⟩; have HF3 := Lib.hid (HFL.out.call hf3 (fun _ e _ => e)); have HZ3 := Lib.hid (HZL.out.fr hf3 (fun e => e)); clear hf3)
                      | fail)
                    have zc := HZ3.out.cell
                    have zf := HZ3.out.frozen
                    have hz3 := HZ3.out.lt
                    go_wp2_with fail
                    rw [HR.out]
                    refine bodyPost_ret (v := .tuple #[.agg #[.int .i64 0, .int .i64 0, .int .i64 0, .string ⟨#[]⟩], .int .i64 11]) (by simp [results, Tryz.results21, go_sem, zc]) rfl ?_
                    exact ⟨rfl, (HF3.out.mono (fun _ _ e => e.elim)).call (set4_fr _ _ _ _ _ _) (fun k (e : k = w.heap.size) hk => by omega)⟩
                  | some bb =>
                    have HBN2 := Lib.hid (HBN.out bb hpc)
                    rw [hpc] at HPR
                    simp only [Option.getD_some, Option.isSome_some] at HPR
                    clear HBD HBN
                    go_wp2_with (first
                      | ((go_at_call 44); (with_reducible refine (HPR.out _).mono ?_); rintro e w3 ⟨rfl, hf3⟩; have HF3 := Lib.hid hf3; clear hf3)
                      | fail)
                    go_roundw
                    case rel => exact ⟨m + 1, _, P, A2, c2, by omega, by omega, by go_num, by simp, by simp, rfl, HBN2, Lib.hid (HP.out.pure HF3.out)⟩
                    case measure => simp [RowKit.intOf]; omega
                | false =>
                  have hq1 : q ≠ 1 := by have := HB1.out.symm; simpa using this
                  have HPO := Lib.hid (fun W => ref_prop W ws[m + 1] hzx.1)
                  have HBD := Lib.hid (HB.out.noProp hju hlt hq1)
                  have HBN := Lib.hid (fun (p y : PP) (f : Bool) => HB.out.prop (p := p) (x := y) (f := f) hju hlt hq1)
                  rw [hrx] at HBD HBN
                  have HLX := Lib.hid (show ws[m + 1].data.toList.length ≤ 100000 by rw [ba_len]; exact hzx.1)
                  generalize ws[m + 1] = x at *
                  cases hpc : propC x.data.toList with
                  | none =>
                    have HR := Lib.hid (show zr = (11, z0) by rw [HZR.out]; exact hLBD.out (HBD.out hpc))
                    rw [hpc] at HPO
                    unfold PrpR at HPO
                    clear HBD HBN
                    go_upto_region 29 with (first
                      | ((go_at_call 45); (with_reducible refine (HPO.out _).mono ?_); rintro e w3 ⟨rfl, hf3⟩; have HF3 := Lib.hid (HFL.out.call hf3 (fun _ e _ => e)); have HZ3 := Lib.hid (HZL.out.fr hf3 (fun e => e)); clear hf3)
                      | fail)
                    have HZ4 := Lib.hid (HZ3.out.alloc (.cells #[.string ⟨#[]⟩, .int .i64 0] 41))
                    have HF4 := Lib.hid (HF3.out.alloc (.cells #[.string ⟨#[]⟩, .int .i64 0] 41))
                    generalize w3.alloc (.cells #[.string ⟨#[]⟩, .int .i64 0] 41) = W4 at *
                    have zc := HZ4.out.cell
                    have zf := HZ4.out.frozen
                    have hz3 := HZ4.out.lt
                    go_wp2_with fail
                    rw [HR.out]
                    refine bodyPost_ret (v := .tuple #[.agg #[.int .i64 0, .int .i64 0, .int .i64 0, .string ⟨#[]⟩], .int .i64 11]) (by simp [results, Tryz.results21, go_sem, zc]) rfl ?_
                    exact ⟨rfl, (HF4.out.mono (fun _ _ e => e.elim)).call (set4_fr _ _ _ _ _ _) (fun k (e : k = w.heap.size) hk => by omega)⟩
                  | some pf =>
                    obtain ⟨⟨pn, pv⟩, f⟩ := pf
                    have hok := zpropC_ok hpc HLX.out
                    obtain ⟨yn, yv, hyt, hyf⟩ : ∃ (yn : ByteArray) (yv : Int), (f = true → yn = pn ∧ yv = pv) ∧ (f = false → yn = ⟨#[]⟩ ∧ yv = 0) := by
                      cases f
                      · exact ⟨⟨#[]⟩, 0, fun e => (by cases e), fun _ => ⟨rfl, rfl⟩⟩
                      · exact ⟨pn, pv, fun _ => ⟨rfl, rfl⟩, fun e => (by cases e)⟩
                    have HBN2 := Lib.hid (HBN.out ⟨pn, pv⟩ ⟨yn, yv⟩ f hpc (fun e => by obtain ⟨rfl, rfl⟩ := hyt e; rfl) (by
                      cases f
                      · obtain ⟨rfl, rfl⟩ := hyf rfl; exact ⟨by decide, by unfold I64; decide⟩
                      · obtain ⟨rfl, rfl⟩ := hyt rfl; exact hok))
                    have HPO2 := Lib.hid (fun W => (HPO.out W).mono fun e w' ⟨h1, h2⟩ => (show e = Ending.returned (.tuple #[.agg #[.string yn, .int .i64 yv], .bool true, .bool f]) ∧ Fr Nob W w' from ⟨by
                      rw [h1, hpc]
                      cases f
                      · obtain ⟨rfl, rfl⟩ := hyf rfl; rfl
                      · obtain ⟨rfl, rfl⟩ := hyt rfl; rfl, h2⟩))
                    clear HBD HBN HPO hpc hok hyt hyf
                    obtain ⟨ns, bb, pps, ff⟩ := t
                    simp only at HBN2 ⊢
                    cases ff
                    all_goals
                      go_upto_region 32 with (first
                        | ((go_at_call 45); (with_reducible refine (HPO2.out _).mono ?_); rintro e w3 ⟨rfl, hf3⟩; have HF3 := Lib.hid hf3; clear hf3)
                        | fail)
                      go_wp2_with (at_builtin; refine wpList_app rfl _ _ 37 rfl elemPP (base := W2.heap.size) (xs := P.flatMap pcs) (news := pcs ⟨yn, yv⟩) rfl ?own rfl ?src ?one ?h63 ?hby ?hbase ?_)
                      case own => exact ((HP.out.pure HF3.out).pure (((Fr.refl Nob _).alloc _).alloc _)).own
                      case src => exact Sl.new1 (Blk.new_eq (by first | rfl | simp)) 2 1 rfl (by decide)
                      case one => exact (by intro u hu; simp [pcs] at hu; rcases hu with rfl | rfl <;> rfl)
                      case h63 => unfold maxLen; omega
                      case hby => omega
                      case hbase => have h1 := HP.out.fr.size; have h2 := HF3.out.size; simp at h1 h2 ⊢; omega
                      intro A4 c4 W4 hown hgr _
                      have HP4 := Lib.hid (((HP.out.pure HF3.out).pure (((Fr.refl Nob _).alloc _).alloc _)).app ⟨yn, yv⟩ hown hgr)
                      clear hown hgr
                      go_wp2_with fail
                      go_roundw
                      case rel => exact ⟨m + 1, _, P ++ [⟨yn, yv⟩], A4, c4, by omega, by omega, by go_num, by simp, rfl, by simp, HBN2, HP4⟩
                      case measure => simp [RowKit.intOf]; omega
              · obtain rfl : m = r.length := by omega
                have hmI : ¬ (r.length : Int) + 1 < ws.length := by omega
                clear hrl hlt
                have hLN := hLOK.out t HB.out.done
                obtain ⟨ns, bb, pps, ff⟩ := t
                cases ff with
                | false =>
                  have HR := Lib.hid (show zr = (33, z0) by rw [HZR.out, hLN]; rfl)
                  have zc := hzl.cell
                  have zf := hzl.frozen
                  have hz3 := hzl.lt
                  clear hLN
                  go_wp2_with fail
                  rw [HR.out]
                  refine bodyPost_ret (v := .tuple #[.agg #[.int .i64 0, .int .i64 0, .int .i64 0, .string ⟨#[]⟩], .int .i64 33]) (by simp [results, Tryz.results21, go_sem, zc]) rfl ?_
                  exact ⟨rfl, (HFL.out.mono (fun _ _ e => e.elim)).call (set4_fr _ _ _ _ _ _) (fun k (e : k = w.heap.size) hk => by omega)⟩
                | true =>
                  obtain ⟨v1, v2, v3⟩ := HB.out.val rfl
                  simp only at v1 v2
                  subst v1 v2
                  have HR := Lib.hid (show zr = madeS q ⟨L, bb, P, true⟩ by rw [HZR.out, hLN]; rfl)
                  have hc9 := Fr.cell HFL.out HC0.out (fun e => e)
                  have hgl : g < wr.heap.size := by have := HFL.out.size; omega
                  have HMD := Lib.hid (ref_made wr x0 q (by rw [hx0]; exact hq) hq8 A' A2 c' c2 L bb P (by rw [HLJ.out]; exact HN.out.pure HP.out.fr) HB.out.len v3 (Sl.of_own HP.out.own) (by have := HB.out.few; have := HRL.out; omega) HB.out.pok)
                  rw [← HR.out, HLJ.out] at HMD
                  unfold MdP zV at HMD
                  clear hLN v3
                  obtain ⟨ze, ⟨zk, zs, zn, zb⟩⟩ := zr
                  simp only at HMD
                  go_wp2_with (first
                    | ((go_at_call 46); (with_reducible refine HMD.out.mono ?_); rintro e w3 ⟨rfl, hf3⟩; have HF3 := Lib.hid (HFL.out.call hf3 (fun _ e _ => e)); have HZ3 := Lib.hid (HZL.out.fr hf3 (fun e => e)); have zc := HZ3.out.cell; have zf := HZ3.out.frozen; clear hf3)
                    | fail)
                  refine bodyPost_ret (v := .tuple #[.agg #[.int .i64 zk, .int .i64 zs, .int .i64 zn, .string ⟨zb.toArray⟩], .int .i64 ze]) (by simp [results, Tryz.results21, go_sem, zc]) rfl ?_
                  exact ⟨rfl, (HF3.out.mono (fun _ _ e => e.elim)).call (set4_fr _ _ _ _ _ _) (fun k (e : k = w.heap.size) hk => by omega)⟩
end Go.Proofs.YtidhlfcmjpnhgaaGreatDoor
