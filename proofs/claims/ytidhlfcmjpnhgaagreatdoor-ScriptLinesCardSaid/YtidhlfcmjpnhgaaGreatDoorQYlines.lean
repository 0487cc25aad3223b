/- ScriptLines. -/
import Derived.Test.YtidhlfcmjpnhgaaGreatDoorQYawake
namespace Go.Proofs.YtidhlfcmjpnhgaaGreatDoor
open Go.RowKit Go.Lib Go.Shelf Go.Sort

theorem loopS_le : ∀ (r : List (List UInt8)) (i : Nat) (acc : List ZC), 0 ≤ (loopS i acc r).2.2 ∧ (loopS i acc r).2.2 ≤ i + r.length ∧ ((loopS i acc r).1.length ≤ acc.length + r.length)
  | [], i, acc => by simp [loopS]
  | x :: r, i, acc => by
    have h1 := loopS_le r (i + 1) acc
    rw [loopS_cons]
    split
    · rw [List.length_cons]; omega
    · rename_i w ws _
      split
      · rw [List.length_cons]; omega
      · split
        · have h2 := loopS_le r (i + 1) (acc ++ [(lineS w ws).2])
          rw [List.length_append] at h2
          simp only [List.length_cons, List.length_nil] at h2 ⊢
          omega
        · simp
          omega
/-- What a text's reading is, within its bounds. -/
theorem readS_parts {l : List UInt8} (hl : l.length ≤ 2000) : (readS l).1.length ≤ 2001 ∧ 0 ≤ (readS l).2.2 ∧ (readS l).2.2 ≤ 2001 ∧ ((readS l).2.1 ≠ 0 → (readS l).1 = [] ∧ 0 < (readS l).2.2) := by
  unfold readS
  rw [if_neg (by omega)]
  have h1 := loopS_le (splitC 10 l) 0 []
  have h2 := splitC_len 10 l
  simp only [List.length_nil] at h1
  exact ⟨by omega, by omega, by omega, loopS_bad _ _ _⟩
theorem count_take {s : ByteArray} {k : Nat} (h : k < s.size) : (s.data.toList.take (k + 1)).count 10 = (s.data.toList.take k).count 10 + (if s[k] = 10 then 1 else 0) := by
  rw [List.take_succ_eq_append_getElem (by rw [ba_len]; exact h), List.count_append]
  have : s.data.toList[k]'(by rw [ba_len]; exact h) = s[k] := rfl
  rw [this]
  by_cases hk : s[k] = 10
  · rw [hk]; simp
  · simp [hk]
theorem StOk.pure {w w' : World} {e : StV} (h : StOk w e) (hf : Fr Nob w w') : StOk w' e := Sl.pure h hf
theorem map_at {L : List StV} {zs : List ZC} (h : L.map StV.z = zs) {k : Nat} (hk : k < L.length) : ∃ hz : k < zs.length, L[k].z = zs[k] := by
  subst h
  exact ⟨by simpa using hk, by simp⟩
set_option maxRecDepth 100000 in
set_option maxHeartbeats 8000000 in
theorem law_ScriptLines (w : World) (s t : ByteArray) (hv : SV w) : Calls Tryz.prog 4 #[.string s, .string t] w fun e w' => e = .returned (.bool true) ∧ Fr Nob w w' := by
  have HV := Lib.hid hv
  have HAW := Lib.hid (law27_awake w hv)
  clear hv
  by_cases hI : (2000 : Int) < (s.size : Nat)
  · go_enter Tryz.func4, Tryz.ntmps4
    go_wp2_with (first | ((go_at_call 6); (with_reducible refine HAW.out.mono ?_); rintro e w1 ⟨rfl, hf1⟩; have HF1 := Lib.hid hf1; clear hf1) | fail)
    go_ret
    exact ⟨rfl, HF1.out⟩
  by_cases hJ : (2000 : Int) < (t.size : Nat)
  · go_enter Tryz.func4, Tryz.ntmps4
    go_wp2_with (first | ((go_at_call 6); (with_reducible refine HAW.out.mono ?_); rintro e w1 ⟨rfl, hf1⟩; have HF1 := Lib.hid hf1; clear hf1) | fail)
    go_ret
    exact ⟨rfl, HF1.out⟩
  have hs2 : s.data.toList.length ≤ 2000 := by rw [ba_len]; omega
  have ht2 : t.data.toList.length ≤ 2000 := by rw [ba_len]; omega
  have hcd : (s ++ ⟨#[10]⟩ ++ t : ByteArray).data.toList = s.data.toList ++ 10 :: t.data.toList := by simp [ByteArray.data_append]
  have hjn := readS_join hs2 ht2
  rw [← hcd] at hjn
  have hps := readS_parts hs2
  have hpt := readS_parts ht2
  obtain ⟨za, er, li, hza⟩ : ∃ z e l, readS s.data.toList = (z, e, l) := ⟨_, _, _, rfl⟩
  obtain ⟨zb, fr, lj, hzb⟩ : ∃ z e l, readS t.data.toList = (z, e, l) := ⟨_, _, _, rfl⟩
  rw [hza] at hps hjn
  rw [hzb] at hpt hjn
  simp only at hps hpt hjn
  have hss : s.size ≤ 2000 := by omega
  have htt : t.size ≤ 2000 := by omega
  have hcz : (s ++ ⟨#[10]⟩ ++ t : ByteArray).size ≤ 100000 := by rw [ByteArray.size_append, ByteArray.size_append]; have : (⟨#[10]⟩ : ByteArray).size = 1 := rfl; omega
  have HRA := Lib.hid (fun (W : World) (h : SV W) => prg_SOf W s (by omega) h hza)
  have HRB := Lib.hid (fun (W : World) (h : SV W) => prg_SOf W t (by omega) h hzb)
  by_cases he : er = 0
  · subst he
    rw [if_pos rfl] at hjn
    by_cases hf : fr = 0
    · subst hf
      rw [if_pos rfl] at hjn
      have HRC := Lib.hid (fun (W : World) (h : SV W) => prg_SOf W _ hcz h hjn)
      unfold SReadP at HRA HRB HRC
      simp only at HRA HRB HRC
      obtain ⟨hna, -, -, -⟩ := hps
      obtain ⟨hnb, -, -, -⟩ := hpt
      obtain ⟨nc, HNC⟩ : ∃ nc, Hid (nc = (za ++ zb).length) := ⟨_, Lib.hid rfl⟩
      rw [← HNC.out] at HRC
      obtain ⟨na, HNA⟩ : ∃ na, Hid (na = za.length) := ⟨_, Lib.hid rfl⟩
      rw [← HNA.out] at HRA hna
      obtain ⟨nb, HNB⟩ : ∃ nb, Hid (nb = zb.length) := ⟨_, Lib.hid rfl⟩
      rw [← HNB.out] at HRB hnb
      have hncs : nc = na + nb := by rw [HNC.out, HNA.out, HNB.out, List.length_append]
      have hncI : ((nc : Int) != (na : Int) + nb) = false := by rw [bne_eq_false_iff_eq]; omega
      have HNS := Lib.hid hncs
      clear hza hzb hjn hcd hs2 ht2 hncs
      go_enter Tryz.func4, Tryz.ntmps4
      go_wp2_with (first
        | ((go_at_call 6); (with_reducible refine HAW.out.mono ?_); rintro e w1 ⟨rfl, hf1⟩; have HF1 := Lib.hid hf1; clear hf1)
        | ((go_at_call 7); (with_reducible refine (HRA.out _ (HV.out.fr HF1.out)).mono ?_); rintro e w2 ⟨A2, c2, L2, rfl, hL2, hs2, hk2, hf2⟩; have HF2 := Lib.hid (HF1.out.call hf2 (fun _ e _ => e)); have HS2 := Lib.hid hs2; have HL2 := Lib.hid hL2; have HK2 := Lib.hid hk2; clear hL2 hs2 hk2 hf2)
        | ((go_at_call 7); (with_reducible refine (HRB.out _ (HV.out.fr HF2.out)).mono ?_); rintro e w3 ⟨A3, c3, L3, rfl, hL3, hs3, hk3, hf3⟩; have HF3 := Lib.hid (HF2.out.call hf3 (fun _ e _ => e)); have HG3 := Lib.hid hf3; have HS3 := Lib.hid hs3; have HL3 := Lib.hid hL3; have HK3 := Lib.hid hk3; clear hL3 hs3 hk3 hf3)
        | ((go_at_call 7); (with_reducible refine (HRC.out _ (HV.out.fr HF3.out)).mono ?_); rintro e w4 ⟨A4, c4, L4, rfl, hL4, hs4, hk4, hf4⟩; have HF4 := Lib.hid (HF3.out.call hf4 (fun _ e _ => e)); have HG4 := Lib.hid hf4; have HS4 := Lib.hid hs4; have HL4 := Lib.hid hL4; have HK4 := Lib.hid hk4; clear hL4 hs4 hk4 hf4)
        | fail)
      go_loop [15, 16] (fun cv iv => ∃ (k c : Nat), k ≤ s.size ∧ iv = .int .i64 k ∧ cv = .int .i64 c ∧ Hid (c = List.count 10 (s.data.toList.take k) + 1) ∧ c ≤ k + 1) (fun _ iv => s.size - (RowKit.intOf iv).toNat)
      case atStart => exact ⟨0, 1, Nat.zero_le _, rfl, rfl, Lib.hid (by simp), Nat.le_refl _⟩
      case round =>
        obtain ⟨k, c, hk, rfl, rfl, hc, hck⟩ := hrel
        by_cases hlt : k < s.size
        · have hKI : (k : Int) < s.size := by omega
          have hK0 : (0 : Int) ≤ k := by omega
          have hct := count_take hlt
          by_cases hb : s[k] = 10
          · have hbI : ((s[k].toNat : Int) == 10) = true := by rw [hb]; rfl
            have HC2 := Lib.hid (show c + 1 = List.count 10 (s.data.toList.take (k + 1)) + 1 by rw [hct, if_pos hb, hc.out])
            clear hb hct
            go_wp2_with fail
            go_round
            case rel => exact ⟨k + 1, c + 1, by omega, by go_num, by go_num, HC2, by omega⟩
            case measure => simp [RowKit.intOf]; omega
          · have hbI : ((s[k].toNat : Int) == 10) = false := by rw [beq_eq_false_iff_ne]; intro e; exact hb (UInt8.toNat_inj.1 (by have : (10 : UInt8).toNat = 10 := rfl; omega))
            have HC2 := Lib.hid (show c = List.count 10 (s.data.toList.take (k + 1)) + 1 by rw [hct, if_neg hb, hc.out])
            clear hb hct
            go_wp2_with fail
            go_round
            case rel => exact ⟨k + 1, c, by omega, by go_num, rfl, HC2, by omega⟩
            case measure => simp [RowKit.intOf]; omega
        · obtain rfl : k = s.size := by omega
          have hKI : ¬ (s.size : Int) < s.size := by omega
          have hcc : c = List.count 10 s.data.toList + 1 := by have := hc.out; rwa [List.take_of_length_le (by rw [ba_len]; omega)] at this
          clear HAW HRA HRB HRC
          have hcle := HS4.out.le
          have hcmx := HS4.out.max
          have hale := HS2.out.le
          have hble := HS3.out.le
          unfold maxLen at hcmx
          go_wp2_with fail
          go_loopw [17] (fun iv wr => ∃ n : Nat, n ≤ nc ∧ iv = .int .i64 n ∧ Hid (Fr Nob w4 wr)) (fun iv _ => nc - (RowKit.intOf iv).toNat)
          case atStart => exact ⟨0, Nat.zero_le _, rfl, Lib.hid (Fr.refl _ _)⟩
          case round =>
            obtain ⟨n, hn, rfl, hf⟩ := hrel
            by_cases hlt : n < nc
            · have hN : (n : Int) < nc := by omega
              have hN0 : (0 : Int) ≤ n := by omega
              have hll4 : nc = L4.length := by rw [HNC.out, ← HL4.out]; simp
              have hs4 := HS4.out.pure hf.out
              rw [hll4] at hs4
              have hn4 : n < L4.length := by omega
              obtain ⟨g4, o4, rfl, hg4, a0, a1, a2, a3⟩ := stc_at hs4 hn4
              obtain ⟨hz4, hzz⟩ := map_at HL4.out hn4
              have hk4 := (HK4.out _ (List.getElem_mem hn4)).pure hf.out
              generalize L4[n] = x4 at *
              obtain ⟨zx, B4, d4⟩ := x4
              simp only at a0 a1 a2 a3 hk4 hzz
              have hns := HNS.out
              have HK4N := Lib.hid hk4
              by_cases hA : n < na
              · have hAI : (n : Int) < na := by omega
                have hll2 : na = L2.length := by rw [HNA.out, ← HL2.out]; simp
                have hs2 := HS2.out.pure ((HG3.out.call HG4.out (fun _ e _ => e)).call hf.out (fun _ e _ => e))
                rw [hll2] at hs2
                have hn2 : n < L2.length := by omega
                obtain ⟨g2, o2, rfl, hg2, b0, b1, b2, b3⟩ := stc_at hs2 hn2
                obtain ⟨hz2, hzy⟩ := map_at HL2.out hn2
                have hk2 := (HK2.out _ (List.getElem_mem hn2)).pure ((HG3.out.call HG4.out (fun _ e _ => e)).call hf.out (fun _ e _ => e))
                generalize L2[n] = x2 at *
                obtain ⟨zy, B2, d2⟩ := x2
                simp only at b0 b1 b2 b3 hk2 hzy
                have hxy : zx = zy := by rw [hzz, hzy, List.getElem_append_left]
                subst hxy
                have HK2N := Lib.hid hk2
                clear hll4 hll2 hs4 hs2 hk4 hk2 hzz hzy hz4 hz2 hns hn4 hn2
                go_upto_region 29 with fail
                have hf2 := ((Fr.refl Nob wr).alloc (.cells #[.int .i64 zx.kind, .int .i64 zx.src, .int .i64 zx.n, .slice B4 zx.b.length d4] 34)).alloc (.cells #[.int .i64 zx.kind, .int .i64 zx.src, .int .i64 zx.n, .slice B2 zx.b.length d2] 34)
                have hcv1 := run_str (l := zx.b) (A := B4) (d := d4) (HK4N.out.pure hf2)
                have hcv2 := run_str (l := zx.b) (A := B2) (d := d2) (HK2N.out.pure hf2)
                have HF2 := Lib.hid hf2
                clear hf2
                go_wp2_with fail
                go_roundw
                case rel => exact ⟨n + 1, by omega, by go_num, Lib.hid (hf.out.call HF2.out (fun _ e _ => e))⟩
                case measure => simp [RowKit.intOf]; omega
              · have hAI : ¬ (n : Int) < na := by omega
                obtain ⟨m, hnm⟩ : ∃ m, n = na + m := ⟨n - na, by omega⟩
                have hmb : m < nb := by omega
                have hmI : (m : Int) < nb := by omega
                have hm0 : (0 : Int) ≤ m := by omega
                have hsub : (n : Int) - (na : Int) = (m : Int) := by omega
                have e2 : IntKind.i64.wrap ((n : Int) - (na : Int)) = (m : Int) := by rw [hsub, IntKind.wrap_i64]; omega
                have hll3 : nb = L3.length := by rw [HNB.out, ← HL3.out]; simp
                have hs3 := HS3.out.pure (HG4.out.call hf.out (fun _ e _ => e))
                rw [hll3] at hs3
                have hm3 : m < L3.length := by omega
                obtain ⟨g2, o2, rfl, hg2, b0, b1, b2, b3⟩ := stc_at hs3 hm3
                obtain ⟨hz3, hzy⟩ := map_at HL3.out hm3
                have hk3 := (HK3.out _ (List.getElem_mem hm3)).pure (HG4.out.call hf.out (fun _ e _ => e))
                generalize L3[m] = x2 at *
                obtain ⟨zy, B2, d2⟩ := x2
                simp only at b0 b1 b2 b3 hk3 hzy
                have hxy : zx = zy := by
                  rw [hzz, hzy, List.getElem_append_right (by have := HNA.out; omega)]
                  congr 1
                  have := HNA.out
                  omega
                subst hxy
                have HK2N := Lib.hid hk3
                clear hll4 hll3 hs4 hs3 hk4 hk3 hzz hzy hz4 hz3 hns hnm hn4 hm3
                go_upto_region 29 with fail
                have hf2 := ((Fr.refl Nob wr).alloc (.cells #[.int .i64 zx.kind, .int .i64 zx.src, .int .i64 zx.n, .slice B4 zx.b.length d4] 34)).alloc (.cells #[.int .i64 zx.kind, .int .i64 zx.src, .int .i64 zx.n, .slice B2 zx.b.length d2] 34)
                have hcv1 := run_str (l := zx.b) (A := B4) (d := d4) (HK4N.out.pure hf2)
                have hcv2 := run_str (l := zx.b) (A := B2) (d := d2) (HK2N.out.pure hf2)
                have HF2 := Lib.hid hf2
                clear hf2
                go_wp2_with fail
                go_roundw
                case rel => exact ⟨n + 1, by omega, by go_num, Lib.hid (hf.out.call HF2.out (fun _ e _ => e))⟩
                case measure => simp [RowKit.intOf]; omega
            · have hN : ¬ (n : Int) < nc := by omega
              go_wp2_with fail
              go_ret
              exact ⟨rfl, HF4.out.call hf.out (fun _ e _ => e)⟩
    · rw [if_neg hf] at hjn
      obtain ⟨hnb, hj0, hj1, hj2⟩ := hpt
      obtain ⟨hz0, hl0⟩ := hj2 hf
      obtain ⟨N, HNN⟩ : ∃ N, Hid (N = List.count 10 s.data.toList + 1) := ⟨_, Lib.hid rfl⟩
      rw [← HNN.out] at hjn
      have HRC := Lib.hid (fun (W : World) (h : SV W) => prg_SOf W _ hcz h hjn)
      unfold SReadP at HRA HRB HRC
      simp only [List.length_nil] at HRA HRB HRC
      have hne : ((fr : Int) == 0) = false := by rw [beq_eq_false_iff_ne]; exact hf
      clear hza hzb hjn hcd hs2 ht2 hz0 hj2 hf
      go_enter Tryz.func4, Tryz.ntmps4
      go_wp2_with (first
        | ((go_at_call 6); (with_reducible refine HAW.out.mono ?_); rintro e w1 ⟨rfl, hf1⟩; have HF1 := Lib.hid hf1; clear hf1)
        | ((go_at_call 7); (with_reducible refine (HRA.out _ (HV.out.fr HF1.out)).mono ?_); rintro e w2 ⟨A2, c2, L2, rfl, hL2, hs2, hk2, hf2⟩; have HF2 := Lib.hid (HF1.out.call hf2 (fun _ e _ => e)); have HS2 := Lib.hid hs2; have HL2 := Lib.hid hL2; have HK2 := Lib.hid hk2; clear hL2 hs2 hk2 hf2)
        | ((go_at_call 7); (with_reducible refine (HRB.out _ (HV.out.fr HF2.out)).mono ?_); rintro e w3 ⟨A3, c3, L3, rfl, hL3, hs3, hk3, hf3⟩; have HF3 := Lib.hid (HF2.out.call hf3 (fun _ e _ => e)); have HG3 := Lib.hid hf3; have HS3 := Lib.hid hs3; have HL3 := Lib.hid hL3; have HK3 := Lib.hid hk3; clear hL3 hs3 hk3 hf3)
        | ((go_at_call 7); (with_reducible refine (HRC.out _ (HV.out.fr HF3.out)).mono ?_); rintro e w4 ⟨A4, c4, L4, rfl, hL4, hs4, hk4, hf4⟩; have HF4 := Lib.hid (HF3.out.call hf4 (fun _ e _ => e)); have HG4 := Lib.hid hf4; have HS4 := Lib.hid hs4; have HL4 := Lib.hid hL4; have HK4 := Lib.hid hk4; clear hL4 hs4 hk4 hf4)
        | fail)
      go_loop [15, 16] (fun cv iv => ∃ (k c : Nat), k ≤ s.size ∧ iv = .int .i64 k ∧ cv = .int .i64 c ∧ Hid (c = List.count 10 (s.data.toList.take k) + 1) ∧ c ≤ k + 1) (fun _ iv => s.size - (RowKit.intOf iv).toNat)
      case atStart => exact ⟨0, 1, Nat.zero_le _, rfl, rfl, Lib.hid (by simp), Nat.le_refl _⟩
      case round =>
        obtain ⟨k, c, hk, rfl, rfl, hc, hck⟩ := hrel
        by_cases hlt : k < s.size
        · have hKI : (k : Int) < s.size := by omega
          have hK0 : (0 : Int) ≤ k := by omega
          have hct := count_take hlt
          by_cases hb : s[k] = 10
          · have hbI : ((s[k].toNat : Int) == 10) = true := by rw [hb]; rfl
            have HC2 := Lib.hid (show c + 1 = List.count 10 (s.data.toList.take (k + 1)) + 1 by rw [hct, if_pos hb, hc.out])
            clear hb hct
            go_wp2_with fail
            go_round
            case rel => exact ⟨k + 1, c + 1, by omega, by go_num, by go_num, HC2, by omega⟩
            case measure => simp [RowKit.intOf]; omega
          · have hbI : ((s[k].toNat : Int) == 10) = false := by rw [beq_eq_false_iff_ne]; intro e; exact hb (UInt8.toNat_inj.1 (by have : (10 : UInt8).toNat = 10 := rfl; omega))
            have HC2 := Lib.hid (show c = List.count 10 (s.data.toList.take (k + 1)) + 1 by rw [hct, if_neg hb, hc.out])
            clear hb hct
            go_wp2_with fail
            go_round
            case rel => exact ⟨k + 1, c, by omega, by go_num, rfl, HC2, by omega⟩
            case measure => simp [RowKit.intOf]; omega
        · obtain rfl : k = s.size := by omega
          have hKI : ¬ (s.size : Int) < s.size := by omega
          have hcc : c = List.count 10 s.data.toList + 1 := by have := hc.out; rwa [List.take_of_length_le (by rw [ba_len]; omega)] at this
          obtain rfl : c = N := by rw [hcc, HNN.out]
          clear hc hcc HNN
          have hcI : (c : Int) ≤ 2001 := by omega
          go_wp2_with fail
          go_ret
          exact ⟨by simp, HF4.out⟩
  · rw [if_neg he] at hjn
    obtain ⟨hz0, hl0⟩ := hps.2.2.2 he
    have HRC := Lib.hid (fun (W : World) (h : SV W) => prg_SOf W _ hcz h hjn)
    unfold SReadP at HRA HRB HRC
    simp only at HRA HRB HRC
    have hne : ((er : Int) == 0) = false := by rw [beq_eq_false_iff_ne]; exact he
    have hez : ((za.length : Nat) : Int) = 0 := by rw [hz0]; rfl
    clear hza hzb hjn hcd hs2 ht2 hz0
    go_enter Tryz.func4, Tryz.ntmps4
    go_wp2_with (first
      | ((go_at_call 6); (with_reducible refine HAW.out.mono ?_); rintro e w1 ⟨rfl, hf1⟩; have HF1 := Lib.hid hf1; clear hf1)
      | ((go_at_call 7); (with_reducible refine (HRA.out _ (HV.out.fr HF1.out)).mono ?_); rintro e w2 ⟨A2, c2, L2, rfl, hL2, hs2, hk2, hf2⟩; have HF2 := Lib.hid (HF1.out.call hf2 (fun _ e _ => e)); have HS2 := Lib.hid hs2; have HL2 := Lib.hid hL2; have HK2 := Lib.hid hk2; clear hL2 hs2 hk2 hf2)
      | ((go_at_call 7); (with_reducible refine (HRB.out _ (HV.out.fr HF2.out)).mono ?_); rintro e w3 ⟨A3, c3, L3, rfl, hL3, hs3, hk3, hf3⟩; have HF3 := Lib.hid (HF2.out.call hf3 (fun _ e _ => e)); have HG3 := Lib.hid hf3; have HS3 := Lib.hid hs3; have HL3 := Lib.hid hL3; have HK3 := Lib.hid hk3; clear hL3 hs3 hk3 hf3)
      | ((go_at_call 7); (with_reducible refine (HRC.out _ (HV.out.fr HF3.out)).mono ?_); rintro e w4 ⟨A4, c4, L4, rfl, hL4, hs4, hk4, hf4⟩; have HF4 := Lib.hid (HF3.out.call hf4 (fun _ e _ => e)); have HG4 := Lib.hid hf4; have HS4 := Lib.hid hs4; have HL4 := Lib.hid hL4; have HK4 := Lib.hid hk4; clear hL4 hs4 hk4 hf4)
      | fail)
    go_ret
    exact ⟨by simp, HF4.out⟩
end Go.Proofs.YtidhlfcmjpnhgaaGreatDoor
