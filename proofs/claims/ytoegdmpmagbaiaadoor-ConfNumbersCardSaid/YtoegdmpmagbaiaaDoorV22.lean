/- The reference: a word's number. -/
import Derived.Test.YtoegdmpmagbaiaaDoorV3
namespace Go.Proofs.YtoegdmpmagbaiaaDoor
open Go.RowKit

/-- A value, -1 where it is above all moments. -/
def capV (n : Nat) : Int := if n ≤ 9223372036854775807 then (n : Int) else -1
theorem capV_low {n : Nat} (h : n ≤ 9223372036854775807) : capV n = n := by unfold capV; rw [if_pos h]
theorem capV_high {n : Nat} (h : ¬ n ≤ 9223372036854775807) : capV n = -1 := by unfold capV; rw [if_neg h]
theorem take_dec {s : ByteArray} {k : Nat} (h : k < s.size) : ddec 0 (s.data.toList.take (k + 1)) = ddec 0 (s.data.toList.take k) * 10 + (s[k].toNat - 48) := by
  rw [List.take_succ_eq_append_getElem (by rw [ba_len]; exact h), ddec_snoc]
  rfl
set_option maxRecDepth 100000 in
set_option maxHeartbeats 4000000 in
theorem ref_Number (w : World) (s : ByteArray) (hs : s.size ≤ 100000) :
    Calls Tryd.prog 58 #[.string s] w fun e w' => e = .returned (.tuple #[.int .i64 ((numC s.data.toList).getD 0), .bool (numC s.data.toList).isSome]) ∧ w = w' := by
  by_cases h0 : s.size = 0
  · have HR := Lib.hid (show numC s.data.toList = none by
      have : s.data.toList = [] := by rw [← List.length_eq_zero_iff, ba_len, h0]
      unfold numC; rw [if_pos (.inl this)])
    have he : (s.toList == []) = true := by
      rw [ByteArray.toList_eq]
      have : s.data.toList = [] := by rw [← List.length_eq_zero_iff, ba_len, h0]
      rw [this]; rfl
    go_enter Tryd.func58, Tryd.ntmps58
    go_wp2_with fail
    go_ret2
    rw [HR.out]
    exact ⟨rfl, rfl⟩
  · have hpos : (0 : Int) < s.size := by omega
    have hne : s.data.toList ≠ [] := fun e => h0 (by rw [← ba_len, e]; rfl)
    have he : (s.toList == []) = false := by rw [ByteArray.toList_eq, beq_eq_false_iff_ne]; exact hne
    have h00 : 0 < s.size := by omega
    have hhd : s.data.toList.head? = some (s[0]'h00) := by rw [list_cons s (by omega)]; rfl
    by_cases hz : 1 < s.size ∧ s[0]'h00 = 48
    · have HR := Lib.hid (show numC s.data.toList = none by unfold numC; rw [if_pos (.inr (.inr ⟨by rw [ba_len]; exact hz.1, by rw [hhd, hz.2]⟩))])
      have q1 : (1 : Int) < s.size := by omega
      have q2 : (((s[0]'h00).toNat : Int) == 48) = true := by rw [hz.2]; rfl
      clear hz hhd hne
      go_enter Tryd.func58, Tryd.ntmps58
      go_wp2_with fail
      go_ret2
      rw [HR.out]
      exact ⟨rfl, rfl⟩
    · have hnb : ¬ (1 < s.data.toList.length ∧ s.data.toList.head? = some 48) := by
        rw [ba_len, hhd]
        rintro ⟨e1, e2⟩
        exact hz ⟨e1, by injection e2⟩
      have HNE := Lib.hid hne
      have HNB := Lib.hid hnb
      clear hhd hne hnb
      by_cases h1 : 1 < s.size
      · have q1 : (1 : Int) < s.size := by omega
        have q2 : (((s[0]'h00).toNat : Int) == 48) = false := by rw [beq_eq_false_iff_ne]; intro e; exact hz ⟨h1, UInt8.toNat_inj.1 (by rw [show (48 : UInt8).toNat = 48 from rfl]; omega)⟩
        clear hz
        go_enter Tryd.func58, Tryd.ntmps58
        go_wp2_with fail
        go_loop [4, 5] (fun nv iv => ∃ k : Nat, k ≤ s.size ∧ iv = .int .i64 k ∧ nv = .int .i64 (capV (ddec 0 (s.data.toList.take k))) ∧ Hid (Runs digB s 0 k)) (fun _ iv => s.size - (RowKit.intOf iv).toNat)
        case atStart => exact ⟨0, Nat.zero_le _, rfl, rfl, Lib.hid (Runs.start _ _ _)⟩
        case round =>
          obtain ⟨k, hk, rfl, rfl, hr⟩ := hrel
          by_cases hlt : k < s.size
          · have hltI : (k : Int) < s.size := by omega
            have hkI : (0 : Int) ≤ k := by omega
            by_cases hd : digB s[k] = true
            · have d0 : 48 ≤ s[k].toNat ∧ s[k].toNat ≤ 57 := by unfold digB at hd; simpa using hd
              have d1 : ¬ (s[k].toNat : Int) < 48 := by omega
              have d2 : ¬ (57 : Int) < s[k].toNat := by omega
              have HN := Lib.hid (hr.out.next hlt hd)
              have HT := Lib.hid (take_dec hlt)
              have hu8 : IntKind.u8.wrap ((s[k].toNat : Int) - 48) = ((s[k].toNat - 48 : Nat) : Int) := by
                have e : IntKind.u8.wrap ((s[k].toNat : Int) - 48) = ((s[k].toNat : Int) - 48) % 256 := rfl
                rw [e]
                omega
              have hd9 : s[k].toNat - 48 ≤ 9 := by omega
              obtain ⟨dd, HDD⟩ : ∃ dd, Hid (s[k].toNat - 48 = dd) := ⟨_, Lib.hid rfl⟩
              rw [HDD.out] at hu8 hd9 HT
              generalize ddec 0 (s.data.toList.take k) = D at *
              clear hd
              have hm1 : IntKind.i64.wrap (9223372036854775807 - (dd : Int)) = 9223372036854775807 - (dd : Int) := by rw [IntKind.wrap_i64]; omega
              have hdd0 : (0 : Int) ≤ dd := by omega
              have hdd9 : (dd : Int) ≤ 9 := by omega
              obtain ⟨E, hE⟩ : ∃ E : Int, (9223372036854775807 - (dd : Int)).tdiv 10 = E := ⟨_, rfl⟩
              have hEb : E * 10 ≤ 9223372036854775807 - (dd : Int) ∧ 9223372036854775807 - (dd : Int) < E * 10 + 10 := by
                have h1 : (9223372036854775807 - (dd : Int)).tdiv 10 = (9223372036854775807 - (dd : Int)) / 10 := Int.tdiv_eq_ediv_of_nonneg (by omega)
                rw [h1] at hE
                omega
              have hwE : wrap64 E = E := by unfold wrap64; omega
              by_cases hD : D ≤ 9223372036854775807
              · rw [capV_low hD]
                have hD0 : (0 : Int) ≤ D := by omega
                by_cases hov : E < (D : Int)
                · have HC := Lib.hid (show capV (D * 10 + dd) = -1 from capV_high (by omega))
                  clear hD hEb
                  go_wp2_with fail
                  go_round
                  case rel => exact ⟨k + 1, by omega, by go_num, by rw [HT.out, HC.out], HN⟩
                  case measure => simp [RowKit.intOf]; omega
                · have hcap : D * 10 + dd ≤ 9223372036854775807 := by omega
                  have HC := Lib.hid (show capV (D * 10 + dd) = (D : Int) * 10 + dd by rw [capV_low hcap]; omega)
                  have hw1 := Lib.hid (show wrap64 ((D : Int) * 10) = (D : Int) * 10 by unfold wrap64; omega)
                  have hw2 := Lib.hid (show wrap64 ((D : Int) * 10 + dd) = (D : Int) * 10 + dd by unfold wrap64; omega)
                  clear hD hEb hcap
                  go_wp2_with fail
                  go_round
                  case rel => exact ⟨k + 1, by omega, by go_num, by rw [HT.out, HC.out, hw1.out, hw2.out], HN⟩
                  case measure => simp [RowKit.intOf]; omega
              · rw [capV_high hD]
                have HC := Lib.hid (show capV (D * 10 + dd) = -1 from capV_high (by omega))
                clear hD hEb
                go_wp2_with fail
                go_round
                case rel => exact ⟨k + 1, by omega, by go_num, by rw [HT.out, HC.out], HN⟩
                case measure => simp [RowKit.intOf]; omega
            · have HR := Lib.hid (show numC s.data.toList = none from numC_bad (by rw [List.all_eq_false]; exact ⟨s[k], by rw [← ba_get s k hlt]; exact List.getElem_mem _, hd⟩))
              have hx : (s[k].toNat : Int) < 48 ∨ (¬ (s[k].toNat : Int) < 48 ∧ (57 : Int) < s[k].toNat) := by unfold digB at hd; simp at hd; omega
              clear hd
              generalize capV (ddec 0 (s.data.toList.take k)) = D at *
              rcases hx with d1 | ⟨d1, d2⟩
              · go_wp2_with fail
                go_ret2
                rw [HR.out]
                exact ⟨rfl, rfl⟩
              · go_wp2_with fail
                go_ret2
                rw [HR.out]
                exact ⟨rfl, rfl⟩
          · have hltI : ¬ (k : Int) < s.size := by omega
            obtain rfl : k = s.size := by omega
            have HA := Lib.hid (show s.data.toList.all digB = true by
              rw [List.all_eq_true]
              intro c hc
              obtain ⟨i, hi, rfl⟩ := List.mem_iff_getElem.1 hc
              have hi' : i < s.size := by simpa using hi
              exact hr.out i hi' (Nat.zero_le _) hi')
            have HR := Lib.hid (show numC s.data.toList = some (capV (ddec 0 s.data.toList)) from numC_some HNE.out HA.out HNB.out)
            rw [List.take_of_length_le (by rw [ba_len]; exact Nat.le_refl _)]
            go_wp2_with fail
            go_ret2
            rw [HR.out]
            exact ⟨rfl, rfl⟩
      · have q1 : ¬ (1 : Int) < s.size := by omega
        clear hz
        go_enter Tryd.func58, Tryd.ntmps58
        go_wp2_with fail
        go_loop [4, 5] (fun nv iv => ∃ k : Nat, k ≤ s.size ∧ iv = .int .i64 k ∧ nv = .int .i64 (capV (ddec 0 (s.data.toList.take k))) ∧ Hid (Runs digB s 0 k)) (fun _ iv => s.size - (RowKit.intOf iv).toNat)
        case atStart => exact ⟨0, Nat.zero_le _, rfl, rfl, Lib.hid (Runs.start _ _ _)⟩
        case round =>
          obtain ⟨k, hk, rfl, rfl, hr⟩ := hrel
          by_cases hlt : k < s.size
          · have hltI : (k : Int) < s.size := by omega
            have hkI : (0 : Int) ≤ k := by omega
            by_cases hd : digB s[k] = true
            · have d0 : 48 ≤ s[k].toNat ∧ s[k].toNat ≤ 57 := by unfold digB at hd; simpa using hd
              have d1 : ¬ (s[k].toNat : Int) < 48 := by omega
              have d2 : ¬ (57 : Int) < s[k].toNat := by omega
              have HN := Lib.hid (hr.out.next hlt hd)
              have HT := Lib.hid (take_dec hlt)
              have hu8 : IntKind.u8.wrap ((s[k].toNat : Int) - 48) = ((s[k].toNat - 48 : Nat) : Int) := by
                have e : IntKind.u8.wrap ((s[k].toNat : Int) - 48) = ((s[k].toNat : Int) - 48) % 256 := rfl
                rw [e]
                omega
              have hd9 : s[k].toNat - 48 ≤ 9 := by omega
              obtain ⟨dd, HDD⟩ : ∃ dd, Hid (s[k].toNat - 48 = dd) := ⟨_, Lib.hid rfl⟩
              rw [HDD.out] at hu8 hd9 HT
              generalize ddec 0 (s.data.toList.take k) = D at *
              clear hd
              have hm1 : IntKind.i64.wrap (9223372036854775807 - (dd : Int)) = 9223372036854775807 - (dd : Int) := by rw [IntKind.wrap_i64]; omega
              have hdd0 : (0 : Int) ≤ dd := by omega
              have hdd9 : (dd : Int) ≤ 9 := by omega
              obtain ⟨E, hE⟩ : ∃ E : Int, (9223372036854775807 - (dd : Int)).tdiv 10 = E := ⟨_, rfl⟩
              have hEb : E * 10 ≤ 9223372036854775807 - (dd : Int) ∧ 9223372036854775807 - (dd : Int) < E * 10 + 10 := by
                have h1 : (9223372036854775807 - (dd : Int)).tdiv 10 = (9223372036854775807 - (dd : Int)) / 10 := Int.tdiv_eq_ediv_of_nonneg (by omega)
                rw [h1] at hE
                omega
              have hwE : wrap64 E = E := by unfold wrap64; omega
              by_cases hD : D ≤ 9223372036854775807
              · rw [capV_low hD]
                have hD0 : (0 : Int) ≤ D := by omega
                by_cases hov : E < (D : Int)
                · have HC := Lib.hid (show capV (D * 10 + dd) = -1 from capV_high (by omega))
                  clear hD hEb
                  go_wp2_with fail
                  go_round
                  case rel => exact ⟨k + 1, by omega, by go_num, by rw [HT.out, HC.out], HN⟩
                  case measure => simp [RowKit.intOf]; omega
                · have hcap : D * 10 + dd ≤ 9223372036854775807 := by omega
                  have HC := Lib.hid (show capV (D * 10 + dd) = (D : Int) * 10 + dd by rw [capV_low hcap]; omega)
                  have hw1 := Lib.hid (show wrap64 ((D : Int) * 10) = (D : Int) * 10 by unfold wrap64; omega)
                  have hw2 := Lib.hid (show wrap64 ((D : Int) * 10 + dd) = (D : Int) * 10 + dd by unfold wrap64; omega)
                  clear hD hEb hcap
                  go_wp2_with fail
                  go_round
                  case rel => exact ⟨k + 1, by omega, by go_num, by rw [HT.out, HC.out, hw1.out, hw2.out], HN⟩
                  case measure => simp [RowKit.intOf]; omega
              · rw [capV_high hD]
                have HC := Lib.hid (show capV (D * 10 + dd) = -1 from capV_high (by omega))
                clear hD hEb
                go_wp2_with fail
                go_round
                case rel => exact ⟨k + 1, by omega, by go_num, by rw [HT.out, HC.out], HN⟩
                case measure => simp [RowKit.intOf]; omega
            · have HR := Lib.hid (show numC s.data.toList = none from numC_bad (by rw [List.all_eq_false]; exact ⟨s[k], by rw [← ba_get s k hlt]; exact List.getElem_mem _, hd⟩))
              have hx : (s[k].toNat : Int) < 48 ∨ (¬ (s[k].toNat : Int) < 48 ∧ (57 : Int) < s[k].toNat) := by unfold digB at hd; simp at hd; omega
              clear hd
              generalize capV (ddec 0 (s.data.toList.take k)) = D at *
              rcases hx with d1 | ⟨d1, d2⟩
              · go_wp2_with fail
                go_ret2
                rw [HR.out]
                exact ⟨rfl, rfl⟩
              · go_wp2_with fail
                go_ret2
                rw [HR.out]
                exact ⟨rfl, rfl⟩
          · have hltI : ¬ (k : Int) < s.size := by omega
            obtain rfl : k = s.size := by omega
            have HA := Lib.hid (show s.data.toList.all digB = true by
              rw [List.all_eq_true]
              intro c hc
              obtain ⟨i, hi, rfl⟩ := List.mem_iff_getElem.1 hc
              have hi' : i < s.size := by simpa using hi
              exact hr.out i hi' (Nat.zero_le _) hi')
            have HR := Lib.hid (show numC s.data.toList = some (capV (ddec 0 s.data.toList)) from numC_some HNE.out HA.out HNB.out)
            rw [List.take_of_length_le (by rw [ba_len]; exact Nat.le_refl _)]
            go_wp2_with fail
            go_ret2
            rw [HR.out]
            exact ⟨rfl, rfl⟩
end Go.Proofs.YtoegdmpmagbaiaaDoor
