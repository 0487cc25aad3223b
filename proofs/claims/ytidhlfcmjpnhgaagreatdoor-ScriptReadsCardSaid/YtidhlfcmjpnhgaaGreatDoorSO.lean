/- A word's number, a digit by 16: the reference. -/
import Derived.Test.YtidhlfcmjpnhgaaGreatDoorSN
import Derived.Test.YtidhlfcmjpnhgaaGreatDoorSH
namespace Go.Proofs.YtidhlfcmjpnhgaaGreatDoor
open Go.RowKit Go.Lib

theorem ref_half (w : World) (c : UInt8) : Calls Tryz.prog 66 #[.int .u8 (c.toNat : Nat)] w fun e w' => e = .returned (.int .i64 (match halfC c with | some x => (x : Int) | none => -1)) ∧ w = w' := by
  have hc := c.toNat_lt
  by_cases h1 : 48 ≤ c.toNat ∧ c.toNat ≤ 57
  · have HR := Lib.hid (show halfC c = some (c.toNat - 48) by unfold halfC; rw [if_pos h1])
    obtain ⟨a, b⟩ := h1
    rw [HR.out]
    generalize c.toNat = n at *
    have i1 : (48 : Int) ≤ n := by omega
    have i2 : (n : Int) ≤ 57 := by omega
    go_enter Tryz.func66, Tryz.ntmps66
    go_wp2_with fail
    go_ret
    exact ⟨ret1 (vint (by omega)), rfl⟩
  · by_cases h2 : 97 ≤ c.toNat ∧ c.toNat ≤ 102
    · have HR := Lib.hid (show halfC c = some (c.toNat - 87) by unfold halfC; rw [if_neg h1, if_pos h2])
      obtain ⟨a, b⟩ := h2
      rw [HR.out]
      generalize c.toNat = n at *
      have i1 : ¬ (n : Int) ≤ 57 := by omega
      have i2 : (97 : Int) ≤ n := by omega
      have i3 : (n : Int) ≤ 102 := by omega
      go_enter Tryz.func66, Tryz.ntmps66
      go_wp2_with fail
      go_ret
      exact ⟨ret1 (vint (by omega)), rfl⟩
    · have HR := Lib.hid (show halfC c = none by unfold halfC; rw [if_neg h1, if_neg h2])
      rw [HR.out]
      generalize c.toNat = n at *
      have hx : ((n : Int) < 48) ∨ (¬ (n : Int) < 48 ∧ (57 : Int) < n ∧ (n : Int) < 97) ∨ (¬ (n : Int) < 48 ∧ (102 : Int) < n) := by omega
      rcases hx with i1 | ⟨i1, i2, i3⟩ | ⟨i1, i2⟩
      all_goals
        go_enter Tryz.func66, Tryz.ntmps66
        go_wp2_with fail
        go_ret
        exact ⟨rfl, rfl⟩
theorem ref_most (w : World) (u : Nat) : Calls Tryz.prog 43 #[.int .i64 u] w fun e w' => e = .returned (.int .u64 (mostN u : Nat)) ∧ w = w' := by
  by_cases h1 : u = 1
  · subst h1
    go_enter Tryz.func43, Tryz.ntmps43
    go_wp2_with fail
    go_ret
    exact ⟨rfl, rfl⟩
  · by_cases h2 : u = 2
    · subst h2
      go_enter Tryz.func43, Tryz.ntmps43
      go_wp2_with fail
      go_ret
      exact ⟨rfl, rfl⟩
    · have e1 : ((u : Int) == 1) = false := by rw [beq_eq_false_iff_ne]; omega
      have e2 : ((u : Int) == 2) = false := by rw [beq_eq_false_iff_ne]; omega
      have HR := Lib.hid (show mostN u = 9223372036854775807 by unfold mostN; rw [if_neg h1, if_neg h2])
      rw [HR.out]
      clear h1 h2
      go_enter Tryz.func43, Tryz.ntmps43
      go_wp2_with fail
      go_ret
      exact ⟨rfl, rfl⟩
/-- What a number's loop holds. -/
structure NuS (s : ByteArray) (M k n : Nat) (f : Bool) : Prop where
  run : Runs digB s 0 k
  fit : f = decide (ddec 0 (s.data.toList.take k) ≤ M)
  val : f = true → n = ddec 0 (s.data.toList.take k)
  lt : n ≤ M
def NumR (M : Nat) (o : Option Nat) (e : Ending) : Prop := match o with
  | none => e = .returned (.tuple #[.int .u64 0, .bool false, .bool false])
  | some v => ∃ n : Nat, (v ≤ M → n = v) ∧ n ≤ M ∧ e = .returned (.tuple #[.int .u64 n, .bool true, .bool (decide (v ≤ M))])
theorem ddec_take {s : ByteArray} {k : Nat} (h : k < s.size) : ddec 0 (s.data.toList.take (k + 1)) = ddec 0 (s.data.toList.take k) * 10 + (s[k].toNat - 48) := by
  rw [ba_take h]
  simp [ddec, dstep]
set_option maxRecDepth 100000 in
set_option maxHeartbeats 4000000 in
theorem ref_number (w : World) (s : ByteArray) (M : Nat) (hs : s.size ≤ 100000) (hM : M < 18446744073709551616) :
    Calls Tryz.prog 42 #[.string s, .int .u64 M] w fun e w' => NumR M (natC s.data.toList) e ∧ w = w' := by
  by_cases h0 : s.size = 0
  · have hn : s.data.toList = [] := by rw [← List.length_eq_zero_iff, ba_len, h0]
    have HR := Lib.hid (show natC s.data.toList = none by unfold natC; rw [if_pos (.inl hn)])
    have he : (s.toList == []) = true := by rw [ByteArray.toList_eq, hn]; rfl
    go_enter Tryz.func42, Tryz.ntmps42
    go_wp2_with fail
    go_ret3
    rw [HR.out]
    exact ⟨rfl, rfl⟩
  · have hpos : (0 : Int) < s.size := by omega
    have hne : s.data.toList ≠ [] := fun e => h0 (by rw [← ba_len, e]; rfl)
    have he : (s.toList == []) = false := by rw [ByteArray.toList_eq, beq_eq_false_iff_ne]; exact hne
    have hhd : s.data.toList.head? = some s[0] := by rw [list_cons s (by omega)]; rfl
    have HNE := Lib.hid hne
    by_cases h1 : s.size = 1
    · have q : ¬ (1 : Int) < s.size := by omega
      have HNB := Lib.hid (show ¬ (1 < s.data.toList.length ∧ s.data.toList.head? = some 48) by rw [ba_len]; omega)
      clear hhd hne
      go_enter Tryz.func42, Tryz.ntmps42
      go_wp2_with fail
      go_loop [7, 8, 9] (fun nv fv iv => ∃ (k n : Nat) (f : Bool), k ≤ s.size ∧ nv = .int .u64 n ∧ fv = .bool f ∧ iv = .int .i64 k ∧ Hid (NuS s M k n f)) (fun _ _ iv => s.size - (intOf iv).toNat)
      case atStart => exact ⟨0, 0, true, Nat.zero_le _, rfl, rfl, rfl, Lib.hid ⟨Runs.start _ _ _, by simp [ddec], fun _ => by simp [ddec], Nat.zero_le _⟩⟩
      case round =>
        obtain ⟨k, n, f, hk, rfl, rfl, rfl, hr⟩ := hrel
        by_cases hlt : k < s.size
        · have hltI : (k : Int) < s.size := by omega
          by_cases hd : digB s[k] = true
          · have hd2 : 48 ≤ s[k].toNat ∧ s[k].toNat ≤ 57 := by unfold digB at hd; simp at hd; omega
            have d1 : ¬ (s[k].toNat : Int) < 48 := by omega
            have d2 : ¬ (57 : Int) < s[k].toNat := by omega
            have hn := hr.out.lt
            have HD := Lib.hid hd
            have HK := Lib.hid (ddec_take hlt)
            clear hd
            have hrun := Lib.hid (hr.out.run.next hlt HD.out)
            cases f
            · have hNF := Lib.hid (show NuS s M (k + 1) n false from ⟨hrun.out, by have := hr.out.fit; have h2 := HK.out; simp at this; rw [h2]; simp; omega, fun e => (by cases e), hn⟩)
              go_wp2_with fail
              go_round
              case rel => exact ⟨k + 1, n, false, by omega, rfl, rfl, by go_num, hNF⟩
              case measure => simp [intOf]; omega
            · have hv := hr.out.val rfl
              by_cases c1 : M < s[k].toNat - 48
              · have i1 : (M : Int) < (s[k].toNat : Int) - 48 := by omega
                have hNF := Lib.hid (show NuS s M (k + 1) n false from ⟨hrun.out, by have h2 := HK.out; rw [h2]; simp; omega, fun e => (by cases e), hn⟩)
                go_wp2_with fail
                go_round
                case rel => exact ⟨k + 1, n, false, by omega, rfl, rfl, by go_num, hNF⟩
                case measure => simp [intOf]; omega
              · have i1 : ¬ (M : Int) < (s[k].toNat : Int) - 48 := by omega
                by_cases c2 : (M - (s[k].toNat - 48)) / 10 < n
                · have i2 : ((M : Int) - ((s[k].toNat : Int) - 48)) / 10 < n := by omega
                  have hNF := Lib.hid (show NuS s M (k + 1) n false from ⟨hrun.out, by have h2 := HK.out; rw [h2]; simp; omega, fun e => (by cases e), hn⟩)
                  go_wp2_with fail
                  go_round
                  case rel => exact ⟨k + 1, n, false, by omega, rfl, rfl, by go_num, hNF⟩
                  case measure => simp [intOf]; omega
                · have i2 : ¬ ((M : Int) - ((s[k].toNat : Int) - 48)) / 10 < n := by omega
                  have i3 : (n : Int) * 10 + ((s[k].toNat : Int) - 48) ≤ M := by omega
                  have hNF := Lib.hid (show NuS s M (k + 1) (n * 10 + (s[k].toNat - 48)) true from ⟨hrun.out, by have h2 := HK.out; rw [h2, ← hv]; simp; omega, fun _ => by rw [HK.out, ← hv], by omega⟩)
                  clear hv
                  go_wp2_with fail
                  go_round
                  case rel => exact ⟨k + 1, _, true, by omega, vint (by omega), rfl, by go_num, hNF⟩
                  case measure => simp [intOf]; omega
          · have HR := Lib.hid (show natC s.data.toList = none from natC_bad (by rw [List.all_eq_false]; exact ⟨s[k], by rw [← ba_get s k hlt]; exact List.getElem_mem _, hd⟩))
            have hx : (s[k].toNat : Int) < 48 ∨ (¬ (s[k].toNat : Int) < 48 ∧ (57 : Int) < s[k].toNat) := by unfold digB at hd; simp at hd; omega
            clear hd
            rcases hx with d1 | ⟨d1, d2⟩
            · go_wp2_with fail
              go_ret3
              rw [HR.out]
              exact ⟨rfl, rfl⟩
            · go_wp2_with fail
              go_ret3
              rw [HR.out]
              exact ⟨rfl, rfl⟩
        · obtain rfl : k = s.size := by omega
          have hltI : ¬ (s.size : Int) < s.size := by omega
          have HA := Lib.hid (show s.data.toList.all digB = true by
            rw [List.all_eq_true]
            intro c hc
            obtain ⟨i, hi, rfl⟩ := List.mem_iff_getElem.1 hc
            have hi' : i < s.size := by simpa using hi
            exact hr.out.run i hi' (Nat.zero_le _) hi')
          have HR := Lib.hid (natC_some HNE.out HA.out HNB.out)
          have ht : s.data.toList.take s.size = s.data.toList := List.take_of_length_le (by simp)
          have hfit := hr.out.fit
          have hval := hr.out.val
          have hnl := hr.out.lt
          rw [ht] at hfit hval
          have HFT := Lib.hid hfit
          have HVL := Lib.hid hval
          clear hfit hval
          go_wp2_with fail
          go_ret3
          rw [HR.out]
          exact ⟨⟨n, fun hv => HVL.out (by rw [HFT.out]; simpa using hv), hnl, by rw [HFT.out]; rfl⟩, rfl⟩
    · have q : (1 : Int) < s.size := by omega
      by_cases h2 : s[0] = 48
      · have HR := Lib.hid (show natC s.data.toList = none by unfold natC; rw [if_pos (.inr (.inr ⟨by rw [ba_len]; omega, by rw [hhd, h2]⟩))])
        have q2 : (s[0].toNat : Int) = 48 := by rw [h2]; rfl
        clear h2 hhd hne
        go_enter Tryz.func42, Tryz.ntmps42
        go_wp2_with fail
        go_ret3
        rw [HR.out]
        exact ⟨rfl, rfl⟩
      · have HNB := Lib.hid (show ¬ (1 < s.data.toList.length ∧ s.data.toList.head? = some 48) by rw [hhd]; simpa using fun _ => h2)
        have q2 : ((s[0].toNat : Int) == 48) = false := by rw [beq_eq_false_iff_ne]; intro e; exact h2 (UInt8.toNat_inj.1 (by rw [show (48 : UInt8).toNat = 48 from rfl]; omega))
        clear h2 hhd hne
        go_enter Tryz.func42, Tryz.ntmps42
        go_wp2_with fail
        go_loop [7, 8, 9] (fun nv fv iv => ∃ (k n : Nat) (f : Bool), k ≤ s.size ∧ nv = .int .u64 n ∧ fv = .bool f ∧ iv = .int .i64 k ∧ Hid (NuS s M k n f)) (fun _ _ iv => s.size - (intOf iv).toNat)
        case atStart => exact ⟨0, 0, true, Nat.zero_le _, rfl, rfl, rfl, Lib.hid ⟨Runs.start _ _ _, by simp [ddec], fun _ => by simp [ddec], Nat.zero_le _⟩⟩
        case round =>
          obtain ⟨k, n, f, hk, rfl, rfl, rfl, hr⟩ := hrel
          by_cases hlt : k < s.size
          · have hltI : (k : Int) < s.size := by omega
            by_cases hd : digB s[k] = true
            · have hd2 : 48 ≤ s[k].toNat ∧ s[k].toNat ≤ 57 := by unfold digB at hd; simp at hd; omega
              have d1 : ¬ (s[k].toNat : Int) < 48 := by omega
              have d2 : ¬ (57 : Int) < s[k].toNat := by omega
              have hn := hr.out.lt
              have HD := Lib.hid hd
              have HK := Lib.hid (ddec_take hlt)
              clear hd
              have hrun := Lib.hid (hr.out.run.next hlt HD.out)
              cases f
              · have hNF := Lib.hid (show NuS s M (k + 1) n false from ⟨hrun.out, by have := hr.out.fit; have h2 := HK.out; simp at this; rw [h2]; simp; omega, fun e => (by cases e), hn⟩)
                go_wp2_with fail
                go_round
                case rel => exact ⟨k + 1, n, false, by omega, rfl, rfl, by go_num, hNF⟩
                case measure => simp [intOf]; omega
              · have hv := hr.out.val rfl
                by_cases c1 : M < s[k].toNat - 48
                · have i1 : (M : Int) < (s[k].toNat : Int) - 48 := by omega
                  have hNF := Lib.hid (show NuS s M (k + 1) n false from ⟨hrun.out, by have h2 := HK.out; rw [h2]; simp; omega, fun e => (by cases e), hn⟩)
                  go_wp2_with fail
                  go_round
                  case rel => exact ⟨k + 1, n, false, by omega, rfl, rfl, by go_num, hNF⟩
                  case measure => simp [intOf]; omega
                · have i1 : ¬ (M : Int) < (s[k].toNat : Int) - 48 := by omega
                  by_cases c2 : (M - (s[k].toNat - 48)) / 10 < n
                  · have i2 : ((M : Int) - ((s[k].toNat : Int) - 48)) / 10 < n := by omega
                    have hNF := Lib.hid (show NuS s M (k + 1) n false from ⟨hrun.out, by have h2 := HK.out; rw [h2]; simp; omega, fun e => (by cases e), hn⟩)
                    go_wp2_with fail
                    go_round
                    case rel => exact ⟨k + 1, n, false, by omega, rfl, rfl, by go_num, hNF⟩
                    case measure => simp [intOf]; omega
                  · have i2 : ¬ ((M : Int) - ((s[k].toNat : Int) - 48)) / 10 < n := by omega
                    have i3 : (n : Int) * 10 + ((s[k].toNat : Int) - 48) ≤ M := by omega
                    have hNF := Lib.hid (show NuS s M (k + 1) (n * 10 + (s[k].toNat - 48)) true from ⟨hrun.out, by have h2 := HK.out; rw [h2, ← hv]; simp; omega, fun _ => by rw [HK.out, ← hv], by omega⟩)
                    clear hv
                    go_wp2_with fail
                    go_round
                    case rel => exact ⟨k + 1, _, true, by omega, vint (by omega), rfl, by go_num, hNF⟩
                    case measure => simp [intOf]; omega
            · have HR := Lib.hid (show natC s.data.toList = none from natC_bad (by rw [List.all_eq_false]; exact ⟨s[k], by rw [← ba_get s k hlt]; exact List.getElem_mem _, hd⟩))
              have hx : (s[k].toNat : Int) < 48 ∨ (¬ (s[k].toNat : Int) < 48 ∧ (57 : Int) < s[k].toNat) := by unfold digB at hd; simp at hd; omega
              clear hd
              rcases hx with d1 | ⟨d1, d2⟩
              · go_wp2_with fail
                go_ret3
                rw [HR.out]
                exact ⟨rfl, rfl⟩
              · go_wp2_with fail
                go_ret3
                rw [HR.out]
                exact ⟨rfl, rfl⟩
          · obtain rfl : k = s.size := by omega
            have hltI : ¬ (s.size : Int) < s.size := by omega
            have HA := Lib.hid (show s.data.toList.all digB = true by
              rw [List.all_eq_true]
              intro c hc
              obtain ⟨i, hi, rfl⟩ := List.mem_iff_getElem.1 hc
              have hi' : i < s.size := by simpa using hi
              exact hr.out.run i hi' (Nat.zero_le _) hi')
            have HR := Lib.hid (natC_some HNE.out HA.out HNB.out)
            have ht : s.data.toList.take s.size = s.data.toList := List.take_of_length_le (by simp)
            have hfit := hr.out.fit
            have hval := hr.out.val
            have hnl := hr.out.lt
            rw [ht] at hfit hval
            have HFT := Lib.hid hfit
            have HVL := Lib.hid hval
            clear hfit hval
            go_wp2_with fail
            go_ret3
            rw [HR.out]
            exact ⟨⟨n, fun hv => HVL.out (by rw [HFT.out]; simpa using hv), hnl, by rw [HFT.out]; rfl⟩, rfl⟩
end Go.Proofs.YtidhlfcmjpnhgaaGreatDoor

/- Pairs of digits by 16: the reference. -/
namespace Go.Proofs.YtidhlfcmjpnhgaaGreatDoor
open Go.RowKit Go.Lib

theorem byte_str (v : Nat) (o : List UInt8) (_hv : v < 256) : (⟨o.toArray⟩ : ByteArray) ++ strOfNums [(v : Int)] = ⟨(o ++ [UInt8.ofNat v]).toArray⟩ := by
  apply ByteArray.ext
  simp [strOfNums]
set_option maxRecDepth 100000 in
set_option maxHeartbeats 4000000 in
theorem ref_pairs (w : World) (s : ByteArray) (hs : s.size ≤ 100000) (h0 : s.size ≠ 0) : Calls Tryz.prog 44 #[.string s] w fun e w' => e = .returned (.tuple #[.string ⟨((pairsC s.data.toList).getD []).toArray⟩, .bool (pairsC s.data.toList).isSome]) ∧ Fr Nob w w' := by
  have hcv := fun (W : World) (x : Int) => run_convert_bytes_arg (P := Tryz.prog) (W.alloc (.cells #[.int .u8 x] 5)) 32 5 Tryz.underlying32 Tryz.underlying5 W.heap.size 0 1 1 [x] rfl (fun i hi => by
    have : i = 0 := by omega
    subst this
    exact (Blk.new W _ _).cell 0) 9 Tryz.underlying9
  have hss : ∀ x : Int, (strOfNums [x]).size = 1 := fun _ => rfl
  have hlen : s.data.toList.length = s.size := by simp
  have hz : ((s.size : Int) == 0) = false := by rw [beq_eq_false_iff_ne]; omega
  by_cases hm : s.data.toList = [45]
  · have HR := Lib.hid (show pairsC s.data.toList = some [] by unfold pairsC; rw [if_pos hm])
    have he : (s.toList == [45]) = true := by rw [ByteArray.toList_eq, hm]; rfl
    go_enter Tryz.func44, Tryz.ntmps44
    go_wp2_with fail
    go_ret2
    rw [HR.out]
    exact ⟨rfl, Fr.refl Nob w⟩
  · have he : (s.toList == [45]) = false := by rw [ByteArray.toList_eq, beq_eq_false_iff_ne]; exact hm
    have HG := Lib.hid (show pairsC s.data.toList = pairsG s.data.toList by unfold pairsC; rw [if_neg hm])
    clear hm
    by_cases hev : s.size % 2 = 1
    · have HR := Lib.hid (show pairsC s.data.toList = none by rw [HG.out]; exact pairs_even _ _ (Nat.le_refl _) (by omega))
      have h1 : (s.size : Int) % 2 = 1 := by omega
      have h2 : ((s.size : Int).tmod 2) = 1 := by rw [Int.tmod_eq_emod_of_nonneg (by omega)]; exact h1
      go_enter Tryz.func44, Tryz.ntmps44
      go_wp2_with fail
      go_ret2
      rw [HR.out]
      exact ⟨rfl, Fr.refl Nob w⟩
    · have h1 : (s.size : Int) % 2 = 0 := by omega
      have h2 : ((s.size : Int).tmod 2) = 0 := by rw [Int.tmod_eq_emod_of_nonneg (by omega)]; exact h1
      go_enter Tryz.func44, Tryz.ntmps44
      go_wp2_with fail
      go_loopw [4, 5] (fun sv iv wr => ∃ (k m : Nat) (o : List UInt8), m = 2 * k ∧ m ≤ s.size ∧ iv = .int .i64 m ∧ sv = .string ⟨o.toArray⟩ ∧ o.length = k ∧ Hid (pairsC s.data.toList = (pairsG (s.data.toList.drop (2 * k))).map (o ++ ·)) ∧ Hid (Fr Nob w wr)) (fun _ iv _ => s.size - (RowKit.intOf iv).toNat)
      case atStart => exact ⟨0, 0, [], rfl, Nat.zero_le _, rfl, rfl, rfl, Lib.hid (by rw [HG.out]; simp), Lib.hid (Fr.refl _ _)⟩
      case round =>
        obtain ⟨k, m, o, hmk, hk, rfl, rfl, hol, HQ, hfr⟩ := hrel
        by_cases hlt : m < s.size
        · have hlt1 : m + 1 < s.size := by omega
          have hI : (m : Int) < s.size := by omega
          have hI0 : 0 ≤ (m : Int) := by omega
          have hI1 : (m : Int) + 1 < s.size := by omega
          have HS := pairs_step (l := s.data.toList) (k := k) (by omega)
          have g0 : s.data.toList[2 * k]'(by omega) = s[m] := by subst hmk; exact ba_get s _ hlt
          have g1 : s.data.toList[2 * k + 1]'(by omega) = s[m + 1] := by subst hmk; exact ba_get s _ hlt1
          rw [g0, g1] at HS
          clear g0 g1
          have HNA := Lib.hid (fun W => ref_half W s[m])
          have HNB := Lib.hid (fun W => ref_half W s[m + 1])
          have hlo : k ≤ 100000 := by omega
          have zo := ba_sz o
          have HMK := Lib.hid hmk
          clear hmk
          cases hA : halfC s[m] with
          | none =>
            rw [hA] at HS HNA
            obtain ⟨v, HNB⟩ : ∃ v : Int, Hid (∀ W, Calls Tryz.prog 66 #[.int .u8 (s[m + 1].toNat : Nat)] W fun e w' => e = .returned (.int .i64 v) ∧ W = w') := ⟨_, HNB⟩
            have HR := Lib.hid (show pairsC s.data.toList = none by rw [HQ.out, HS]; rfl)
            clear HS
            go_wp2_with (first | ((go_at_call 66); (with_reducible refine (HNA.out _).mono ?_); rintro e w2 ⟨rfl, rfl⟩) | ((go_at_call 66); (with_reducible refine (HNB.out _).mono ?_); rintro e w2 ⟨rfl, rfl⟩) | fail)
            go_ret2
            rw [HR.out]
            exact ⟨rfl, hfr.out⟩
          | some x =>
            have hx := half_lt hA
            cases hB : halfC s[m + 1] with
            | none =>
              rw [hA, hB] at HS
              rw [hA] at HNA
              rw [hB] at HNB
              have HR := Lib.hid (show pairsC s.data.toList = none by rw [HQ.out, HS]; rfl)
              clear HS
              go_wp2_with (first | ((go_at_call 66); (with_reducible refine (HNA.out _).mono ?_); rintro e w2 ⟨rfl, rfl⟩) | ((go_at_call 66); (with_reducible refine (HNB.out _).mono ?_); rintro e w2 ⟨rfl, rfl⟩) | fail)
              go_ret2
              rw [HR.out]
              exact ⟨rfl, hfr.out⟩
            | some y =>
              have hy := half_lt hB
              rw [hA, hB] at HS
              rw [hA] at HNA
              rw [hB] at HNB
              have HR := Lib.hid (show pairsC s.data.toList = (pairsG (s.data.toList.drop (2 * (k + 1)))).map ((o ++ [UInt8.ofNat (x * 16 + y)]) ++ ·) by
                rw [HQ.out, HS]
                simp only [Option.map_map]
                congr 1
                funext z
                simp)
              have HBS := Lib.hid (byte_str (x * 16 + y) o (by omega))
              rw [show ((x * 16 + y : Nat) : Int) = (x : Int) * 16 + y by omega] at HBS
              clear HS HQ hA hB
              have hxI : (x : Int) < 16 := by omega
              have hyI : (y : Int) < 16 := by omega
              go_wp2_with (first
                | ((go_at_call 66); (with_reducible refine (HNA.out _).mono ?_); rintro e w2 ⟨rfl, rfl⟩)
                | ((go_at_call 66); (with_reducible refine (HNB.out _).mono ?_); rintro e w2 ⟨rfl, rfl⟩)
                | fail)
              rw [HBS.out]
              have hm2 := HMK.out
              exact ⟨⟨k + 1, m + 2, _, by omega, by omega, by go_num, rfl, by simp [hol], HR, Lib.hid (hfr.out.alloc _)⟩, by simp [RowKit.intOf]; omega⟩
        · obtain rfl : m = s.size := by omega
          have hI : ¬ (s.size : Int) < s.size := by omega
          have HR := Lib.hid (show pairsC s.data.toList = some o by
            rw [HQ.out, List.drop_of_length_le (by omega)]
            simp [pairsG])
          go_wp2_with fail
          go_ret2
          rw [HR.out]
          exact ⟨rfl, hfr.out⟩
end Go.Proofs.YtidhlfcmjpnhgaaGreatDoor
