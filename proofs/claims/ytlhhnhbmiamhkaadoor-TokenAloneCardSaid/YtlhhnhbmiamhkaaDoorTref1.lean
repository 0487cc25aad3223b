/- The reference's small walks: blanks, digits' value. -/
import Derived.Test.YtlhhnhbmiamhkaaDoorTread
namespace Go.Proofs.YtlhhnhbmiamhkaaDoor
open Go.RowKit Go.Shelf

theorem ref_Blank (w : World) (c : UInt8) : Calls Tryd.prog 14 #[.int .u8 (c.toNat : Int)] w fun e w' => e = .returned (.bool (blankB c)) ∧ w = w' := by
  by_cases hb : blankB c = true
  · have H := Lib.hid hb
    rw [blank_iff] at hb
    rcases hb with hb | hb | hb
    · have e := u8_eq (n := 32) hb rfl
      clear hb
      go_enter Tryd.func14, Tryd.ntmps14
      go_wp2
      go_ret
      exact ⟨ret1b H.out.symm, rfl⟩
    · have e := u8_eq (n := 9) hb rfl
      clear hb
      go_enter Tryd.func14, Tryd.ntmps14
      go_wp2
      go_ret
      exact ⟨ret1b H.out.symm, rfl⟩
    · have e := u8_eq (n := 10) hb rfl
      clear hb
      go_enter Tryd.func14, Tryd.ntmps14
      go_wp2
      go_ret
      exact ⟨ret1b H.out.symm, rfl⟩
  · have H := Lib.hid (show blankB c = false by simpa using hb)
    rw [blank_iff, not_or, not_or] at hb
    have n1 := u8_ne (n := 32) hb.1 rfl
    have n2 := u8_ne (n := 9) hb.2.1 rfl
    have n3 := u8_ne (n := 10) hb.2.2 rfl
    clear hb
    go_enter Tryd.func14, Tryd.ntmps14
    go_wp2
    go_ret
    exact ⟨ret1b H.out.symm, rfl⟩

theorem ddec_take {l : List UInt8} {k : Nat} (hk : k < l.length) : ddec 0 (l.take (k + 1)) = dstep (ddec 0 (l.take k)) l[k] := by
  rw [List.take_succ_eq_append_getElem hk, ddec_snoc]
theorem ddec_mono {l : List UInt8} (k : Nat) : ddec 0 (l.take k) ≤ ddec 0 l := by
  have h := ddec_ge (l.drop k) (ddec 0 (l.take k))
  have e : ddec (ddec 0 (l.take k)) (l.drop k) = ddec 0 l := by
    unfold ddec
    rw [← List.foldl_append, List.take_append_drop]
  omega
def valOf (o : Option Int) : Value := match o with
  | some v => .tuple #[.int .i64 v, .bool true]
  | none => .tuple #[.int .i64 0, .bool false]

theorem neg_back {a : Int} (h0 : 0 ≤ a) (h1 : a ≤ 9223372036854775808) : wrap64 (wrap64 (-wrap64 (IntKind.u64.wrap (a - 1))) - 1) = -a := by
  rw [IntKind.wrap_u64]
  unfold wrap64
  omega

theorem valB_f_none {n : Nat} (h : 9223372036854775807 < (n : Int)) : valB false n = none := by unfold valB; simp only [Bool.false_eq_true, if_false]; rw [if_neg (by omega)]
theorem valB_t_none {n : Nat} (h : 9223372036854775808 < (n : Int)) : valB true n = none := by unfold valB; simp only [if_true]; rw [if_neg (by omega)]
theorem valB_f_some {n : Nat} {a : Int} (h : a = (n : Int)) (h2 : a ≤ 9223372036854775807) : valB false n = some a := by unfold valB; simp only [Bool.false_eq_true, if_false]; rw [if_pos (by omega), h]
theorem valB_t_some {n : Nat} {a : Int} (h : a = (n : Int)) (h2 : a ≤ 9223372036854775808) : valB true n = some (-a) := by unfold valB; simp only [if_true]; rw [if_pos (by omega), h]
set_option maxRecDepth 100000 in
set_option maxHeartbeats 4000000 in
theorem ref_value (w : World) (s : ByteArray) (b : Bool) (hd : ∀ c ∈ s.data.toList, digB c = true) (hs : s.size ≤ 100000) :
    Calls Tryd.prog 23 #[.string s, .bool b] w fun e w' => e = .returned (valOf (valB b (ddec 0 s.data.toList))) ∧ w = w' := by
  have HD := Lib.hid hd
  clear hd
  cases b
  · go_enter Tryd.func23, Tryd.ntmps23
    go_wp2_with fail
    go_loop [7, 8] (fun n i => ∃ (k : Nat) (a : Int), k ≤ s.size ∧ i = .int .i64 k ∧ n = .int .u64 a ∧ 0 ≤ a ∧ a ≤ 9223372036854775807 ∧ Hid (a = (ddec 0 (s.data.toList.take k) : Nat))) (fun _ i => s.size - (intOf i).toNat)
    case atStart => exact ⟨0, 0, Nat.zero_le _, rfl, rfl, by omega, by omega, Lib.hid rfl⟩
    case round =>
      obtain ⟨k, a, hk, rfl, rfl, ha0, ha1, ha⟩ := hrel
      by_cases hlt : k < s.size
      · have hI : (k : Int) < s.size := by omega
        have hll : k < s.data.toList.length := by rw [ba_len]; exact hlt
        have hc := HD.out s[k] (by rw [← ba_get s k hlt]; exact List.getElem_mem hll)
        simp only [digB, Bool.and_eq_true, decide_eq_true_eq] at hc
        have i1 : (48 : Int) ≤ (s[k].toNat : Int) := by omega
        have i2 : (s[k].toNat : Int) ≤ 57 := by omega
        have HT := Lib.hid (show (ddec 0 (s.data.toList.take (k + 1)) : Int) = a * 10 + ((s[k].toNat : Int) - 48) by
          rw [ddec_take hll, ha.out]
          show ((ddec 0 (s.data.toList.take k) * 10 + (s[k].toNat - 48) : Nat) : Int) = _
          omega)
        have HM := Lib.hid (ddec_mono (l := s.data.toList) (k + 1))
        clear hc
        by_cases hov : (9223372036854775807 - ((s[k].toNat : Int) - 48)) / 10 < a
        · have HR := Lib.hid (show valB false (ddec 0 s.data.toList) = none by
            have h1 := HT.out
            have h2 := HM.out
            have h3 : 9223372036854775807 < a * 10 + ((s[k].toNat : Int) - 48) := by omega
            exact valB_f_none (by omega))
          clear HT HM
          go_wp2_with fail
          go_ret2
          exact ⟨by rw [HR.out]; rfl, rfl⟩
        · have hov' : a ≤ (9223372036854775807 - ((s[k].toNat : Int) - 48)) / 10 := by omega
          have hb1 : a * 10 + ((s[k].toNat : Int) - 48) ≤ 9223372036854775807 := by omega
          clear hov
          go_wp2_with fail
          go_round
          case rel => exact ⟨k + 1, _, by omega, by go_num, rfl, by omega, hb1, Lib.hid HT.out.symm⟩
          case measure => simp [intOf]; omega
      · have hkk : s.data.toList.take k = s.data.toList := List.take_of_length_le (by rw [ba_len]; omega)
        have HE := Lib.hid (show a = (ddec 0 s.data.toList : Nat) by rw [ha.out, hkk])
        have HR := Lib.hid (show valB false (ddec 0 s.data.toList) = some (a) by have := HE.out; exact valB_f_some (by omega) (by omega))
        clear hkk ha
        go_wp2_with fail; go_ret2; exact ⟨by rw [HR.out]; rfl, rfl⟩
  · go_enter Tryd.func23, Tryd.ntmps23
    go_wp2_with fail
    go_loop [7, 8] (fun n i => ∃ (k : Nat) (a : Int), k ≤ s.size ∧ i = .int .i64 k ∧ n = .int .u64 a ∧ 0 ≤ a ∧ a ≤ 9223372036854775808 ∧ Hid (a = (ddec 0 (s.data.toList.take k) : Nat))) (fun _ i => s.size - (intOf i).toNat)
    case atStart => exact ⟨0, 0, Nat.zero_le _, rfl, rfl, by omega, by omega, Lib.hid rfl⟩
    case round =>
      obtain ⟨k, a, hk, rfl, rfl, ha0, ha1, ha⟩ := hrel
      by_cases hlt : k < s.size
      · have hI : (k : Int) < s.size := by omega
        have hll : k < s.data.toList.length := by rw [ba_len]; exact hlt
        have hc := HD.out s[k] (by rw [← ba_get s k hlt]; exact List.getElem_mem hll)
        simp only [digB, Bool.and_eq_true, decide_eq_true_eq] at hc
        have i1 : (48 : Int) ≤ (s[k].toNat : Int) := by omega
        have i2 : (s[k].toNat : Int) ≤ 57 := by omega
        have HT := Lib.hid (show (ddec 0 (s.data.toList.take (k + 1)) : Int) = a * 10 + ((s[k].toNat : Int) - 48) by
          rw [ddec_take hll, ha.out]
          show ((ddec 0 (s.data.toList.take k) * 10 + (s[k].toNat - 48) : Nat) : Int) = _
          omega)
        have HM := Lib.hid (ddec_mono (l := s.data.toList) (k + 1))
        clear hc
        by_cases hov : (9223372036854775808 - ((s[k].toNat : Int) - 48)) / 10 < a
        · have HR := Lib.hid (show valB true (ddec 0 s.data.toList) = none by
            have h1 := HT.out
            have h2 := HM.out
            have h3 : 9223372036854775808 < a * 10 + ((s[k].toNat : Int) - 48) := by omega
            exact valB_t_none (by omega))
          clear HT HM
          go_wp2_with fail
          go_ret2
          exact ⟨by rw [HR.out]; rfl, rfl⟩
        · have hov' : a ≤ (9223372036854775808 - ((s[k].toNat : Int) - 48)) / 10 := by omega
          have hb1 : a * 10 + ((s[k].toNat : Int) - 48) ≤ 9223372036854775808 := by omega
          clear hov
          go_wp2_with fail
          go_round
          case rel => exact ⟨k + 1, _, by omega, by go_num, rfl, by omega, hb1, Lib.hid HT.out.symm⟩
          case measure => simp [intOf]; omega
      · have hkk : s.data.toList.take k = s.data.toList := List.take_of_length_le (by rw [ba_len]; omega)
        have HE := Lib.hid (show a = (ddec 0 s.data.toList : Nat) by rw [ha.out, hkk])
        have HR := Lib.hid (show valB true (ddec 0 s.data.toList) = some (-a) by have := HE.out; exact valB_t_some (by omega) (by omega))
        clear hkk ha
        go_wp2_with fail; go_ret2; exact ⟨by rw [HR.out, neg_back ha0 ha1]; rfl, rfl⟩
end Go.Proofs.YtlhhnhbmiamhkaaDoor
