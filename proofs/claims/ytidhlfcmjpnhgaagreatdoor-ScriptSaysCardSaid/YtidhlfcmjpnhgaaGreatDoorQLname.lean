/- What a name is: the program's and the reference's. -/
import Derived.Test.YtidhlfcmjpnhgaaGreatDoorSA
namespace Go.Proofs.YtidhlfcmjpnhgaaGreatDoor
open Go.RowKit

def nmB (i c : Nat) : Bool := (decide (97 ≤ c) && decide (c ≤ 122)) || (!(i == 0) && ((decide (48 ≤ c) && decide (c ≤ 57)) || c == 95))
def byteAt (s : ByteArray) (i : Nat) : Nat := (s.data.toList.getD i 0).toNat
def nmOk (s : ByteArray) : Bool :=
  decide (1 ≤ s.size) && decide (s.size ≤ 12) && !(s.toList == [116, 114, 117, 101]) && !(s.toList == [102, 97, 108, 115, 101]) && (List.range s.size).all fun i => nmB i (byteAt s i)
theorem byteAt_get (s : ByteArray) (i : Nat) (h : i < s.size) : byteAt s i = s[i].toNat := by
  have h' : i < s.data.toList.length := by simpa using h
  simp only [byteAt, List.getD_eq_getElem?_getD, List.getElem?_eq_getElem h', Option.getD_some]
  rfl
theorem nmB_iff (i c : Nat) : nmB i c = true ↔ (97 ≤ c ∧ c ≤ 122) ∨ (i ≠ 0 ∧ ((48 ≤ c ∧ c ≤ 57) ∨ c = 95)) := by
  unfold nmB; simp
theorem nm_false_at {s : ByteArray} {k : Nat} (hk : k < s.size) (h : ¬ ((97 ≤ s[k].toNat ∧ s[k].toNat ≤ 122) ∨ (k ≠ 0 ∧ ((48 ≤ s[k].toNat ∧ s[k].toNat ≤ 57) ∨ s[k].toNat = 95)))) : nmOk s = false := by
  rw [← byteAt_get s k hk, ← nmB_iff] at h
  unfold nmOk
  rw [Bool.and_eq_false_iff]
  right
  rw [List.all_eq_false]
  exact ⟨k, by simpa using hk, h⟩
theorem size_toList (s : ByteArray) : s.toList.length = s.size := by rw [ByteArray.toList_eq]; simp
theorem notEmpty {s : ByteArray} (h : 1 ≤ s.size) : s.toList.isEmpty = false := by
  rw [← size_toList] at h
  cases hs : s.toList with
  | nil => rw [hs] at h; simp at h
  | cons => rfl
theorem nm_false_len {s : ByteArray} (h : s.size < 1 ∨ 12 < s.size) : nmOk s = false := by
  unfold nmOk
  rcases h with h | h
  · rw [decide_eq_false (p := 1 ≤ s.size) (by omega)]; rfl
  · rw [decide_eq_false (p := s.size ≤ 12) (by omega)]; simp
theorem nm_false_true {s : ByteArray} (h : s.toList = [116, 114, 117, 101]) : nmOk s = false := by unfold nmOk; rw [h]; simp
theorem nm_false_false {s : ByteArray} (h : s.toList = [102, 97, 108, 115, 101]) : nmOk s = false := by unfold nmOk; rw [h]; simp
theorem nm_true {s : ByteArray} (h1 : 1 ≤ s.size) (h12 : s.size ≤ 12) (ht : ¬ s.toList = [116, 114, 117, 101]) (hf : ¬ s.toList = [102, 97, 108, 115, 101]) (h : ∀ k, k < s.size → nmB k (byteAt s k) = true) : nmOk s = true := by
  unfold nmOk
  rw [Bool.and_eq_true]
  exact ⟨by simp [h1, h12, ht, hf], by rw [List.all_eq_true]; intro i hi; exact h i (by simpa using hi)⟩

theorem nm_step {s : ByteArray} {k : Nat} (h : ∀ j, j < k → nmB j (byteAt s j) = true) (hk : nmB k (byteAt s k) = true) : ∀ j, j < k + 1 → nmB j (byteAt s j) = true := by
  intro j hj
  rcases Nat.lt_succ_iff_lt_or_eq.1 hj with h' | h'
  · exact h j h'
  · subst h'; exact hk

theorem nm_one {s : ByteArray} {k : Nat} (hk : k < s.size) (h : (97 ≤ s[k].toNat ∧ s[k].toNat ≤ 122) ∨ (k ≠ 0 ∧ ((48 ≤ s[k].toNat ∧ s[k].toNat ≤ 57) ∨ s[k].toNat = 95))) : nmB k (byteAt s k) = true := by
  rw [byteAt_get s k hk]; exact (nmB_iff k _).2 h
set_option maxHeartbeats 1000000 in
theorem lab_Name (w : World) (s : ByteArray) (hs : s.size ≤ 9223372036854775807) :
    Calls Tryz.prog 47 #[.string s] w fun e w' => e = .returned (.bool (nmOk s)) ∧ w = w' := by
  by_cases hlen : s.size < 1 ∨ 12 < s.size
  · have H := Lib.hid (nm_false_len hlen)
    go_enter Tryz.func47, Tryz.ntmps47
    rcases hlen with h | h
    · have h' : (s.size : Int) < 1 := by omega
      have h0 : s.toList = [] := List.eq_nil_of_length_eq_zero (by rw [size_toList]; omega)
      go_wp2
      go_ret
      exact ⟨ret1b H.out.symm, rfl⟩
    · have h' : (12 : Int) < s.size := by omega
      have h0 : s.toList.isEmpty = false := notEmpty (by omega)
      have h1 : ¬ (s.size : Int) < 1 := by omega
      go_wp2
      all_goals go_ret
      all_goals exact ⟨ret1b H.out.symm, rfl⟩
  · have h1 : 1 ≤ s.size := by omega
    have h12 : s.size ≤ 12 := by omega
    by_cases ht : s.toList = [116, 114, 117, 101]
    · have H := Lib.hid (nm_false_true ht)
      go_enter Tryz.func47, Tryz.ntmps47
      go_wp2
      all_goals go_ret
      all_goals exact ⟨ret1b H.out.symm, rfl⟩
    · by_cases hf : s.toList = [102, 97, 108, 115, 101]
      · have H := Lib.hid (nm_false_false hf)
        go_enter Tryz.func47, Tryz.ntmps47
        go_wp2
        all_goals go_ret
        all_goals exact ⟨ret1b H.out.symm, rfl⟩
      · have ht' : (s.toList == [116, 114, 117, 101]) = false := by simpa using ht
        have hf' : (s.toList == [102, 97, 108, 115, 101]) = false := by simpa using hf
        replace ht := Lib.hid ht
        replace hf := Lib.hid hf
        have hI1 : ¬ (s.size : Int) < 1 := by omega
        have hI12 : ¬ (12 : Int) < s.size := by omega
        have hI0 : s.toList.isEmpty = false := notEmpty h1
        clear hlen
        go_enter Tryz.func47, Tryz.ntmps47
        go_wp2
        · go_loop [23] (fun i => ∃ k : Nat, k ≤ s.size ∧ Hid (∀ j, j < k → nmB j (byteAt s j) = true) ∧ i = .int .i64 k) (fun i => s.size - (intOf i).toNat)
          case atStart => exact ⟨0, by omega, Lib.hid (fun j hj => absurd hj (by omega)), rfl⟩
          case round =>
            obtain ⟨k, hk, hall, rfl⟩ := hrel
            by_cases hlt : k < s.size
            · by_cases ha : 97 ≤ s[k].toNat ∧ s[k].toNat ≤ 122
              · obtain ⟨ha1, ha2⟩ := ha
                have HB := Lib.hid ((nmB_iff k _).2 (.inl ⟨ha1, ha2⟩))
                rw [← byteAt_get s k hlt] at HB
                have HA1 : (97 : Int) ≤ s[k].toNat := by omega
                have HA2 : ((s[k].toNat : Nat) : Int) ≤ 122 := by omega
                clear ha1 ha2
                go_wp2
                go_round
                case rel => exact ⟨k + 1, by omega, Lib.hid (nm_step hall.out HB.out), by go_num⟩
                case measure => simp [intOf]; omega
              · by_cases hb : k ≠ 0 ∧ ((48 ≤ s[k].toNat ∧ s[k].toNat ≤ 57) ∨ s[k].toNat = 95)
                · have HB := Lib.hid ((nmB_iff k _).2 (.inr hb))
                  rw [← byteAt_get s k hlt] at HB
                  have HX := Lib.hid ha
                  have HY := Lib.hid hb
                  clear ha hb
                  go_wp2
                  all_goals first
                    | (go_round
                       case rel => exact ⟨k + 1, by omega, Lib.hid (nm_step hall.out HB.out), by go_num⟩
                       case measure => simp [intOf]; omega)
                    | (exfalso
                       have := HX.out
                       have := HY.out
                       simp at *
                       omega)
                · have HN := Lib.hid (nm_false_at hlt (by omega))
                  have HX := Lib.hid ha
                  have HY := Lib.hid hb
                  clear ha hb
                  go_wp2
                  all_goals first
                    | (go_ret; exact ⟨ret1b HN.out.symm, rfl⟩)
                    | (exfalso
                       have := HX.out
                       have := HY.out
                       simp at *
                       omega)
            · have HT := Lib.hid (nm_true h1 h12 ht.out hf.out (fun j hj => hall.out j (by omega)))
              go_wp2
              go_ret
              exact ⟨ret1b HT.out.symm, rfl⟩
set_option maxHeartbeats 1000000 in
theorem ref_Name (w : World) (s : ByteArray) (hs : s.size ≤ 9223372036854775807) :
    Calls Tryz.prog 67 #[.string s] w fun e w' => e = .returned (.bool (nmOk s)) ∧ w = w' := by
  by_cases hlen : s.size < 1 ∨ 12 < s.size
  · have H := Lib.hid (nm_false_len hlen)
    go_enter Tryz.func67, Tryz.ntmps67
    rcases hlen with h | h
    · have h' : (s.size : Int) < 1 := by omega
      have h0 : s.toList = [] := List.eq_nil_of_length_eq_zero (by rw [size_toList]; omega)
      go_wp2
      go_ret
      exact ⟨ret1b H.out.symm, rfl⟩
    · have h' : (12 : Int) < s.size := by omega
      have h0 : s.toList.isEmpty = false := notEmpty (by omega)
      have h1 : ¬ (s.size : Int) < 1 := by omega
      go_wp2
      all_goals go_ret
      all_goals exact ⟨ret1b H.out.symm, rfl⟩
  · have h1 : 1 ≤ s.size := by omega
    have h12 : s.size ≤ 12 := by omega
    by_cases ht : s.toList = [116, 114, 117, 101]
    · have H := Lib.hid (nm_false_true ht)
      go_enter Tryz.func67, Tryz.ntmps67
      go_wp2
      all_goals go_ret
      all_goals exact ⟨ret1b H.out.symm, rfl⟩
    · by_cases hf : s.toList = [102, 97, 108, 115, 101]
      · have H := Lib.hid (nm_false_false hf)
        go_enter Tryz.func67, Tryz.ntmps67
        go_wp2
        all_goals go_ret
        all_goals exact ⟨ret1b H.out.symm, rfl⟩
      · have ht' : (s.toList == [116, 114, 117, 101]) = false := by simpa using ht
        have hf' : (s.toList == [102, 97, 108, 115, 101]) = false := by simpa using hf
        replace ht := Lib.hid ht
        replace hf := Lib.hid hf
        have hI1 : ¬ (s.size : Int) < 1 := by omega
        have hI12 : ¬ (12 : Int) < s.size := by omega
        have hI0 : s.toList.isEmpty = false := notEmpty h1
        clear hlen
        go_enter Tryz.func67, Tryz.ntmps67
        go_wp2
        · go_loop [3] (fun i => ∃ k : Nat, k ≤ s.size ∧ Hid (∀ j, j < k → nmB j (byteAt s j) = true) ∧ i = .int .i64 k) (fun i => s.size - (intOf i).toNat)
          case atStart => exact ⟨0, by omega, Lib.hid (fun j hj => absurd hj (by omega)), rfl⟩
          case round =>
            obtain ⟨k, hk, hall, rfl⟩ := hrel
            by_cases hlt : k < s.size
            · rcases Int.lt_or_le (s[k].toNat : Int) 97 with a1 | a1 <;> rcases Int.lt_or_le 122 (s[k].toNat : Int) with a2 | a2 <;> rcases Int.lt_or_le (s[k].toNat : Int) 48 with a3 | a3 <;> rcases Int.lt_or_le 57 (s[k].toNat : Int) with a4 | a4 <;> by_cases a5 : (s[k].toNat : Int) = 95 <;> by_cases a6 : k = 0 <;> first | (exfalso; omega) | skip
              all_goals try subst a6
              all_goals first
                | (have HB := Lib.hid (nm_one hlt (by omega))
                   go_wp2
                   all_goals first
                     | (go_round
                        case rel => exact ⟨_, by omega, Lib.hid (nm_step hall.out HB.out), by go_num⟩
                        case measure => simp [intOf]; omega)
                     | (exfalso; simp at *; omega))
                | (have HN := Lib.hid (nm_false_at hlt (by omega))
                   go_wp2
                   all_goals first
                     | (go_ret; exact ⟨ret1b HN.out.symm, rfl⟩)
                     | (exfalso; simp at *; omega))
            · have HT := Lib.hid (nm_true h1 h12 ht.out hf.out (fun j hj => hall.out j (by omega)))
              go_wp2
              go_ret
              exact ⟨ret1b HT.out.symm, rfl⟩
end Go.Proofs.YtidhlfcmjpnhgaaGreatDoor
