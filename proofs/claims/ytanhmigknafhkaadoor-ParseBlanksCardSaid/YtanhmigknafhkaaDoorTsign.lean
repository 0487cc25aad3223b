/- The longest sign that a text begins with: the program's walk. -/
import Derived.Test.YtanhmigknafhkaaDoorTwalk1
import Derived.Test.YtanhmigknafhkaaDoorTlays
namespace Go.Proofs.YtanhmigknafhkaaDoor
open Go.RowKit Go.Shelf

theorem HasPrefix3 (w : World) (s : ByteArray) : Calls Tryd.prog 85 #[.string s, .string ⟨#[60, 45, 62]⟩] w fun e w' => e = .returned (.bool (Lib.hasPrefix s.data.toList [60, 45, 62])) ∧ w = w' := by
  have := Any.strings_HasPrefix Tryd.strHasPrefix s ⟨#[60, 45, 62]⟩ w
  change Calls Tryd.prog 85 _ _ _ at this
  exact this.mono fun _ _ ⟨h1, h2⟩ => ⟨h1, h2.symm⟩

def sgn1N : List Int := [33, 38, 124, 40, 41, 91, 93, 44, 61, 60, 62, 70, 71, 85, 82]
theorem sgn1_no {c : UInt8} {a : Int} (h : ¬ c ∈ sgn1) (ha : a ∈ sgn1N) : ((c.toNat : Int) == a) = false := by
  rw [beq_eq_false_iff_ne]
  intro h'
  apply h
  have e : c = UInt8.ofNat a.toNat := by rw [← h']; simp
  rw [e]
  clear h h' e
  revert a
  decide +kernel
theorem take2_toList (s : ByteArray) : (s.extract 0 2).toList = s.data.toList.take 2 := by
  rw [ByteArray.toList_eq]
  simp [ByteArray.data_extract]
theorem sign_one {s : ByteArray} (h1 : 1 ≤ s.size) (h3 : ¬ s.data.toList.take 3 = [60, 45, 62]) (h2 : ¬ s.data.toList.take 2 ∈ sgn2) : signLen s.data.toList = if s[0] ∈ sgn1 then 1 else 0 := by
  unfold signLen
  rw [if_neg h3, if_neg h2]
  rw [list_cons s h1]
set_option maxHeartbeats 2000000 in
theorem tok_sign (w : World) (s : ByteArray) (h1 : 1 ≤ s.size) (hs : s.size ≤ 9223372036854775807) :
    Calls Tryd.prog 75 #[.string s] w fun e w' => e = .returned (.int .i64 (signLen s.data.toList)) ∧ w = w' := by
  have HP := Lib.hid (fun W => HasPrefix3 W s)
  by_cases h3 : s.data.toList.take 3 = [60, 45, 62]
  · have HE := Lib.hid (show Lib.hasPrefix s.data.toList [60, 45, 62] = true by rw [← h3]; simp [Lib.hasPrefix, List.take_prefix])
    have HR := Lib.hid (show signLen s.data.toList = 3 by unfold signLen; rw [if_pos h3])
    rw [HE.out] at HP
    clear h3
    go_enter Tryd.func75, Tryd.ntmps75
    go_wp2_with ((go_at_call 85); refine (HP.out _).mono ?_; rintro e w' ⟨rfl, rfl⟩)
    go_ret
    exact ⟨by rw [HR.out]; rfl, rfl⟩
  · have HE := Lib.hid (show Lib.hasPrefix s.data.toList [60, 45, 62] = false by
      rw [← Bool.not_eq_true]; intro h; apply h3
      have := List.isPrefixOf_iff_prefix.1 (show [60, 45, 62].isPrefixOf s.data.toList = true from h)
      exact (List.prefix_iff_eq_take.1 this).symm)
    rw [HE.out] at HP
    by_cases h2 : 1 < s.size
    · have hI2 : (1 : Int) < s.size := by omega
      have hI3 : (2 : Int) ≤ s.size := by omega
      by_cases hm2 : s.data.toList.take 2 ∈ sgn2
      · have HR := Lib.hid (show signLen s.data.toList = 2 by unfold signLen; rw [if_neg h3, if_pos hm2])
        rw [← take2_toList] at hm2
        clear h3
        simp only [sgn2, List.mem_cons, List.not_mem_nil, or_false] at hm2
        rcases hm2 with hm | hm | hm | hm
        all_goals
          go_enter Tryd.func75, Tryd.ntmps75
          go_wp2_with ((go_at_call 85); refine (HP.out _).mono ?_; rintro e w' ⟨rfl, rfl⟩)
          go_ret
          exact ⟨by rw [HR.out]; rfl, rfl⟩
      · have H1 := Lib.hid (fun (h : s[0] ∈ sgn1) => (sign_one h1 h3 hm2).trans (if_pos h))
        have H0 := Lib.hid (fun (h : ¬ s[0] ∈ sgn1) => (sign_one h1 h3 hm2).trans (if_neg h))
        rw [← take2_toList] at hm2
        simp only [sgn2, List.mem_cons, List.not_mem_nil, or_false, not_or] at hm2
        obtain ⟨n1, n2, n3, n4⟩ := hm2
        have f1 : ((s.extract 0 2).toList == [45, 62]) = false := by simpa using n1
        have f2 : ((s.extract 0 2).toList == [33, 61]) = false := by simpa using n2
        have f3 : ((s.extract 0 2).toList == [60, 61]) = false := by simpa using n3
        have f4 : ((s.extract 0 2).toList == [62, 61]) = false := by simpa using n4
        clear n1 n2 n3 n4 h3
        by_cases hm : s[0] ∈ sgn1
        · have HR := Lib.hid (H1.out hm)
          simp only [sgn1, List.mem_cons, List.not_mem_nil, or_false] at hm
          rcases hm with hm | hm | hm | hm | hm | hm | hm | hm | hm | hm | hm | hm | hm | hm | hm
          all_goals
            have e : (s[0].toNat : Int) = (UInt8.toNat _ : Nat) := congrArg (fun c : UInt8 => (c.toNat : Int)) hm
            clear hm
            simp only [UInt8.reduceToNat] at e
            go_enter Tryd.func75, Tryd.ntmps75
            go_wp2_with ((go_at_call 85); refine (HP.out _).mono ?_; rintro e w' ⟨rfl, rfl⟩)
            go_ret
            exact ⟨by rw [HR.out]; rfl, rfl⟩
        · have HR := Lib.hid (H0.out hm)
          have e1 := sgn1_no (a := 33) hm (by decide)
          have e2 := sgn1_no (a := 38) hm (by decide)
          have e3 := sgn1_no (a := 124) hm (by decide)
          have e4 := sgn1_no (a := 40) hm (by decide)
          have e5 := sgn1_no (a := 41) hm (by decide)
          have e6 := sgn1_no (a := 91) hm (by decide)
          have e7 := sgn1_no (a := 93) hm (by decide)
          have e8 := sgn1_no (a := 44) hm (by decide)
          have e9 := sgn1_no (a := 61) hm (by decide)
          have e10 := sgn1_no (a := 60) hm (by decide)
          have e11 := sgn1_no (a := 62) hm (by decide)
          have e12 := sgn1_no (a := 70) hm (by decide)
          have e13 := sgn1_no (a := 71) hm (by decide)
          have e14 := sgn1_no (a := 85) hm (by decide)
          have e15 := sgn1_no (a := 82) hm (by decide)
          clear hm
          go_enter Tryd.func75, Tryd.ntmps75
          go_wp2_with ((go_at_call 85); refine (HP.out _).mono ?_; rintro e w' ⟨rfl, rfl⟩)
          go_ret
          exact ⟨by rw [HR.out]; rfl, rfl⟩
    · have hI2 : ¬ (1 : Int) < s.size := by omega
      have hm2 : ¬ s.data.toList.take 2 ∈ sgn2 := by
        intro h
        have hl : (s.data.toList.take 2).length = 2 := by revert h; generalize s.data.toList.take 2 = q; revert q; decide +kernel
        simp at hl; omega
      have H1 := Lib.hid (fun (h : s[0] ∈ sgn1) => (sign_one h1 h3 hm2).trans (if_pos h))
      have H0 := Lib.hid (fun (h : ¬ s[0] ∈ sgn1) => (sign_one h1 h3 hm2).trans (if_neg h))
      clear hm2 h3
      by_cases hm : s[0] ∈ sgn1
      · have HR := Lib.hid (H1.out hm)
        simp only [sgn1, List.mem_cons, List.not_mem_nil, or_false] at hm
        rcases hm with hm | hm | hm | hm | hm | hm | hm | hm | hm | hm | hm | hm | hm | hm | hm
        all_goals
          have e : (s[0].toNat : Int) = (UInt8.toNat _ : Nat) := congrArg (fun c : UInt8 => (c.toNat : Int)) hm
          clear hm
          simp only [UInt8.reduceToNat] at e
          go_enter Tryd.func75, Tryd.ntmps75
          go_wp2_with ((go_at_call 85); refine (HP.out _).mono ?_; rintro e w' ⟨rfl, rfl⟩)
          go_ret
          exact ⟨by rw [HR.out]; rfl, rfl⟩
      · have HR := Lib.hid (H0.out hm)
        have e1 := sgn1_no (a := 33) hm (by decide)
        have e2 := sgn1_no (a := 38) hm (by decide)
        have e3 := sgn1_no (a := 124) hm (by decide)
        have e4 := sgn1_no (a := 40) hm (by decide)
        have e5 := sgn1_no (a := 41) hm (by decide)
        have e6 := sgn1_no (a := 91) hm (by decide)
        have e7 := sgn1_no (a := 93) hm (by decide)
        have e8 := sgn1_no (a := 44) hm (by decide)
        have e9 := sgn1_no (a := 61) hm (by decide)
        have e10 := sgn1_no (a := 60) hm (by decide)
        have e11 := sgn1_no (a := 62) hm (by decide)
        have e12 := sgn1_no (a := 70) hm (by decide)
        have e13 := sgn1_no (a := 71) hm (by decide)
        have e14 := sgn1_no (a := 85) hm (by decide)
        have e15 := sgn1_no (a := 82) hm (by decide)
        clear hm
        go_enter Tryd.func75, Tryd.ntmps75
        go_wp2_with ((go_at_call 85); refine (HP.out _).mono ?_; rintro e w' ⟨rfl, rfl⟩)
        go_ret
        exact ⟨by rw [HR.out]; rfl, rfl⟩
end Go.Proofs.YtanhmigknafhkaaDoor
