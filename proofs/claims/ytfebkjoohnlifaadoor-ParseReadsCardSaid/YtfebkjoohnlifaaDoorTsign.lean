/- The longest sign that a text begins with: the program's walk. -/
import Derived.Test.YtfebkjoohnlifaaDoorTwalk1
import Derived.Test.YtfebkjoohnlifaaDoorTlays
import Derived.Lib.AtoiErrMem
namespace Go.Proofs.YtfebkjoohnlifaaDoor
open Go.RowKit Go.Shelf

theorem HasPrefix3 (w : World) (s : ByteArray) : Calls Tryd.prog 180 #[.string s, .string ⟨#[60, 45, 62]⟩] w fun e w' => e = .returned (.bool (Lib.hasPrefix s.data.toList [60, 45, 62])) ∧ w = w' := by
  have := Any.strings_HasPrefix Tryd.strHasPrefix s ⟨#[60, 45, 62]⟩ w
  change Calls Tryd.prog 180 _ _ _ at this
  exact this.mono fun _ _ ⟨h1, h2⟩ => ⟨h1, h2.symm⟩

def sgn1N : List Int := [33, 38, 124, 40, 41, 91, 93, 44, 61, 60, 62, 70, 71, 85, 82]
theorem sgn1_no {c : UInt8} {a : Int} (h : ¬ c ∈ sgn1) (ha : a ∈ sgn1N) : ((c.toNat : Int) == a) = false := by
  rw [beq_eq_false_iff_ne]
  intro h'
  apply h
  have e : c = UInt8.ofNat a.toNat := by rw [← h']; simp
  rw [e]
  clear h h' e
  revert a
  decide +kernel
theorem take2_toList (s : ByteArray) : (s.extract 0 2).toList = s.data.toList.take 2 := by
  rw [ByteArray.toList_eq]
  simp [ByteArray.data_extract]
theorem sign_one {s : ByteArray} (h1 : 1 ≤ s.size) (h3 : ¬ s.data.toList.take 3 = [60, 45, 62]) (h2 : ¬ s.data.toList.take 2 ∈ sgn2) : signLen s.data.toList = if s[0] ∈ sgn1 then 1 else 0 := by
  unfold signLen
  rw [if_neg h3, if_neg h2]
  rw [list_cons s h1]
set_option maxHeartbeats 2000000 in
theorem tok_sign (w : World) (s : ByteArray) (h1 : 1 ≤ s.size) (hs : s.size ≤ 9223372036854775807) :
    Calls Tryd.prog 130 #[.string s] w fun e w' => e = .returned (.int .i64 (signLen s.data.toList)) ∧ w = w' := by
  have HP := Lib.hid (fun W => HasPrefix3 W s)
  by_cases h3 : s.data.toList.take 3 = [60, 45, 62]
  · have HE := Lib.hid (show Lib.hasPrefix s.data.toList [60, 45, 62] = true by rw [← h3]; simp [Lib.hasPrefix, List.take_prefix])
    have HR := Lib.hid (show signLen s.data.toList = 3 by unfold signLen; rw [if_pos h3])
    rw [HE.out] at HP
    clear h3
    go_enter Tryd.func130, Tryd.ntmps130
    go_wp2_with ((go_at_call 180); refine (HP.out _).mono ?_; rintro e w' ⟨rfl, rfl⟩)
    go_ret
    exact ⟨by rw [HR.out]; rfl, rfl⟩
  · have HE := Lib.hid (show Lib.hasPrefix s.data.toList [60, 45, 62] = false by
      rw [← Bool.not_eq_true]; intro h; apply h3
      have := List.isPrefixOf_iff_prefix.1 (show [60, 45, 62].isPrefixOf s.data.toList = true from h)
      exact (List.prefix_iff_eq_take.1 this).symm)
    rw [HE.out] at HP
    by_cases h2 : 1 < s.size
    · have hI2 : (1 : Int) < s.size := by omega
      have hI3 : (2 : Int) ≤ s.size := by omega
      by_cases hm2 : s.data.toList.take 2 ∈ sgn2
      · have HR := Lib.hid (show signLen s.data.toList = 2 by unfold signLen; rw [if_neg h3, if_pos hm2])
        rw [← take2_toList] at hm2
        clear h3
        simp only [sgn2, List.mem_cons, List.not_mem_nil, or_false] at hm2
        rcases hm2 with hm | hm | hm | hm
        all_goals
          go_enter Tryd.func130, Tryd.ntmps130
          go_wp2_with ((go_at_call 180); refine (HP.out _).mono ?_; rintro e w' ⟨rfl, rfl⟩)
          go_ret
          exact ⟨by rw [HR.out]; rfl, rfl⟩
      · have H1 := Lib.hid (fun (h : s[0] ∈ sgn1) => (sign_one h1 h3 hm2).trans (if_pos h))
        have H0 := Lib.hid (fun (h : ¬ s[0] ∈ sgn1) => (sign_one h1 h3 hm2).trans (if_neg h))
        rw [← take2_toList] at hm2
        simp only [sgn2, List.mem_cons, List.not_mem_nil, or_false, not_or] at hm2
        obtain ⟨n1, n2, n3, n4⟩ := hm2
        have f1 : ((s.extract 0 2).toList == [45, 62]) = false := by simpa using n1
        have f2 : ((s.extract 0 2).toList == [33, 61]) = false := by simpa using n2
        have f3 : ((s.extract 0 2).toList == [60, 61]) = false := by simpa using n3
        have f4 : ((s.extract 0 2).toList == [62, 61]) = false := by simpa using n4
        clear n1 n2 n3 n4 h3
        by_cases hm : s[0] ∈ sgn1
        · have HR := Lib.hid (H1.out hm)
          simp only [sgn1, List.mem_cons, List.not_mem_nil, or_false] at hm
          rcases hm with hm | hm | hm | hm | hm | hm | hm | hm | hm | hm | hm | hm | hm | hm | hm
          all_goals
            have e : (s[0].toNat : Int) = (UInt8.toNat _ : Nat) := congrArg (fun c : UInt8 => (c.toNat : Int)) hm
            clear hm
            simp only [UInt8.reduceToNat] at e
            go_enter Tryd.func130, Tryd.ntmps130
            go_wp2_with ((go_at_call 180); refine (HP.out _).mono ?_; rintro e w' ⟨rfl, rfl⟩)
            go_ret
            exact ⟨by rw [HR.out]; rfl, rfl⟩
        · have HR := Lib.hid (H0.out hm)
          have e1 := sgn1_no (a := 33) hm (by decide)
          have e2 := sgn1_no (a := 38) hm (by decide)
          have e3 := sgn1_no (a := 124) hm (by decide)
          have e4 := sgn1_no (a := 40) hm (by decide)
          have e5 := sgn1_no (a := 41) hm (by decide)
          have e6 := sgn1_no (a := 91) hm (by decide)
          have e7 := sgn1_no (a := 93) hm (by decide)
          have e8 := sgn1_no (a := 44) hm (by decide)
          have e9 := sgn1_no (a := 61) hm (by decide)
          have e10 := sgn1_no (a := 60) hm (by decide)
          have e11 := sgn1_no (a := 62) hm (by decide)
          have e12 := sgn1_no (a := 70) hm (by decide)
          have e13 := sgn1_no (a := 71) hm (by decide)
          have e14 := sgn1_no (a := 85) hm (by decide)
          have e15 := sgn1_no (a := 82) hm (by decide)
          clear hm
          go_enter Tryd.func130, Tryd.ntmps130
          go_wp2_with ((go_at_call 180); refine (HP.out _).mono ?_; rintro e w' ⟨rfl, rfl⟩)
          go_ret
          exact ⟨by rw [HR.out]; rfl, rfl⟩
    · have hI2 : ¬ (1 : Int) < s.size := by omega
      have hm2 : ¬ s.data.toList.take 2 ∈ sgn2 := by
        intro h
        have hl : (s.data.toList.take 2).length = 2 := by revert h; generalize s.data.toList.take 2 = q; revert q; decide +kernel
        simp at hl; omega
      have H1 := Lib.hid (fun (h : s[0] ∈ sgn1) => (sign_one h1 h3 hm2).trans (if_pos h))
      have H0 := Lib.hid (fun (h : ¬ s[0] ∈ sgn1) => (sign_one h1 h3 hm2).trans (if_neg h))
      clear hm2 h3
      by_cases hm : s[0] ∈ sgn1
      · have HR := Lib.hid (H1.out hm)
        simp only [sgn1, List.mem_cons, List.not_mem_nil, or_false] at hm
        rcases hm with hm | hm | hm | hm | hm | hm | hm | hm | hm | hm | hm | hm | hm | hm | hm
        all_goals
          have e : (s[0].toNat : Int) = (UInt8.toNat _ : Nat) := congrArg (fun c : UInt8 => (c.toNat : Int)) hm
          clear hm
          simp only [UInt8.reduceToNat] at e
          go_enter Tryd.func130, Tryd.ntmps130
          go_wp2_with ((go_at_call 180); refine (HP.out _).mono ?_; rintro e w' ⟨rfl, rfl⟩)
          go_ret
          exact ⟨by rw [HR.out]; rfl, rfl⟩
      · have HR := Lib.hid (H0.out hm)
        have e1 := sgn1_no (a := 33) hm (by decide)
        have e2 := sgn1_no (a := 38) hm (by decide)
        have e3 := sgn1_no (a := 124) hm (by decide)
        have e4 := sgn1_no (a := 40) hm (by decide)
        have e5 := sgn1_no (a := 41) hm (by decide)
        have e6 := sgn1_no (a := 91) hm (by decide)
        have e7 := sgn1_no (a := 93) hm (by decide)
        have e8 := sgn1_no (a := 44) hm (by decide)
        have e9 := sgn1_no (a := 61) hm (by decide)
        have e10 := sgn1_no (a := 60) hm (by decide)
        have e11 := sgn1_no (a := 62) hm (by decide)
        have e12 := sgn1_no (a := 70) hm (by decide)
        have e13 := sgn1_no (a := 71) hm (by decide)
        have e14 := sgn1_no (a := 85) hm (by decide)
        have e15 := sgn1_no (a := 82) hm (by decide)
        clear hm
        go_enter Tryd.func130, Tryd.ntmps130
        go_wp2_with ((go_at_call 180); refine (HP.out _).mono ?_; rintro e w' ⟨rfl, rfl⟩)
        go_ret
        exact ⟨by rw [HR.out]; rfl, rfl⟩
/- A number's value: the program's walk over strconv.ParseInt. -/
open Go.RowKit Go.Shelf

/-- What strconv.ErrRange holds when the call begins: an error. -/
def ErrVar (w : World) : Prop := ∃ te pe, w.cell? ⟨7, 0, none⟩ = some (.iface te pe)
theorem ErrVar.fr {w w' : World} (h : ErrVar w) (hf : Fr Nob w w') : ErrVar w' := by
  obtain ⟨te, pe, h⟩ := h
  exact ⟨te, pe, hf.cell h (fun e => e)⟩

theorem ParseInt_ok (w : World) (s : ByteArray) (hmax : s.size ≤ 9223372036854775806) (v : Int) (h : Lib.parseIntB 64 s.data.toList = .ok v) :
    Calls Tryd.prog 179 #[.string s, .int .i64 10, .int .i64 64] w fun e w' => e = .returned (.tuple #[.int .i64 v, .nilIface]) ∧ Fr Nob w w' := by
  have := Any.strconv_ParseInt_10_at64_ok Tryd.scParseInt s hmax v h w
  change Calls Tryd.prog 179 _ _ _ at this
  refine this.mono fun _ _ ⟨h1, h2⟩ => ⟨h1, ?_⟩
  rcases h2 with rfl | ⟨t, rfl⟩
  · exact Fr.refl _ _
  · exact Fr.of_below (Lib.bytesWorld_below _ _ _)
theorem ParseInt_range (w : World) (s : ByteArray) (hmax : s.size ≤ 281474976710656) (h : Lib.parseIntB 64 s.data.toList = .range) (hv : ErrVar w) :
    Calls Tryd.prog 179 #[.string s, .int .i64 10, .int .i64 64] w fun e w' => ∃ v te pe, e = .returned (.tuple #[.int .i64 v, .iface te (.pointer (some pe))]) ∧ Fr Nob w w' := by
  obtain ⟨te, pe, hc⟩ := hv
  have := Any.strconv_ParseInt_10_at64_range Tryd.scParseInt s hmax h (.iface te pe) w hc (.inr ⟨te, pe, rfl⟩)
  change Calls Tryd.prog 179 _ _ _ at this
  exact this.mono fun _ _ ⟨N, h1, _, _, h4⟩ => ⟨_, _, _, h1, Fr.of_below h4⟩
theorem TrimMinus (w : World) (s : ByteArray) : Calls Tryd.prog 178 #[.string s, .string ⟨#[45]⟩] w fun e w' => e = .returned (.string ⟨(Lib.trimPrefix s.data.toList [45]).toArray⟩) ∧ w = w' := by
  have := Any.strings_TrimPrefix Tryd.strTrimPrefix s ⟨#[45]⟩ w
  change Calls Tryd.prog 178 _ _ _ at this
  exact this.mono fun _ _ ⟨h1, h2⟩ => ⟨h1, h2.symm⟩

/-- A number's bytes: digits, or digits behind a minus. -/
def IsNum (neg : Bool) (l d : List UInt8) : Prop := l = (if neg then 45 :: d else d) ∧ d ≠ [] ∧ ∀ c ∈ d, digB c = true
theorem isNum_val {neg : Bool} {l d : List UInt8} (h : IsNum neg l d) : numVal l = if (d.head? == some 48 && (neg || decide (1 < d.length))) = true then (20, 0) else vres (valB neg (ddec 0 d)) := by
  obtain ⟨rfl, hne, hd⟩ := h
  cases neg
  · have : ¬ d.head? = some 45 := by
      cases d with
      | nil => exact absurd rfl hne
      | cons c r => intro e; simp at e; have := hd c (by simp); subst e; revert this; decide
    have h2 : (d.head? == some 45) = false := by simpa using this
    simp only [numVal, Bool.false_eq_true, if_false, h2]
  · simp [numVal]
theorem isNum_parse {neg : Bool} {l d : List UInt8} (h : IsNum neg l d) : Lib.parseIntB 64 l = ends (valB neg (ddec 0 d)) := by
  obtain ⟨rfl, hne, hd⟩ := h
  cases neg
  · exact parse_pos hd hne
  · exact parse_neg hd hne
theorem isNum_trim {neg : Bool} {l d : List UInt8} (h : IsNum neg l d) : Lib.trimPrefix l [45] = d := by
  obtain ⟨rfl, hne, hd⟩ := h
  cases neg
  · cases d with
    | nil => exact absurd rfl hne
    | cons c r =>
      have hc := hd c (by simp)
      have : (45 == c) = false := by rw [beq_eq_false_iff_ne]; rintro rfl; revert hc; decide
      simp [Lib.trimPrefix, Lib.hasPrefix, List.isPrefixOf, this]
  · simp [Lib.trimPrefix, Lib.hasPrefix, List.isPrefixOf]

theorem isNum_zero {neg : Bool} {l : ByteArray} {c : UInt8} {r : List UInt8} (h : IsNum neg l.data.toList (c :: r)) : ((c :: r).head? == some 48 && (neg || decide (1 < (c :: r).length))) = true ↔ (c = 48 ∧ ¬ l.toList = [48]) := by
  obtain ⟨hl, _, _⟩ := h
  rw [ByteArray.toList_eq, hl]
  cases neg
  · cases r <;> simp
  · simp

set_option maxHeartbeats 2000000 in
theorem tok_value (w : World) (s : ByteArray) (neg : Bool) (d : List UInt8) (hn : IsNum neg s.data.toList d) (hs : s.size ≤ 100000) (hv : ErrVar w) :
    Calls Tryd.prog 129 #[.string s] w fun e w' => e = .returned (.tuple #[.int .i64 (numVal s.data.toList).2, .int .i64 (numVal s.data.toList).1]) ∧ Fr Nob w w' := by
  have HT := Lib.hid (fun W => TrimMinus W s)
  rw [isNum_trim hn] at HT
  have HV := Lib.hid (isNum_val hn)
  have HP := Lib.hid (isNum_parse hn)
  have HE := Lib.hid hv
  obtain ⟨c, r, hd⟩ : ∃ c r, d = c :: r := List.exists_cons_of_ne_nil hn.2.1
  have HN := Lib.hid hn
  clear hn hv
  subst hd
  have hz : 0 < (ByteArray.mk (c :: r).toArray).size := by simp [ByteArray.size]
  have hI : (0 : Int) < (ByteArray.mk (c :: r).toArray).size := by omega
  have he : (ByteArray.mk (c :: r).toArray)[0] = c := rfl
  have HHE := Lib.hid he
  clear he
  have HB := Lib.hid (isNum_zero HN.out)
  by_cases hq : c = 48 ∧ ¬ s.toList = [48]
  · have HR := Lib.hid (show numVal s.data.toList = (20, 0) by rw [HV.out, if_pos (HB.out.2 hq)])
    have e0 : ((ByteArray.mk (c :: r).toArray)[0].toNat : Int) = 48 := by rw [HHE.out, hq.1]; rfl
    have e1 : (s.toList == [48]) = false := by simpa using hq.2
    clear hq
    go_enter Tryd.func129, Tryd.ntmps129
    go_wp2_with ((go_at_call 178); refine (HT.out _).mono ?_; rintro e w' ⟨rfl, rfl⟩)
    go_ret2
    rw [HR.out]
    exact ⟨rfl, Fr.refl _ _⟩
  · have HR := Lib.hid (show numVal s.data.toList = vres (valB neg (ddec 0 (c :: r))) by rw [HV.out, if_neg (fun h => hq (HB.out.1 h))])
    have HQ := Lib.hid hq
    clear hq
    generalize valB neg (ddec 0 (c :: r)) = o at *
    by_cases hc : c = 48
    · have e0 : ((ByteArray.mk (c :: r).toArray)[0].toNat : Int) = 48 := by rw [HHE.out, hc]; rfl
      have e1 : (s.toList == [48]) = true := by
        have := HQ.out
        simp only [hc, true_and, Decidable.not_not] at this
        simpa using this
      clear hc
      cases o with
      | some v =>
        go_enter Tryd.func129, Tryd.ntmps129
        go_wp2_with (first | ((go_at_call 178); refine (HT.out _).mono ?_; rintro e w' ⟨rfl, rfl⟩) | ((go_at_call 179); refine (ParseInt_ok _ s (by omega) v HP.out).mono ?_; rintro e w' ⟨rfl, hf⟩))
        go_ret2
        rw [HR.out]
        exact ⟨rfl, hf⟩
      | none =>
        go_enter Tryd.func129, Tryd.ntmps129
        go_wp2_with (first | ((go_at_call 178); refine (HT.out _).mono ?_; rintro e w' ⟨rfl, rfl⟩) | ((go_at_call 179); refine (ParseInt_range _ s (by omega) HP.out HE.out).mono ?_; rintro e w' ⟨v, te, pe, rfl, hf⟩))
        go_ret2
        rw [HR.out]
        exact ⟨rfl, hf⟩
    · have e0 : (((ByteArray.mk (c :: r).toArray)[0].toNat : Int) == 48) = false := by
        rw [HHE.out, beq_eq_false_iff_ne]; intro e; exact hc (UInt8.toNat_inj.1 (by rw [show (48 : UInt8).toNat = 48 from rfl]; omega))
      clear hc
      cases o with
      | some v =>
        go_enter Tryd.func129, Tryd.ntmps129
        go_wp2_with (first | ((go_at_call 178); refine (HT.out _).mono ?_; rintro e w' ⟨rfl, rfl⟩) | ((go_at_call 179); refine (ParseInt_ok _ s (by omega) v HP.out).mono ?_; rintro e w' ⟨rfl, hf⟩))
        go_ret2
        rw [HR.out]
        exact ⟨rfl, hf⟩
      | none =>
        go_enter Tryd.func129, Tryd.ntmps129
        go_wp2_with (first | ((go_at_call 178); refine (HT.out _).mono ?_; rintro e w' ⟨rfl, rfl⟩) | ((go_at_call 179); refine (ParseInt_range _ s (by omega) HP.out HE.out).mono ?_; rintro e w' ⟨v, te, pe, rfl, hf⟩))
        go_ret2
        rw [HR.out]
        exact ⟨rfl, hf⟩
end Go.Proofs.YtfebkjoohnlifaaDoor
