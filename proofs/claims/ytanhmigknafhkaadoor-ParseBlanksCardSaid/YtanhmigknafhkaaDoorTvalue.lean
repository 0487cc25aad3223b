/- A number's value: the program's walk over strconv.ParseInt. -/
import Derived.Test.YtanhmigknafhkaaDoorTsign
import Derived.Lib.AtoiErrMem
namespace Go.Proofs.YtanhmigknafhkaaDoor
open Go.RowKit Go.Shelf

/-- What strconv.ErrRange holds when the call begins: an error. -/
def ErrVar (w : World) : Prop := ∃ te pe, w.cell? ⟨3, 0, none⟩ = some (.iface te pe)
theorem ErrVar.fr {w w' : World} (h : ErrVar w) (hf : Fr Nob w w') : ErrVar w' := by
  obtain ⟨te, pe, h⟩ := h
  exact ⟨te, pe, hf.cell h (fun e => e)⟩

theorem ParseInt_ok (w : World) (s : ByteArray) (hmax : s.size ≤ 9223372036854775806) (v : Int) (h : Lib.parseIntB 64 s.data.toList = .ok v) :
    Calls Tryd.prog 84 #[.string s, .int .i64 10, .int .i64 64] w fun e w' => e = .returned (.tuple #[.int .i64 v, .nilIface]) ∧ Fr Nob w w' := by
  have := Any.strconv_ParseInt_10_at64_ok Tryd.scParseInt s hmax v h w
  change Calls Tryd.prog 84 _ _ _ at this
  refine this.mono fun _ _ ⟨h1, h2⟩ => ⟨h1, ?_⟩
  rcases h2 with rfl | ⟨t, rfl⟩
  · exact Fr.refl _ _
  · exact Fr.of_below (Lib.bytesWorld_below _ _ _)
theorem ParseInt_range (w : World) (s : ByteArray) (hmax : s.size ≤ 281474976710656) (h : Lib.parseIntB 64 s.data.toList = .range) (hv : ErrVar w) :
    Calls Tryd.prog 84 #[.string s, .int .i64 10, .int .i64 64] w fun e w' => ∃ v te pe, e = .returned (.tuple #[.int .i64 v, .iface te (.pointer (some pe))]) ∧ Fr Nob w w' := by
  obtain ⟨te, pe, hc⟩ := hv
  have := Any.strconv_ParseInt_10_at64_range Tryd.scParseInt s hmax h (.iface te pe) w hc (.inr ⟨te, pe, rfl⟩)
  change Calls Tryd.prog 84 _ _ _ at this
  exact this.mono fun _ _ ⟨N, h1, _, _, h4⟩ => ⟨_, _, _, h1, Fr.of_below h4⟩
theorem TrimMinus (w : World) (s : ByteArray) : Calls Tryd.prog 83 #[.string s, .string ⟨#[45]⟩] w fun e w' => e = .returned (.string ⟨(Lib.trimPrefix s.data.toList [45]).toArray⟩) ∧ w = w' := by
  have := Any.strings_TrimPrefix Tryd.strTrimPrefix s ⟨#[45]⟩ w
  change Calls Tryd.prog 83 _ _ _ at this
  exact this.mono fun _ _ ⟨h1, h2⟩ => ⟨h1, h2.symm⟩

/-- A number's bytes: digits, or digits behind a minus. -/
def IsNum (neg : Bool) (l d : List UInt8) : Prop := l = (if neg then 45 :: d else d) ∧ d ≠ [] ∧ ∀ c ∈ d, digB c = true
theorem isNum_val {neg : Bool} {l d : List UInt8} (h : IsNum neg l d) : numVal l = if (d.head? == some 48 && (neg || decide (1 < d.length))) = true then (20, 0) else vres (valB neg (ddec 0 d)) := by
  obtain ⟨rfl, hne, hd⟩ := h
  cases neg
  · have : ¬ d.head? = some 45 := by
      cases d with
      | nil => exact absurd rfl hne
      | cons c r => intro e; simp at e; have := hd c (by simp); subst e; revert this; decide
    have h2 : (d.head? == some 45) = false := by simpa using this
    simp only [numVal, Bool.false_eq_true, if_false, h2]
  · simp [numVal]
theorem isNum_parse {neg : Bool} {l d : List UInt8} (h : IsNum neg l d) : Lib.parseIntB 64 l = ends (valB neg (ddec 0 d)) := by
  obtain ⟨rfl, hne, hd⟩ := h
  cases neg
  · exact parse_pos hd hne
  · exact parse_neg hd hne
theorem isNum_trim {neg : Bool} {l d : List UInt8} (h : IsNum neg l d) : Lib.trimPrefix l [45] = d := by
  obtain ⟨rfl, hne, hd⟩ := h
  cases neg
  · cases d with
    | nil => exact absurd rfl hne
    | cons c r =>
      have hc := hd c (by simp)
      have : (45 == c) = false := by rw [beq_eq_false_iff_ne]; rintro rfl; revert hc; decide
      simp [Lib.trimPrefix, Lib.hasPrefix, List.isPrefixOf, this]
  · simp [Lib.trimPrefix, Lib.hasPrefix, List.isPrefixOf]

theorem isNum_zero {neg : Bool} {l : ByteArray} {c : UInt8} {r : List UInt8} (h : IsNum neg l.data.toList (c :: r)) : ((c :: r).head? == some 48 && (neg || decide (1 < (c :: r).length))) = true ↔ (c = 48 ∧ ¬ l.toList = [48]) := by
  obtain ⟨hl, _, _⟩ := h
  rw [ByteArray.toList_eq, hl]
  cases neg
  · cases r <;> simp
  · simp

set_option maxHeartbeats 2000000 in
theorem tok_value (w : World) (s : ByteArray) (neg : Bool) (d : List UInt8) (hn : IsNum neg s.data.toList d) (hs : s.size ≤ 100000) (hv : ErrVar w) :
    Calls Tryd.prog 74 #[.string s] w fun e w' => e = .returned (.tuple #[.int .i64 (numVal s.data.toList).2, .int .i64 (numVal s.data.toList).1]) ∧ Fr Nob w w' := by
  have HT := Lib.hid (fun W => TrimMinus W s)
  rw [isNum_trim hn] at HT
  have HV := Lib.hid (isNum_val hn)
  have HP := Lib.hid (isNum_parse hn)
  have HE := Lib.hid hv
  obtain ⟨c, r, hd⟩ : ∃ c r, d = c :: r := List.exists_cons_of_ne_nil hn.2.1
  have HN := Lib.hid hn
  clear hn hv
  subst hd
  have hz : 0 < (ByteArray.mk (c :: r).toArray).size := by simp [ByteArray.size]
  have hI : (0 : Int) < (ByteArray.mk (c :: r).toArray).size := by omega
  have he : (ByteArray.mk (c :: r).toArray)[0] = c := rfl
  have HHE := Lib.hid he
  clear he
  have HB := Lib.hid (isNum_zero HN.out)
  by_cases hq : c = 48 ∧ ¬ s.toList = [48]
  · have HR := Lib.hid (show numVal s.data.toList = (20, 0) by rw [HV.out, if_pos (HB.out.2 hq)])
    have e0 : ((ByteArray.mk (c :: r).toArray)[0].toNat : Int) = 48 := by rw [HHE.out, hq.1]; rfl
    have e1 : (s.toList == [48]) = false := by simpa using hq.2
    clear hq
    go_enter Tryd.func74, Tryd.ntmps74
    go_wp2_with ((go_at_call 83); refine (HT.out _).mono ?_; rintro e w' ⟨rfl, rfl⟩)
    go_ret2
    rw [HR.out]
    exact ⟨rfl, Fr.refl _ _⟩
  · have HR := Lib.hid (show numVal s.data.toList = vres (valB neg (ddec 0 (c :: r))) by rw [HV.out, if_neg (fun h => hq (HB.out.1 h))])
    have HQ := Lib.hid hq
    clear hq
    generalize valB neg (ddec 0 (c :: r)) = o at *
    by_cases hc : c = 48
    · have e0 : ((ByteArray.mk (c :: r).toArray)[0].toNat : Int) = 48 := by rw [HHE.out, hc]; rfl
      have e1 : (s.toList == [48]) = true := by
        have := HQ.out
        simp only [hc, true_and, Decidable.not_not] at this
        simpa using this
      clear hc
      cases o with
      | some v =>
        go_enter Tryd.func74, Tryd.ntmps74
        go_wp2_with (first | ((go_at_call 83); refine (HT.out _).mono ?_; rintro e w' ⟨rfl, rfl⟩) | ((go_at_call 84); refine (ParseInt_ok _ s (by omega) v HP.out).mono ?_; rintro e w' ⟨rfl, hf⟩))
        go_ret2
        rw [HR.out]
        exact ⟨rfl, hf⟩
      | none =>
        go_enter Tryd.func74, Tryd.ntmps74
        go_wp2_with (first | ((go_at_call 83); refine (HT.out _).mono ?_; rintro e w' ⟨rfl, rfl⟩) | ((go_at_call 84); refine (ParseInt_range _ s (by omega) HP.out HE.out).mono ?_; rintro e w' ⟨v, te, pe, rfl, hf⟩))
        go_ret2
        rw [HR.out]
        exact ⟨rfl, hf⟩
    · have e0 : (((ByteArray.mk (c :: r).toArray)[0].toNat : Int) == 48) = false := by
        rw [HHE.out, beq_eq_false_iff_ne]; intro e; exact hc (UInt8.toNat_inj.1 (by rw [show (48 : UInt8).toNat = 48 from rfl]; omega))
      clear hc
      cases o with
      | some v =>
        go_enter Tryd.func74, Tryd.ntmps74
        go_wp2_with (first | ((go_at_call 83); refine (HT.out _).mono ?_; rintro e w' ⟨rfl, rfl⟩) | ((go_at_call 84); refine (ParseInt_ok _ s (by omega) v HP.out).mono ?_; rintro e w' ⟨rfl, hf⟩))
        go_ret2
        rw [HR.out]
        exact ⟨rfl, hf⟩
      | none =>
        go_enter Tryd.func74, Tryd.ntmps74
        go_wp2_with (first | ((go_at_call 83); refine (HT.out _).mono ?_; rintro e w' ⟨rfl, rfl⟩) | ((go_at_call 84); refine (ParseInt_range _ s (by omega) HP.out HE.out).mono ?_; rintro e w' ⟨v, te, pe, rfl, hf⟩))
        go_ret2
        rw [HR.out]
        exact ⟨rfl, hf⟩
end Go.Proofs.YtanhmigknafhkaaDoor
