/- The law of places. -/
import Derived.Test.YtlhhnhbmiamhkaaDoorTlaw1
namespace Go.Proofs.YtlhhnhbmiamhkaaDoor
open Go.RowKit Go.Shelf

/-- How far the places have been looked at. -/
def PI (s : List UInt8) (o : List (TK × Nat)) (k p : Nat) : Prop := (k < o.length ∧ p ≤ s.length ∧ rdT p (s.drop p) = ((0, 0), o.drop k)) ∨ (k = o.length ∧ p = s.length)
/-- The next token, and what the law asks of it. -/
structure PN (s : List UInt8) (o : List (TK × Nat)) (k p : Nat) (q : Nat) (T : TK) : Prop where
  at_ : ∃ h : k < o.length, o[k] = (T, q)
  le : p ≤ q
  hi : q + T.text.length ≤ s.length
  bl : ∀ j (h : j < s.length), p ≤ j → j < q → blankB s[j] = true
  txt : (s.drop q).take T.text.length = T.text
  end_ : T.text.length = 0 → k + 1 = o.length ∧ T.kind = 0
  tok : 0 < T.text.length → k + 1 < o.length ∧ ¬ T.kind = 0
  next : PI s o (k + 1) (q + T.text.length)
theorem PI.step {s : List UInt8} {o : List (TK × Nat)} {k p : Nat} (h : PI s o k p) (hk : k < o.length) : ∃ q T, PN s o k p q T := by
  rcases h with ⟨_, hp, hr⟩ | ⟨he, _⟩
  · obtain ⟨q, T, o', H⟩ := rd_head s _ p _ (Nat.le_refl _) hp hr
    have he := H.eq
    rw [List.drop_eq_getElem_cons hk, List.cons.injEq] at he
    obtain ⟨e1, e2⟩ := he
    have e3 := congrArg List.length e2
    rw [List.length_drop] at e3
    refine ⟨q, T, ⟨hk, e1⟩, H.le, H.hi, H.bl, ?_, fun h0 => ?_, fun h0 => ?_, ?_⟩
    · rcases Nat.eq_zero_or_pos T.text.length with h0 | h0
      · rw [h0, List.take_zero]; exact (List.eq_nil_of_length_eq_zero h0).symm
      · exact (H.tok h0).2.1
    · obtain ⟨_, h2, h3⟩ := H.at_end h0
      rw [h2, List.length_nil] at e3
      exact ⟨by omega, by rw [h3]; rfl⟩
    · obtain ⟨_, _, h3, _, h5⟩ := H.tok h0
      have : 0 < o'.length := List.length_pos_iff.2 h5
      exact ⟨by omega, h3⟩
    · rcases Nat.eq_zero_or_pos T.text.length with h0 | h0
      · obtain ⟨h1, h2, _⟩ := H.at_end h0
        rw [h2, List.length_nil] at e3
        exact .inr ⟨by omega, by omega⟩
      · obtain ⟨_, _, _, h4, h5⟩ := H.tok h0
        have : 0 < o'.length := List.length_pos_iff.2 h5
        exact .inl ⟨by omega, H.hi, by rw [h4, e2]⟩
  · omega

set_option maxRecDepth 100000 in
set_option maxHeartbeats 8000000 in
theorem law_TokenPlaces (w : World) (s : ByteArray) (hv : ErrVar w) : Calls Tryd.prog 4 #[.string s] w fun e w' => e = .returned (.bool true) ∧ Fr Nob w w' := by
  have HV := Lib.hid hv
  clear hv
  go_enter Tryd.func4, Tryd.ntmps4
  go_wp2_with fail
  refine (law_awake _ HV.out).mono ?_
  rintro e w0 ⟨rfl, hf0⟩
  have HV0 := Lib.hid (HV.out.fr hf0)
  clear HV
  by_cases hl : s.size ≤ 1000
  · have hlI : (s.size : Int) ≤ 1000 := by omega
    have HBL := Lib.hid (ba_len s)
    have HE := Lib.hid (fun h => readT_err (l := s.data.toList) h)
    have HO := Lib.hid (fun h => readT_ok (l := s.data.toList) h)
    go_wp2_with fail
    refine (tok_Read _ s (by omega) HV0.out).mono ?_
    rintro e w1 ⟨A1, c1, rfl, hs1, hf1⟩
    have HF := Lib.hid (hf0.call hf1 (fun _ h _ => h))
    clear hf0 hf1 HV0
    obtain ⟨⟨⟨er, at_⟩, o⟩, hr⟩ : ∃ p, readT s.data.toList = p := ⟨_, rfl⟩
    rw [hr] at hs1 HE HO ⊢
    have hmx : _ ≤ 9223372036854775807 := Nat.le_trans hs1.le (by have := hs1.max; unfold maxLen at this; exact this)
    have HS1 := Lib.hid hs1
    clear hs1 hr
    simp only at hmx HE HO ⊢
    by_cases h0 : er = 0
    · obtain ⟨_, hrd, hne, _⟩ := HO.out h0
      have hpos : 0 < o.length := List.length_pos_iff.2 hne
      have HP0 := Lib.hid (show PI s.data.toList o 0 0 from .inl ⟨hpos, Nat.zero_le _, by simpa using hrd⟩)
      subst h0
      clear hrd hne HE HO
      go_wp2_with fail
      go_loopw [7, 8] (fun pv i wr => ∃ k p : Nat, k ≤ o.length ∧ i = .int .i64 k ∧ pv = .int .i64 p ∧ Hid (Fr Nob w1 wr) ∧ Hid (PI s.data.toList o k p)) (fun _ i _ => o.length - (intOf i).toNat)
      case atStart => exact ⟨0, 0, Nat.zero_le _, rfl, rfl, Lib.hid (Fr.refl _ _), HP0⟩
      case round =>
        obtain ⟨k, p, hk, rfl, rfl, hfr, hpi⟩ := hrel
        by_cases hlt : k < o.length
        · have hI : (k : Int) < o.length := by omega
          have hI3 : 0 ≤ (k : Int) := by omega
          obtain ⟨q, T, hn⟩ := hpi.out.step hlt
          obtain ⟨ba, off, rfl, hba, d0, d1, d2, d3⟩ := tk_cells (HS1.out.pure hfr.out) hlt
          obtain ⟨_, hat⟩ := hn.at_
          rw [hat] at d0 d1 d2 d3
          clear hat
          have hpq := hn.le
          have hqs := hn.hi
          have HN := Lib.hid hn
          have htx : s.extract q (q + T.text.length) = ⟨T.text.toArray⟩ := by
            rw [cut_mid, show q + T.text.length - q = T.text.length by omega, hn.txt]
          clear hn
          have hlen : T.text.length = (ByteArray.mk T.text.toArray).size := by simp [ByteArray.size]
          rw [HBL.out] at hqs
          rw [hlen] at hqs htx
          have HLEN := Lib.hid hlen
          clear hlen
          simp only at d0 d1 d2 d3
          generalize ByteArray.mk T.text.toArray = tb at *
          have hpI : (p : Int) ≤ q := by omega
          have hqI : (q : Int) ≤ s.size := by omega
          have HTX := Lib.hid htx
          clear htx
          obtain ⟨wo, rfl⟩ : ∃ wo : World, wo = wr := ⟨_, rfl⟩
          go_wp2_with fail
          go_loop [7] (fun pv => ∃ j : Nat, p ≤ j ∧ j ≤ q ∧ pv = .int .i64 j) (fun pv => q - (intOf pv).toNat)
          case atStart => exact ⟨p, Nat.le_refl _, hpq, rfl⟩
          case round =>
            obtain ⟨j, hpj, hjq, rfl⟩ := hrel
            by_cases hjl : j < q
            · have hjI : (j : Int) < q := by omega
              have hjs : j < s.size := by omega
              have hjsI : (j : Int) < s.size := by omega
              have hb := HN.out.bl j (by rw [HBL.out]; exact hjs) hpj hjl
              have hb' : blankB s[j] = true := hb
              clear hb
              rcases (blank_iff _).1 hb' with hc | hc | hc
              all_goals
                clear hb'
                have e1 := u8_eq hc rfl
                clear hc
                go_wp2_with fail
                go_round
                case rel => exact ⟨j + 1, by omega, by omega, by go_num⟩
                case measure => simp [intOf]; omega
            · have hjq : j = q := by omega
              subst hjq
              have w1' : IntKind.i64.wrap ((j : Int) + tb.size) = j + tb.size := IntWalk.i64_in _ (by omega)
              have g1 : decide ((s.size : Int) - j < tb.size) = false := by simp; omega
              have HE := Lib.hid HN.out.end_
              have HK := Lib.hid HN.out.tok
              have HX := Lib.hid HN.out.next
              rw [HLEN.out] at HE HK HX
              rcases Nat.eq_zero_or_pos tb.size with hz | hz
              · obtain ⟨k1, k2⟩ := HE.out hz
                have hzI : ((tb.size : Int) == 0) = true := by rw [beq_iff_eq]; omega
                have kI : ((k : Int) == o.length - 1) = true := by rw [beq_iff_eq]; omega
                have K1 := Lib.hid k1
                rw [k2] at d0
                clear k2 HE HK hz k1
                go_wp2_with fail
                have htx := HTX.out
                go_quiet (fail)
                go_wp2_with fail
                go_roundw
                case rel => exact ⟨k + 1, j + tb.size, by omega, by go_num, by go_num, Lib.hid (hfr.out.drewN _), HX⟩
                case measure => simp [intOf]; omega
              · obtain ⟨k1, k2⟩ := HK.out hz
                have hzI : ((tb.size : Int) == 0) = false := by rw [beq_eq_false_iff_ne]; omega
                have kI : ((k : Int) == o.length - 1) = false := by rw [beq_eq_false_iff_ne]; omega
                have k2' : (T.kind == 0) = false := by simpa using k2
                clear k2 HE HK
                go_wp2_with fail
                have htx := HTX.out
                go_quiet (fail)
                go_wp2_with fail
                go_roundw
                case rel => exact ⟨k + 1, j + tb.size, by omega, by go_num, by go_num, Lib.hid (hfr.out.drewN _), HX⟩
                case measure => simp [intOf]; omega
        · have HD := Lib.hid (show p = s.size by have := hpi.out; rw [← HBL.out]; unfold PI at this; omega)
          obtain rfl := HD.out
          have hkk : (0 : Int) < o.length := by omega
          go_wp2_with fail
          go_ret
          exact ⟨rfl, HF.out.call hfr.out (fun _ h _ => h)⟩
    · obtain ⟨h1, h2⟩ := HE.out h0
      rw [HBL.out] at h2
      subst h1
      have h0' : (er != 0) = true := by simpa using h0
      have h2' : (at_ : Int) ≤ s.size := by omega
      clear HE HO h0
      go_wp2_with fail
      go_ret
      exact ⟨rfl, HF.out⟩
  · have hlI : (1000 : Int) < s.size := by omega
    go_wp2_with fail
    go_ret
    exact ⟨rfl, hf0⟩
end Go.Proofs.YtlhhnhbmiamhkaaDoor
