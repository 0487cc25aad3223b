/- The law of two texts. -/
import Derived.Test.YtlhhnhbmiamhkaaDoorTlaw1
namespace Go.Proofs.YtlhhnhbmiamhkaaDoor
open Go.RowKit Go.Shelf

/-- The tokens of two texts: which is which. -/
structure Two (x y z : List (TK × Nat)) (n : Nat) (L : Nat) : Prop where
  lx : x.length = n + 1
  lz : z.length = n + y.length
  ly : 0 < y.length
  fst : ∀ k (_ : k < n) (h1 : k < z.length) (h2 : k < x.length), z[k] = x[k]
  snd : ∀ k (_ : n ≤ k) (h1 : k < z.length) (h2 : k - n < y.length), z[k] = (y[k - n].1, y[k - n].2 + (L + 1))
theorem tok_at (s : List UInt8) (n : Nat) : ∀ (p : Nat) (o : List (TK × Nat)), s.length - p ≤ n → p ≤ s.length → rdT p (s.drop p) = ((0, 0), o) → ∀ x ∈ o, x.2 ≤ s.length := by
  induction n with
  | zero =>
    intro p o hn hp h x hx
    have : p = s.length := by omega
    subst this
    rw [List.drop_length, rdT_nil] at h
    simp only [Prod.mk.injEq, true_and] at h
    subst h
    simp only [List.mem_singleton] at hx
    subst hx
    exact Nat.le_refl _
  | succ n ih =>
    intro p o hn hp h x hx
    obtain ⟨q, T, o', H⟩ := rd_head s _ p o (Nat.le_refl _) hp h
    rw [H.eq] at hx
    have h5 := H.hi
    have h6 := H.le
    rcases Nat.eq_zero_or_pos T.text.length with h0 | h0
    · obtain ⟨_, h2, _⟩ := H.at_end h0
      rw [h2] at hx
      simp only [List.mem_singleton] at hx
      subst hx
      simp only; omega
    · obtain ⟨_, _, _, h4, _⟩ := H.tok h0
      rcases List.mem_cons.1 hx with rfl | hx
      · simp only; omega
      · exact ih _ o' (by omega) (by omega) h4 x hx
theorem two_of {x y o : List (TK × Nat)} {L : Nat} (hx : x = o ++ [(tk0, L)]) (hy : y ≠ []) : Two x y (o ++ moved (L + 1) y) o.length L := by
  subst hx
  refine ⟨by simp, by simp [moved], List.length_pos_iff.2 hy, fun k h h1 h2 => ?_, fun k h h1 h2 => ?_⟩
  · rw [List.getElem_append_left h, List.getElem_append_left h]
  · rw [List.getElem_append_right h]
    simp [moved]

theorem str_two (s t : ByteArray) (b : UInt8) : (s ++ ByteArray.mk #[b] ++ t).data.toList = s.data.toList ++ b :: t.data.toList := by simp
set_option maxRecDepth 100000 in
set_option maxHeartbeats 8000000 in
theorem law_TokenTwo (w : World) (s t : ByteArray) (kb : Nat) (hv : ErrVar w) : Calls Tryd.prog 5 #[.string s, .string t, .int .u8 kb] w fun e w' => e = .returned (.bool true) ∧ Fr Nob w w' := by
  have HV := Lib.hid hv
  clear hv
  go_enter Tryd.func5, Tryd.ntmps5
  go_wp2_with fail
  refine (law_awake _ HV.out).mono ?_
  rintro e w0 ⟨rfl, hf0⟩
  have HV0 := Lib.hid (HV.out.fr hf0)
  clear HV
  by_cases hl : s.size ≤ 255
  · have hlI : (s.size : Int) ≤ 255 := by omega
    by_cases hl2 : t.size ≤ 255
    · have hlI2 : (t.size : Int) ≤ 255 := by omega
      have hcase : ∃ b : UInt8, blankB b = true ∧ ((((kb : Int) == 1) = true ∧ b = 9) ∨ (((kb : Int) == 1) = false ∧ ((kb : Int) == 2) = true ∧ b = 10) ∨ (((kb : Int) == 1) = false ∧ ((kb : Int) == 2) = false ∧ b = 32)) := by
        by_cases h1 : (kb : Int) = 1
        · exact ⟨9, rfl, .inl ⟨by simpa using h1, rfl⟩⟩
        · by_cases h2 : (kb : Int) = 2
          · exact ⟨10, rfl, .inr (.inl ⟨by simpa using h1, by simpa using h2, rfl⟩)⟩
          · exact ⟨32, rfl, .inr (.inr ⟨by simpa using h1, by simpa using h2, rfl⟩)⟩
      obtain ⟨b, hb, hcs⟩ := hcase
      have HT2 := readT_two hb (s := s.data.toList) (t := t.data.toList) (by rw [ba_len]; exact hl) (by rw [ba_len]; exact hl2)
      rw [ba_len] at HT2
      have HEs := fun h => (readT_err (l := s.data.toList) h).1
      have HEt := fun h => readT_err (l := t.data.toList) h
      have HOt := fun h => (readT_ok (l := t.data.toList) h).2.2.1
      have HAt := fun h => tok_at t.data.toList _ 0 _ (Nat.le_refl _) (Nat.zero_le _) (by simpa using (readT_ok (l := t.data.toList) h).2.1)
      rw [ba_len] at HAt
      rw [ba_len] at HEt
      have R1 := Lib.hid (fun W h => tok_Read W s (by omega) h)
      have R2 := Lib.hid (fun W h => tok_Read W t (by omega) h)
      have R3 := Lib.hid (fun W h => tok_Read W (s ++ ByteArray.mk #[b] ++ t) (by rw [ByteArray.size_append, ByteArray.size_append, show (ByteArray.mk #[b]).size = 1 from rfl]; omega) h)
      rw [str_two] at R3
      generalize readT s.data.toList = px at *
      generalize readT t.data.toList = py at *
      generalize readT (s.data.toList ++ b :: t.data.toList) = pz at *
      obtain ⟨⟨e1, a1⟩, x⟩ := px
      obtain ⟨⟨e2, a2⟩, y⟩ := py
      simp only at HT2 HEs HEt HOt HAt
      obtain ⟨T1, T2, T3⟩ := HT2
      by_cases h1 : e1 = 0
      · by_cases h2 : e2 = 0
        · obtain ⟨o, hx, rfl⟩ := T3 h1 h2
          have HW := Lib.hid (two_of hx (HOt h2))
          have HA := Lib.hid (HAt h2)
          clear T1 T2 T3 HEs HEt HOt HAt hx
          subst h1 h2
          generalize o ++ moved (s.size + 1) y = z at *
          generalize o.length = n at *
          have lx := HW.out.lx
          have lz := HW.out.lz
          have ly := HW.out.ly
          have LX := Lib.hid lx
          have q1 : ((x.length : Int) == 0) = false := by rw [beq_eq_false_iff_ne]; omega
          have q2 : ((z.length : Int) == (x.length : Int) - 1 + y.length) = true := by rw [beq_iff_eq]; omega
          have b1 : n < x.length := by omega
          have b2 : x.length ≤ n + 1 := by omega
          have b3 : n + y.length ≤ z.length := by omega
          have b4 : z.length ≤ n + y.length := by omega
          clear lx lz
          rcases hcs with ⟨k1, rfl⟩ | ⟨k1, k2, rfl⟩ | ⟨k1, k2, rfl⟩
          all_goals
            go_wp2_with fail
            refine (R1.out _ HV0.out).mono ?_
            rintro e w1 ⟨A1, c1, rfl, hs, hf⟩
            have hm1 := show _ ≤ 9223372036854775807 from Nat.le_trans hs.le (by have := hs.max; unfold maxLen at this; exact this)
            try simp only at hm1
            have S1 := Lib.hid hs
            have G1 := Lib.hid hf
            clear hs hf
            have HV1 := Lib.hid (HV0.out.fr G1.out)
            go_wp2_with fail
            refine (R2.out _ HV1.out).mono ?_
            rintro e w2 ⟨A2, c2, rfl, hs, hf⟩
            have hm2 := show _ ≤ 9223372036854775807 from Nat.le_trans hs.le (by have := hs.max; unfold maxLen at this; exact this)
            try simp only at hm2
            have S2 := Lib.hid hs
            have G2 := Lib.hid hf
            clear hs hf
            have HV2 := Lib.hid (HV1.out.fr G2.out)
            go_wp2_with fail
            refine (R3.out _ HV2.out).mono ?_
            rintro e w3 ⟨A3, c3, rfl, hs, hf⟩
            have hm3 := show _ ≤ 9223372036854775807 from Nat.le_trans hs.le (by have := hs.max; unfold maxLen at this; exact this)
            try simp only at hm3
            have S3 := Lib.hid hs
            have G3 := Lib.hid hf
            clear hs hf
            have HF := Lib.hid (((hf0.call G1.out (fun _ h _ => h)).call G2.out (fun _ h _ => h)).call G3.out (fun _ h _ => h))
            clear HV0 HV1 HV2 hf0
            go_wp2_with fail
            go_loopw [18] (fun i wr => ∃ k : Nat, k ≤ z.length ∧ i = .int .i64 k ∧ Hid (Fr Nob w3 wr)) (fun i _ => z.length - (intOf i).toNat)
            case atStart => exact ⟨0, Nat.zero_le _, rfl, Lib.hid (Fr.refl _ _)⟩
            case round =>
              obtain ⟨k, hk, rfl, hfr⟩ := hrel
              by_cases hlt : k < z.length
              · have hI : (k : Int) < z.length := by omega
                have hI3 : 0 ≤ (k : Int) := by omega
                obtain ⟨b3, off3, rfl, hb3, f0, f1, f2, f3⟩ := tk_cells (S3.out.pure hfr.out) hlt
                have hG2 := G2.out.call (G3.out.call hfr.out (fun _ h _ => h)) (fun _ h _ => h)
                have hG3 := G3.out.call hfr.out (fun _ h _ => h)
                by_cases hkn : k < n
                · have hnI : (k : Int) < (x.length : Int) - 1 := by omega
                  have hxI : (k : Int) < x.length := by omega
                  obtain ⟨b1', off1, rfl, hb1, d0, d1, d2, d3⟩ := tk_cells (k := k) (S1.out.pure hG2) (by omega)
                  have he := HW.out.fst k hkn hlt (by omega)
                  rw [← he] at d0 d1 d2 d3
                  clear he
                  generalize z[k] = v at *
                  obtain ⟨⟨ki, tx, nu⟩, pl⟩ := v
                  simp only at d0 d1 d2 d3 f0 f1 f2 f3
                  generalize ByteArray.mk tx.toArray = tb at *
                  clear hG2 hG3
                  go_wp2_with fail
                  go_quiet (fail)
                  go_wp2_with fail
                  go_roundw
                  case rel => exact ⟨k + 1, by omega, by go_num, Lib.hid (hfr.out.drewN _)⟩
                  case measure => simp [intOf]; omega
                · have hnI : (x.length : Int) - 1 ≤ k := by omega
                  obtain ⟨b2', off2, rfl, hb2, d0, d1, d2, d3⟩ := tk_cells (k := k - n) (S2.out.pure hG3) (by omega)
                  have he := HW.out.snd k (by omega) hlt (by omega)
                  rw [he] at f0 f1 f2 f3
                  clear he
                  have iI : (k : Int) - x.length + 1 = ((k - n : Nat) : Int) := by have := LX.out; omega
                  have iI2 : ((k - n : Nat) : Int) < y.length := by omega
                  have hpl := HA.out _ (List.getElem_mem (show k - n < y.length by omega))
                  generalize y[k - n] = v at *
                  generalize k - n = i at *
                  obtain ⟨⟨ki, tx, nu⟩, pl⟩ := v
                  simp only at d0 d1 d2 d3 f0 f1 f2 f3 hpl
                  rw [show ((pl + (s.size + 1) : Nat) : Int) = (pl : Int) + s.size + 1 by omega] at f3
                  generalize ByteArray.mk tx.toArray = tb at *
                  clear hG2 hG3
                  have w1' : IntKind.i64.wrap ((pl : Int) + s.size) = pl + s.size := IntWalk.i64_in _ (by omega)
                  have w2' : IntKind.i64.wrap ((pl : Int) + s.size + 1) = pl + s.size + 1 := IntWalk.i64_in _ (by omega)
                  go_wp2_with fail
                  go_quiet (fail)
                  go_wp2_with fail
                  go_roundw
                  case rel => exact ⟨k + 1, by omega, by go_num, Lib.hid ((hfr.out.alloc _).drewN _)⟩
                  case measure => simp [intOf]; omega
              · go_wp2_with fail
                go_ret
                exact ⟨rfl, HF.out.call hfr.out (fun _ h _ => h)⟩
        · rw [T2 h1 h2] at R3
          obtain ⟨rfl, ha⟩ := HEt h2
          subst h1
          have h2' : (e2 != 0) = true := by simpa using h2
          have haI : (a2 : Int) ≤ 255 := by omega
          clear T1 T2 T3 HEs HEt HOt HAt h2
          rcases hcs with ⟨k1, rfl⟩ | ⟨k1, k2, rfl⟩ | ⟨k1, k2, rfl⟩
          all_goals
            go_wp2_with fail
            refine (R1.out _ HV0.out).mono ?_
            rintro e w1 ⟨A1, c1, rfl, hs, hf⟩
            have hm1 := show _ ≤ 9223372036854775807 from Nat.le_trans hs.le (by have := hs.max; unfold maxLen at this; exact this)
            try simp only at hm1
            have S1 := Lib.hid hs
            have G1 := Lib.hid hf
            clear hs hf
            have HV1 := Lib.hid (HV0.out.fr G1.out)
            go_wp2_with fail
            refine (R2.out _ HV1.out).mono ?_
            rintro e w2 ⟨A2, c2, rfl, hs, hf⟩
            have hm2 := show _ ≤ 9223372036854775807 from Nat.le_trans hs.le (by have := hs.max; unfold maxLen at this; exact this)
            try simp only at hm2
            have S2 := Lib.hid hs
            have G2 := Lib.hid hf
            clear hs hf
            have HV2 := Lib.hid (HV1.out.fr G2.out)
            go_wp2_with fail
            refine (R3.out _ HV2.out).mono ?_
            rintro e w3 ⟨A3, c3, rfl, hs, hf⟩
            have hm3 := show _ ≤ 9223372036854775807 from Nat.le_trans hs.le (by have := hs.max; unfold maxLen at this; exact this)
            try simp only at hm3
            have S3 := Lib.hid hs
            have G3 := Lib.hid hf
            clear hs hf
            have HF := Lib.hid (((hf0.call G1.out (fun _ h _ => h)).call G2.out (fun _ h _ => h)).call G3.out (fun _ h _ => h))
            clear HV0 HV1 HV2 hf0
            go_wp2_with fail
            go_ret
            exact ⟨rfl, HF.out⟩
      · rw [T1 h1] at R3
        obtain rfl := HEs h1
        have h1' : (e1 != 0) = true := by simpa using h1
        clear T1 T2 T3 HEs HEt HOt HAt h1
        rcases hcs with ⟨k1, rfl⟩ | ⟨k1, k2, rfl⟩ | ⟨k1, k2, rfl⟩
        all_goals
          go_wp2_with fail
          refine (R1.out _ HV0.out).mono ?_
          rintro e w1 ⟨A1, c1, rfl, hs, hf⟩
          have hm1 := show _ ≤ 9223372036854775807 from Nat.le_trans hs.le (by have := hs.max; unfold maxLen at this; exact this)
          try simp only at hm1
          have S1 := Lib.hid hs
          have G1 := Lib.hid hf
          clear hs hf
          have HV1 := Lib.hid (HV0.out.fr G1.out)
          go_wp2_with fail
          refine (R2.out _ HV1.out).mono ?_
          rintro e w2 ⟨A2, c2, rfl, hs, hf⟩
          have hm2 := show _ ≤ 9223372036854775807 from Nat.le_trans hs.le (by have := hs.max; unfold maxLen at this; exact this)
          try simp only at hm2
          have S2 := Lib.hid hs
          have G2 := Lib.hid hf
          clear hs hf
          have HV2 := Lib.hid (HV1.out.fr G2.out)
          go_wp2_with fail
          refine (R3.out _ HV2.out).mono ?_
          rintro e w3 ⟨A3, c3, rfl, hs, hf⟩
          have hm3 := show _ ≤ 9223372036854775807 from Nat.le_trans hs.le (by have := hs.max; unfold maxLen at this; exact this)
          try simp only at hm3
          have S3 := Lib.hid hs
          have G3 := Lib.hid hf
          clear hs hf
          have HF := Lib.hid (((hf0.call G1.out (fun _ h _ => h)).call G2.out (fun _ h _ => h)).call G3.out (fun _ h _ => h))
          clear HV0 HV1 HV2 hf0
          go_wp2_with fail
          go_ret
          exact ⟨rfl, HF.out⟩
    · have hlI2 : (255 : Int) < t.size := by omega
      go_wp2_with fail
      go_ret
      exact ⟨rfl, hf0⟩
  · have hlI : (255 : Int) < s.size := by omega
    go_wp2_with fail
    go_ret
    exact ⟨rfl, hf0⟩
end Go.Proofs.YtlhhnhbmiamhkaaDoor
