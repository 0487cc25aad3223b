/- Tokens: the small walks of the program: bytes, numbers, signs. -/
import Derived.Test.YtfebkjoohnlifaaDoorTplain
namespace Go.Proofs.YtfebkjoohnlifaaDoor
open Go.RowKit

theorem tw_len {α : Type} {p : α → Bool} : ∀ {l : List α} {k : Nat}, (∀ i, (hi : i < l.length) → i < k → p l[i] = true) → k ≤ l.length → (∀ hk : k < l.length, p l[k] = false) → (l.takeWhile p).length = k
  | [], k, _, hk, _ => by simp at hk; simp [hk]
  | a :: r, 0, _, _, he => by
    have := he (by simp)
    simp only [List.getElem_cons_zero] at this
    simp [this]
  | a :: r, k + 1, h, hk, he => by
    have h0 := h 0 (by simp) (by omega)
    simp only [List.getElem_cons_zero] at h0
    rw [List.takeWhile_cons, if_pos h0, List.length_cons]
    congr 1
    exact tw_len (fun i hi hik => by have := h (i + 1) (by simp; omega) (by omega); simpa using this) (by simpa using hk) (fun hk' => by have := he (by simp; omega); simpa using this)
theorem ba_get (s : ByteArray) (i : Nat) (h : i < s.size) : s.data.toList[i]'(by simpa using h) = s[i] := rfl
theorem ba_len (s : ByteArray) : s.data.toList.length = s.size := by simp

theorem tok_small (w : World) (c : UInt8) : Calls Tryd.prog 126 #[.int .u8 (c.toNat : Int)] w fun e w' => e = .returned (.bool (smallB c)) ∧ w = w' := by
  by_cases h1 : 97 ≤ c.toNat
  · by_cases h2 : c.toNat ≤ 122
    · have H := Lib.hid (show smallB c = true by simp [smallB, h1, h2])
      have i1 : (97 : Int) ≤ c.toNat := by omega
      have i2 : (c.toNat : Int) ≤ 122 := by omega
      clear h1 h2
      go_enter Tryd.func126, Tryd.ntmps126
      go_wp2
      go_ret
      exact ⟨ret1b H.out.symm, rfl⟩
    · have H := Lib.hid (show smallB c = false by simp [smallB, h2])
      have i1 : (97 : Int) ≤ c.toNat := by omega
      have i2 : ¬ (c.toNat : Int) ≤ 122 := by omega
      clear h1 h2
      go_enter Tryd.func126, Tryd.ntmps126
      go_wp2
      go_ret
      exact ⟨ret1b H.out.symm, rfl⟩
  · have H := Lib.hid (show smallB c = false by simp [smallB, h1])
    have i1 : ¬ (97 : Int) ≤ c.toNat := by omega
    clear h1
    go_enter Tryd.func126, Tryd.ntmps126
    go_wp2
    go_ret
    exact ⟨ret1b H.out.symm, rfl⟩
theorem tok_digit (w : World) (c : UInt8) : Calls Tryd.prog 127 #[.int .u8 (c.toNat : Int)] w fun e w' => e = .returned (.bool (digB c)) ∧ w = w' := by
  by_cases h1 : 48 ≤ c.toNat
  · by_cases h2 : c.toNat ≤ 57
    · have H := Lib.hid (show digB c = true by simp [digB, h1, h2])
      have i1 : (48 : Int) ≤ c.toNat := by omega
      have i2 : (c.toNat : Int) ≤ 57 := by omega
      clear h1 h2
      go_enter Tryd.func127, Tryd.ntmps127
      go_wp2
      go_ret
      exact ⟨ret1b H.out.symm, rfl⟩
    · have H := Lib.hid (show digB c = false by simp [digB, h2])
      have i1 : (48 : Int) ≤ c.toNat := by omega
      have i2 : ¬ (c.toNat : Int) ≤ 57 := by omega
      clear h1 h2
      go_enter Tryd.func127, Tryd.ntmps127
      go_wp2
      go_ret
      exact ⟨ret1b H.out.symm, rfl⟩
  · have H := Lib.hid (show digB c = false by simp [digB, h1])
    have i1 : ¬ (48 : Int) ≤ c.toNat := by omega
    clear h1
    go_enter Tryd.func127, Tryd.ntmps127
    go_wp2
    go_ret
    exact ⟨ret1b H.out.symm, rfl⟩
theorem ref_letter (w : World) (c : UInt8) : Calls Tryd.prog 135 #[.int .u8 (c.toNat : Int)] w fun e w' => e = .returned (.bool (smallB c)) ∧ w = w' := by
  by_cases h1 : 97 ≤ c.toNat
  · by_cases h2 : c.toNat ≤ 122
    · have H := Lib.hid (show smallB c = true by simp [smallB, h1, h2])
      have i1 : (97 : Int) ≤ c.toNat := by omega
      have i2 : (c.toNat : Int) ≤ 122 := by omega
      clear h1 h2
      go_enter Tryd.func135, Tryd.ntmps135
      go_wp2
      go_ret
      exact ⟨ret1b H.out.symm, rfl⟩
    · have H := Lib.hid (show smallB c = false by simp [smallB, h2])
      have i1 : (97 : Int) ≤ c.toNat := by omega
      have i2 : ¬ (c.toNat : Int) ≤ 122 := by omega
      clear h1 h2
      go_enter Tryd.func135, Tryd.ntmps135
      go_wp2
      go_ret
      exact ⟨ret1b H.out.symm, rfl⟩
  · have H := Lib.hid (show smallB c = false by simp [smallB, h1])
    have i1 : ¬ (97 : Int) ≤ c.toNat := by omega
    clear h1
    go_enter Tryd.func135, Tryd.ntmps135
    go_wp2
    go_ret
    exact ⟨ret1b H.out.symm, rfl⟩
theorem ref_digit (w : World) (c : UInt8) : Calls Tryd.prog 136 #[.int .u8 (c.toNat : Int)] w fun e w' => e = .returned (.bool (digB c)) ∧ w = w' := by
  by_cases h1 : 48 ≤ c.toNat
  · by_cases h2 : c.toNat ≤ 57
    · have H := Lib.hid (show digB c = true by simp [digB, h1, h2])
      have i1 : (48 : Int) ≤ c.toNat := by omega
      have i2 : (c.toNat : Int) ≤ 57 := by omega
      clear h1 h2
      go_enter Tryd.func136, Tryd.ntmps136
      go_wp2
      go_ret
      exact ⟨ret1b H.out.symm, rfl⟩
    · have H := Lib.hid (show digB c = false by simp [digB, h2])
      have i1 : (48 : Int) ≤ c.toNat := by omega
      have i2 : ¬ (c.toNat : Int) ≤ 57 := by omega
      clear h1 h2
      go_enter Tryd.func136, Tryd.ntmps136
      go_wp2
      go_ret
      exact ⟨ret1b H.out.symm, rfl⟩
  · have H := Lib.hid (show digB c = false by simp [digB, h1])
    have i1 : ¬ (48 : Int) ≤ c.toNat := by omega
    clear h1
    go_enter Tryd.func136, Tryd.ntmps136
    go_wp2
    go_ret
    exact ⟨ret1b H.out.symm, rfl⟩

theorem numLen_45 {r : List UInt8} : numLen (45 :: r) = if (r.takeWhile digB).length = 0 then 0 else (r.takeWhile digB).length + 1 := by simp [numLen]
theorem numLen_no {c : UInt8} {r : List UInt8} (h : ¬ c = 45) : numLen (c :: r) = ((c :: r).takeWhile digB).length := by simp [numLen, h]

/-- The bytes of s from f on, ahead of k, are all of a kind. -/
def Runs (p : UInt8 → Bool) (s : ByteArray) (f k : Nat) : Prop := ∀ i, (hi : i < s.size) → f ≤ i → i < k → p s[i] = true
theorem Runs.start (p : UInt8 → Bool) (s : ByteArray) (f : Nat) : Runs p s f f := fun i _ h1 h2 => absurd h2 (by omega)
theorem Runs.len {p : UInt8 → Bool} {s : ByteArray} {f k : Nat} (h : Runs p s f k) (hf : f ≤ k) (hk : k ≤ s.size) (he : ∀ hk : k < s.size, p s[k] = false) : ((s.data.toList.drop f).takeWhile p).length = k - f := by
  refine tw_len (fun i hi hik => ?_) (by simp; omega) (fun hk => ?_)
  · rw [List.getElem_drop]
    exact h (f + i) (by simp at hi; omega) (by omega) (by omega)
  · rw [List.getElem_drop]
    have e : f + (k - f) = k := by omega
    simp only [e]
    exact he (by simp at hk; omega)
theorem Runs.next {p : UInt8 → Bool} {s : ByteArray} {f k : Nat} (h : Runs p s f k) (hk : k < s.size) (hd : p s[k] = true) : Runs p s f (k + 1) := by
  intro i hi hf hik
  rcases Nat.lt_succ_iff_lt_or_eq.1 hik with h' | h'
  · exact h i hi hf h'
  · subst h'; exact hd
theorem list_cons (s : ByteArray) (h : 1 ≤ s.size) : s.data.toList = s[0] :: s.data.toList.drop 1 := by
  have h0 : 0 < s.data.toList.length := by simp; omega
  have := List.drop_eq_getElem_cons h0
  rw [List.drop_zero] at this
  exact this

theorem num_min {s : ByteArray} (h1 : 1 ≤ s.size) (h : s[0] = 45) {k : Nat} (hk : 1 ≤ k) (hn : ((s.data.toList.drop 1).takeWhile digB).length = k - 1) : (numLen s.data.toList : Int) = if ((k : Int) == 1) = true then 0 else (k : Int) := by
  rw [list_cons s h1, h, numLen_45, hn]
  by_cases h1 : k = 1
  · subst h1; rfl
  · rw [if_neg (by omega), if_neg (by simp; omega)]; omega
theorem num_dig {s : ByteArray} (h1 : 1 ≤ s.size) (h : ¬ s[0] = 45) {k : Nat} (hn : ((s.data.toList.drop 0).takeWhile digB).length = k - 0) : (numLen s.data.toList : Int) = if ((k : Int) == 0) = true then 0 else (k : Int) := by
  rw [List.drop_zero] at hn
  rw [list_cons s h1] at hn ⊢
  rw [numLen_no h, hn]
  by_cases h1 : k = 0
  · subst h1; rfl
  · rw [if_neg (by simp; omega)]; omega
set_option maxHeartbeats 1000000 in
theorem tok_number (w : World) (s : ByteArray) (h1 : 1 ≤ s.size) (hs : s.size ≤ 9223372036854775807) :
    Calls Tryd.prog 128 #[.string s] w fun e w' => e = .returned (.int .i64 (numLen s.data.toList)) ∧ w = w' := by
  by_cases h0 : s[0] = 45
  · have H0 := Lib.hid (fun (k : Nat) (hk : 1 ≤ k) (hn : ((s.data.toList.drop 1).takeWhile digB).length = k - 1) => num_min h1 h0 hk hn)
    have i0 : (s[0].toNat : Int) = 45 := by rw [h0]; rfl
    have h0' : ((s[0].toNat : Int) == 45) = true := by rw [i0]; rfl
    clear h0 i0
    go_enter Tryd.func128, Tryd.ntmps128
    go_wp2
    go_loop [4] (fun i => ∃ k : Nat, 1 ≤ k ∧ k ≤ s.size ∧ i = .int .i64 k ∧ Hid (Runs digB s 1 k)) (fun i => s.size - (intOf i).toNat)
    case atStart => exact ⟨1, Nat.le_refl _, by omega, rfl, Lib.hid (Runs.start _ _ _)⟩
    case round =>
      obtain ⟨k, hk0, hk, rfl, hd⟩ := hrel
      by_cases hlt : k < s.size
      · have hI : (k : Int) < s.size := by omega
        have HD := Lib.hid (fun W => tok_digit W s[k])
        have HN := Lib.hid (fun h => hd.out.next hlt h)
        have HE := Lib.hid (fun (h : digB s[k] = false) => hd.out.len hk0 hk (fun _ => h))
        generalize digB s[k] = b at *
        cases b
        · have HF := Lib.hid (HE.out rfl)
          have HM := Lib.hid (H0.out k hk0 HF.out)
          clear HE HN
          go_wp2_with ((go_at_call 127); refine (HD.out _).mono ?_; rintro e w' ⟨rfl, rfl⟩)
          all_goals (go_ret; exact ⟨ret1i (by rw [HM.out]; simp [*]), rfl⟩)
        · have HF := Lib.hid (HN.out rfl)
          clear HE HN
          go_wp2_with ((go_at_call 127); refine (HD.out _).mono ?_; rintro e w' ⟨rfl, rfl⟩)
          go_round
          case rel => exact ⟨k + 1, by omega, by omega, by go_num, HF⟩
          case measure => simp [intOf]; omega
      · have HF := Lib.hid (hd.out.len hk0 hk (fun h => absurd h hlt))
        have HM := Lib.hid (H0.out k hk0 HF.out)
        go_wp2_with fail
        all_goals (go_ret; exact ⟨ret1i (by rw [HM.out]; simp [*]), rfl⟩)
  · have H0 := Lib.hid (fun (k : Nat) (_hk : 0 ≤ k) (hn : ((s.data.toList.drop 0).takeWhile digB).length = k - 0) => num_dig h1 h0 hn)
    have h0' : ((s[0].toNat : Int) == 45) = false := by
      rw [beq_eq_false_iff_ne]; intro e; exact h0 (UInt8.toNat_inj.1 (by rw [show (45 : UInt8).toNat = 45 from rfl]; omega))
    clear h0
    go_enter Tryd.func128, Tryd.ntmps128
    go_wp2
    go_loop [4] (fun i => ∃ k : Nat, 0 ≤ k ∧ k ≤ s.size ∧ i = .int .i64 k ∧ Hid (Runs digB s 0 k)) (fun i => s.size - (intOf i).toNat)
    case atStart => exact ⟨0, Nat.le_refl _, by omega, rfl, Lib.hid (Runs.start _ _ _)⟩
    case round =>
      obtain ⟨k, hk0, hk, rfl, hd⟩ := hrel
      by_cases hlt : k < s.size
      · have hI : (k : Int) < s.size := by omega
        have HD := Lib.hid (fun W => tok_digit W s[k])
        have HN := Lib.hid (fun h => hd.out.next hlt h)
        have HE := Lib.hid (fun (h : digB s[k] = false) => hd.out.len hk0 hk (fun _ => h))
        generalize digB s[k] = b at *
        cases b
        · have HF := Lib.hid (HE.out rfl)
          have HM := Lib.hid (H0.out k hk0 HF.out)
          clear HE HN
          go_wp2_with ((go_at_call 127); refine (HD.out _).mono ?_; rintro e w' ⟨rfl, rfl⟩)
          all_goals (go_ret; exact ⟨ret1i (by rw [HM.out]; simp [*]), rfl⟩)
        · have HF := Lib.hid (HN.out rfl)
          clear HE HN
          go_wp2_with ((go_at_call 127); refine (HD.out _).mono ?_; rintro e w' ⟨rfl, rfl⟩)
          go_round
          case rel => exact ⟨k + 1, by omega, by omega, by go_num, HF⟩
          case measure => simp [intOf]; omega
      · have HF := Lib.hid (hd.out.len hk0 hk (fun h => absurd h hlt))
        have HM := Lib.hid (H0.out k hk0 HF.out)
        go_wp2_with fail
        all_goals (go_ret; exact ⟨ret1i (by rw [HM.out]; simp [*]), rfl⟩)
end Go.Proofs.YtfebkjoohnlifaaDoor
