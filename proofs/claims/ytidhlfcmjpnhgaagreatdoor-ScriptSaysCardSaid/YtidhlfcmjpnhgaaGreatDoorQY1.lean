/- Numbers, sums and frames as bytes, in plain words. -/
import Derived.Lib.BitFns
namespace Go.Proofs.YtidhlfcmjpnhgaaGreatDoor

/-- A number's bytes, the highest first; none of nought. -/
def beF : Nat → Nat → List UInt8
  | 0, _ => []
  | f + 1, x => if x = 0 then [] else beF f (x / 256) ++ [UInt8.ofNat (x % 256)]
theorem beF_fuel : ∀ (n m u : Nat), u ≤ n → u ≤ m → beF n u = beF m u
  | 0, 0, _, _, _ => rfl
  | 0, m + 1, u, h, _ => by
    have : u = 0 := by omega
    subst this; simp [beF]
  | n + 1, 0, u, _, h => by
    have : u = 0 := by omega
    subst this; simp [beF]
  | n + 1, m + 1, u, h1, h2 => by
    simp only [beF]
    split
    · rfl
    · rw [beF_fuel n m (u / 256) (by omega) (by omega)]
def be (x : Nat) : List UInt8 := beF x x
theorem be_zero : be 0 = [] := rfl
theorem be_pos {x : Nat} (h : x ≠ 0) : be x = be (x / 256) ++ [UInt8.ofNat (x % 256)] := by
  obtain ⟨k, rfl⟩ : ∃ k, x = k + 1 := ⟨x - 1, by omega⟩
  unfold be
  rw [show beF (k + 1) (k + 1) = beF k ((k + 1) / 256) ++ [UInt8.ofNat ((k + 1) % 256)] by simp [beF]]
  rw [beF_fuel k ((k + 1) / 256) ((k + 1) / 256) (by omega) (Nat.le_refl _)]
/-- How many bytes. -/
theorem be_len : ∀ (x : Nat), x < 18446744073709551616 → (be x).length = (Go.Lib.bitLen x + 7) / 8 := by
  intro x
  induction x using Nat.strongRecOn with
  | _ x ih =>
    intro h
    by_cases h0 : x = 0
    · subst h0; decide
    · rw [be_pos h0, List.length_append, List.length_singleton, ih (x / 256) (by omega) (by omega)]
      by_cases h1 : 256 ≤ x
      · rw [Go.Lib.bitLen_shift8 x h1 h]; omega
      · rw [show x / 256 = 0 by omega]
        have h2 := Go.Lib.bitLen_le8 ⟨x, by omega⟩
        have h3 := Go.Lib.bitLen_half x h0 (by omega)
        simp only at h2
        rw [show Go.Lib.bitLen 0 = 0 by decide]
        omega
theorem be_le8 {x : Nat} (h : x < 18446744073709551616) : (be x).length ≤ 8 := by
  rw [be_len x h]
  have := Go.Lib.bitLen_le x 64 (by omega) (by omega)
  omega
theorem pow_step (a k : Nat) : a / 256 ^ (k + 1) = a / 256 / 256 ^ k := by rw [Nat.pow_succ, Nat.mul_comm, Nat.div_div_eq_div_mul]
/-- One byte of them. -/
theorem be_get : ∀ (x i : Nat) (h : i < (be x).length), (be x)[i] = UInt8.ofNat (x / 256 ^ ((be x).length - 1 - i) % 256) := by
  intro x
  induction x using Nat.strongRecOn with
  | _ x ih =>
    intro i h
    by_cases h0 : x = 0
    · subst h0; simp [be_zero] at h
    · have hb := be_pos h0
      have hl : (be x).length = (be (x / 256)).length + 1 := by rw [hb]; simp
      rw [List.getElem_of_eq hb]
      by_cases hi : i < (be (x / 256)).length
      · rw [List.getElem_append_left hi, ih (x / 256) (by omega) i hi, hl]
        obtain ⟨k, hk⟩ : ∃ k, (be (x / 256)).length - 1 - i = k := ⟨_, rfl⟩
        rw [hk, show (be (x / 256)).length + 1 - 1 - i = k + 1 by omega, pow_step]
      · have e : i = (be (x / 256)).length := by omega
        rw [List.getElem_append_right (by omega)]
        simp only [List.getElem_singleton, hl]
        rw [show (be (x / 256)).length + 1 - 1 - i = 0 by omega, Nat.pow_zero, Nat.div_one]
theorem be_ne {x : Nat} (h : x ≠ 0) : be x ≠ [] := by rw [be_pos h]; simp
/-- A number as it is put. -/
def numO (x : Nat) : List UInt8 := if x < 248 then [UInt8.ofNat x] else UInt8.ofNat (247 + (be x).length) :: be x
theorem numO_len {x : Nat} (h : x < 18446744073709551616) : 1 ≤ (numO x).length ∧ (numO x).length ≤ 9 := by
  unfold numO
  have := be_le8 h
  split <;> simp; omega
def textO (s : List UInt8) : List UInt8 := numO s.length ++ s
def signO (n : Int) : Nat := if 0 ≤ n then 2 * n.toNat else 2 * (-(n + 1)).toNat + 1
theorem signO_lt {n : Int} (h1 : -9223372036854775808 ≤ n) (h2 : n ≤ 9223372036854775807) : signO n < 18446744073709551616 := by
  unfold signO; split <;> omega

/-- A step of the register with a bit. -/
def stepR (s bit : Nat) : Nat := if s / 8388608 % 2 ≠ bit then (s * 2 % 16777216) ^^^ 0x864CFB else s * 2 % 16777216
theorem stepR_lt (s bit : Nat) : stepR s bit < 16777216 := by
  unfold stepR
  have h : s * 2 % 16777216 < 2 ^ 24 := by have := Nat.mod_lt (s * 2) (show 16777216 > 0 by decide); omega
  split
  · exact Nat.xor_lt_two_pow h (by decide)
  · exact h
theorem shl_mod (a : Nat) (n : Nat) : (a * 2 ^ n) % 2 ^ (n + 24) = (a % 2 ^ 24) * 2 ^ n := by
  rw [Nat.pow_add, Nat.mul_comm a, Nat.mul_mod_mul_left, Nat.mul_comm]
theorem two_xor (a b : Nat) : (a ^^^ b) * 2 = (a * 2) ^^^ (b * 2) := by
  have := Nat.shiftLeft_xor_distrib (a := a) (b := b) (i := 1)
  simpa [Nat.shiftLeft_eq] using this
/-- What lies low is only shifted. -/
theorem stepR_lin {a b bit : Nat} (ha : a < 8388608) : stepR (a ^^^ b) bit = (a * 2) ^^^ stepR b bit := by
  have ht : (a ^^^ b) / 8388608 % 2 = b / 8388608 % 2 := by
    have h1 : (a ^^^ b) / 2 ^ 23 = b / 2 ^ 23 := by
      rw [← Nat.shiftRight_eq_div_pow, Nat.shiftRight_xor_distrib, Nat.shiftRight_eq_div_pow, Nat.shiftRight_eq_div_pow, Nat.div_eq_of_lt (by omega), Nat.zero_xor]
    rw [show (8388608 : Nat) = 2 ^ 23 by decide, h1]
  have hm : (a ^^^ b) * 2 % 16777216 = (a * 2) ^^^ (b * 2 % 16777216) := by
    rw [two_xor, show (16777216 : Nat) = 2 ^ 24 by decide, Nat.xor_mod_two_pow, Nat.mod_eq_of_lt (show a * 2 < 2 ^ 24 by omega)]
  unfold stepR
  rw [ht, hm]
  split
  · rw [Nat.xor_assoc]
  · rfl
/-- Four steps, by the bits of a half. -/
def fourR (s c : Nat) : Nat := stepR (stepR (stepR (stepR s (c / 8 % 2)) (c / 4 % 2)) (c / 2 % 2)) (c % 2)
def turnsR : List Nat := [0x000000, 0x864CFB, 0x8AD50D, 0x0C99F6, 0x93E6E1, 0x15AA1A, 0x1933EC, 0x9F7F17, 0xA18139, 0x27CDC2, 0x2B5434, 0xAD18CF, 0x3267D8, 0xB42B23, 0xB8B2D5, 0x3EFE2E]
theorem four_top : ∀ (h c : Fin 16), fourR (h.val * 1048576) c.val = turnsR.getD (h.val ^^^ c.val) 0 := by decide +kernel
theorem top_low {s : Nat} : s = (s % 1048576) ^^^ (s / 1048576 * 1048576) := by
  have h : s / 1048576 * 1048576 + s % 1048576 = s := Nat.div_add_mod' s 1048576
  have h2 : (s / 1048576) * 2 ^ 20 ||| (s % 1048576) = (s / 1048576) * 2 ^ 20 + s % 1048576 := by
    rw [← Nat.shiftLeft_eq, Nat.shiftLeft_add_eq_or_of_lt (Nat.mod_lt _ (by decide))]
  have h3 : (s % 1048576) &&& (s / 1048576 * 2 ^ 20) = 0 := by
    apply Nat.eq_of_testBit_eq
    intro i
    rw [Nat.testBit_and, Nat.zero_testBit, Nat.testBit_mul_two_pow]
    by_cases hi : 20 ≤ i
    · rw [Nat.testBit_lt_two_pow (Nat.lt_of_lt_of_le (Nat.mod_lt s (show 1048576 > 0 by decide)) (by rw [show (1048576 : Nat) = 2 ^ 20 by decide]; exact Nat.pow_le_pow_right (by decide) hi)), Bool.false_and]
    · simp [hi]
  apply Nat.eq_of_testBit_eq
  intro i
  have ho := congrArg (fun z => z.testBit i) h2
  have ha := congrArg (fun z => z.testBit i) h3
  simp only [Nat.testBit_or, Nat.testBit_and, Nat.zero_testBit] at ho ha
  rw [Nat.testBit_xor, show (1048576 : Nat) = 2 ^ 20 by decide] at *
  rw [show s / 2 ^ 20 * 2 ^ 20 + s % 2 ^ 20 = s from h] at ho
  rw [← ho]
  revert ha
  cases (s % 2 ^ 20).testBit i <;> cases (s / 2 ^ 20 * 2 ^ 20).testBit i <;> simp
theorem fourR_eq {s c : Nat} (hs : s < 16777216) (hc : c < 16) : fourR s c = (s * 16 % 16777216) ^^^ turnsR.getD ((s / 1048576) ^^^ c) 0 := by
  have h1 : s / 1048576 < 16 := by omega
  have hl : s % 1048576 < 1048576 := Nat.mod_lt _ (by decide)
  have ht := four_top ⟨s / 1048576, h1⟩ ⟨c, hc⟩
  simp only at ht
  rw [← ht]
  generalize hL : s % 1048576 = L at *
  generalize hH : s / 1048576 = H at *
  have hs2 : s = L ^^^ (H * 1048576) := by rw [← hL, ← hH]; exact top_low
  have hm : s * 16 % 16777216 = L * 16 := by
    have : s = H * 1048576 + L := by omega
    rw [this]; omega
  rw [hm, hs2]
  unfold fourR
  rw [stepR_lin (by omega), stepR_lin (by omega), stepR_lin (by omega), stepR_lin (by omega), show L * 2 * 2 * 2 * 2 = L * 16 by omega]
def byteR (s : Nat) (b : UInt8) : Nat := fourR (fourR s (b.toNat / 16)) (b.toNat % 16)
theorem fourR_lt (s c : Nat) : fourR s c < 16777216 := stepR_lt _ _
theorem byteR_lt (s : Nat) (b : UInt8) : byteR s b < 16777216 := fourR_lt _ _
theorem byteR_bits (s : Nat) (b : UInt8) : byteR s b = stepR (stepR (stepR (stepR (stepR (stepR (stepR (stepR s (b.toNat / 128 % 2)) (b.toNat / 64 % 2)) (b.toNat / 32 % 2)) (b.toNat / 16 % 2)) (b.toNat / 8 % 2)) (b.toNat / 4 % 2)) (b.toNat / 2 % 2)) (b.toNat % 2) := by
  have hb := b.toNat_lt
  unfold byteR fourR
  rw [show b.toNat / 16 / 8 % 2 = b.toNat / 128 % 2 by omega, show b.toNat / 16 / 4 % 2 = b.toNat / 64 % 2 by omega, show b.toNat / 16 / 2 % 2 = b.toNat / 32 % 2 by omega, show b.toNat % 16 / 8 % 2 = b.toNat / 8 % 2 by omega, show b.toNat % 16 / 4 % 2 = b.toNat / 4 % 2 by omega, show b.toNat % 16 / 2 % 2 = b.toNat / 2 % 2 by omega, show b.toNat % 16 % 2 = b.toNat % 2 by omega]
def moreR (s : Nat) (l : List UInt8) : Nat := l.foldl byteR s
theorem moreR_lt {s : Nat} (hs : s < 16777216) (l : List UInt8) : moreR s l < 16777216 := by
  unfold moreR
  induction l generalizing s with
  | nil => exact hs
  | cons b l ih => exact ih (byteR_lt s b)
theorem moreR_snoc (s : Nat) (l : List UInt8) (b : UInt8) : moreR s (l ++ [b]) = byteR (moreR s l) b := by simp [moreR]
def sumR (l : List UInt8) : Nat := moreR 0xB704CE l
theorem sumR_lt (l : List UInt8) : sumR l < 16777216 := moreR_lt (by decide) l
def crcB (s : Nat) : List UInt8 := [UInt8.ofNat (s / 65536 % 256), UInt8.ofNat (s / 256 % 256), UInt8.ofNat (s % 256)]
/-- A frame's bytes. -/
def headF (kind : UInt8) (body : List UInt8) : List UInt8 := [kind, UInt8.ofNat (body.length / 256), UInt8.ofNat (body.length % 256)] ++ body
def frameO (kind : UInt8) (body : List UInt8) : List UInt8 := [165] ++ headF kind body ++ crcB (sumR (headF kind body))
end Go.Proofs.YtidhlfcmjpnhgaaGreatDoor
