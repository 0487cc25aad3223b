/- Tokens in plain words: bytes, numbers, signs. No program in sight. -/
import Derived.Test.YtidhlfcmjpnhgaaGreatDoorSA
import Derived.Lib.ParseIntBTie
namespace Go.Proofs.YtidhlfcmjpnhgaaGreatDoor

def smallB (c : UInt8) : Bool := decide (97 ≤ c.toNat) && decide (c.toNat ≤ 122)
def digB (c : UInt8) : Bool := decide (48 ≤ c.toNat) && decide (c.toNat ≤ 57)
def wordB (c : UInt8) : Bool := smallB c || digB c || c == 95
def blankB (c : UInt8) : Bool := c == 32 || c == 9 || c == 10

/-- Digits' value. -/
def dstep (a : Nat) (c : UInt8) : Nat := a * 10 + (c.toNat - 48)
def ddec (acc : Nat) (l : List UInt8) : Nat := l.foldl dstep acc
theorem ddec_cons (c : UInt8) (r : List UInt8) (acc : Nat) : ddec acc (c :: r) = ddec (dstep acc c) r := List.foldl_cons ..
theorem dstep_ge (a : Nat) (c : UInt8) : a ≤ dstep a c := Nat.le_trans (Nat.le_mul_of_pos_right a (by decide)) (Nat.le_add_right _ _)
theorem ddec_snoc (l : List UInt8) (c : UInt8) (acc : Nat) : ddec acc (l ++ [c]) = dstep (ddec acc l) c := by unfold ddec; rw [List.foldl_append]; rfl
theorem ddec_ge (l : List UInt8) : ∀ acc : Nat, acc ≤ ddec acc l := by
  induction l with
  | nil => intro acc; exact Nat.le_refl acc
  | cons c r ih =>
    intro acc
    rw [ddec_cons]
    exact Nat.le_trans (dstep_ge acc c) (ih _)
theorem parseUintM_digits {M : Nat} (hM : M < 18446744073709551616) : ∀ (l : List UInt8) (acc : Nat), (∀ c ∈ l, digB c = true) → acc ≤ M →
    Lib.parseUintM M acc l = if M < ddec acc l then .range else .ok (ddec acc l)
  | [], acc, _, ha => by
    have : ¬ M < ddec acc [] := Nat.not_lt.2 ha
    rw [if_neg this]; rfl
  | c :: r, acc, h, ha => by
    have hc := h c (by simp)
    simp only [digB, Bool.and_eq_true, decide_eq_true_eq] at hc
    have hge := ddec_ge r (dstep acc c)
    have hst : dstep acc c = acc * 10 + (c.toNat - 48) := rfl
    unfold Lib.parseUintM
    rw [if_pos hc, ddec_cons]
    by_cases h1 : 1844674407370955162 ≤ acc
    · have h3 : M < ddec (dstep acc c) r := by generalize c.toNat - 48 = k at *; omega
      rw [if_pos h1, if_pos h3]
    · rw [if_neg h1]
      by_cases h2 : M < acc * 10 + (c.toNat - 48)
      · have h3 : M < ddec (dstep acc c) r := Nat.lt_of_lt_of_le h2 hge
        rw [if_pos h2, if_pos h3]
      · rw [if_neg h2]
        exact parseUintM_digits hM r _ (fun x hx => h x (by simp [hx])) (Nat.not_lt.1 h2)

/-- A number's value: its sign, and its digits' value; none: past an end. -/
def valB (neg : Bool) (n : Nat) : Option Int := if neg then (if n ≤ 9223372036854775808 then some (-(n : Int)) else none) else (if n ≤ 9223372036854775807 then some (n : Int) else none)
def ends (o : Option Int) : Lib.NumEnd Int := match o with
  | some v => .ok v
  | none => .range
theorem parse_pos {l : List UInt8} (h : ∀ c ∈ l, digB c = true) (hn : l ≠ []) : Lib.parseIntB 64 l = ends (valB false (ddec 0 l)) := by
  cases l with
  | nil => exact absurd rfl hn
  | cons c r =>
    have hc := h c (by simp)
    simp only [digB, Bool.and_eq_true, decide_eq_true_eq] at hc
    have hp := parseUintM_digits (M := 18446744073709551615) (by omega) (c :: r) 0 h (by omega)
    have h43 : ¬ c.toNat = 43 := by omega
    have h45 : ¬ c.toNat = 45 := by omega
    have hu : Lib.parseUintB 64 (c :: r) = if 18446744073709551615 < ddec 0 (c :: r) then .range else .ok (ddec 0 (c :: r)) := by
      unfold Lib.parseUintB
      rw [if_neg (List.cons_ne_nil c r)]
      exact hp
    unfold Lib.parseIntB
    simp only [h43, h45, or_false, if_false, hu]
    generalize ddec 0 (c :: r) = n
    unfold valB ends
    by_cases h1 : 18446744073709551615 < n
    · have h2 : ¬ n ≤ 9223372036854775807 := by omega
      simp [h1, h2]
    · by_cases h2 : n ≤ 9223372036854775807
      · have h3 : ¬ 9223372036854775808 ≤ n := by omega
        simp [h1, h2, h3]
      · have h3 : 9223372036854775808 ≤ n := by omega
        simp [h1, h2, h3]
theorem parse_neg {l : List UInt8} (h : ∀ c ∈ l, digB c = true) (hn : l ≠ []) : Lib.parseIntB 64 (45 :: l) = ends (valB true (ddec 0 l)) := by
  have hp := parseUintM_digits (M := 18446744073709551615) (by omega) l 0 h (by omega)
  have hu : Lib.parseUintB 64 l = if 18446744073709551615 < ddec 0 l then .range else .ok (ddec 0 l) := by
    unfold Lib.parseUintB
    rw [if_neg hn]
    exact hp
  have h45 : UInt8.toNat 45 = 45 := by decide
  unfold Lib.parseIntB
  simp only [h45, or_true, if_true, hu, not_true_eq_false, false_and, if_false, true_and]
  generalize ddec 0 l = n
  unfold valB ends
  by_cases h1 : 18446744073709551615 < n
  · have h2 : ¬ n ≤ 9223372036854775808 := by omega
    simp [h1, h2]
  · by_cases h2 : n ≤ 9223372036854775808
    · have h3 : ¬ 9223372036854775808 < n := by omega
      simp [h1, h2, h3]
    · have h3 : 9223372036854775808 < n := by omega
      simp [h1, h2, h3]

/-- How many bytes the number has that a text begins with; 0: none. -/
def numLen : List UInt8 → Nat
  | [] => 0
  | c :: r => if c == 45 then (if (r.takeWhile digB).length = 0 then 0 else (r.takeWhile digB).length + 1) else ((c :: r).takeWhile digB).length
def vres (o : Option Int) : Int × Int := match o with
  | some v => (0, v)
  | none => (33, 0)
/-- The errno and the value of a number's bytes. -/
def numVal (l : List UInt8) : Int × Int :=
  let neg := l.head? == some 45
  let d := if neg then l.tail else l
  if d.head? == some 48 && (neg || decide (1 < d.length)) then (20, 0) else vres (valB neg (ddec 0 d))
def sgn2 : List (List UInt8) := [[45, 62], [33, 61], [60, 61], [62, 61]]
def sgn1 : List UInt8 := [33, 38, 124, 40, 41, 91, 93, 44, 61, 60, 62, 70, 71, 85, 82]
def signLen (l : List UInt8) : Nat :=
  if l.take 3 = [60, 45, 62] then 3 else if l.take 2 ∈ sgn2 then 2 else match l with | [] => 0 | c :: _ => if c ∈ sgn1 then 1 else 0
structure TK where
  kind : Int
  text : List UInt8
  num : Int
/-- The token that a text begins with, or what is wrong. -/
def nextT : List UInt8 → Int × TK
  | [] => (20, ⟨0, [], 0⟩)
  | c :: r =>
    if smallB c then
      (if 12 < (r.takeWhile wordB).length + 1 then (21, ⟨0, [], 0⟩) else (0, ⟨1, (c :: r).take ((r.takeWhile wordB).length + 1), 0⟩))
    else if 0 < numLen (c :: r) then
      (if (numVal ((c :: r).take (numLen (c :: r)))).1 = 0 then (0, ⟨2, (c :: r).take (numLen (c :: r)), (numVal ((c :: r).take (numLen (c :: r)))).2⟩) else ((numVal ((c :: r).take (numLen (c :: r)))).1, ⟨0, [], 0⟩))
    else if 0 < signLen (c :: r) then (0, ⟨3, (c :: r).take (signLen (c :: r)), 0⟩) else (20, ⟨0, [], 0⟩)
end Go.Proofs.YtidhlfcmjpnhgaaGreatDoor
