/- The layer sat and its reference: sums that are cut. -/
import Derived.Test.YtegidffoonkpnaaRows
import Derived.Test.YtegidffoonkpnaaMem
namespace Go.Proofs.Ytegidffoonkpnaa
open Go.RowKit

def sadd (a b : Int) : Int × Bool :=
  if 9223372036854775807 < a + b then (9223372036854775807, true)
  else if a + b < -9223372036854775808 then (-9223372036854775808, true) else (a + b, false)
theorem sadd_I64 (a b : Int) : I64 (sadd a b).1 := by
  unfold sadd I64
  split
  · simp
  · split
    · simp
    · simp; omega

theorem sadd_hi {a b : Int} (ha : I64 a) (hb : I64 b) (h : 0 < b) (h' : wrap64 (a + b) < a) : sadd a b = (9223372036854775807, true) := by
  unfold I64 at ha hb; unfold wrap64 at h'; unfold sadd; rw [if_pos (by omega)]
theorem sadd_lo {a b : Int} (ha : I64 a) (hb : I64 b) (h : b < 0) (h' : a < wrap64 (a + b)) : sadd a b = (-9223372036854775808, true) := by
  unfold I64 at ha hb; unfold wrap64 at h'; unfold sadd; rw [if_neg (by omega), if_pos (by omega)]
theorem sadd_mid {a b : Int} (ha : I64 a) (hb : I64 b) (h : 0 < b → a ≤ wrap64 (a + b)) (h' : b < 0 → wrap64 (a + b) ≤ a) : sadd a b = (wrap64 (a + b), false) := by
  unfold I64 at ha hb; unfold wrap64 at h h'; unfold wrap64 sadd
  rw [if_neg (by omega), if_neg (by omega)]
  congr 1
  omega

theorem sat_Add (w : World) (a b : Int) (ha : I64 a) (hb : I64 b) :
    Calls Try.prog 27 #[.int .i64 a, .int .i64 b] w fun e w' => e = .returned (.tuple #[.int .i64 (sadd a b).1, .bool (sadd a b).2]) ∧ w = w' := by
  have Ha := Lib.hid ha
  have Hb := Lib.hid hb
  clear ha hb
  go_enter Try.func27, Try.ntmps27
  go_wp2
  all_goals go_ret2
  all_goals refine ⟨?_, rfl⟩
  all_goals first
    | (rw [sadd_hi Ha.out Hb.out (by assumption) (by assumption)]; rfl)
    | (rw [sadd_lo Ha.out Hb.out (by assumption) (by assumption)]; rfl)
    | (rw [sadd_mid Ha.out Hb.out (by intros; first | assumption | omega) (by intros; first | assumption | omega)]; rfl)

theorem tdm (a : Int) : a.tdiv 4294967296 * 4294967296 + a.tmod 4294967296 = a ∧ (0 ≤ a → 0 ≤ a.tmod 4294967296) ∧ (a < 0 → a.tmod 4294967296 ≤ 0) ∧ a.tmod 4294967296 < 4294967296 ∧ -4294967296 < a.tmod 4294967296 := by
  refine ⟨by rw [Int.mul_comm]; exact Int.mul_tdiv_add_tmod a 4294967296, fun h => Int.tmod_nonneg _ h, fun h => ?_, Int.tmod_lt_of_pos a (by omega), Int.lt_tmod_of_pos a (by omega)⟩
  have h1 : 0 ≤ (-a).tmod 4294967296 := Int.tmod_nonneg _ (by omega)
  rw [Int.neg_tmod] at h1; omega

theorem ref_highs (w : World) (a : Int) (ha : I64 a) :
    Calls Try.prog 34 #[.int .i64 a] w fun e w' => e = .returned (.int .i64 (a / 4294967296)) ∧ w = w' := by
  unfold I64 at ha
  go_enter Try.func34, Try.ntmps34
  go_wp2
  all_goals go_ret
  all_goals refine ⟨ret1i ?_, rfl⟩
  all_goals have ht := tdm a
  all_goals try unfold wrap64
  all_goals omega
theorem ref_low (w : World) (a : Int) (_ha : I64 a) :
    Calls Try.prog 35 #[.int .i64 a] w fun e w' => e = .returned (.int .i64 (a % 4294967296)) ∧ w = w' := by
  go_enter Try.func35, Try.ntmps35
  go_wp2
  all_goals go_ret
  all_goals refine ⟨ret1i ?_, rfl⟩
  all_goals have ht := tdm a
  all_goals try unfold wrap64
  all_goals omega

def rwhole (h l : Int) : Int × Bool := sadd (h * 4294967296) l
theorem ref_whole (w : World) (h l : Int) (h1 : -4294967296 ≤ h) (h2 : h ≤ 4294967296) (l1 : 0 ≤ l) (l2 : l < 8589934592) :
    Calls Try.prog 33 #[.int .i64 h, .int .i64 l] w fun e w' => e = .returned (.tuple #[.int .i64 (rwhole h l).1, .bool (rwhole h l).2]) ∧ w = w' := by
  by_cases hl : l < 4294967296
  · by_cases c1 : 2147483647 < h
    · have HF : Hid (rwhole h l = (9223372036854775807, true)) := by unfold rwhole sadd; (first | rw [if_pos (by omega)] | (rw [if_neg (by omega), if_pos (by omega)]) | (rw [if_neg (by omega), if_neg (by omega)])); (first | exact rfl | (congr 1; omega))
      go_enter Try.func33, Try.ntmps33
      go_wp2
      go_rounds 1
      go_wp2
      go_rounds 2
      go_wp2
      go_ret2
      exact ⟨by rw [HF.out]; rfl, rfl⟩
    by_cases c2 : h < -2147483648
    · have HF : Hid (rwhole h l = (-9223372036854775808, true)) := by unfold rwhole sadd; (first | rw [if_pos (by omega)] | (rw [if_neg (by omega), if_pos (by omega)]) | (rw [if_neg (by omega), if_neg (by omega)])); (first | exact rfl | (congr 1; omega))
      go_enter Try.func33, Try.ntmps33
      go_wp2
      go_rounds 1
      go_wp2
      go_rounds 2
      go_wp2
      go_ret2
      exact ⟨by rw [HF.out]; rfl, rfl⟩
    · have HF : Hid (rwhole h l = (h * 4294967296 + l, false)) := by unfold rwhole sadd; (first | rw [if_pos (by omega)] | (rw [if_neg (by omega), if_pos (by omega)]) | (rw [if_neg (by omega), if_neg (by omega)])); (first | exact rfl | (congr 1; omega))
      go_enter Try.func33, Try.ntmps33
      go_wp2
      go_rounds 1
      go_wp2
      go_rounds 2
      go_wp2
      go_ret2
      exact ⟨by rw [HF.out]; rfl, rfl⟩
  · by_cases c1 : 2147483647 < h + 1
    · have HF : Hid (rwhole h l = (9223372036854775807, true)) := by unfold rwhole sadd; (first | rw [if_pos (by omega)] | (rw [if_neg (by omega), if_pos (by omega)]) | (rw [if_neg (by omega), if_neg (by omega)])); (first | exact rfl | (congr 1; omega))
      go_enter Try.func33, Try.ntmps33
      go_wp2
      go_rounds 1
      go_wp2
      go_rounds 2
      go_wp2
      go_ret2
      exact ⟨by rw [HF.out]; rfl, rfl⟩
    by_cases c2 : h + 1 < -2147483648
    · have HF : Hid (rwhole h l = (-9223372036854775808, true)) := by unfold rwhole sadd; (first | rw [if_pos (by omega)] | (rw [if_neg (by omega), if_pos (by omega)]) | (rw [if_neg (by omega), if_neg (by omega)])); (first | exact rfl | (congr 1; omega))
      go_enter Try.func33, Try.ntmps33
      go_wp2
      go_rounds 1
      go_wp2
      go_rounds 2
      go_wp2
      go_ret2
      exact ⟨by rw [HF.out]; rfl, rfl⟩
    · have HF : Hid (rwhole h l = ((h + 1) * 4294967296 + (l - 4294967296), false)) := by unfold rwhole sadd; (first | rw [if_pos (by omega)] | (rw [if_neg (by omega), if_pos (by omega)]) | (rw [if_neg (by omega), if_neg (by omega)])); (first | exact rfl | (congr 1; omega))
      go_enter Try.func33, Try.ntmps33
      go_wp2
      go_rounds 1
      go_wp2
      go_rounds 2
      go_wp2
      go_ret2
      exact ⟨by rw [HF.out]; rfl, rfl⟩

theorem rwhole_eq (a b : Int) : rwhole (a / 4294967296 + b / 4294967296) (a % 4294967296 + b % 4294967296) = sadd a b := by
  unfold rwhole
  have e : (a / 4294967296 + b / 4294967296) * 4294967296 + (a % 4294967296 + b % 4294967296) = a + b := by omega
  unfold sadd
  rw [e]
theorem ref_Add (w : World) (a b : Int) (ha : I64 a) (hb : I64 b) :
    Calls Try.prog 26 #[.int .i64 a, .int .i64 b] w fun e w' => e = .returned (.tuple #[.int .i64 (sadd a b).1, .bool (sadd a b).2]) ∧ w = w' := by
  have Ha := Lib.hid ha
  have Hb := Lib.hid hb
  unfold I64 at ha hb
  have a1 : -2147483648 ≤ a / 4294967296 := by omega
  have a2 : a / 4294967296 ≤ 2147483647 := by omega
  have b1 : -2147483648 ≤ b / 4294967296 := by omega
  have b2 : b / 4294967296 ≤ 2147483647 := by omega
  have a3 : 0 ≤ a % 4294967296 := by omega
  have a4 : a % 4294967296 < 4294967296 := by omega
  have b3 : 0 ≤ b % 4294967296 := by omega
  have b4 : b % 4294967296 < 4294967296 := by omega
  clear ha hb
  go_enter Try.func26, Try.ntmps26
  go_wp2_with fail
  refine (ref_highs _ _ Ha.out).mono ?_
  rintro e w' ⟨rfl, rfl⟩
  go_wp2_with fail
  refine (ref_highs _ _ Hb.out).mono ?_
  rintro e w' ⟨rfl, rfl⟩
  go_wp2_with fail
  refine (ref_low _ _ Ha.out).mono ?_
  rintro e w' ⟨rfl, rfl⟩
  go_wp2_with fail
  refine (ref_low _ _ Hb.out).mono ?_
  rintro e w' ⟨rfl, rfl⟩
  go_wp2_with fail
  refine (ref_whole _ _ _ (by omega) (by omega) (by omega) (by omega)).mono ?_
  rintro e w' ⟨rfl, rfl⟩
  go_wp2_with fail
  go_ret2
  exact ⟨by rw [rwhole_eq]; rfl, rfl⟩
end Go.Proofs.Ytegidffoonkpnaa
