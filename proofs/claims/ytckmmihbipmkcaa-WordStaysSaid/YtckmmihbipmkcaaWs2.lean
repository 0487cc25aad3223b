/- A stretch turned round. -/
import Derived.Test.YtckmmihbipmkcaaWs1
namespace Go.Proofs.Ytckmmihbipmkcaa
open Go.RowKit Go.Sort Go.Lib

/-- [a, m) and [m, b) in dk have changed places in d. -/
structure RotD (dk d : Array Ev) (a m b : Nat) : Prop where
  get : ∀ p, d[p]! = rotT dk a m b p
  perm : PermIn a b dk d
def RotS (w0 : World) (blk off : Nat) (dk : Array Ev) (a m b i j : Nat) (d : Array Ev) (W : World) : Prop := SWK evc 3 w0 blk off d W ∧ RotI (rotT dk a m b) m i j d ∧ PermIn a b dk d
set_option maxRecDepth 100000 in
set_option maxHeartbeats 4000000 in
theorem ev_rotate (fv : Value) {w0 W : World} {blk off cap : Nat} {d0 dk : Array Ev} (h : SWK evc 3 w0 blk off dk W) (R : RowK evc 3 w0 blk off d0) (hs : dk.size = d0.size) (a m b : Nat) (ham : a < m) (hmb : m < b) (hb : b ≤ dk.size) (hsz : dk.size ≤ 1000000) :
    Calls Try.prog 67 #[.slice (some ⟨blk, off, none⟩) dk.size cap, .int .i64 a, .int .i64 m, .int .i64 b, fv] W fun e w' => e = .returned (.tuple #[]) ∧ ∃ d, SWK evc 3 w0 blk off d w' ∧ RotD dk d a m b := by
  have HS := Lib.hid h
  have HR := Lib.hid R
  have HSW := Lib.hid (fun (a b n : Nat) (X : World) (d : Array Ev) (hx : SWK evc 3 w0 blk off d X) (hd : d.size = dk.size) (hab : a + n ≤ b) (hb : b + n ≤ dk.size) => (show Calls Try.prog 74 #[.slice (some ⟨blk, off, none⟩) dk.size cap, .int .i64 a, .int .i64 b, .int .i64 n, fv] X fun e w' => e = .returned (.tuple #[]) ∧ SWK evc 3 w0 blk off (swR d a b n) w' by
    have := ev_swap fv (cap := cap) hx R (by omega) a b n hab (by omega) (by omega)
    rwa [hd] at this))
  clear h R hs
  have e0 : (m : Int) - a = ((m - a : Nat) : Int) := by omega
  have e1 : (b : Int) - m = ((b - m : Nat) : Int) := by omega
  go_enter Try.func67, Try.ntmps67
  go_wp2_with fail
  go_loopw [10, 11] (fun iv jv wr => ∃ (i j : Nat) (d : Array Ev), 0 < i ∧ 0 < j ∧ i ≤ m - a ∧ j ≤ b - m ∧ iv = .int .i64 i ∧ jv = .int .i64 j ∧ Hid (RotS w0 blk off dk a m b i j d wr)) (fun iv jv _ => (intOf iv).toNat + (intOf jv).toNat)
  case atStart => exact ⟨m - a, b - m, dk, by omega, by omega, Nat.le_refl _, Nat.le_refl _, by first | rfl | (rw [e0]) | (go_num), by first | rfl | (rw [e1]) | go_num, Lib.hid ⟨HS.out, RotI.start dk (by omega) (by omega), permIn_refl _ _ _⟩⟩
  case round =>
    obtain ⟨i, j, d, hi0, hj0, him, hjm, rfl, rfl, hi⟩ := hrel
    have hds := hi.out.2.2.1
    have f1 : (m : Int) - i = ((m - i : Nat) : Int) := by omega
    by_cases hij : i = j
    · subst hij
      have hne : ((i : Int) != (i : Int)) = false := by simp
      have HC := Lib.hid (HSW.out (m - i) m i wr d hi.out.1 hds (by omega) (by omega))
      go_wp2_with (first
        | ((try rw [f1]); (go_at_call 74); (with_reducible refine (HC.out).mono ?_); rintro e w1 ⟨rfl, hw1⟩))
      go_end0
      exact ⟨rfl, _, hw1, hi.out.2.1.last (by omega), permIn_trans _ _ _ _ _ hi.out.2.2 (swR_perm d (by omega) i (by omega) (by omega) (by omega))⟩
    · have hne : ((i : Int) != (j : Int)) = true := by simp; omega
      by_cases hlt : j < i
      · have hltI : (j : Int) < i := by omega
        have f2 : (i : Int) - j = ((i - j : Nat) : Int) := by omega
        have HC := Lib.hid (HSW.out (m - i) m j wr d hi.out.1 hds (by omega) (by omega))
        have HN := Lib.hid (fun X hx => (show RotS w0 blk off dk a m b (i - j) j (swR d (m - i) m j) X from ⟨hx, hi.out.2.1.big hlt (by omega), permIn_trans _ _ _ _ _ hi.out.2.2 (swR_perm d (by omega) j (by omega) (by omega) (by omega))⟩))
        clear hi
        go_wp2_with (first
          | ((try rw [f1]); (go_at_call 74); (with_reducible refine (HC.out).mono ?_); rintro e w1 ⟨rfl, hw1⟩))
        go_roundw
        case rel => exact ⟨i - j, j, _, by omega, by omega, by omega, by omega, by first | rfl | (rw [f2]) | go_num, rfl, Lib.hid (HN.out _ hw1)⟩
        case measure => simp [intOf]; omega
      · have hltI : (i : Int) ≤ j := by omega
        have f2 : (j : Int) - i = ((j - i : Nat) : Int) := by omega
        have f3 : (m : Int) + j - i = ((m + j - i : Nat) : Int) := by omega
        have HC := Lib.hid (HSW.out (m - i) (m + j - i) i wr d hi.out.1 hds (by omega) (by omega))
        have HN := Lib.hid (fun X hx => (show RotS w0 blk off dk a m b i (j - i) (swR d (m - i) (m + j - i) i) X from ⟨hx, hi.out.2.1.small (by omega) (by omega), permIn_trans _ _ _ _ _ hi.out.2.2 (swR_perm d (by omega) i (by omega) (by omega) (by omega))⟩))
        clear hi
        go_wp2_with (first
          | ((try rw [f1]); (try rw [f3]); (go_at_call 74); (with_reducible refine (HC.out).mono ?_); rintro e w1 ⟨rfl, hw1⟩))
        go_roundw
        case rel => exact ⟨i, j - i, _, by omega, by omega, by omega, by omega, rfl, by first | rfl | (rw [f2]) | go_num, Lib.hid (HN.out _ hw1)⟩
        case measure => simp [intOf]; omega
end Go.Proofs.Ytckmmihbipmkcaa
