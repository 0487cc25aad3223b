/- The detector: since when no source is active; a tick; a new one. -/
import Derived.Test.YtegidffoonkpnaaDet
namespace Go.Proofs.Ytegidffoonkpnaa
open Go.RowKit

def dsi (D : DD) (i : Nat) : Int := if D.st.getD i 0 = 3 then D.la.getD i 0 else (ssum [D.la.getD i 0, D.to, 1]).1
def dsince (D : DD) : Nat → Int
  | 0 => 0
  | k + 1 => max (dsince D k) (dsi D k)
def dactive (D : DD) : Bool := (List.range D.st.length).any fun i => D.st.getD i 0 == 1
def didle (D : DD) : Int × Bool := if dactive D then (0, false) else (dsince D D.st.length, true)
theorem dactive_at {D : DD} {k : Nat} (hk : k < D.st.length) (h : D.st.getD k 0 = 1) : dactive D = true := by
  unfold dactive; rw [List.any_eq_true]; exact ⟨k, by simpa using hk, by rw [h]; rfl⟩
theorem dactive_none {D : DD} (h : ∀ i, i < D.st.length → D.st.getD i 0 ≠ 1) : dactive D = false := by
  unfold dactive; rw [List.any_eq_false]; intro i hi; simpa using h i (by simpa using hi)

theorem det_Idle (w : World) (b : Nat) (D : DD) (hw : WF D) (hD : Det w b D) :
    Calls Try.prog 11 #[.pointer (some ⟨b,0,none⟩)] w fun e w' => e = .returned (.tuple #[.int .i64 (didle D).1, .bool (didle D).2]) ∧ Fr Nob w w' := by
  have Hw := Lib.hid hw
  have Hd := Lib.hid hD
  have hn := hD.nc
  have h8 := hw.le8
  clear hw hD
  go_enter Try.func11, Try.ntmps11
  go_wp2
  go_loopw [4, 15] (fun s i wr => Fr Nob w wr ∧ ∃ k : Nat, k ≤ D.st.length ∧ i = .int .i64 k ∧ s = .int .i64 (dsince D k) ∧ Hid (∀ i, i < k → D.st.getD i 0 ≠ 1)) (fun _ i _ => D.st.length - (intOf i).toNat)
  case atStart => exact ⟨Fr.refl _ _, 0, Nat.zero_le _, rfl, rfl, fun i h => by omega⟩
  case round =>
    obtain ⟨hfr, k, hk, rfl, rfl, hno⟩ := hrel
    have HD := Lib.hid (Hd.out.fr hfr (fun e => e))
    by_cases hlt : k < D.st.length
    · have h8 : k < 8 := by omega
      have hI : (k : Int) < 8 := by omega
      have hI0 : 0 ≤ (k : Int) := by omega
      have h1 := HD.out.stc h8
      have h2 := HD.out.lac h8
      have h4 := HD.out.toc
      have s1 := Hw.out.sts k hlt
      by_cases c1 : D.st.getD k 0 = 1
      · rw [c1] at h1
        have HF : Hid (didle D = (0, false)) := by unfold didle; rw [dactive_at hlt c1]; rfl
        clear c1 s1
        go_wp2
        go_ret2
        exact ⟨by rw [HF.out]; rfl, hfr⟩
      · have HN : Hid (∀ i, i < k + 1 → D.st.getD i 0 ≠ 1) := fun i hi => by
          rcases Nat.lt_or_ge i k with h | h
          · exact hno.out i h
          · rw [show i = k by omega]; exact c1
        by_cases c3 : D.st.getD k 0 = 3
        · rw [c3] at h1
          have HS := Lib.hid (show dsince D (k + 1) = max (dsince D k) (D.la.getD k 0) by simp only [dsince, dsi, if_pos c3])
          clear c1 c3 s1
          generalize D.la.getD k 0 = la at *
          generalize hs0 : dsince D k = s0 at *
          clear hs0
          go_wp2
          go_roundw
          case rel => exact ⟨hfr, k + 1, by omega, by go_num, by rw [HS.out]; exact vint (by omega), HN⟩
          case measure => simp [intOf]; omega
        · have c2 : D.st.getD k 0 = 2 := by omega
          rw [c2] at h1
          have HS := Lib.hid (show dsince D (k + 1) = max (dsince D k) (ssum [D.la.getD k 0, D.to, 1]).1 by simp only [dsince, dsi, if_neg c3])
          have hl1 := (Hw.out.las k hlt).1
          have hl2 := (Hw.out.las k hlt).2
          have hl3 := Hw.out.now2
          have hl4 := Hw.out.to1
          have hl5 := Hw.out.to2
          have H64 : Hid (∀ x ∈ [D.la.getD k 0, D.to, 1], I64 x) := by
            intro x hx
            simp only [List.mem_cons, List.not_mem_nil, or_false] at hx
            unfold I64
            rcases hx with rfl | rfl | rfl <;> omega
          clear c1 c3 c2 s1 hl1 hl2 hl3 hl4 hl5
          generalize D.la.getD k 0 = la at *
          generalize D.to = to at *
          generalize hs0 : dsince D k = s0 at *
          clear hs0
          go_wp2_with fail
          refine (sat_Sum _ _ _ [la, to, 1] (Sl.new1 (Blk.new _ _ _) 1 3 rfl (by decide)) H64.out).mono ?_
          rintro e w' ⟨rfl, rfl⟩
          generalize (ssum [la, to, 1]).fst = sv at *
          generalize (ssum [la, to, 1]).snd = sb at *
          go_wp2_with fail
          go_roundw
          case rel => exact ⟨hfr.alloc _, k + 1, by omega, by go_num, by rw [HS.out]; exact vint (by omega), HN⟩
          case measure => simp [intOf]; omega
    · have hkk : k = D.st.length := by omega
      subst hkk
      have HF : Hid (didle D = (dsince D D.st.length, true)) := by unfold didle; rw [dactive_none hno.out]; rfl
      go_wp2
      go_ret2
      exact ⟨by rw [HF.out]; rfl, hfr⟩

theorem det_Idle_nil (w : World) :
    Calls Try.prog 11 #[.pointer none] w fun e w' => e = .returned (.tuple #[.int .i64 0, .bool false]) ∧ w = w' := by
  go_enter Try.func11, Try.ntmps11
  go_wp2
  go_ret2
  exact ⟨rfl, rfl⟩

/-! ### New -/
def dnew (n : Nat) (to : Int) : DD := { st := List.replicate n 1, la := List.replicate n 0, to := to, now := 0 }
def dnewk (n k : Nat) (to : Int) : Array Value :=
  (((List.range 8).flatMap fun i => [Value.int .i64 (if i < k then 1 else 0), Value.int .i64 0]) ++ [Value.int .i64 n, Value.int .i64 to, Value.int .i64 0]).toArray
theorem dnewk_set (n k : Nat) (to : Int) (h : k < 8) : (dnewk n k to).setIfInBounds (k * 2) (.int .i64 1) = dnewk n (k + 1) to := by
  match k, h with
  | 0, _ => rfl
  | 1, _ => rfl
  | 2, _ => rfl
  | 3, _ => rfl
  | 4, _ => rfl
  | 5, _ => rfl
  | 6, _ => rfl
  | 7, _ => rfl
theorem dnewk_new (n : Nat) (to : Int) (h : n ≤ 8) : dnewk n n to = dcs (dnew n to) := by
  match n, h with
  | 0, _ => rfl
  | 1, _ => rfl
  | 2, _ => rfl
  | 3, _ => rfl
  | 4, _ => rfl
  | 5, _ => rfl
  | 6, _ => rfl
  | 7, _ => rfl
  | 8, _ => rfl
theorem dnewk_cell (n k : Nat) (to : Int) (h : k < 8) : ∃ v, (dnewk n k to)[k * 2]? = some (.int .i64 v) := by
  match k, h with
  | 0, _ => exact ⟨_, rfl⟩
  | 1, _ => exact ⟨_, rfl⟩
  | 2, _ => exact ⟨_, rfl⟩
  | 3, _ => exact ⟨_, rfl⟩
  | 4, _ => exact ⟨_, rfl⟩
  | 5, _ => exact ⟨_, rfl⟩
  | 6, _ => exact ⟨_, rfl⟩
  | 7, _ => exact ⟨_, rfl⟩
theorem wf_new (n : Nat) (to : Int) (h1 : 1 ≤ n) (h8 : n ≤ 8) (t1 : 1 ≤ to) (t2 : to ≤ 9223372036854775807) : WF (dnew n to) := by
  refine ⟨by simp [dnew], by simp [dnew]; omega, by simp [dnew]; omega, t1, t2, by simp [dnew], by simp [dnew], ?_, ?_⟩
  · intro i hi; simp [dnew] at hi; simp [dnew, hi]
  · intro i hi; simp [dnew] at hi; simp [dnew, hi]
theorem det_New (w : World) (n : Nat) (to : Int) (h1 : 1 ≤ n) (h8 : n ≤ 8) (t1 : 1 ≤ to) :
    Calls Try.prog 8 #[.int .i64 n, .int .i64 to] w fun e w' => e = .returned (.tuple #[.pointer (some ⟨w.heap.size, 0, none⟩), .int .i64 0]) ∧ Det w' w.heap.size (dnew n to) ∧ Fr Nob w w' := by
  go_enter Try.func8, Try.ntmps8
  go_wp2
  go_loopw [23] (fun i wr => Blk wr w.heap.size 59 (dnewk n (intOf i).toNat to) ∧ Fr Nob w wr ∧ ∃ k : Nat, k ≤ n ∧ i = .int .i64 k) (fun i _ => n - (intOf i).toNat)
  case atStart => exact ⟨Blk.new _ _ _, (Fr.refl _ _).alloc _, 0, Nat.zero_le _, rfl⟩
  case round =>
    obtain ⟨hb, hf, k, hk, rfl⟩ := hrel
    change Blk wr w.heap.size 59 (dnewk n k to) at hb
    by_cases hlt : k < n
    · have hk8 : k < 8 := by omega
      have hI : (k : Int) < 8 := by omega
      have hI0 : 0 ≤ (k : Int) := by omega
      obtain ⟨v, hv⟩ := dnewk_cell n k to hk8
      have hc : wr.cell? ⟨w.heap.size, k * 2, none⟩ = some (.int .i64 v) := by rw [hb.cell]; exact hv
      have hz := hb.frozen (k * 2)
      have HB := Lib.hid hb
      clear hb hv
      go_wp2
      go_roundw
      case rel =>
        refine ⟨?_, hf.setCell (p := ⟨w.heap.size, k * 2, none⟩) (fun h => absurd h (Nat.lt_irrefl _)) _, k + 1, by omega, by go_num⟩
        have := HB.out.set (k * 2) (.int .i64 1)
        rw [dnewk_set n k to hk8] at this
        exact this
      case measure => simp [intOf]; omega
    · have hkk : k = n := by omega
      subst hkk
      rw [dnewk_new _ _ h8] at hb
      have HB := Lib.hid hb
      clear hb
      go_wp2
      go_ret2
      exact ⟨rfl, HB.out, hf⟩
theorem det_New_no (w : World) (n : Int) (to : Int) (h : n < 1 ∨ 8 < n ∨ to < 1) :
    Calls Try.prog 8 #[.int .i64 n, .int .i64 to] w fun e w' => e = .returned (.tuple #[.pointer none, .int .i64 33]) ∧ w = w' := by
  have H : Hid (n < 1 ∨ 8 < n ∨ to < 1) := h
  clear h
  by_cases c1 : n < 1
  · go_enter Try.func8, Try.ntmps8
    go_wp2
    go_ret2
    exact ⟨rfl, rfl⟩
  · by_cases c2 : 8 < n
    · go_enter Try.func8, Try.ntmps8
      go_wp2
      go_ret2
      exact ⟨rfl, rfl⟩
    · have c3 : to < 1 := by have := H.out; omega
      go_enter Try.func8, Try.ntmps8
      go_wp2
      go_ret2
      exact ⟨rfl, rfl⟩
end Go.Proofs.Ytegidffoonkpnaa
