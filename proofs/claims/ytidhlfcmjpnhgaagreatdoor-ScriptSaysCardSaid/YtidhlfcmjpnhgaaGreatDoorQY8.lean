/- Whether a message may be: the program. -/
import Derived.Test.YtidhlfcmjpnhgaaGreatDoorSE
import Derived.Test.YtidhlfcmjpnhgaaGreatDoorST
import Derived.Deep.RegionHeld3
import Derived.Lib.QuietBelow
namespace Go.Proofs.YtidhlfcmjpnhgaaGreatDoor
open Go.RowKit Go.Lib

/-- A message as a value. -/
def mV (m : MC) (A : Option Addr) (c : Nat) : Array Value := #[.int .u8 m.kind, .int .u64 m.seq, .int .i64 m.at_, .slice A m.props.length c]
structure MOk (m : MC) : Prop where
  kind : 0 ≤ m.kind ∧ m.kind < 256
  seq : 0 ≤ m.seq ∧ m.seq < 18446744073709551616
  at_ : I64 m.at_
  few : m.props.length ≤ 100000
  names : ∀ p ∈ m.props, p.name.size ≤ 100000 ∧ I64 p.value
set_option maxRecDepth 100000 in
set_option maxHeartbeats 4000000 in
theorem prg_May (w : World) (m : MC) (A : Option Addr) (c : Nat) (hs : Sl w 2 A m.props.length c (m.props.flatMap pcs)) (ho : MOk m) :
    Calls Tryz.prog 10 #[.agg (mV m A c)] w fun e w' => e = .returned (.bool (mayM m)) ∧ Fr Nob w w' := by
  obtain ⟨⟨hk0, hk1⟩, ⟨hq0, hq1⟩, ha, hf, hn⟩ := ho
  have HR := Lib.hid (fun W (hw : Fr Nob w W) => lab_Right W A c m.props (hs.pure hw) (fun p hp => by have := (hn p hp).1; omega))
  have hle := hs.le
  have hmx := hs.max
  unfold maxLen at hmx
  unfold I64 at ha
  clear hs hn
  obtain ⟨kind, seq, at_, props⟩ := m
  simp only at hk0 hk1 hq0 hq1 ha hf HR hle
  have HM := Lib.hid (show mayM ⟨kind, seq, at_, props⟩ = if at_ < 0 ∨ 8 < props.length ∨ rightB props = false then false
  else if kind = 1 then decide (at_ = 0) && props.isEmpty
  else if kind = 2 then true
  else if kind = 3 then decide (seq = 0) && props.isEmpty
  else decide (kind = 4) && decide (seq = 0) && decide (at_ = 0) && props.isEmpty from rfl)
  have HN0 : props.length = 0 → rightB props = true := fun h => by rw [List.eq_nil_of_length_eq_zero h]; rfl
  have hemp : props.isEmpty = decide (props.length = 0) := by cases props <;> simp
  unfold mV
  simp only
  have hbq : ((props.length : Int) == 0) = decide (props.length = 0) := by rw [Bool.eq_iff_iff]; simp
  generalize rightB props = r at *
  rw [hemp] at HM
  clear hemp
  generalize props.length = n at *
  have hnr : n = 0 → r = true := HN0
  clear HN0
  by_cases h1 : kind = 1
  · subst h1
    have HE := Lib.hid (show mayM ⟨1, seq, at_, props⟩ = (decide (at_ = 0) && decide (n = 0)) by
      rw [HM.out, if_pos rfl]
      by_cases ha0 : at_ = 0
      · subst ha0
        by_cases hn0 : n = 0
        · subst hn0; simp [hnr rfl]
        · simp [hn0]
      · simp [ha0])
    clear HM
    go_enter Tryz.func10, Tryz.ntmps10
    go_wp2_with fail
    all_goals
      go_ret
      rw [HE.out]
      refine ⟨?_, ((Fr.refl _ _).alloc _).alloc _⟩
      first
        | (simp_all; done)
        | (simp_all; omega)
  · by_cases h2 : kind = 2
    · subst h2
      have HE := Lib.hid (show mayM ⟨2, seq, at_, props⟩ = (decide (0 ≤ at_) && decide (n ≤ 8) && r) by
        rw [HM.out]
        simp only [show ¬ (2 : Int) = 1 by decide, if_false, if_true]
        by_cases h1 : at_ < 0
        · simp [h1, show ¬ 0 ≤ at_ by omega]
        · by_cases h2 : 8 < n
          · simp [h2, show ¬ n ≤ 8 by omega]
          · cases r <;> simp [h1, h2, show 0 ≤ at_ by omega, show n ≤ 8 by omega])
      clear HM
      have HR2 := Lib.hid (HR.out _ (((Fr.refl Nob w).alloc (.cells #[.int .u8 2, .int .u64 seq, .int .i64 at_, .slice A n c] 39)).alloc (.cells #[.int .u8 2, .int .u64 seq, .int .i64 at_, .slice A n c] 39)))
      by_cases h8 : 8 < n
      · have hI : (8 : Int) < n := by omega
        go_enter Tryz.func10, Tryz.ntmps10
        go_wp2_with fail
        all_goals
          go_ret
          rw [HE.out]
          exact ⟨by simp [show ¬ n ≤ 8 by omega], ((Fr.refl _ _).alloc _).alloc _⟩
      · have hI : ¬ (8 : Int) < n := by omega
        have hI2 : (n : Int) ≤ 8 := by omega
        have h8b : n ≤ 8 := by omega
        cases r
        · go_enter Tryz.func10, Tryz.ntmps10
          go_wp2_with (first | ((go_at_call 22); (with_reducible refine HR2.out.mono ?_); rintro e w1 ⟨rfl, hf1⟩; have HF1 := Lib.hid ((((Fr.refl Nob w).alloc _).alloc _).call hf1 (fun _ e _ => e)); clear hf1) | fail)
          all_goals
            go_ret
            rw [HE.out]
            exact ⟨by simp, HF1.out⟩
        · have HBB0 := Lib.hid (show Blk ((w.alloc (.cells #[.int .u8 2, .int .u64 seq, .int .i64 at_, .slice A n c] 39)).alloc (.cells #[.int .u8 2, .int .u64 seq, .int .i64 at_, .slice A n c] 39)) w.heap.size 39 #[.int .u8 2, .int .u64 seq, .int .i64 at_, .slice A n c] from (Blk.new _ _ _).alloc _)
          have HBB1 := Lib.hid (show Blk ((w.alloc (.cells #[.int .u8 2, .int .u64 seq, .int .i64 at_, .slice A n c] 39)).alloc (.cells #[.int .u8 2, .int .u64 seq, .int .i64 at_, .slice A n c] 39)) (w.heap.size + 1) 39 #[.int .u8 2, .int .u64 seq, .int .i64 at_, .slice A n c] from Blk.new_eq (by simp))
          go_enter Tryz.func10, Tryz.ntmps10
          go_wp2_with (first | ((go_at_call 22); (with_reducible refine HR2.out.mono ?_); rintro e w1 ⟨rfl, hf1⟩; have HF1 := Lib.hid ((((Fr.refl Nob w).alloc _).alloc _).call hf1 (fun _ e _ => e)); have HB0 := HBB0.out.fr hf1 (fun e => e); have HB1 := HBB1.out.fr hf1 (fun e => e); have b0 := HB0.cell; have b1 := HB1.cell; have f1 := HB1.frozen; clear hf1 HB0 HB1) | fail)
          all_goals
            go_ret
            rw [HE.out]
            refine ⟨?_, by (repeat with_reducible refine Fr.setCell ?_ (fun h => absurd h (by show ¬ w.heap.size + 1 < w.heap.size; omega)) _); exact HF1.out⟩
            first
              | (simp_all; done)
              | (simp_all; omega)
    · by_cases h3 : kind = 3
      · subst h3
        have HE := Lib.hid (show mayM ⟨3, seq, at_, props⟩ = (decide (0 ≤ at_) && decide (seq = 0) && decide (n = 0)) by
          rw [HM.out]
          simp only [show ¬ (3 : Int) = 1 by decide, show ¬ (3 : Int) = 2 by decide, if_false, if_true]
          by_cases h1 : at_ < 0
          · simp [h1, show ¬ 0 ≤ at_ by omega]
          · by_cases hn0 : n = 0
            · subst hn0; simp [h1, hnr rfl, show 0 ≤ at_ by omega]
            · simp [hn0])
        clear HM
        go_enter Tryz.func10, Tryz.ntmps10
        go_wp2_with fail
        all_goals
          go_ret
          rw [HE.out]
          refine ⟨?_, ((Fr.refl _ _).alloc _).alloc _⟩
          first
            | (simp_all; done)
            | (simp_all; omega)
      · by_cases h4 : kind = 4
        · subst h4
          have HE := Lib.hid (show mayM ⟨4, seq, at_, props⟩ = (decide (seq = 0) && decide (at_ = 0) && decide (n = 0)) by
            rw [HM.out]
            simp only [show ¬ (4 : Int) = 1 by decide, show ¬ (4 : Int) = 2 by decide, show ¬ (4 : Int) = 3 by decide, if_false]
            by_cases ha0 : at_ = 0
            · subst ha0
              by_cases hn0 : n = 0
              · subst hn0; simp [hnr rfl]
              · simp [hn0]
            · simp [ha0])
          clear HM
          go_enter Tryz.func10, Tryz.ntmps10
          go_wp2_with fail
          all_goals
            go_ret
            rw [HE.out]
            refine ⟨?_, ((Fr.refl _ _).alloc _).alloc _⟩
            first
              | (simp_all; done)
              | (simp_all; omega)
        · have HE := Lib.hid (show mayM ⟨kind, seq, at_, props⟩ = false by
            rw [HM.out]
            simp [h1, h2, h3, h4])
          clear HM
          go_enter Tryz.func10, Tryz.ntmps10
          go_wp2_with fail
          all_goals
            go_ret
            rw [HE.out]
            refine ⟨?_, ((Fr.refl _ _).alloc _).alloc _⟩
            first
              | (simp_all; done)
              | (simp_all; omega)
end Go.Proofs.YtidhlfcmjpnhgaaGreatDoor
