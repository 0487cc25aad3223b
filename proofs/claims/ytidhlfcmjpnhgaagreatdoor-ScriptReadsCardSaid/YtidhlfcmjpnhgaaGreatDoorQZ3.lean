/- Whether a message may be: the reference. -/
import Derived.Test.YtidhlfcmjpnhgaaGreatDoorQZ2
import Derived.Test.YtidhlfcmjpnhgaaGreatDoorQY8
import Derived.Test.YtidhlfcmjpnhgaaGreatDoorSM
namespace Go.Proofs.YtidhlfcmjpnhgaaGreatDoor
open Go.RowKit Go.Lib

set_option maxRecDepth 100000 in
set_option maxHeartbeats 4000000 in
theorem rf_May (w : World) (m : MC) (A : Option Addr) (c : Nat) (hs : Sl w 2 A m.props.length c (m.props.flatMap pcs)) (ho : MOk m) :
    Calls Tryz.prog 69 #[.agg (mV m A c)] w fun e w' => e = .returned (.bool (mayM m)) ∧ Fr Nob w w' := by
  obtain ⟨⟨hk0, hk1⟩, ⟨hq0, hq1⟩, ha, hf, hn⟩ := ho
  have HR := Lib.hid (fun W (hw : Fr Nob w W) => lref_Right W A c m.props (hs.pure hw) (fun p hp => by have := (hn p hp).1; omega))
  have hle := hs.le
  have hmx := hs.max
  unfold maxLen at hmx
  unfold I64 at ha
  clear hs hn
  obtain ⟨kind, seq, at_, props⟩ := m
  simp only at hk0 hk1 hq0 hq1 ha hf HR hle
  have HM := Lib.hid (show mayM ⟨kind, seq, at_, props⟩ = if at_ < 0 ∨ 8 < props.length ∨ rightB props = false then false
  else if kind = 1 then decide (at_ = 0) && props.isEmpty
  else if kind = 2 then true
  else if kind = 3 then decide (seq = 0) && props.isEmpty
  else decide (kind = 4) && decide (seq = 0) && decide (at_ = 0) && props.isEmpty from rfl)
  have hemp : props.isEmpty = decide (props.length = 0) := by cases props <;> simp
  unfold mV
  simp only
  have HR2 := Lib.hid (HR.out _ ((Fr.refl Nob w).alloc (.cells #[.int .u8 kind, .int .u64 seq, .int .i64 at_, .slice A props.length c] 122)))
  have HBB := Lib.hid (Blk.new w 122 #[.int .u8 kind, .int .u64 seq, .int .i64 at_, .slice A props.length c])
  have hbq : ((props.length : Int) == 0) = decide (props.length = 0) := by rw [Bool.eq_iff_iff]; simp
  generalize rightB props = r at *
  rw [hemp] at HM
  clear hemp HR
  generalize props.length = n at *
  by_cases ha0 : at_ < 0
  · have HE := Lib.hid (show mayM ⟨kind, seq, at_, props⟩ = false by rw [HM.out, if_pos (.inl ha0)])
    clear HM
    go_enter Tryz.func69, Tryz.ntmps69
    go_wp2_with (first | ((go_at_call 87); (with_reducible refine HR2.out.mono ?_); rintro e w1 ⟨rfl, hf1⟩; have HF1 := Lib.hid (((Fr.refl Nob w).alloc _).call hf1 (fun _ e _ => e)); have HB1 := HBB.out.fr hf1 (fun e => e); have b1 := HB1.cell; clear hf1 HB1) | fail)
    all_goals
      go_ret
      rw [HE.out]
      refine ⟨?_, by first | exact HF1.out | exact ((Fr.refl _ _).alloc _)⟩
      first
        | (simp_all; done)
        | (simp_all; omega)
  · by_cases h8 : 8 < n
    · have hI : (8 : Int) < n := by omega
      have HE := Lib.hid (show mayM ⟨kind, seq, at_, props⟩ = false by rw [HM.out, if_pos (.inr (.inl h8))])
      clear HM
      go_enter Tryz.func69, Tryz.ntmps69
      go_wp2_with (first | ((go_at_call 87); (with_reducible refine HR2.out.mono ?_); rintro e w1 ⟨rfl, hf1⟩; have HF1 := Lib.hid (((Fr.refl Nob w).alloc _).call hf1 (fun _ e _ => e)); have HB1 := HBB.out.fr hf1 (fun e => e); have b1 := HB1.cell; clear hf1 HB1) | fail)
      all_goals
        go_ret
        rw [HE.out]
        refine ⟨?_, by first | exact HF1.out | exact ((Fr.refl _ _).alloc _)⟩
        first
          | (simp_all; done)
          | (simp_all; omega)
    · have hI : ¬ (8 : Int) < n := by omega
      cases r
      · have HE := Lib.hid (show mayM ⟨kind, seq, at_, props⟩ = false by rw [HM.out, if_pos (.inr (.inr rfl))])
        clear HM
        go_enter Tryz.func69, Tryz.ntmps69
        go_wp2_with (first | ((go_at_call 87); (with_reducible refine HR2.out.mono ?_); rintro e w1 ⟨rfl, hf1⟩; have HF1 := Lib.hid (((Fr.refl Nob w).alloc _).call hf1 (fun _ e _ => e)); have HB1 := HBB.out.fr hf1 (fun e => e); have b1 := HB1.cell; clear hf1 HB1) | fail)
        all_goals
          go_ret
          rw [HE.out]
          refine ⟨?_, by first | exact HF1.out | exact ((Fr.refl _ _).alloc _)⟩
          first
            | (simp_all; done)
            | (simp_all; omega)
      · rw [if_neg (by simp; omega)] at HM
        by_cases h1 : kind = 1
        · subst h1
          have HE := Lib.hid (show mayM ⟨1, seq, at_, props⟩ = (decide (at_ = 0) && decide (n = 0)) by rw [HM.out]; simp)
          clear HM
          go_enter Tryz.func69, Tryz.ntmps69
          go_wp2_with (first | ((go_at_call 87); (with_reducible refine HR2.out.mono ?_); rintro e w1 ⟨rfl, hf1⟩; have HF1 := Lib.hid (((Fr.refl Nob w).alloc _).call hf1 (fun _ e _ => e)); have HB1 := HBB.out.fr hf1 (fun e => e); have b1 := HB1.cell; clear hf1 HB1) | fail)
          all_goals
            go_ret
            rw [HE.out]
            refine ⟨?_, by first | exact HF1.out | exact ((Fr.refl _ _).alloc _)⟩
            first
              | (simp_all; done)
              | (simp_all; omega)
        · by_cases h2 : kind = 2
          · subst h2
            have HE := Lib.hid (show mayM ⟨2, seq, at_, props⟩ = true by rw [HM.out]; simp)
            clear HM
            go_enter Tryz.func69, Tryz.ntmps69
            go_wp2_with (first | ((go_at_call 87); (with_reducible refine HR2.out.mono ?_); rintro e w1 ⟨rfl, hf1⟩; have HF1 := Lib.hid (((Fr.refl Nob w).alloc _).call hf1 (fun _ e _ => e)); have HB1 := HBB.out.fr hf1 (fun e => e); have b1 := HB1.cell; clear hf1 HB1) | fail)
            all_goals
              go_ret
              rw [HE.out]
              refine ⟨?_, by first | exact HF1.out | exact ((Fr.refl _ _).alloc _)⟩
              first
                | (simp_all; done)
                | (simp_all; omega)
          · by_cases h3 : kind = 3
            · subst h3
              have HE := Lib.hid (show mayM ⟨3, seq, at_, props⟩ = (decide (seq = 0) && decide (n = 0)) by rw [HM.out]; simp)
              clear HM
              go_enter Tryz.func69, Tryz.ntmps69
              go_wp2_with (first | ((go_at_call 87); (with_reducible refine HR2.out.mono ?_); rintro e w1 ⟨rfl, hf1⟩; have HF1 := Lib.hid (((Fr.refl Nob w).alloc _).call hf1 (fun _ e _ => e)); have HB1 := HBB.out.fr hf1 (fun e => e); have b1 := HB1.cell; clear hf1 HB1) | fail)
              all_goals
                go_ret
                rw [HE.out]
                refine ⟨?_, by first | exact HF1.out | exact ((Fr.refl _ _).alloc _)⟩
                first
                  | (simp_all; done)
                  | (simp_all; omega)
            · by_cases h4 : kind = 4
              · subst h4
                have HE := Lib.hid (show mayM ⟨4, seq, at_, props⟩ = (decide (seq = 0) && decide (at_ = 0) && decide (n = 0)) by rw [HM.out]; simp)
                clear HM
                go_enter Tryz.func69, Tryz.ntmps69
                go_wp2_with (first | ((go_at_call 87); (with_reducible refine HR2.out.mono ?_); rintro e w1 ⟨rfl, hf1⟩; have HF1 := Lib.hid (((Fr.refl Nob w).alloc _).call hf1 (fun _ e _ => e)); have HB1 := HBB.out.fr hf1 (fun e => e); have b1 := HB1.cell; clear hf1 HB1) | fail)
                all_goals
                  go_ret
                  rw [HE.out]
                  refine ⟨?_, by first | exact HF1.out | exact ((Fr.refl _ _).alloc _)⟩
                  first
                    | (simp_all; done)
                    | (simp_all; omega)
              · have HE := Lib.hid (show mayM ⟨kind, seq, at_, props⟩ = false by rw [HM.out]; simp [h1, h2, h3, h4])
                clear HM
                go_enter Tryz.func69, Tryz.ntmps69
                go_wp2_with (first | ((go_at_call 87); (with_reducible refine HR2.out.mono ?_); rintro e w1 ⟨rfl, hf1⟩; have HF1 := Lib.hid (((Fr.refl Nob w).alloc _).call hf1 (fun _ e _ => e)); have HB1 := HBB.out.fr hf1 (fun e => e); have b1 := HB1.cell; clear hf1 HB1) | fail)
                all_goals
                  go_ret
                  rw [HE.out]
                  refine ⟨?_, by first | exact HF1.out | exact ((Fr.refl _ _).alloc _)⟩
                  first
                    | (simp_all; done)
                    | (simp_all; omega)
end Go.Proofs.YtidhlfcmjpnhgaaGreatDoor
