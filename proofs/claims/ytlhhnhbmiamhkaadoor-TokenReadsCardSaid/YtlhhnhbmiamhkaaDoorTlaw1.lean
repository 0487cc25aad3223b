/- The token laws' example. -/
import Derived.Test.YtlhhnhbmiamhkaaDoorTref6
import Derived.Test.YtlhhnhbmiamhkaaDoorTpl
import Derived.Test.YtlhhnhbmiamhkaaDoorOpen
namespace Go.Proofs.YtlhhnhbmiamhkaaDoor
open Go.RowKit Go.Shelf

theorem rd_awake1 : readT [97, 60, 45, 53] = ((0, 0), [(⟨1, [97], 0⟩, 0), (⟨3, [60], 0⟩, 1), (⟨2, [45, 53], -5⟩, 2), (tk0, 4)]) := by kernel_rfl
theorem rd_awake2 : readT [97, 98, 32, 32, 36] = ((20, 4), []) := by kernel_rfl
set_option maxRecDepth 100000 in
set_option maxHeartbeats 8000000 in
theorem law_awake (w : World) (hv : ErrVar w) : Calls Tryd.prog 8 #[] w fun e w' => e = .returned (.bool true) ∧ Fr Nob w w' := by
  have HV := Lib.hid hv
  clear hv
  have H1 := Lib.hid (fun W hv => tok_Read W ⟨#[97, 60, 45, 53]⟩ (by decide) hv)
  have H2 := Lib.hid (fun W hv => tok_Read W ⟨#[97, 98, 32, 32, 36]⟩ (by decide) hv)
  rw [show (ByteArray.mk #[97, 60, 45, 53]).data.toList = [97, 60, 45, 53] from rfl, rd_awake1] at H1
  rw [show (ByteArray.mk #[97, 98, 32, 32, 36]).data.toList = [97, 98, 32, 32, 36] from rfl, rd_awake2] at H2
  go_enter Tryd.func8, Tryd.ntmps8
  go_wp2_with fail
  refine (H1.out _ HV.out).mono ?_
  rintro e w1 ⟨A1, c1, rfl, hs1, hf1⟩
  have HV1 := Lib.hid (HV.out.fr hf1)
  go_wp2_with fail
  refine (H2.out _ HV1.out).mono ?_
  rintro e w2 ⟨A2, c2, rfl, hs2, hf2⟩
  have hs := hs1.pure hf2
  obtain ⟨b, off, rfl, hb, hc⟩ := hs.cells (by decide)
  have h5 := hc 5 (.string ⟨#[60]⟩) rfl
  have h10 := hc 10 (.int .i64 (-5)) rfl
  have h12 := hc 12 (.int .i64 0) rfl
  have h15 := hc 15 (.int .i64 4) rfl
  have HF := Lib.hid (hf1.call hf2 (fun _ h _ => h))
  clear hc hs hs1 hs2 hf1 hf2 HV HV1 H1 H2
  go_wp2_with fail
  go_ret
  exact ⟨rfl, HF.out⟩

theorem tk_cells {w : World} {A : Option Addr} {c : Nat} {l : List (TK × Nat)} {k : Nat} (h : Sl w 4 A l.length c (l.flatMap tcs)) (hk : k < l.length) :
    ∃ b off, A = some ⟨b, off, none⟩ ∧ b < w.heap.size ∧ w.cell? ⟨b, off + k * 4, none⟩ = some (.int .i64 l[k].1.kind) ∧ w.cell? ⟨b, off + k * 4 + 1, none⟩ = some (.string ⟨l[k].1.text.toArray⟩) ∧
      w.cell? ⟨b, off + k * 4 + 2, none⟩ = some (.int .i64 l[k].1.num) ∧ w.cell? ⟨b, off + k * 4 + 3, none⟩ = some (.int .i64 l[k].2) := by
  obtain ⟨b, off, hA, hb, hc⟩ := Sl.row (size := 4) tcs_len h hk
  exact ⟨b, off, hA, hb, hc 0 _ rfl, by rw [Nat.add_assoc]; exact hc 1 _ rfl, by rw [Nat.add_assoc]; exact hc 2 _ rfl, by rw [Nat.add_assoc]; exact hc 3 _ rfl⟩

set_option maxRecDepth 100000 in
theorem law_same0 (w : World) (ki : Int) (tx : ByteArray) (nu : Int) (pl : Nat) : Calls Tryd.prog 11 #[.agg #[.int .i64 ki, .string tx, .int .i64 nu, .int .i64 pl], .agg #[.int .i64 ki, .string tx, .int .i64 nu, .int .i64 pl], .int .i64 0] w fun e w' => e = .returned (.bool true) ∧ Fr Nob w w' := by
  go_enter Tryd.func11, Tryd.ntmps11
  go_wp2_with fail
  go_ret
  exact ⟨rfl, ((Fr.refl _ _).alloc _).alloc _⟩

set_option maxRecDepth 100000 in
set_option maxHeartbeats 8000000 in
theorem law_TokenReads (w : World) (s : ByteArray) (hv : ErrVar w) : Calls Tryd.prog 3 #[.string s] w fun e w' => e = .returned (.bool true) ∧ Fr Nob w w' := by
  have HV := Lib.hid hv
  clear hv
  go_enter Tryd.func3, Tryd.ntmps3
  go_wp2_with fail
  refine (law_awake _ HV.out).mono ?_
  rintro e w0 ⟨rfl, hf0⟩
  have HV0 := Lib.hid (HV.out.fr hf0)
  clear HV
  by_cases hl : s.size ≤ 1000
  · have hlI : (s.size : Int) ≤ 1000 := by omega
    go_wp2_with fail
    refine (tok_Read _ s (by omega) HV0.out).mono ?_
    rintro e w1 ⟨A1, c1, rfl, hs1, hf1⟩
    go_wp2_with fail
    refine (ref_Read _ s (by omega)).mono ?_
    rintro e w2 ⟨A2, c2, rfl, hs2, hf2⟩
    have hs1 := hs1.pure hf2
    have HF := Lib.hid ((hf0.call hf1 (fun _ h _ => h)).call hf2 (fun _ h _ => h))
    clear hf0 hf1 hf2 HV0
    obtain ⟨⟨er, o⟩, hr⟩ : ∃ p, readT s.data.toList = p := ⟨_, rfl⟩
    obtain ⟨e, k⟩ := er
    rw [hr] at hs1 hs2 ⊢
    have hmx : _ ≤ 9223372036854775807 := Nat.le_trans hs1.le (by have := hs1.max; unfold maxLen at this; exact this)
    have HS1 := Lib.hid hs1
    have HS2 := Lib.hid hs2
    clear hs1 hs2 hr
    simp only at hmx ⊢
    go_wp2_with fail
    go_loopw [10] (fun i wr => ∃ k : Nat, k ≤ o.length ∧ i = .int .i64 k ∧ Hid (Fr Nob w2 wr)) (fun i _ => o.length - (intOf i).toNat)
    case atStart => exact ⟨0, Nat.zero_le _, rfl, Lib.hid (Fr.refl _ _)⟩
    case round =>
      obtain ⟨k, hk, rfl, hfr⟩ := hrel
      by_cases hlt : k < o.length
      · have hI : (k : Int) < o.length := by omega
        have hI3 : 0 ≤ (k : Int) := by omega
        obtain ⟨ba, off, rfl, hba, d0, d1, d2, d3⟩ := tk_cells (HS1.out.pure hfr.out) hlt
        obtain ⟨bb, off2, rfl, hbb, e0, e1, e2, e3⟩ := tk_cells (HS2.out.pure hfr.out) hlt
        generalize o[k] = x at *
        obtain ⟨⟨ki, tx, nu⟩, pl⟩ := x
        simp only at d0 d1 d2 d3 e0 e1 e2 e3
        generalize ByteArray.mk tx.toArray = tb at *
        go_wp2_with fail
        go_region_with ((go_at_call 11); refine (law_same0 _ ki tb nu pl).mono ?_; rintro e w' ⟨rfl, hf⟩)
        all_goals
          go_wp2_with fail
          go_roundw
          case rel => exact ⟨k + 1, by omega, by go_num, by first | exact Lib.hid (hfr.out.call hf (fun _ h _ => h)) | exact Lib.hid ((hfr.out.drew).call hf (fun _ h _ => h)) | exact Lib.hid ((hfr.out.call hf (fun _ h _ => h)).drew)⟩
          case measure => simp [intOf]; omega
      · go_wp2_with fail
        go_ret
        exact ⟨rfl, HF.out.call hfr.out (fun _ h _ => h)⟩
  · have hlI : (1000 : Int) < s.size := by omega
    go_wp2_with fail
    go_ret
    exact ⟨rfl, hf0⟩
end Go.Proofs.YtlhhnhbmiamhkaaDoor
