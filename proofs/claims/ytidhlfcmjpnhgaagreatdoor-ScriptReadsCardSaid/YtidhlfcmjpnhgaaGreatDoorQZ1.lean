/- Numbers, texts and signs as bytes: the reference. -/
import Derived.Test.YtidhlfcmjpnhgaaGreatDoorQY1
import Derived.Test.YtidhlfcmjpnhgaaGreatDoorSG
import Derived.Test.YtidhlfcmjpnhgaaGreatDoorSB
namespace Go.Proofs.YtidhlfcmjpnhgaaGreatDoor
open Go.RowKit Go.Lib

def Bg (u v : Nat) (acc : List UInt8) : Prop := be u = be v ++ acc
theorem Bg.few {u v : Nat} {acc : List UInt8} (h : Bg u v acc) (hu : u < 18446744073709551616) : acc.length ≤ 8 := by
  have h1 := be_le8 hu
  have h2 := congrArg List.length h
  rw [List.length_append] at h2
  omega
set_option maxRecDepth 100000 in
set_option maxHeartbeats 2000000 in
theorem ref_Num (w : World) (x : Nat) (hx : x < 18446744073709551616) : Calls Tryz.prog 117 #[.int .u64 x] w fun e w' => e = .returned (.string ⟨(numO x).toArray⟩) ∧ Fr Nob w w' := by
  have hcv := fun (W : World) (x : Int) => run_convert_bytes_arg (P := Tryz.prog) (W.alloc (.cells #[.int .u8 x] 5)) 32 5 Tryz.underlying32 Tryz.underlying5 W.heap.size 0 1 1 [x] rfl (fun i hi => by
    have : i = 0 := by omega
    subst this
    exact (Blk.new W _ _).cell 0) 9 Tryz.underlying9
  have hss : ∀ x : Int, (strOfNums [x]).size = 1 := fun _ => rfl
  by_cases h0 : x < 248
  · have hI : (x : Int) < 248 := by omega
    have HR := Lib.hid (show numO x = [UInt8.ofNat x] by unfold numO; rw [if_pos h0])
    clear h0
    go_enter Tryz.func117, Tryz.ntmps117
    go_wp2_with fail
    go_ret
    refine ⟨?_, (Fr.refl Nob w).alloc _⟩
    rw [HR.out]
    exact ret1 (by simp [strOfNums])
  · have hI : ¬ (x : Int) < 248 := by omega
    have HR := Lib.hid (show numO x = UInt8.ofNat (247 + (be x).length) :: be x by unfold numO; rw [if_neg h0])
    have h8 := be_le8 hx
    clear h0
    go_enter Tryz.func117, Tryz.ntmps117
    go_wp2_with fail
    go_loopw [3, 4] (fun sv uv wr => ∃ (v : Nat) (acc : List UInt8), v ≤ x ∧ uv = .int .u64 v ∧ sv = .string ⟨acc.toArray⟩ ∧ Hid (Fr Nob w wr) ∧ Hid (Bg x v acc)) (fun _ uv _ => (intOf uv).toNat)
    case atStart => exact ⟨x, [], Nat.le_refl _, rfl, rfl, Lib.hid (Fr.refl _ _), Lib.hid (by simp [Bg])⟩
    case round =>
      obtain ⟨v, acc, hv, rfl, rfl, hfr, hd⟩ := hrel
      have hfew := hd.out.few hx
      have hsz : (⟨acc.toArray⟩ : ByteArray).size = acc.length := by show acc.toArray.size = _; simp
      by_cases hv0 : v = 0
      · have hJ : ¬ (0 : Int) < v := by omega
        have HB := Lib.hid (show be x = acc by rw [hd.out, hv0, be_zero]; rfl)
        have HN := Lib.hid (show (UInt8.ofNat (247 + (acc.length : Int)).toNat) = UInt8.ofNat (247 + acc.length) by congr 1)
        go_wp2_with fail
        rw [str_cons, HN.out]
        go_ret
        refine ⟨?_, hfr.out.alloc _⟩
        rw [HR.out, HB.out]
        exact ret1 rfl
      · have hJ : (0 : Int) < v := by omega
        have HD := Lib.hid (show Bg x (v / 256) (UInt8.ofNat (v % 256) :: acc) by unfold Bg; rw [hd.out, be_pos hv0]; simp)
        have HV := Lib.hid (show UInt8.ofNat ((v : Int) % 256).toNat = UInt8.ofNat (v % 256) by congr 1)
        have m1 : 0 ≤ (v : Int) % 256 := by omega
        have m2 : (v : Int) % 256 < 256 := by omega
        go_wp2_with fail
        rw [str_cons, HV.out]
        exact ⟨⟨v / 256, _, by omega, rfl, rfl, Lib.hid (hfr.out.alloc _), HD⟩, by simp [intOf]; omega⟩
/-- A text's bytes. -/
theorem ref_Text (w : World) (s : ByteArray) (hs : s.size ≤ 100000) : Calls Tryz.prog 118 #[.string s] w fun e w' => e = .returned (.string ⟨(textO s.data.toList).toArray⟩) ∧ Fr Nob w w' := by
  have HN := Lib.hid (ref_Num w s.size (by omega))
  have HR := Lib.hid (show (⟨(numO s.size).toArray⟩ : ByteArray) ++ s = ⟨(textO s.data.toList).toArray⟩ by
    have e : s.data.toList.length = s.size := by simp
    unfold textO
    rw [e]
    apply ByteArray.ext
    simp)
  have hl := (numO_len (x := s.size) (by omega)).2
  have hsz : (⟨(numO s.size).toArray⟩ : ByteArray).size = (numO s.size).length := by show (numO s.size).toArray.size = _; simp
  go_enter Tryz.func118, Tryz.ntmps118
  go_wp2_with (first | ((go_at_call 117); (with_reducible refine HN.out.mono ?_); rintro e w2 ⟨rfl, hf2⟩) | fail)
  go_ret
  refine ⟨?_, hf2⟩
  rw [HR.out]
  rfl
theorem ref_Sign (w : World) (n : Int) (hn : I64 n) : Calls Tryz.prog 119 #[.int .i64 n] w fun e w' => e = .returned (.int .u64 (signO n)) ∧ w = w' := by
  unfold I64 at hn
  by_cases h0 : 0 ≤ n
  · have hs : (signO n : Int) = 2 * n := by unfold signO; rw [if_pos h0]; omega
    rw [hs]
    go_enter Tryz.func119, Tryz.ntmps119
    go_wp2_with fail
    go_ret
    exact ⟨rfl, rfl⟩
  · have hs : (signO n : Int) = 2 * (-(n + 1)) + 1 := by unfold signO; rw [if_neg h0]; omega
    rw [hs]
    go_enter Tryz.func119, Tryz.ntmps119
    go_wp2_with fail
    go_ret
    exact ⟨rfl, rfl⟩
end Go.Proofs.YtidhlfcmjpnhgaaGreatDoor
