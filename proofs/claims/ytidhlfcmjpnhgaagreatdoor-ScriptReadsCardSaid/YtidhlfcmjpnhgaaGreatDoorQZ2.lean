/- Check sums: the reference. -/
import Derived.Test.YtidhlfcmjpnhgaaGreatDoorQZ1
import Derived.Test.YtidhlfcmjpnhgaaGreatDoorQTwalk1
import Derived.Laws.BitsLemmas
import Derived.Deep.Cut
import Derived.Deep.RegionHeld3
namespace Go.Proofs.YtidhlfcmjpnhgaaGreatDoor
open Go.RowKit Go.Lib

theorem xor32b {a b : Nat} (ha : a < 4294967296) (hb : b < 4294967296) : bits .xor .u32 (a : Int) (b : Int) = ((a ^^^ b : Nat) : Int) := by
  have hx : a ^^^ b < 2 ^ 32 := Nat.xor_lt_two_pow (n := 32) (by omega) (by omega)
  simp only [bits, BitVec.ofInt_natCast, BitVec.toNat_xor, BitVec.toNat_ofNat]
  rw [show IntKind.u32.bits = 32 from rfl, Nat.mod_eq_of_lt (show a < 2 ^ 32 by omega), Nat.mod_eq_of_lt (show b < 2 ^ 32 by omega), IntKind.wrap_u32]
  omega
set_option maxRecDepth 100000 in
theorem ref_Step (w : World) (s bit : Nat) (hs : s < 16777216) (hb : bit < 2) : Calls Tryz.prog 134 #[.int .u32 s, .int .u32 bit] w fun e w' => e = .returned (.int .u32 (stepR s bit)) ∧ w = w' := by
  by_cases h : s / 8388608 % 2 = bit
  · have hI : (s : Int) / 8388608 % 2 = bit := by omega
    have HR := Lib.hid (show (stepR s bit : Int) = (s : Int) * 2 % 16777216 by unfold stepR; rw [if_neg (by simpa using h)]; omega)
    clear h
    go_enter Tryz.func134, Tryz.ntmps134
    go_wp2_with fail
    go_ret
    rw [HR.out]
    exact ⟨rfl, rfl⟩
  · have hI : ((s : Int) / 8388608 % 2 == (bit : Int)) = false := by rw [beq_eq_false_iff_ne]; omega
    have HX := Lib.hid (show bits .xor .u32 ((s : Int) * 2 % 16777216) 8801531 = (stepR s bit : Int) by
      have e : (s : Int) * 2 % 16777216 = ((s * 2 % 16777216 : Nat) : Int) := by omega
      rw [e, show (8801531 : Int) = ((8801531 : Nat) : Int) from rfl, xor32b (by omega) (by decide)]
      unfold stepR
      rw [if_pos (by simpa using h)])
    clear h
    go_enter Tryz.func134, Tryz.ntmps134
    go_wp2_with (first | rw [HX.out] | fail)
    go_ret
    exact ⟨rfl, rfl⟩
/-- Some of a byte's steps. -/
def bitsR (s : Nat) (b : Nat) : Nat → Nat
  | 0 => s
  | j + 1 => stepR (bitsR s b j) (b / 2 ^ (7 - j) % 2)
theorem bitsR_all (s : Nat) (b : UInt8) : bitsR s b.toNat 8 = byteR s b := by
  rw [byteR_bits]
  simp [bitsR]
theorem bitsR_lt {s b : Nat} (hs : s < 16777216) : ∀ j, bitsR s b j < 16777216
  | 0 => hs
  | _ + 1 => stepR_lt _ _
theorem ba_take {s : ByteArray} {k : Nat} (h : k < s.size) : s.data.toList.take (k + 1) = s.data.toList.take k ++ [s[k]] := by
  have h' : k < s.data.toList.length := by simpa using h
  rw [List.take_succ_eq_append_getElem h', ba_get s k h]
set_option maxRecDepth 100000 in
set_option maxHeartbeats 4000000 in
theorem ref_More (w : World) (s : Nat) (hs : s < 16777216) (b : ByteArray) (hb : b.size ≤ 100000) : Calls Tryz.prog 131 #[.int .u32 s, .string b] w fun e w' => e = .returned (.int .u32 (moreR s b.data.toList)) ∧ w = w' := by
  have HSI := Lib.hid (show (s : Int) % 16777216 = s from by omega)
  go_enter Tryz.func131, Tryz.ntmps131
  go_wp2_with fail
  go_loopw [5, 6] (fun xv iv wr => ∃ (k t : Nat), k ≤ b.size ∧ iv = .int .i64 k ∧ xv = .int .u32 t ∧ t < 16777216 ∧ Hid (moreR s (b.data.toList.take k) = t) ∧ wr = w) (fun _ iv _ => b.size - (intOf iv).toNat)
  case atStart => exact ⟨0, s, Nat.zero_le _, rfl, by rw [HSI.out], hs, Lib.hid rfl, rfl⟩
  case round =>
    obtain ⟨k, t, hk, rfl, rfl, ht, HT, rfl⟩ := hrel
    by_cases hlt : k < b.size
    · have hI : (k : Int) < b.size := by omega
      have hI0 : 0 ≤ (k : Int) := by omega
      have HN := Lib.hid (show moreR s (b.data.toList.take (k + 1)) = bitsR t b[k].toNat 8 by rw [ba_take hlt, moreR_snoc, HT.out, bitsR_all])
      have hbk := b[k].toNat_lt
      go_wp2_with fail
      go_loopw [5, 7] (fun xv kv wi => ∃ (j : Nat), j ≤ 8 ∧ kv = .int .i64 (7 - (j : Int)) ∧ xv = .int .u32 (bitsR t b[k].toNat j) ∧ wi = wr) (fun _ kv _ => (intOf kv + 1).toNat)
      case atStart => exact ⟨0, by omega, rfl, rfl, rfl⟩
      case round =>
        obtain ⟨j, hj, rfl, rfl, rfl⟩ := hrel
        have hl := bitsR_lt (b := b[k].toNat) ht j
        have HST := Lib.hid (ref_Step wr (bitsR t b[k].toNat j) (b[k].toNat / 2 ^ (7 - j) % 2) hl (Nat.mod_lt _ (by decide)))
        rw [show ((b[k].toNat / 2 ^ (7 - j) % 2 : Nat) : Int) = ((b[k].toNat : Int) / 2 ^ (7 - j)).tmod 2 by
          rw [Int.tmod_eq_emod_of_nonneg (Int.ediv_nonneg (by omega) (Int.le_of_lt (Int.pow_pos (by decide))))]
          simp] at HST
        have HNX := Lib.hid (show bitsR t b[k].toNat (j + 1) = stepR (bitsR t b[k].toNat j) (b[k].toNat / 2 ^ (7 - j) % 2) from rfl)
        by_cases h8 : j < 8
        · have hJ : 0 ≤ 7 - (j : Int) := by omega
          rw [← HNX.out] at HST
          obtain ⟨q2, HQ2⟩ : ∃ q2, Hid (bitsR t b[k].toNat (j + 1) = q2) := ⟨_, Lib.hid rfl⟩
          rw [HQ2.out] at HST
          generalize bitsR t b[k].toNat j = qj at *
          go_wp2_with (first | ((go_at_call 134); (with_reducible refine HST.out.mono ?_); rintro e w2 ⟨rfl, rfl⟩) | fail)
          exact ⟨⟨j + 1, by omega, vint (by omega), by rw [HQ2.out], trivial⟩, by simp [intOf]; omega⟩
        · obtain rfl : j = 8 := by omega
          go_wp2_with fail
          exact ⟨⟨k + 1, _, by omega, by go_num, rfl, hl, HN, trivial⟩, by simp [intOf]; omega⟩
    · have hI : ¬ (k : Int) < b.size := by omega
      go_wp2_with fail
      go_ret
      have := HT.out
      rw [List.take_of_length_le (by simp; omega)] at this
      rw [this]
      exact ⟨rfl, rfl⟩
theorem ref_Sum (w : World) (b : ByteArray) (hb : b.size ≤ 100000) : Calls Tryz.prog 116 #[.string b] w fun e w' => e = .returned (.int .u32 (sumR b.data.toList)) ∧ w = w' := by
  have HC := Lib.hid (ref_More w 0xB704CE (by decide) b hb)
  have HS := Lib.hid (show sumR b.data.toList = moreR 0xB704CE b.data.toList from rfl)
  rw [HS.out]
  clear HS
  generalize moreR 0xB704CE b.data.toList = t at *
  go_enter Tryz.func116, Tryz.ntmps116
  go_wp2_with (first | ((go_at_call 131); (refine HC.out.mono ?_); rintro e w1 ⟨rfl, rfl⟩) | fail)
  go_ret
  exact ⟨rfl, rfl⟩
set_option maxRecDepth 100000 in
theorem ref_CPut (w : World) (s : Nat) (hs : s < 16777216) : Calls Tryz.prog 115 #[.int .u32 s] w fun e w' => e = .returned (.string ⟨(crcB s).toArray⟩) ∧ Fr Nob w w' := by
  have hcv := fun (W : World) (x y z : Int) => run_convert_bytes_arg (P := Tryz.prog) (W.alloc (.cells #[.int .u8 x, .int .u8 y, .int .u8 z] 5)) 32 5 Tryz.underlying32 Tryz.underlying5 W.heap.size 0 3 3 [x, y, z] rfl (fun i hi => by
    have : i = 0 ∨ i = 1 ∨ i = 2 := by omega
    rcases this with rfl | rfl | rfl
    · exact (Blk.new W _ _).cell 0
    · exact (Blk.new W _ _).cell 1
    · exact (Blk.new W _ _).cell 2) 9 Tryz.underlying9
  have HE := Lib.hid (show strOfNums [(s : Int) / 65536 % 256, (s : Int) / 256 % 256, (s : Int) % 256] = ⟨(crcB s).toArray⟩ by
    have h1 : ((s : Int) / 65536 % 256).toNat = s / 65536 % 256 := by omega
    have h2 : ((s : Int) / 256 % 256).toNat = s / 256 % 256 := by omega
    have h3 : ((s : Int) % 256).toNat = s % 256 := by omega
    simp [strOfNums, crcB, h1, h2, h3])
  go_enter Tryz.func115, Tryz.ntmps115
  go_wp2_with fail
  go_ret
  refine ⟨?_, (Fr.refl Nob w).alloc _⟩
  rw [HE.out]
  rfl
theorem three_bytes (k : UInt8) (l : ByteArray) (hl : l.size ≤ 256) : strOfNums [(k.toNat : Int), (l.size : Int) / 256, (l.size : Int) % 256] ++ l = ⟨(headF k l.data.toList).toArray⟩ := by
  have h2 : ((l.size : Int) / 256).toNat = l.size / 256 := by omega
  have h3 : ((l.size : Int) % 256).toNat = l.size % 256 := by omega
  have h4 : l.data.size = l.size := rfl
  apply ByteArray.ext
  simp [strOfNums, headF, h2, h3, h4]
set_option maxRecDepth 100000 in
set_option maxHeartbeats 4000000 in
theorem ref_FPut (w : World) (k : UInt8) (l : ByteArray) (hl : l.size ≤ 256) : Calls Tryz.prog 88 #[.int .u8 (k.toNat : Nat), .string l] w fun e w' => e = .returned (.string ⟨(frameO k l.data.toList).toArray⟩) ∧ Fr Nob w w' := by
  have hcv := fun (W : World) (x y z : Int) => run_convert_bytes_arg (P := Tryz.prog) (W.alloc (.cells #[.int .u8 x, .int .u8 y, .int .u8 z] 5)) 32 5 Tryz.underlying32 Tryz.underlying5 W.heap.size 0 3 3 [x, y, z] rfl (fun i hi => by
    have : i = 0 ∨ i = 1 ∨ i = 2 := by omega
    rcases this with rfl | rfl | rfl
    · exact (Blk.new W _ _).cell 0
    · exact (Blk.new W _ _).cell 1
    · exact (Blk.new W _ _).cell 2) 9 Tryz.underlying9
  have HT3 := Lib.hid (three_bytes k l hl)
  have hk := k.toNat_lt
  have hls : (strOfNums [(k.toNat : Int), (l.size : Int) / 256, (l.size : Int) % 256]).size = 3 := rfl
  have hlI : (l.size : Int) ≤ 256 := by omega
  go_enter Tryz.func88, Tryz.ntmps88
  go_upto_region 2 with fail
  rw [HT3.out]
  obtain ⟨W1, hW1⟩ : ∃ W1, W1 = w.alloc (.cells #[.int .u8 (k.toNat : Nat), .int .u8 ((l.size : Int) / 256), .int .u8 ((l.size : Int) % 256)] 5) := ⟨_, rfl⟩
  have HF1 := Lib.hid (show Fr Nob w W1 by rw [hW1]; exact (Fr.refl _ _).alloc _)
  rw [← hW1]
  clear hW1 hcv HT3
  obtain ⟨H, HH⟩ : ∃ H : ByteArray, Hid (H = ⟨(headF k l.data.toList).toArray⟩) := ⟨_, Lib.hid rfl⟩
  have hHl : H.data.toList = headF k l.data.toList := by rw [HH.out]
  have hHs : H.size ≤ 259 := by
    have h1 : H.data.toList.length = H.size := by simp
    rw [hHl, headF] at h1
    simp at h1
    have : l.data.size = l.size := rfl
    omega
  have HS := Lib.hid (fun W => ref_Sum W H (by omega))
  have HP := Lib.hid (fun W => ref_CPut W (sumR H.data.toList) (sumR_lt _))
  have HEND := Lib.hid (show strOfNums [165] ++ H ++ ⟨(crcB (sumR H.data.toList)).toArray⟩ = ⟨(frameO k l.data.toList).toArray⟩ by
    rw [hHl]
    have e : H.data = (headF k l.data.toList).toArray := by rw [HH.out]
    apply ByteArray.ext
    simp [strOfNums, frameO, e])
  rw [← HH.out]
  obtain ⟨C, HC⟩ : ∃ C : ByteArray, Hid (⟨(crcB (sumR H.data.toList)).toArray⟩ = C) := ⟨_, Lib.hid rfl⟩
  have hCs : C.size = 3 := by rw [← HC.out]; rfl
  rw [HC.out] at HP HEND
  clear hHl
  generalize sumR H.data.toList = sm at *
  have h165 : (strOfNums [165]).size = 1 := rfl
  have hcv := fun (W : World) (g : Nat) (h : W.cell? ⟨g, 0, none⟩ = some (.int .u8 165)) => run_convert_bytes_arg (P := Tryz.prog) W 32 5 Tryz.underlying32 Tryz.underlying5 g 0 1 1 [165] rfl (fun i hi => by
    have : i = 0 := by omega
    subst this
    exact h) 9 Tryz.underlying9
  go_region_with (first
    | ((go_at_call 116); (with_reducible refine (HS.out _).mono ?_); rintro e w2 ⟨rfl, rfl⟩)
    | ((go_at_call 115); (with_reducible refine (HP.out W1.drew).mono ?_); rintro e w3 ⟨rfl, hf3⟩; have HF3 := Lib.hid ((Fr.refl Nob W1).drew.call hf3 (fun _ e _ => e)); clear hf3)
    | ((go_at_call 115); (with_reducible refine (HP.out _).mono ?_); rintro e w3 ⟨rfl, hf3⟩; have HB3 := Lib.hid ((Blk.new _ _ _).drew.fr hf3 (fun e => e)); have c3 := HB3.out.cell 0; have HF3 := Lib.hid (((Fr.refl Nob W1).alloc _).drew.call hf3 (fun _ e _ => e)); clear hf3)
    | fail)
  all_goals
    go_simp
    go_wp2_with fail
    go_ret
    rw [HEND.out]
    exact ⟨rfl, by first | exact HF1.out.call HF3.out (fun _ e _ => e) | exact (HF1.out.call HF3.out (fun _ e _ => e)).alloc _⟩
end Go.Proofs.YtidhlfcmjpnhgaaGreatDoor
