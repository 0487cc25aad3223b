/- The reference: a configuration's text. -/
import Derived.Test.YtoegdmpmagbaiaaDoorV26
import Derived.Test.YtoegdmpmagbaiaaDoorV16
import Derived.Test.YtoegdmpmagbaiaaDoorTwalk1
import Derived.Deep.RegionHeld3
namespace Go.Proofs.YtoegdmpmagbaiaaDoor
open Go.RowKit Go.Lib

theorem dig_len {n : Int} (h0 : 0 ≤ n) (h : n ≤ 9223372036854775807) : (digsI n).length ≤ 19 := by
  unfold digsI
  rw [if_neg (by omega)]
  exact dg_19 (by omega)
theorem in_one {c : CF} {k : Nat} {v : Int} (ht : tellC c k = [v]) (h : (tellC c k).all (inC k) = true) : loC k ≤ v ∧ v ≤ hiC k := by
  rw [ht] at h
  simpa [inC] using h
set_option maxRecDepth 100000 in
set_option maxHeartbeats 4000000 in
theorem ref_Show (w : World) (c : CF) (A : Option Addr) (cap : Nat) (hl : Sl w 1 A c.weights.length cap (ints c.weights)) (h63 : c.weights.length ≤ 1000) (ht : c.timeout ≤ 9223372036854775807) (hp : c.patience ≤ 9223372036854775807) :
    Calls Tryd.prog 23 #[.agg (cfA c A cap)] w fun e w' => e = .returned (.string ⟨(showC c).toArray⟩) ∧ Fr Nob w w' := by
  have HL := Lib.hid hl
  have HCK := Lib.hid (fun (W : World) (hf : Fr Nob w W) => ref_Check W c A cap (hl.pure hf) h63 ht hp)
  have hmx := hl.max
  have hle := hl.le
  unfold maxLen at hmx
  clear hl
  go_enter Tryd.func23, Tryd.ntmps23
  go_upto_region 1 with fail
  obtain ⟨W0, hW0⟩ : ∃ W0, W0 = w.alloc (.cells (cfA c A cap) 47) := ⟨_, rfl⟩
  have HF0 := Lib.hid (show Fr Nob w W0 by rw [hW0]; exact (Fr.refl _ _).alloc _)
  have HB0 := Lib.hid (show Blk W0 w.heap.size 47 (cfA c A cap) by rw [hW0]; exact Blk.new _ _ _)
  rw [← hW0]
  clear hW0
  have HC0 := Lib.hid (HCK.out W0 HF0.out)
  have bx := HB0.out.cell
  have bl_ := HB0.out.lt
  unfold cfA at bx HC0
  by_cases hck : checkC c = 0
  · have HK := Lib.hid hck
    rw [hck] at HC0
    clear hck
    go_upto_region 3 with (first | ((go_at_call 21); (with_reducible refine HC0.out.mono ?_); rintro e W1 ⟨rfl, hf1⟩; have HF1 := Lib.hid (HF0.out.call hf1 (fun _ e _ => e)); have HB1 := Lib.hid (HB0.out.fr hf1 (fun e => e)); clear hf1) | fail)
    clear bx bl_
    obtain ⟨hall, hws⟩ := check_all HK.out
    have g0 : 1 ≤ c.sources ∧ c.sources ≤ 8 := in_one rfl (hall 0 (by omega))
    have g1 : 1 ≤ c.room ∧ c.room ≤ 64 := in_one rfl (hall 1 (by omega))
    have g4 : 1 ≤ c.quantum ∧ c.quantum ≤ 64 := in_one rfl (hall 4 (by omega))
    have g5 : 1 ≤ c.timeout ∧ c.timeout ≤ 9223372036854775807 := in_one rfl (hall 5 (by omega))
    have g6 : 0 ≤ c.patience ∧ c.patience ≤ 9223372036854775807 := in_one rfl (hall 6 (by omega))
    have HALL := Lib.hid (hall 3 (by omega))
    have HWL := Lib.hid (check_sources HK.out)
    clear hall hws
    have HD0 := Lib.hid (fun W => ref_Digits W c.sources (by unfold I64; omega))
    have HD1 := Lib.hid (fun W => ref_Digits W c.room (by unfold I64; omega))
    have HD4 := Lib.hid (fun W => ref_Digits W c.quantum (by unfold I64; omega))
    have HD5 := Lib.hid (fun W => ref_Digits W c.timeout (by unfold I64; omega))
    have HD6 := Lib.hid (fun W => ref_Digits W c.patience (by unfold I64; omega))
    have l0 : (digsI c.sources).length ≤ 19 := dig_len (by omega) (by omega)
    have l1 : (digsI c.room).length ≤ 19 := dig_len (by omega) (by omega)
    have HL4 := Lib.hid (show (digsI c.quantum).length ≤ 19 from dig_len (by omega) (by omega))
    have HL5 := Lib.hid (show (digsI c.timeout).length ≤ 19 from dig_len (by omega) (by omega))
    have HL6 := Lib.hid (show (digsI c.patience).length ≤ 19 from dig_len (by omega) (by omega))
    clear g0 g1 g4 g5 g6
    have bx := HB1.out.cell
    have bl_ := HB1.out.lt
    unfold cfA at bx
    have bc0 : W1.cell? ⟨w.heap.size, 0, none⟩ = some (.int .i64 c.sources) := bx 0
    have bc1 : W1.cell? ⟨w.heap.size, 1, none⟩ = some (.int .i64 c.room) := bx 1
    clear bx
    have HP2 := Lib.hid (show (⟨#[115, 111, 117, 114, 99, 101, 115, 32]⟩ ++ ⟨(digsI c.sources).toArray⟩ ++ ⟨#[10]⟩ ++ ⟨#[114, 111, 111, 109, 32]⟩ ++ ⟨(digsI c.room).toArray⟩ ++ ⟨#[10]⟩ : ByteArray).data.toList = preC c 2 by
      unfold preC rowC
      simp [ByteArray.data_append, List.range_succ, tellC, keysC, textC])
    have z1 : ¬ 9223372036854775807 < 8 + (digsI c.sources).length := by omega
    have z2 : ¬ 9223372036854775807 < 8 + (digsI c.sources).length + 1 := by omega
    have z3 : ¬ 9223372036854775807 < 8 + (digsI c.sources).length + 1 + 5 := by omega
    have z4 : ¬ 9223372036854775807 < 8 + (digsI c.sources).length + 1 + 5 + (digsI c.room).length := by omega
    have z5 : ¬ 9223372036854775807 < 8 + (digsI c.sources).length + 1 + 5 + (digsI c.room).length + 1 := by omega
    go_region_held3 (fun W => W.cell? ⟨w.heap.size, 0, none⟩ = some (.int .i64 c.sources) ∧ W.cell? ⟨w.heap.size, 1, none⟩ = some (.int .i64 c.room)) (first | go_keep | (go_split_ands; refine ⟨?_, ?_⟩ <;> exact Fr.cell hf1 (by assumption) (fun e => e))) (first | ((go_at_call 24); (with_reducible refine (HD0.out _).mono ?_); rintro e w1 ⟨rfl, hf1⟩; have HG1 := Lib.hid (((Fr.refl Nob W1).drew).call hf1 (fun _ e _ => e))) | ((go_at_call 24); (with_reducible refine (HD1.out _).mono ?_); rintro e w1 ⟨rfl, hf1⟩; have HG2 := Lib.hid (HG1.out.call hf1 (fun _ e _ => e))))
    generalize (⟨#[115, 111, 117, 114, 99, 101, 115, 32]⟩ ++ ⟨(digsI c.sources).toArray⟩ ++ ⟨#[10]⟩ ++ ⟨#[114, 111, 111, 109, 32]⟩ ++ ⟨(digsI c.room).toArray⟩ ++ ⟨#[10]⟩ : ByteArray) = X at *
    have HXS := Lib.hid (show X.size ≤ 512 by rw [← ba_len, HP2.out]; exact pre_512 HK.out (by omega))
    have HB2 := Lib.hid (HB1.out.fr HG2.out (fun e => e))
    have HF2 := Lib.hid (HF1.out.call HG2.out (fun _ e _ => e))
    clear HG1 HG2 hf1 bc0 bc1 z1 z2 z3 z4 z5 l0 l1 HD0 HD1 bl_ HB1
    have bx := HB2.out.cell
    have bl_ := HB2.out.lt
    unfold cfA at bx
    have zx1 : ¬ 9223372036854775807 < X.size + 21 := by have := HXS.out; omega
    have zx2 : ¬ 9223372036854775807 < X.size + 19 := by have := HXS.out; omega
    cases ho : c.oldest
    · rw [ho] at bx
      have HP3 := Lib.hid (show (X ++ ⟨#[112, 111, 108, 105, 99, 121, 32, 116, 97, 105, 108, 10, 119, 101, 105, 103, 104, 116, 115]⟩ : ByteArray).data.toList = midC c 3 0 by
        rw [ByteArray.data_append, Array.toList_append, HP2.out]
        unfold midC preC rowC
        simp [List.range_succ, tellC, keysC, textC, ho, tailC])
      have HO := Lib.hid ho
      clear ho
      go_upto_region 8 with fail
      generalize (X ++ ⟨#[112, 111, 108, 105, 99, 121, 32, 116, 97, 105, 108, 10, 119, 101, 105, 103, 104, 116, 115]⟩ : ByteArray) = Y at *
      go_loopw [3, 4] (fun sv iv wr => ∃ (k : Nat) (Z : ByteArray), k ≤ c.weights.length ∧ iv = .int .i64 k ∧ sv = .string Z ∧ Hid (Fr Nob w1 wr) ∧ Hid (Z.data.toList = midC c 3 k)) (fun _ iv _ => c.weights.length - (RowKit.intOf iv).toNat)
      case atStart => exact ⟨0, Y, Nat.zero_le _, rfl, rfl, Lib.hid (Fr.refl _ _), HP3⟩
      case round =>
        obtain ⟨k, Z, hk, rfl, rfl, hf, hz⟩ := hrel
        have HFW := Lib.hid (HF2.out.call hf.out (fun _ e _ => e))
        have HBk := Lib.hid (HB2.out.fr hf.out (fun e => e))
        have bx := HBk.out.cell
        have bl_ := HBk.out.lt
        unfold cfA at bx
        rw [HO.out] at bx
        have HZS := Lib.hid (show Z.size ≤ 511 by rw [← ba_len, hz.out]; exact mid_512 HK.out (by omega) hk)
        by_cases hlt : k < c.weights.length
        · have hI : (k : Int) < c.weights.length := by omega
          have hI3 : 0 ≤ (k : Int) := by omega
          obtain ⟨g, o, hAe, hg, hc⟩ := (HL.out.pure HFW.out).int_at hlt
          subst hAe
          have HIN := Lib.hid (List.all_eq_true.1 HALL.out c.weights[k] (show c.weights[k] ∈ tellC c 3 from List.getElem_mem _))
          have HNX := Lib.hid (show midC c 3 (k + 1) = midC c 3 k ++ [32] ++ textC 3 c.weights[k] from midC_next (k := 3) hlt)
          generalize c.weights[k] = v at *
          have hv : 1 ≤ v ∧ v ≤ 16 := by
            have := HIN.out
            simpa [inC, loC, hiC] using this
          have HDv := Lib.hid (fun W => ref_Digits W v (by unfold I64; omega))
          have lv : (digsI v).length ≤ 19 := dig_len (by omega) (by omega)
          have zy1 : ¬ 9223372036854775807 < 1 + (digsI v).length := by omega
          have zy2 : ¬ 9223372036854775807 < Z.size + (1 + (digsI v).length) := by have := HZS.out; omega
          have HZN := Lib.hid (show (Z ++ (⟨#[32]⟩ ++ ⟨(digsI v).toArray⟩) : ByteArray).data.toList = midC c 3 (k + 1) by
            rw [ByteArray.data_append, Array.toList_append, hz.out, HNX.out, ByteArray.data_append, Array.toList_append]
            simp [textC])
          clear hv
          go_wp2_with (first | ((go_at_call 24); (with_reducible refine (HDv.out _).mono ?_); rintro e w3 ⟨rfl, hf3⟩; have HG3 := Lib.hid (hf.out.call hf3 (fun _ e _ => e)); clear hf3) | fail)
          go_roundw
          case rel => exact ⟨k + 1, _, by omega, by go_num, rfl, HG3, HZN⟩
          case measure => simp [RowKit.intOf]; omega
        · have hI : ¬ (k : Int) < c.weights.length := by omega
          obtain rfl : k = c.weights.length := by omega
          have l4 := HL4.out
          have l5 := HL5.out
          have l6 := HL6.out
          have HFIN := Lib.hid (show (Z ++ ⟨#[10, 113, 117, 97, 110, 116, 117, 109, 32]⟩ ++ ⟨(digsI c.quantum).toArray⟩ ++ ⟨#[10, 116, 105, 109, 101, 111, 117, 116, 32]⟩ ++ ⟨(digsI c.timeout).toArray⟩ ++ ⟨#[10, 112, 97, 116, 105, 101, 110, 99, 101, 32]⟩ ++ ⟨(digsI c.patience).toArray⟩ ++ ⟨#[10]⟩ : ByteArray) = ⟨(showC c).toArray⟩ by
            apply ByteArray.ext
            apply Array.toList_inj.1
            have hsh : showC c = preC c 4 ++ rowC c 4 ++ rowC c 5 ++ rowC c 6 := by
              unfold showC preC
              rw [if_pos HK.out]
              simp [List.range_succ]
            simp only [ByteArray.data_append, Array.toList_append, hz.out]
            rw [hsh, show preC c 4 = midC c 3 c.weights.length ++ [10] from preC_next c 3]
            unfold rowC
            simp [tellC, keysC, textC])
          have zz1 : ¬ 9223372036854775807 < Z.size + 9 := by have := HZS.out; omega
          have zz2 : ¬ 9223372036854775807 < Z.size + 9 + (digsI c.quantum).length := by have := HZS.out; omega
          have zz3 : ¬ 9223372036854775807 < Z.size + 9 + (digsI c.quantum).length + 9 := by have := HZS.out; omega
          have zz4 : ¬ 9223372036854775807 < Z.size + 9 + (digsI c.quantum).length + 9 + (digsI c.timeout).length := by have := HZS.out; omega
          have zz5 : ¬ 9223372036854775807 < Z.size + 9 + (digsI c.quantum).length + 9 + (digsI c.timeout).length + 10 := by have := HZS.out; omega
          have zz6 : ¬ 9223372036854775807 < Z.size + 9 + (digsI c.quantum).length + 9 + (digsI c.timeout).length + 10 + (digsI c.patience).length := by have := HZS.out; omega
          have zz7 : ¬ 9223372036854775807 < Z.size + 9 + (digsI c.quantum).length + 9 + (digsI c.timeout).length + 10 + (digsI c.patience).length + 1 := by have := HZS.out; omega
          have bc3 : wr.cell? ⟨w.heap.size, 3, none⟩ = some (.slice A c.weights.length cap) := bx 3
          have bc4 : wr.cell? ⟨w.heap.size, 4, none⟩ = some (.int .i64 c.quantum) := bx 4
          have bc5 : wr.cell? ⟨w.heap.size, 5, none⟩ = some (.int .i64 c.timeout) := bx 5
          have bc6 : wr.cell? ⟨w.heap.size, 6, none⟩ = some (.int .i64 c.patience) := bx 6
          clear bx
          go_upto_region 11 with fail
          go_region_held3 (fun W => W.cell? ⟨w.heap.size, 4, none⟩ = some (.int .i64 c.quantum) ∧ W.cell? ⟨w.heap.size, 5, none⟩ = some (.int .i64 c.timeout) ∧ W.cell? ⟨w.heap.size, 6, none⟩ = some (.int .i64 c.patience)) (first | go_keep | (go_split_ands; refine ⟨?_, ?_, ?_⟩ <;> exact Fr.cell hf1 (by assumption) (fun e => e))) (first | ((go_at_call 24); (with_reducible refine (HD4.out _).mono ?_); rintro e w3 ⟨rfl, hf1⟩; have HG1 := Lib.hid ((HFW.out.drew).call hf1 (fun _ e _ => e))) | ((go_at_call 24); (with_reducible refine (HD5.out _).mono ?_); rintro e w3 ⟨rfl, hf1⟩; have HG2 := Lib.hid (HG1.out.call hf1 (fun _ e _ => e))) | ((go_at_call 24); (with_reducible refine (HD6.out _).mono ?_); rintro e w3 ⟨rfl, hf1⟩; have HG3 := Lib.hid (HG2.out.call hf1 (fun _ e _ => e))))
          go_wp2_with fail
          go_ret
          exact ⟨by rw [← HFIN.out]; rfl, HG3.out⟩
    · rw [ho] at bx
      have HP3 := Lib.hid (show (X ++ ⟨#[112, 111, 108, 105, 99, 121, 32, 111, 108, 100, 101, 115, 116, 10, 119, 101, 105, 103, 104, 116, 115]⟩ : ByteArray).data.toList = midC c 3 0 by
        rw [ByteArray.data_append, Array.toList_append, HP2.out]
        unfold midC preC rowC
        simp [List.range_succ, tellC, keysC, textC, ho, oldC])
      have HO := Lib.hid ho
      clear ho
      go_upto_region 8 with fail
      generalize (X ++ ⟨#[112, 111, 108, 105, 99, 121, 32, 111, 108, 100, 101, 115, 116, 10, 119, 101, 105, 103, 104, 116, 115]⟩ : ByteArray) = Y at *
      go_loopw [3, 4] (fun sv iv wr => ∃ (k : Nat) (Z : ByteArray), k ≤ c.weights.length ∧ iv = .int .i64 k ∧ sv = .string Z ∧ Hid (Fr Nob w1 wr) ∧ Hid (Z.data.toList = midC c 3 k)) (fun _ iv _ => c.weights.length - (RowKit.intOf iv).toNat)
      case atStart => exact ⟨0, Y, Nat.zero_le _, rfl, rfl, Lib.hid (Fr.refl _ _), HP3⟩
      case round =>
        obtain ⟨k, Z, hk, rfl, rfl, hf, hz⟩ := hrel
        have HFW := Lib.hid (HF2.out.call hf.out (fun _ e _ => e))
        have HBk := Lib.hid (HB2.out.fr hf.out (fun e => e))
        have bx := HBk.out.cell
        have bl_ := HBk.out.lt
        unfold cfA at bx
        rw [HO.out] at bx
        have HZS := Lib.hid (show Z.size ≤ 511 by rw [← ba_len, hz.out]; exact mid_512 HK.out (by omega) hk)
        by_cases hlt : k < c.weights.length
        · have hI : (k : Int) < c.weights.length := by omega
          have hI3 : 0 ≤ (k : Int) := by omega
          obtain ⟨g, o, hAe, hg, hc⟩ := (HL.out.pure HFW.out).int_at hlt
          subst hAe
          have HIN := Lib.hid (List.all_eq_true.1 HALL.out c.weights[k] (show c.weights[k] ∈ tellC c 3 from List.getElem_mem _))
          have HNX := Lib.hid (show midC c 3 (k + 1) = midC c 3 k ++ [32] ++ textC 3 c.weights[k] from midC_next (k := 3) hlt)
          generalize c.weights[k] = v at *
          have hv : 1 ≤ v ∧ v ≤ 16 := by
            have := HIN.out
            simpa [inC, loC, hiC] using this
          have HDv := Lib.hid (fun W => ref_Digits W v (by unfold I64; omega))
          have lv : (digsI v).length ≤ 19 := dig_len (by omega) (by omega)
          have zy1 : ¬ 9223372036854775807 < 1 + (digsI v).length := by omega
          have zy2 : ¬ 9223372036854775807 < Z.size + (1 + (digsI v).length) := by have := HZS.out; omega
          have HZN := Lib.hid (show (Z ++ (⟨#[32]⟩ ++ ⟨(digsI v).toArray⟩) : ByteArray).data.toList = midC c 3 (k + 1) by
            rw [ByteArray.data_append, Array.toList_append, hz.out, HNX.out, ByteArray.data_append, Array.toList_append]
            simp [textC])
          clear hv
          go_wp2_with (first | ((go_at_call 24); (with_reducible refine (HDv.out _).mono ?_); rintro e w3 ⟨rfl, hf3⟩; have HG3 := Lib.hid (hf.out.call hf3 (fun _ e _ => e)); clear hf3) | fail)
          go_roundw
          case rel => exact ⟨k + 1, _, by omega, by go_num, rfl, HG3, HZN⟩
          case measure => simp [RowKit.intOf]; omega
        · have hI : ¬ (k : Int) < c.weights.length := by omega
          obtain rfl : k = c.weights.length := by omega
          have l4 := HL4.out
          have l5 := HL5.out
          have l6 := HL6.out
          have HFIN := Lib.hid (show (Z ++ ⟨#[10, 113, 117, 97, 110, 116, 117, 109, 32]⟩ ++ ⟨(digsI c.quantum).toArray⟩ ++ ⟨#[10, 116, 105, 109, 101, 111, 117, 116, 32]⟩ ++ ⟨(digsI c.timeout).toArray⟩ ++ ⟨#[10, 112, 97, 116, 105, 101, 110, 99, 101, 32]⟩ ++ ⟨(digsI c.patience).toArray⟩ ++ ⟨#[10]⟩ : ByteArray) = ⟨(showC c).toArray⟩ by
            apply ByteArray.ext
            apply Array.toList_inj.1
            have hsh : showC c = preC c 4 ++ rowC c 4 ++ rowC c 5 ++ rowC c 6 := by
              unfold showC preC
              rw [if_pos HK.out]
              simp [List.range_succ]
            simp only [ByteArray.data_append, Array.toList_append, hz.out]
            rw [hsh, show preC c 4 = midC c 3 c.weights.length ++ [10] from preC_next c 3]
            unfold rowC
            simp [tellC, keysC, textC])
          have zz1 : ¬ 9223372036854775807 < Z.size + 9 := by have := HZS.out; omega
          have zz2 : ¬ 9223372036854775807 < Z.size + 9 + (digsI c.quantum).length := by have := HZS.out; omega
          have zz3 : ¬ 9223372036854775807 < Z.size + 9 + (digsI c.quantum).length + 9 := by have := HZS.out; omega
          have zz4 : ¬ 9223372036854775807 < Z.size + 9 + (digsI c.quantum).length + 9 + (digsI c.timeout).length := by have := HZS.out; omega
          have zz5 : ¬ 9223372036854775807 < Z.size + 9 + (digsI c.quantum).length + 9 + (digsI c.timeout).length + 10 := by have := HZS.out; omega
          have zz6 : ¬ 9223372036854775807 < Z.size + 9 + (digsI c.quantum).length + 9 + (digsI c.timeout).length + 10 + (digsI c.patience).length := by have := HZS.out; omega
          have zz7 : ¬ 9223372036854775807 < Z.size + 9 + (digsI c.quantum).length + 9 + (digsI c.timeout).length + 10 + (digsI c.patience).length + 1 := by have := HZS.out; omega
          have bc3 : wr.cell? ⟨w.heap.size, 3, none⟩ = some (.slice A c.weights.length cap) := bx 3
          have bc4 : wr.cell? ⟨w.heap.size, 4, none⟩ = some (.int .i64 c.quantum) := bx 4
          have bc5 : wr.cell? ⟨w.heap.size, 5, none⟩ = some (.int .i64 c.timeout) := bx 5
          have bc6 : wr.cell? ⟨w.heap.size, 6, none⟩ = some (.int .i64 c.patience) := bx 6
          clear bx
          go_upto_region 11 with fail
          go_region_held3 (fun W => W.cell? ⟨w.heap.size, 4, none⟩ = some (.int .i64 c.quantum) ∧ W.cell? ⟨w.heap.size, 5, none⟩ = some (.int .i64 c.timeout) ∧ W.cell? ⟨w.heap.size, 6, none⟩ = some (.int .i64 c.patience)) (first | go_keep | (go_split_ands; refine ⟨?_, ?_, ?_⟩ <;> exact Fr.cell hf1 (by assumption) (fun e => e))) (first | ((go_at_call 24); (with_reducible refine (HD4.out _).mono ?_); rintro e w3 ⟨rfl, hf1⟩; have HG1 := Lib.hid ((HFW.out.drew).call hf1 (fun _ e _ => e))) | ((go_at_call 24); (with_reducible refine (HD5.out _).mono ?_); rintro e w3 ⟨rfl, hf1⟩; have HG2 := Lib.hid (HG1.out.call hf1 (fun _ e _ => e))) | ((go_at_call 24); (with_reducible refine (HD6.out _).mono ?_); rintro e w3 ⟨rfl, hf1⟩; have HG3 := Lib.hid (HG2.out.call hf1 (fun _ e _ => e))))
          go_wp2_with fail
          go_ret
          exact ⟨by rw [← HFIN.out]; rfl, HG3.out⟩
  · have HR := Lib.hid (show showC c = [] by unfold showC; rw [if_neg hck])
    have hck2 : (checkC c == 0) = false := by simpa using hck
    go_wp2_with (first | ((go_at_call 21); (with_reducible refine HC0.out.mono ?_); rintro e W1 ⟨rfl, hf1⟩; have HF1 := Lib.hid (HF0.out.call hf1 (fun _ e _ => e)); clear hf1) | fail)
    go_ret
    rw [HR.out]
    exact ⟨rfl, HF1.out⟩
end Go.Proofs.YtoegdmpmagbaiaaDoor
