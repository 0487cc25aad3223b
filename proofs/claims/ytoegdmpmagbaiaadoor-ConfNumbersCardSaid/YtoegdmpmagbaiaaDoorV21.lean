/- The reference: words, which setting a word is, a setting's range. -/
import Derived.Test.YtoegdmpmagbaiaaDoorV20
import Derived.Test.YtoegdmpmagbaiaaDoorV9
namespace Go.Proofs.YtoegdmpmagbaiaaDoor
open Go.RowKit Go.Lib

theorem filt_take {l : List (List UInt8)} {k : Nat} (h : k < l.length) : (l.take (k + 1)).filter (fun x => !x.isEmpty) = (l.take k).filter (fun x => !x.isEmpty) ++ (if l[k] = [] then [] else [l[k]]) := by
  rw [List.take_succ_eq_append_getElem h, List.filter_append]
  congr 1
  cases hx : l[k] with
  | nil => simp
  | cons c r => simp
set_option maxRecDepth 100000 in
set_option maxHeartbeats 4000000 in
theorem ref_Words (w : World) (s : ByteArray) (hs : s.size ≤ 100000) : Calls Tryd.prog 40 #[.string s] w fun e w' => IsB e w w' (wordsC s.data.toList) := by
  have HSP := Lib.hid (ref_Split w s 32 hs)
  go_enter Tryd.func40, Tryd.ntmps40
  go_wp2_with ((go_at_call 39); refine HSP.out.mono ?_; rintro e W1 ⟨PA, n, d, ps, rfl, hps, hsl, hPA, hf1⟩; have HPS := Lib.hid hps; have HSL := Lib.hid hsl; have HF1 := Lib.hid hf1; clear hps hsl hPA hf1)
  have hnn : ps.length = n := by have := HSL.out.len; rw [strB_len] at this; omega
  have HNN := Lib.hid hnn
  have hmx := HSL.out.max
  have hle := HSL.out.le
  unfold maxLen at hmx
  have hn5 : n ≤ 100001 := by
    have := splitC_len 32 s.data.toList
    rw [← HPS.out, bl_len, ba_len, hnn] at this
    omega
  clear hnn
  go_loopw [3, 5] (fun sv iv wr => ∃ (k m : Nat) (A' : Option Addr) (c' : Nat) (qs : List ByteArray), k ≤ n ∧ m ≤ k ∧ iv = .int .i64 k ∧ sv = .slice A' m c' ∧ Hid (Ap W1 wr W1.heap.size 9 A' c' m (strB qs)) ∧ Hid (bl qs = ((bl ps).take k).filter fun x => !x.isEmpty)) (fun _ iv _ => n - (RowKit.intOf iv).toNat)
  case atStart => exact ⟨0, 0, none, 0, [], Nat.zero_le _, Nat.le_refl _, rfl, rfl, Lib.hid (Ap.start (Fr.refl _ _) (Nat.le_refl _) (Nat.le_refl _)), Lib.hid rfl⟩
  case round =>
    obtain ⟨k, m, A', c', qs, hk, hm, rfl, rfl, hp, hq⟩ := hrel
    by_cases hlt : k < n
    · have hI : (k : Int) < n := by omega
      have hI3 : 0 ≤ (k : Int) := by omega
      have hkp : k < ps.length := by rw [HNN.out]; exact hlt
      obtain ⟨pb, po, hPe, hpb, hcp⟩ := (HSL.out.pure hp.out.fr).str_at hkp
      subst hPe
      have hkb : k < (bl ps).length := by rw [bl_len, HNN.out]; exact hlt
      have HFT := Lib.hid (filt_take hkb)
      have hat : (bl ps)[k] = ps[k].data.toList := by simp [bl]
      rw [hat] at HFT
      clear hat
      generalize ps[k] = x at *
      clear hkp hkb
      by_cases hx : x.data.toList = []
      · have hxe : (x.toList == []) = true := by rw [ByteArray.toList_eq, hx]; rfl
        have HF2 := Lib.hid (HFT.out.trans (by rw [if_pos hx, List.append_nil]))
        clear hx
        go_wp2_with fail
        go_roundw
        case rel => exact ⟨k + 1, m, A', c', qs, by omega, by omega, by go_num, rfl, hp, Lib.hid (by rw [hq.out, HF2.out])⟩
        case measure => simp [RowKit.intOf]; omega
      · have hxe : (x.toList == []) = false := by rw [ByteArray.toList_eq, beq_eq_false_iff_ne]; exact hx
        have HF2 := Lib.hid (HFT.out.trans (by rw [if_neg hx]))
        clear hx
        go_wp2_with (at_builtin; refine wpList_app rfl _ _ 59 rfl elemStr (base := W1.heap.size) (xs := strB qs) (news := [.string x]) rfl ?own rfl ?src ?one ?h63 ?hby ?hbase ?_)
        case own => exact hp.out.own_al _
        case src => exact Sl.new1 (Blk.new_eq (by first | rfl | simp)) 1 1 rfl (by decide)
        case one => first | rfl | exact (by intro u hu; simp at hu; subst hu; rfl)
        case h63 => unfold maxLen; omega
        case hby => omega
        case hbase => have h1 := hp.out.hi; simp at h1 ⊢; omega
        intro A2 c2 w2 hown hgr _
        rw [strB_snoc] at hown
        have HP2 := Lib.hid ((hp.out.pure ((Fr.refl Nob _).alloc _)).app hown hgr)
        clear hown hgr
        go_wp2_with fail
        go_roundw
        case rel => exact ⟨k + 1, m + 1, A2, c2, qs ++ [x], by omega, by omega, by go_num, by simp, HP2, Lib.hid (by rw [bl_snoc, hq.out, HF2.out])⟩
        case measure => simp [RowKit.intOf]; omega
    · have hI : ¬ (k : Int) < n := by omega
      obtain rfl : k = n := by omega
      have HQ := Lib.hid (show bl qs = wordsC s.data.toList by
        rw [hq.out, List.take_of_length_le (by rw [bl_len, HNN.out]; exact Nat.le_refl _), HPS.out]
        rfl)
      go_wp2_with fail
      go_ret
      exact ⟨A', m, c', qs, rfl, HQ.out, hp.out.sl, fun g o e => Nat.le_trans HF1.out.size (own_addr hp.out.own g o e), HF1.out.call hp.out.fr (fun _ e _ => e)⟩
/-- Which setting a word is, counted from 1; 0: none. -/
def keyP (l : List UInt8) : Int := if keyC l = 7 then 0 else (keyC l : Int) + 1
def keyA : Array Value := (keysC.map strV).toArray
theorem keyA_cell {w : World} {g : Nat} (hb : Blk w g 9 keyA) {k : Nat} (hk : k < 7) : w.cell? ⟨g, k, none⟩ = some (strV (keysC.getD k [])) := by
  have hc := hb.cell
  have a : k = 0 ∨ k = 1 ∨ k = 2 ∨ k = 3 ∨ k = 4 ∨ k = 5 ∨ k = 6 := by omega
  rcases a with rfl | rfl | rfl | rfl | rfl | rfl | rfl <;> exact hc _
set_option maxRecDepth 100000 in
set_option maxHeartbeats 4000000 in
theorem ref_place (w : World) (s : ByteArray) : Calls Tryd.prog 41 #[.string s] w fun e w' => e = .returned (.int .i64 (keyP s.data.toList)) ∧ Fr Nob w w' := by
  go_enter Tryd.func41, Tryd.ntmps41
  go_wp2_with fail
  obtain ⟨W1, hW1⟩ : ∃ W1, W1 = w.alloc (.cells #[.string ⟨#[115, 111, 117, 114, 99, 101, 115]⟩, .string ⟨#[114, 111, 111, 109]⟩, .string ⟨#[112, 111, 108, 105, 99, 121]⟩, .string ⟨#[119, 101, 105, 103, 104, 116, 115]⟩, .string ⟨#[113, 117, 97, 110, 116, 117, 109]⟩, .string ⟨#[116, 105, 109, 101, 111, 117, 116]⟩, .string ⟨#[112, 97, 116, 105, 101, 110, 99, 101]⟩] 9) := ⟨_, rfl⟩
  have HB1 := Lib.hid (show Blk W1 w.heap.size 9 keyA by rw [hW1]; exact Blk.new _ _ _)
  have HF1 := Lib.hid (show Fr Nob w W1 by rw [hW1]; exact (Fr.refl _ _).alloc _)
  rw [← hW1]
  clear hW1
  go_loop [4] (fun iv => ∃ k : Nat, k ≤ 7 ∧ iv = .int .i64 k ∧ Hid (∀ j, j < k → keysC.getD j [] ≠ s.data.toList)) (fun iv => 7 - (RowKit.intOf iv).toNat)
  case atStart => exact ⟨0, by omega, rfl, Lib.hid (fun j hj => absurd hj (by omega))⟩
  case round =>
    obtain ⟨k, hk, rfl, hr⟩ := hrel
    by_cases hlt : k < 7
    · have hI : (k : Int) < 7 := by omega
      have hI3 : 0 ≤ (k : Int) := by omega
      have c0 := keyA_cell HB1.out hlt
      have bl_ := HB1.out.lt
      unfold strV at c0
      by_cases hq : keysC.getD k [] = s.data.toList
      · have hqe : (keysC.getD k [] == s.toList) = true := by rw [beq_iff_eq, ByteArray.toList_eq]; exact hq
        have HN := Lib.hid (show keyP s.data.toList = (k : Int) + 1 by
          unfold keyP
          rw [key_first hlt hr.out hq, if_neg (by omega)])
        clear hq
        generalize keysC.getD k [] = kw at *
        go_wp2_with fail
        go_ret
        exact ⟨by rw [HN.out]; rfl, HF1.out⟩
      · have hqe : (keysC.getD k [] == s.toList) = false := by rw [beq_eq_false_iff_ne, ByteArray.toList_eq]; exact hq
        have HX := Lib.hid (show ∀ j, j < k + 1 → keysC.getD j [] ≠ s.data.toList from fun j hj => by
          rcases Nat.lt_or_ge j k with h1 | h1
          · exact hr.out j h1
          · obtain rfl : j = k := by omega
            exact hq)
        clear hq
        generalize keysC.getD k [] = kw at *
        go_wp2_with fail
        go_round
        case rel => exact ⟨k + 1, by omega, by go_num, HX⟩
        case measure => simp [RowKit.intOf]; omega
    · have hI : ¬ (k : Int) < 7 := by omega
      have HN := Lib.hid (show keyP s.data.toList = 0 by
        unfold keyP
        rw [if_pos (key_none (fun j hj => hr.out j (by omega)))])
      obtain rfl : k = 7 := by omega
      go_wp2_with fail
      go_ret
      exact ⟨by rw [HN.out]; rfl, HF1.out⟩
theorem rlow_0 (w : World) : Calls Tryd.prog 59 #[.int .i64 1] w fun e w' => e = .returned (.int .i64 (loC 0)) ∧ w = w' := by
  go_enter Tryd.func59, Tryd.ntmps59
  go_wp2
  go_ret
  exact ⟨rfl, rfl⟩
theorem rhigh_0 (w : World) : Calls Tryd.prog 60 #[.int .i64 1] w fun e w' => e = .returned (.int .i64 (hiC 0)) ∧ w = w' := by
  go_enter Tryd.func60, Tryd.ntmps60
  go_wp2
  go_ret
  exact ⟨rfl, rfl⟩
theorem rlow_1 (w : World) : Calls Tryd.prog 59 #[.int .i64 2] w fun e w' => e = .returned (.int .i64 (loC 1)) ∧ w = w' := by
  go_enter Tryd.func59, Tryd.ntmps59
  go_wp2
  go_ret
  exact ⟨rfl, rfl⟩
theorem rhigh_1 (w : World) : Calls Tryd.prog 60 #[.int .i64 2] w fun e w' => e = .returned (.int .i64 (hiC 1)) ∧ w = w' := by
  go_enter Tryd.func60, Tryd.ntmps60
  go_wp2
  go_ret
  exact ⟨rfl, rfl⟩
theorem rlow_3 (w : World) : Calls Tryd.prog 59 #[.int .i64 4] w fun e w' => e = .returned (.int .i64 (loC 3)) ∧ w = w' := by
  go_enter Tryd.func59, Tryd.ntmps59
  go_wp2
  go_ret
  exact ⟨rfl, rfl⟩
theorem rhigh_3 (w : World) : Calls Tryd.prog 60 #[.int .i64 4] w fun e w' => e = .returned (.int .i64 (hiC 3)) ∧ w = w' := by
  go_enter Tryd.func60, Tryd.ntmps60
  go_wp2
  go_ret
  exact ⟨rfl, rfl⟩
theorem rlow_4 (w : World) : Calls Tryd.prog 59 #[.int .i64 5] w fun e w' => e = .returned (.int .i64 (loC 4)) ∧ w = w' := by
  go_enter Tryd.func59, Tryd.ntmps59
  go_wp2
  go_ret
  exact ⟨rfl, rfl⟩
theorem rhigh_4 (w : World) : Calls Tryd.prog 60 #[.int .i64 5] w fun e w' => e = .returned (.int .i64 (hiC 4)) ∧ w = w' := by
  go_enter Tryd.func60, Tryd.ntmps60
  go_wp2
  go_ret
  exact ⟨rfl, rfl⟩
theorem rlow_5 (w : World) : Calls Tryd.prog 59 #[.int .i64 6] w fun e w' => e = .returned (.int .i64 (loC 5)) ∧ w = w' := by
  go_enter Tryd.func59, Tryd.ntmps59
  go_wp2
  go_ret
  exact ⟨rfl, rfl⟩
theorem rhigh_5 (w : World) : Calls Tryd.prog 60 #[.int .i64 6] w fun e w' => e = .returned (.int .i64 (hiC 5)) ∧ w = w' := by
  go_enter Tryd.func60, Tryd.ntmps60
  go_wp2
  go_ret
  exact ⟨rfl, rfl⟩
theorem rlow_6 (w : World) : Calls Tryd.prog 59 #[.int .i64 7] w fun e w' => e = .returned (.int .i64 (loC 6)) ∧ w = w' := by
  go_enter Tryd.func59, Tryd.ntmps59
  go_wp2
  go_ret
  exact ⟨rfl, rfl⟩
theorem rhigh_6 (w : World) : Calls Tryd.prog 60 #[.int .i64 7] w fun e w' => e = .returned (.int .i64 (hiC 6)) ∧ w = w' := by
  go_enter Tryd.func60, Tryd.ntmps60
  go_wp2
  go_ret
  exact ⟨rfl, rfl⟩
theorem ref_low (w : World) {k : Nat} (hk : k < 7) (h2 : k ≠ 2) : Calls Tryd.prog 59 #[.int .i64 ((k : Int) + 1)] w fun e w' => e = .returned (.int .i64 (loC k)) ∧ w = w' := by
  have a : k = 0 ∨ k = 1 ∨ k = 3 ∨ k = 4 ∨ k = 5 ∨ k = 6 := by omega
  rcases a with rfl | rfl | rfl | rfl | rfl | rfl
  · exact rlow_0 w
  · exact rlow_1 w
  · exact rlow_3 w
  · exact rlow_4 w
  · exact rlow_5 w
  · exact rlow_6 w
theorem ref_high (w : World) {k : Nat} (hk : k < 7) (h2 : k ≠ 2) : Calls Tryd.prog 60 #[.int .i64 ((k : Int) + 1)] w fun e w' => e = .returned (.int .i64 (hiC k)) ∧ w = w' := by
  have a : k = 0 ∨ k = 1 ∨ k = 3 ∨ k = 4 ∨ k = 5 ∨ k = 6 := by omega
  rcases a with rfl | rfl | rfl | rfl | rfl | rfl
  · exact rhigh_0 w
  · exact rhigh_1 w
  · exact rhigh_3 w
  · exact rhigh_4 w
  · exact rhigh_5 w
  · exact rhigh_6 w
end Go.Proofs.YtoegdmpmagbaiaaDoor
