/- ConfNumbers. -/
import Derived.Test.YtoegdmpmagbaiaaDoorV31
namespace Go.Proofs.YtoegdmpmagbaiaaDoor
open Go.RowKit Go.Lib Go.Shelf Go.Sort

theorem lead_read {u : Nat} (h : u ≤ 9223372036854775807) : readC ([116, 105, 109, 101, 111, 117, 116, 32, 48] ++ dg u) = (cf0, 11, 1) := by
  have hd := dg_digs u
  have hne := dg_ne u
  have hl := dg_19 h
  have hpos := List.length_pos_iff.2 hne
  have h10 : (10 : UInt8) ∉ [116, 105, 109, 101, 111, 117, 116, 32, 48] ++ dg u := by
    intro hm
    rcases List.mem_append.1 hm with hm | hm
    · revert hm; decide
    · have := hd _ hm; revert this; decide
  have hw : WordC (48 :: dg u) := by
    refine ⟨by simp, fun e => ?_, fun e => ?_⟩ <;> rcases List.mem_cons.1 e with e | e
    · revert e; decide
    · have := hd _ e; revert this; decide
    · revert e; decide
    · have := hd _ e; revert this; decide
  have hws : wordsC ([116, 105, 109, 101, 111, 117, 116, 32, 48] ++ dg u) = [[116, 105, 109, 101, 111, 117, 116], 48 :: dg u] := by
    have := wordsC_app (k := [116, 105, 109, 101, 111, 117, 116]) ⟨by decide, by decide, by decide⟩ (48 :: dg u)
    rw [wordsC_one hw] at this
    exact this
  have hnum : numC (48 :: dg u) = none := by
    unfold numC
    rw [if_pos]
    refine .inr (.inr ⟨by simp; omega, rfl⟩)
  have hst : stepC (cf1, []) (wordsC ([116, 105, 109, 101, 111, 117, 116, 32, 48] ++ dg u)) = (11, (cf1, [])) := by
    rw [hws, stepC_key (k := 5) (by decide) (by decide) (by decide) (by simp)]
    refine restC_none ?_
    simp only [valsC, valC]
    rw [if_neg (by decide), hnum]
  have hlo : loopC 0 (cf1, []) (splitC 10 ([116, 105, 109, 101, 111, 117, 116, 32, 48] ++ dg u)) = ((11, 1), (cf1, [])) := by
    rw [splitC_none h10, loopC, if_neg (by rw [hst]; decide), hst]
  unfold readC
  rw [if_neg (by simp; omega), hlo, if_neg (by decide)]
  rfl
theorem far_1 : readC [116, 105, 109, 101, 111, 117, 116, 32, 57, 50, 50, 51, 51, 55, 50, 48, 51, 54, 56, 53, 52, 55, 55, 53, 56, 48, 56] = (cf0, 33, 1) := by decide +kernel
theorem far_2 : readC [116, 105, 109, 101, 111, 117, 116, 32, 57, 50, 50, 51, 51, 55, 50, 48, 51, 54, 56, 53, 52, 55, 55, 53, 56, 48, 55, 48] = (cf0, 33, 1) := by decide +kernel
theorem mask_le (n : Int) : 0 ≤ bits .and .i64 n 9223372036854775807 ∧ bits .and .i64 n 9223372036854775807 ≤ 9223372036854775807 := by
  have h : ∃ k : Nat, k ≤ 9223372036854775807 ∧ bits .and .i64 n 9223372036854775807 = IntKind.i64.wrap k :=
    ⟨(BitVec.ofInt 64 n &&& BitVec.ofInt 64 9223372036854775807).toNat, by rw [BitVec.toNat_and]; exact Nat.le_trans Nat.and_le_right (by decide), rfl⟩
  obtain ⟨k, hk, e⟩ := h
  rw [e, IntKind.wrap_i64]
  omega
/-- What the statement makes. -/
def cfT (m : Int) : CF := ⟨1, 1, false, [1], 1, m, 0⟩
theorem check_T {m : Int} (h1 : 1 ≤ m) (h2 : m ≤ 9223372036854775807) : checkC (cfT m) = 0 := by
  refine check_of (fun k hk => ?_) rfl
  match k, hk with
  | 0, _ => rfl
  | 1, _ => rfl
  | 2, _ => rfl
  | 3, _ => rfl
  | 4, _ => rfl
  | 5, _ => simp [tellC, cfT, inC, loC, hiC, h1, h2]
  | 6, _ => rfl
  | k + 7, hk => omega
set_option maxRecDepth 100000 in
set_option maxHeartbeats 4000000 in
theorem law_ConfNumbers (w : World) (n : Int) (hv : CV w) : Calls Tryd.prog 8 #[.int .i64 n] w fun e w' => e = .returned (.bool true) ∧ Fr Nob w w' := by
  have HV := Lib.hid hv
  have HAW := Lib.hid (law17_awake w hv)
  clear hv
  have hmk := mask_le n
  go_enter Tryd.func8, Tryd.ntmps8
  go_upto_region 5 with (first | ((go_at_call 15); (with_reducible refine HAW.out.mono ?_); rintro e w1 ⟨rfl, hf1⟩; have HF1 := Lib.hid hf1; clear hf1) | fail)
  generalize bits BinOp.and IntKind.i64 n 9223372036854775807 = m at *
  by_cases h0 : m = 0
  · subst h0
    go_upto_region 7 with fail
    have hm1 : (1 : Int) ≤ 1 := by omega
    have hm2 : (1 : Int) ≤ 9223372036854775807 := by omega
    have HCK := Lib.hid (check_T hm1 hm2)
    have HPS := Lib.hid (fun (W : World) (A : Option Addr) (d : Nat) (hs : Sl W 1 A 1 d (ints [1])) (hv : CV W) => (prg_Show W (cfT 1) A d hs (show (1 : Nat) ≤ 1000 by decide) hv.tb : Calls Tryd.prog 22 #[.agg (cfA (cfT 1) A d)] W _))
    have HPR := Lib.hid (fun (W : World) (hv : CV W) => prg_ReadOf W ⟨(showC (cfT 1)).toArray⟩ (by have := show_len HCK.out; simp [ByteArray.size]; omega) hv (read_show HCK.out))
    have HDG := Lib.hid (fun W => ref_Digits W 1 (by unfold I64; omega))
    have hdl := dg_19 (u := (1 : Int).natAbs) (by omega)
    have hdi : digsI 1 = dg (1 : Int).natAbs := by unfold digsI; rw [if_neg (by omega)]
    rw [hdi] at HDG
    have hlx : (([116, 105, 109, 101, 111, 117, 116, 32, 48] : List UInt8) ++ dg (1 : Int).natAbs).length ≤ 100000 := by
      rw [List.length_append]
      show 9 + (dg (1 : Int).natAbs).length ≤ 100000
      omega
    have HLD := Lib.hid (fun (W : World) (hv : CV W) => prg_ReadOf W (⟨#[116, 105, 109, 101, 111, 117, 116, 32, 48]⟩ ++ ⟨(dg (1 : Int).natAbs).toArray⟩ : ByteArray) (by rw [← ba_len, ByteArray.data_append, Array.toList_append]; exact hlx) hv (c := cf0) (er := 11) (ln := 1) (by rw [ByteArray.data_append, Array.toList_append]; exact lead_read (u := (1 : Int).natAbs) (by omega)))
    clear hlx
    have HF1x := Lib.hid (fun (W : World) (hv : CV W) => prg_ReadOf W ⟨#[116, 105, 109, 101, 111, 117, 116, 32, 57, 50, 50, 51, 51, 55, 50, 48, 51, 54, 56, 53, 52, 55, 55, 53, 56, 48, 56]⟩ (by decide) hv far_1)
    have HF2x := Lib.hid (fun (W : World) (hv : CV W) => prg_ReadOf W ⟨#[116, 105, 109, 101, 111, 117, 116, 32, 57, 50, 50, 51, 51, 55, 50, 48, 51, 54, 56, 53, 52, 55, 55, 53, 56, 48, 55, 48]⟩ (by decide) hv far_2)
    have e1 : ∀ A d, (.agg (cfA (cfT 1) A d) : Value) = .agg #[.int .i64 1, .int .i64 1, .bool false, .slice A 1 d, .int .i64 1, .int .i64 1, .int .i64 0] := fun _ _ => rfl
    simp only [e1] at HPS HPR
    have z1 : ¬ 9223372036854775807 < 9 + (dg (1 : Int).natAbs).length := by omega
    generalize (⟨(showC (cfT 1)).toArray⟩ : ByteArray) = sh at *
    clear HCK hdi hm1 hm2
    generalize dg (1 : Int).natAbs = dl at *
    go_upto_region 8 with fail
    obtain ⟨W3, hW3⟩ : ∃ W3, W3 = (w1.alloc (.cells #[.int .i64 1] 3)).alloc (.cells #[.int .i64 1, .int .i64 1, .bool false, .slice (some ⟨w1.heap.size, 0, none⟩) 1 1, .int .i64 1, .int .i64 1, .int .i64 0] 43) := ⟨_, rfl⟩
    have HB3 := Lib.hid (show Blk W3 (w1.heap.size + 1) 43 #[.int .i64 1, .int .i64 1, .bool false, .slice (some ⟨w1.heap.size, 0, none⟩) 1 1, .int .i64 1, .int .i64 1, .int .i64 0] by rw [hW3]; exact Blk.new_eq (by simp))
    have HS3 := Lib.hid (show Sl W3 1 (some ⟨w1.heap.size, 0, none⟩) 1 1 (ints [1]) by rw [hW3]; exact (Sl.new1 (Blk.new w1 3 #[.int .i64 1]) 1 1 rfl (by decide)).alloc _)
    have HF3 := Lib.hid (show Fr Nob w W3 by rw [hW3]; exact (HF1.out.alloc _).alloc _)
    rw [← hW3]
    clear hW3
    go_upto_region 10 with (first | (refine wpList_ldBox rfl rfl (by rfl) ⟨_, Tryd.underlying43, rfl⟩ (by kernel_rfl) HB3.out ?_) | ((go_at_call 22); (with_reducible refine (HPS.out _ _ 1 HS3.out (HV.out.fr HF3.out)).mono ?_); rintro e w4 ⟨rfl, hf4⟩; have HF4 := Lib.hid (HF3.out.call hf4 (fun _ e _ => e)); clear hf4) | ((go_at_call 16); (with_reducible refine (HPR.out _ (HV.out.fr HF4.out)).mono ?_); rintro e w5 ⟨A5, c5, rfl, _, hf5⟩; have HF5 := Lib.hid (HF4.out.call hf5 (fun _ e _ => e)); clear hf5) | (refine wpList_stBox rfl rfl (by rfl) (by rfl) (by kernel_rfl) (by rfl) (Blk.new _ _ _) (by rfl) ?_; intro W6 hb7 hf7; have HB6 := Lib.hid hb7; have HF6 := Lib.hid (Fr.tail HF5.out.size HF5.out rfl _ hf7); clear hb7 hf7) | fail)
    go_upto_region 11 with (first | ((go_at_call 24); (with_reducible refine (HDG.out _).mono ?_); rintro e w7 ⟨rfl, hf7⟩; have HF7 := Lib.hid hf7; clear hf7) | ((go_at_call 16); (with_reducible refine (HLD.out _ (HV.out.fr (HF6.out.call HF7.out (fun _ e _ => e)))).mono ?_); rintro e w8 ⟨A8, c8, rfl, _, hf8⟩; have HF8 := Lib.hid (HF7.out.call hf8 (fun _ e _ => e)); clear hf8) | (refine wpList_stBox rfl rfl (by rfl) (by rfl) (by kernel_rfl) (by rfl) (Blk.new _ _ _) (by rfl) ?_; intro W9 hb7 hf7; have HF9 := Lib.hid (Fr.tail HF8.out.size HF8.out rfl _ hf7); clear hb7 hf7) | fail)
    go_upto_region 12 with (first | ((go_at_call 16); (with_reducible refine (HF1x.out _ (HV.out.fr (HF6.out.call HF9.out (fun _ e _ => e)))).mono ?_); rintro e wa ⟨Aa, ca, rfl, _, hfa⟩; have HFa := Lib.hid (HF9.out.call hfa (fun _ e _ => e)); clear hfa) | (refine wpList_stBox rfl rfl (by rfl) (by rfl) (by kernel_rfl) (by rfl) (Blk.new _ _ _) (by rfl) ?_; intro Wb hb7 hf7; have HFb := Lib.hid (Fr.tail HFa.out.size HFa.out rfl _ hf7); clear hb7 hf7) | fail)
    go_upto_region 13 with (first | ((go_at_call 16); (with_reducible refine (HF2x.out _ (HV.out.fr (HF6.out.call HFb.out (fun _ e _ => e)))).mono ?_); rintro e wc ⟨Ac, cc, rfl, _, hfc⟩; have HFc := Lib.hid (HFb.out.call hfc (fun _ e _ => e)); clear hfc) | (refine wpList_stBox rfl rfl (by rfl) (by rfl) (by kernel_rfl) (by rfl) (Blk.new _ _ _) (by rfl) ?_; intro Wd hb7 hf7; have HFd := Lib.hid (Fr.tail HFc.out.size HFc.out rfl _ hf7); clear hb7 hf7) | fail)
    have b5 : Wd.cell? ⟨w5.heap.size, 5, none⟩ = some (.int .i64 1) := (HB6.out.fr HFd.out (fun e => e)).cell 5
    go_wp2_with fail
    go_ret
    exact ⟨rfl, HF6.out.call HFd.out (fun _ e _ => e)⟩
  · go_upto_region 7 with fail
    have hm1 : 1 ≤ m := by omega
    have hm2 : m ≤ 9223372036854775807 := hmk.2
    clear h0 hmk
    have HCK := Lib.hid (check_T hm1 hm2)
    have HPS := Lib.hid (fun (W : World) (A : Option Addr) (d : Nat) (hs : Sl W 1 A 1 d (ints [1])) (hv : CV W) => (prg_Show W (cfT m) A d hs (show (1 : Nat) ≤ 1000 by decide) hv.tb : Calls Tryd.prog 22 #[.agg (cfA (cfT m) A d)] W _))
    have HPR := Lib.hid (fun (W : World) (hv : CV W) => prg_ReadOf W ⟨(showC (cfT m)).toArray⟩ (by have := show_len HCK.out; simp [ByteArray.size]; omega) hv (read_show HCK.out))
    have HDG := Lib.hid (fun W => ref_Digits W m (by unfold I64; omega))
    have hdl := dg_19 (u := (m : Int).natAbs) (by omega)
    have hdi : digsI m = dg (m : Int).natAbs := by unfold digsI; rw [if_neg (by omega)]
    rw [hdi] at HDG
    have hlx : (([116, 105, 109, 101, 111, 117, 116, 32, 48] : List UInt8) ++ dg (m : Int).natAbs).length ≤ 100000 := by
      rw [List.length_append]
      show 9 + (dg (m : Int).natAbs).length ≤ 100000
      omega
    have HLD := Lib.hid (fun (W : World) (hv : CV W) => prg_ReadOf W (⟨#[116, 105, 109, 101, 111, 117, 116, 32, 48]⟩ ++ ⟨(dg (m : Int).natAbs).toArray⟩ : ByteArray) (by rw [← ba_len, ByteArray.data_append, Array.toList_append]; exact hlx) hv (c := cf0) (er := 11) (ln := 1) (by rw [ByteArray.data_append, Array.toList_append]; exact lead_read (u := (m : Int).natAbs) (by omega)))
    clear hlx
    have HF1x := Lib.hid (fun (W : World) (hv : CV W) => prg_ReadOf W ⟨#[116, 105, 109, 101, 111, 117, 116, 32, 57, 50, 50, 51, 51, 55, 50, 48, 51, 54, 56, 53, 52, 55, 55, 53, 56, 48, 56]⟩ (by decide) hv far_1)
    have HF2x := Lib.hid (fun (W : World) (hv : CV W) => prg_ReadOf W ⟨#[116, 105, 109, 101, 111, 117, 116, 32, 57, 50, 50, 51, 51, 55, 50, 48, 51, 54, 56, 53, 52, 55, 55, 53, 56, 48, 55, 48]⟩ (by decide) hv far_2)
    have e1 : ∀ A d, (.agg (cfA (cfT m) A d) : Value) = .agg #[.int .i64 1, .int .i64 1, .bool false, .slice A 1 d, .int .i64 1, .int .i64 m, .int .i64 0] := fun _ _ => rfl
    simp only [e1] at HPS HPR
    have z1 : ¬ 9223372036854775807 < 9 + (dg (m : Int).natAbs).length := by omega
    generalize (⟨(showC (cfT m)).toArray⟩ : ByteArray) = sh at *
    clear HCK hdi hm1 hm2
    generalize dg (m : Int).natAbs = dl at *
    go_upto_region 8 with fail
    obtain ⟨W3, hW3⟩ : ∃ W3, W3 = (w1.alloc (.cells #[.int .i64 1] 3)).alloc (.cells #[.int .i64 1, .int .i64 1, .bool false, .slice (some ⟨w1.heap.size, 0, none⟩) 1 1, .int .i64 1, .int .i64 m, .int .i64 0] 43) := ⟨_, rfl⟩
    have HB3 := Lib.hid (show Blk W3 (w1.heap.size + 1) 43 #[.int .i64 1, .int .i64 1, .bool false, .slice (some ⟨w1.heap.size, 0, none⟩) 1 1, .int .i64 1, .int .i64 m, .int .i64 0] by rw [hW3]; exact Blk.new_eq (by simp))
    have HS3 := Lib.hid (show Sl W3 1 (some ⟨w1.heap.size, 0, none⟩) 1 1 (ints [1]) by rw [hW3]; exact (Sl.new1 (Blk.new w1 3 #[.int .i64 1]) 1 1 rfl (by decide)).alloc _)
    have HF3 := Lib.hid (show Fr Nob w W3 by rw [hW3]; exact (HF1.out.alloc _).alloc _)
    rw [← hW3]
    clear hW3
    go_upto_region 10 with (first | (refine wpList_ldBox rfl rfl (by rfl) ⟨_, Tryd.underlying43, rfl⟩ (by kernel_rfl) HB3.out ?_) | ((go_at_call 22); (with_reducible refine (HPS.out _ _ 1 HS3.out (HV.out.fr HF3.out)).mono ?_); rintro e w4 ⟨rfl, hf4⟩; have HF4 := Lib.hid (HF3.out.call hf4 (fun _ e _ => e)); clear hf4) | ((go_at_call 16); (with_reducible refine (HPR.out _ (HV.out.fr HF4.out)).mono ?_); rintro e w5 ⟨A5, c5, rfl, _, hf5⟩; have HF5 := Lib.hid (HF4.out.call hf5 (fun _ e _ => e)); clear hf5) | (refine wpList_stBox rfl rfl (by rfl) (by rfl) (by kernel_rfl) (by rfl) (Blk.new _ _ _) (by rfl) ?_; intro W6 hb7 hf7; have HB6 := Lib.hid hb7; have HF6 := Lib.hid (Fr.tail HF5.out.size HF5.out rfl _ hf7); clear hb7 hf7) | fail)
    go_upto_region 11 with (first | ((go_at_call 24); (with_reducible refine (HDG.out _).mono ?_); rintro e w7 ⟨rfl, hf7⟩; have HF7 := Lib.hid hf7; clear hf7) | ((go_at_call 16); (with_reducible refine (HLD.out _ (HV.out.fr (HF6.out.call HF7.out (fun _ e _ => e)))).mono ?_); rintro e w8 ⟨A8, c8, rfl, _, hf8⟩; have HF8 := Lib.hid (HF7.out.call hf8 (fun _ e _ => e)); clear hf8) | (refine wpList_stBox rfl rfl (by rfl) (by rfl) (by kernel_rfl) (by rfl) (Blk.new _ _ _) (by rfl) ?_; intro W9 hb7 hf7; have HF9 := Lib.hid (Fr.tail HF8.out.size HF8.out rfl _ hf7); clear hb7 hf7) | fail)
    go_upto_region 12 with (first | ((go_at_call 16); (with_reducible refine (HF1x.out _ (HV.out.fr (HF6.out.call HF9.out (fun _ e _ => e)))).mono ?_); rintro e wa ⟨Aa, ca, rfl, _, hfa⟩; have HFa := Lib.hid (HF9.out.call hfa (fun _ e _ => e)); clear hfa) | (refine wpList_stBox rfl rfl (by rfl) (by rfl) (by kernel_rfl) (by rfl) (Blk.new _ _ _) (by rfl) ?_; intro Wb hb7 hf7; have HFb := Lib.hid (Fr.tail HFa.out.size HFa.out rfl _ hf7); clear hb7 hf7) | fail)
    go_upto_region 13 with (first | ((go_at_call 16); (with_reducible refine (HF2x.out _ (HV.out.fr (HF6.out.call HFb.out (fun _ e _ => e)))).mono ?_); rintro e wc ⟨Ac, cc, rfl, _, hfc⟩; have HFc := Lib.hid (HFb.out.call hfc (fun _ e _ => e)); clear hfc) | (refine wpList_stBox rfl rfl (by rfl) (by rfl) (by kernel_rfl) (by rfl) (Blk.new _ _ _) (by rfl) ?_; intro Wd hb7 hf7; have HFd := Lib.hid (Fr.tail HFc.out.size HFc.out rfl _ hf7); clear hb7 hf7) | fail)
    have b5 : Wd.cell? ⟨w5.heap.size, 5, none⟩ = some (.int .i64 m) := (HB6.out.fr HFd.out (fun e => e)).cell 5
    go_wp2_with fail
    go_ret
    exact ⟨rfl, HF6.out.call HFd.out (fun _ e _ => e)⟩
end Go.Proofs.YtoegdmpmagbaiaaDoor
