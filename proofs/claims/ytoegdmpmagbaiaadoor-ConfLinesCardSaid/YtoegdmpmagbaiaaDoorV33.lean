/- ConfLines. -/
import Derived.Test.YtoegdmpmagbaiaaDoorV31
import Derived.Test.YtoegdmpmagbaiaaDoorV6
namespace Go.Proofs.YtoegdmpmagbaiaaDoor
open Go.RowKit Go.Lib Go.Shelf Go.Sort

/-- The lines, turned. -/
def turnL (ws : List ByteArray) (n k : Nat) : List (List UInt8) := (List.range k).map fun i => (bl ws).getD ((i + n) % ws.length) []
theorem bl_getD {ws : List ByteArray} {k : Nat} (h : k < ws.length) : (bl ws).getD k [] = ws[k].data.toList := by
  unfold bl
  rw [List.getD_eq_getElem?_getD, List.getElem?_map, List.getElem?_eq_getElem h]
  rfl
theorem turnL_next {ws : List ByteArray} {n k : Nat} (h : (k + n) % ws.length < ws.length) : turnL ws n (k + 1) = turnL ws n k ++ [ws[(k + n) % ws.length].data.toList] := by
  unfold turnL
  rw [List.range_succ, List.map_append, List.map_singleton, bl_getD h]
theorem bl_take {ws : List ByteArray} {k : Nat} (h : k < ws.length) : (bl ws).take (k + 1) = (bl ws).take k ++ [ws[k].data.toList] := by
  rw [List.take_succ_eq_append_getElem (by rw [bl_len]; exact h)]
  simp [bl]
theorem plainT_snoc (l : List (List UInt8)) (x : List UInt8) : plainT (l ++ [x]) = plainT l ++ (x ++ [10]) := by simp [plainT]
theorem blankT_snoc (b : List UInt8) (l : List (List UInt8)) (x : List UInt8) : blankT b (l ++ [x]) = blankT b l ++ ([35, 32] ++ b ++ [10] ++ b ++ x ++ b ++ [10]) := by simp [blankT]
/-- What the two texts' readings have to do with each other. -/
theorem lines_alike {b : List UInt8} (hb : BlankC b) {ws : List ByteArray} {n : Nat} (hn : ∀ x ∈ bl ws, (10 : UInt8) ∉ x) (ht : (blankT b (turnL ws n ws.length)).length ≤ 512) {c d : CF} {er fr ln mn : Int}
    (hc : readC (plainT (bl ws)) = (c, er, ln)) (hd : readC (blankT b (turnL ws n ws.length)) = (d, fr, mn)) : (er = 0 → fr = 0 ∧ c = d) ∧ (er ≠ 0 → fr ≠ 0) := by
  have hp : (turnL ws n ws.length).Perm (bl ws) := by
    have := turned_perm (bl ws) n
    rw [bl_len] at this
    exact this
  have h := read_lines hb hp hn ht
  rw [hc, hd] at h
  simp only at h
  refine ⟨fun h0 => ?_, fun h0 h1 => ?_⟩
  · rw [if_pos h0] at h
    by_cases h1 : fr = 0
    · rw [if_pos h1] at h
      exact ⟨h1, Option.some.inj h⟩
    · rw [if_neg h1] at h; cases h
  · rw [if_neg h0, if_pos h1] at h; cases h
set_option maxRecDepth 100000 in
set_option maxHeartbeats 4000000 in
theorem law_ConfLines (w : World) (ws : List ByteArray) (A : Option Addr) (cap tn : Nat) (blank : Bool) (hl : Sl w 1 A ws.length cap (strB ws)) (hsz : ∀ s ∈ ws, s.size ≤ 140737488355328) (htn : tn ≤ 255) (hv : CV w) :
    Calls Tryd.prog 7 #[.slice A ws.length cap, .int .u8 tn, .bool blank] w fun e w' => e = .returned (.bool true) ∧ Fr Nob w w' := by
  have HV := Lib.hid hv
  have HL := Lib.hid hl
  have HAW := Lib.hid (law17_awake w hv)
  have hmx := hl.max
  have hle := hl.le
  unfold maxLen at hmx
  clear hv hl
  by_cases hI : (10 : Int) < (ws.length : Nat)
  · go_enter Tryd.func7, Tryd.ntmps7
    go_wp2_with (first | ((go_at_call 15); (with_reducible refine HAW.out.mono ?_); rintro e w1 ⟨rfl, hf1⟩; have HF1 := Lib.hid hf1; clear hf1) | fail)
    go_ret
    exact ⟨rfl, HF1.out⟩
  · cases blank
    · obtain ⟨bb, hbb, HBB, hbs⟩ : ∃ bb : ByteArray, bb = ⟨#[32]⟩ ∧ Hid (BlankC bb.data.toList) ∧ bb.size ≤ 3 := ⟨⟨#[32]⟩, rfl, Lib.hid (.inl rfl), by decide⟩
      go_enter Tryd.func7, Tryd.ntmps7
      go_upto_region 11 with (first | ((go_at_call 15); (with_reducible refine HAW.out.mono ?_); rintro e w1 ⟨rfl, hf1⟩; have HF1 := Lib.hid hf1; clear hf1) | fail)
      rw [← hbb]
      clear hbb
      go_wp2_with fail
      have HZS := Lib.hid hsz
      have hn10 : ws.length ≤ 10 := by omega
      clear hsz
      go_loopw [8, 9, 11] (fun sv tv iv wr => ∃ (k : Nat) (Z Y : ByteArray), k ≤ ws.length ∧ iv = .int .i64 k ∧ sv = .string Z ∧ tv = .string Y ∧ wr = w1 ∧ Hid (Z.data.toList = plainT ((bl ws).take k)) ∧ Hid (Y.data.toList = blankT bb.data.toList (turnL ws tn k)) ∧ Hid (∀ x ∈ (bl ws).take k, (10 : UInt8) ∉ x) ∧ Hid (Z.size ≤ 41 * k) ∧ Hid (Y.size ≤ 140737488355400 * k)) (fun _ _ iv _ => ws.length - (RowKit.intOf iv).toNat)
      case atStart => exact ⟨0, ⟨#[]⟩, ⟨#[]⟩, Nat.zero_le _, rfl, rfl, rfl, rfl, Lib.hid rfl, Lib.hid rfl, Lib.hid (fun x hx => by simp at hx), Lib.hid (by decide), Lib.hid (by decide)⟩
      case round =>
        obtain ⟨k, Z, Y, hk, rfl, rfl, rfl, rfl, hz, hy, h10, hzs, hys⟩ := hrel
        by_cases hlt : k < ws.length
        · have hK : (k : Int) < ws.length := by omega
          have hK3 : 0 ≤ (k : Int) := by omega
          obtain ⟨g, o, hAe, hg, hc⟩ := (HL.out.pure HF1.out).str_at hlt
          have HTK := Lib.hid (bl_take hlt)
          by_cases hx : (40 : Int) < (ws[k].size : Nat)
          · generalize ws[k] = x at *
            subst hAe
            go_wp2_with fail
            go_ret
            exact ⟨rfl, HF1.out⟩
          · obtain ⟨m, hm⟩ : ∃ m, m = (k + tn) % ws.length := ⟨_, rfl⟩
            have hml : m < ws.length := by rw [hm]; exact Nat.mod_lt _ (by omega)
            have hmI : ((k : Int) + tn) % ws.length = m := by rw [hm, Int.natCast_emod]; simp
            have hM : (m : Int) < ws.length := by omega
            have hM3 : 0 ≤ (m : Int) := by omega
            have HTN := Lib.hid (show turnL ws tn (k + 1) = turnL ws tn k ++ [ws[m].data.toList] by
              subst hm
              exact turnL_next hml)
            have hys2 := HZS.out _ (List.getElem_mem hml)
            obtain ⟨g2, o2, hAe2, hg2, hc2⟩ := (HL.out.pure HF1.out).str_at hml
            subst hAe
            obtain ⟨rfl, rfl⟩ : g2 = g ∧ o2 = o := by
              have := Option.some.inj hAe2
              injection this with e1 e2
              exact ⟨e1.symm, e2.symm⟩
            clear hAe2 hg2 hm
            generalize ws[k] = x at *
            generalize ws[m] = y at *
            have hx40 : x.size ≤ 40 := by omega
            go_wp2_with fail
            go_loopw [12] (fun jv wi => ∃ j : Nat, j ≤ x.size ∧ jv = .int .i64 j ∧ wi = wr ∧ Hid ((10 : UInt8) ∉ x.data.toList.take j)) (fun jv _ => x.size - (RowKit.intOf jv).toNat)
            case atStart => exact ⟨0, Nat.zero_le _, rfl, rfl, Lib.hid (by simp)⟩
            case round =>
              obtain ⟨j, hj, rfl, rfl, hj10⟩ := hrel
              by_cases hltj : j < x.size
              · have hJ : (j : Int) < x.size := by omega
                have hJ3 : 0 ≤ (j : Int) := by omega
                by_cases hb : x[j] = 10
                · have hbI : ((x[j].toNat : Int) == 10) = true := by rw [hb]; rfl
                  clear hb
                  go_wp2_with fail
                  go_ret
                  exact ⟨rfl, HF1.out⟩
                · have hbI : ((x[j].toNat : Int) == 10) = false := by
                    rw [beq_eq_false_iff_ne]; intro e; exact hb (UInt8.toNat_inj.1 (by have : (10 : UInt8).toNat = 10 := rfl; omega))
                  have HN := Lib.hid (show (10 : UInt8) ∉ x.data.toList.take (j + 1) by
                    rw [List.take_succ_eq_append_getElem (by rw [ba_len]; exact hltj)]
                    intro e
                    rcases List.mem_append.1 e with e | e
                    · exact hj10.out e
                    · rw [List.mem_singleton] at e
                      exact hb (by rw [e]; rfl))
                  clear hb
                  go_wp2_with fail
                  go_roundw
                  case rel => exact ⟨j + 1, by omega, by go_num, trivial, HN⟩
                  case measure => simp [RowKit.intOf]; omega
              · have hJ : ¬ (j : Int) < x.size := by omega
                have HX10 := Lib.hid (show (10 : UInt8) ∉ x.data.toList by
                  have := hj10.out
                  rwa [List.take_of_length_le (by rw [ba_len]; omega)] at this)
                have HZ2 := Lib.hid (show (Z ++ (x ++ ⟨#[10]⟩) : ByteArray).data.toList = plainT ((bl ws).take (k + 1)) by
                  rw [HTK.out, plainT_snoc, ByteArray.data_append, Array.toList_append, hz.out, ByteArray.data_append, Array.toList_append])
                have HY2 := Lib.hid (show (Y ++ (⟨#[35, 32]⟩ ++ bb ++ ⟨#[10]⟩ ++ bb ++ y ++ bb ++ ⟨#[10]⟩) : ByteArray).data.toList = blankT bb.data.toList (turnL ws tn (k + 1)) by
                  rw [HTN.out, blankT_snoc, ByteArray.data_append, Array.toList_append, hy.out]
                  simp only [ByteArray.data_append, Array.toList_append])
                have H12 := Lib.hid (show ∀ z ∈ (bl ws).take (k + 1), (10 : UInt8) ∉ z by
                  rw [HTK.out]
                  intro z hz
                  rcases List.mem_append.1 hz with hz | hz
                  · exact h10.out z hz
                  · rw [List.mem_singleton] at hz
                    subst hz
                    exact HX10.out)
                have HS2 := Lib.hid (show (Z ++ (x ++ ⟨#[10]⟩) : ByteArray).size ≤ 41 * (k + 1) by
                  rw [ByteArray.size_append, ByteArray.size_append, show (⟨#[10]⟩ : ByteArray).size = 1 from rfl]
                  have := hzs.out
                  omega)
                have HT2 := Lib.hid (show (Y ++ (⟨#[35, 32]⟩ ++ bb ++ ⟨#[10]⟩ ++ bb ++ y ++ bb ++ ⟨#[10]⟩) : ByteArray).size ≤ 140737488355400 * (k + 1) by
                  simp only [ByteArray.size_append]
                  rw [show (⟨#[10]⟩ : ByteArray).size = 1 from rfl, show (⟨#[35, 32]⟩ : ByteArray).size = 2 from rfl]
                  have := hys.out
                  omega)
                have y1 : ¬ 9223372036854775807 < x.size + 1 := by omega
                have y2 : ¬ 9223372036854775807 < Z.size + (x.size + 1) := by have := hzs.out; omega
                have y3 : ¬ 9223372036854775807 < 2 + bb.size := by omega
                have y4 : ¬ 9223372036854775807 < 2 + bb.size + 1 := by omega
                have y5 : ¬ 9223372036854775807 < 2 + bb.size + 1 + bb.size := by omega
                have y6 : ¬ 9223372036854775807 < 2 + bb.size + 1 + bb.size + y.size := by omega
                have y7 : ¬ 9223372036854775807 < 2 + bb.size + 1 + bb.size + y.size + bb.size := by omega
                have y8 : ¬ 9223372036854775807 < 2 + bb.size + 1 + bb.size + y.size + bb.size + 1 := by omega
                have y9 : ¬ 9223372036854775807 < Y.size + (2 + bb.size + 1 + bb.size + y.size + bb.size + 1) := by have := hys.out; omega
                go_wp2_with fail
                go_roundw
                case rel => exact ⟨k + 1, _, _, by omega, by go_num, rfl, rfl, trivial, HZ2, HY2, H12, HS2, HT2⟩
                case measure => simp [RowKit.intOf]; omega
        · have hK : ¬ (k : Int) < ws.length := by omega
          obtain rfl : k = ws.length := by omega
          rw [List.take_of_length_le (by rw [bl_len]; exact Nat.le_refl _)] at hz h10
          by_cases hY : (512 : Int) < (Y.size : Nat)
          · go_wp2_with fail
            go_ret
            exact ⟨rfl, HF1.out⟩
          · obtain ⟨c, er, ln, hc⟩ : ∃ c er ln, readC Z.data.toList = (c, er, ln) := ⟨_, _, _, rfl⟩
            obtain ⟨d, fr, mn, hd⟩ : ∃ d fr mn, readC Y.data.toList = (d, fr, mn) := ⟨_, _, _, rfl⟩
            have hal := lines_alike (ws := ws) (n := tn) (c := c) (d := d) (er := er) (fr := fr) (ln := ln) (mn := mn) HBB.out h10.out (by rw [← hy.out, ba_len]; omega) (by rw [← hz.out]; exact hc) (by rw [← hy.out]; exact hd)
            have hcl : c.weights.length ≤ 1000 := by
              have := read_len Z.data.toList
              rw [hc] at this
              exact Nat.le_trans this (by decide)
            have HR1 := Lib.hid (fun (W : World) (h : CV W) => prg_ReadOf W Z (by have := hzs.out; omega) h hc)
            have HR2 := Lib.hid (fun (W : World) (h : CV W) => prg_ReadOf W Y (by omega) h hd)
            clear hc hd hz hy h10 hzs hys HZS
            by_cases h0 : er = 0
            · obtain ⟨rfl, rfl⟩ := hal.1 h0
              subst h0
              have HSM := Lib.hid (fun (W : World) (B D : Option Addr) (cb cd : Nat) (hb : Sl W 1 B c.weights.length cb (ints c.weights)) (hd : Sl W 1 D c.weights.length cd (ints c.weights)) => (same_yes c ▸ ref_Same W c c B D cb cd hb hd hcl : Calls Tryd.prog 18 #[.agg (cfA c B cb), .agg (cfA c D cd)] W fun e w' => e = .returned (.bool true) ∧ Fr Nob W w'))
              clear hal hcl
              go_upto_region 26 with (first | ((go_at_call 16); (with_reducible refine (HR1.out _ (HV.out.fr HF1.out)).mono ?_); rintro e w2 ⟨A2, c2, rfl, hs2, hf2⟩; have HF2 := Lib.hid (HF1.out.call hf2 (fun _ e _ => e)); have HS2 := Lib.hid hs2; clear hs2 hf2) | (refine wpList_stBox rfl rfl (by rfl) (by rfl) (by kernel_rfl) (by rfl) (Blk.new _ _ _) (by rfl) ?_; intro W3 hb7 hf7; have HB3 := Lib.hid hb7; have HF3 := Lib.hid (Fr.tail HF2.out.size HF2.out rfl _ hf7); have HS3 := Lib.hid (HS2.out.pure (Fr.tail (Nat.le_refl _) (Fr.refl _ _) rfl _ hf7)); clear hb7 hf7) | fail)
              go_upto_region 29 with (first | ((go_at_call 16); (with_reducible refine (HR2.out _ (HV.out.fr HF3.out)).mono ?_); rintro e w4 ⟨A4, c4, rfl, hs4, hf4⟩; have HF4 := Lib.hid hf4; have HS4 := Lib.hid hs4; clear hs4 hf4) | (refine wpList_stBox rfl rfl (by rfl) (by rfl) (by kernel_rfl) (by rfl) (Blk.new _ _ _) (by rfl) ?_; intro W5 hb7 hf7; have HB5 := Lib.hid hb7; have HF5 := Lib.hid (Fr.tail HF4.out.size HF4.out rfl _ hf7); have HS5 := Lib.hid (HS4.out.pure (Fr.tail (Nat.le_refl _) (Fr.refl _ _) rfl _ hf7)); clear hb7 hf7) | fail)
              have HBx := Lib.hid (HB3.out.fr HF5.out (fun e => e))
              have HSx := Lib.hid (HS3.out.pure HF5.out)
              have HFW := Lib.hid (HF3.out.call HF5.out (fun _ e _ => e))
              obtain ⟨k0, k1, k2, k3, k4, k5, k6⟩ := cells_rg HBx.out
              obtain ⟨l0, l1, l2, l3, l4, l5, l6⟩ := cells_rg HB5.out
              have C1 := Lib.hid (cregr (W := W5) fun W hf => law_plain17 W c A2 c2)
              have C2 := Lib.hid (cregr (W := W5) fun W hf => law_plain17 W c A4 c4)
              have C3 := Lib.hid (cregr (W := W5) fun W hf => HSM.out W A2 A4 c2 c4 (HSx.out.pure hf) (HS5.out.pure hf))
              unfold cfA at C1 C2 C3
              clear HSM HR1 HR2 HB3 HB5 HBx HS2 HS3 HS4 HS5 HSx HF1 HF2 HF3 HF4 HF5
              refine wp_region_quiet_below (by kernel_rfl) (by kernel_rfl) ?_
              repeat (go_big_quiet_step (first | with_reducible exact C1.out _ _ | with_reducible exact C2.out _ _ | with_reducible exact C3.out _ _))
              refine wpQuiet_nil ?_
              intro _ hw'
              obtain ⟨⟨dq, osq⟩, hw''⟩ := hw'
              subst hw''
              go_wp2_with fail
              go_ret
              exact ⟨rfl, HFW.out.call (Fr.of_below (S := Nob) (below_regrown _ dq osq)) (fun _ h _ => h)⟩
            · have h1 : (er == 0) = false := by simpa using h0
              have h2 : (fr == 0) = false := by simpa using hal.2 h0
              clear hal hcl h0
              go_upto_region 26 with (first | ((go_at_call 16); (with_reducible refine (HR1.out _ (HV.out.fr HF1.out)).mono ?_); rintro e w2 ⟨A2, c2, rfl, hs2, hf2⟩; have HF2 := Lib.hid (HF1.out.call hf2 (fun _ e _ => e)); clear hs2 hf2) | (refine wpList_stBox rfl rfl (by rfl) (by rfl) (by kernel_rfl) (by rfl) (Blk.new _ _ _) (by rfl) ?_; intro W3 hb7 hf7; have HF3 := Lib.hid (Fr.tail HF2.out.size HF2.out rfl _ hf7); clear hb7 hf7) | fail)
              go_wp2_with (first | ((go_at_call 16); (with_reducible refine (HR2.out _ (HV.out.fr HF3.out)).mono ?_); rintro e w4 ⟨A4, c4, rfl, hs4, hf4⟩; have HF4 := Lib.hid (HF3.out.call hf4 (fun _ e _ => e)); clear hs4 hf4) | (refine wpList_stBox rfl rfl (by rfl) (by rfl) (by kernel_rfl) (by rfl) (Blk.new _ _ _) (by rfl) ?_; intro W5 hb7 hf7; have HF5 := Lib.hid (Fr.tail HF4.out.size HF4.out rfl _ hf7); clear hb7 hf7) | fail)
              go_ret
              exact ⟨ret1b (show (fr != 0) = true by unfold bne; rw [h2]; rfl), HF5.out⟩
    · obtain ⟨bb, hbb, HBB, hbs⟩ : ∃ bb : ByteArray, bb = ⟨#[32, 32, 32]⟩ ∧ Hid (BlankC bb.data.toList) ∧ bb.size ≤ 3 := ⟨⟨#[32, 32, 32]⟩, rfl, Lib.hid (.inr rfl), by decide⟩
      go_enter Tryd.func7, Tryd.ntmps7
      go_upto_region 11 with (first | ((go_at_call 15); (with_reducible refine HAW.out.mono ?_); rintro e w1 ⟨rfl, hf1⟩; have HF1 := Lib.hid hf1; clear hf1) | fail)
      rw [← hbb]
      clear hbb
      go_wp2_with fail
      have HZS := Lib.hid hsz
      have hn10 : ws.length ≤ 10 := by omega
      clear hsz
      go_loopw [8, 9, 11] (fun sv tv iv wr => ∃ (k : Nat) (Z Y : ByteArray), k ≤ ws.length ∧ iv = .int .i64 k ∧ sv = .string Z ∧ tv = .string Y ∧ wr = w1 ∧ Hid (Z.data.toList = plainT ((bl ws).take k)) ∧ Hid (Y.data.toList = blankT bb.data.toList (turnL ws tn k)) ∧ Hid (∀ x ∈ (bl ws).take k, (10 : UInt8) ∉ x) ∧ Hid (Z.size ≤ 41 * k) ∧ Hid (Y.size ≤ 140737488355400 * k)) (fun _ _ iv _ => ws.length - (RowKit.intOf iv).toNat)
      case atStart => exact ⟨0, ⟨#[]⟩, ⟨#[]⟩, Nat.zero_le _, rfl, rfl, rfl, rfl, Lib.hid rfl, Lib.hid rfl, Lib.hid (fun x hx => by simp at hx), Lib.hid (by decide), Lib.hid (by decide)⟩
      case round =>
        obtain ⟨k, Z, Y, hk, rfl, rfl, rfl, rfl, hz, hy, h10, hzs, hys⟩ := hrel
        by_cases hlt : k < ws.length
        · have hK : (k : Int) < ws.length := by omega
          have hK3 : 0 ≤ (k : Int) := by omega
          obtain ⟨g, o, hAe, hg, hc⟩ := (HL.out.pure HF1.out).str_at hlt
          have HTK := Lib.hid (bl_take hlt)
          by_cases hx : (40 : Int) < (ws[k].size : Nat)
          · generalize ws[k] = x at *
            subst hAe
            go_wp2_with fail
            go_ret
            exact ⟨rfl, HF1.out⟩
          · obtain ⟨m, hm⟩ : ∃ m, m = (k + tn) % ws.length := ⟨_, rfl⟩
            have hml : m < ws.length := by rw [hm]; exact Nat.mod_lt _ (by omega)
            have hmI : ((k : Int) + tn) % ws.length = m := by rw [hm, Int.natCast_emod]; simp
            have hM : (m : Int) < ws.length := by omega
            have hM3 : 0 ≤ (m : Int) := by omega
            have HTN := Lib.hid (show turnL ws tn (k + 1) = turnL ws tn k ++ [ws[m].data.toList] by
              subst hm
              exact turnL_next hml)
            have hys2 := HZS.out _ (List.getElem_mem hml)
            obtain ⟨g2, o2, hAe2, hg2, hc2⟩ := (HL.out.pure HF1.out).str_at hml
            subst hAe
            obtain ⟨rfl, rfl⟩ : g2 = g ∧ o2 = o := by
              have := Option.some.inj hAe2
              injection this with e1 e2
              exact ⟨e1.symm, e2.symm⟩
            clear hAe2 hg2 hm
            generalize ws[k] = x at *
            generalize ws[m] = y at *
            have hx40 : x.size ≤ 40 := by omega
            go_wp2_with fail
            go_loopw [12] (fun jv wi => ∃ j : Nat, j ≤ x.size ∧ jv = .int .i64 j ∧ wi = wr ∧ Hid ((10 : UInt8) ∉ x.data.toList.take j)) (fun jv _ => x.size - (RowKit.intOf jv).toNat)
            case atStart => exact ⟨0, Nat.zero_le _, rfl, rfl, Lib.hid (by simp)⟩
            case round =>
              obtain ⟨j, hj, rfl, rfl, hj10⟩ := hrel
              by_cases hltj : j < x.size
              · have hJ : (j : Int) < x.size := by omega
                have hJ3 : 0 ≤ (j : Int) := by omega
                by_cases hb : x[j] = 10
                · have hbI : ((x[j].toNat : Int) == 10) = true := by rw [hb]; rfl
                  clear hb
                  go_wp2_with fail
                  go_ret
                  exact ⟨rfl, HF1.out⟩
                · have hbI : ((x[j].toNat : Int) == 10) = false := by
                    rw [beq_eq_false_iff_ne]; intro e; exact hb (UInt8.toNat_inj.1 (by have : (10 : UInt8).toNat = 10 := rfl; omega))
                  have HN := Lib.hid (show (10 : UInt8) ∉ x.data.toList.take (j + 1) by
                    rw [List.take_succ_eq_append_getElem (by rw [ba_len]; exact hltj)]
                    intro e
                    rcases List.mem_append.1 e with e | e
                    · exact hj10.out e
                    · rw [List.mem_singleton] at e
                      exact hb (by rw [e]; rfl))
                  clear hb
                  go_wp2_with fail
                  go_roundw
                  case rel => exact ⟨j + 1, by omega, by go_num, trivial, HN⟩
                  case measure => simp [RowKit.intOf]; omega
              · have hJ : ¬ (j : Int) < x.size := by omega
                have HX10 := Lib.hid (show (10 : UInt8) ∉ x.data.toList by
                  have := hj10.out
                  rwa [List.take_of_length_le (by rw [ba_len]; omega)] at this)
                have HZ2 := Lib.hid (show (Z ++ (x ++ ⟨#[10]⟩) : ByteArray).data.toList = plainT ((bl ws).take (k + 1)) by
                  rw [HTK.out, plainT_snoc, ByteArray.data_append, Array.toList_append, hz.out, ByteArray.data_append, Array.toList_append])
                have HY2 := Lib.hid (show (Y ++ (⟨#[35, 32]⟩ ++ bb ++ ⟨#[10]⟩ ++ bb ++ y ++ bb ++ ⟨#[10]⟩) : ByteArray).data.toList = blankT bb.data.toList (turnL ws tn (k + 1)) by
                  rw [HTN.out, blankT_snoc, ByteArray.data_append, Array.toList_append, hy.out]
                  simp only [ByteArray.data_append, Array.toList_append])
                have H12 := Lib.hid (show ∀ z ∈ (bl ws).take (k + 1), (10 : UInt8) ∉ z by
                  rw [HTK.out]
                  intro z hz
                  rcases List.mem_append.1 hz with hz | hz
                  · exact h10.out z hz
                  · rw [List.mem_singleton] at hz
                    subst hz
                    exact HX10.out)
                have HS2 := Lib.hid (show (Z ++ (x ++ ⟨#[10]⟩) : ByteArray).size ≤ 41 * (k + 1) by
                  rw [ByteArray.size_append, ByteArray.size_append, show (⟨#[10]⟩ : ByteArray).size = 1 from rfl]
                  have := hzs.out
                  omega)
                have HT2 := Lib.hid (show (Y ++ (⟨#[35, 32]⟩ ++ bb ++ ⟨#[10]⟩ ++ bb ++ y ++ bb ++ ⟨#[10]⟩) : ByteArray).size ≤ 140737488355400 * (k + 1) by
                  simp only [ByteArray.size_append]
                  rw [show (⟨#[10]⟩ : ByteArray).size = 1 from rfl, show (⟨#[35, 32]⟩ : ByteArray).size = 2 from rfl]
                  have := hys.out
                  omega)
                have y1 : ¬ 9223372036854775807 < x.size + 1 := by omega
                have y2 : ¬ 9223372036854775807 < Z.size + (x.size + 1) := by have := hzs.out; omega
                have y3 : ¬ 9223372036854775807 < 2 + bb.size := by omega
                have y4 : ¬ 9223372036854775807 < 2 + bb.size + 1 := by omega
                have y5 : ¬ 9223372036854775807 < 2 + bb.size + 1 + bb.size := by omega
                have y6 : ¬ 9223372036854775807 < 2 + bb.size + 1 + bb.size + y.size := by omega
                have y7 : ¬ 9223372036854775807 < 2 + bb.size + 1 + bb.size + y.size + bb.size := by omega
                have y8 : ¬ 9223372036854775807 < 2 + bb.size + 1 + bb.size + y.size + bb.size + 1 := by omega
                have y9 : ¬ 9223372036854775807 < Y.size + (2 + bb.size + 1 + bb.size + y.size + bb.size + 1) := by have := hys.out; omega
                go_wp2_with fail
                go_roundw
                case rel => exact ⟨k + 1, _, _, by omega, by go_num, rfl, rfl, trivial, HZ2, HY2, H12, HS2, HT2⟩
                case measure => simp [RowKit.intOf]; omega
        · have hK : ¬ (k : Int) < ws.length := by omega
          obtain rfl : k = ws.length := by omega
          rw [List.take_of_length_le (by rw [bl_len]; exact Nat.le_refl _)] at hz h10
          by_cases hY : (512 : Int) < (Y.size : Nat)
          · go_wp2_with fail
            go_ret
            exact ⟨rfl, HF1.out⟩
          · obtain ⟨c, er, ln, hc⟩ : ∃ c er ln, readC Z.data.toList = (c, er, ln) := ⟨_, _, _, rfl⟩
            obtain ⟨d, fr, mn, hd⟩ : ∃ d fr mn, readC Y.data.toList = (d, fr, mn) := ⟨_, _, _, rfl⟩
            have hal := lines_alike (ws := ws) (n := tn) (c := c) (d := d) (er := er) (fr := fr) (ln := ln) (mn := mn) HBB.out h10.out (by rw [← hy.out, ba_len]; omega) (by rw [← hz.out]; exact hc) (by rw [← hy.out]; exact hd)
            have hcl : c.weights.length ≤ 1000 := by
              have := read_len Z.data.toList
              rw [hc] at this
              exact Nat.le_trans this (by decide)
            have HR1 := Lib.hid (fun (W : World) (h : CV W) => prg_ReadOf W Z (by have := hzs.out; omega) h hc)
            have HR2 := Lib.hid (fun (W : World) (h : CV W) => prg_ReadOf W Y (by omega) h hd)
            clear hc hd hz hy h10 hzs hys HZS
            by_cases h0 : er = 0
            · obtain ⟨rfl, rfl⟩ := hal.1 h0
              subst h0
              have HSM := Lib.hid (fun (W : World) (B D : Option Addr) (cb cd : Nat) (hb : Sl W 1 B c.weights.length cb (ints c.weights)) (hd : Sl W 1 D c.weights.length cd (ints c.weights)) => (same_yes c ▸ ref_Same W c c B D cb cd hb hd hcl : Calls Tryd.prog 18 #[.agg (cfA c B cb), .agg (cfA c D cd)] W fun e w' => e = .returned (.bool true) ∧ Fr Nob W w'))
              clear hal hcl
              go_upto_region 26 with (first | ((go_at_call 16); (with_reducible refine (HR1.out _ (HV.out.fr HF1.out)).mono ?_); rintro e w2 ⟨A2, c2, rfl, hs2, hf2⟩; have HF2 := Lib.hid (HF1.out.call hf2 (fun _ e _ => e)); have HS2 := Lib.hid hs2; clear hs2 hf2) | (refine wpList_stBox rfl rfl (by rfl) (by rfl) (by kernel_rfl) (by rfl) (Blk.new _ _ _) (by rfl) ?_; intro W3 hb7 hf7; have HB3 := Lib.hid hb7; have HF3 := Lib.hid (Fr.tail HF2.out.size HF2.out rfl _ hf7); have HS3 := Lib.hid (HS2.out.pure (Fr.tail (Nat.le_refl _) (Fr.refl _ _) rfl _ hf7)); clear hb7 hf7) | fail)
              go_upto_region 29 with (first | ((go_at_call 16); (with_reducible refine (HR2.out _ (HV.out.fr HF3.out)).mono ?_); rintro e w4 ⟨A4, c4, rfl, hs4, hf4⟩; have HF4 := Lib.hid hf4; have HS4 := Lib.hid hs4; clear hs4 hf4) | (refine wpList_stBox rfl rfl (by rfl) (by rfl) (by kernel_rfl) (by rfl) (Blk.new _ _ _) (by rfl) ?_; intro W5 hb7 hf7; have HB5 := Lib.hid hb7; have HF5 := Lib.hid (Fr.tail HF4.out.size HF4.out rfl _ hf7); have HS5 := Lib.hid (HS4.out.pure (Fr.tail (Nat.le_refl _) (Fr.refl _ _) rfl _ hf7)); clear hb7 hf7) | fail)
              have HBx := Lib.hid (HB3.out.fr HF5.out (fun e => e))
              have HSx := Lib.hid (HS3.out.pure HF5.out)
              have HFW := Lib.hid (HF3.out.call HF5.out (fun _ e _ => e))
              obtain ⟨k0, k1, k2, k3, k4, k5, k6⟩ := cells_rg HBx.out
              obtain ⟨l0, l1, l2, l3, l4, l5, l6⟩ := cells_rg HB5.out
              have C1 := Lib.hid (cregr (W := W5) fun W hf => law_plain17 W c A2 c2)
              have C2 := Lib.hid (cregr (W := W5) fun W hf => law_plain17 W c A4 c4)
              have C3 := Lib.hid (cregr (W := W5) fun W hf => HSM.out W A2 A4 c2 c4 (HSx.out.pure hf) (HS5.out.pure hf))
              unfold cfA at C1 C2 C3
              clear HSM HR1 HR2 HB3 HB5 HBx HS2 HS3 HS4 HS5 HSx HF1 HF2 HF3 HF4 HF5
              refine wp_region_quiet_below (by kernel_rfl) (by kernel_rfl) ?_
              repeat (go_big_quiet_step (first | with_reducible exact C1.out _ _ | with_reducible exact C2.out _ _ | with_reducible exact C3.out _ _))
              refine wpQuiet_nil ?_
              intro _ hw'
              obtain ⟨⟨dq, osq⟩, hw''⟩ := hw'
              subst hw''
              go_wp2_with fail
              go_ret
              exact ⟨rfl, HFW.out.call (Fr.of_below (S := Nob) (below_regrown _ dq osq)) (fun _ h _ => h)⟩
            · have h1 : (er == 0) = false := by simpa using h0
              have h2 : (fr == 0) = false := by simpa using hal.2 h0
              clear hal hcl h0
              go_upto_region 26 with (first | ((go_at_call 16); (with_reducible refine (HR1.out _ (HV.out.fr HF1.out)).mono ?_); rintro e w2 ⟨A2, c2, rfl, hs2, hf2⟩; have HF2 := Lib.hid (HF1.out.call hf2 (fun _ e _ => e)); clear hs2 hf2) | (refine wpList_stBox rfl rfl (by rfl) (by rfl) (by kernel_rfl) (by rfl) (Blk.new _ _ _) (by rfl) ?_; intro W3 hb7 hf7; have HF3 := Lib.hid (Fr.tail HF2.out.size HF2.out rfl _ hf7); clear hb7 hf7) | fail)
              go_wp2_with (first | ((go_at_call 16); (with_reducible refine (HR2.out _ (HV.out.fr HF3.out)).mono ?_); rintro e w4 ⟨A4, c4, rfl, hs4, hf4⟩; have HF4 := Lib.hid (HF3.out.call hf4 (fun _ e _ => e)); clear hs4 hf4) | (refine wpList_stBox rfl rfl (by rfl) (by rfl) (by kernel_rfl) (by rfl) (Blk.new _ _ _) (by rfl) ?_; intro W5 hb7 hf7; have HF5 := Lib.hid (Fr.tail HF4.out.size HF4.out rfl _ hf7); clear hb7 hf7) | fail)
              go_ret
              exact ⟨ret1b (show (fr != 0) = true by unfold bne; rw [h2]; rfl), HF5.out⟩
theorem law_ConfLines' (w : World) (ws : List ByteArray) (A : Option Addr) (cap : Nat) (n : Int) (blank : Bool) (hl : Sl w 1 A ws.length cap (strB ws)) (hsz : ∀ s ∈ ws, s.size ≤ 140737488355328) (h0 : 0 ≤ n) (h1 : n ≤ 255) (hv : CV w) :
    Calls Tryd.prog 7 #[.slice A ws.length cap, .int .u8 n, .bool blank] w fun e w' => e = .returned (.bool true) ∧ Fr Nob w w' := by
  obtain ⟨k, rfl⟩ : ∃ k : Nat, n = k := ⟨n.toNat, by omega⟩
  exact law_ConfLines w ws A cap k blank hl hsz (by omega) hv
end Go.Proofs.YtoegdmpmagbaiaaDoor
