/- ConfBack. -/
import Derived.Test.YtoegdmpmagbaiaaDoorV31
namespace Go.Proofs.YtoegdmpmagbaiaaDoor
open Go.RowKit Go.Lib Go.Shelf Go.Sort

set_option maxRecDepth 100000 in
set_option maxHeartbeats 4000000 in
theorem law_ConfBack (w : World) (c : CF) (A : Option Addr) (cap : Nat) (s : ByteArray) (hl : Sl w 1 A c.weights.length cap (ints c.weights)) (hv : CV w) :
    Calls Tryd.prog 6 #[.agg (cfA c A cap), .string s] w fun e w' => e = .returned (.bool true) ∧ Fr Nob w w' := by
  have HL := Lib.hid hl
  have HV := Lib.hid hv
  have HAW := Lib.hid (fun (W : World) (hf : Fr Nob w W) => law17_awake W (hv.fr hf))
  have hmx := hl.max
  have hle := hl.le
  unfold maxLen at hmx
  clear hv hl
  by_cases hI : (40 : Int) < (c.weights.length : Nat)
  · go_enter Tryd.func6, Tryd.ntmps6
    go_upto_region 1 with fail
    obtain ⟨W0, hW0⟩ : ∃ W0, W0 = w.alloc (.cells (cfA c A cap) 43) := ⟨_, rfl⟩
    have HF0 := Lib.hid (show Fr Nob w W0 by rw [hW0]; exact (Fr.refl _ _).alloc _)
    have HB0 := Lib.hid (show Blk W0 w.heap.size 43 (cfA c A cap) by rw [hW0]; exact Blk.new _ _ _)
    rw [← hW0]
    clear hW0
    go_wp2_with (first
      | ((go_at_call 15); (with_reducible refine (HAW.out _ HF0.out).mono ?_); rintro e w1 ⟨rfl, hf1⟩; have HF1 := Lib.hid (HF0.out.call hf1 (fun _ e _ => e)); have HB1 := Lib.hid (HB0.out.fr hf1 (fun e => e)); have b1 := HB1.out.cell; have l1 := HB1.out.lt; unfold cfA at b1; clear hf1)
      | fail)
    go_ret
    exact ⟨rfl, HF1.out⟩
  · by_cases hJ : (1000 : Int) < (s.size : Nat)
    · go_enter Tryd.func6, Tryd.ntmps6
      go_upto_region 1 with fail
      obtain ⟨W0, hW0⟩ : ∃ W0, W0 = w.alloc (.cells (cfA c A cap) 43) := ⟨_, rfl⟩
      have HF0 := Lib.hid (show Fr Nob w W0 by rw [hW0]; exact (Fr.refl _ _).alloc _)
      have HB0 := Lib.hid (show Blk W0 w.heap.size 43 (cfA c A cap) by rw [hW0]; exact Blk.new _ _ _)
      rw [← hW0]
      clear hW0
      go_wp2_with (first
        | ((go_at_call 15); (with_reducible refine (HAW.out _ HF0.out).mono ?_); rintro e w1 ⟨rfl, hf1⟩; have HF1 := Lib.hid (HF0.out.call hf1 (fun _ e _ => e)); have HB1 := Lib.hid (HB0.out.fr hf1 (fun e => e)); have b1 := HB1.out.cell; have l1 := HB1.out.lt; unfold cfA at b1; clear hf1)
        | fail)
      go_ret
      exact ⟨rfl, HF1.out⟩
    · have h63 : c.weights.length ≤ 1000 := by omega
      have hs : s.size ≤ 100000 := by omega
      obtain ⟨x, er, ln, hx⟩ : ∃ x er ln, readC s.data.toList = (x, er, ln) := ⟨_, _, _, rfl⟩
      have hxl : x.weights.length ≤ 1000 := by
        have := read_len s.data.toList
        rw [hx] at this
        exact Nat.le_trans this (by decide)
      have HR2 := Lib.hid (fun (W : World) (h : CV W) => prg_ReadOf W s hs h hx)
      have HOK := Lib.hid (fun (h : er = 0) => show checkC x = 0 ∧ Hid (∀ (W : World) (_ : CV W), Calls Tryd.prog 16 #[.string ⟨(showC x).toArray⟩] W fun e w' => ∃ A cap, e = .returned (.tuple #[.agg (cfA x A cap), .int .i64 0, .int .i64 0]) ∧ Sl w' 1 A x.weights.length cap (ints x.weights) ∧ Fr Nob W w') by
        have h1 : checkC x = 0 := by
          have h1 := read_check (l := s.data.toList) (by rw [hx]; exact h)
          rwa [hx] at h1
        exact ⟨h1, Lib.hid fun W hv => prg_ReadOf W ⟨(showC x).toArray⟩ (by have := show_len h1; simp [ByteArray.size]; omega) hv (read_show h1)⟩)
      have HNO := Lib.hid (fun (h : er ≠ 0) => show x = cf0 by
        have h1 := read_bad (l := s.data.toList) (by rw [hx]; exact h)
        rw [hx] at h1
        exact h1)
      clear hx hs
      have HPC := Lib.hid (fun (W : World) (hf : Fr Nob w W) => prg_Check W c A cap (HL.out.pure hf) h63)
      by_cases hck : checkC c = 0
      · have HPS := Lib.hid (fun (W : World) (hf : Fr Nob w W) => prg_Show W c A cap (HL.out.pure hf) h63 (HV.out.fr hf).tb)
        have HPR := Lib.hid (fun (W : World) (hf : Fr Nob w W) => prg_ReadOf W ⟨(showC c).toArray⟩ (by have := show_len hck; simp [ByteArray.size]; omega) (HV.out.fr hf) (read_show hck))
        have HSM := Lib.hid (fun (W : World) (B D : Option Addr) (cb cd : Nat) (hb : Sl W 1 B c.weights.length cb (ints c.weights)) (hd : Sl W 1 D c.weights.length cd (ints c.weights)) => (same_yes c ▸ ref_Same W c c B D cb cd hb hd h63 : Calls Tryd.prog 18 #[.agg (cfA c B cb), .agg (cfA c D cd)] W fun e w' => e = .returned (.bool true) ∧ Fr Nob W w'))
        rw [hck] at HPC
        generalize (⟨(showC c).toArray⟩ : ByteArray) = sh at HPS HPR
        clear hck h63
        go_enter Tryd.func6, Tryd.ntmps6
        go_upto_region 1 with fail
        obtain ⟨W0, hW0⟩ : ∃ W0, W0 = w.alloc (.cells (cfA c A cap) 43) := ⟨_, rfl⟩
        have HF0 := Lib.hid (show Fr Nob w W0 by rw [hW0]; exact (Fr.refl _ _).alloc _)
        have HB0 := Lib.hid (show Blk W0 w.heap.size 43 (cfA c A cap) by rw [hW0]; exact Blk.new _ _ _)
        rw [← hW0]
        clear hW0
        go_upto_region 6 with (first
          | ((go_at_call 15); (with_reducible refine (HAW.out _ HF0.out).mono ?_); rintro e w1 ⟨rfl, hf1⟩; have HF1 := Lib.hid (HF0.out.call hf1 (fun _ e _ => e)); have HB1 := Lib.hid (HB0.out.fr hf1 (fun e => e)); have b1 := HB1.out.cell; have l1 := HB1.out.lt; unfold cfA at b1; clear hf1)
          | fail)
        clear b1
        go_upto_region 8 with (first | (refine wpList_ldBox rfl rfl (by rfl) ⟨_, Tryd.underlying43, rfl⟩ (by kernel_rfl) HB1.out ?_) | ((go_at_call 20); (with_reducible refine (HPC.out _ HF1.out).mono ?_); rintro e w2 ⟨rfl, hf2⟩; have HF2 := Lib.hid (HF1.out.call hf2 (fun _ e _ => e)); replace HB1 := Lib.hid (HB1.out.fr hf2 (fun e => e)); clear hf2) | ((go_at_call 22); (with_reducible refine (HPS.out _ HF2.out).mono ?_); rintro e w3 ⟨rfl, hf3⟩; have HF3 := Lib.hid (HF2.out.call hf3 (fun _ e _ => e)); replace HB1 := Lib.hid (HB1.out.fr hf3 (fun e => e)); clear hf3) | ((go_at_call 16); (with_reducible refine (HPR.out _ HF3.out).mono ?_); rintro e w4 ⟨A4, c4, rfl, hs4, hf4⟩; have HF4 := Lib.hid (HF3.out.call hf4 (fun _ e _ => e)); replace HB1 := Lib.hid (HB1.out.fr hf4 (fun e => e)); have HS4 := Lib.hid hs4; clear hs4 hf4) | (refine wpList_stBox rfl rfl (by rfl) (by rfl) (by kernel_rfl) (by rfl) (Blk.new _ _ _) (by rfl) ?_; intro W5 hb7 hf7; have HB5 := Lib.hid hb7; have HF5 := Lib.hid (Fr.tail HF4.out.size HF4.out rfl _ hf7); have HG5 := Lib.hid (Fr.tail (Nat.le_refl _) (Fr.refl _ _) rfl _ hf7); replace HB1 := Lib.hid (HB1.out.fr HG5.out (fun e => e)); have HS5 := Lib.hid (HS4.out.pure HG5.out); clear hb7 hf7) | fail)
        obtain ⟨k0, k1, k2, k3, k4, k5, k6⟩ := cells_rg HB1.out
        obtain ⟨l0, l1, l2, l3, l4, l5, l6⟩ := cells_rg HB5.out
        have C1 := Lib.hid (cregr (W := W5) fun W hf => law_plain17 W c A cap)
        have C2 := Lib.hid (cregr (W := W5) fun W hf => law_plain17 W c A4 c4)
        have C3 := Lib.hid (cregr (W := W5) fun W hf => HSM.out W A A4 cap c4 (HL.out.pure (HF5.out.call hf (fun _ e _ => e))) (HS5.out.pure hf))
        unfold cfA at C1 C2 C3
        clear HPC HPS HPR HSM HB1 HB5 HS4 HS5 HG5 HF1 HF2 HF3 HF4 HB0 HF0 HAW
        try dsimp only [Act.put]
        refine wp_region_quiet_below (by kernel_rfl) (by kernel_rfl) ?_
        repeat (go_big_quiet_step (first | with_reducible exact C1.out _ _ | with_reducible exact C2.out _ _ | with_reducible exact C3.out _ _))
        refine wpQuiet_nil ?_
        intro _ hw'
        obtain ⟨⟨dq, osq⟩, hw''⟩ := hw'
        subst hw''
        have HFX := Lib.hid (HF5.out.call (Fr.of_below (S := Nob) (below_regrown _ dq osq)) (fun _ h _ => h))
        clear C1 C2 C3 k0 k1 k2 k3 k4 k5 k6 l0 l1 l2 l3 l4 l5 l6
        generalize grow (redrawn W5 dq) osq = WX at *
        by_cases hr0 : er = 0
        · subst hr0
          obtain ⟨hxk, HXR⟩ := HOK.out rfl
          have HXC := Lib.hid (fun (W : World) (B : Option Addr) (d : Nat) (hs : Sl W 1 B x.weights.length d (ints x.weights)) => (hxk ▸ prg_Check W x B d hs hxl : Calls Tryd.prog 20 #[.agg (cfA x B d)] W fun e w' => e = .returned (.int .i64 0) ∧ Fr Nob W w'))
          have HXS := Lib.hid (fun (W : World) (B : Option Addr) (d : Nat) (hs : Sl W 1 B x.weights.length d (ints x.weights)) (hv : CV W) => prg_Show W x B d hs hxl hv.tb)
          have HXY := Lib.hid (fun (W : World) (B D : Option Addr) (cb cd : Nat) (hb : Sl W 1 B x.weights.length cb (ints x.weights)) (hd : Sl W 1 D x.weights.length cd (ints x.weights)) => (same_yes x ▸ ref_Same W x x B D cb cd hb hd hxl : Calls Tryd.prog 18 #[.agg (cfA x B cb), .agg (cfA x D cd)] W fun e w' => e = .returned (.bool true) ∧ Fr Nob W w'))
          generalize (⟨(showC x).toArray⟩ : ByteArray) = sx at *
          clear hxk hxl HOK
          go_upto_region 11 with (first | ((go_at_call 16); (with_reducible refine (HR2.out _ (HV.out.fr HFX.out)).mono ?_); rintro e w6 ⟨A6, c6, rfl, hs6, hf6⟩; have HF6 := Lib.hid (HFX.out.call hf6 (fun _ e _ => e)); have HS6 := Lib.hid hs6; clear hs6 hf6) | (refine wpList_stBox rfl rfl (by rfl) (by rfl) (by kernel_rfl) (by rfl) (Blk.new _ _ _) (by rfl) ?_; intro W7 hb7 hf7; have HB7 := Lib.hid hb7; have HF7 := Lib.hid (Fr.tail HF6.out.size HF6.out rfl _ hf7); have HS7 := Lib.hid (HS6.out.pure (Fr.tail (Nat.le_refl _) (Fr.refl _ _) rfl _ hf7)); clear hb7 hf7) | fail)
          go_upto_region 14 with (first | (refine wpList_ldBox rfl rfl (by rfl) ⟨_, Tryd.underlying43, rfl⟩ (by kernel_rfl) HB7.out ?_) | ((go_at_call 22); (with_reducible refine (HXS.out _ A6 c6 HS7.out (HV.out.fr HF7.out)).mono ?_); rintro e w8 ⟨rfl, hf8⟩; have HF8 := Lib.hid hf8; clear hf8) | ((go_at_call 16); (with_reducible refine (HXR.out _ (HV.out.fr (HF7.out.call HF8.out (fun _ e _ => e)))).mono ?_); rintro e w9 ⟨A9, c9, rfl, hs9, hf9⟩; have HF9 := Lib.hid (HF8.out.call hf9 (fun _ e _ => e)); have HS9 := Lib.hid hs9; clear hs9 hf9) | (refine wpList_stBox rfl rfl (by rfl) (by rfl) (by kernel_rfl) (by rfl) (Blk.new _ _ _) (by rfl) ?_; intro WA hb7 hf7; have HBA := Lib.hid hb7; have HFA := Lib.hid (Fr.tail HF9.out.size HF9.out rfl _ hf7); have HSA := Lib.hid (HS9.out.pure (Fr.tail (Nat.le_refl _) (Fr.refl _ _) rfl _ hf7)); clear hb7 hf7) | fail)
          have HBx := Lib.hid (HB7.out.fr HFA.out (fun e => e))
          have HSx := Lib.hid (HS7.out.pure HFA.out)
          have HFW := Lib.hid (HF7.out.call HFA.out (fun _ e _ => e))
          obtain ⟨k0, k1, k2, k3, k4, k5, k6⟩ := cells_rg HBx.out
          obtain ⟨l0, l1, l2, l3, l4, l5, l6⟩ := cells_rg HBA.out
          have C1 := Lib.hid (cregr (W := WA) fun W hf => HXC.out W A6 c6 (HSx.out.pure hf))
          have C2 := Lib.hid (cregr (W := WA) fun W hf => law_plain17 W x A6 c6)
          have C3 := Lib.hid (cregr (W := WA) fun W hf => law_plain17 W x A9 c9)
          have C4 := Lib.hid (cregr (W := WA) fun W hf => HXY.out W A6 A9 c6 c9 (HSx.out.pure hf) (HSA.out.pure hf))
          unfold cfA at C1 C2 C3 C4
          clear HXC HXS HXY HXR HBx HSx HB7 HS7 HS6 HS9 HSA HBA HF6 HF7 HF8 HF9 HFA HV HFX HR2
          try dsimp only [Act.put]
          refine wp_region_quiet_below (by kernel_rfl) (by kernel_rfl) ?_
          repeat (go_big_quiet_step (first | with_reducible exact C1.out _ _ | with_reducible exact C2.out _ _ | with_reducible exact C3.out _ _ | with_reducible exact C4.out _ _))
          refine wpQuiet_nil ?_
          intro _ hw'
          obtain ⟨⟨dq, osq⟩, hw''⟩ := hw'
          subst hw''
          go_wp2_with fail
          go_ret
          exact ⟨rfl, HFW.out.call (Fr.of_below (S := Nob) (below_regrown _ dq osq)) (fun _ h _ => h)⟩
        · have hx0 := HNO.out hr0
          subst hx0
          have hrn : (er == 0) = false := by simpa using hr0
          have HPL := Lib.hid (fun (W : World) (B : Option Addr) (d : Nat) => law_plain17 W cf0 B d)
          have HSM := Lib.hid (fun (W : World) (B D : Option Addr) (cb cd : Nat) (hb : Sl W 1 B cf0.weights.length cb (ints cf0.weights)) (hd : Sl W 1 D cf0.weights.length cd (ints cf0.weights)) => (same_yes cf0 ▸ ref_Same W cf0 cf0 B D cb cd hb hd (by decide) : Calls Tryd.prog 18 #[.agg (cfA cf0 B cb), .agg (cfA cf0 D cd)] W fun e w' => e = .returned (.bool true) ∧ Fr Nob W w'))
          clear HOK HNO hxl
          go_upto_region 11 with (first | ((go_at_call 16); (with_reducible refine (HR2.out _ (HV.out.fr HFX.out)).mono ?_); rintro e w6 ⟨A6, c6, rfl, hs6, hf6⟩; have HF6 := Lib.hid (HFX.out.call hf6 (fun _ e _ => e)); have HS6 := Lib.hid hs6; clear hs6 hf6) | (refine wpList_stBox rfl rfl (by rfl) (by rfl) (by kernel_rfl) (by rfl) (Blk.new _ _ _) (by rfl) ?_; intro W7 hb7 hf7; have HB7 := Lib.hid hb7; have HF7 := Lib.hid (Fr.tail HF6.out.size HF6.out rfl _ hf7); have HS7 := Lib.hid (HS6.out.pure (Fr.tail (Nat.le_refl _) (Fr.refl _ _) rfl _ hf7)); clear hb7 hf7) | fail)
          have e1 : ∀ B d, (.agg (cfA cf0 B d) : Value) = .agg #[.int .i64 0, .int .i64 0, .bool false, .slice B 0 d, .int .i64 0, .int .i64 0, .int .i64 0] := fun _ _ => rfl
          have HP1 := Lib.hid (HPL.out W7 A6 c6)
          have HS1 := Lib.hid (fun (W : World) (hf : Fr Nob W7 W) => HSM.out W A6 none c6 0 (HS7.out.pure hf) (Sl.none_ _ _))
          have HB8 := Lib.hid (show Blk W7 w6.heap.size 43 #[.int .i64 0, .int .i64 0, .bool false, .slice A6 0 c6, .int .i64 0, .int .i64 0, .int .i64 0] from HB7.out)
          simp only [e1] at HP1 HS1
          go_wp2_with (first | (refine wpList_ldBox rfl rfl (by rfl) ⟨_, Tryd.underlying43, rfl⟩ (by kernel_rfl) HB8.out ?_) | ((go_at_call 19); (with_reducible refine HP1.out.mono ?_); rintro e w8 ⟨rfl, hf8⟩; have HF8 := Lib.hid hf8; clear hf8) | ((go_at_call 18); (with_reducible refine (HS1.out _ HF8.out).mono ?_); rintro e w9 ⟨rfl, hf9⟩; have HF9 := Lib.hid (HF8.out.call hf9 (fun _ e _ => e)); clear hf9) | fail)
          go_ret
          exact ⟨rfl, HF7.out.call HF9.out (fun _ e _ => e)⟩
      · have hcn : (checkC c == 0) = false := by simpa using hck
        generalize checkC c = ck at *
        clear h63
        go_enter Tryd.func6, Tryd.ntmps6
        go_upto_region 1 with fail
        obtain ⟨W0, hW0⟩ : ∃ W0, W0 = w.alloc (.cells (cfA c A cap) 43) := ⟨_, rfl⟩
        have HF0 := Lib.hid (show Fr Nob w W0 by rw [hW0]; exact (Fr.refl _ _).alloc _)
        have HB0 := Lib.hid (show Blk W0 w.heap.size 43 (cfA c A cap) by rw [hW0]; exact Blk.new _ _ _)
        rw [← hW0]
        clear hW0
        go_upto_region 6 with (first
          | ((go_at_call 15); (with_reducible refine (HAW.out _ HF0.out).mono ?_); rintro e w1 ⟨rfl, hf1⟩; have HF1 := Lib.hid (HF0.out.call hf1 (fun _ e _ => e)); have HB1 := Lib.hid (HB0.out.fr hf1 (fun e => e)); have b1 := HB1.out.cell; have l1 := HB1.out.lt; unfold cfA at b1; clear hf1)
          | fail)
        clear b1
        go_upto_region 10 with (first | (refine wpList_ldBox rfl rfl (by rfl) ⟨_, Tryd.underlying43, rfl⟩ (by kernel_rfl) HB1.out ?_) | ((go_at_call 20); (with_reducible refine (HPC.out _ HF1.out).mono ?_); rintro e w2 ⟨rfl, hf2⟩; have HFX := Lib.hid (HF1.out.call hf2 (fun _ e _ => e)); clear hf2) | fail)
        by_cases hr0 : er = 0
        · subst hr0
          obtain ⟨hxk, HXR⟩ := HOK.out rfl
          have HXC := Lib.hid (fun (W : World) (B : Option Addr) (d : Nat) (hs : Sl W 1 B x.weights.length d (ints x.weights)) => (hxk ▸ prg_Check W x B d hs hxl : Calls Tryd.prog 20 #[.agg (cfA x B d)] W fun e w' => e = .returned (.int .i64 0) ∧ Fr Nob W w'))
          have HXS := Lib.hid (fun (W : World) (B : Option Addr) (d : Nat) (hs : Sl W 1 B x.weights.length d (ints x.weights)) (hv : CV W) => prg_Show W x B d hs hxl hv.tb)
          have HXY := Lib.hid (fun (W : World) (B D : Option Addr) (cb cd : Nat) (hb : Sl W 1 B x.weights.length cb (ints x.weights)) (hd : Sl W 1 D x.weights.length cd (ints x.weights)) => (same_yes x ▸ ref_Same W x x B D cb cd hb hd hxl : Calls Tryd.prog 18 #[.agg (cfA x B cb), .agg (cfA x D cd)] W fun e w' => e = .returned (.bool true) ∧ Fr Nob W w'))
          generalize (⟨(showC x).toArray⟩ : ByteArray) = sx at *
          clear hxk hxl HOK
          go_upto_region 11 with (first | ((go_at_call 16); (with_reducible refine (HR2.out _ (HV.out.fr HFX.out)).mono ?_); rintro e w6 ⟨A6, c6, rfl, hs6, hf6⟩; have HF6 := Lib.hid (HFX.out.call hf6 (fun _ e _ => e)); have HS6 := Lib.hid hs6; clear hs6 hf6) | (refine wpList_stBox rfl rfl (by rfl) (by rfl) (by kernel_rfl) (by rfl) (Blk.new _ _ _) (by rfl) ?_; intro W7 hb7 hf7; have HB7 := Lib.hid hb7; have HF7 := Lib.hid (Fr.tail HF6.out.size HF6.out rfl _ hf7); have HS7 := Lib.hid (HS6.out.pure (Fr.tail (Nat.le_refl _) (Fr.refl _ _) rfl _ hf7)); clear hb7 hf7) | fail)
          go_upto_region 14 with (first | (refine wpList_ldBox rfl rfl (by rfl) ⟨_, Tryd.underlying43, rfl⟩ (by kernel_rfl) HB7.out ?_) | ((go_at_call 22); (with_reducible refine (HXS.out _ A6 c6 HS7.out (HV.out.fr HF7.out)).mono ?_); rintro e w8 ⟨rfl, hf8⟩; have HF8 := Lib.hid hf8; clear hf8) | ((go_at_call 16); (with_reducible refine (HXR.out _ (HV.out.fr (HF7.out.call HF8.out (fun _ e _ => e)))).mono ?_); rintro e w9 ⟨A9, c9, rfl, hs9, hf9⟩; have HF9 := Lib.hid (HF8.out.call hf9 (fun _ e _ => e)); have HS9 := Lib.hid hs9; clear hs9 hf9) | (refine wpList_stBox rfl rfl (by rfl) (by rfl) (by kernel_rfl) (by rfl) (Blk.new _ _ _) (by rfl) ?_; intro WA hb7 hf7; have HBA := Lib.hid hb7; have HFA := Lib.hid (Fr.tail HF9.out.size HF9.out rfl _ hf7); have HSA := Lib.hid (HS9.out.pure (Fr.tail (Nat.le_refl _) (Fr.refl _ _) rfl _ hf7)); clear hb7 hf7) | fail)
          have HBx := Lib.hid (HB7.out.fr HFA.out (fun e => e))
          have HSx := Lib.hid (HS7.out.pure HFA.out)
          have HFW := Lib.hid (HF7.out.call HFA.out (fun _ e _ => e))
          obtain ⟨k0, k1, k2, k3, k4, k5, k6⟩ := cells_rg HBx.out
          obtain ⟨l0, l1, l2, l3, l4, l5, l6⟩ := cells_rg HBA.out
          have C1 := Lib.hid (cregr (W := WA) fun W hf => HXC.out W A6 c6 (HSx.out.pure hf))
          have C2 := Lib.hid (cregr (W := WA) fun W hf => law_plain17 W x A6 c6)
          have C3 := Lib.hid (cregr (W := WA) fun W hf => law_plain17 W x A9 c9)
          have C4 := Lib.hid (cregr (W := WA) fun W hf => HXY.out W A6 A9 c6 c9 (HSx.out.pure hf) (HSA.out.pure hf))
          unfold cfA at C1 C2 C3 C4
          clear HXC HXS HXY HXR HBx HSx HB7 HS7 HS6 HS9 HSA HBA HF6 HF7 HF8 HF9 HFA HV HFX HR2
          try dsimp only [Act.put]
          refine wp_region_quiet_below (by kernel_rfl) (by kernel_rfl) ?_
          repeat (go_big_quiet_step (first | with_reducible exact C1.out _ _ | with_reducible exact C2.out _ _ | with_reducible exact C3.out _ _ | with_reducible exact C4.out _ _))
          refine wpQuiet_nil ?_
          intro _ hw'
          obtain ⟨⟨dq, osq⟩, hw''⟩ := hw'
          subst hw''
          go_wp2_with fail
          go_ret
          exact ⟨rfl, HFW.out.call (Fr.of_below (S := Nob) (below_regrown _ dq osq)) (fun _ h _ => h)⟩
        · have hx0 := HNO.out hr0
          subst hx0
          have hrn : (er == 0) = false := by simpa using hr0
          have HPL := Lib.hid (fun (W : World) (B : Option Addr) (d : Nat) => law_plain17 W cf0 B d)
          have HSM := Lib.hid (fun (W : World) (B D : Option Addr) (cb cd : Nat) (hb : Sl W 1 B cf0.weights.length cb (ints cf0.weights)) (hd : Sl W 1 D cf0.weights.length cd (ints cf0.weights)) => (same_yes cf0 ▸ ref_Same W cf0 cf0 B D cb cd hb hd (by decide) : Calls Tryd.prog 18 #[.agg (cfA cf0 B cb), .agg (cfA cf0 D cd)] W fun e w' => e = .returned (.bool true) ∧ Fr Nob W w'))
          clear HOK HNO hxl
          go_upto_region 11 with (first | ((go_at_call 16); (with_reducible refine (HR2.out _ (HV.out.fr HFX.out)).mono ?_); rintro e w6 ⟨A6, c6, rfl, hs6, hf6⟩; have HF6 := Lib.hid (HFX.out.call hf6 (fun _ e _ => e)); have HS6 := Lib.hid hs6; clear hs6 hf6) | (refine wpList_stBox rfl rfl (by rfl) (by rfl) (by kernel_rfl) (by rfl) (Blk.new _ _ _) (by rfl) ?_; intro W7 hb7 hf7; have HB7 := Lib.hid hb7; have HF7 := Lib.hid (Fr.tail HF6.out.size HF6.out rfl _ hf7); have HS7 := Lib.hid (HS6.out.pure (Fr.tail (Nat.le_refl _) (Fr.refl _ _) rfl _ hf7)); clear hb7 hf7) | fail)
          have e1 : ∀ B d, (.agg (cfA cf0 B d) : Value) = .agg #[.int .i64 0, .int .i64 0, .bool false, .slice B 0 d, .int .i64 0, .int .i64 0, .int .i64 0] := fun _ _ => rfl
          have HP1 := Lib.hid (HPL.out W7 A6 c6)
          have HS1 := Lib.hid (fun (W : World) (hf : Fr Nob W7 W) => HSM.out W A6 none c6 0 (HS7.out.pure hf) (Sl.none_ _ _))
          have HB8 := Lib.hid (show Blk W7 w6.heap.size 43 #[.int .i64 0, .int .i64 0, .bool false, .slice A6 0 c6, .int .i64 0, .int .i64 0, .int .i64 0] from HB7.out)
          simp only [e1] at HP1 HS1
          go_wp2_with (first | (refine wpList_ldBox rfl rfl (by rfl) ⟨_, Tryd.underlying43, rfl⟩ (by kernel_rfl) HB8.out ?_) | ((go_at_call 19); (with_reducible refine HP1.out.mono ?_); rintro e w8 ⟨rfl, hf8⟩; have HF8 := Lib.hid hf8; clear hf8) | ((go_at_call 18); (with_reducible refine (HS1.out _ HF8.out).mono ?_); rintro e w9 ⟨rfl, hf9⟩; have HF9 := Lib.hid (HF8.out.call hf9 (fun _ e _ => e)); clear hf9) | fail)
          go_ret
          exact ⟨rfl, HF7.out.call HF9.out (fun _ e _ => e)⟩
end Go.Proofs.YtoegdmpmagbaiaaDoor
