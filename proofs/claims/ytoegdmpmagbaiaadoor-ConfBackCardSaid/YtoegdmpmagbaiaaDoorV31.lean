/- ConfReads, ConfShows. -/
import Derived.Test.YtoegdmpmagbaiaaDoorV30
namespace Go.Proofs.YtoegdmpmagbaiaaDoor
open Go.RowKit Go.Lib Go.Shelf Go.Sort

theorem read_len (l : List UInt8) : (readC l).1.weights.length ≤ 8 := by
  by_cases h : (readC l).2.1 = 0
  · have := (check_sources (read_check h)).2.2.2
    omega
  · rw [read_bad h]
    decide
theorem ref_ReadOf (w : World) (s : ByteArray) (hs : s.size ≤ 100000) {c : CF} {er ln : Int} (h : readC s.data.toList = (c, er, ln)) : Calls Tryd.prog 17 #[.string s] w fun e w' => ∃ A cap, e = .returned (.tuple #[.agg (cfA c A cap), .int .i64 er, .int .i64 ln]) ∧ Sl w' 1 A c.weights.length cap (ints c.weights) ∧ Fr Nob w w' := by
  have := ref_Read w s hs
  rw [h] at this
  exact this
theorem cells_rg {W : World} {g t cap : Nat} {c : CF} {A : Option Addr} (h : Blk W g t (cfA c A cap)) :
    (∀ (d : Nat) (os : Array Obj), (grow (redrawn W d) os).cell? ⟨g, 0, none⟩ = some (.int .i64 c.sources)) ∧
    (∀ (d : Nat) (os : Array Obj), (grow (redrawn W d) os).cell? ⟨g, 1, none⟩ = some (.int .i64 c.room)) ∧
    (∀ (d : Nat) (os : Array Obj), (grow (redrawn W d) os).cell? ⟨g, 2, none⟩ = some (.bool c.oldest)) ∧
    (∀ (d : Nat) (os : Array Obj), (grow (redrawn W d) os).cell? ⟨g, 3, none⟩ = some (.slice A c.weights.length cap)) ∧
    (∀ (d : Nat) (os : Array Obj), (grow (redrawn W d) os).cell? ⟨g, 4, none⟩ = some (.int .i64 c.quantum)) ∧
    (∀ (d : Nat) (os : Array Obj), (grow (redrawn W d) os).cell? ⟨g, 5, none⟩ = some (.int .i64 c.timeout)) ∧
    (∀ (d : Nat) (os : Array Obj), (grow (redrawn W d) os).cell? ⟨g, 6, none⟩ = some (.int .i64 c.patience)) :=
  ⟨cell_regrown (h.cell 0), cell_regrown (h.cell 1), cell_regrown (h.cell 2), cell_regrown (h.cell 3), cell_regrown (h.cell 4), cell_regrown (h.cell 5), cell_regrown (h.cell 6)⟩
set_option maxRecDepth 100000 in
set_option maxHeartbeats 4000000 in
theorem law_ConfReads (w : World) (s : ByteArray) (hv : CV w) : Calls Tryd.prog 4 #[.string s] w fun e w' => e = .returned (.bool true) ∧ Fr Nob w w' := by
  have HV := Lib.hid hv
  have HAW := Lib.hid (law17_awake w hv)
  clear hv
  by_cases hI : (1000 : Int) < (s.size : Nat)
  · go_enter Tryd.func4, Tryd.ntmps4
    go_wp2_with (first | ((go_at_call 15); (with_reducible refine HAW.out.mono ?_); rintro e w1 ⟨rfl, hf1⟩; have HF1 := Lib.hid hf1; clear hf1) | fail)
    go_ret
    exact ⟨rfl, HF1.out⟩
  · have hs : s.size ≤ 100000 := by omega
    obtain ⟨c, er, ln, hc⟩ : ∃ c er ln, readC s.data.toList = (c, er, ln) := ⟨_, _, _, rfl⟩
    have hcl : c.weights.length ≤ 1000 := by
      have := read_len s.data.toList
      rw [hc] at this
      exact Nat.le_trans this (by decide)
    have HRP := Lib.hid (fun (W : World) (h : CV W) => prg_ReadOf W s hs h hc)
    have HRR := Lib.hid (fun (W : World) => ref_ReadOf W s hs hc)
    have HSM := Lib.hid (fun (W : World) (A B : Option Addr) (ca cb : Nat) (ha : Sl W 1 A c.weights.length ca (ints c.weights)) (hb : Sl W 1 B c.weights.length cb (ints c.weights)) => (same_yes c ▸ ref_Same W c c A B ca cb ha hb hcl : Calls Tryd.prog 18 #[.agg (cfA c A ca), .agg (cfA c B cb)] W fun e w' => e = .returned (.bool true) ∧ Fr Nob W w'))
    clear hc hs hcl
    go_enter Tryd.func4, Tryd.ntmps4
    go_upto_region 7 with (first | ((go_at_call 15); (with_reducible refine HAW.out.mono ?_); rintro e w1 ⟨rfl, hf1⟩; have HF1 := Lib.hid hf1; clear hf1) | ((go_at_call 16); (with_reducible refine (HRP.out _ (HV.out.fr HF1.out)).mono ?_); rintro e w2 ⟨A2, c2, rfl, hs2, hf2⟩; have HF2 := Lib.hid (HF1.out.call hf2 (fun _ e _ => e)); have HS2 := Lib.hid hs2; clear hs2 hf2) | (refine wpList_stBox rfl rfl (by rfl) (by rfl) (by kernel_rfl) (by rfl) (Blk.new _ _ _) (by rfl) ?_; intro W3 hb7 hf7; have HB3 := Lib.hid hb7; have HF3 := Lib.hid (Fr.tail HF2.out.size HF2.out rfl _ hf7); have HS3 := Lib.hid (HS2.out.pure (Fr.tail (Nat.le_refl _) (Fr.refl _ _) rfl _ hf7)); clear hb7 hf7) | fail)
    go_upto_region 8 with (first | ((go_at_call 17); (with_reducible refine (HRR.out _).mono ?_); rintro e w4 ⟨A4, c4, rfl, hs4, hf4⟩; have HF4 := Lib.hid hf4; have HS4 := Lib.hid hs4; clear hs4 hf4) | (refine wpList_stBox rfl rfl (by rfl) (by rfl) (by kernel_rfl) (by rfl) (Blk.new _ _ _) (by rfl) ?_; intro W5 hb7 hf7; have HB5 := Lib.hid hb7; have HF5 := Lib.hid (Fr.tail HF4.out.size HF4.out rfl _ hf7); have HS5 := Lib.hid (HS4.out.pure (Fr.tail (Nat.le_refl _) (Fr.refl _ _) rfl _ hf7)); clear hb7 hf7) | fail)
    have HBx := Lib.hid (HB3.out.fr HF5.out (fun e => e))
    have HSx := Lib.hid (HS3.out.pure HF5.out)
    have HFW := Lib.hid (HF3.out.call HF5.out (fun _ e _ => e))
    obtain ⟨k0, k1, k2, k3, k4, k5, k6⟩ := cells_rg HBx.out
    obtain ⟨l0, l1, l2, l3, l4, l5, l6⟩ := cells_rg HB5.out
    have C1 := Lib.hid (cregr (W := W5) fun W hf => law_plain17 W c A2 c2)
    have C2 := Lib.hid (cregr (W := W5) fun W hf => HSM.out W A2 A4 c2 c4 (HSx.out.pure hf) (HS5.out.pure hf))
    unfold cfA at C1 C2
    clear HSM HRR HRP HAW HV HB3 HB5 HBx HS2 HS3 HS4 HS5 HSx HF1 HF2 HF3 HF4 HF5
    refine wp_region_quiet_below (by kernel_rfl) (by kernel_rfl) ?_
    repeat (go_big_quiet_step (first | exact C1.out _ _ | exact C2.out _ _))
    refine wpQuiet_nil ?_
    intro _ hw'
    obtain ⟨⟨dq, osq⟩, hw''⟩ := hw'
    subst hw''
    go_wp2_with fail
    go_ret
    exact ⟨rfl, HFW.out.call (Fr.of_below (S := Nob) (below_regrown _ dq osq)) (fun _ h _ => h)⟩
set_option maxRecDepth 100000 in
set_option maxHeartbeats 4000000 in
theorem law_ConfShows (w : World) (c : CF) (A : Option Addr) (cap : Nat) (hl : Sl w 1 A c.weights.length cap (ints c.weights)) (ht : c.timeout ≤ 9223372036854775807) (hp : c.patience ≤ 9223372036854775807) (hv : CV w) :
    Calls Tryd.prog 5 #[.agg (cfA c A cap)] w fun e w' => e = .returned (.bool true) ∧ Fr Nob w w' := by
  have HL := Lib.hid hl
  have HV := Lib.hid hv
  have HAW := Lib.hid (fun (W : World) (hf : Fr Nob w W) => law17_awake W (hv.fr hf))
  have hmx := hl.max
  have hle := hl.le
  unfold maxLen at hmx
  clear hv hl
  by_cases hI : (40 : Int) < (c.weights.length : Nat)
  · go_enter Tryd.func5, Tryd.ntmps5
    go_upto_region 1 with fail
    obtain ⟨W0, hW0⟩ : ∃ W0, W0 = w.alloc (.cells (cfA c A cap) 43) := ⟨_, rfl⟩
    have HF0 := Lib.hid (show Fr Nob w W0 by rw [hW0]; exact (Fr.refl _ _).alloc _)
    have HB0 := Lib.hid (show Blk W0 w.heap.size 43 (cfA c A cap) by rw [hW0]; exact Blk.new _ _ _)
    rw [← hW0]
    clear hW0
    go_wp2_with (first | ((go_at_call 15); (with_reducible refine (HAW.out _ HF0.out).mono ?_); rintro e w1 ⟨rfl, hf1⟩; have HF1 := Lib.hid (HF0.out.call hf1 (fun _ e _ => e)); have b1 := (HB0.out.fr hf1 (fun e => e)).cell; have l1 := (HB0.out.fr hf1 (fun e => e)).lt; unfold cfA at b1; clear hf1) | fail)
    go_ret
    exact ⟨rfl, HF1.out⟩
  · have h63 : c.weights.length ≤ 1000 := by omega
    have HPC := Lib.hid (fun (W : World) (hf : Fr Nob w W) => prg_Check W c A cap (HL.out.pure hf) h63)
    have HPS := Lib.hid (fun (W : World) (hf : Fr Nob w W) => prg_Show W c A cap (HL.out.pure hf) h63 (HV.out.fr hf).tb)
    have HRC := Lib.hid (fun (W : World) (hf : Fr Nob w W) => ref_Check W c A cap (HL.out.pure hf) h63 ht hp)
    have HRS := Lib.hid (fun (W : World) (hf : Fr Nob w W) => ref_Show W c A cap (HL.out.pure hf) h63 ht hp)
    have HPL := Lib.hid (fun (W : World) => law_plain17 W c A cap)
    generalize checkC c = ck at *
    generalize (⟨(showC c).toArray⟩ : ByteArray) = sh at *
    clear h63 ht hp
    go_enter Tryd.func5, Tryd.ntmps5
    go_upto_region 1 with fail
    obtain ⟨W0, hW0⟩ : ∃ W0, W0 = w.alloc (.cells (cfA c A cap) 43) := ⟨_, rfl⟩
    have HF0 := Lib.hid (show Fr Nob w W0 by rw [hW0]; exact (Fr.refl _ _).alloc _)
    have HB0 := Lib.hid (show Blk W0 w.heap.size 43 (cfA c A cap) by rw [hW0]; exact Blk.new _ _ _)
    rw [← hW0]
    clear hW0
    go_upto_region 6 with (first | ((go_at_call 15); (with_reducible refine (HAW.out _ HF0.out).mono ?_); rintro e w1 ⟨rfl, hf1⟩; have HF1 := Lib.hid (HF0.out.call hf1 (fun _ e _ => e)); have HB1 := Lib.hid (HB0.out.fr hf1 (fun e => e)); have b1 := HB1.out.cell; have l1 := HB1.out.lt; unfold cfA at b1; clear hf1) | fail)
    clear b1
    go_upto_region 7 with (first | (refine wpList_ldBox rfl rfl (by rfl) ⟨_, Tryd.underlying43, rfl⟩ (by kernel_rfl) HB1.out ?_) | ((go_at_call 19); (with_reducible refine (HPL.out _).mono ?_); rintro e w2 ⟨rfl, hf2⟩; have HF2 := Lib.hid hf2; clear hf2) | (refine wpList_stBox rfl rfl (by rfl) (by rfl) (by kernel_rfl) (by rfl) (Blk.new _ _ _) (by rfl) ?_; intro W3 hb7 hf7; have HB3 := Lib.hid hb7; have HF3 := Lib.hid (Fr.tail HF2.out.size HF2.out rfl _ hf7); clear hb7 hf7) | fail)
    have HBx := Lib.hid (HB1.out.fr HF3.out (fun e => e))
    have HFW := Lib.hid (HF1.out.call HF3.out (fun _ e _ => e))
    obtain ⟨k0, k1, k2, k3, k4, k5, k6⟩ := cells_rg HBx.out
    obtain ⟨l0, l1, l2, l3, l4, l5, l6⟩ := cells_rg HB3.out
    have C1 := Lib.hid (cregr (W := W3) fun W hf => HPC.out W (HFW.out.call hf (fun _ e _ => e)))
    have C2 := Lib.hid (cregr (W := W3) fun W hf => HRC.out W (HFW.out.call hf (fun _ e _ => e)))
    have C3 := Lib.hid (cregr (W := W3) fun W hf => HPS.out W (HFW.out.call hf (fun _ e _ => e)))
    have C4 := Lib.hid (cregr (W := W3) fun W hf => HRS.out W (HFW.out.call hf (fun _ e _ => e)))
    unfold cfA at C1 C2 C3 C4
    clear HPC HPS HRC HRS HPL HAW HV HB3 HB1 HB0 HBx HF1 HF2 HF3 HL
    dsimp only [Act.put]
    refine wp_region_quiet_below (by kernel_rfl) (by kernel_rfl) ?_
    repeat (go_big_quiet_step (first | exact C1.out _ _ | exact C2.out _ _ | exact C3.out _ _ | exact C4.out _ _))
    refine wpQuiet_nil ?_
    intro _ hw'
    obtain ⟨⟨dq, osq⟩, hw''⟩ := hw'
    subst hw''
    go_wp2_with fail
    go_ret
    exact ⟨rfl, HFW.out.call (Fr.of_below (S := Nob) (below_regrown _ dq osq)) (fun _ h _ => h)⟩
end Go.Proofs.YtoegdmpmagbaiaaDoor
