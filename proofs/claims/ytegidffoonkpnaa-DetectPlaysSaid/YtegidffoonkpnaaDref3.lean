/- The reference of the detector: idle, new, tick. -/
import Derived.Test.YtegidffoonkpnaaDref2
import Derived.StillTailTactics
import Derived.Deep.RegionWith
namespace Go.Proofs.Ytegidffoonkpnaa
open Go.RowKit

set_option maxHeartbeats 400000 in
theorem ref_Idle (w : World) (A1 : Option Addr) (c1 : Nat) (A2 : Option Addr) (c2 : Nat) (D : DD) (hw : WF D) (hR : Rd w A1 c1 A2 c2 D) :
    Calls Try.prog 23 #[rdv A1 c1 A2 c2 D] w fun e w' => e = .returned (.tuple #[.int .i64 (didle D).1, .bool (didle D).2]) ∧ Fr Nob w w' := by
  have Hw := Lib.hid hw
  have HR := Lib.hid hR
  have h8 := hw.le8
  unfold rdv
  clear hw hR
  go_enter Try.func23, Try.ntmps23
  go_wp2
  have H0 := Lib.hid (Blk.new w 31 #[.slice A1 D.st.length c1, .slice A2 D.la.length c2, .int .i64 D.to, .int .i64 D.now])
  have Hll := Lib.hid Hw.out.len
  go_loopw [4, 5] (fun s i wr => Hid (Fr Nob w wr) ∧ Hid (Blk wr w.heap.size 31 #[.slice A1 D.st.length c1, .slice A2 D.la.length c2, .int .i64 D.to, .int .i64 D.now]) ∧ ∃ k : Nat, k ≤ D.st.length ∧ i = .int .i64 k ∧ s = .int .i64 (dsince D k) ∧ Hid (∀ i, i < k → D.st.getD i 0 ≠ 1)) (fun _ i _ => D.st.length - (intOf i).toNat)
  case atStart => exact ⟨(Fr.refl _ _).alloc _, H0, 0, Nat.zero_le _, rfl, rfl, fun i h => by omega⟩
  case round =>
    obtain ⟨hfr, hbx, k, hk, rfl, rfl, hno⟩ := hrel
    have hb0 := hbx.out.cell
    by_cases hlt : k < D.st.length
    · have hI : (k : Int) < D.st.length := by omega
      have hI0 : 0 ≤ (k : Int) := by omega
      have hI2 : (k : Int) < D.la.length := by have := Hll.out; omega
      have hle := HR.out.st.le
      have hle2 := HR.out.la.le
      have hmx := HR.out.st.max
      have hmx2 := HR.out.la.max
      unfold maxLen at hmx hmx2
      obtain ⟨b, off, rfl, hb, h1⟩ := (HR.out.fr hfr.out).st.int hlt
      obtain ⟨b2, off2, rfl, hb2, h2⟩ := (HR.out.fr hfr.out).la.int (by rw [Hll.out]; exact hlt)
      have s1 := Hw.out.sts k hlt
      by_cases c1' : D.st.getD k 0 = 1
      · rw [c1'] at h1
        have HF := Lib.hid (show didle D = (0, false) by unfold didle; rw [dactive_at hlt c1']; rfl)
        clear c1' s1
        go_wp2
        go_ret2
        exact ⟨by rw [HF.out]; rfl, hfr.out⟩
      · have HN : Hid (∀ i, i < k + 1 → D.st.getD i 0 ≠ 1) := fun i hi => by
          rcases Nat.lt_or_ge i k with h | h
          · exact hno.out i h
          · rw [show i = k by omega]; exact c1'
        by_cases c3 : D.st.getD k 0 = 3
        · rw [c3] at h1
          have HS := Lib.hid (show dsince D (k + 1) = max (dsince D k) (D.la.getD k 0) by simp only [dsince, dsi, if_pos c3])
          clear c1' c3 s1
          generalize D.la.getD k 0 = la at *
          generalize hs0 : dsince D k = s0 at *
          clear hs0
          go_wp2
          all_goals
            go_roundw
            case rel => exact ⟨hfr, hbx, k + 1, by omega, by go_num, by rw [HS.out]; exact vint (by omega), HN⟩
            case measure => simp [intOf]; omega
        · have c2' : D.st.getD k 0 = 2 := by omega
          rw [c2'] at h1
          have HS := Lib.hid (show dsince D (k + 1) = max (dsince D k) (ssum [D.la.getD k 0, D.to, 1]).1 by simp only [dsince, dsi, if_neg c3])
          have hl1 := (Hw.out.las k hlt).1
          have hl2 := (Hw.out.las k hlt).2
          have hl3 := Hw.out.now2
          have hl4 := Hw.out.to1
          have hl5 := Hw.out.to2
          have H64 : Hid (∀ x ∈ [D.la.getD k 0, D.to, 1], I64 x) := by
            intro x hx
            simp only [List.mem_cons, List.not_mem_nil, or_false] at hx
            unfold I64
            rcases hx with rfl | rfl | rfl <;> omega
          clear c1' c3 c2' s1 hl1 hl2 hl3 hl4 hl5
          generalize D.la.getD k 0 = la at *
          generalize hto : D.to = to at *
          generalize hs0 : dsince D k = s0 at *
          clear hs0 hto
          go_wp2_with fail
          go_region_with ((go_at_call 32); refine (ref_Sum _ _ _ [la, to, 1] (Sl.drew (Sl.new1 (Blk.new _ _ _) 1 3 rfl (by decide))) H64.out).mono ?_; rintro e w' ⟨rfl, rfl⟩)
          all_goals
            generalize (ssum [la, to, 1]).fst = sv at *
            generalize (ssum [la, to, 1]).snd = sb at *
            go_wp2_with fail
          all_goals
            go_roundw
            case rel => exact ⟨(hfr.out.alloc _).drew, (hbx.out.alloc _).drew, k + 1, by omega, by go_num, by rw [HS.out]; exact vint (by omega), HN⟩
            case measure => simp [intOf]; omega
    · have hkk : k = D.st.length := by omega
      subst hkk
      have HF := Lib.hid (show didle D = (dsince D D.st.length, true) by unfold didle; rw [dactive_none hno.out]; rfl)
      go_wp2
      go_ret2
      exact ⟨by rw [HF.out]; rfl, hfr.out⟩
set_option maxHeartbeats 400000 in
theorem ref_New (w : World) (n : Nat) (to : Int) (h1 : 1 ≤ n) (h8 : n ≤ 8) (t1 : 1 ≤ to) :
    Calls Try.prog 9 #[.int .i64 n, .int .i64 to] w fun e w' => ∃ A1 c1 A2 c2, e = .returned (.tuple #[rdv A1 c1 A2 c2 (dnew n to), .int .i64 0]) ∧ Rd w' A1 c1 A2 c2 (dnew n to) ∧ Fr Nob w w' ∧ ∀ lo hi, hi ≤ w.heap.size → Off A1 lo hi ∧ Off A2 lo hi := by
  go_enter Try.func9, Try.ntmps9
  go_wp2
  go_loopw [7] (fun i wr => ∃ (k : Nat) (A1 : Option Addr) (c1 : Nat) (A2 : Option Addr) (c2 : Nat), k ≤ n ∧ i = .int .i64 k ∧ Hid (Fr Nob w wr) ∧
      Hid (Blk wr w.heap.size 31 #[.slice none 0 0, .slice none 0 0, .int .i64 0, .int .i64 0]) ∧ Hid (Blk wr (w.heap.size + 1) 31 #[.slice A1 k c1, .slice A2 k c2, .int .i64 to, .int .i64 0]) ∧
      Hid (wr.ownsRow (w.heap.size + 2) 3 1 (.slice A1 k c1) k (ints (List.replicate k 1))) ∧ Hid (wr.ownsRow (w.heap.size + 2) 2 1 (.slice A2 k c2) k (ints (List.replicate k 0))) ∧ w.heap.size + 2 ≤ wr.heap.size) (fun i _ => n - (intOf i).toNat)
  case atStart => exact ⟨0, none, 0, none, 0, Nat.zero_le _, rfl, (((Fr.refl _ _).alloc _).alloc _), (Blk.new _ _ _).alloc _, Blk.new_eq (by simp), World.ownsRow_nil _ _ _ _, World.ownsRow_nil _ _ _ _, by simp⟩
  case round =>
    obtain ⟨k, A1, c1, A2, c2, hk, rfl, hfr, hres, hbox, ho1, ho2, hsz⟩ := hrel
    have hb1 := hbox.out.cell
    have hf1 := hbox.out.frozen
    by_cases hlt : k < n
    · have hk8 : k + 1 ≤ maxLen := by unfold maxLen; omega
      go_wp2_with (at_builtin; refine wpList_app rfl _ _ 28 rfl el_int (base := w.heap.size + 2) (xs := ints (List.replicate k 1)) (news := ints [1]) rfl ?own rfl ?src ?one ?h63 ?hby ?hbase ?_)
      case own => exact ho1.out.alloc _
      case src => exact Sl.new1 (Blk.new _ _ _) 1 1 rfl (by decide)
      case one => exact one_ints _
      case h63 => exact hk8
      case hby => omega
      case hbase => simp; omega
      intro A1' c1' wa hown1 hgr hat
      have hfa := Lib.hid ((hfr.out.alloc (.cells #[.int .i64 1] 3)).grown hgr (fun i hi hlt => by have := own_base ho1.out i hi; omega))
      have hresa := Lib.hid ((hres.out.alloc (.cells #[.int .i64 1] 3)).grown hgr (fun e => by have := own_base ho1.out _ e; omega))
      have hboxa := Lib.hid ((hbox.out.alloc (.cells #[.int .i64 1] 3)).grown hgr (fun e => by have := own_base ho1.out _ e; omega))
      have ho2a := Lib.hid (own_apart (ho2.out.alloc (.cells #[.int .i64 1] 3)) (ho1.out.alloc (.cells #[.int .i64 1] 3)) (by decide) hgr)
      have Hown1 := Lib.hid hown1
      have hsza := hgr.size
      simp only [World.size_alloc] at hsza
      have hb1a := hboxa.out.cell
      have hf1a := hboxa.out.frozen
      clear hown1 hgr hat hb1 hf1
      go_wp2_with (at_builtin; refine wpList_app rfl _ _ 29 rfl el_i64 (base := w.heap.size + 2) (xs := ints (List.replicate k 0)) (news := ints [0]) rfl ?own2 rfl ?src2 ?one2 ?h632 ?hby2 ?hbase2 ?_)
      case own2 => exact own_fr ho2a.out (S := Only (w.heap.size + 1)) (((Fr.refl (Only (w.heap.size + 1)) _).setCell (p := ⟨w.heap.size + 1, 0, none⟩) (fun _ => rfl) _).alloc _) (fun i _ hb _ e => by unfold Only at e; omega)
      case src2 => exact Sl.new1 (Blk.new_eq (by simp)) 1 1 rfl (by decide)
      case one2 => exact one_ints _
      case h632 => exact hk8
      case hby2 => omega
      case hbase2 => simp; omega
      intro A2' c2' wb hown2 hgr hat
      have hrow : ∀ i, A2.map (·.block) = some i → w.heap.size + 2 ≤ i := own_base ho2.out
      have hfb := Lib.hid (((hfa.out.setCell (p := ⟨w.heap.size + 1, 0, none⟩) (fun h => absurd h (show ¬ w.heap.size + 1 < w.heap.size by omega)) (.slice A1' (k + 1) c1')).alloc (.cells #[.int .i64 0] 2)).grown hgr (fun i hi hlt => by have := hrow i hi; omega))
      have hresb := Lib.hid (((hresa.out.far (p := ⟨w.heap.size + 1, 0, none⟩) (show w.heap.size ≠ w.heap.size + 1 by omega) (.slice A1' (k + 1) c1')).alloc (.cells #[.int .i64 0] 2)).grown hgr (fun e => by have := hrow _ e; omega))
      have hboxb := Lib.hid (((hboxa.out.set 0 (.slice A1' (k + 1) c1')).alloc (.cells #[.int .i64 0] 2)).grown hgr (fun e => by have := hrow _ e; omega))
      have hra : wa.ownsRow (w.heap.size + 2) 3 1 (.slice A1' (k + 1) c1') (k + 1) (ints (List.replicate (k + 1) 1)) := by
        rw [List.replicate_succ']; unfold ints; rw [List.map_append]; exact Hown1.out
      have hFa : Fr (Only (w.heap.size + 1)) wa ((wa.setCell ⟨w.heap.size + 1, 0, none⟩ (.slice A1' (k + 1) c1')).alloc (.cells #[.int .i64 0] 2)) := ((Fr.refl (Only (w.heap.size + 1)) _).setCell (p := ⟨w.heap.size + 1, 0, none⟩) (fun _ => rfl) _).alloc _
      have ho1b := Lib.hid (own_apart (own_fr hra hFa (fun i _ hb _ e => by unfold Only at e; omega)) (own_fr ho2a.out hFa (fun i _ hb _ e => by unfold Only at e; omega)) (by decide) hgr)
      have ho2b : Hid (wb.ownsRow (w.heap.size + 2) 2 1 (.slice A2' (k + 1) c2') (k + 1) (ints (List.replicate (k + 1) 0))) := by
        rw [List.replicate_succ']; unfold ints; rw [List.map_append]; exact hown2
      have hszb := hgr.size
      simp only [World.size_alloc, World.size_setCell] at hszb
      have hb1b := hboxb.out.cell
      have hf1b := hboxb.out.frozen
      clear hown2 hgr hat hb1a hf1a hrow hra hFa
      go_wp2_with fail
      go_roundw
      case rel =>
        refine ⟨k + 1, A1', c1', A2', c2', by omega, by go_num, hfb.out.setCell (p := ⟨w.heap.size + 1, 1, none⟩) (fun h => absurd h (show ¬ w.heap.size + 1 < w.heap.size by omega)) _,
          hresb.out.far (p := ⟨w.heap.size + 1, 1, none⟩) (show w.heap.size ≠ w.heap.size + 1 by omega) _, hboxb.out.set 1 (.slice A2' (k + 1) c2'), ?_, ?_, by simp; omega⟩
        · exact own_fr ho1b.out ((Fr.refl (Only (w.heap.size + 1)) _).setCell (p := ⟨w.heap.size + 1, 1, none⟩) (fun _ => rfl) _) (fun i _ hb _ e => by unfold Only at e; omega)
        · exact own_fr ho2b.out ((Fr.refl (Only (w.heap.size + 1)) _).setCell (p := ⟨w.heap.size + 1, 1, none⟩) (fun _ => rfl) _) (fun i _ hb _ e => by unfold Only at e; omega)
      case measure => simp [intOf]; omega
    · have hkk : k = n := by omega
      subst hkk
      have hb0 := hres.out.cell
      have hf0 := hres.out.frozen
      have hL1 : (dnew k to).st.length = k := by simp [dnew]
      have hL2 : (dnew k to).la.length = k := by simp [dnew]
      have HL1 := Lib.hid hL1
      have HL2 := Lib.hid hL2
      clear hL1 hL2
      go_wp2_with fail
      refine bodyPost_ret (v := .tuple #[.agg #[.slice A1 k c1, .slice A2 k c2, .int .i64 to, .int .i64 0], .int .i64 0]) (by simp [results, Try.results9, go_sem, hb0]) rfl ?_
      refine ⟨A1, c1, A2, c2, by unfold rdv; rw [HL1.out, HL2.out]; rfl, ⟨?_, ?_⟩, ?_, fun lo hi h => ⟨fun g off e => .inr (by have := own_addr ho1.out g off e; omega), fun g off e => .inr (by have := own_addr ho2.out g off e; omega)⟩⟩
      · rw [HL1.out]; exact (Sl.of_own ho1.out).fr fr_set4 (fun b off e _ hb => by have := own_addr ho1.out b off e; unfold Only at hb; omega)
      · rw [HL2.out]; exact (Sl.of_own ho2.out).fr fr_set4 (fun b off e _ hb => by have := own_addr ho2.out b off e; unfold Only at hb; omega)
      · exact rd_set4 hfr.out (Nat.le_refl _)
theorem ref_New_no (w : World) (n : Int) (to : Int) (h : n < 1 ∨ 8 < n ∨ to < 1) :
    Calls Try.prog 9 #[.int .i64 n, .int .i64 to] w fun e w' => e = .returned (.tuple #[.agg #[.slice none 0 0, .slice none 0 0, .int .i64 0, .int .i64 0], .int .i64 33]) ∧ Fr Nob w w' := by
  have H : Hid (n < 1 ∨ 8 < n ∨ to < 1) := h
  clear h
  by_cases c1 : n < 1
  · go_enter Try.func9, Try.ntmps9
    go_wp2
    refine bodyPost_ret (v := .tuple #[.agg #[.slice none 0 0, .slice none 0 0, .int .i64 0, .int .i64 0], .int .i64 33]) (by simp [results, Try.results9, go_sem]) rfl ?_
    exact ⟨rfl, (Fr.refl _ _).alloc _⟩
  by_cases c2 : 8 < n
  · go_enter Try.func9, Try.ntmps9
    go_wp2
    refine bodyPost_ret (v := .tuple #[.agg #[.slice none 0 0, .slice none 0 0, .int .i64 0, .int .i64 0], .int .i64 33]) (by simp [results, Try.results9, go_sem]) rfl ?_
    exact ⟨rfl, (Fr.refl _ _).alloc _⟩
  have c3 : to < 1 := by have := H.out; omega
  · go_enter Try.func9, Try.ntmps9
    go_wp2
    refine bodyPost_ret (v := .tuple #[.agg #[.slice none 0 0, .slice none 0 0, .int .i64 0, .int .i64 0], .int .i64 33]) (by simp [results, Try.results9, go_sem]) rfl ?_
    exact ⟨rfl, (Fr.refl _ _).alloc _⟩
end Go.Proofs.Ytegidffoonkpnaa
