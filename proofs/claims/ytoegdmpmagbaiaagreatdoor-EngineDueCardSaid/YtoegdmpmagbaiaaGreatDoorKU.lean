/- truth's nodes: some, until, release. -/
import Derived.Test.YtoegdmpmagbaiaaGreatDoorKS
namespace Go.Proofs.YtoegdmpmagbaiaaGreatDoor
open Go.RowKit Go.Lib Go.Sort

def ivB (v : Bool) : Value := .bool v
theorem rowb_at {w : World} {A : Option Addr} {c : Nat} {L : List Bool} {k : Nat} (h : Sl w 1 A L.length c (L.map ivB)) (hk : k < L.length) : ∃ b off, A = some ⟨b, off, none⟩ ∧ b < w.heap.size ∧ w.cell? ⟨b, off + k, none⟩ = some (.bool (bAt L k)) := by
  obtain ⟨b, off, u, hA, hb, hu, hc⟩ := h.at_ hk
  refine ⟨b, off, hA, hb, hc.trans ?_⟩
  rw [← hu, List.getElem?_map, List.getElem?_eq_getElem hk]
  unfold bAt
  rw [List.getD_eq_getElem?_getD, List.getElem?_eq_getElem hk]
  rfl
set_option maxRecDepth 100000 in
set_option maxHeartbeats 4000000 in
theorem tr_some (w : World) (A : Option Addr) (c : Nat) (ps : List Pn) (h : WSl w A c ps) (hW : Rise (pts ps)) (i : Nat) (hi' : i < ps.length) (lo hi : Int) (X : Option Addr) (cx : Nat) (xs : List Bool) (hx : Sl w 1 X xs.length cx (xs.map ivB)) (hxl : xs.length = ps.length) (v : Bool) (hfew : ps.length ≤ 1000) :
    Calls Tryz.prog 96 #[.agg #[.int .i64 lo, .int .i64 hi], .slice A ps.length c, .int .i64 i, .slice X xs.length cx, .bool v] w fun e w' => e = .returned (.bool (someB (pts ps) lo hi i xs v)) ∧ Fr Nob w w' := by
  have HL := Lib.hid h
  have HX := Lib.hid hx
  have HW := Lib.hid hW
  have HXL := Lib.hid hxl
  rw [hxl]
  obtain ⟨r, hr⟩ : ∃ r, r = someB (pts ps) lo hi i xs v := ⟨_, rfl⟩
  rw [← hr]
  have HR := Lib.hid hr
  clear h hx hW hxl hr
  go_enter Tryz.func96, Tryz.ntmps96
  go_upto_region 1 with fail
  obtain ⟨W0, hW0⟩ : ∃ W0, w.alloc (.cells #[.int .i64 lo, .int .i64 hi] 25) = W0 := ⟨_, rfl⟩
  have HS0 := Lib.hid (show Blk W0 w.heap.size 25 #[.int .i64 lo, .int .i64 hi] by rw [← hW0]; exact Blk.new _ _ _)
  have HF0 := Lib.hid (show Fr Nob w W0 by rw [← hW0]; exact (Fr.refl _ _).alloc _)
  rw [hW0]
  clear hW0
  go_wp2_with fail
  go_loopw [11] (fun jv wr => ∃ j : Nat, i ≤ j ∧ j ≤ ps.length ∧ jv = .int .i64 j ∧ Hid (∀ k, i ≤ k → k < j → InR (pts ps) lo hi i k → bAt xs k ≠ v) ∧ Hid (Fr Nob W0 wr)) (fun jv _ => ps.length - (intOf jv).toNat)
  case atStart => exact ⟨i, Nat.le_refl _, by omega, rfl, Lib.hid (fun k h1 h2 => absurd h2 (by omega)), Lib.hid (Fr.refl _ _)⟩
  case round =>
    obtain ⟨j, hij, hjn, rfl, hno, hfr⟩ := hrel
    have HSr := Lib.hid (HS0.out.fr hfr.out (fun e => e))
    have sc := HSr.out.cell
    have sl := HSr.out.lt
    by_cases hlt : j < ps.length
    · skip
      have hI : (j : Int) < ps.length := by omega
      have hI3 : 0 ≤ (j : Int) := by omega
      have hJ : (i : Int) < ps.length := by omega
      have hJ3 : 0 ≤ (i : Int) := by omega
      obtain ⟨b, off, hA, hb, d0, _⟩ := (HL.out.pure (HF0.out.call hfr.out (fun _ h _ => h))).at_ hlt
      obtain ⟨b2, off2, hA2, _, e0, _⟩ := (HL.out.pure (HF0.out.call hfr.out (fun _ h _ => h))).at_ hi'
      rw [hA] at hA2
      obtain ⟨rfl, rfl⟩ : b = b2 ∧ off = off2 := by simpa using hA2
      clear hA2
      rw [← tAt_pts hlt] at d0
      rw [← tAt_pts hi'] at e0
      have htj := HW.out.hi j (by rw [pts_len]; exact hlt)
      have htj0 := HW.out.lo j (by rw [pts_len]; exact hlt)
      have hti0 := HW.out.lo i (by rw [pts_len]; exact hi')
      have hti := HW.out.hi i (by rw [pts_len]; exact hi')
      unfold last63 at htj hti
      obtain ⟨d, hd⟩ : ∃ d, d = tAt (pts ps) j - tAt (pts ps) i := ⟨_, rfl⟩
      have hw64 : wrap64 (tAt (pts ps) j - tAt (pts ps) i) = d := by unfold wrap64; omega
      have HD := Lib.hid hd
      obtain ⟨hb_, hhb⟩ : ∃ r, r = (decide (lo ≤ d) && decide (d ≤ hi)) := ⟨_, rfl⟩
      have HHAS := Lib.hid (fun W => sat_Has W lo hi d)
      rw [← hhb] at HHAS
      have HB := Lib.hid hhb
      have HIN := Lib.hid (show hb_ = true ↔ InR (pts ps) lo hi i j by rw [HB.out, Bool.and_eq_true, decide_eq_true_eq, decide_eq_true_eq, HD.out]; rfl)
      clear hd htj htj0 hti0 hti hhb
      obtain ⟨bx, ofx, hX, hbx, x0⟩ := rowb_at (HX.out.pure (HF0.out.call hfr.out (fun _ h _ => h))) (k := j) (by rw [HXL.out]; exact hlt)
      obtain ⟨u, hu⟩ : ∃ u, u = bAt xs j := ⟨_, rfl⟩
      rw [← hu] at x0
      have HU := Lib.hid hu
      clear hu
      subst hA hX
      by_cases hdh : d ≤ hi
      · have hdb : decide (d ≤ hi) = true := by simpa using hdh
        go_wp2_with fail
        go_quiet (fail)
        by_cases huv : u = v
        · have HUV := Lib.hid (HU.out.symm.trans huv)
          cases u
          all_goals
            subst huv
            go_wp2_with fail
            have k0 := cell_regrown (w := wr.drewN nq) (HSr.out.cell 0)
            have k1 := cell_regrown (w := wr.drewN nq) (HSr.out.cell 1)
            have k2 := cell_regrown (w := wr.drewN nq) d0
            have k3 := cell_regrown (w := wr.drewN nq) e0
            have k4 := cell_regrown (w := wr.drewN nq) x0
            have C1 := Lib.hid (wregr (W := wr.drewN nq) fun X _ => HHAS.out X)
            refine wp_region_quiet_below (by kernel_rfl) (by kernel_rfl) ?_
            repeat (go_big_quiet_step (first | exact C1.out _ _))
            refine wpQuiet_nil ?_
            intro _ hw'
            obtain ⟨⟨dq, osq⟩, hw''⟩ := hw'
            subst hw''
            cases hb_
            · go_wp2_with fail
              go_roundw
              case rel => exact ⟨j + 1, by omega, by omega, by go_num, Lib.hid (upto_next hno.out (fun e => by cases HIN.out.2 e)), Lib.hid (rg_fr (hfr.out.drewN _) _ _)⟩
              case measure => simp [intOf]; omega
            · go_wp2_with fail
              go_ret
              rw [HR.out, some_yes hij (by rw [pts_len]; exact hlt) (HIN.out.1 (by first | rfl | trivial)) HUV.out]
              exact ⟨rfl, HF0.out.call (rg_fr (hfr.out.drewN _) _ _) (fun _ h _ => h)⟩
        · have HUV := Lib.hid (fun e : bAt xs j = v => huv (HU.out.trans e))
          have hbe : (u == v) = false := by simpa using huv
          clear huv
          cases u <;> cases v
          all_goals first
            | (cases hbe; done)
            | (go_wp2_with fail
               go_quiet (fail)
               go_wp2_with fail
               go_roundw
               case rel => exact ⟨j + 1, by omega, by omega, by go_num, Lib.hid (upto_next hno.out (fun _ => HUV.out)), Lib.hid (hfr.out.drewN _)⟩
               case measure => simp [intOf]; omega)
      · have hdb : decide (d ≤ hi) = false := by simpa using hdh
        have HE := Lib.hid (some_no HW.out hno.out (.inr (by rw [← HD.out]; omega)))
        go_wp2_with fail
        go_quiet (fail)
        go_wp2_with fail
        go_ret
        rw [HR.out, HE.out]
        exact ⟨rfl, HF0.out.call (hfr.out.drewN _) (fun _ h _ => h)⟩
    · have hjj : decide (j < ps.length) = false := by simpa using hlt
      have HE := Lib.hid (some_no HW.out hno.out (.inl (by rw [pts_len]; omega)))
      go_wp2_with fail
      go_quiet (fail)
      go_wp2_with fail
      go_ret
      rw [HR.out, HE.out]
      exact ⟨rfl, HF0.out.call (hfr.out.drewN _) (fun _ h _ => h)⟩
set_option maxRecDepth 100000 in
set_option maxHeartbeats 8000000 in
theorem tr_until (w : World) (A : Option Addr) (c : Nat) (ps : List Pn) (h : WSl w A c ps) (hW : Rise (pts ps)) (i : Nat) (hi' : i < ps.length) (lo hi : Int) (X : Option Addr) (cx : Nat) (xs : List Bool) (hx : Sl w 1 X xs.length cx (xs.map ivB)) (hxl : xs.length = ps.length) (Y : Option Addr) (cy : Nat) (ys : List Bool) (hy : Sl w 1 Y ys.length cy (ys.map ivB)) (hyl : ys.length = ps.length) (hfew : ps.length ≤ 1000) :
    Calls Tryz.prog 99 #[.agg #[.int .i64 lo, .int .i64 hi], .slice A ps.length c, .int .i64 i, .slice X xs.length cx, .slice Y ys.length cy] w fun e w' => e = .returned (.bool (untB (pts ps) lo hi i xs ys)) ∧ Fr Nob w w' := by
  have HL := Lib.hid h
  have HX := Lib.hid hx
  have HY := Lib.hid hy
  have HW := Lib.hid hW
  have HXL := Lib.hid hxl
  have HYL := Lib.hid hyl
  rw [hxl, hyl]
  obtain ⟨r, hr⟩ : ∃ r, r = untB (pts ps) lo hi i xs ys := ⟨_, rfl⟩
  rw [← hr]
  have HR := Lib.hid hr
  clear h hx hW hxl hr hy hyl
  go_enter Tryz.func99, Tryz.ntmps99
  go_upto_region 1 with fail
  obtain ⟨W0, hW0⟩ : ∃ W0, w.alloc (.cells #[.int .i64 lo, .int .i64 hi] 25) = W0 := ⟨_, rfl⟩
  have HS0 := Lib.hid (show Blk W0 w.heap.size 25 #[.int .i64 lo, .int .i64 hi] by rw [← hW0]; exact Blk.new _ _ _)
  have HF0 := Lib.hid (show Fr Nob w W0 by rw [← hW0]; exact (Fr.refl _ _).alloc _)
  rw [hW0]
  clear hW0
  go_wp2_with fail
  go_loopw [11] (fun jv wr => ∃ j : Nat, i ≤ j ∧ j ≤ ps.length ∧ jv = .int .i64 j ∧ Hid (∀ k, i ≤ k → k < j → bAt xs k = true) ∧ Hid (∀ k, i ≤ k → k < j → InR (pts ps) lo hi i k → bAt ys k = false) ∧ Hid (Fr Nob W0 wr)) (fun jv _ => ps.length - (intOf jv).toNat)
  case atStart => exact ⟨i, Nat.le_refl _, by omega, rfl, Lib.hid (fun k h1 h2 => absurd h2 (by omega)), Lib.hid (fun k h1 h2 => absurd h2 (by omega)), Lib.hid (Fr.refl _ _)⟩
  case round =>
    obtain ⟨j, hij, hjn, rfl, hone, hno, hfr⟩ := hrel
    have HSr := Lib.hid (HS0.out.fr hfr.out (fun e => e))
    have sc := HSr.out.cell
    have sl := HSr.out.lt
    by_cases hlt : j < ps.length
    · skip
      have hI : (j : Int) < ps.length := by omega
      have hI3 : 0 ≤ (j : Int) := by omega
      have hJ : (i : Int) < ps.length := by omega
      have hJ3 : 0 ≤ (i : Int) := by omega
      obtain ⟨b, off, hA, hb, d0, _⟩ := (HL.out.pure (HF0.out.call hfr.out (fun _ h _ => h))).at_ hlt
      obtain ⟨b2, off2, hA2, _, e0, _⟩ := (HL.out.pure (HF0.out.call hfr.out (fun _ h _ => h))).at_ hi'
      rw [hA] at hA2
      obtain ⟨rfl, rfl⟩ : b = b2 ∧ off = off2 := by simpa using hA2
      clear hA2
      rw [← tAt_pts hlt] at d0
      rw [← tAt_pts hi'] at e0
      have htj := HW.out.hi j (by rw [pts_len]; exact hlt)
      have htj0 := HW.out.lo j (by rw [pts_len]; exact hlt)
      have hti0 := HW.out.lo i (by rw [pts_len]; exact hi')
      have hti := HW.out.hi i (by rw [pts_len]; exact hi')
      unfold last63 at htj hti
      obtain ⟨d, hd⟩ : ∃ d, d = tAt (pts ps) j - tAt (pts ps) i := ⟨_, rfl⟩
      have hw64 : wrap64 (tAt (pts ps) j - tAt (pts ps) i) = d := by unfold wrap64; omega
      have HD := Lib.hid hd
      obtain ⟨hb_, hhb⟩ : ∃ r, r = (decide (lo ≤ d) && decide (d ≤ hi)) := ⟨_, rfl⟩
      have HHAS := Lib.hid (fun W => sat_Has W lo hi d)
      rw [← hhb] at HHAS
      have HB := Lib.hid hhb
      have HIN := Lib.hid (show hb_ = true ↔ InR (pts ps) lo hi i j by rw [HB.out, Bool.and_eq_true, decide_eq_true_eq, decide_eq_true_eq, HD.out]; rfl)
      clear hd htj htj0 hti0 hti hhb
      obtain ⟨bx, ofx, hX, hbx, x0⟩ := rowb_at (HX.out.pure (HF0.out.call hfr.out (fun _ h _ => h))) (k := j) (by rw [HXL.out]; exact hlt)
      obtain ⟨b_y, ofy, hY, hby, y0⟩ := rowb_at (HY.out.pure (HF0.out.call hfr.out (fun _ h _ => h))) (k := j) (by rw [HYL.out]; exact hlt)
      obtain ⟨v, hv⟩ : ∃ v, v = bAt xs j := ⟨_, rfl⟩
      obtain ⟨u, hu⟩ : ∃ u, u = bAt ys j := ⟨_, rfl⟩
      rw [← hv] at x0
      rw [← hu] at y0
      have HU := Lib.hid hu
      have HV := Lib.hid hv
      clear hu hv
      subst hA hX hY
      by_cases hdh : d ≤ hi
      · have hdb : decide (d ≤ hi) = true := by simpa using hdh
        go_wp2_with fail
        go_quiet (fail)
        cases u
        all_goals
          cases v
        · skip
          go_wp2_with fail
          go_quiet (fail)
          go_wp2_with fail
          go_ret
          rw [HR.out, unt_stop (upto_next hno.out (fun _ => HU.out.symm)) hij HV.out.symm]
          exact ⟨rfl, HF0.out.call (hfr.out.drewN _) (fun _ h _ => h)⟩
        · skip
          go_wp2_with fail
          go_quiet (fail)
          go_wp2_with fail
          go_roundw
          case rel => exact ⟨j + 1, by omega, by omega, by go_num, Lib.hid (upto_next hone.out HV.out.symm), Lib.hid (upto_next hno.out (fun _ => HU.out.symm)), Lib.hid (hfr.out.drewN _)⟩
          case measure => simp [intOf]; omega
        · skip
          go_wp2_with fail
          have k0 := cell_regrown (w := wr.drewN nq) (HSr.out.cell 0)
          have k1 := cell_regrown (w := wr.drewN nq) (HSr.out.cell 1)
          have k2 := cell_regrown (w := wr.drewN nq) d0
          have k3 := cell_regrown (w := wr.drewN nq) e0
          have k4 := cell_regrown (w := wr.drewN nq) x0
          have k5 := cell_regrown (w := wr.drewN nq) y0
          have C1 := Lib.hid (wregr (W := wr.drewN nq) fun X _ => HHAS.out X)
          refine wp_region_quiet_below (by kernel_rfl) (by kernel_rfl) ?_
          repeat (go_big_quiet_step (first | exact C1.out _ _))
          refine wpQuiet_nil ?_
          intro _ hw'
          obtain ⟨⟨dq, osq⟩, hw''⟩ := hw'
          subst hw''
          cases hb_
          · go_wp2_with fail
            go_ret
            rw [HR.out, unt_stop (upto_next hno.out (fun e => by cases HIN.out.2 e)) hij HV.out.symm]
            exact ⟨rfl, HF0.out.call (rg_fr (hfr.out.drewN _) _ _) (fun _ h _ => h)⟩
          · go_wp2_with fail
            go_ret
            rw [HR.out, unt_yes hij (by rw [pts_len]; exact hlt) (HIN.out.1 (by first | rfl | trivial)) HU.out.symm hone.out]
            exact ⟨rfl, HF0.out.call (rg_fr (hfr.out.drewN _) _ _) (fun _ h _ => h)⟩
        · skip
          go_wp2_with fail
          have k0 := cell_regrown (w := wr.drewN nq) (HSr.out.cell 0)
          have k1 := cell_regrown (w := wr.drewN nq) (HSr.out.cell 1)
          have k2 := cell_regrown (w := wr.drewN nq) d0
          have k3 := cell_regrown (w := wr.drewN nq) e0
          have k4 := cell_regrown (w := wr.drewN nq) x0
          have k5 := cell_regrown (w := wr.drewN nq) y0
          have C1 := Lib.hid (wregr (W := wr.drewN nq) fun X _ => HHAS.out X)
          refine wp_region_quiet_below (by kernel_rfl) (by kernel_rfl) ?_
          repeat (go_big_quiet_step (first | exact C1.out _ _))
          refine wpQuiet_nil ?_
          intro _ hw'
          obtain ⟨⟨dq, osq⟩, hw''⟩ := hw'
          subst hw''
          cases hb_
          · go_wp2_with fail
            go_roundw
            case rel => exact ⟨j + 1, by omega, by omega, by go_num, Lib.hid (upto_next hone.out HV.out.symm), Lib.hid (upto_next hno.out (fun e => by cases HIN.out.2 e)), Lib.hid (rg_fr (hfr.out.drewN _) _ _)⟩
            case measure => simp [intOf]; omega
          · go_wp2_with fail
            go_ret
            rw [HR.out, unt_yes hij (by rw [pts_len]; exact hlt) (HIN.out.1 (by first | rfl | trivial)) HU.out.symm hone.out]
            exact ⟨rfl, HF0.out.call (rg_fr (hfr.out.drewN _) _ _) (fun _ h _ => h)⟩
      · have hdb : decide (d ≤ hi) = false := by simpa using hdh
        have HE := Lib.hid (unt_no (x := xs) HW.out hno.out (.inr (by rw [← HD.out]; omega)))
        go_wp2_with fail
        go_quiet (fail)
        go_wp2_with fail
        go_ret
        rw [HR.out, HE.out]
        exact ⟨rfl, HF0.out.call (hfr.out.drewN _) (fun _ h _ => h)⟩
    · have hjj : decide (j < ps.length) = false := by simpa using hlt
      have HE := Lib.hid (unt_no (x := xs) HW.out hno.out (.inl (by rw [pts_len]; omega)))
      go_wp2_with fail
      go_quiet (fail)
      go_wp2_with fail
      go_ret
      rw [HR.out, HE.out]
      exact ⟨rfl, HF0.out.call (hfr.out.drewN _) (fun _ h _ => h)⟩
set_option maxRecDepth 100000 in
set_option maxHeartbeats 8000000 in
theorem tr_release (w : World) (A : Option Addr) (c : Nat) (ps : List Pn) (h : WSl w A c ps) (hW : Rise (pts ps)) (i : Nat) (hi' : i < ps.length) (lo hi : Int) (X : Option Addr) (cx : Nat) (xs : List Bool) (hx : Sl w 1 X xs.length cx (xs.map ivB)) (hxl : xs.length = ps.length) (Y : Option Addr) (cy : Nat) (ys : List Bool) (hy : Sl w 1 Y ys.length cy (ys.map ivB)) (hyl : ys.length = ps.length) (hfew : ps.length ≤ 1000) :
    Calls Tryz.prog 101 #[.agg #[.int .i64 lo, .int .i64 hi], .slice A ps.length c, .int .i64 i, .slice X xs.length cx, .slice Y ys.length cy] w fun e w' => e = .returned (.bool (relB (pts ps) lo hi i xs ys)) ∧ Fr Nob w w' := by
  have HL := Lib.hid h
  have HX := Lib.hid hx
  have HY := Lib.hid hy
  have HW := Lib.hid hW
  have HXL := Lib.hid hxl
  have HYL := Lib.hid hyl
  rw [hxl, hyl]
  obtain ⟨r, hr⟩ : ∃ r, r = relB (pts ps) lo hi i xs ys := ⟨_, rfl⟩
  rw [← hr]
  have HR := Lib.hid hr
  clear h hx hW hxl hr hy hyl
  go_enter Tryz.func101, Tryz.ntmps101
  go_upto_region 1 with fail
  obtain ⟨W0, hW0⟩ : ∃ W0, w.alloc (.cells #[.int .i64 lo, .int .i64 hi] 25) = W0 := ⟨_, rfl⟩
  have HS0 := Lib.hid (show Blk W0 w.heap.size 25 #[.int .i64 lo, .int .i64 hi] by rw [← hW0]; exact Blk.new _ _ _)
  have HF0 := Lib.hid (show Fr Nob w W0 by rw [← hW0]; exact (Fr.refl _ _).alloc _)
  rw [hW0]
  clear hW0
  go_wp2_with fail
  go_loopw [11] (fun jv wr => ∃ j : Nat, i ≤ j ∧ j ≤ ps.length ∧ jv = .int .i64 j ∧ Hid (∀ k, i ≤ k → k < j → bAt xs k = false) ∧ Hid (∀ k, i ≤ k → k < j → InR (pts ps) lo hi i k → bAt ys k = true) ∧ Hid (Fr Nob W0 wr)) (fun jv _ => ps.length - (intOf jv).toNat)
  case atStart => exact ⟨i, Nat.le_refl _, by omega, rfl, Lib.hid (fun k h1 h2 => absurd h2 (by omega)), Lib.hid (fun k h1 h2 => absurd h2 (by omega)), Lib.hid (Fr.refl _ _)⟩
  case round =>
    obtain ⟨j, hij, hjn, rfl, hone, hno, hfr⟩ := hrel
    have HSr := Lib.hid (HS0.out.fr hfr.out (fun e => e))
    have sc := HSr.out.cell
    have sl := HSr.out.lt
    by_cases hlt : j < ps.length
    · skip
      have hI : (j : Int) < ps.length := by omega
      have hI3 : 0 ≤ (j : Int) := by omega
      have hJ : (i : Int) < ps.length := by omega
      have hJ3 : 0 ≤ (i : Int) := by omega
      obtain ⟨b, off, hA, hb, d0, _⟩ := (HL.out.pure (HF0.out.call hfr.out (fun _ h _ => h))).at_ hlt
      obtain ⟨b2, off2, hA2, _, e0, _⟩ := (HL.out.pure (HF0.out.call hfr.out (fun _ h _ => h))).at_ hi'
      rw [hA] at hA2
      obtain ⟨rfl, rfl⟩ : b = b2 ∧ off = off2 := by simpa using hA2
      clear hA2
      rw [← tAt_pts hlt] at d0
      rw [← tAt_pts hi'] at e0
      have htj := HW.out.hi j (by rw [pts_len]; exact hlt)
      have htj0 := HW.out.lo j (by rw [pts_len]; exact hlt)
      have hti0 := HW.out.lo i (by rw [pts_len]; exact hi')
      have hti := HW.out.hi i (by rw [pts_len]; exact hi')
      unfold last63 at htj hti
      obtain ⟨d, hd⟩ : ∃ d, d = tAt (pts ps) j - tAt (pts ps) i := ⟨_, rfl⟩
      have hw64 : wrap64 (tAt (pts ps) j - tAt (pts ps) i) = d := by unfold wrap64; omega
      have HD := Lib.hid hd
      obtain ⟨hb_, hhb⟩ : ∃ r, r = (decide (lo ≤ d) && decide (d ≤ hi)) := ⟨_, rfl⟩
      have HHAS := Lib.hid (fun W => sat_Has W lo hi d)
      rw [← hhb] at HHAS
      have HB := Lib.hid hhb
      have HIN := Lib.hid (show hb_ = true ↔ InR (pts ps) lo hi i j by rw [HB.out, Bool.and_eq_true, decide_eq_true_eq, decide_eq_true_eq, HD.out]; rfl)
      clear hd htj htj0 hti0 hti hhb
      obtain ⟨bx, ofx, hX, hbx, x0⟩ := rowb_at (HX.out.pure (HF0.out.call hfr.out (fun _ h _ => h))) (k := j) (by rw [HXL.out]; exact hlt)
      obtain ⟨b_y, ofy, hY, hby, y0⟩ := rowb_at (HY.out.pure (HF0.out.call hfr.out (fun _ h _ => h))) (k := j) (by rw [HYL.out]; exact hlt)
      obtain ⟨v, hv⟩ : ∃ v, v = bAt xs j := ⟨_, rfl⟩
      obtain ⟨u, hu⟩ : ∃ u, u = bAt ys j := ⟨_, rfl⟩
      rw [← hv] at x0
      rw [← hu] at y0
      have HU := Lib.hid hu
      have HV := Lib.hid hv
      clear hu hv
      subst hA hX hY
      by_cases hdh : d ≤ hi
      · have hdb : decide (d ≤ hi) = true := by simpa using hdh
        go_wp2_with fail
        go_quiet (fail)
        cases u
        all_goals
          cases v
        · skip
          go_wp2_with fail
          have k0 := cell_regrown (w := wr.drewN nq) (HSr.out.cell 0)
          have k1 := cell_regrown (w := wr.drewN nq) (HSr.out.cell 1)
          have k2 := cell_regrown (w := wr.drewN nq) d0
          have k3 := cell_regrown (w := wr.drewN nq) e0
          have k4 := cell_regrown (w := wr.drewN nq) x0
          have k5 := cell_regrown (w := wr.drewN nq) y0
          have C1 := Lib.hid (wregr (W := wr.drewN nq) fun X _ => HHAS.out X)
          refine wp_region_quiet_below (by kernel_rfl) (by kernel_rfl) ?_
          repeat (go_big_quiet_step (first | exact C1.out _ _))
          refine wpQuiet_nil ?_
          intro _ hw'
          obtain ⟨⟨dq, osq⟩, hw''⟩ := hw'
          subst hw''
          cases hb_
          · go_wp2_with fail
            go_roundw
            case rel => exact ⟨j + 1, by omega, by omega, by go_num, Lib.hid (upto_next hone.out HV.out.symm), Lib.hid (upto_next hno.out (fun e => by cases HIN.out.2 e)), Lib.hid (rg_fr (hfr.out.drewN _) _ _)⟩
            case measure => simp [intOf]; omega
          · go_wp2_with fail
            go_ret
            rw [HR.out, rel_no hij (by rw [pts_len]; exact hlt) (HIN.out.1 (by first | rfl | trivial)) HU.out.symm hone.out]
            exact ⟨rfl, HF0.out.call (rg_fr (hfr.out.drewN _) _ _) (fun _ h _ => h)⟩
        · skip
          go_wp2_with fail
          have k0 := cell_regrown (w := wr.drewN nq) (HSr.out.cell 0)
          have k1 := cell_regrown (w := wr.drewN nq) (HSr.out.cell 1)
          have k2 := cell_regrown (w := wr.drewN nq) d0
          have k3 := cell_regrown (w := wr.drewN nq) e0
          have k4 := cell_regrown (w := wr.drewN nq) x0
          have k5 := cell_regrown (w := wr.drewN nq) y0
          have C1 := Lib.hid (wregr (W := wr.drewN nq) fun X _ => HHAS.out X)
          refine wp_region_quiet_below (by kernel_rfl) (by kernel_rfl) ?_
          repeat (go_big_quiet_step (first | exact C1.out _ _))
          refine wpQuiet_nil ?_
          intro _ hw'
          obtain ⟨⟨dq, osq⟩, hw''⟩ := hw'
          subst hw''
          cases hb_
          · go_wp2_with fail
            go_ret
            rw [HR.out, rel_stop (upto_next hno.out (fun e => by cases HIN.out.2 e)) hij HV.out.symm]
            exact ⟨rfl, HF0.out.call (rg_fr (hfr.out.drewN _) _ _) (fun _ h _ => h)⟩
          · go_wp2_with fail
            go_ret
            rw [HR.out, rel_no hij (by rw [pts_len]; exact hlt) (HIN.out.1 (by first | rfl | trivial)) HU.out.symm hone.out]
            exact ⟨rfl, HF0.out.call (rg_fr (hfr.out.drewN _) _ _) (fun _ h _ => h)⟩
        · skip
          go_wp2_with fail
          go_quiet (fail)
          go_wp2_with fail
          go_roundw
          case rel => exact ⟨j + 1, by omega, by omega, by go_num, Lib.hid (upto_next hone.out HV.out.symm), Lib.hid (upto_next hno.out (fun _ => HU.out.symm)), Lib.hid (hfr.out.drewN _)⟩
          case measure => simp [intOf]; omega
        · skip
          go_wp2_with fail
          go_quiet (fail)
          go_wp2_with fail
          go_ret
          rw [HR.out, rel_stop (upto_next hno.out (fun _ => HU.out.symm)) hij HV.out.symm]
          exact ⟨rfl, HF0.out.call (hfr.out.drewN _) (fun _ h _ => h)⟩
      · have hdb : decide (d ≤ hi) = false := by simpa using hdh
        have HE := Lib.hid (rel_end (x := xs) HW.out hno.out (.inr (by rw [← HD.out]; omega)))
        go_wp2_with fail
        go_quiet (fail)
        go_wp2_with fail
        go_ret
        rw [HR.out, HE.out]
        exact ⟨rfl, HF0.out.call (hfr.out.drewN _) (fun _ h _ => h)⟩
    · have hjj : decide (j < ps.length) = false := by simpa using hlt
      have HE := Lib.hid (rel_end (x := xs) HW.out hno.out (.inl (by rw [pts_len]; omega)))
      go_wp2_with fail
      go_quiet (fail)
      go_wp2_with fail
      go_ret
      rw [HR.out, HE.out]
      exact ⟨rfl, HF0.out.call (hfr.out.drewN _) (fun _ h _ => h)⟩
end Go.Proofs.YtoegdmpmagbaiaaGreatDoor

/- truth's rules: whether a node holds at a place, by its kids' rows. -/
namespace Go.Proofs.YtoegdmpmagbaiaaGreatDoor
open Go.RowKit Go.Lib Go.Sort
set_option linter.unusedVariables false

/-- What a rule holds: boxes of the node, the word, and the kids' rows. -/
structure RuB (w : World) (g : Nat) (A : Option Addr) (c : Nat) (ps : List Pn) (op : Int) (nm : ByteArray) (cm va lo hi : Int) (NA : Option Addr) (nn nc : Nat) (X : Option Addr) (lx cx : Nat) (xs : List Bool) (Y : Option Addr) (ly cy : Nat) (ys : List Bool) : Prop where
  bn : Blk w g 28 #[.int .i64 op, .string nm, .int .i64 cm, .int .i64 va, .int .i64 lo, .int .i64 hi, .slice NA nn nc]
  bw : Blk w (g + 1) 71 #[.slice A ps.length c]
  bx : Blk w (g + 1 + 1) 74 #[.slice X lx cx]
  by2 : Blk w (g + 1 + 1 + 1) 74 #[.slice Y ly cy]
  ws : WSl w A c ps
  sx : Sl w 1 X xs.length cx (xs.map ivB)
  sy : Sl w 1 Y ys.length cy (ys.map ivB)
  ex : lx = xs.length
  ey : ly = ys.length
section
variable {w w' : World} {g : Nat} {A : Option Addr} {c : Nat} {ps : List Pn} {op : Int} {nm : ByteArray} {cm va lo hi : Int} {NA : Option Addr} {nn nc : Nat} {X : Option Addr} {lx cx : Nat} {xs : List Bool} {Y : Option Addr} {ly cy : Nat} {ys : List Bool}
theorem RuB.fr (h : RuB w g A c ps op nm cm va lo hi NA nn nc X lx cx xs Y ly cy ys) (hf : Fr Nob w w') : RuB w' g A c ps op nm cm va lo hi NA nn nc X lx cx xs Y ly cy ys :=
  ⟨h.bn.fr hf (fun e => e), h.bw.fr hf (fun e => e), h.bx.fr hf (fun e => e), h.by2.fr hf (fun e => e), h.ws.pure hf, h.sx.pure hf, h.sy.pure hf, h.ex, h.ey⟩
end
theorem ru_true (w : World) (i : Nat) : Calls Tryz.prog 87 #[.int .i64 i] w fun e w' => e = .returned (.bool true) ∧ Fr Nob w w' := by
  go_enter Tryz.func87, Tryz.ntmps87
  go_wp2_with fail
  go_ret
  exact ⟨rfl, Fr.refl _ _⟩
theorem ru_false (w : World) (i : Nat) : Calls Tryz.prog 102 #[.int .i64 i] w fun e w' => e = .returned (.bool false) ∧ Fr Nob w w' := by
  go_enter Tryz.func102, Tryz.ntmps102
  go_wp2_with fail
  go_ret
  exact ⟨rfl, Fr.refl _ _⟩
set_option maxRecDepth 100000 in
set_option maxHeartbeats 2000000 in
theorem ru_atom
  (w : World) (g : Nat) (A : Option Addr) (c : Nat) (ps : List Pn) (op : Int) (nm : ByteArray) (cm va lo hi : Int) (NA : Option Addr) (nn nc : Nat) (X : Option Addr) (lx cx : Nat) (xs : List Bool) (Y : Option Addr) (ly cy : Nat) (ys : List Bool) (h : RuB w g A c ps op nm cm va lo hi NA nn nc X lx cx xs Y ly cy ys) (hW : Rise (pts ps)) (i : Nat) (hi' : i < ps.length) (hfew : ps.length ≤ 1000)
   : Calls Tryz.prog 88 #[.int .i64 i, .pointer (some ⟨g + 1, 0, none⟩), .pointer (some ⟨g, 0, none⟩)] w fun e w' => e = .returned (.bool (holdsB (pAt (pts ps) i) nm cm va)) ∧ Fr Nob w w' := by
  have HP := Lib.hid (h.ws.inn _ (List.getElem_mem hi'))
  obtain ⟨b, off, rfl, hb, d0, d1⟩ := h.ws.at_ hi'
  rw [pAt_pts hi']
  have HB := Lib.hid h
  have nc_ := h.bn.cell
  have nl := h.bn.lt
  have wc_ := h.bw.cell
  have wl := h.bw.lt
  have hI : (i : Int) < ps.length := by omega
  have hI3 : 0 ≤ (i : Int) := by omega
  generalize ps[i] = p at *
  obtain ⟨t, pA, pc, l⟩ := p
  dsimp only at d0 d1 HP ⊢
  have HH := Lib.hid (fun W (hf : Fr Nob w W) => lab_Holds W pA pc l nm cm va (HP.out.pure hf))
  generalize holdsB l nm cm va = r at *
  have k0 := cell_regrown (h.bn.cell 1)
  have k1 := cell_regrown (h.bn.cell 2)
  have k2 := cell_regrown (h.bn.cell 3)
  have k3 := cell_regrown (h.bw.cell 0)
  have k4 := cell_regrown d1
  have C1 := Lib.hid (wregr (W := w) fun X hf => HH.out X hf)
  clear h hW d0
  go_enter Tryz.func88, Tryz.ntmps88
  go_wp2_with fail
  refine wp_region_quiet_below (by kernel_rfl) (by kernel_rfl) ?_
  repeat (go_big_quiet_step (first | exact C1.out _ _))
  refine wpQuiet_nil ?_
  intro _ hw'
  obtain ⟨⟨dq, osq⟩, hw''⟩ := hw'
  subst hw''
  go_wp2_with fail
  go_ret
  exact ⟨rfl, rg_fr (Fr.refl _ _) _ _⟩
set_option maxHeartbeats 2000000 in
theorem ru_not
  (w : World) (g : Nat) (A : Option Addr) (c : Nat) (ps : List Pn) (op : Int) (nm : ByteArray) (cm va lo hi : Int) (NA : Option Addr) (nn nc : Nat) (X : Option Addr) (lx cx : Nat) (xs : List Bool) (Y : Option Addr) (ly cy : Nat) (ys : List Bool) (h : RuB w g A c ps op nm cm va lo hi NA nn nc X lx cx xs Y ly cy ys) (hW : Rise (pts ps)) (i : Nat) (hi' : i < ps.length) (hfew : ps.length ≤ 1000)
   (hxl : xs.length = ps.length) : Calls Tryz.prog 90 #[.int .i64 i, .pointer (some ⟨g + 1 + 1, 0, none⟩)] w fun e w' => e = .returned (.bool (!(bAt xs i))) ∧ Fr Nob w w' := by
  obtain ⟨bx, ofx, rfl, hbx, x0⟩ := rowb_at h.sx (k := i) (by omega)
  have xc := h.bx.cell
  have xl := h.bx.lt
  have hlx := h.ex
  rw [hxl] at hlx
  subst hlx
  have hI : (i : Int) < ps.length := by omega
  have hI3 : 0 ≤ (i : Int) := by omega
  clear h hW hxl
  cases hv : bAt xs i
  all_goals
    rw [hv] at x0
    go_enter Tryz.func90, Tryz.ntmps90
    go_wp2_with fail
    go_ret
    exact ⟨rfl, Fr.refl _ _⟩
set_option maxHeartbeats 4000000 in
theorem ru_and
  (w : World) (g : Nat) (A : Option Addr) (c : Nat) (ps : List Pn) (op : Int) (nm : ByteArray) (cm va lo hi : Int) (NA : Option Addr) (nn nc : Nat) (X : Option Addr) (lx cx : Nat) (xs : List Bool) (Y : Option Addr) (ly cy : Nat) (ys : List Bool) (h : RuB w g A c ps op nm cm va lo hi NA nn nc X lx cx xs Y ly cy ys) (hW : Rise (pts ps)) (i : Nat) (hi' : i < ps.length) (hfew : ps.length ≤ 1000)
   (hxl : xs.length = ps.length) (hyl : ys.length = ps.length) : Calls Tryz.prog 91 #[.int .i64 i, .pointer (some ⟨g + 1 + 1, 0, none⟩), .pointer (some ⟨g + 1 + 1 + 1, 0, none⟩)] w fun e w' => e = .returned (.bool (bAt xs i && bAt ys i)) ∧ Fr Nob w w' := by
  obtain ⟨bx, ofx, rfl, hbx, x0⟩ := rowb_at h.sx (k := i) (by omega)
  have xc := h.bx.cell
  have xl := h.bx.lt
  have hlx := h.ex
  rw [hxl] at hlx
  subst hlx
  have hI : (i : Int) < ps.length := by omega
  have hI3 : 0 ≤ (i : Int) := by omega
  obtain ⟨b_y, ofy, rfl, hby, y0⟩ := rowb_at h.sy (k := i) (by omega)
  have yc := h.by2.cell
  have yl := h.by2.lt
  have hly := h.ey
  rw [hyl] at hly
  subst hly
  clear h hW hxl hyl
  cases hv : bAt xs i <;> cases hu : bAt ys i
  all_goals
    rw [hv] at x0
    rw [hu] at y0
    go_enter Tryz.func91, Tryz.ntmps91
    go_wp2_with fail
    skip
    go_ret
    exact ⟨rfl, by first | exact Fr.refl _ _ | exact (Fr.refl _ _).drewN _⟩
set_option maxHeartbeats 4000000 in
theorem ru_or
  (w : World) (g : Nat) (A : Option Addr) (c : Nat) (ps : List Pn) (op : Int) (nm : ByteArray) (cm va lo hi : Int) (NA : Option Addr) (nn nc : Nat) (X : Option Addr) (lx cx : Nat) (xs : List Bool) (Y : Option Addr) (ly cy : Nat) (ys : List Bool) (h : RuB w g A c ps op nm cm va lo hi NA nn nc X lx cx xs Y ly cy ys) (hW : Rise (pts ps)) (i : Nat) (hi' : i < ps.length) (hfew : ps.length ≤ 1000)
   (hxl : xs.length = ps.length) (hyl : ys.length = ps.length) : Calls Tryz.prog 92 #[.int .i64 i, .pointer (some ⟨g + 1 + 1, 0, none⟩), .pointer (some ⟨g + 1 + 1 + 1, 0, none⟩)] w fun e w' => e = .returned (.bool ((bAt xs i).or (bAt ys i))) ∧ Fr Nob w w' := by
  obtain ⟨bx, ofx, rfl, hbx, x0⟩ := rowb_at h.sx (k := i) (by omega)
  have xc := h.bx.cell
  have xl := h.bx.lt
  have hlx := h.ex
  rw [hxl] at hlx
  subst hlx
  have hI : (i : Int) < ps.length := by omega
  have hI3 : 0 ≤ (i : Int) := by omega
  obtain ⟨b_y, ofy, rfl, hby, y0⟩ := rowb_at h.sy (k := i) (by omega)
  have yc := h.by2.cell
  have yl := h.by2.lt
  have hly := h.ey
  rw [hyl] at hly
  subst hly
  clear h hW hxl hyl
  cases hv : bAt xs i <;> cases hu : bAt ys i
  all_goals
    rw [hv] at x0
    rw [hu] at y0
    go_enter Tryz.func92, Tryz.ntmps92
    go_wp2_with fail
    skip
    go_ret
    exact ⟨rfl, by first | exact Fr.refl _ _ | exact (Fr.refl _ _).drewN _⟩
set_option maxHeartbeats 4000000 in
theorem ru_imp
  (w : World) (g : Nat) (A : Option Addr) (c : Nat) (ps : List Pn) (op : Int) (nm : ByteArray) (cm va lo hi : Int) (NA : Option Addr) (nn nc : Nat) (X : Option Addr) (lx cx : Nat) (xs : List Bool) (Y : Option Addr) (ly cy : Nat) (ys : List Bool) (h : RuB w g A c ps op nm cm va lo hi NA nn nc X lx cx xs Y ly cy ys) (hW : Rise (pts ps)) (i : Nat) (hi' : i < ps.length) (hfew : ps.length ≤ 1000)
   (hxl : xs.length = ps.length) (hyl : ys.length = ps.length) : Calls Tryz.prog 93 #[.int .i64 i, .pointer (some ⟨g + 1 + 1, 0, none⟩), .pointer (some ⟨g + 1 + 1 + 1, 0, none⟩)] w fun e w' => e = .returned (.bool ((!(bAt xs i)).or (bAt ys i))) ∧ Fr Nob w w' := by
  obtain ⟨bx, ofx, rfl, hbx, x0⟩ := rowb_at h.sx (k := i) (by omega)
  have xc := h.bx.cell
  have xl := h.bx.lt
  have hlx := h.ex
  rw [hxl] at hlx
  subst hlx
  have hI : (i : Int) < ps.length := by omega
  have hI3 : 0 ≤ (i : Int) := by omega
  obtain ⟨b_y, ofy, rfl, hby, y0⟩ := rowb_at h.sy (k := i) (by omega)
  have yc := h.by2.cell
  have yl := h.by2.lt
  have hly := h.ey
  rw [hyl] at hly
  subst hly
  clear h hW hxl hyl
  cases hv : bAt xs i <;> cases hu : bAt ys i
  all_goals
    rw [hv] at x0
    rw [hu] at y0
    go_enter Tryz.func93, Tryz.ntmps93
    go_wp2_with fail
    skip
    go_ret
    exact ⟨rfl, by first | exact Fr.refl _ _ | exact (Fr.refl _ _).drewN _⟩
set_option maxHeartbeats 4000000 in
theorem ru_iff
  (w : World) (g : Nat) (A : Option Addr) (c : Nat) (ps : List Pn) (op : Int) (nm : ByteArray) (cm va lo hi : Int) (NA : Option Addr) (nn nc : Nat) (X : Option Addr) (lx cx : Nat) (xs : List Bool) (Y : Option Addr) (ly cy : Nat) (ys : List Bool) (h : RuB w g A c ps op nm cm va lo hi NA nn nc X lx cx xs Y ly cy ys) (hW : Rise (pts ps)) (i : Nat) (hi' : i < ps.length) (hfew : ps.length ≤ 1000)
   (hxl : xs.length = ps.length) (hyl : ys.length = ps.length) : Calls Tryz.prog 94 #[.int .i64 i, .pointer (some ⟨g + 1 + 1, 0, none⟩), .pointer (some ⟨g + 1 + 1 + 1, 0, none⟩)] w fun e w' => e = .returned (.bool (bAt xs i == bAt ys i)) ∧ Fr Nob w w' := by
  obtain ⟨bx, ofx, rfl, hbx, x0⟩ := rowb_at h.sx (k := i) (by omega)
  have xc := h.bx.cell
  have xl := h.bx.lt
  have hlx := h.ex
  rw [hxl] at hlx
  subst hlx
  have hI : (i : Int) < ps.length := by omega
  have hI3 : 0 ≤ (i : Int) := by omega
  obtain ⟨b_y, ofy, rfl, hby, y0⟩ := rowb_at h.sy (k := i) (by omega)
  have yc := h.by2.cell
  have yl := h.by2.lt
  have hly := h.ey
  rw [hyl] at hly
  subst hly
  clear h hW hxl hyl
  cases hv : bAt xs i <;> cases hu : bAt ys i
  all_goals
    rw [hv] at x0
    rw [hu] at y0
    go_enter Tryz.func94, Tryz.ntmps94
    go_wp2_with fail
    (go_quiet (fail); go_wp2_with fail)
    go_ret
    exact ⟨rfl, by first | exact Fr.refl _ _ | exact (Fr.refl _ _).drewN _⟩
set_option maxHeartbeats 4000000 in
theorem ru_ev
  (w : World) (g : Nat) (A : Option Addr) (c : Nat) (ps : List Pn) (op : Int) (nm : ByteArray) (cm va lo hi : Int) (NA : Option Addr) (nn nc : Nat) (X : Option Addr) (lx cx : Nat) (xs : List Bool) (Y : Option Addr) (ly cy : Nat) (ys : List Bool) (h : RuB w g A c ps op nm cm va lo hi NA nn nc X lx cx xs Y ly cy ys) (hW : Rise (pts ps)) (i : Nat) (hi' : i < ps.length) (hfew : ps.length ≤ 1000)
   (hxl : xs.length = ps.length) : Calls Tryz.prog 95 #[.int .i64 i, .pointer (some ⟨g, 0, none⟩), .pointer (some ⟨g + 1, 0, none⟩), .pointer (some ⟨g + 1 + 1, 0, none⟩)] w fun e w' => e = .returned (.bool (someB (pts ps) lo hi i xs true)) ∧ Fr Nob w w' := by
  have hS := tr_some w A c ps h.ws hW i hi' lo hi X cx xs h.sx hxl true hfew
  rw [hxl] at hS
  have HS := Lib.hid hS
  have xc := h.bx.cell
  have xl := h.bx.lt
  have hlx := h.ex
  rw [hxl] at hlx
  subst hlx
  have nc_ := h.bn.cell
  have nl := h.bn.lt
  have wc_ := h.bw.cell
  have wl := h.bw.lt
  generalize someB (pts ps) lo hi i xs true = r at *
  clear h hW hxl hS
  go_enter Tryz.func95, Tryz.ntmps95
  go_wp2_with (first | ((go_at_call 96); (with_reducible refine (HS.out).mono ?_); rintro e w1 ⟨rfl, hf1⟩) | fail)
  go_ret
  exact ⟨rfl, hf1⟩
set_option maxHeartbeats 4000000 in
theorem ru_al
  (w : World) (g : Nat) (A : Option Addr) (c : Nat) (ps : List Pn) (op : Int) (nm : ByteArray) (cm va lo hi : Int) (NA : Option Addr) (nn nc : Nat) (X : Option Addr) (lx cx : Nat) (xs : List Bool) (Y : Option Addr) (ly cy : Nat) (ys : List Bool) (h : RuB w g A c ps op nm cm va lo hi NA nn nc X lx cx xs Y ly cy ys) (hW : Rise (pts ps)) (i : Nat) (hi' : i < ps.length) (hfew : ps.length ≤ 1000)
   (hxl : xs.length = ps.length) : Calls Tryz.prog 97 #[.int .i64 i, .pointer (some ⟨g, 0, none⟩), .pointer (some ⟨g + 1, 0, none⟩), .pointer (some ⟨g + 1 + 1, 0, none⟩)] w fun e w' => e = .returned (.bool (!(someB (pts ps) lo hi i xs false))) ∧ Fr Nob w w' := by
  have hS := tr_some w A c ps h.ws hW i hi' lo hi X cx xs h.sx hxl false hfew
  rw [hxl] at hS
  have HS := Lib.hid hS
  have xc := h.bx.cell
  have xl := h.bx.lt
  have hlx := h.ex
  rw [hxl] at hlx
  subst hlx
  have nc_ := h.bn.cell
  have nl := h.bn.lt
  have wc_ := h.bw.cell
  have wl := h.bw.lt
  generalize someB (pts ps) lo hi i xs false = r at *
  clear h hW hxl hS
  go_enter Tryz.func97, Tryz.ntmps97
  go_wp2_with (first | ((go_at_call 96); (with_reducible refine (HS.out).mono ?_); rintro e w1 ⟨rfl, hf1⟩) | fail)
  go_ret
  exact ⟨rfl, hf1⟩
set_option maxHeartbeats 4000000 in
theorem ru_un
  (w : World) (g : Nat) (A : Option Addr) (c : Nat) (ps : List Pn) (op : Int) (nm : ByteArray) (cm va lo hi : Int) (NA : Option Addr) (nn nc : Nat) (X : Option Addr) (lx cx : Nat) (xs : List Bool) (Y : Option Addr) (ly cy : Nat) (ys : List Bool) (h : RuB w g A c ps op nm cm va lo hi NA nn nc X lx cx xs Y ly cy ys) (hW : Rise (pts ps)) (i : Nat) (hi' : i < ps.length) (hfew : ps.length ≤ 1000)
   (hxl : xs.length = ps.length) (hyl : ys.length = ps.length) : Calls Tryz.prog 98 #[.int .i64 i, .pointer (some ⟨g, 0, none⟩), .pointer (some ⟨g + 1, 0, none⟩), .pointer (some ⟨g + 1 + 1, 0, none⟩), .pointer (some ⟨g + 1 + 1 + 1, 0, none⟩)] w fun e w' => e = .returned (.bool (untB (pts ps) lo hi i xs ys)) ∧ Fr Nob w w' := by
  have hS := tr_until w A c ps h.ws hW i hi' lo hi X cx xs h.sx hxl Y cy ys h.sy hyl hfew
  rw [hxl, hyl] at hS
  have HS := Lib.hid hS
  have xc := h.bx.cell
  have xl := h.bx.lt
  have hlx := h.ex
  rw [hxl] at hlx
  subst hlx
  have yc := h.by2.cell
  have yl := h.by2.lt
  have hly := h.ey
  rw [hyl] at hly
  subst hly
  have nc_ := h.bn.cell
  have nl := h.bn.lt
  have wc_ := h.bw.cell
  have wl := h.bw.lt
  generalize untB (pts ps) lo hi i xs ys = r at *
  clear h hW hxl hyl hS
  go_enter Tryz.func98, Tryz.ntmps98
  go_wp2_with (first | ((go_at_call 99); (with_reducible refine (HS.out).mono ?_); rintro e w1 ⟨rfl, hf1⟩) | fail)
  go_ret
  exact ⟨rfl, hf1⟩
set_option maxHeartbeats 4000000 in
theorem ru_re
  (w : World) (g : Nat) (A : Option Addr) (c : Nat) (ps : List Pn) (op : Int) (nm : ByteArray) (cm va lo hi : Int) (NA : Option Addr) (nn nc : Nat) (X : Option Addr) (lx cx : Nat) (xs : List Bool) (Y : Option Addr) (ly cy : Nat) (ys : List Bool) (h : RuB w g A c ps op nm cm va lo hi NA nn nc X lx cx xs Y ly cy ys) (hW : Rise (pts ps)) (i : Nat) (hi' : i < ps.length) (hfew : ps.length ≤ 1000)
   (hxl : xs.length = ps.length) (hyl : ys.length = ps.length) : Calls Tryz.prog 100 #[.int .i64 i, .pointer (some ⟨g, 0, none⟩), .pointer (some ⟨g + 1, 0, none⟩), .pointer (some ⟨g + 1 + 1, 0, none⟩), .pointer (some ⟨g + 1 + 1 + 1, 0, none⟩)] w fun e w' => e = .returned (.bool (relB (pts ps) lo hi i xs ys)) ∧ Fr Nob w w' := by
  have hS := tr_release w A c ps h.ws hW i hi' lo hi X cx xs h.sx hxl Y cy ys h.sy hyl hfew
  rw [hxl, hyl] at hS
  have HS := Lib.hid hS
  have xc := h.bx.cell
  have xl := h.bx.lt
  have hlx := h.ex
  rw [hxl] at hlx
  subst hlx
  have yc := h.by2.cell
  have yl := h.by2.lt
  have hly := h.ey
  rw [hyl] at hly
  subst hly
  have nc_ := h.bn.cell
  have nl := h.bn.lt
  have wc_ := h.bw.cell
  have wl := h.bw.lt
  generalize relB (pts ps) lo hi i xs ys = r at *
  clear h hW hxl hyl hS
  go_enter Tryz.func100, Tryz.ntmps100
  go_wp2_with (first | ((go_at_call 101); (with_reducible refine (HS.out).mono ?_); rintro e w1 ⟨rfl, hf1⟩) | fail)
  go_ret
  exact ⟨rfl, hf1⟩
end Go.Proofs.YtoegdmpmagbaiaaGreatDoor

/- truth.rule. -/
namespace Go.Proofs.YtoegdmpmagbaiaaGreatDoor
open Go.RowKit Go.Lib

/-- A rule is returned: it tells of each place whether the node holds there. -/
def RuleR (w : World) (W : List Pt) (n : Nd) (len : Nat) (xs ys : List Bool) (e : Ending) (w' : World) : Prop := ∃ f caps, e = .returned (.func (.func f) #[] caps) ∧ Fr Nob w w' ∧ (∀ (args : Array Value) (X : World), (callFunc f args).run Tryz.prog X = .ok (.enter f args) X) ∧ ∀ X, Fr Nob w' X → ∀ i : Nat, i < len → Calls Tryz.prog f (#[.int .i64 i] ++ caps) X fun e X' => e = .returned (.bool (knT W n i xs ys)) ∧ Fr Nob X X'
set_option maxRecDepth 100000 in
set_option maxHeartbeats 8000000 in
theorem tr_rule (w : World) (A : Option Addr) (c : Nat) (ps : List Pn) (h : WSl w A c ps) (hW : Rise (pts ps)) (n : Nd) (NA : Option Addr) (nn nc : Nat)
    (X : Option Addr) (lx cx : Nat) (xs : List Bool) (hx : Sl w 1 X xs.length cx (xs.map ivB)) (Y : Option Addr) (ly cy : Nat) (ys : List Bool) (hy : Sl w 1 Y ys.length cy (ys.map ivB)) (hlx : lx = xs.length) (hly : ly = ys.length)
    (hop : 1 ≤ n.op ∧ n.op ≤ 12) (hxl : 4 ≤ n.op → xs.length = ps.length) (hyl : 4 ≤ n.op → n.op ≠ 4 → n.op ≠ 9 → n.op ≠ 10 → ys.length = ps.length) (hfew : ps.length ≤ 1000) :
    Calls Tryz.prog 55 #[fval n NA nn nc, .slice A ps.length c, .slice X lx cx, .slice Y ly cy] w (RuleR w (pts ps) n ps.length xs ys) := by
  obtain ⟨op, nm, cm, va, lo, hi⟩ := n
  dsimp only at hop hxl hyl
  unfold fval
  dsimp only
  have HWS := Lib.hid h
  have HX := Lib.hid hx
  have HY := Lib.hid hy
  have HW := Lib.hid hW
  have HLX := Lib.hid hlx
  have HLY := Lib.hid hly
  clear hlx hly
  have ho : op = 1 ∨ op = 2 ∨ op = 3 ∨ op = 4 ∨ op = 5 ∨ op = 6 ∨ op = 7 ∨ op = 8 ∨ op = 9 ∨ op = 10 ∨ op = 11 ∨ op = 12 := by omega
  clear hop
  rcases ho with rfl | rfl | rfl | rfl | rfl | rfl | rfl | rfl | rfl | rfl | rfl | rfl
  · have HK := Lib.hid (show ∀ i, knT (pts ps) ⟨1, nm, cm, va, lo, hi⟩ i xs ys = true from fun i => by simp [knT])
    have hxl := True.intro
    have hyl := True.intro
    have HXL := Lib.hid hxl
    have HYL := Lib.hid hyl
    clear hxl hyl
    clear h hx hy hW hxl hyl
    go_enter Tryz.func55, Tryz.ntmps55
    go_wp2_with fail
    go_ret
    have hf : Fr Nob w ((((w.alloc (.cells #[.int .i64 1, .string nm, .int .i64 cm, .int .i64 va, .int .i64 lo, .int .i64 hi, .slice NA nn nc] 28)).alloc (.cells #[.slice A ps.length c] 71)).alloc (.cells #[.slice X lx cx] 74)).alloc (.cells #[.slice Y ly cy] 74)) := ((((Fr.refl _ _).alloc _).alloc _).alloc _).alloc _
    refine ⟨87, #[], rfl, hf, fun _ _ => by go_simp, fun Z hZ i hi' => ?_⟩
    have hR : RuB Z w.heap.size A c ps 1 nm cm va lo hi NA nn nc X lx cx xs Y ly cy ys := RuB.fr ⟨(((Blk.new _ _ _).alloc _).alloc _).alloc _, ((Blk.new_eq (by simp)).alloc _).alloc _, (Blk.new_eq (by simp)).alloc _, Blk.new_eq (by simp), HWS.out.pure hf, HX.out.pure hf, HY.out.pure hf, HLX.out, HLY.out⟩ hZ
    rw [HK.out]
    exact ru_true Z i
  · have HK := Lib.hid (show ∀ i, knT (pts ps) ⟨2, nm, cm, va, lo, hi⟩ i xs ys = false from fun i => by simp [knT])
    have hxl := True.intro
    have hyl := True.intro
    have HXL := Lib.hid hxl
    have HYL := Lib.hid hyl
    clear hxl hyl
    clear h hx hy hW hxl hyl
    go_enter Tryz.func55, Tryz.ntmps55
    go_wp2_with fail
    go_ret
    have hf : Fr Nob w ((((w.alloc (.cells #[.int .i64 2, .string nm, .int .i64 cm, .int .i64 va, .int .i64 lo, .int .i64 hi, .slice NA nn nc] 28)).alloc (.cells #[.slice A ps.length c] 71)).alloc (.cells #[.slice X lx cx] 74)).alloc (.cells #[.slice Y ly cy] 74)) := ((((Fr.refl _ _).alloc _).alloc _).alloc _).alloc _
    refine ⟨102, #[], rfl, hf, fun _ _ => by go_simp, fun Z hZ i hi' => ?_⟩
    have hR : RuB Z w.heap.size A c ps 2 nm cm va lo hi NA nn nc X lx cx xs Y ly cy ys := RuB.fr ⟨(((Blk.new _ _ _).alloc _).alloc _).alloc _, ((Blk.new_eq (by simp)).alloc _).alloc _, (Blk.new_eq (by simp)).alloc _, Blk.new_eq (by simp), HWS.out.pure hf, HX.out.pure hf, HY.out.pure hf, HLX.out, HLY.out⟩ hZ
    rw [HK.out]
    exact ru_false Z i
  · have HK := Lib.hid (show ∀ i, knT (pts ps) ⟨3, nm, cm, va, lo, hi⟩ i xs ys = holdsB (pAt (pts ps) i) nm cm va from fun i => by simp [knT])
    have hxl := True.intro
    have hyl := True.intro
    have HXL := Lib.hid hxl
    have HYL := Lib.hid hyl
    clear hxl hyl
    clear h hx hy hW hxl hyl
    go_enter Tryz.func55, Tryz.ntmps55
    go_wp2_with fail
    go_ret
    have hf : Fr Nob w ((((w.alloc (.cells #[.int .i64 3, .string nm, .int .i64 cm, .int .i64 va, .int .i64 lo, .int .i64 hi, .slice NA nn nc] 28)).alloc (.cells #[.slice A ps.length c] 71)).alloc (.cells #[.slice X lx cx] 74)).alloc (.cells #[.slice Y ly cy] 74)) := ((((Fr.refl _ _).alloc _).alloc _).alloc _).alloc _
    refine ⟨88, #[.pointer (some ⟨w.heap.size + 1, 0, none⟩), .pointer (some ⟨w.heap.size, 0, none⟩)], rfl, hf, fun _ _ => by go_simp, fun Z hZ i hi' => ?_⟩
    have hR : RuB Z w.heap.size A c ps 3 nm cm va lo hi NA nn nc X lx cx xs Y ly cy ys := RuB.fr ⟨(((Blk.new _ _ _).alloc _).alloc _).alloc _, ((Blk.new_eq (by simp)).alloc _).alloc _, (Blk.new_eq (by simp)).alloc _, Blk.new_eq (by simp), HWS.out.pure hf, HX.out.pure hf, HY.out.pure hf, HLX.out, HLY.out⟩ hZ
    rw [HK.out]
    exact ru_atom Z w.heap.size A c ps 3 nm cm va lo hi NA nn nc X lx cx xs Y ly cy ys hR HW.out i hi' hfew
  · have HK := Lib.hid (show ∀ i, knT (pts ps) ⟨4, nm, cm, va, lo, hi⟩ i xs ys = !(bAt xs i) from fun i => by simp [knT])
    have hxl := (hxl (by decide))
    have hyl := True.intro
    have HXL := Lib.hid hxl
    have HYL := Lib.hid hyl
    clear hxl hyl
    clear h hx hy hW hxl hyl
    go_enter Tryz.func55, Tryz.ntmps55
    go_wp2_with fail
    go_ret
    have hf : Fr Nob w ((((w.alloc (.cells #[.int .i64 4, .string nm, .int .i64 cm, .int .i64 va, .int .i64 lo, .int .i64 hi, .slice NA nn nc] 28)).alloc (.cells #[.slice A ps.length c] 71)).alloc (.cells #[.slice X lx cx] 74)).alloc (.cells #[.slice Y ly cy] 74)) := ((((Fr.refl _ _).alloc _).alloc _).alloc _).alloc _
    refine ⟨90, #[.pointer (some ⟨w.heap.size + 1 + 1, 0, none⟩)], rfl, hf, fun _ _ => by go_simp, fun Z hZ i hi' => ?_⟩
    have hR : RuB Z w.heap.size A c ps 4 nm cm va lo hi NA nn nc X lx cx xs Y ly cy ys := RuB.fr ⟨(((Blk.new _ _ _).alloc _).alloc _).alloc _, ((Blk.new_eq (by simp)).alloc _).alloc _, (Blk.new_eq (by simp)).alloc _, Blk.new_eq (by simp), HWS.out.pure hf, HX.out.pure hf, HY.out.pure hf, HLX.out, HLY.out⟩ hZ
    rw [HK.out]
    exact ru_not Z w.heap.size A c ps 4 nm cm va lo hi NA nn nc X lx cx xs Y ly cy ys hR HW.out i hi' hfew HXL.out
  · have HK := Lib.hid (show ∀ i, knT (pts ps) ⟨5, nm, cm, va, lo, hi⟩ i xs ys = (bAt xs i && bAt ys i) from fun i => by simp [knT])
    have hxl := (hxl (by decide))
    have hyl := (hyl (by decide) (by decide) (by decide) (by decide))
    have HXL := Lib.hid hxl
    have HYL := Lib.hid hyl
    clear hxl hyl
    clear h hx hy hW hxl hyl
    go_enter Tryz.func55, Tryz.ntmps55
    go_wp2_with fail
    go_ret
    have hf : Fr Nob w ((((w.alloc (.cells #[.int .i64 5, .string nm, .int .i64 cm, .int .i64 va, .int .i64 lo, .int .i64 hi, .slice NA nn nc] 28)).alloc (.cells #[.slice A ps.length c] 71)).alloc (.cells #[.slice X lx cx] 74)).alloc (.cells #[.slice Y ly cy] 74)) := ((((Fr.refl _ _).alloc _).alloc _).alloc _).alloc _
    refine ⟨91, #[.pointer (some ⟨w.heap.size + 1 + 1, 0, none⟩), .pointer (some ⟨w.heap.size + 1 + 1 + 1, 0, none⟩)], rfl, hf, fun _ _ => by go_simp, fun Z hZ i hi' => ?_⟩
    have hR : RuB Z w.heap.size A c ps 5 nm cm va lo hi NA nn nc X lx cx xs Y ly cy ys := RuB.fr ⟨(((Blk.new _ _ _).alloc _).alloc _).alloc _, ((Blk.new_eq (by simp)).alloc _).alloc _, (Blk.new_eq (by simp)).alloc _, Blk.new_eq (by simp), HWS.out.pure hf, HX.out.pure hf, HY.out.pure hf, HLX.out, HLY.out⟩ hZ
    rw [HK.out]
    exact ru_and Z w.heap.size A c ps 5 nm cm va lo hi NA nn nc X lx cx xs Y ly cy ys hR HW.out i hi' hfew HXL.out HYL.out
  · have HK := Lib.hid (show ∀ i, knT (pts ps) ⟨6, nm, cm, va, lo, hi⟩ i xs ys = (bAt xs i).or (bAt ys i) from fun i => by simp [knT])
    have hxl := (hxl (by decide))
    have hyl := (hyl (by decide) (by decide) (by decide) (by decide))
    have HXL := Lib.hid hxl
    have HYL := Lib.hid hyl
    clear hxl hyl
    clear h hx hy hW hxl hyl
    go_enter Tryz.func55, Tryz.ntmps55
    go_wp2_with fail
    go_ret
    have hf : Fr Nob w ((((w.alloc (.cells #[.int .i64 6, .string nm, .int .i64 cm, .int .i64 va, .int .i64 lo, .int .i64 hi, .slice NA nn nc] 28)).alloc (.cells #[.slice A ps.length c] 71)).alloc (.cells #[.slice X lx cx] 74)).alloc (.cells #[.slice Y ly cy] 74)) := ((((Fr.refl _ _).alloc _).alloc _).alloc _).alloc _
    refine ⟨92, #[.pointer (some ⟨w.heap.size + 1 + 1, 0, none⟩), .pointer (some ⟨w.heap.size + 1 + 1 + 1, 0, none⟩)], rfl, hf, fun _ _ => by go_simp, fun Z hZ i hi' => ?_⟩
    have hR : RuB Z w.heap.size A c ps 6 nm cm va lo hi NA nn nc X lx cx xs Y ly cy ys := RuB.fr ⟨(((Blk.new _ _ _).alloc _).alloc _).alloc _, ((Blk.new_eq (by simp)).alloc _).alloc _, (Blk.new_eq (by simp)).alloc _, Blk.new_eq (by simp), HWS.out.pure hf, HX.out.pure hf, HY.out.pure hf, HLX.out, HLY.out⟩ hZ
    rw [HK.out]
    exact ru_or Z w.heap.size A c ps 6 nm cm va lo hi NA nn nc X lx cx xs Y ly cy ys hR HW.out i hi' hfew HXL.out HYL.out
  · have HK := Lib.hid (show ∀ i, knT (pts ps) ⟨7, nm, cm, va, lo, hi⟩ i xs ys = (!(bAt xs i)).or (bAt ys i) from fun i => by simp [knT])
    have hxl := (hxl (by decide))
    have hyl := (hyl (by decide) (by decide) (by decide) (by decide))
    have HXL := Lib.hid hxl
    have HYL := Lib.hid hyl
    clear hxl hyl
    clear h hx hy hW hxl hyl
    go_enter Tryz.func55, Tryz.ntmps55
    go_wp2_with fail
    go_ret
    have hf : Fr Nob w ((((w.alloc (.cells #[.int .i64 7, .string nm, .int .i64 cm, .int .i64 va, .int .i64 lo, .int .i64 hi, .slice NA nn nc] 28)).alloc (.cells #[.slice A ps.length c] 71)).alloc (.cells #[.slice X lx cx] 74)).alloc (.cells #[.slice Y ly cy] 74)) := ((((Fr.refl _ _).alloc _).alloc _).alloc _).alloc _
    refine ⟨93, #[.pointer (some ⟨w.heap.size + 1 + 1, 0, none⟩), .pointer (some ⟨w.heap.size + 1 + 1 + 1, 0, none⟩)], rfl, hf, fun _ _ => by go_simp, fun Z hZ i hi' => ?_⟩
    have hR : RuB Z w.heap.size A c ps 7 nm cm va lo hi NA nn nc X lx cx xs Y ly cy ys := RuB.fr ⟨(((Blk.new _ _ _).alloc _).alloc _).alloc _, ((Blk.new_eq (by simp)).alloc _).alloc _, (Blk.new_eq (by simp)).alloc _, Blk.new_eq (by simp), HWS.out.pure hf, HX.out.pure hf, HY.out.pure hf, HLX.out, HLY.out⟩ hZ
    rw [HK.out]
    exact ru_imp Z w.heap.size A c ps 7 nm cm va lo hi NA nn nc X lx cx xs Y ly cy ys hR HW.out i hi' hfew HXL.out HYL.out
  · have HK := Lib.hid (show ∀ i, knT (pts ps) ⟨8, nm, cm, va, lo, hi⟩ i xs ys = (bAt xs i == bAt ys i) from fun i => by simp [knT])
    have hxl := (hxl (by decide))
    have hyl := (hyl (by decide) (by decide) (by decide) (by decide))
    have HXL := Lib.hid hxl
    have HYL := Lib.hid hyl
    clear hxl hyl
    clear h hx hy hW hxl hyl
    go_enter Tryz.func55, Tryz.ntmps55
    go_wp2_with fail
    go_ret
    have hf : Fr Nob w ((((w.alloc (.cells #[.int .i64 8, .string nm, .int .i64 cm, .int .i64 va, .int .i64 lo, .int .i64 hi, .slice NA nn nc] 28)).alloc (.cells #[.slice A ps.length c] 71)).alloc (.cells #[.slice X lx cx] 74)).alloc (.cells #[.slice Y ly cy] 74)) := ((((Fr.refl _ _).alloc _).alloc _).alloc _).alloc _
    refine ⟨94, #[.pointer (some ⟨w.heap.size + 1 + 1, 0, none⟩), .pointer (some ⟨w.heap.size + 1 + 1 + 1, 0, none⟩)], rfl, hf, fun _ _ => by go_simp, fun Z hZ i hi' => ?_⟩
    have hR : RuB Z w.heap.size A c ps 8 nm cm va lo hi NA nn nc X lx cx xs Y ly cy ys := RuB.fr ⟨(((Blk.new _ _ _).alloc _).alloc _).alloc _, ((Blk.new_eq (by simp)).alloc _).alloc _, (Blk.new_eq (by simp)).alloc _, Blk.new_eq (by simp), HWS.out.pure hf, HX.out.pure hf, HY.out.pure hf, HLX.out, HLY.out⟩ hZ
    rw [HK.out]
    exact ru_iff Z w.heap.size A c ps 8 nm cm va lo hi NA nn nc X lx cx xs Y ly cy ys hR HW.out i hi' hfew HXL.out HYL.out
  · have HK := Lib.hid (show ∀ i, knT (pts ps) ⟨9, nm, cm, va, lo, hi⟩ i xs ys = someB (pts ps) lo hi i xs true from fun i => by simp [knT])
    have hxl := (hxl (by decide))
    have hyl := True.intro
    have HXL := Lib.hid hxl
    have HYL := Lib.hid hyl
    clear hxl hyl
    clear h hx hy hW hxl hyl
    go_enter Tryz.func55, Tryz.ntmps55
    go_wp2_with fail
    go_ret
    have hf : Fr Nob w ((((w.alloc (.cells #[.int .i64 9, .string nm, .int .i64 cm, .int .i64 va, .int .i64 lo, .int .i64 hi, .slice NA nn nc] 28)).alloc (.cells #[.slice A ps.length c] 71)).alloc (.cells #[.slice X lx cx] 74)).alloc (.cells #[.slice Y ly cy] 74)) := ((((Fr.refl _ _).alloc _).alloc _).alloc _).alloc _
    refine ⟨95, #[.pointer (some ⟨w.heap.size, 0, none⟩), .pointer (some ⟨w.heap.size + 1, 0, none⟩), .pointer (some ⟨w.heap.size + 1 + 1, 0, none⟩)], rfl, hf, fun _ _ => by go_simp, fun Z hZ i hi' => ?_⟩
    have hR : RuB Z w.heap.size A c ps 9 nm cm va lo hi NA nn nc X lx cx xs Y ly cy ys := RuB.fr ⟨(((Blk.new _ _ _).alloc _).alloc _).alloc _, ((Blk.new_eq (by simp)).alloc _).alloc _, (Blk.new_eq (by simp)).alloc _, Blk.new_eq (by simp), HWS.out.pure hf, HX.out.pure hf, HY.out.pure hf, HLX.out, HLY.out⟩ hZ
    rw [HK.out]
    exact ru_ev Z w.heap.size A c ps 9 nm cm va lo hi NA nn nc X lx cx xs Y ly cy ys hR HW.out i hi' hfew HXL.out
  · have HK := Lib.hid (show ∀ i, knT (pts ps) ⟨10, nm, cm, va, lo, hi⟩ i xs ys = !(someB (pts ps) lo hi i xs false) from fun i => by simp [knT])
    have hxl := (hxl (by decide))
    have hyl := True.intro
    have HXL := Lib.hid hxl
    have HYL := Lib.hid hyl
    clear hxl hyl
    clear h hx hy hW hxl hyl
    go_enter Tryz.func55, Tryz.ntmps55
    go_wp2_with fail
    go_ret
    have hf : Fr Nob w ((((w.alloc (.cells #[.int .i64 10, .string nm, .int .i64 cm, .int .i64 va, .int .i64 lo, .int .i64 hi, .slice NA nn nc] 28)).alloc (.cells #[.slice A ps.length c] 71)).alloc (.cells #[.slice X lx cx] 74)).alloc (.cells #[.slice Y ly cy] 74)) := ((((Fr.refl _ _).alloc _).alloc _).alloc _).alloc _
    refine ⟨97, #[.pointer (some ⟨w.heap.size, 0, none⟩), .pointer (some ⟨w.heap.size + 1, 0, none⟩), .pointer (some ⟨w.heap.size + 1 + 1, 0, none⟩)], rfl, hf, fun _ _ => by go_simp, fun Z hZ i hi' => ?_⟩
    have hR : RuB Z w.heap.size A c ps 10 nm cm va lo hi NA nn nc X lx cx xs Y ly cy ys := RuB.fr ⟨(((Blk.new _ _ _).alloc _).alloc _).alloc _, ((Blk.new_eq (by simp)).alloc _).alloc _, (Blk.new_eq (by simp)).alloc _, Blk.new_eq (by simp), HWS.out.pure hf, HX.out.pure hf, HY.out.pure hf, HLX.out, HLY.out⟩ hZ
    rw [HK.out]
    exact ru_al Z w.heap.size A c ps 10 nm cm va lo hi NA nn nc X lx cx xs Y ly cy ys hR HW.out i hi' hfew HXL.out
  · have HK := Lib.hid (show ∀ i, knT (pts ps) ⟨11, nm, cm, va, lo, hi⟩ i xs ys = untB (pts ps) lo hi i xs ys from fun i => by simp [knT])
    have hxl := (hxl (by decide))
    have hyl := (hyl (by decide) (by decide) (by decide) (by decide))
    have HXL := Lib.hid hxl
    have HYL := Lib.hid hyl
    clear hxl hyl
    clear h hx hy hW hxl hyl
    go_enter Tryz.func55, Tryz.ntmps55
    go_wp2_with fail
    go_ret
    have hf : Fr Nob w ((((w.alloc (.cells #[.int .i64 11, .string nm, .int .i64 cm, .int .i64 va, .int .i64 lo, .int .i64 hi, .slice NA nn nc] 28)).alloc (.cells #[.slice A ps.length c] 71)).alloc (.cells #[.slice X lx cx] 74)).alloc (.cells #[.slice Y ly cy] 74)) := ((((Fr.refl _ _).alloc _).alloc _).alloc _).alloc _
    refine ⟨98, #[.pointer (some ⟨w.heap.size, 0, none⟩), .pointer (some ⟨w.heap.size + 1, 0, none⟩), .pointer (some ⟨w.heap.size + 1 + 1, 0, none⟩), .pointer (some ⟨w.heap.size + 1 + 1 + 1, 0, none⟩)], rfl, hf, fun _ _ => by go_simp, fun Z hZ i hi' => ?_⟩
    have hR : RuB Z w.heap.size A c ps 11 nm cm va lo hi NA nn nc X lx cx xs Y ly cy ys := RuB.fr ⟨(((Blk.new _ _ _).alloc _).alloc _).alloc _, ((Blk.new_eq (by simp)).alloc _).alloc _, (Blk.new_eq (by simp)).alloc _, Blk.new_eq (by simp), HWS.out.pure hf, HX.out.pure hf, HY.out.pure hf, HLX.out, HLY.out⟩ hZ
    rw [HK.out]
    exact ru_un Z w.heap.size A c ps 11 nm cm va lo hi NA nn nc X lx cx xs Y ly cy ys hR HW.out i hi' hfew HXL.out HYL.out
  · have HK := Lib.hid (show ∀ i, knT (pts ps) ⟨12, nm, cm, va, lo, hi⟩ i xs ys = relB (pts ps) lo hi i xs ys from fun i => by simp [knT])
    have hxl := (hxl (by decide))
    have hyl := (hyl (by decide) (by decide) (by decide) (by decide))
    have HXL := Lib.hid hxl
    have HYL := Lib.hid hyl
    clear hxl hyl
    clear h hx hy hW hxl hyl
    go_enter Tryz.func55, Tryz.ntmps55
    go_wp2_with fail
    go_ret
    have hf : Fr Nob w ((((w.alloc (.cells #[.int .i64 12, .string nm, .int .i64 cm, .int .i64 va, .int .i64 lo, .int .i64 hi, .slice NA nn nc] 28)).alloc (.cells #[.slice A ps.length c] 71)).alloc (.cells #[.slice X lx cx] 74)).alloc (.cells #[.slice Y ly cy] 74)) := ((((Fr.refl _ _).alloc _).alloc _).alloc _).alloc _
    refine ⟨100, #[.pointer (some ⟨w.heap.size, 0, none⟩), .pointer (some ⟨w.heap.size + 1, 0, none⟩), .pointer (some ⟨w.heap.size + 1 + 1, 0, none⟩), .pointer (some ⟨w.heap.size + 1 + 1 + 1, 0, none⟩)], rfl, hf, fun _ _ => by go_simp, fun Z hZ i hi' => ?_⟩
    have hR : RuB Z w.heap.size A c ps 12 nm cm va lo hi NA nn nc X lx cx xs Y ly cy ys := RuB.fr ⟨(((Blk.new _ _ _).alloc _).alloc _).alloc _, ((Blk.new_eq (by simp)).alloc _).alloc _, (Blk.new_eq (by simp)).alloc _, Blk.new_eq (by simp), HWS.out.pure hf, HX.out.pure hf, HY.out.pure hf, HLX.out, HLY.out⟩ hZ
    rw [HK.out]
    exact ru_re Z w.heap.size A c ps 12 nm cm va lo hi NA nn nc X lx cx xs Y ly cy ys hR HW.out i hi' hfew HXL.out HYL.out
end Go.Proofs.YtoegdmpmagbaiaaGreatDoor
