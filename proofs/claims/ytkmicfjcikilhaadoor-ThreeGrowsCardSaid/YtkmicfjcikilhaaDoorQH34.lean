/- ThreeWhole: at a point whose horizon is at most the mark it is known whether a formula holds. -/
import Derived.Test.YtkmicfjcikilhaaDoorQH33
import Derived.Test.YtkmicfjcikilhaaDoorQH32
namespace Go.Proofs.YtkmicfjcikilhaaDoor
open Go.RowKit Go.Lib

theorem good_hz : ∀ {t : Tr}, t.good → t.ok → t.allN HzN
  | .nil, _, _ => trivial
  | .cons x k r, ⟨h1, h2, h3⟩, ⟨o1, o2, o3⟩ => ⟨⟨fun h9 => by have := wrong_span h1 h9; omega, o1.hi, (wrong_op h1).2.1⟩, good_hz h2 o2, good_hz h3 o3⟩
def HzOf (x : Nd) (t : Tr) (w : World) (e : Ending) (w' : World) : Prop := ∃ h er, e = .returned (.tuple #[.int .i64 h, .int .i64 er]) ∧ (er = 0 → firstW ((Tr.cons x t .nil).nodes 1) = 0 ∧ h = far1 (x, t) ∧ I64 h ∧ 0 ≤ h) ∧ Fr Nob w w'
set_option maxRecDepth 100000 in
set_option maxHeartbeats 4000000 in
theorem hz_Of (w : World) (x : Nd) (A : Option Addr) (c : Nat) (ks : Fo) (hs : FoSl w.heap.size w A c ks) (hsz : ks.tr.size ≤ 100000) (hv : ShVar w) (hx : NdOk x) (hk : ks.tr.ok) (hnm : ∀ y ∈ (Tr.cons x ks.tr .nil).nodes 1, y.1.name.size ≤ 9223372036854775807) :
    Calls Tryd.prog 20 #[fval x A ks.len c] w (HzOf x ks.tr w) := by
  have HCK := Lib.hid (fun W (hf : Fr Nob w W) => prg_Check W x A c ks ((hs.fr hf).mono hf.size) hsz (hv.fr hf) hnm)
  by_cases h0 : checkT x ks.tr = 0
  · have hg : firstW ((Tr.cons x ks.tr .nil).nodes 1) = 0 := by
      unfold checkT at h0
      split at h0
      · omega
      · split at h0
        · omega
        · exact h0
    obtain ⟨g1, g2⟩ := (good_first x ks.tr).1 hg
    have hq := good_hz (t := .cons x ks.tr .nil) ⟨g1, g2, trivial⟩ ⟨hx, hk, trivial⟩
    have HFA := Lib.hid (fun W (hf : Fr Nob w W) => hz_far ks.tr.size W x A c ks w.heap.size (Nat.le_refl _) hsz (hs.fr hf) hq.1 hq.2.1)
    have HG := Lib.hid hg
    rw [h0] at HCK
    clear hs hsz hv hx hk hnm h0 hg g1 g2 hq
    unfold fval at *
    go_enter Tryd.func20, Tryd.ntmps20
    have HB0 := Lib.hid (show Blk (w.alloc (.cells #[.int .i64 x.op, .string x.name, .int .i64 x.cmp, .int .i64 x.val, .int .i64 x.lo, .int .i64 x.hi, .slice A ks.len c] 28)) w.heap.size 28 _ from Blk.new _ _ _)
    go_upto_region 5 with (first
      | ((go_at_call 47); (with_reducible refine (HCK.out _ ((Fr.refl _ _).alloc _)).mono ?_); rintro e w1 ⟨rfl, hf1⟩; have HF1 := Lib.hid (((Fr.refl Nob w).alloc _).call hf1 (fun _ h _ => h)); have HX1 := Lib.hid (HB0.out.fr hf1 (fun e => e)); have xc := HX1.out.cell; have xl := HX1.out.lt; clear hf1)
      | ((go_at_call 48); (with_reducible refine (HFA.out _ HF1.out).mono ?_); rintro e w2 ⟨h, cc, rfl, hc, h64, h0, hf2⟩; have HC := Lib.hid hc; have H64 := Lib.hid h64; have H0 := Lib.hid h0; have HF2 := Lib.hid (HF1.out.call hf2 (fun _ h _ => h)); clear hc h64 h0 hf2)
      | fail)
    cases cc
    · go_wp2_with fail
      go_ret2
      exact ⟨_, _, rfl, fun _ => ⟨HG.out, HC.out (by first | rfl | trivial), H64.out, H0.out⟩, HF2.out⟩
    · go_wp2_with fail
      go_ret2
      exact ⟨_, _, rfl, fun e => by exfalso; revert e; decide, HF2.out⟩
  · have h1 : (checkT x ks.tr != 0) = true := by simpa using h0
    have HN := Lib.hid h0
    clear hs hsz hv hx hk hnm h0
    generalize checkT x ks.tr = er at *
    unfold fval at *
    go_enter Tryd.func20, Tryd.ntmps20
    go_wp2_with (first
      | ((go_at_call 47); (with_reducible refine (HCK.out _ ((Fr.refl _ _).alloc _)).mono ?_); rintro e w1 ⟨rfl, hf1⟩; have HF1 := Lib.hid (((Fr.refl Nob w).alloc _).call hf1 (fun _ h _ => h)); clear hf1)
      | fail)
    go_ret2
    exact ⟨_, _, rfl, fun e => absurd e HN.out, HF1.out⟩
theorem ext_id {W : List Pt} (h : Rise W) (mark : Int) : Ext W W mark (fun i => i) :=
  ⟨h, h, fun _ hi => hi, fun _ _ => rfl, fun k hk => .inl ⟨k, hk, rfl⟩, fun _ _ _ _ _ hh => hh, fun _ _ _ _ _ _ hh => hh⟩
/-- Where the horizon is not above the mark it is known whether it holds. -/
theorem whole_val {ps : List Pn} (hW : Rise (pts ps)) {x : Nd} {t : Tr} (hg1 : wrongN x t.len = 0) (hg2 : t.good) {h mark : Int} (hh : h = far1 (x, t)) (_h64 : I64 h) (h0 : 0 ≤ h) {i : Nat} (hi : i < ps.length) (hd : (sadd (tAt (pts ps) i) h).1 ≤ mark) :
    xAt (rowS (pts ps) mark (madeS x t)) i = b2i (bAt (rowTS (pts ps) (x, t)) i) := by
  have hi' : i < (pts ps).length := by rw [pts_len]; exact hi
  have hc := (madeS_good hg1 hg2).1
  have hl := last_rowS hW (madeS x t) hc hi'
  have hm := madeS_row (W := pts ps) hg1 hg2 hi'
  have e : b2i (vT (pts ps) (madeS x t) i) = b2i (bAt (rowTS (pts ps) (x, t)) i) := by rw [← hm]; rfl
  rw [← e, ← hl]
  by_cases h63 : last63 ≤ mark
  · have hk := rowS_grow (ext_id hW last63) h63 (madeS x t) hi'
    rcases hk with hk | hk
    · rw [hl] at hk
      exfalso
      unfold b2i at hk
      split at hk <;> omega
    · exact hk.symm
  · have hfar := far_madeS hg1 hg2
    have hlo := hW.lo i hi'
    have hne := whole_rowS hW (mark := mark) (madeS x t) hc hi' (by
      unfold sadd last63 at *
      split at hd
      · simp only at hd; omega
      · split at hd
        · omega
        · simp only at hd; omega)
    have hk := rowS_grow (ext_id hW mark) (by omega : mark ≤ last63) (madeS x t) hi'
    rcases hk with hk | hk
    · exact absurd hk hne
    · exact hk
set_option maxRecDepth 100000 in
set_option maxHeartbeats 16000000 in
theorem law_ThreeWhole (w : World) (x : Nd) (B : Option Addr) (d : Nat) (ks : Fo) (hs : FoSl w.heap.size w B d ks) (hx : NdOk x) (hk : ks.tr.ok) (hv : ShVar w) (htv : ThVar w) (A : Option Addr) (c : Nat) (ps : List Pn) (h : WSl w A c ps) (h63 : ∀ p ∈ ps, p.t ≤ last63) (mark : Int) :
    Calls Tryd.prog 5 #[fval x B ks.len d, .slice A ps.length c, .int .i64 mark] w fun e w' => e = .returned (.bool true) ∧ Fr Nob w w' := by
  have HOK := Lib.hid hx
  have HKO := Lib.hid hk
  clear hx hk
  have HAW := Lib.hid (fun W (hf : Fr Nob w W) => l15_awake W (hv.fr hf) (htv.fr hf))
  have HLF := Lib.hid (fun W (hf : Fr Nob w W) => (show Calls Tryd.prog 9 #[fval x B ks.len d, .int .i64 60] W fun e w' => e = .returned (.int .i64 (left1 x ks.tr 60 : Nat)) ∧ Fr Nob W w' from l15_left 60 w.heap.size W x B d ks (by decide) (hs.fr hf)))
  have HFW := Lib.hid (fun W (hf : Fr Nob w W) => l15_few W A c ps (h.pure hf))
  have HS := Lib.hid hs
  have HV := Lib.hid hv
  have HTV := Lib.hid htv
  have HWS := Lib.hid h
  have HLP := Lib.hid (fun (h0 : 0 < left1 x ks.tr 60) => few_of (x := x) (ks := ks.tr) (n := 60) h0)
  clear hs hv htv h
  generalize left1 x ks.tr 60 = n0 at *
  unfold fval at *
  go_enter Tryd.func5, Tryd.ntmps5
  have HB0 := Lib.hid (show Blk (w.alloc (.cells #[.int .i64 x.op, .string x.name, .int .i64 x.cmp, .int .i64 x.val, .int .i64 x.lo, .int .i64 x.hi, .slice B ks.len d] 28)) w.heap.size 28 _ from Blk.new _ _ _)
  go_upto_region 6 with (first
    | ((go_at_call 8); (with_reducible refine (HAW.out _ ((Fr.refl _ _).alloc _)).mono ?_); rintro e w1 ⟨rfl, hf1⟩; have HF1 := Lib.hid (((Fr.refl Nob w).alloc _).call hf1 (fun _ h _ => h)); have HX1 := Lib.hid (HB0.out.fr hf1 (fun e => e)); have xc := HX1.out.cell; have xl := HX1.out.lt; clear hf1)
    | ((go_at_call 9); (with_reducible refine (HLF.out _ HF1.out).mono ?_); rintro e w2 ⟨rfl, hf2⟩; have HF2 := Lib.hid (HF1.out.call hf2 (fun _ h _ => h)); have HX2 := Lib.hid (HX1.out.fr hf2 (fun e => e)); clear hf2)
    | ((go_at_call 10); (with_reducible refine (HFW.out _ HF2.out).mono ?_); rintro e w3 ⟨bf, rfl, hbf, rfl⟩; have HBF := Lib.hid hbf; clear hbf)
    | fail)
  clear xc xl HX1 HF1 HB0 HAW HLF HFW
  have q0 := HX2.out.cell
  have q1 := HX2.out.lt
  by_cases hn : n0 = 0
  · subst hn
    go_wp2_with fail
    go_ret
    exact ⟨rfl, HF2.out⟩
  have hnI : ¬ (n0 : Int) ≤ 0 := by omega
  have hnI2 : (0 : Int) < n0 := by omega
  have hL := HLP.out (by omega)
  cases bf
  · skip
    go_wp2_with fail
    go_ret
    exact ⟨rfl, HF2.out⟩
  have hFW := HBF.out rfl
  have hnw : NmW ps := fun p hp y hy => by have := (hFW.2 p hp).2 y hy; omega
  have h1 := hL.size
  have hfew : ps.length ≤ 1000 := by have := hFW.1; omega
  have HRT := Lib.hid (fun W (hf : Fr Nob w W) => wd_Right W A c ps (HWS.out.pure hf) hnw hfew)
  have HHO := Lib.hid (fun W (hf : Fr Nob w W) => hz_Of W x B d ks ((HS.out.fr hf).mono hf.size) (by omega) (HV.out.fr hf) HOK.out HKO.out hL.names)
  unfold fval at HHO
  by_cases hm : mark < -1
  · cases hr : wRightB (pts ps)
    all_goals
      rw [hr] at HRT
      clear hr h1 hL hFW hnw hn
      go_wp2_with (first
        | ((go_at_call 16); (with_reducible refine (HRT.out _ HF2.out).mono ?_); rintro e w4 ⟨rfl, hf4⟩)
        | fail)
      go_ret
      exact ⟨rfl, HF2.out.call hf4 (fun _ h _ => h)⟩
  have hm' : -1 ≤ mark := by omega
  cases hr : wRightB (pts ps)
  · rw [hr] at HRT
    clear hr h1 hL hFW hnw hn hm
    go_wp2_with (first
      | ((go_at_call 16); (with_reducible refine (HRT.out _ HF2.out).mono ?_); rintro e w4 ⟨rfl, hf4⟩)
      | fail)
    go_ret
    exact ⟨rfl, HF2.out.call hf4 (fun _ h _ => h)⟩
  rw [hr] at HRT
  have HRR := Lib.hid hr
  have HN63 := Lib.hid h63
  have HNW := Lib.hid hnw
  have HLL := Lib.hid hL
  have HMM := Lib.hid hm'
  have HH1 := Lib.hid h1
  clear hr h63 hnw hL hFW hn hm h1
  go_upto_region 9 with (first
    | ((go_at_call 16); (with_reducible refine (HRT.out _ HF2.out).mono ?_); rintro e w4 ⟨rfl, hf4⟩; have HF4 := Lib.hid (HF2.out.call hf4 (fun _ h _ => h)); have HX4 := Lib.hid (HX2.out.fr hf4 (fun e => e)); have p0 := HX4.out.cell; have p1 := HX4.out.lt)
    | ((go_at_call 20); (with_reducible refine (HHO.out _ HF4.out).mono ?_); rintro e w5 ⟨hz, er, rfl, hzo, hf5⟩; have HZO := Lib.hid hzo; have HF5 := Lib.hid (HF4.out.call hf5 (fun _ h _ => h)); have HX5 := Lib.hid (HX4.out.fr hf5 (fun e => e)); clear hzo hf5)
    | fail)
  clear q0 q1 p0 p1 hf4 HF2 HX2 HF4 HX4 HRT HHO
  by_cases her : er = 0
  · subst her
    obtain ⟨hg, hfar, hz64, hz0⟩ := HZO.out rfl
    obtain ⟨hg1, hg2⟩ := (good_first x ks.tr).1 hg
    have HW := Lib.hid (rise_of HRR.out HN63.out)
    have hml : (rowA x ks.tr (pts ps) mark).length = ps.length := by
      unfold rowA; rw [if_pos ⟨hg, HRR.out, HMM.out⟩, rowS_len, pts_len]
    have htl : (rowBA x ks.tr (pts ps)).length = ps.length := by
      unfold rowBA; rw [if_pos ⟨hg, HRR.out⟩, rowTS_len, pts_len]
    have HROW := Lib.hid (fun W (hf : Fr Nob w W) => (th_Row W x B d ks ((HS.out.fr hf).mono hf.size) (by have := HH1.out; omega) (HV.out.fr hf) (HTV.out.fr hf) HLL.out.names A c ps (HWS.out.pure hf) HNW.out HN63.out hfew mark).mono fun e w' h => IMade.n h hml)
    have HTRU := Lib.hid (fun W (hf : Fr Nob w W) => (tr_Row W x B d ks ((HS.out.fr hf).mono hf.size) (by have := HH1.out; omega) (HV.out.fr hf) HLL.out.names A c ps (HWS.out.pure hf) HNW.out HN63.out hfew).mono fun e w' h => BMade.n h htl)
    have HVAL := Lib.hid (show ∀ i, i < ps.length → (sadd (tAt (pts ps) i) hz).1 ≤ mark → xAt (rowA x ks.tr (pts ps) mark) i = b2i (bAt (rowBA x ks.tr (pts ps)) i) from fun i hi hd => by
      unfold rowA rowBA
      rw [if_pos ⟨hg, HRR.out, HMM.out⟩, if_pos ⟨hg, HRR.out⟩]
      exact whole_val HW.out hg1 hg2 hfar hz64 hz0 hi hd)
    have HTRI := Lib.hid (rowA_tri x ks.tr (pts ps) mark)
    have HADD := Lib.hid (fun W i (hi : i < ps.length) => sat_Add W (tAt (pts ps) i) hz ⟨by have := HW.out.lo i (by rw [pts_len]; exact hi); omega, HW.out.hi i (by rw [pts_len]; exact hi)⟩ hz64)
    unfold fval at HROW HTRU
    have HLM := Lib.hid hml
    have HLT := Lib.hid htl
    generalize rowA x ks.tr (pts ps) mark = lx at *
    generalize rowBA x ks.tr (pts ps) = ly at *
    clear hg hg1 hg2 hml htl hfar hz64 hz0
    have p0 := HX5.out.cell
    have p1 := HX5.out.lt
    go_upto_region 15 with (first
      | ((go_at_call 11); (with_reducible refine (HROW.out _ HF5.out).mono ?_); rintro e w6 ⟨XA, cX, rfl, hxs, hf6⟩; have HF6 := Lib.hid (HF5.out.call hf6 (fun _ h _ => h)); have HX6 := Lib.hid (HX5.out.fr hf6 (fun e => e)); have p0 := HX6.out.cell; have p1 := HX6.out.lt; have HXS := Lib.hid hxs; clear hxs hf6)
      | ((go_at_call 17); (with_reducible refine (HTRU.out _ HF6.out).mono ?_); rintro e w7 ⟨YA, cY, rfl, hys, hf7⟩; have HF7 := Lib.hid (HF6.out.call hf7 (fun _ h _ => h)); have HXS7 := Lib.hid (HXS.out.pure hf7); have HYS := Lib.hid hys; clear hys hf7)
      | fail)
    clear p0 p1 HF5 HX5 HF6 HX6 HXS HROW HTRU
    go_wp2_with fail
    go_loopw [14] (fun iv wr => ∃ i : Nat, i ≤ ps.length ∧ iv = .int .i64 i ∧ Hid (Fr Nob w7 wr)) (fun iv _ => ps.length - (intOf iv).toNat)
    case atStart => exact ⟨0, Nat.zero_le _, rfl, Lib.hid (Fr.refl _ _)⟩
    case round =>
      obtain ⟨i, hi, rfl, hfr⟩ := hrel
      by_cases hlt : i < ps.length
      · have hI2 : (i : Int) < ps.length := by omega
        have hI3 : 0 ≤ (i : Int) := by omega
        obtain ⟨b1, u1, rfl, hb1, d0⟩ := row_at (L := lx) (c := cX) (A := XA) (by rw [HLM.out]; exact HXS7.out.pure hfr.out) (k := i) (by rw [HLM.out]; exact hlt)
        obtain ⟨b2, u2, rfl, hb2, e0⟩ := rowb_at (L := ly) (c := cY) (A := YA) (by rw [HLT.out]; exact HYS.out.pure hfr.out) (k := i) (by rw [HLT.out]; exact hlt)
        obtain ⟨b3, u3, hA3, hb3, t0, _⟩ := (HWS.out.pure (HF7.out.call hfr.out (fun _ h _ => h))).at_ hlt
        rw [← tAt_pts hlt] at t0
        have HAD := Lib.hid (fun W => HADD.out W i hlt)
        have HVI := Lib.hid (HVAL.out i hlt)
        generalize tAt (pts ps) i = ti at *
        generalize (sadd ti hz).1 = sv at *
        generalize (sadd ti hz).2 = sc at *
        subst hA3
        by_cases hdue : sv ≤ mark
        · have hv := HVI.out hdue
          have hdb : decide (sv ≤ mark) = true := by simpa using hdue
          rw [hv] at d0
          cases hbt : bAt ly i
          all_goals
            rw [hbt] at d0 e0
            unfold b2i at d0
            simp only [if_true, if_false, Bool.false_eq_true] at d0
            clear hv hbt
            go_wp2_with (first
              | ((go_at_call 21); (with_reducible refine (HAD.out _).mono ?_); rintro e w9 ⟨rfl, rfl⟩)
              | fail)
            go_quiet (fail)
            go_wp2_with fail
            go_roundw
            case rel => exact ⟨i + 1, by omega, by go_num, Lib.hid (hfr.out.drewN _)⟩
            case measure => simp [intOf]; omega
        · have hdb : decide (sv ≤ mark) = false := by simpa using hdue
          go_wp2_with (first
            | ((go_at_call 21); (with_reducible refine (HAD.out _).mono ?_); rintro e w9 ⟨rfl, rfl⟩)
            | fail)
          go_quiet (fail)
          go_wp2_with fail
          go_roundw
          case rel => exact ⟨i + 1, by omega, by go_num, Lib.hid (hfr.out.drewN _)⟩
          case measure => simp [intOf]; omega
      · have hlt3 : ¬ (i : Int) < ps.length := by omega
        go_wp2_with fail
        go_ret
        exact ⟨rfl, HF7.out.call hfr.out (fun _ h _ => h)⟩
  · have he1 : (er != 0) = true := by simpa using her
    clear her
    go_wp2_with fail
    go_ret
    exact ⟨rfl, HF5.out⟩
end Go.Proofs.YtkmicfjcikilhaaDoor
