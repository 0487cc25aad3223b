/- ThreeSound: what is known at a point holds there or doesn't, whatever later events come. -/
import Derived.Test.YtkmicfjcikilhaaGreatDoorQH37
import Derived.Test.YtkmicfjcikilhaaGreatDoorQH27
namespace Go.Proofs.YtkmicfjcikilhaaGreatDoor
open Go.RowKit Go.Lib

theorem rowBA_len {x : Nd} {t : Tr} {W : List Pt} (hg : firstW ((Tr.cons x t .nil).nodes 1) = 0) (hr : wRightB W = true) : (rowBA x t W).length = W.length := by
  unfold rowBA; rw [if_pos ⟨hg, hr⟩, rowTS_len]
theorem rowA_sound {x : Nd} {t : Tr} {W V : List Pt} {mark : Int} (hg : firstW ((Tr.cons x t .nil).nodes 1) = 0) (hr : wRightB W = true) (h63 : ∀ p ∈ W, p.1 ≤ last63) (hm : -1 ≤ mark) (hm2 : mark ≤ last63) (hV : LateW W V mark) {i : Nat} (hi : i < W.length) :
    xAt (rowA x t W mark) i = 2 ∨ xAt (rowA x t W mark) i = b2i (bAt (rowBA x t V) (fromI V (tAt W i))) := by
  obtain ⟨h1, h2⟩ := (good_first x t).1 hg
  have hx := hV.ext hr h63
  have hk := hx.lt i hi
  have hs := rowS_grow (later := last63) hx hm2 (madeS x t) hi
  have hl := last_rowS hx.v (madeS x t) (madeS_good h1 h2).1 hk
  rw [← madeS_row h1 h2 hk] at hl
  unfold rowA rowBA
  rw [if_pos ⟨hg, hr, hm⟩, if_pos ⟨hg, hV.right⟩]
  rcases hs with h | h
  · exact .inl h
  · exact .inr (h.trans hl)
theorem MoreP.at_ {W V : List Pt} {mark : Int} (h : MoreP W V mark) (hr : wRightB W = true) (h63 : ∀ p ∈ W, p.1 ≤ last63) {i : Nat} (hi : i < W.length) : tAt V (fromI V (tAt W i)) = tAt W i := (h.late.ext hr h63).at_ i hi
set_option maxRecDepth 100000 in
set_option maxHeartbeats 16000000 in
theorem law_ThreeSound (w : World) (x : Nd) (B : Option Addr) (d : Nat) (ks : Fo) (hs : FoSl w.heap.size w B d ks) (hv : ShVar w) (htv : ThVar w) (A : Option Addr) (c : Nat) (ps : List Pn) (h : WSl w A c ps) (h63 : ∀ p ∈ ps, p.t ≤ last63) (mark : Int) (hmk : mark ≤ last63) (C : Option Addr) (f : Nat) (es : List Ev) (he : ESl w C f es) (he63 : ∀ e ∈ es, e.t ≤ last63) :
    Calls Tryz.prog 3 #[fval x B ks.len d, .slice A ps.length c, .int .i64 mark, .slice C es.length f] w fun e w' => e = .returned (.bool true) ∧ Fr Nob w w' := by
  have HAW := Lib.hid (fun W (hf : Fr Nob w W) => l15_awake W (hv.fr hf) (htv.fr hf))
  have HLF := Lib.hid (fun W (hf : Fr Nob w W) => (show Calls Tryz.prog 5 #[fval x B ks.len d, .int .i64 60] W fun e w' => e = .returned (.int .i64 (left1 x ks.tr 60 : Nat)) ∧ Fr Nob W w' from l15_left 60 w.heap.size W x B d ks (by decide) (hs.fr hf)))
  have HFW := Lib.hid (fun W (hf : Fr Nob w W) => l15_fewD W A c ps (h.pure hf))
  have HSH := Lib.hid (fun W (hf : Fr Nob w W) => l15_shortD W C f es (he.pure hf))
  have HS := Lib.hid hs
  have HV := Lib.hid hv
  have HTV := Lib.hid htv
  have HWS := Lib.hid h
  have HES := Lib.hid he
  have HLP := Lib.hid (fun (h0 : 0 < left1 x ks.tr 60) => few_of (x := x) (ks := ks.tr) (n := 60) h0)
  clear hs hv htv h he
  generalize left1 x ks.tr 60 = n0 at *
  unfold fval at *
  go_enter Tryz.func3, Tryz.ntmps3
  have HB0 := Lib.hid (show Blk (w.alloc (.cells #[.int .i64 x.op, .string x.name, .int .i64 x.cmp, .int .i64 x.val, .int .i64 x.lo, .int .i64 x.hi, .slice B ks.len d] 28)) w.heap.size 28 _ from Blk.new _ _ _)
  go_upto_region 5 with (first
    | ((go_at_call 4); (with_reducible refine (HAW.out _ ((Fr.refl _ _).alloc _)).mono ?_); rintro e w1 ⟨rfl, hf1⟩; have HF1 := Lib.hid (((Fr.refl Nob w).alloc _).call hf1 (fun _ h _ => h)); have HX1 := Lib.hid (HB0.out.fr hf1 (fun e => e)); have xc := HX1.out.cell; have xl := HX1.out.lt; clear hf1)
    | ((go_at_call 5); (with_reducible refine (HLF.out _ HF1.out).mono ?_); rintro e w2 ⟨rfl, hf2⟩; have HF2 := Lib.hid (HF1.out.call hf2 (fun _ h _ => h)); have HX2 := Lib.hid (HX1.out.fr hf2 (fun e => e)); clear hf2)
    | fail)
  clear xc xl HX1 HF1 HB0 HAW HLF
  have q0 := HX2.out.cell
  have q1 := HX2.out.lt
  by_cases hF : FewW ps
  case neg =>
    replace HFW := Lib.hid (fun W (hf : Fr Nob w W) => HFW.out W hf false (iff_of_false (by simp) hF))
    by_cases hn : n0 = 0
    · subst hn
      go_wp2_with (first
        | ((go_at_call 6); (with_reducible refine (HFW.out _ HF2.out).mono ?_); rintro e w3 ⟨rfl, rfl⟩)
        | ((go_at_call 7); (with_reducible refine (HSH.out _ HF2.out).mono ?_); rintro e w3 ⟨rfl, rfl⟩)
        | fail)
      go_ret
      exact ⟨rfl, HF2.out⟩
    · have hnI : ¬ (n0 : Int) ≤ 0 := by omega
      have hnI2 : (0 : Int) < n0 := by omega
      go_wp2_with (first
        | ((go_at_call 6); (with_reducible refine (HFW.out _ HF2.out).mono ?_); rintro e w3 ⟨rfl, rfl⟩)
        | ((go_at_call 7); (with_reducible refine (HSH.out _ HF2.out).mono ?_); rintro e w3 ⟨rfl, rfl⟩)
        | fail)
      go_ret
      exact ⟨rfl, HF2.out⟩
  replace HFW := Lib.hid (fun W (hf : Fr Nob w W) => HFW.out W hf true (iff_of_true rfl hF))
  by_cases hE : ShortE es
  case neg =>
    replace HSH := Lib.hid (fun W (hf : Fr Nob w W) => HSH.out W hf false (iff_of_false (by simp) hE))
    by_cases hn : n0 = 0
    · subst hn
      go_wp2_with (first
        | ((go_at_call 6); (with_reducible refine (HFW.out _ HF2.out).mono ?_); rintro e w3 ⟨rfl, rfl⟩)
        | ((go_at_call 7); (with_reducible refine (HSH.out _ HF2.out).mono ?_); rintro e w3 ⟨rfl, rfl⟩)
        | fail)
      go_ret
      exact ⟨rfl, HF2.out⟩
    · have hnI : ¬ (n0 : Int) ≤ 0 := by omega
      have hnI2 : (0 : Int) < n0 := by omega
      go_wp2_with (first
        | ((go_at_call 6); (with_reducible refine (HFW.out _ HF2.out).mono ?_); rintro e w3 ⟨rfl, rfl⟩)
        | ((go_at_call 7); (with_reducible refine (HSH.out _ HF2.out).mono ?_); rintro e w3 ⟨rfl, rfl⟩)
        | fail)
      go_ret
      exact ⟨rfl, HF2.out⟩
  replace HSH := Lib.hid (fun W (hf : Fr Nob w W) => HSH.out W hf true (iff_of_true rfl hE))
  by_cases hn : n0 = 0
  · subst hn
    go_wp2_with (first
      | ((go_at_call 6); (with_reducible refine (HFW.out _ HF2.out).mono ?_); rintro e w3 ⟨rfl, rfl⟩)
      | ((go_at_call 7); (with_reducible refine (HSH.out _ HF2.out).mono ?_); rintro e w3 ⟨rfl, rfl⟩)
      | fail)
    go_ret
    exact ⟨rfl, HF2.out⟩
  have hnI : ¬ (n0 : Int) ≤ 0 := by omega
  have hnI2 : (0 : Int) < n0 := by omega
  have hL := HLP.out (by omega)
  have hnw : NmW ps := fun p hp y hy => by have := (hF.2 p hp).2 y hy; omega
  have h1 := hL.size
  have hfew : ps.length ≤ 1000 := by have := hF.1; omega
  have HSD := Lib.hid (fun W (hf : Fr Nob w W) => prg_Sound W x B d ks ((HS.out.fr hf).mono hf.size) (by omega) (HV.out.fr hf) hL.names)
  have HRT := Lib.hid (fun W (hf : Fr Nob w W) => wd_Right W A c ps (HWS.out.pure hf) hnw hfew)
  unfold fval at HSD
  by_cases hg : firstW ((Tr.cons x ks.tr .nil).nodes 1) = 0
  case neg =>
    have hg' : (firstW ((Tr.cons x ks.tr .nil).nodes 1) == 0) = false := by simpa using hg
    rw [hg'] at HSD
    clear hg hg' h1 hL hF hE hnw hn
    go_wp2_with (first
      | ((go_at_call 6); (with_reducible refine (HFW.out _ HF2.out).mono ?_); rintro e w3 ⟨rfl, rfl⟩)
      | ((go_at_call 7); (with_reducible refine (HSH.out _ HF2.out).mono ?_); rintro e w3 ⟨rfl, rfl⟩)
      | ((go_at_call 8); (with_reducible refine (HSD.out _ HF2.out).mono ?_); rintro e w4 ⟨rfl, hf4⟩)
      | fail)
    go_ret
    exact ⟨rfl, HF2.out.call hf4 (fun _ h _ => h)⟩
  rw [hg] at HSD
  cases hr : wRightB (pts ps)
  · rw [hr] at HRT
    clear hr hg h1 hL hF hE hnw hn
    go_wp2_with (first
      | ((go_at_call 6); (with_reducible refine (HFW.out _ HF2.out).mono ?_); rintro e w3 ⟨rfl, rfl⟩)
      | ((go_at_call 7); (with_reducible refine (HSH.out _ HF2.out).mono ?_); rintro e w3 ⟨rfl, rfl⟩)
      | ((go_at_call 8); (with_reducible refine (HSD.out _ HF2.out).mono ?_); rintro e w4 ⟨rfl, hf4⟩; have HF4 := Lib.hid (HF2.out.call hf4 (fun _ h _ => h)))
      | ((go_at_call 9); (with_reducible refine (HRT.out _ HF4.out).mono ?_); rintro e w5 ⟨rfl, hf5⟩)
      | fail)
    go_ret
    exact ⟨rfl, HF4.out.call hf5 (fun _ h _ => h)⟩
  rw [hr] at HRT
  by_cases hml0 : mark < -1
  · clear hr hg h1 hL hF hE hnw hn
    go_wp2_with (first
      | ((go_at_call 6); (with_reducible refine (HFW.out _ HF2.out).mono ?_); rintro e w3 ⟨rfl, rfl⟩)
      | ((go_at_call 7); (with_reducible refine (HSH.out _ HF2.out).mono ?_); rintro e w3 ⟨rfl, rfl⟩)
      | ((go_at_call 8); (with_reducible refine (HSD.out _ HF2.out).mono ?_); rintro e w4 ⟨rfl, hf4⟩; have HF4 := Lib.hid (HF2.out.call hf4 (fun _ h _ => h)))
      | ((go_at_call 9); (with_reducible refine (HRT.out _ HF4.out).mono ?_); rintro e w5 ⟨rfl, hf5⟩)
      | fail)
    go_ret
    exact ⟨rfl, HF4.out.call hf5 (fun _ h _ => h)⟩
  have hm1 : -1 ≤ mark := by omega
  have hp63 := pts63 h63
  have hpl := pts_len ps
  obtain ⟨V, hVe⟩ : ∃ V, V = moreW (pts ps) mark es := ⟨_, rfl⟩
  have HMO := Lib.hid (fun W (hf : Fr Nob w W) => l15_more W A c ps mark C f es (HWS.out.pure hf) (HES.out.pure hf) hF hE)
  rw [← hVe] at HMO
  have HRR := Lib.hid hr
  have HP63 := Lib.hid hp63
  have HLT := Lib.hid (show LateW (pts ps) V mark from by rw [hVe]; exact late_more hr es he63)
  have HMP := Lib.hid (fun (hb : BndW V 26 110) => show MoreP (pts ps) V mark from ⟨HLT.out, HLT.out.right, hb, HLT.out.hi HP63.out⟩)
  have hxl : (rowA x ks.tr (pts ps) mark).length = ps.length := by rw [rowA_len hg hr hm1, pts_len]
  have hyl : (rowBA x ks.tr V).length = V.length := rowBA_len hg HLT.out.right
  have HROX := Lib.hid (fun W (hf : Fr Nob w W) => (th_Row W x B d ks ((HS.out.fr hf).mono hf.size) (by omega) (HV.out.fr hf) (HTV.out.fr hf) hL.names A c ps (HWS.out.pure hf) hnw h63 hfew mark).mono fun e w' h => IMade.n h hxl)
  have HROY := Lib.hid (fun W (hf : Fr Nob w W) (A' : Option Addr) (c' : Nat) (qs : List Pn) (hq : pts qs = V) (hw : WSl W A' c' qs) (hb : BndW V 26 110) => (show Calls Tryz.prog 12 #[fval x B ks.len d, .slice A' qs.length c'] W fun e w' => BMN W w' e (rowBA x ks.tr V) qs.length from by
    have h1 := (HMP.out hb).nm hq
    have h2 := tr_Row W x B d ks ((HS.out.fr hf).mono hf.size) (by omega) (HV.out.fr hf) hL.names A' c' qs hw h1.1 h1.2.2 (by omega)
    rw [hq] at h2
    exact h2.mono fun e w' h => BMade.n h (by rw [hyl, ← hq, pts_len])))
  have HVAL := Lib.hid (show ∀ i, i < ps.length → xAt (rowA x ks.tr (pts ps) mark) i = 2 ∨ xAt (rowA x ks.tr (pts ps) mark) i = b2i (bAt (rowBA x ks.tr V) (fromI V (tAt (pts ps) i))) from fun i hi => rowA_sound hg hr hp63 hm1 hmk HLT.out (by rw [pts_len]; exact hi))
  have HFRM := Lib.hid (fun W A' c' qs (hq : pts qs = V) (hw : WSl W A' c' qs) (hb : BndW V 26 110) t => more_From W (HMP.out hb) A' c' qs hq hw t)
  have HKL := Lib.hid (fun (hb : BndW V 26 110) i (hi : i < ps.length) => (HMP.out hb).from_ HRR.out HP63.out (i := i) (by rw [pts_len]; exact hi))
  have HKT := Lib.hid (fun (hb : BndW V 26 110) i (hi : i < ps.length) => (HMP.out hb).at_ HRR.out HP63.out (i := i) (by rw [pts_len]; exact hi))
  have HZL := Lib.hid hyl
  have HXL := Lib.hid hxl
  unfold fval at HROX HROY
  generalize rowA x ks.tr (pts ps) mark = lx at *
  generalize rowBA x ks.tr V = lz at *
  have hps16 := hF.1
  clear hr hg h1 hL hF hE hnw hn hml0 hxl hyl hVe hp63 hpl h63 he63 HLP HLT HMP HV HTV HS HES HRR HP63
  go_upto_region 8 with (first
    | ((go_at_call 6); (with_reducible refine (HFW.out _ HF2.out).mono ?_); rintro e w3 ⟨rfl, rfl⟩)
    | ((go_at_call 7); (with_reducible refine (HSH.out _ HF2.out).mono ?_); rintro e w3 ⟨rfl, rfl⟩)
    | ((go_at_call 8); (with_reducible refine (HSD.out _ HF2.out).mono ?_); rintro e w4 ⟨rfl, hf4⟩; have HF4 := Lib.hid (HF2.out.call hf4 (fun _ h _ => h)); have HX4 := Lib.hid (HX2.out.fr hf4 (fun e => e)))
    | ((go_at_call 9); (with_reducible refine (HRT.out _ HF4.out).mono ?_); rintro e w5 ⟨rfl, hf5⟩; have HF5 := Lib.hid (HF4.out.call hf5 (fun _ h _ => h)); have HX5 := Lib.hid (HX4.out.fr hf5 (fun e => e)); have p0 := HX5.out.cell; have p1 := HX5.out.lt)
    | fail)
  clear q0 q1 hf4 hf5 HF2 HX2 HF4 HX4 HSD HRT HFW HSH
  go_upto_region 11 with (first
    | ((go_at_call 10); (with_reducible refine (HROX.out _ HF5.out).mono ?_); rintro e w6 ⟨XA, cX, rfl, hxs, hf6⟩; have HF6 := Lib.hid (HF5.out.call hf6 (fun _ h _ => h)); have HX6 := Lib.hid (HX5.out.fr hf6 (fun e => e)); have p0 := HX6.out.cell; have p1 := HX6.out.lt; have HXS := Lib.hid hxs; clear hxs hf6)
    | ((go_at_call 11); (with_reducible refine (HMO.out _ HF6.out).mono ?_); rintro e w9 ⟨VA, cV, qs, rfl, hq, hb, hqs, hf9⟩; have HF9 := Lib.hid (HF6.out.call hf9 (fun _ h _ => h)); have HX9 := Lib.hid (HX6.out.fr hf9 (fun e => e)); have p0 := HX9.out.cell; have p1 := HX9.out.lt; have HXS9 := Lib.hid (HXS.out.pure hf9); have HQ := Lib.hid hq; have HB := Lib.hid hb; have HQS := Lib.hid hqs; clear hq hb hqs hf9)
    | ((go_at_call 12); (with_reducible refine (HROY.out _ HF9.out _ _ _ HQ.out HQS.out HB.out).mono ?_); rintro e w10 ⟨ZA, cZ, rfl, hzs, hf10⟩; have HF10 := Lib.hid (HF9.out.call hf10 (fun _ h _ => h)); have HXS10 := Lib.hid (HXS9.out.pure hf10); have HQS10 := Lib.hid (HQS.out.pure hf10); have HZS := Lib.hid hzs; clear hzs hf10)
    | fail)
  clear p0 p1 HF5 HX5 HF6 HX6 HXS HF9 HX9 HXS9 HQS HROX HROY HMO
  have HQV := Lib.hid (show lz.length = qs.length by rw [HZL.out, ← HQ.out, pts_len])
  have hq26 : qs.length ≤ 26 := by have := HB.out.1; rw [← HQ.out, pts_len] at this; exact this
  go_wp2_with fail
  go_loopw [15] (fun iv wr => ∃ (k : Nat), k ≤ ps.length ∧ iv = .int .i64 k ∧ Hid (Fr Nob w10 wr)) (fun iv _ => ps.length - (intOf iv).toNat)
  case atStart => exact ⟨0, Nat.zero_le _, rfl, Lib.hid (Fr.refl _ _)⟩
  case round =>
    obtain ⟨i, hi, rfl, hfr⟩ := hrel
    by_cases hlt : i < ps.length
    · have hI2 : (i : Int) < ps.length := by omega
      have hI3 : 0 ≤ (i : Int) := by omega
      have hkl := HKL.out HB.out i hlt
      have hkt := HKT.out HB.out i hlt
      have hval := HVAL.out i hlt
      have hz0 : fromI V (tAt (pts ps) i) < lz.length := by rw [HZL.out]; exact hkl
      have hk26 : fromI V (tAt (pts ps) i) < qs.length := by rw [← HQV.out]; exact hz0
      obtain ⟨b3, u3, hA3, hb3, t0, _⟩ := (HWS.out.pure (HF10.out.call hfr.out (fun _ h _ => h))).at_ hlt
      rw [← tAt_pts hlt] at t0
      obtain ⟨b4, u4, hA4, hb4, v0, _⟩ := (HQS10.out.pure hfr.out).at_ hk26
      rw [← tAt_pts hk26, HQ.out, hkt] at v0
      have HFM := Lib.hid (fun W (hw : WSl W VA cV qs) => HFRM.out W VA cV qs HQ.out hw HB.out (tAt (pts ps) i))
      obtain ⟨b1, u1, hA1, hb1, d0⟩ := rowb_at (L := lz) (c := cZ) (A := ZA) (w := wr) (by rw [HQV.out]; exact HZS.out.pure hfr.out) (k := fromI V (tAt (pts ps) i)) hz0
      obtain ⟨b2, u2, hA2, hb2, x0⟩ := row_at (L := lx) (c := cX) (A := XA) (w := wr) (by rw [HXL.out]; exact HXS10.out.pure hfr.out) (k := i) (by rw [HXL.out]; exact hlt)
      have HQW := Lib.hid (HQS10.out.pure hfr.out)
      generalize fromI V (tAt (pts ps) i) = κ at *
      generalize tAt (pts ps) i = ti at *
      generalize bAt lz κ = zk at *
      generalize xAt lx i = xv at *
      have hK2 : (κ : Int) < qs.length := by omega
      have hK3 : 0 ≤ (κ : Int) := by omega
      have hK4 : decide ((qs.length : Int) ≤ κ) = false := by simp; omega
      subst hA3 hA4 hA1 hA2
      clear hkl hz0 hkt HFRM HKL HKT HVAL
      go_upto_region 17 with (first
        | ((go_at_call 13); (with_reducible refine (HFM.out _ HQW.out).mono ?_); rintro e w11 ⟨rfl, hf11⟩; replace v0 := hf11.cell v0 (fun e => e); replace t0 := hf11.cell t0 (fun e => e); replace d0 := hf11.cell d0 (fun e => e); replace x0 := hf11.cell x0 (fun e => e); have hs11 := hf11.size; have HF11 := Lib.hid hf11; clear hf11)
        | fail)
      replace hb1 := Nat.lt_of_lt_of_le hb1 hs11
      replace hb2 := Nat.lt_of_lt_of_le hb2 hs11
      replace hb3 := Nat.lt_of_lt_of_le hb3 hs11
      replace hb4 := Nat.lt_of_lt_of_le hb4 hs11
      clear hs11
      rcases hval with rfl | rfl
      · cases zk
        all_goals
          go_quiet (fail)
          go_wp2_with fail
          go_roundw
          case rel => exact ⟨i + 1, by omega, by go_num, Lib.hid ((hfr.out.call HF11.out (fun _ h _ => h)).drewN _)⟩
          case measure => simp [intOf]; omega
      · cases zk
        all_goals
          unfold b2i at x0
          simp only [if_true, if_false, Bool.false_eq_true] at x0
          go_quiet (fail)
          go_wp2_with fail
          go_roundw
          case rel => exact ⟨i + 1, by omega, by go_num, Lib.hid ((hfr.out.call HF11.out (fun _ h _ => h)).drewN _)⟩
          case measure => simp [intOf]; omega
    · obtain rfl : i = ps.length := by omega
      have HFA := Lib.hid (HF10.out.call hfr.out (fun _ h _ => h))
      have hlt3 : ¬ (ps.length : Int) < ps.length := by omega
      clear hfr
      go_wp2_with fail
      go_ret
      exact ⟨rfl, HFA.out⟩
end Go.Proofs.YtkmicfjcikilhaaGreatDoor
