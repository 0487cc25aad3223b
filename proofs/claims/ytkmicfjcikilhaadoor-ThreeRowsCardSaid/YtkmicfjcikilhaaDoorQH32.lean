/- ThreeLast: under the last moment as the mark all is known, as it holds; what a formula becomes is known as the formula is. -/
import Derived.Test.YtkmicfjcikilhaaDoorKT
import Derived.Test.YtkmicfjcikilhaaDoorQH27
import Derived.Test.YtkmicfjcikilhaaDoorKE
namespace Go.Proofs.YtkmicfjcikilhaaDoor
open Go.RowKit Go.Lib

theorem name_short {x : Nd} {k : Nat} (h : wrongN x k = 0) : x.name.size ≤ 40 := by
  have hw := wn_of h
  by_cases h3 : x.op = 3
  · have := hw.2.2.2.1 h3
    unfold nmOk at this
    simp only [Bool.and_eq_true, decide_eq_true_eq] at this
    omega
  · have h0 := (hw.1 h3).1
    have : x.name.size = 0 := by
      rw [← size_toList, h0]; rfl
    omega
theorem good_short : ∀ {t : Tr}, t.good → t.shortN
  | .nil, _ => trivial
  | .cons _ _ _, ⟨h1, h2, h3⟩ => ⟨name_short h1, good_short h2, good_short h3⟩
theorem rowA_tri (x : Nd) (t : Tr) (W : List Pt) (mark : Int) (i : Nat) : Tri (xAt (rowA x t W mark) i) := by
  unfold rowA
  split
  · exact tri_rowS _ _ _ _
  · exact .inl rfl
theorem rowA_made {x : Nd} {t : Tr} (W : List Pt) (mark : Int) (hg : firstW ((Tr.cons x t .nil).nodes 1) = 0) : rowA (madeS x t).1 (madeS x t).2 W mark = rowA x t W mark := by
  obtain ⟨h1, h2⟩ := (good_first x t).1 hg
  obtain ⟨h3, h4⟩ := made_sound h1 h2
  have hm := (good_first (madeS x t).1 (madeS x t).2).2 ⟨h3, h4⟩
  unfold rowA
  rw [hm, hg, made_made]
/-- A row of so many is returned. -/
def IMN (w w' : World) (e : Ending) (l : List Int) (n : Nat) : Prop := ∃ A c, e = .returned (.slice A n c) ∧ Sl w' 1 A n c (l.map ivI) ∧ Fr Nob w w'
theorem IMade.n {w w' : World} {e : Ending} {l : List Int} {n : Nat} (h : IMade w w' e l) (hl : l.length = n) : IMN w w' e l n := by subst hl; exact h
def BMN (w w' : World) (e : Ending) (l : List Bool) (n : Nat) : Prop := ∃ A c, e = .returned (.slice A n c) ∧ Sl w' 1 A n c (l.map ivB) ∧ Fr Nob w w'
theorem BMade.n {w w' : World} {e : Ending} {l : List Bool} {n : Nat} (h : BMade w w' e l) (hl : l.length = n) : BMN w w' e l n := by subst hl; exact h
set_option maxRecDepth 100000 in
set_option maxHeartbeats 16000000 in
theorem law_ThreeLast (w : World) (x : Nd) (B : Option Addr) (d : Nat) (ks : Fo) (hs : FoSl w.heap.size w B d ks) (hv : ShVar w) (htv : ThVar w) (A : Option Addr) (c : Nat) (ps : List Pn) (h : WSl w A c ps) (h63 : ∀ p ∈ ps, p.t ≤ last63) (mark : Int) :
    Calls Tryd.prog 4 #[fval x B ks.len d, .slice A ps.length c, .int .i64 mark] w fun e w' => e = .returned (.bool true) ∧ Fr Nob w w' := by
  have HAW := Lib.hid (fun W (hf : Fr Nob w W) => l15_awake W (hv.fr hf) (htv.fr hf))
  have HLF := Lib.hid (fun W (hf : Fr Nob w W) => (show Calls Tryd.prog 9 #[fval x B ks.len d, .int .i64 60] W fun e w' => e = .returned (.int .i64 (left1 x ks.tr 60 : Nat)) ∧ Fr Nob W w' from l15_left 60 w.heap.size W x B d ks (by decide) (hs.fr hf)))
  have HFW := Lib.hid (fun W (hf : Fr Nob w W) => l15_few W A c ps (h.pure hf))
  have HS := Lib.hid hs
  have HV := Lib.hid hv
  have HTV := Lib.hid htv
  have HWS := Lib.hid h
  have HLP := Lib.hid (fun (h0 : 0 < left1 x ks.tr 60) => few_of (x := x) (ks := ks.tr) (n := 60) h0)
  clear hs hv htv h
  generalize left1 x ks.tr 60 = n0 at *
  unfold fval at *
  go_enter Tryd.func4, Tryd.ntmps4
  have HB0 := Lib.hid (show Blk (w.alloc (.cells #[.int .i64 x.op, .string x.name, .int .i64 x.cmp, .int .i64 x.val, .int .i64 x.lo, .int .i64 x.hi, .slice B ks.len d] 28)) w.heap.size 28 _ from Blk.new _ _ _)
  go_upto_region 6 with (first
    | ((go_at_call 8); (with_reducible refine (HAW.out _ ((Fr.refl _ _).alloc _)).mono ?_); rintro e w1 ⟨rfl, hf1⟩; have HF1 := Lib.hid (((Fr.refl Nob w).alloc _).call hf1 (fun _ h _ => h)); have HX1 := Lib.hid (HB0.out.fr hf1 (fun e => e)); have xc := HX1.out.cell; have xl := HX1.out.lt; clear hf1)
    | ((go_at_call 9); (with_reducible refine (HLF.out _ HF1.out).mono ?_); rintro e w2 ⟨rfl, hf2⟩; have HF2 := Lib.hid (HF1.out.call hf2 (fun _ h _ => h)); have HX2 := Lib.hid (HX1.out.fr hf2 (fun e => e)); clear hf2)
    | ((go_at_call 10); (with_reducible refine (HFW.out _ HF2.out).mono ?_); rintro e w3 ⟨bf, rfl, hbf, rfl⟩; have HBF := Lib.hid hbf; clear hbf)
    | fail)
  clear xc xl HX1 HF1 HB0 HAW HLF HFW
  have q0 := HX2.out.cell
  have q1 := HX2.out.lt
  by_cases hn : n0 = 0
  · subst hn
    go_wp2_with fail
    go_ret
    exact ⟨rfl, HF2.out⟩
  have hnI : ¬ (n0 : Int) ≤ 0 := by omega
  have hnI2 : (0 : Int) < n0 := by omega
  have hL := HLP.out (by omega)
  cases bf
  · skip
    go_wp2_with fail
    go_ret
    exact ⟨rfl, HF2.out⟩
  have hFW := HBF.out rfl
  have hnw : NmW ps := fun p hp y hy => by have := (hFW.2 p hp).2 y hy; omega
  have h1 := hL.size
  have hfew : ps.length ≤ 1000 := by have := hFW.1; omega
  have HSD := Lib.hid (fun W (hf : Fr Nob w W) => prg_Sound W x B d ks ((HS.out.fr hf).mono hf.size) (by omega) (HV.out.fr hf) hL.names)
  have HRT := Lib.hid (fun W (hf : Fr Nob w W) => wd_Right W A c ps (HWS.out.pure hf) hnw hfew)
  unfold fval at HSD
  by_cases hg : firstW ((Tr.cons x ks.tr .nil).nodes 1) = 0
  · rw [hg] at HSD
    cases hr : wRightB (pts ps)
    · rw [hr] at HRT
      clear hr hg h1 hL hFW hnw hn
      go_wp2_with (first
        | ((go_at_call 15); (with_reducible refine (HSD.out _ HF2.out).mono ?_); rintro e w4 ⟨rfl, hf4⟩; have HF4 := Lib.hid (HF2.out.call hf4 (fun _ h _ => h)))
        | ((go_at_call 16); (with_reducible refine (HRT.out _ HF4.out).mono ?_); rintro e w5 ⟨rfl, hf5⟩)
        | fail)
      go_ret
      exact ⟨rfl, HF4.out.call hf5 (fun _ h _ => h)⟩
    · rw [hr] at HRT
      have HW := Lib.hid (rise_of hr h63)
      obtain ⟨hg1, hg2⟩ := (good_first x ks.tr).1 hg
      have HMG := Lib.hid (madeS_good hg1 hg2)
      have HMS := Lib.hid (made_sound hg1 hg2)
      have hml : (rowA x ks.tr (pts ps) 9223372036854775807).length = ps.length := by
        unfold rowA; rw [if_pos ⟨hg, hr, by decide⟩, rowS_len, pts_len]
      have htl : (rowBA x ks.tr (pts ps)).length = ps.length := by
        unfold rowBA; rw [if_pos ⟨hg, hr⟩, rowTS_len, pts_len]
      have HROW := Lib.hid (fun W (hf : Fr Nob w W) => (th_Row W x B d ks ((HS.out.fr hf).mono hf.size) (by omega) (HV.out.fr hf) (HTV.out.fr hf) hL.names A c ps (HWS.out.pure hf) hnw h63 hfew 9223372036854775807).mono fun e w' h => IMade.n h hml)
      have HTRU := Lib.hid (fun W (hf : Fr Nob w W) => (tr_Row W x B d ks ((HS.out.fr hf).mono hf.size) (by omega) (HV.out.fr hf) hL.names A c ps (HWS.out.pure hf) hnw h63 hfew).mono fun e w' h => BMade.n h htl)
      have HRM := Lib.hid (fun W (hf : Fr Nob w W) => th_Row W x B d ks ((HS.out.fr hf).mono hf.size) (by omega) (HV.out.fr hf) (HTV.out.fr hf) hL.names A c ps (HWS.out.pure hf) hnw h63 hfew mark)
      have HOF := Lib.hid (fun W (hf : Fr Nob w W) => n_Of W x B d ks ((HS.out.fr hf).mono hf.size) (by omega) (HV.out.fr hf) hL.names hg)
      have HRN := Lib.hid (fun W (hf : Fr Nob w W) (y : Nd) (C : Option Addr) (f : Nat) (js : Fo) (hy : (y, js.tr) = madeS x ks.tr) (hjs : FoSl W.heap.size W C f js) => (show Calls Tryd.prog 11 #[fval y C js.len f, .slice A ps.length c, .int .i64 mark] W fun e w' => IMade W w' e (rowA x ks.tr (pts ps) mark) from by
        have hy1 : y = (madeS x ks.tr).1 := by rw [← hy]
        have hy2 : js.tr = (madeS x ks.tr).2 := by rw [← hy]
        have hjz : js.tr.size ≤ 4000 := by have := HMG.out.2; rw [hy2]; unfold szS at this; omega
        have hgood := HMS.out
        rw [← hy1, ← hy2] at hgood
        have := th_Row W y C f js hjs hjz (HV.out.fr hf) (HTV.out.fr hf) (fun z hz => by
          have := shortN_nodes (.cons y js.tr .nil) ⟨name_short hgood.1, good_short hgood.2, trivial⟩ 1 z hz
          omega) A c ps (HWS.out.pure hf) hnw h63 hfew mark
        rw [hy1, hy2, rowA_made _ _ hg] at this
        rw [hy1]
        exact this))
      have HST := Lib.hid (fun W A1 c1 A2 c2 (h1 : Sl W 1 A1 (rowA x ks.tr (pts ps) mark).length c1 ((rowA x ks.tr (pts ps) mark).map ivI)) (h2 : Sl W 1 A2 (rowA x ks.tr (pts ps) mark).length c2 ((rowA x ks.tr (pts ps) mark).map ivI)) => l15_stays W A1 c1 _ A2 c2 _ h1 h2 rfl (rowA_tri _ _ _ _) (fun _ _ => .inr rfl))
      have HVAL := Lib.hid (show ∀ i, i < ps.length → xAt (rowA x ks.tr (pts ps) 9223372036854775807) i = b2i (bAt (rowBA x ks.tr (pts ps)) i) from fun i hi => by
        have h2 := last_rowS HW.out (madeS x ks.tr) HMG.out.1 (i := i) (by rw [pts_len]; exact hi)
        unfold last63 at h2
        unfold rowA rowBA
        rw [if_pos ⟨hg, hr, by decide⟩, if_pos ⟨hg, hr⟩, h2, ← madeS_row hg1 hg2 (by rw [pts_len]; exact hi)]
        rfl)
      unfold fval at HROW HTRU HRM HOF HRN
      have HLM := Lib.hid hml
      have HLT := Lib.hid htl
      generalize rowA x ks.tr (pts ps) 9223372036854775807 = lx at *
      generalize rowBA x ks.tr (pts ps) = ly at *
      generalize rowA x ks.tr (pts ps) mark = lm at *
      generalize madeS x ks.tr = md at *
      clear hr hg hg1 hg2 h1 hL hFW hnw hn hml htl h63
      go_upto_region 8 with (first
        | ((go_at_call 15); (with_reducible refine (HSD.out _ HF2.out).mono ?_); rintro e w4 ⟨rfl, hf4⟩; have HF4 := Lib.hid (HF2.out.call hf4 (fun _ h _ => h)); have HX4 := Lib.hid (HX2.out.fr hf4 (fun e => e)))
        | ((go_at_call 16); (with_reducible refine (HRT.out _ HF4.out).mono ?_); rintro e w5 ⟨rfl, hf5⟩; have HF5 := Lib.hid (HF4.out.call hf5 (fun _ h _ => h)); have HX5 := Lib.hid (HX4.out.fr hf5 (fun e => e)); have p0 := HX5.out.cell; have p1 := HX5.out.lt)
        | fail)
      clear q0 q1 hf4 hf5 HF2 HX2 HF4 HX4 HSD HRT
      go_upto_region 12 with (first
        | ((go_at_call 11); (with_reducible refine (HROW.out _ HF5.out).mono ?_); rintro e w6 ⟨XA, cX, rfl, hxs, hf6⟩; have HF6 := Lib.hid (HF5.out.call hf6 (fun _ h _ => h)); have HX6 := Lib.hid (HX5.out.fr hf6 (fun e => e)); have p0 := HX6.out.cell; have p1 := HX6.out.lt; have HXS := Lib.hid hxs; clear hxs hf6)
        | ((go_at_call 17); (with_reducible refine (HTRU.out _ HF6.out).mono ?_); rintro e w7 ⟨YA, cY, rfl, hys, hf7⟩; have HF7 := Lib.hid (HF6.out.call hf7 (fun _ h _ => h)); have HX7 := Lib.hid (HX6.out.fr hf7 (fun e => e)); have HXS7 := Lib.hid (HXS.out.pure hf7); have HYS := Lib.hid hys; clear hys hf7)
        | fail)
      clear p0 p1 HF5 HX5 HF6 HX6 HXS HROW HTRU
      go_wp2_with fail
      go_loopw [12] (fun iv wr => ∃ i : Nat, i ≤ ps.length ∧ iv = .int .i64 i ∧ Hid (Fr Nob w7 wr)) (fun iv _ => ps.length - (intOf iv).toNat)
      case atStart => exact ⟨0, Nat.zero_le _, rfl, Lib.hid (Fr.refl _ _)⟩
      case round =>
        obtain ⟨i, hi, rfl, hfr⟩ := hrel
        by_cases hlt : i < ps.length
        · have hI2 : (i : Int) < ps.length := by omega
          have hI3 : 0 ≤ (i : Int) := by omega
          obtain ⟨b1, u1, rfl, hb1, d0⟩ := row_at (L := lx) (c := cX) (A := XA) (by rw [HLM.out]; exact HXS7.out.pure hfr.out) (k := i) (by rw [HLM.out]; exact hlt)
          obtain ⟨b2, u2, rfl, hb2, e0⟩ := rowb_at (L := ly) (c := cY) (A := YA) (by rw [HLT.out]; exact HYS.out.pure hfr.out) (k := i) (by rw [HLT.out]; exact hlt)
          have hv := HVAL.out i hlt
          rw [hv] at d0
          cases hbt : bAt ly i
          all_goals
            rw [hbt] at d0 e0
            unfold b2i at d0
            simp only [if_true, if_false, Bool.false_eq_true] at d0
            clear hv hbt
            go_wp2_with fail
            go_quiet (fail)
            go_wp2_with fail
            go_roundw
            case rel => exact ⟨i + 1, by omega, by go_num, Lib.hid (hfr.out.drewN _)⟩
            case measure => simp [intOf]; omega
        · have hlt3 : ¬ (i : Int) < ps.length := by omega
          have HF9 := Lib.hid (HF7.out.call hfr.out (fun _ h _ => h))
          have HX9 := Lib.hid (HX7.out.fr hfr.out (fun e => e))
          have p0 := HX9.out.cell
          have p1 := HX9.out.lt
          clear HX7 HF7 HXS7 HYS HVAL hfr
          go_wp2_with (first
            | ((go_at_call 11); (with_reducible refine (HRM.out _ HF9.out).mono ?_); rintro e w10 ⟨A1, c1, rfl, hs1, hf10⟩; have HF10 := Lib.hid (HF9.out.call hf10 (fun _ h _ => h)); have HX10 := Lib.hid (HX9.out.fr hf10 (fun e => e)); have p0 := HX10.out.cell; have p1 := HX10.out.lt; have HS1 := Lib.hid hs1; clear hs1 hf10)
            | ((go_at_call 18); (with_reducible refine (HOF.out _ HF10.out).mono ?_); rintro e w11 ⟨o1, n1, m1, v1, l1, i1, C1, f1, k1, rfl, he, hs2, hf11⟩; have HF11 := Lib.hid (HF10.out.call hf11 (fun _ h _ => h)); have HS11 := Lib.hid (HS1.out.pure hf11); have HR := Lib.hid (HRN.out w11 HF11.out ⟨o1, n1, m1, v1, l1, i1⟩ C1 f1 k1 he hs2.whole); dsimp only at HR; clear he hs2 hf11)
            | ((go_at_call 11); (with_reducible refine (HR.out).mono ?_); rintro e w12 ⟨A2, c2, rfl, hs2, hf12⟩; have HF12 := Lib.hid (HF11.out.call hf12 (fun _ h _ => h)); have HS12 := Lib.hid (HS11.out.pure hf12); have HS2 := Lib.hid hs2; clear hs2 hf12)
            | ((go_at_call 19); (with_reducible refine (HST.out _ _ _ _ _ HS12.out HS2.out).mono ?_); rintro e w13 ⟨rfl, hf13⟩; have HF13 := Lib.hid (HF12.out.call hf13 (fun _ h _ => h)); have HSA := Lib.hid (HS12.out.pure hf13); have HSB := Lib.hid (HS2.out.pure hf13); clear hf13)
            | ((go_at_call 19); (with_reducible refine (HST.out _ _ _ _ _ HSB.out HSA.out).mono ?_); rintro e w14 ⟨rfl, hf14⟩)
            | fail)
          go_ret
          exact ⟨rfl, HF13.out.call hf14 (fun _ h _ => h)⟩
  · have hg' : (firstW ((Tr.cons x ks.tr .nil).nodes 1) == 0) = false := by simpa using hg
    rw [hg'] at HSD
    clear hg hg' h1 hL hFW hnw hn
    go_wp2_with (first
      | ((go_at_call 15); (with_reducible refine (HSD.out _ HF2.out).mono ?_); rintro e w4 ⟨rfl, hf4⟩)
      | fail)
    go_ret
    exact ⟨rfl, HF2.out.call hf4 (fun _ h _ => h)⟩
end Go.Proofs.YtkmicfjcikilhaaDoor
