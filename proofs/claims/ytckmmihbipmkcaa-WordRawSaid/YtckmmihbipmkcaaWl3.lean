/- WordRaw: any points. -/
import Derived.Test.YtckmmihbipmkcaaWl2
namespace Go.Proofs.Ytckmmihbipmkcaa
open Go.RowKit Go.Sort Go.Lib Go.Shelf

def fewW (ps : List Pn) (k : Nat) : Bool := (ps.take k).all fun p => shortB 20 p.l
theorem fewW_succ {ps : List Pn} {k : Nat} (hk : k < ps.length) : fewW ps (k + 1) = (fewW ps k && shortB 20 ps[k].l) := by
  unfold fewW
  rw [List.take_succ_eq_append_getElem hk, List.all_append]; simp
theorem fewW_all {ps : List Pn} (h : fewW ps ps.length = true) : ∀ p ∈ ps, p.l.length ≤ 20 ∧ ∀ x ∈ p.l, x.name.size ≤ 40 := by
  unfold fewW at h
  rw [List.take_length, List.all_eq_true] at h
  exact fun p hp => short_imp (h p hp)
set_option maxRecDepth 100000 in
set_option maxHeartbeats 8000000 in
theorem law_WRaw (w : World) (A : Option Addr) (c : Nat) (ps : List Pn) (B : Option Addr) (d : Nat) (qs : List Pn) (t : Int) (D : Option Addr) (f : Nat) (l : List PP) (h : WSl w A c ps) (k : WSl w B d qs) (hl : Sl w 2 D l.length f (l.flatMap pcs)) :
    Calls Try.prog 4 #[.slice A ps.length c, .slice B qs.length d, .int .i64 t, .slice D l.length f] w fun e w' => e = .returned (.bool true) ∧ Fr Nob w w' := by
  have HA := Lib.hid h
  have HB := Lib.hid k
  have HL := Lib.hid hl
  clear h k hl
  go_enter Try.func4, Try.ntmps4
  go_wp2_with fail
  refine (law_wawake _).mono ?_
  rintro e w1 ⟨rfl, hf⟩
  have F1 := Lib.hid hf
  clear hf
  by_cases hp20 : 20 < ps.length
  · have hI : (20 : Int) < ps.length := by omega
    go_wp2_with fail
    go_ret
    exact ⟨rfl, F1.out⟩
  by_cases hq20 : 20 < qs.length
  · have hI : (20 : Int) < qs.length := by omega
    have hI1 : ¬ (20 : Int) < ps.length := by omega
    go_wp2_with fail
    go_ret
    exact ⟨rfl, F1.out⟩
  have hI1 : ¬ (20 : Int) < ps.length := by omega
  have hI2 : ¬ (20 : Int) < qs.length := by omega
  have HSL := Lib.hid (law_short w1 D f l (HL.out.pure F1.out))
  obtain ⟨sl, hsl⟩ : ∃ b, shortB 20 l = b := ⟨_, rfl⟩
  rw [hsl] at HSL
  have HSB := Lib.hid hsl
  clear hsl
  go_wp2_with (first | ((go_at_call 16); (with_reducible refine (HSL.out).mono ?_); rintro e w2 ⟨rfl, hw2⟩; obtain rfl := hw2.symm))
  go_loop [10, 11] (fun ov i => ∃ (k : Nat) (o : Bool), k ≤ ps.length ∧ i = .int .i64 k ∧ ov = .bool o ∧ Hid (o = (sl && fewW ps k))) (fun _ i => ps.length - (intOf i).toNat)
  case atStart => exact ⟨0, sl, Nat.zero_le _, rfl, rfl, Lib.hid (by simp [fewW])⟩
  case round =>
    obtain ⟨k, o, hk, rfl, rfl, HK⟩ := hrel
    by_cases hlt : k < ps.length
    · have hJ2 : (k : Int) < ps.length := by omega
      have hJ3 : 0 ≤ (k : Int) := by omega
      obtain ⟨ba, off, hA, hba, d0, d1⟩ := (HA.out.pure F1.out).at_ hlt
      subst hA
      have HSH := Lib.hid (law_short w1 ps[k].A ps[k].c ps[k].l ((HA.out.pure F1.out).inn _ (List.getElem_mem hlt)))
      have HE := Lib.hid (show ∀ b, (o && shortB 20 ps[k].l) = b → b = (sl && fewW ps (k + 1)) from fun b hb => by rw [← hb, fewW_succ hlt, HK.out, Bool.and_assoc])
      generalize ps[k] = x at *
      obtain ⟨xt, xA, xc, xl⟩ := x
      dsimp only at d0 d1 HSH HE
      generalize shortB 20 xl = sb at *
      cases o
      all_goals
        go_wp2_with (first | ((go_at_call 16); (with_reducible refine (HSH.out).mono ?_); rintro e w2 ⟨rfl, hw2⟩; obtain rfl := hw2.symm))
        go_round
        case rel => exact ⟨k + 1, _, by omega, by go_num, rfl, Lib.hid (HE.out _ (by simp))⟩
        case measure => simp [intOf]; omega
    · obtain rfl : k = ps.length := by omega
      rename Bool => o1
      have HO1 := HK
      clear HK hlt hk
      go_wp2_with fail
      go_loop [10, 13] (fun ov i => ∃ (k : Nat) (o : Bool), k ≤ qs.length ∧ i = .int .i64 k ∧ ov = .bool o ∧ Hid (o = (o1 && fewW qs k))) (fun _ i => qs.length - (intOf i).toNat)
      case atStart => exact ⟨0, o1, Nat.zero_le _, rfl, rfl, Lib.hid (by simp [fewW])⟩
      case round =>
        obtain ⟨k, o, hk, rfl, rfl, HK⟩ := hrel
        by_cases hlt : k < qs.length
        · have hJ2 : (k : Int) < qs.length := by omega
          have hJ3 : 0 ≤ (k : Int) := by omega
          obtain ⟨ba, off, hA, hba, d0, d1⟩ := (HB.out.pure F1.out).at_ hlt
          subst hA
          have HSH := Lib.hid (law_short w1 qs[k].A qs[k].c qs[k].l ((HB.out.pure F1.out).inn _ (List.getElem_mem hlt)))
          have HE := Lib.hid (show ∀ b, (o && shortB 20 qs[k].l) = b → b = (o1 && fewW qs (k + 1)) from fun b hb => by rw [← hb, fewW_succ hlt, HK.out, Bool.and_assoc])
          generalize qs[k] = x at *
          obtain ⟨xt, xA, xc, xl⟩ := x
          dsimp only at d0 d1 HSH HE
          generalize shortB 20 xl = sb at *
          cases o
          all_goals
            go_wp2_with (first | ((go_at_call 16); (with_reducible refine (HSH.out).mono ?_); rintro e w2 ⟨rfl, hw2⟩; obtain rfl := hw2.symm))
            go_round
            case rel => exact ⟨k + 1, _, by omega, by go_num, rfl, Lib.hid (HE.out _ (by simp))⟩
            case measure => simp [intOf]; omega
        · obtain rfl : k = qs.length := by omega
          rename Bool => o2
          have HO2 := HK
          clear HK hlt hk
          cases o2
          · go_wp2_with fail
            go_ret
            exact ⟨rfl, F1.out⟩
          · have hall := HO2.out
            rw [HO1.out] at hall
            have hall2 := hall.symm
            simp only [Bool.and_eq_true] at hall2
            obtain ⟨⟨h1, h2⟩, h3⟩ := hall2
            rw [← HSB.out] at h1
            have hl1 := short_imp h1
            have hp1 := fewW_all h2
            have hq1 := fewW_all h3
            have hnp : NmW ps := fun p hp x hx => Nat.le_trans ((hp1 p hp).2 x hx) (by decide)
            have hnl : ∀ x ∈ l, x.name.size ≤ 9223372036854775807 := fun x hx => Nat.le_trans (hl1.2 x hx) (by decide)
            have hnq : NmW qs := fun p hp x hx => Nat.le_trans ((hq1 p hp).2 x hx) (by decide)
            have HM := Lib.hid (law_points w1 A c ps (HA.out.pure F1.out) (by omega))
            have HPU := Lib.hid (fun X (hf : Fr Nob w X) => wd_Put X A c ps t D f l (HA.out.pure hf) hnp (by omega) (fun p hp => by have := (hp1 p hp).1; omega) (HL.out.pure hf) hnl (by omega))
            have HRP := Lib.hid (fun X (hf : Fr Nob w X) A1 c1 (hs : WSl X A1 c1 ps) => rw_Put X A1 c1 ps t D f l hs hnp (by omega) (fun p hp => by have := (hp1 p hp).1; omega) (HL.out.pure hf) hnl (by omega))
            have HRI := Lib.hid (fun X (hf : Fr Nob w X) => wd_Right X A c ps (HA.out.pure hf) hnp (by omega))
            have HRR := Lib.hid (fun X A1 c1 (hs : WSl X A1 c1 ps) => rw_Right X A1 c1 ps hs hnp (by omega))
            have HFM := Lib.hid (fun X (hf : Fr Nob w X) => wd_From X A c ps t (HA.out.pure hf) hnp (by omega))
            have HRF := Lib.hid (fun X A1 c1 (hs : WSl X A1 c1 ps) => rw_From X A1 c1 ps t hs hnp (by omega))
            have HSA := Lib.hid (fun X (hf : Fr Nob w X) => wd_Same X A c ps B d qs (HA.out.pure hf) (HB.out.pure hf) (by omega))
            have HRS := Lib.hid (fun X A1 c1 A2 c2 (hs : WSl X A1 c1 ps) (hs2 : WSl X A2 c2 qs) => rw_Same X A1 c1 ps A2 c2 qs hs hs2 (by omega))
            have HPV := Lib.hid (fun X (hf : Fr Nob w X) => law_points X B d qs (HB.out.pure hf) (by omega))
            have hql : (putW (pts ps) t l).1.length ≤ 21 := by have := putW_len (pts ps) t l; rw [pts_len] at this; omega
            generalize putW (pts ps) t l = pq at *
            obtain ⟨pw, pk, pb⟩ := pq
            unfold PutR at HPU
            unfold RPut at HRP
            dsimp only at HPU HRP hql
            have HPX := Lib.hid (fun X A1 c1 (xs : List Pn) (hx : pts xs = pw) (hs : WSl X A1 c1 xs) => law_points X A1 c1 xs hs (by have := congrArg List.length hx; rw [pts_len] at this; omega))
            have HSX := Lib.hid (fun X A1 c1 A2 c2 (xs ys : List Pn) (hx : pts xs = pw) (hy : pts ys = pw) (hs : WSl X A1 c1 xs) (hs2 : WSl X A2 c2 ys) => (show Calls Try.prog 12 #[.slice A1 xs.length c1, .slice A2 ys.length c2] X fun e w' => e = .returned (.bool true) ∧ Fr Nob X w' by
              have := rw_Same X A1 c1 xs A2 c2 ys hs hs2 (by have := congrArg List.length hx; rw [pts_len] at this; omega)
              rwa [hx, hy, show sameW pw pw = true by unfold sameW; simp] at this))
            generalize wRightB (pts ps) = rb at *
            generalize fromW (pts ps) t = fv at *
            generalize sameW (pts ps) (pts qs) = sv at *
            clear hall h1 h2 h3 hl1 hp1 hq1 hnp hnl hnq hql HSL HSB HO1 HO2
            go_wp2_with (first
              | ((go_at_call 13); (with_reducible refine (HM.out).mono ?_); rintro e w3 ⟨A1, c1, rfl, hs3, hf3⟩; have S3 := Lib.hid hs3; have F3 := Lib.hid (F1.out.call hf3 (fun _ h _ => h)); clear hs3 hf3)
              | ((go_at_call 10); (with_reducible refine (HPU.out _ F3.out).mono ?_); rintro e w4 ⟨A2, c2, xs, rfl, hx, hfr, hf4⟩; have HX := Lib.hid hx; have S4 := Lib.hid hfr.wsl; replace S3 := Lib.hid (S3.out.pure hf4); have F4 := Lib.hid (F3.out.call hf4 (fun _ h _ => h)); clear hx hfr hf4)
              | ((go_at_call 11); (with_reducible refine (HRP.out _ F4.out _ _ S3.out).mono ?_); rintro e w5 ⟨A3, c3, ys, rfl, hy, hs5, hf5⟩; have HY := Lib.hid hy; have S5 := Lib.hid hs5; replace S3 := Lib.hid (S3.out.pure hf5); replace S4 := Lib.hid (S4.out.pure hf5); have F5 := Lib.hid (F4.out.call hf5 (fun _ h _ => h)); clear hy hs5 hf5)
              | ((go_at_call 14); (with_reducible refine (HRI.out _ F5.out).mono ?_); rintro e w6 ⟨rfl, hf6⟩; have G6 := Lib.hid hf6; have F6 := Lib.hid (F5.out.call hf6 (fun _ h _ => h)); clear hf6)
              | ((go_at_call 17); (with_reducible refine (HRR.out _ _ _ (S3.out.pure G6.out)).mono ?_); rintro e w7 ⟨rfl, hf7⟩; have G7 := Lib.hid (G6.out.call hf7 (fun _ h _ => h)); have F7 := Lib.hid (F6.out.call hf7 (fun _ h _ => h)); clear hf7)
              | ((go_at_call 18); (with_reducible refine (HFM.out _ F7.out).mono ?_); rintro e w8 ⟨rfl, hf8⟩; have G8 := Lib.hid (G7.out.call hf8 (fun _ h _ => h)); have F8 := Lib.hid (F7.out.call hf8 (fun _ h _ => h)); clear hf8)
              | ((go_at_call 19); (with_reducible refine (HRF.out _ _ _ (S3.out.pure G8.out)).mono ?_); rintro e w9 ⟨rfl, hf9⟩; have G9 := Lib.hid (G8.out.call hf9 (fun _ h _ => h)); have F9 := Lib.hid (F8.out.call hf9 (fun _ h _ => h)); clear hf9)
              | ((go_at_call 13); (with_reducible refine (HPX.out _ _ _ _ HX.out (S4.out.pure G9.out)).mono ?_); rintro e wa ⟨Aa, ca, rfl, hsa, hfa⟩; have Sa := Lib.hid hsa; have Ga := Lib.hid (G9.out.call hfa (fun _ h _ => h)); have Fa := Lib.hid (F9.out.call hfa (fun _ h _ => h)); clear hsa hfa)
              | ((go_at_call 12); (with_reducible refine (HSX.out _ _ _ _ _ _ _ HX.out HY.out Sa.out (S5.out.pure Ga.out)).mono ?_); rintro e wb ⟨rfl, hfb⟩; have Gb := Lib.hid (Ga.out.call hfb (fun _ h _ => h)); have Fb := Lib.hid (Fa.out.call hfb (fun _ h _ => h)); clear hfb)
              | ((go_at_call 20); (with_reducible refine (HSA.out _ Fb.out).mono ?_); rintro e wc ⟨rfl, hfc⟩; have Gc := Lib.hid (Gb.out.call hfc (fun _ h _ => h)); have Fc := Lib.hid (Fb.out.call hfc (fun _ h _ => h)); clear hfc)
              | ((go_at_call 13); (with_reducible refine (HPV.out _ Fc.out).mono ?_); rintro e wd ⟨Ad, cd, rfl, hsd, hfd⟩; have Sd := Lib.hid hsd; have Gd := Lib.hid (Gc.out.call hfd (fun _ h _ => h)); have Fd := Lib.hid (Fc.out.call hfd (fun _ h _ => h)); clear hsd hfd)
              | ((go_at_call 12); (with_reducible refine (HRS.out _ _ _ _ _ (S3.out.pure Gd.out) Sd.out).mono ?_); rintro e we ⟨rfl, hfe⟩; have Fe := Lib.hid (Fd.out.call hfe (fun _ h _ => h)); clear hfe))
            go_ret
            exact ⟨rfl, Fe.out⟩
end Go.Proofs.Ytckmmihbipmkcaa
