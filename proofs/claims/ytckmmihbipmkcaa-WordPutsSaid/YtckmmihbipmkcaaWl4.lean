/- WordPuts: events one by one. -/
import Derived.Test.YtckmmihbipmkcaaWl2
namespace Go.Proofs.Ytckmmihbipmkcaa
open Go.RowKit Go.Sort Go.Lib Go.Shelf

/-- How far the events are put in, in the program's word and the model's. -/
structure PtI (w : World) (E : List Pt) (k : Nat) (A1 : Option Addr) (c1 : Nat) (xs : List Pn) (A2 : Option Addr) (c2 : Nat) (ys : List Pn) (wr : World) : Prop where
  fr : Fr Nob w wr
  sx : WSl wr A1 c1 xs
  sy : WSl wr A2 c2 ys
  ex : pts xs = wordP (E.take k)
  ey : pts ys = wordP (E.take k)
theorem take_pt {E : List Pt} {k n : Nat} (h1 : E.length ≤ 30) (h2 : ∀ e ∈ E, e.2.length ≤ n) : (E.take k).length ≤ 30 ∧ ∀ e ∈ E.take k, e.2.length ≤ n := by
  exact ⟨by rw [List.length_take]; omega, fun e he => h2 e (List.mem_of_mem_take he)⟩
theorem PtI.okx {w wr : World} {E : List Pt} {k : Nat} {A1 A2 : Option Addr} {c1 c2 : Nat} {xs ys : List Pn} (h : PtI w E k A1 c1 xs A2 c2 ys wr) (h3 : ∀ e ∈ E, ∀ x ∈ e.2, x.name.size ≤ 40) : WOk xs (E.take k) := WOk.mk' h.ex fun e he => h3 e (List.mem_of_mem_take he)
theorem PtI.oky {w wr : World} {E : List Pt} {k : Nat} {A1 A2 : Option Addr} {c1 c2 : Nat} {xs ys : List Pn} (h : PtI w E k A1 c1 xs A2 c2 ys wr) (h3 : ∀ e ∈ E, ∀ x ∈ e.2, x.name.size ≤ 40) : WOk ys (E.take k) := WOk.mk' h.ey fun e he => h3 e (List.mem_of_mem_take he)
theorem WOk.few {qs : List Pn} {E : List Pt} (h : WOk qs E) (h1 : E.length ≤ 30) (h2 : ∀ e ∈ E, e.2.length ≤ 20) : qs.length ≤ 30 ∧ ∀ p ∈ qs, p.l.length ≤ 600 := by
  refine ⟨Nat.le_trans h.len h1, fun p hp => Nat.le_trans (h.pl h2 p hp) ?_⟩
  have := Nat.mul_le_mul_right 20 h1
  omega
set_option maxRecDepth 100000 in
set_option maxHeartbeats 8000000 in
theorem law_WPuts (w : World) (A : Option Addr) (c : Nat) (es : List Ev) (h : ESl w A c es) :
    Calls Try.prog 3 #[.slice A es.length c] w fun e w' => e = .returned (.bool true) ∧ Fr Nob w w' := by
  have HL := Lib.hid h
  clear h
  go_enter Try.func3, Try.ntmps3
  go_wp2_with fail
  refine (law_wawake _).mono ?_
  rintro e w1 ⟨rfl, hf⟩
  have F1 := Lib.hid hf
  clear hf
  have HFW := Lib.hid (fun X (hf : Fr Nob w X) => law_fewE X A c es (HL.out.pure hf))
  cases hfe : fewE es
  · rw [hfe] at HFW
    clear hfe
    go_wp2_with (first
      | ((go_at_call 9); (with_reducible refine (HFW.out _ F1.out).mono ?_); rintro e w2 ⟨rfl, rfl⟩))
    go_ret
    exact ⟨rfl, F1.out⟩
  · rw [hfe] at HFW
    obtain ⟨o1, o2, o3⟩ := fewE_of hfe
    have HQ := Lib.hid (fewE_pt hfe)
    have HO := Lib.hid (fun X (hf : Fr Nob w X) => wd_Of X A c es (HL.out.pure hf) o1 o2 o3)
    have HN := Lib.hid o1
    unfold OfD at HO
    clear hfe o1 o2 o3
    go_wp2_with (first
      | ((go_at_call 9); (with_reducible refine (HFW.out _ F1.out).mono ?_); rintro e w2 ⟨rfl, hw2⟩; obtain rfl := hw2.symm))
    obtain ⟨E, hE⟩ : ∃ E, es.map Ev.pt = E := ⟨_, rfl⟩
    rw [hE] at HQ HO
    have HE := Lib.hid hE
    have hes : es.length ≤ 30 := by have := HQ.out.1; rw [← HE.out] at this; simpa using this
    clear hE
    go_loopw [5, 6, 7] (fun xv yv iv wr => ∃ (k : Nat) (A1 : Option Addr) (c1 : Nat) (xs : List Pn) (A2 : Option Addr) (c2 : Nat) (ys : List Pn), k ≤ es.length ∧ iv = .int .i64 k ∧ xv = .slice A1 xs.length c1 ∧ yv = .slice A2 ys.length c2 ∧ Hid (PtI w E k A1 c1 xs A2 c2 ys wr)) (fun _ _ iv _ => es.length - (intOf iv).toNat)
    case atStart => exact ⟨0, none, 0, [], none, 0, [], Nat.zero_le _, rfl, rfl, rfl, Lib.hid ⟨F1.out, ⟨Sl.none_ _ _, (fun p hp => by cases hp)⟩, ⟨Sl.none_ _ _, (fun p hp => by cases hp)⟩, rfl, rfl⟩⟩
    case round =>
      obtain ⟨k, A1, c1, xs, A2, c2, ys, hk, rfl, rfl, rfl, hi⟩ := hrel
      rename World => wr
      by_cases hlt : k < es.length
      · have hJ2 : (k : Int) < es.length := by omega
        have hJ3 : 0 ≤ (k : Int) := by omega
        have hkE : k < E.length := by rw [← HE.out]; simpa using hlt
        obtain ⟨b, off, rfl, hb, d0, d1, d2⟩ := ev_at rfl (HL.out.pure hi.out.fr).sl hlt
        have okx := hi.out.okx HQ.out.2.2
        have oky := hi.out.oky HQ.out.2.2
        obtain ⟨t1, t2⟩ := take_pt (k := k) HQ.out.1 HQ.out.2.1
        obtain ⟨fx1, fx2⟩ := okx.few t1 t2
        obtain ⟨fy1, fy2⟩ := oky.few t1 t2
        have hEk : E[k] = es[k].pt := by simp only [← HE.out]; simp
        have hl20 : es[k].l.length ≤ 20 := by
          have := HQ.out.2.1 E[k] (List.getElem_mem hkE)
          rw [hEk] at this; exact this
        have hnl := HN.out _ (List.getElem_mem hlt)
        have HPU := Lib.hid (fun X (hf : Fr Nob wr X) => wd_Put X A1 c1 xs es[k].t es[k].A es[k].c es[k].l (hi.out.sx.pure hf) okx.nm (by omega) (fun p hp => by have := fx2 p hp; omega) (((HL.out.inn _ (List.getElem_mem hlt)).pure hi.out.fr).pure hf) hnl (by omega))
        have HRP := Lib.hid (fun X (hf : Fr Nob wr X) => rw_Put X A2 c2 ys es[k].t es[k].A es[k].c es[k].l (hi.out.sy.pure hf) oky.nm (by omega) (fun p hp => by have := fy2 p hp; omega) (((HL.out.inn _ (List.getElem_mem hlt)).pure hi.out.fr).pure hf) hnl (by omega))
        rw [hi.out.ex] at HPU
        rw [hi.out.ey] at HRP
        have HW := Lib.hid (show wordP (E.take (k + 1)) = (putW (wordP (E.take k)) es[k].t es[k].l).1 by rw [wordP_take_succ hkE, hEk]; rfl)
        have hlen := wordP_len (E.take (k + 1))
        have hri : wRightB (wordP (E.take (k + 1))) = true := (wordP_is _).right
        rw [HW.out] at hlen hri
        have hlen2 : (putW (wordP (E.take k)) es[k].t es[k].l).1.length ≤ 31 := by rw [List.length_take] at hlen; omega
        have HRI := Lib.hid hri
        have hnmq : ∀ zs : List Pn, pts zs = (putW (wordP (E.take k)) es[k].t es[k].l).1 → NmW zs := fun zs hz => (WOk.mk' (E := E.take (k + 1)) (hz.trans HW.out.symm) (fun e he => HQ.out.2.2 e (List.mem_of_mem_take he))).nm
        have HNQ := Lib.hid hnmq
        have HF := Lib.hid hi.out.fr
        clear hi okx oky t1 t2 fx1 fx2 fy1 fy2 hEk hnl hlen hri hnmq hl20
        generalize putW (wordP (E.take k)) es[k].t es[k].l = pq at *
        generalize es[k] = ev at *
        obtain ⟨vs, vt, vA, vc, vl⟩ := ev
        obtain ⟨pw, pk, pb⟩ := pq
        unfold PutR at HPU
        unfold RPut at HRP
        dsimp only at d0 d1 d2 HPU HRP HW hlen2 HRI HNQ
        have HPX := Lib.hid (fun X A1 c1 (xs : List Pn) (hx : pts xs = pw) (hs : WSl X A1 c1 xs) => law_points X A1 c1 xs hs (by have := congrArg List.length hx; rw [pts_len] at this; omega))
        have HSX := Lib.hid (fun X A1 c1 A2 c2 (xs ys : List Pn) (hx : pts xs = pw) (hy : pts ys = pw) (hs : WSl X A1 c1 xs) (hs2 : WSl X A2 c2 ys) => (show Calls Try.prog 12 #[.slice A1 xs.length c1, .slice A2 ys.length c2] X fun e w' => e = .returned (.bool true) ∧ Fr Nob X w' by
          have := rw_Same X A1 c1 xs A2 c2 ys hs hs2 (by have := congrArg List.length hx; rw [pts_len] at this; omega)
          rwa [hx, hy, show sameW pw pw = true by unfold sameW; simp] at this))
        have HRR := Lib.hid (fun X A1 c1 (xs : List Pn) (hx : pts xs = pw) (hs : WSl X A1 c1 xs) => (show Calls Try.prog 14 #[.slice A1 xs.length c1] X fun e w' => e = .returned (.bool true) ∧ Fr Nob X w' by
          have := wd_Right X A1 c1 xs hs (HNQ.out xs hx) (by have := congrArg List.length hx; rw [pts_len] at this; omega)
          rwa [hx, HRI.out] at this))
        go_upto_region 12 with fail
        go_region_held3 (fun w' => w'.cell? ⟨b, off + k * 3 + 1, none⟩ = some (.int .i64 vt) ∧ w'.cell? ⟨b, off + k * 3 + 2, none⟩ = some (.slice vA vl.length vc))
          (first | (go_split_ands; refine ⟨?_, ?_⟩ <;> with_reducible exact Fr.cell hf4 (by assumption) (fun e => e)) | go_keep)
          (first
            | ((go_at_call 10); (with_reducible refine (HPU.out _ ((Fr.refl Nob _).drew)).mono ?_); rintro e w4 ⟨A4, c4, zs, rfl, hx, hfr, hf4⟩; have HX := Lib.hid hx; have S4 := Lib.hid hfr.wsl; have F4 := Lib.hid hf4))
        have hcells : w4.cell? ⟨b, off + k * 3 + 1, none⟩ = some (.int .i64 vt) ∧ w4.cell? ⟨b, off + k * 3 + 2, none⟩ = some (.slice vA vl.length vc) := by assumption
        obtain ⟨e1, e2⟩ := hcells
        have hb4 := Nat.lt_of_lt_of_le hb hf4.size
        replace F4 := Lib.hid (((Fr.refl Nob wr).drew).call hf4 (fun _ h _ => h))
        clear hx hfr hf4 d0 d1 d2
        go_upto_region 13 with fail
        go_region_held3 (fun w' => w'.cell? ⟨b, off + k * 3 + 1, none⟩ = some (.int .i64 vt) ∧ w'.cell? ⟨b, off + k * 3 + 2, none⟩ = some (.slice vA vl.length vc))
          (first | (go_split_ands; refine ⟨?_, ?_⟩ <;> with_reducible exact Fr.cell hf5 (by assumption) (fun e => e)) | go_keep)
          (first
            | ((go_at_call 11); (with_reducible refine (HRP.out _ (F4.out.drew)).mono ?_); rintro e w5 ⟨A5, c5, us, rfl, hy, hs5, hf5⟩; have HY := Lib.hid hy; have S5 := Lib.hid hs5))
        have F45 := Lib.hid (((Fr.refl Nob w4).drew).call hf5 (fun _ h _ => h))
        have F5 := Lib.hid (F4.out.call F45.out (fun _ h _ => h))
        replace S4 := Lib.hid (S4.out.pure F45.out)
        clear hy hs5 hf5
        have hne : (pk != pk) = false := by simp
        have hne2 : (pb != pb) = false := by simp
        go_wp2_with (first
          | ((go_at_call 13); (with_reducible refine (HPX.out _ _ _ _ HX.out S4.out).mono ?_); rintro e w6 ⟨A6, c6, rfl, hs6, hf6⟩; have S6 := Lib.hid hs6; have G6 := Lib.hid hf6; clear hs6 hf6)
          | ((go_at_call 12); (with_reducible refine (HSX.out _ _ _ _ _ _ _ HX.out HY.out S6.out (S5.out.pure G6.out)).mono ?_); rintro e w7 ⟨rfl, hf7⟩; have G7 := Lib.hid (G6.out.call hf7 (fun _ h _ => h)); clear hf7)
          | ((go_at_call 14); (with_reducible refine (HRR.out _ _ _ _ HX.out (S4.out.pure G7.out)).mono ?_); rintro e w8 ⟨rfl, hf8⟩; have G8 := Lib.hid (G7.out.call hf8 (fun _ h _ => h)); clear hf8))
        go_roundw
        case rel => exact ⟨k + 1, A4, c4, zs, A5, c5, us, by omega, by go_num, rfl, rfl, Lib.hid ⟨HF.out.call (F5.out.call G8.out (fun _ h _ => h)) (fun _ h _ => h), S4.out.pure G8.out, S5.out.pure G8.out, HX.out.trans HW.out.symm, HY.out.trans HW.out.symm⟩⟩
        case measure => simp [intOf]; omega
      · obtain rfl : k = es.length := by omega
        have hEl : E.length = es.length := by rw [← HE.out]; simp
        have hEt : E.take es.length = E := by rw [← hEl, List.take_length]
        have oky := hi.out.oky HQ.out.2.2
        have hyl := oky.len
        have h30 := HQ.out.1
        rw [hEt] at hyl
        have hye : pts ys = wordP E := by have := hi.out.ey; rwa [hEt] at this
        have HYE := Lib.hid hye
        have HSY := Lib.hid hi.out.sy
        have HF := Lib.hid hi.out.fr
        have HWX := Lib.hid (fun (zs : List Pn) (h : pts zs = wordP E) => (WOk.mk' h HQ.out.2.2).len)
        clear hi oky hye hEt
        go_wp2_with (first
          | ((go_at_call 15); (with_reducible refine (HO.out _ HF.out).mono ?_); rintro e w3 ⟨A3, c3, zs, rfl, hq, hfr, hf3⟩; have HX := Lib.hid hq; have S3 := Lib.hid hfr.wsl; have F3 := Lib.hid hf3; have hz := HWX.out zs hq; have HPX := Lib.hid (law_points w3 A3 c3 zs hfr.wsl (by omega)); clear hq hfr hf3)
          | ((go_at_call 13); (with_reducible refine (HPX.out).mono ?_); rintro e w6 ⟨A6, c6, rfl, hs6, hf6⟩; have S6 := Lib.hid hs6; have F6 := Lib.hid (F3.out.call hf6 (fun _ h _ => h)); have HSX := Lib.hid (show Calls Try.prog 12 #[.slice A6 zs.length c6, .slice A2 ys.length c2] w6 fun e w' => e = .returned (.bool true) ∧ Fr Nob w6 w' from by
              have := rw_Same w6 A6 c6 zs A2 c2 ys S6.out (HSY.out.pure F6.out) (by omega)
              rwa [HX.out, HYE.out, show sameW (wordP E) (wordP E) = true by unfold sameW; simp] at this); clear hs6 hf6)
          | ((go_at_call 12); (with_reducible refine (HSX.out).mono ?_); rintro e w7 ⟨rfl, hf7⟩; have F7 := Lib.hid (F6.out.call hf7 (fun _ h _ => h)); clear hf7))
        go_ret
        exact ⟨rfl, HF.out.call F7.out (fun _ h _ => h)⟩
end Go.Proofs.Ytckmmihbipmkcaa
