/- WordStays: a word stays as it is. -/
import Derived.Test.YtckmmihbipmkcaaWl2
namespace Go.Proofs.Ytckmmihbipmkcaa
open Go.RowKit Go.Sort Go.Lib Go.Shelf

/-- What of a word in new memory stays, whatever is written into it. -/
structure StyI (W : World) (A : Option Addr) (zs : List Pn) (wr : World) : Prop where
  fr : Fr Nob W wr
  row : ∀ k, (hk : k < zs.length) → ∃ b off, A = some ⟨b, off, none⟩ ∧ b < wr.heap.size ∧ (∃ v, wr.cell? ⟨b, off + k * 2, none⟩ = some v) ∧ wr.cell? ⟨b, off + k * 2 + 1, none⟩ = some (.slice zs[k].A zs[k].l.length zs[k].c)
  top : ∀ b o, A = some ⟨b, o, none⟩ → W.heap.size ≤ b ∧ Pb wr b
  inn : ∀ p ∈ zs, ∀ b o, p.A = some ⟨b, o, none⟩ → W.heap.size ≤ b ∧ (∀ g o', A = some ⟨g, o', none⟩ → b ≠ g) ∧ Pb wr b
  nam : ∀ p ∈ zs, ∀ j, j < p.l.length → ∃ b o, p.A = some ⟨b, o, none⟩ ∧ b < wr.heap.size ∧ ∃ v, wr.cell? ⟨b, o + j * 2, none⟩ = some v
theorem StyI.start {W w5 : World} {A : Option Addr} {c : Nat} {zs : List Pn} (h : WFresh W.heap.size w5 A c zs) (hf : Fr Nob W w5) : StyI W A zs w5 := by
  refine ⟨hf, fun k hk => ?_, fun b o e => ⟨h.top b o e, h.tfree b o e⟩, fun p hp b o e => ⟨(h.low p hp b o e).1, (h.low p hp b o e).2, h.free p hp b o e⟩, fun p hp j hj => ?_⟩
  · obtain ⟨b, off, hA, hb, c0, c1⟩ := h.wsl.at_ hk
    exact ⟨b, off, hA, hb, ⟨_, c0⟩, c1⟩
  · obtain ⟨b, off, hA, hb, c0, _⟩ := pp_cells (h.wsl.inn p hp) hj
    exact ⟨b, off, hA, hb, ⟨_, c0⟩⟩
theorem StyI.top' {W wr : World} {A : Option Addr} {zs : List Pn} (h : StyI W A zs wr) {b off : Nat} (hA : A = some ⟨b, off, none⟩) (k : Nat) (v : Value) : StyI W A zs (wr.setCell ⟨b, off + k * 2, none⟩ v) := by
  have ht := (h.top b off hA).1
  refine ⟨h.fr.setCell (p := ⟨b, off + k * 2, none⟩) (fun hlt => absurd hlt (by simp; omega)) v, fun j hj => ?_, fun g o e => ⟨(h.top g o e).1, (h.top g o e).2.set _ _ _⟩, fun p hp g o e => ⟨(h.inn p hp g o e).1, (h.inn p hp g o e).2.1, (h.inn p hp g o e).2.2.set _ _ _⟩, fun p hp j hj => ?_⟩
  · obtain ⟨g, o, e, hg, ⟨u, c0⟩, c1⟩ := h.row j hj
    refine ⟨g, o, e, by simpa using hg, cell?_setCell_some c0, ?_⟩
    rw [World.cell?_setCell_other]
    · exact c1
    · rw [hA] at e
      simp only [Option.some.injEq, Addr.mk.injEq, and_true] at e
      intro e2
      simp only [Addr.mk.injEq, and_true] at e2
      omega
  · obtain ⟨g, o, e, hg, u, c0⟩ := h.nam p hp j hj
    exact ⟨g, o, e, by simpa using hg, cell?_setCell_some c0⟩
theorem StyI.nam' {W wr : World} {A : Option Addr} {zs : List Pn} (h : StyI W A zs wr) {p : Pn} (hp : p ∈ zs) {b o : Nat} (hA : p.A = some ⟨b, o, none⟩) (i : Nat) (v : Value) : StyI W A zs (wr.setCell ⟨b, i, none⟩ v) := by
  obtain ⟨ht, hne, hpb⟩ := h.inn p hp b o hA
  refine ⟨h.fr.setCell (p := ⟨b, i, none⟩) (fun hlt => absurd hlt (by simp; omega)) v, fun j hj => ?_, fun g o e => ⟨(h.top g o e).1, (h.top g o e).2.set _ _ _⟩, fun p hp g o e => ⟨(h.inn p hp g o e).1, (h.inn p hp g o e).2.1, (h.inn p hp g o e).2.2.set _ _ _⟩, fun p hp j hj => ?_⟩
  · obtain ⟨g, o, e, hg, ⟨u, c0⟩, c1⟩ := h.row j hj
    refine ⟨g, o, e, by simpa using hg, cell?_setCell_some c0, ?_⟩
    rw [World.cell?_setCell_other]
    · exact c1
    · have := hne g o e
      intro e2
      simp only [Addr.mk.injEq, and_true] at e2
      omega
  · obtain ⟨g, o, e, hg, u, c0⟩ := h.nam p hp j hj
    exact ⟨g, o, e, by simpa using hg, cell?_setCell_some c0⟩
set_option maxRecDepth 100000 in
set_option maxHeartbeats 8000000 in
theorem law_WStays (w : World) (A : Option Addr) (c : Nat) (es : List Ev) (t : Int) (D : Option Addr) (f : Nat) (l : List PP) (h : ESl w A c es) (hl : Sl w 2 D l.length f (l.flatMap pcs)) :
    Calls Try.prog 7 #[.slice A es.length c, .int .i64 t, .slice D l.length f] w fun e w' => e = .returned (.bool true) ∧ Fr Nob w w' := by
  have HL := Lib.hid h
  have HD := Lib.hid hl
  clear h hl
  go_enter Try.func7, Try.ntmps7
  go_wp2_with fail
  refine (law_wawake _).mono ?_
  rintro e w1 ⟨rfl, hf⟩
  have F1 := Lib.hid hf
  clear hf
  have HFW := Lib.hid (fun X (hf : Fr Nob w X) => law_fewE X A c es (HL.out.pure hf))
  have HSH := Lib.hid (fun X (hf : Fr Nob w X) => law_short X D f l (HD.out.pure hf))
  cases hfe : fewE es
  · rw [hfe] at HFW
    clear hfe
    go_wp2_with (first
      | ((go_at_call 9); (with_reducible refine (HFW.out _ F1.out).mono ?_); rintro e w2 ⟨rfl, rfl⟩))
    go_ret
    exact ⟨rfl, F1.out⟩
  rw [hfe] at HFW
  cases hsl : shortB 20 l
  · rw [hsl] at HSH
    clear hsl
    go_wp2_with (first
      | ((go_at_call 9); (with_reducible refine (HFW.out _ F1.out).mono ?_); rintro e w2 ⟨rfl, hw2⟩; obtain rfl := hw2.symm)
      | ((go_at_call 16); (with_reducible refine (HSH.out _ F1.out).mono ?_); rintro e w3 ⟨rfl, hw3⟩; obtain rfl := hw3.symm))
    go_ret
    exact ⟨rfl, F1.out⟩
  rw [hsl] at HSH
  obtain ⟨o1, o2, o3⟩ := fewE_of hfe
  obtain ⟨p1, p2, p3⟩ := fewE_pt hfe
  obtain ⟨s1, s2⟩ := short_imp hsl
  have HO := Lib.hid (fun X (hf : Fr Nob w X) => wd_Of X A c es (HL.out.pure hf) o1 o2 o3)
  unfold OfD at HO
  have HK := Lib.hid (fun qs (h : pts qs = wordP (es.map Ev.pt)) => (show WOk qs (es.map Ev.pt) ∧ qs.length ≤ 30 ∧ ∀ p ∈ qs, p.l.length ≤ 600 from ⟨WOk.mk' h p3, Nat.le_trans (WOk.mk' h p3).len p1, fun p hp => Nat.le_trans ((WOk.mk' h p3).pl p2 p hp) (by have := Nat.mul_le_mul_right 20 p1; omega)⟩))
  have HPU := Lib.hid (fun X A1 c1 qs (hs : WSl X A1 c1 qs) (hq : pts qs = wordP (es.map Ev.pt)) (hf : Fr Nob w X) => wd_Put X A1 c1 qs t D f l hs (HK.out qs hq).1.nm (by have := (HK.out qs hq).2.1; omega) (fun p hp => by have := (HK.out qs hq).2.2 p hp; omega) (HD.out.pure hf) (fun x hx => Nat.le_trans (s2 x hx) (by decide)) (by omega))
  unfold PutR at HPU
  have hpl : (putW (wordP (es.map Ev.pt)) t l).1.length ≤ 31 := by
    have h1 := putW_len (wordP (es.map Ev.pt)) t l
    have h2 := wordP_len (es.map Ev.pt)
    omega
  have HPL := Lib.hid hpl
  clear hfe hsl o1 o2 o3 p1 p2 p3 s1 s2 hpl
  go_wp2_with (first
    | ((go_at_call 9); (with_reducible refine (HFW.out _ F1.out).mono ?_); rintro e w2 ⟨rfl, hw2⟩; obtain rfl := hw2.symm)
    | ((go_at_call 16); (with_reducible refine (HSH.out _ F1.out).mono ?_); rintro e w3 ⟨rfl, hw3⟩; obtain rfl := hw3.symm)
    | ((go_at_call 10); (refine (HPU.out _ _ _ _ (S3.out.pure F34.out) HX3.out F4.out).mono ?_); rintro e w5 ⟨A5, c5, zs, rfl, hz, hfr, hf5⟩; have HZ := Lib.hid hz; have HST := Lib.hid (StyI.start hfr hf5); have HML := Lib.hid (fun p hp => Nat.le_trans (hfr.wsl.inn p hp).le (hfr.wsl.inn p hp).max); clear hz hfr hf5)
    | ((go_at_call 15); (with_reducible refine (HO.out _ F3.out).mono ?_); rintro e w4 ⟨A4, c4, ys, rfl, hq4, hfr4, hf4⟩; have HX4 := Lib.hid hq4; have S4 := Lib.hid hfr4.wsl; have F34 := Lib.hid hf4; have F4 := Lib.hid (F3.out.call hf4 (fun _ h _ => h)); clear hq4 hfr4 hf4)
    | ((go_at_call 15); (with_reducible refine (HO.out _ F1.out).mono ?_); rintro e w3 ⟨A3, c3, xs, rfl, hq3, hfr3, hf3⟩; have HX3 := Lib.hid hq3; have S3 := Lib.hid hfr3.wsl; have F3 := Lib.hid (F1.out.call hf3 (fun _ h _ => h)); clear hq3 hfr3 hf3))
  have hzl : zs.length ≤ 31 := by have := congrArg List.length HZ.out; rw [pts_len] at this; rw [this, HX3.out]; exact HPL.out
  clear HPU
  go_loopw [14, 15] (fun iv _ wr => ∃ k : Nat, k ≤ zs.length ∧ iv = .int .i64 k ∧ Hid (StyI w4 A5 zs wr)) (fun iv _ _ => zs.length - (intOf iv).toNat)
  case atStart => exact ⟨0, Nat.zero_le _, rfl, HST⟩
  case round =>
    obtain ⟨k, hk, rfl, hi⟩ := hrel
    rename World => wr
    by_cases hlt : k < zs.length
    · have hI : (k : Int) < zs.length := by omega
      have hI3 : 0 ≤ (k : Int) := by omega
      obtain ⟨b, off, hA, hb, ⟨v0, c0⟩, c1⟩ := hi.out.row k hlt
      have f0 := (hi.out.top b off hA).2.free (off + k * 2)
      have HT := Lib.hid (hi.out.top' hA k (.int .i64 (-7)))
      have HA := Lib.hid hA
      subst hA
      have hmp : zs[k] ∈ zs := List.getElem_mem hlt
      have hml := HML.out _ hmp
      unfold maxLen at hml
      obtain ⟨p, hp⟩ : ∃ p, zs[k] = p := ⟨_, rfl⟩
      rw [hp] at c1 hml hmp
      have HP := Lib.hid hp
      have HMP := Lib.hid hmp
      clear hi hmp hp
      obtain ⟨pt_, pA, pc, pl⟩ := p
      dsimp only at c1 hml
      go_upto_region 14 with fail
      obtain ⟨W1, hW1⟩ : ∃ W1, wr.setCell ⟨b, off + k * 2, none⟩ (.int .i64 (-7)) = W1 := ⟨_, rfl⟩
      rw [hW1]
      rw [hW1] at HT
      clear hW1 c0 c1 f0 hb
      go_wp2_with fail
      go_loopw [15] (fun jv wr2 => ∃ j : Nat, j ≤ pl.length ∧ jv = .int .i64 j ∧ Hid (StyI w4 (some ⟨b, off, none⟩) zs wr2)) (fun jv _ => pl.length - (intOf jv).toNat)
      case atStart => exact ⟨0, Nat.zero_le _, rfl, HT⟩
      case round =>
        obtain ⟨j, hj, rfl, hi⟩ := hrel
        rename World => wr2
        obtain ⟨b2, off2, hA2, hb2, _, c1⟩ := hi.out.row k hlt
        obtain ⟨rfl, rfl⟩ : b = b2 ∧ off = off2 := by simpa using hA2
        rw [HP.out] at c1
        dsimp only at c1
        by_cases hjl : j < pl.length
        · have hJ : (j : Int) < pl.length := by omega
          have hJ0 : 0 ≤ (j : Int) := by omega
          obtain ⟨b3, o3, hA3, hb3, v3, d0⟩ := hi.out.nam _ HMP.out j hjl
          have hA3' : pA = some ⟨b3, o3, none⟩ := hA3
          have g0 := (hi.out.inn _ HMP.out b3 o3 hA3).2.2.free (o3 + j * 2)
          have HX := Lib.hid (hi.out.nam' HMP.out hA3 (o3 + j * 2) (.string ⟨#[]⟩))
          subst hA3'
          clear hi hA2 hA3
          go_wp2_with fail
          go_roundw
          case rel => exact ⟨j + 1, by omega, by go_num, HX⟩
          case measure => simp [intOf]; omega
        · clear hA2
          have HX := hi
          clear hi
          go_wp2_with fail
          go_roundw
          case rel => exact ⟨k + 1, by omega, by go_num, HX⟩
          case measure => simp [intOf]; omega
    · obtain rfl : k = zs.length := by omega
      have HF := Lib.hid (F4.out.call hi.out.fr (fun _ h _ => h))
      have HSA := Lib.hid (show Calls Try.prog 20 #[.slice A3 xs.length c3, .slice A4 ys.length c4] wr fun e w' => e = .returned (.bool true) ∧ Fr Nob wr w' by
        have := wd_Same wr A3 c3 xs A4 c4 ys (S3.out.pure (F34.out.call hi.out.fr (fun _ h _ => h))) (S4.out.pure hi.out.fr) (by have := (HK.out xs HX3.out).2.1; omega)
        rwa [HX3.out, HX4.out, show sameW (wordP (es.map Ev.pt)) (wordP (es.map Ev.pt)) = true by unfold sameW; simp] at this)
      clear hi
      go_wp2_with (first
        | ((go_at_call 20); (with_reducible refine (HSA.out).mono ?_); rintro e w6 ⟨rfl, hf6⟩; have F6 := Lib.hid hf6; clear hf6))
      go_ret
      exact ⟨rfl, HF.out.call F6.out (fun _ h _ => h)⟩
end Go.Proofs.Ytckmmihbipmkcaa
