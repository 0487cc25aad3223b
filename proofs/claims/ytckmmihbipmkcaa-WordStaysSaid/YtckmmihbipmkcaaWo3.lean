/- word.Of: the walk. -/
import Derived.Test.YtckmmihbipmkcaaWo2
namespace Go.Proofs.Ytckmmihbipmkcaa
open Go.RowKit Go.Sort Go.Lib Go.Shelf

def OfD (w : World) (es : List Ev) (e : Ending) (w' : World) : Prop := ∃ (A' : Option Addr) (c' : Nat) (qs : List Pn), e = .returned (.slice A' qs.length c') ∧ pts qs = wordP (es.map Ev.pt) ∧ WFresh w.heap.size w' A' c' qs ∧ Fr Nob w w'
/-- The events that may be put in, picked. -/
structure PkR (w : World) (es : List Ev) (k : Nat) (A : Option Addr) (c m : Nat) (wr : World) : Prop where
  len : m = (fsel es k).length
  lek : m ≤ k
  fr : Fr Nob w wr
  own : wr.ownsRow w.heap.size 32 3 (.slice A m c) m ((fsel es k).flatMap evc)
theorem PkR.no {w wr w1 : World} {es : List Ev} {k : Nat} {A : Option Addr} {c m : Nat} (h : PkR w es k A c m wr) (hk : k < es.length) (hg : goodV es[k] = false) (hf : Fr Nob wr w1) : PkR w es (k + 1) A c m w1 := by
  have e := fsel_no hk hg
  exact ⟨by rw [e]; exact h.len, by have := h.lek; omega, h.fr.call hf (fun _ h _ => h), by rw [e]; exact own_fr h.own hf (fun _ _ _ _ e => e)⟩
theorem PkR.yes {w wr w1 w7 : World} {es : List Ev} {k : Nat} {A A' : Option Addr} {c c' m : Nat} (h : PkR w es k A c m wr) (hk : k < es.length) (hg : goodV es[k] = true) (hf : Fr Nob wr w1)
    (hown : w7.ownsRow w.heap.size 32 3 (.slice A' (m + 1) c') (m + 1) ((fsel es k).flatMap evc ++ evc es[k])) (hgr : w1.grownBy w7 (A.map (·.block))) : PkR w es (k + 1) A' c' (m + 1) w7 := by
  have e := fsel_yes hk hg
  refine ⟨by rw [e, List.length_append, h.len]; rfl, by have := h.lek; omega, (h.fr.call hf (fun _ h _ => h)).grown hgr (fun q e hlt => by have := own_base h.own q e; omega), ?_⟩
  rw [e, List.flatMap_append]
  simpa using hown
theorem evc_one' (x : Ev) : ∀ v ∈ evc x, v.oneCell' = true := evc_one x
set_option maxRecDepth 100000 in
set_option maxHeartbeats 8000000 in
theorem wd_Of (w : World) (A : Option Addr) (c : Nat) (es : List Ev) (h : ESl w A c es) (hnm : NmE es) (hfew : es.length ≤ 100) (hpl : ∀ e ∈ es, e.l.length ≤ 100) :
    Calls Try.prog 15 #[.slice A es.length c] w (OfD w es) := by
  have HL := Lib.hid h
  have HM := Lib.hid (fun X (hf : Fr Nob w X) k (hk : k < es.length) => wd_may X es[k].t es[k].A es[k].c es[k].l ((h.inn _ (List.getElem_mem hk)).pure hf) (hnm _ (List.getElem_mem hk)) (by have := hpl _ (List.getElem_mem hk); omega))
  have HPL := Lib.hid hpl
  clear h hnm hpl
  unfold OfD
  go_enter Try.func15, Try.ntmps15
  go_wp2_with fail
  go_loopw [3, 12] (fun sv i wr => ∃ (k : Nat) (A' : Option Addr) (c' m : Nat), k ≤ es.length ∧ m ≤ k ∧ i = .int .i64 k ∧ sv = .slice A' m c' ∧ Hid (PkR w es k A' c' m wr)) (fun _ i _ => es.length - (intOf i).toNat)
  case atStart => exact ⟨0, none, 0, 0, Nat.zero_le _, Nat.le_refl _, rfl, rfl, Lib.hid ⟨rfl, Nat.le_refl _, Fr.refl _ _, World.ownsRow_nil _ _ _ _⟩⟩
  case round =>
    obtain ⟨k, A', c', m, hk, hmk, rfl, rfl, hi⟩ := hrel
    by_cases hlt : k < es.length
    · have hI : (k : Int) < es.length := by omega
      have hI3 : 0 ≤ (k : Int) := by omega
      obtain ⟨b, off, rfl, hb, d0, d1, d2⟩ := ev_at rfl (HL.out.pure hi.out.fr).sl hlt
      have HMM := Lib.hid (fun X (hf : Fr Nob w X) => HM.out X hf k hlt)
      have HG := Lib.hid (show goodV es[k] = (decide (0 ≤ es[k].t) && rightB (lof es[k].l)) from rfl)
      have HN := Lib.hid (fun (hg : goodV es[k] = false) w1 hf => hi.out.no (w1 := w1) hlt hg hf)
      have HY := Lib.hid (fun (hg : goodV es[k] = true) w1 hf A' c' w7 hown hgr => hi.out.yes (w1 := w1) (A' := A') (c' := c') (w7 := w7) hlt hg hf hown hgr)
      generalize es[k] = ev at *
      obtain ⟨es_, et, eA, ec, el⟩ := ev
      dsimp only at d0 d1 d2 HMM HG
      rw [← HG.out] at HMM
      have hfw := Lib.hid hi.out.fr
      have hsz0 := hi.out.fr.size
      have HOW := Lib.hid hi.out.own
      clear HG hi
      cases hg : goodV ⟨es_, et, eA, ec, el⟩
      · rw [hg] at HMM
        replace HN := Lib.hid (HN.out hg)
        clear HY hg
        go_wp2_with (first
          | ((go_at_call 21); (with_reducible refine (HMM.out _ (hfw.out.alloc _)).mono ?_); rintro e w1 ⟨rfl, hf1⟩; have HF1 := Lib.hid (((Fr.refl Nob wr).alloc _).call hf1 (fun _ h _ => h)); clear hf1))
        go_roundw
        case rel => exact ⟨k + 1, A', c', m, by omega, by omega, by go_num, rfl, Lib.hid (HN.out _ HF1.out)⟩
        case measure => simp [intOf]; omega
      · rw [hg] at HMM
        replace HY := Lib.hid (HY.out hg)
        clear HN hg
        go_wp2_with (first
          | ((go_at_call 21); (with_reducible refine (HMM.out _ (hfw.out.alloc _)).mono ?_); rintro e w1 ⟨rfl, hf1⟩; have hbx := (Blk.new wr 32 #[.int .u64 es_, .int .i64 et, .slice eA el.length ec]).fr hf1 (fun e => e); have bx0 := hbx.cell 0; have bx1 := hbx.cell 1; have bx2 := hbx.cell 2; have bxl := hbx.lt; have HF1 := Lib.hid (((Fr.refl Nob wr).alloc _).call hf1 (fun _ h _ => h)); clear hf1 hbx)
          | (at_builtin; refine wpList_app rfl _ _ 22 rfl elemEv (base := w.heap.size) (xs := (fsel es k).flatMap evc) (news := evc ⟨es_, et, eA, ec, el⟩) rfl ?ow rfl ?sr ?oe ?h6 ?by_ ?bs ?_))
        case ow => exact own_fr HOW.out (HF1.out.alloc _) (fun _ _ _ _ e => e)
        case sr => exact Sl.new1 (Blk.new _ _ _) 3 1 rfl (by decide)
        case oe => exact evc_one' _
        case h6 => unfold maxLen; omega
        case by_ => omega
        case bs => have := HF1.out.size; simp; omega
        intro A7 c7 w7 hown7 hgr7 _
        have HP := Lib.hid (HY.out _ (HF1.out.alloc _) A7 c7 w7 hown7 hgr7)
        clear hown7 hgr7
        go_wp2_with fail
        go_roundw
        case rel => exact ⟨k + 1, A7, c7, m + 1, by omega, by omega, by go_num, by first | rfl | go_num, HP⟩
        case measure => simp [intOf]; omega
    · obtain rfl : k = es.length := by omega
      have HS := Lib.hid (ev_Sort wr w.heap.size A' c' m (fsel es es.length) hi.out.len hi.out.own (by omega))
      have HFR := Lib.hid hi.out.fr
      have hm : m ≤ 100 := by omega
      clear hi hlt hk hmk hfew
      go_wp2_with (first
        | ((go_at_call 30); (with_reducible refine (HS.out).mono ?_); rintro e w2 ⟨rfl, gs, hgs, hgl, hsl, hf2⟩; have HF2 := Lib.hid (HFR.out.call hf2 (fun i hi hlt => absurd hlt (by omega))); have HGS := Lib.hid hgs; have HGL := Lib.hid hgl; have HSL := Lib.hid hsl; clear hgs hgl hsl hf2))
      have HIN := Lib.hid (show ∀ g ∈ gs, g ∈ es ∧ goodV g = true from fun g hg => by
        have h1 := HGS.out.perm.mem_iff.1 hg
        unfold fsel at h1
        rw [List.take_length, List.mem_filter] at h1
        exact h1)
      have HWD := Lib.hid (show IsWord (gs.map Ev.pt) (wordP (es.map Ev.pt)) from (wordP_is _).of_mem fun e he => by
        constructor
        · intro h1
          obtain ⟨x, hx, rfl⟩ := List.mem_map.1 h1
          refine List.mem_map.2 ⟨x, HGS.out.perm.mem_iff.2 ?_, rfl⟩
          unfold fsel
          rw [List.take_length, List.mem_filter]
          exact ⟨hx, he⟩
        · intro h1
          obtain ⟨x, hx, rfl⟩ := List.mem_map.1 h1
          exact List.mem_map.2 ⟨x, (HIN.out x hx).1, rfl⟩)
      go_loopw [6, 7] (fun wv iv wr3 => ∃ (k : Nat) (A3 : Option Addr) (c3 q : Nat) (qs : List Pn), k ≤ m ∧ q ≤ k ∧ wv = .slice A3 q c3 ∧ iv = .int .i64 k ∧ Hid (OfR w2 gs k A3 c3 q qs wr3)) (fun _ iv _ => m - (intOf iv).toNat)
      case atStart => exact ⟨0, none, 0, 0, [], Nat.zero_le _, Nat.le_refl _, rfl, rfl, Lib.hid (OfR.start w2 gs)⟩
      case round =>
        obtain ⟨k, A3, c3, q, qs, hkm, hqk, rfl, rfl, hi⟩ := hrel
        rename World => wr3
        by_cases hlt : k < m
        · have hI : (k : Int) < m := by omega
          have hI3 : 0 ≤ (k : Int) := by omega
          have hkl : k < gs.length := by rw [HGL.out]; exact hlt
          obtain ⟨b, off, hA, hb, d0, d1, d2⟩ := ev_at HGL.out.symm (HSL.out.pure hi.out.fr) hkl
          subst hA
          obtain ⟨t, ht⟩ : ∃ t, gs[k].t = t := ⟨_, rfl⟩
          rw [ht] at d1
          have HT := Lib.hid ht
          clear ht d0 d2
          go_wp2_with fail
          go_loopw [7, 9] (fun iv pv wr4 => ∃ (j : Nat) (B : Option Addr) (d r : Nat), k ≤ j ∧ j ≤ m ∧ r ≤ 10000 ∧ iv = .int .i64 j ∧ pv = .slice B r d ∧ Hid (PrR wr3 gs t k j B d r wr4)) (fun iv _ _ => m - (intOf iv).toNat)
          case atStart => exact ⟨k, none, 0, 0, Nat.le_refl _, hkm, by omega, rfl, rfl, Lib.hid (PrR.start wr3 gs t k)⟩
          case round =>
            obtain ⟨j, B, d, r, hkj, hjm, hr, rfl, rfl, hp⟩ := hrel
            rename World => wr4
            have hjk0 := hp.out.few
            by_cases hlj : j < m
            · have hJ : (j : Int) < m := by omega
              have hJ3 : 0 ≤ (j : Int) := by omega
              have hjl : j < gs.length := by rw [HGL.out]; exact hlj
              obtain ⟨b2, off2, hA2, hb2, e0, e1, e2⟩ := ev_at HGL.out.symm (HSL.out.pure (hi.out.fr.call hp.out.fr (fun _ h _ => h))) hjl
              obtain ⟨rfl, rfl⟩ : b = b2 ∧ off = off2 := by simpa using hA2
              by_cases hjt : gs[j].t = t
              · have HSR := Lib.hid (((HL.out.inn _ (HIN.out _ (List.getElem_mem hjl)).1).pure HF2.out).pure (hi.out.fr.call hp.out.fr (fun _ h _ => h)))
                have hl100 := HPL.out _ (HIN.out _ (List.getElem_mem hjl)).1
                have HN := Lib.hid (fun B' d' w7 n hn hown hg => hp.out.next (B' := B') (d' := d') (w7 := w7) (n := n) hkj hjl hjt hl100 hn hown hg)
                have HOW := Lib.hid hp.out.own
                have hbs := hp.out.fr.size
                rw [hjt] at e1
                clear hp hjt
                generalize gs[j] = ev at *
                obtain ⟨vs, vt, vA, vc, vl⟩ := ev
                dsimp only at e0 e1 e2 HSR hl100 HN
                go_wp2_with (first
                  | (at_builtin; refine wpList_app rfl _ _ 30 rfl elemPP (base := wr3.heap.size) (xs := (segL gs k j).flatMap pcs) (news := vl.flatMap pcs) rfl ?ow rfl ?sr ?oe ?h6 ?by_ ?bs ?_))
                case ow => exact HOW.out
                case sr => exact HSR.out
                case oe => intro u x hx hu; exact pcs_one' x u hu
                case h6 => unfold maxLen; omega
                case by_ => omega
                intro A7 c7 w7 hown7 hgr7 _
                have HP := Lib.hid (HN.out A7 c7 w7 _ rfl hown7 hgr7)
                clear hown7 hgr7
                go_wp2_with fail
                go_roundw
                case rel => exact ⟨j + 1, A7, c7, r + vl.length, by omega, by omega, by have := HP.out.few; omega, by first | rfl | go_num, by first | rfl | go_num, HP⟩
                case measure => simp [intOf]; omega
              · have hjt2 : (gs[j].t == t) = false := by simpa using hjt
                have hkJ : k < j := by
                  rcases Nat.lt_or_ge k j with h1 | h1
                  · exact h1
                  · obtain rfl : k = j := by omega
                    exact absurd HT.out hjt
                have hstop : ∀ hj : j < gs.length, gs[j].t ≠ t := fun _ => hjt
                clear e0 e2 hA2
                have HO := Lib.hid (show Calls Try.prog 24 #[.slice B r d] wr4 fun e w' => ∃ A' c', e = .returned (.slice A' (lof (segL gs k j)).length c') ∧ Sl w' 2 A' (lof (segL gs k j)).length c' ((lof (segL gs k j)).flatMap pcs) ∧ Fr Nob wr4 w' ∧ (∀ g off, A' = some ⟨g, off, none⟩ → wr4.heap.size ≤ g ∧ Pb w' g) by
                  have hs := Sl.of_own hp.out.own
                  have hl := hp.out.len
                  subst hl
                  exact lab_Of wr4 B d (segL gs k j) hs hr)
                have hjl3 : j ≤ gs.length := by rw [HGL.out]; exact hjm
                have HNX := Lib.hid (fun D f w6 h6 hD hDn T cs A8 c8 w8 hown hg hli => hi.out.next (D := D) (f := f) (w6 := w6) (t := T) (cs := cs) (A8 := A8) (c8 := c8) (w8 := w8) hkJ hjl3 hkl (by rw [HT.out]; exact hp.out) HGS.out.up (fun g hg => (HIN.out g hg).2) (by rw [HT.out]; exact hstop) h6 hD hDn hown hg hli)
                rw [HT.out] at HNX
                obtain ⟨u, hu⟩ : ∃ u, lof (segL gs k j) = u := ⟨_, rfl⟩
                have hu2 : u.length ≤ 10000 := by rw [← hu]; have := lof_len (segL gs k j); have := hp.out.len; omega
                rw [hu] at HNX HO
                have HFI := Lib.hid hi.out.fr
                have HFP := Lib.hid hp.out.fr
                have HOW := Lib.hid hi.out.own
                clear hu hp hi hstop
                go_wp2_with (first
                  | ((go_at_call 24); (with_reducible refine (HO.out).mono ?_); rintro e w6 ⟨D, f, rfl, hD, hf6, hDn⟩; have HD := Lib.hid hD; have HF6 := Lib.hid hf6; have HDN := Lib.hid hDn; clear hD hf6 hDn)
                  | (at_builtin; refine wpList_app rfl _ _ 25 rfl elemPt (base := w2.heap.size) (xs := qs.flatMap pnc) (news := pnc ⟨t, D, f, u⟩) rfl ?ow1 rfl ?sr1 ?oe1 ?h61 ?by1 ?bs1 ?_))
                case ow1 => exact own_fr HOW.out ((HFP.out.call HF6.out (fun _ h _ => h)).alloc _) (fun _ _ _ _ e => e)
                case sr1 => exact Sl.new1 (Blk.new _ _ _) 2 1 rfl (by decide)
                case oe1 => exact pnc_one _
                case h61 => unfold maxLen; omega
                case by1 => omega
                case bs1 => have := HFI.out.size; have := HFP.out.size; have := HF6.out.size; simp; omega
                intro A8 c8 w8 hown8 hgr8 hli8
                have HX := Lib.hid (HNX.out D f w6 HF6.out HD.out HDN.out _ _ A8 c8 w8 hown8 hgr8 (by simpa using hli8))
                clear hown8 hgr8 hli8
                go_wp2_with fail
                go_roundw
                case rel => exact ⟨j, A8, c8, q + 1, _, hjm, by omega, by first | rfl | go_num, rfl, HX⟩
                case measure => simp [intOf]; omega
            · obtain rfl : j = m := by omega
              have hJ : ¬ ((j : Int) < j) := by omega
              have hkJ : k < j := hlt
              have hstop : ∀ hj : j < gs.length, gs[j].t ≠ t := fun hj => by rw [HGL.out] at hj; omega
              have HO := Lib.hid (show Calls Try.prog 24 #[.slice B r d] wr4 fun e w' => ∃ A' c', e = .returned (.slice A' (lof (segL gs k j)).length c') ∧ Sl w' 2 A' (lof (segL gs k j)).length c' ((lof (segL gs k j)).flatMap pcs) ∧ Fr Nob wr4 w' ∧ (∀ g off, A' = some ⟨g, off, none⟩ → wr4.heap.size ≤ g ∧ Pb w' g) by
                have hs := Sl.of_own hp.out.own
                have hl := hp.out.len
                subst hl
                exact lab_Of wr4 B d (segL gs k j) hs hr)
              have hjl3 : j ≤ gs.length := by rw [HGL.out]; exact hjm
              have HNX := Lib.hid (fun D f w6 h6 hD hDn T cs A8 c8 w8 hown hg hli => hi.out.next (D := D) (f := f) (w6 := w6) (t := T) (cs := cs) (A8 := A8) (c8 := c8) (w8 := w8) hkJ hjl3 hkl (by rw [HT.out]; exact hp.out) HGS.out.up (fun g hg => (HIN.out g hg).2) (by rw [HT.out]; exact hstop) h6 hD hDn hown hg hli)
              rw [HT.out] at HNX
              obtain ⟨u, hu⟩ : ∃ u, lof (segL gs k j) = u := ⟨_, rfl⟩
              have hu2 : u.length ≤ 10000 := by rw [← hu]; have := lof_len (segL gs k j); have := hp.out.len; omega
              rw [hu] at HNX HO
              have HFI := Lib.hid hi.out.fr
              have HFP := Lib.hid hp.out.fr
              have HOW := Lib.hid hi.out.own
              clear hu hp hi hstop
              go_wp2_with (first
                | ((go_at_call 24); (with_reducible refine (HO.out).mono ?_); rintro e w6 ⟨D, f, rfl, hD, hf6, hDn⟩; have HD := Lib.hid hD; have HF6 := Lib.hid hf6; have HDN := Lib.hid hDn; clear hD hf6 hDn)
                | (at_builtin; refine wpList_app rfl _ _ 25 rfl elemPt (base := w2.heap.size) (xs := qs.flatMap pnc) (news := pnc ⟨t, D, f, u⟩) rfl ?ow2 rfl ?sr2 ?oe2 ?h62 ?by2 ?bs2 ?_))
              case ow2 => exact own_fr HOW.out ((HFP.out.call HF6.out (fun _ h _ => h)).alloc _) (fun _ _ _ _ e => e)
              case sr2 => exact Sl.new1 (Blk.new _ _ _) 2 1 rfl (by decide)
              case oe2 => exact pnc_one _
              case h62 => unfold maxLen; omega
              case by2 => omega
              case bs2 => have := HFI.out.size; have := HFP.out.size; have := HF6.out.size; simp; omega
              intro A8 c8 w8 hown8 hgr8 hli8
              have HX := Lib.hid (HNX.out D f w6 HF6.out HD.out HDN.out _ _ A8 c8 w8 hown8 hgr8 (by simpa using hli8))
              clear hown8 hgr8 hli8
              go_wp2_with fail
              go_roundw
              case rel => exact ⟨j, A8, c8, q + 1, _, hjm, by omega, by first | rfl | go_num, rfl, HX⟩
              case measure => simp [intOf]; omega
        · obtain rfl : k = m := by omega
          go_wp2_with fail
          go_ret
          have hq := hi.out.len
          subst hq
          have hw := hi.out.word
          rw [← HGL.out, List.take_length] at hw
          refine ⟨A3, c3, qs, rfl, hw.uniq HWD.out, ⟨⟨Sl.of_own hi.out.own, fun p hp => (hi.out.inn p hp).1⟩, fun b o e => Nat.le_trans HF2.out.size (own_addr hi.out.own b o e), fun p hp b o e => ?_, fun b o e => own_pb hi.out.own b o e, fun p hp b o e => ((hi.out.inn p hp).2 b o e).2.1⟩, HF2.out.call hi.out.fr (fun _ h _ => h)⟩
          obtain ⟨h1, _, h3⟩ := (hi.out.inn p hp).2 b o e
          exact ⟨Nat.le_trans HF2.out.size h1, h3⟩
end Go.Proofs.Ytckmmihbipmkcaa
