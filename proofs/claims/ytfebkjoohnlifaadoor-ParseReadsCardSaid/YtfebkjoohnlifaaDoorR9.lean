/- Any text's formula, or what is wrong, and where, are the document's. -/
import Derived.Test.YtfebkjoohnlifaaDoorR8
import Derived.Test.YtfebkjoohnlifaaDoorQ11
import Derived.Test.YtfebkjoohnlifaaDoorFsame
import Derived.Deep.RegionLaw
namespace Go.Proofs.YtfebkjoohnlifaaDoor
open Go.RowKit Go.Shelf

theorem check_small {x : Nd} {ks : Tr} (h : checkT x ks = 0) : ks.size ≤ 48 := by
  unfold checkT at h
  by_cases h1 : 48 < ks.size + 1
  · rw [if_pos h1] at h; exact absurd h (by decide)
  · omega
set_option maxRecDepth 100000 in
set_option maxHeartbeats 8000000 in
theorem law10_plain : ∀ (m : Nat) (N : Nat) (w : World) (x : Nd) (B : Option Addr) (d : Nat) (ks : Fo), ks.tr.size ≤ m → ks.tr.size ≤ 100000 → FoSl N w B d ks → N ≤ w.heap.size →
    Calls Tryd.prog 18 #[fval x B ks.len d] w fun e w' => ∃ A c ks', e = .returned (fval x A ks'.len c) ∧ ks'.tr = ks.tr ∧ FoSlP (fun b => w.heap.size ≤ b ∧ b < w'.heap.size) w' A c ks' ∧ Fr Nob w w' := by
  intro m
  induction m using Nat.strongRecOn with
  | _ m ih =>
    intro N w x B d ks hm hb hs hN
    obtain ⟨i0, hi0, hz0, hz1, hz2⟩ := info_parts infoRF
    have IH := Lib.hid ih
    have HS := Lib.hid hs
    have hlen := ks.len_size
    clear ih hs
    unfold fval at *
    go_enter Tryd.func18, Tryd.ntmps18
    go_wp2_with fail
    have HI := Lib.hid (show PlI w (((w.alloc (.cells #[.int .i64 x.op, .string x.name, .int .i64 x.cmp, .int .i64 x.val, .int .i64 x.lo, .int .i64 x.hi, .slice B ks.len d] 28)).alloc (.cells #[.int .i64 0, .string default, .int .i64 0, .int .i64 0, .int .i64 0, .int .i64 0, .slice none 0 0] 34)).alloc (.cells #[.int .i64 x.op, .string x.name, .int .i64 x.cmp, .int .i64 x.val, .int .i64 x.lo, .int .i64 x.hi, .slice none 0 0] 34)) x B d ks 0 none 0 .nil from
      ⟨(((Fr.refl _ _).alloc _).alloc _).alloc _, ((Blk.new _ _ _).alloc _).alloc _, (Blk.new_eq (by simp)).alloc _, Blk.new_eq (by simp), ⟨rfl, .inl ⟨rfl, rfl⟩⟩, rfl, trivial, by rw [Fo.get_zero]; rfl⟩)
    go_loopw [4] (fun i wr => ∃ (k : Nat) (A : Option Addr) (c : Nat) (ks1 : Fo), k ≤ ks.len ∧ i = .int .i64 k ∧ Hid (PlI w wr x B d ks k A c ks1)) (fun i _ => ks.len - (intOf i).toNat)
    case atStart => exact ⟨0, none, 0, .nil, Nat.zero_le _, rfl, HI⟩
    case round =>
      clear HI
      obtain ⟨k, A, c, ks1, hk, rfl, hi⟩ := hrel
      have e1 : w.heap.size + 1 + 1 = w.heap.size + 2 := rfl
      have hbl := Blk.lt hi.out.xbox
      have e6 : wr.cell? ⟨w.heap.size, 6, none⟩ = some (.slice B ks.len d) := hi.out.fbox.cell 6
      by_cases hlt : k < ks.len
      · have hI : (k : Int) < ks.len := by omega
        have hI3 : 0 ≤ (k : Int) := by omega
        obtain ⟨b, off, y, B2, d2, js, rs, K⟩ := (HS.out.fr hi.out.fr).kid hlt
        obtain ⟨d0, d1, d2', d3, d4, d5, d6⟩ := K.nd
        obtain rfl := K.slice
        have hlt2 := K.lt
        have hbN := K.bN
        have hsz := K.size
        have hg := K.get
        have hg2 := Fo.get_succ hg
        have HC := Lib.hid (fun W (h : Fr Nob wr W) => IH.out js.tr.size (by omega) N W y B2 d2 js (Nat.le_refl _) (by omega) (K.sl.fr h) (by have := h.size; have := hi.out.fr.size; omega))
        have HG := Lib.hid (show (ks.get k).tr = .cons y js.tr (ks.get (k + 1)).tr by rw [hg, hg2]; rfl)
        have x6 : wr.cell? ⟨w.heap.size + 2, 6, none⟩ = some (.slice A k c) := hi.out.xbox.cell 6
        have xf := hi.out.xbox.frozen 6
        have HRB := Lib.hid (fun q (hq : (Value.slice A k c).ownBlock = some q) => (hi.out.own.lt q hq).1)
        have HOW := Lib.hid hi.out.own
        have HXB := Lib.hid hi.out.xbox
        have HDR := Lib.hid (show Fr Nob wr wr.drew from (Fr.refl _ _).drew)
        have hbw := hi.out.fr.size
        clear hg hg2 K
        go_wp2_with fail
        go_region_law
          (first
            | (rw [if_pos (by rfl)]; go_simp; (go_at_call 18); refine (HC.out _ (Fr.drew (Fr.refl _ _))).mono ?_; rintro e w2 ⟨A3, c3, js', rfl, htr, hsl, hf2⟩; have HTR := Lib.hid htr; have HSL := Lib.hid hsl; have HF2 := Lib.hid hf2; have hw2 : wr.heap.size ≤ w2.heap.size := (HDR.out.call hf2 (fun _ h _ => h)).size; have hbl2 : w.heap.size + 2 < w2.heap.size := by omega
               have x6' : w2.cell? ⟨w.heap.size + 2, 6, none⟩ = some (.slice A k c) := (HDR.out.call hf2 (fun _ h _ => h)).cell x6 (fun e => e); clear htr hsl; go_simp)
            | (refine step_append_lies (w2.alloc (.cells #[.int .i64 y.op, .string y.name, .int .i64 y.cmp, .int .i64 y.val, .int .i64 y.lo, .int .i64 y.hi, .slice A3 js'.len c3] 34)) (by rfl) _ _ _ (by rfl) (w.heap.size + 3) 34 i0 _ 7 80 Tryd.underlying31 hi0 hz0 hz1 hz2 (by rfl) (by decide) (.slice A k c) k ks1.tops (by rfl) (World.ownsRow.alloc (own_fr HOW.out (HDR.out.call HF2.out (fun _ h _ => h)) (fun _ _ _ _ e => e)) _) ⟨w2.heap.size, 0, none⟩ 1 1 (fcs y A3 js'.len c3) (by rfl) (by rfl) (World.news_of_block (heap_alloc_new w2 _)) (nd_one _ _ _ _) (by decide) (by unfold maxLen; omega) (by omega) (by simp at hw2 ⊢; omega) (w2.heap.size + 1) (by simp) ?_
               intro g4 c4 w4 hown4 hgr hat4 hlt4
               have hfar : ∀ q, q < w.heap.size + 3 → some q ≠ (Value.slice A k c).ownBlock := fun q hq e => by have := HRB.out q e.symm; omega
               have hx4b := ((((HXB.out.fr HDR.out (fun e => e)).fr HF2.out (fun e => e)).alloc (.cells #[.int .i64 y.op, .string y.name, .int .i64 y.cmp, .int .i64 y.val, .int .i64 y.lo, .int .i64 y.hi, .slice A3 js'.len c3] 34)).grown hgr (fun e => hfar (w.heap.size + 2) (by omega) e.symm))
               have hx4 := hx4b.frozen 6
               have hx4c : w4.cell? ⟨w.heap.size + 2, 6, none⟩ = some (.slice A k c) := hx4b.cell 6
               have HO4 := Lib.hid hown4
               have HG4 := Lib.hid hgr
               have HA4 := Lib.hid hat4
               clear hown4 hat4))
        all_goals
          have HI2 := Lib.hid (PlI.step hi.out HG.out (HDR.out.call HF2.out (fun _ h _ => h)) HTR.out HSL.out HG4.out HO4.out HA4.out)
          clear hi HSL HF2 HG4 HO4 HA4 hgr
          go_wp2_with fail
          go_roundw
          case rel => exact ⟨k + 1, _, _, _, by omega, by go_num, HI2⟩
          case measure => simp [intOf]; omega
      · have x0 : wr.cell? ⟨w.heap.size + 2, 0, none⟩ = some (.int .i64 x.op) := hi.out.xbox.cell 0
        have x1 : wr.cell? ⟨w.heap.size + 2, 1, none⟩ = some (.string x.name) := hi.out.xbox.cell 1
        have x2 : wr.cell? ⟨w.heap.size + 2, 2, none⟩ = some (.int .i64 x.cmp) := hi.out.xbox.cell 2
        have x3 : wr.cell? ⟨w.heap.size + 2, 3, none⟩ = some (.int .i64 x.val) := hi.out.xbox.cell 3
        have x4 : wr.cell? ⟨w.heap.size + 2, 4, none⟩ = some (.int .i64 x.lo) := hi.out.xbox.cell 4
        have x5 : wr.cell? ⟨w.heap.size + 2, 5, none⟩ = some (.int .i64 x.hi) := hi.out.xbox.cell 5
        have x6 : wr.cell? ⟨w.heap.size + 2, 6, none⟩ = some (.slice A k c) := hi.out.xbox.cell 6
        have rc := hi.out.rbox.cell
        have rf := hi.out.rbox.frozen
        obtain ⟨htr, hsl⟩ := hi.out.done (Fo.get_end (by omega))
        have HTR := Lib.hid htr
        have HSL := Lib.hid hsl
        have HLN := Lib.hid hi.out.len
        have HB7 := Lib.hid (set7_blk hi.out.rbox (.int .i64 x.op) (.string x.name) (.int .i64 x.cmp) (.int .i64 x.val) (.int .i64 x.lo) (.int .i64 x.hi) (.slice A k c))
        have HF7 := Lib.hid (set7_fr wr (w.heap.size + 1) (.int .i64 x.op) (.string x.name) (.int .i64 x.cmp) (.int .i64 x.val) (.int .i64 x.lo) (.int .i64 x.hi) (.slice A k c))
        have HFR := Lib.hid hi.out.fr
        clear htr hsl hi
        go_wp2_with fail
        change bodyPost _ _ _ _ _ (set7 wr (w.heap.size + 1) (.int .i64 x.op) (.string x.name) (.int .i64 x.cmp) (.int .i64 x.val) (.int .i64 x.lo) (.int .i64 x.hi) (.slice A k c))
        generalize set7 wr (w.heap.size + 1) (.int .i64 x.op) (.string x.name) (.int .i64 x.cmp) (.int .i64 x.val) (.int .i64 x.lo) (.int .i64 x.hi) (.slice A k c) = W7 at *
        have E0 := HB7.out.cell 0
        have E1 := HB7.out.cell 1
        have E2 := HB7.out.cell 2
        have E3 := HB7.out.cell 3
        have E4 := HB7.out.cell 4
        have E5 := HB7.out.cell 5
        have E6 := HB7.out.cell 6
        have HF8 := HF7.out
        clear rc rf x0 x1 x2 x3 x4 x5 x6 e6
        refine bodyPost_ret (v := .agg #[.int .i64 x.op, .string x.name, .int .i64 x.cmp, .int .i64 x.val, .int .i64 x.lo, .int .i64 x.hi, .slice A k c]) (by simp [results, Tryd.results18, go_sem, E0, E1, E2, E3, E4, E5, E6]) rfl ⟨A, c, ks1, by rw [HLN.out], HTR.out, ?_, HFR.out.call HF8 (fun i e hlt => by have : i = w.heap.size + 1 := e; omega)⟩
        exact (HSL.out.keep (fun b hb hlt => HF8.block b hlt (fun e => by have : b = w.heap.size + 1 := e; have := hb.1; omega))).mono (fun b hb => ⟨by have := hb.1; omega, by have := hb.2; have := HF8.size; omega⟩)
set_option maxRecDepth 100000 in
set_option maxHeartbeats 4000000 in
theorem law_ParseReads (W : World) (s : ByteArray) (hs : s.size ≤ 9223372036854775807) (hv : ErrVar W) (hsh : ShVar W) : Calls Tryd.prog 4 #[.string s] W fun en w' => en = .returned (.bool true) ∧ Fr Nob W w' := by
  have HAW := Lib.hid (law10_awake W hv hsh)
  by_cases h1 : 1000 < s.size
  · have hI : (1000 : Int) < s.size := by omega
    clear h1
    go_enter Tryd.func4, Tryd.ntmps4
    go_wp2_with (first
      | ((go_at_call 15); refine (HAW.out).mono ?_; rintro en w1 ⟨rfl, hf1⟩; have HF := Lib.hid hf1; clear hf1)
      )
    go_ret
    exact ⟨rfl, HF.out⟩
  · have hI : (s.size : Int) ≤ 1000 := by omega
    obtain ⟨q, hq⟩ := parse_all s.data.toList
    have HPS := Lib.hid (fun X (hf : Fr Nob W X) => prg_Parse X s hs (hv.fr hf) (hsh.fr hf) q hq)
    have HRF := Lib.hid (fun X => rf_Parse X s hs q hq)
    have HPL := Lib.hid (fun (x : Nd) X B d (f : Fo) (hsz : f.tr.size ≤ 1000) (h : FoSl X.heap.size X B d f) => law10_plain f.tr.size X.heap.size X x B d f (Nat.le_refl _) (by omega) h (Nat.le_refl _))
    have HSM := Lib.hid (fun (x : Nd) X A B c d (f g : Fo) (e : f.tr = g.tr) (hsz : f.tr.size ≤ 1000) (h : FoSl X.heap.size X A c f) (k : FoSl X.heap.size X B d g) => (show Calls Tryd.prog 14 #[fval x A f.len c, fval x B g.len d] X fun en w' => en = .returned (.bool true) ∧ Fr Nob X w' by
      have := ref_Same f.tr.size X.heap.size X x x A B c d f g (Nat.le_refl _) (by omega) h k
      rwa [(same1_iff x f.tr x g.tr).2 ⟨rfl, e⟩] at this))
    cases q with
    | good x ks =>
      have hsz : ks.size ≤ 1000 := by
        obtain ⟨og, hog⟩ := good_of hq
        have := check_small hog.check
        omega
      clear hv hsh hq h1
      unfold ParseR at *
      unfold fval at *
      go_enter Tryd.func4, Tryd.ntmps4
      go_upto_region 8 with (first
        | ((go_at_call 15); refine (HAW.out).mono ?_; rintro en w1 ⟨rfl, hf1⟩; have HF := Lib.hid hf1; clear hf1)
        | ((go_at_call 16); (with_reducible refine (HPS.out _ HF.out).mono ?_); rintro en w2 ⟨B, d, f, rfl, htr, hsl, hf2⟩; replace HF := Lib.hid (HF.out.call hf2 (fun _ h _ => h)); have HS1 := Lib.hid (hsl.lt.sl (N := w2.heap.size) (fun k hk => hk.2)); have HT1 := Lib.hid htr; have hb1 := (Blk.new w2 28 #[.int .i64 x.op, .string x.name, .int .i64 x.cmp, .int .i64 x.val, .int .i64 x.lo, .int .i64 x.hi, .slice B f.len d]); have HB1 := Lib.hid hb1; clear hsl htr hf2 hb1)
        | ((go_at_call 17); (with_reducible refine (HRF.out _).mono ?_); rintro en w3 ⟨C, e, g, rfl, htr, hsl, hf3⟩; replace HF := Lib.hid ((HF.out.alloc _).call hf3 (fun _ h _ => h)); have HS2 := Lib.hid (hsl.lt.sl (N := w3.heap.size) (fun k hk => hk.2)); have HT2 := Lib.hid htr; replace HB1 := Lib.hid (HB1.out.fr hf3 (fun e => e)); replace HS1 := Lib.hid (((HS1.out.fr ((Fr.refl Nob _).alloc _)).fr hf3).mono (M := w3.heap.size) (by have := hf3.size; simp at this; omega)); clear hsl htr hf3))
      obtain ⟨w4, hw4⟩ : ∃ w4, w3.alloc (.cells #[.int .i64 x.op, .string x.name, .int .i64 x.cmp, .int .i64 x.val, .int .i64 x.lo, .int .i64 x.hi, .slice C g.len e] 34) = w4 := ⟨_, rfl⟩
      have hf4 : Fr Nob w3 w4 := by rw [← hw4]; exact (Fr.refl _ _).alloc _
      have hb2 : Blk w4 w3.heap.size 34 #[.int .i64 x.op, .string x.name, .int .i64 x.cmp, .int .i64 x.val, .int .i64 x.lo, .int .i64 x.hi, .slice C g.len e] := by rw [← hw4]; exact Blk.new _ _ _
      rw [hw4]
      have hb1 := HB1.out.fr hf4 (fun e => e)
      have xc := hb1.cell
      have xl := hb1.lt
      have yc := hb2.cell
      have yl := hb2.lt
      have HB1' := Lib.hid hb1
      have HB2' := Lib.hid hb2
      replace HF := Lib.hid (HF.out.call hf4 (fun _ h _ => h))
      have HS1' := Lib.hid (fun X (hf : Fr Nob w4 X) => (((HS1.out.fr hf4).fr hf).mono (Nat.le_trans hf4.size hf.size) : FoSl X.heap.size X B d f))
      have HS2' := Lib.hid (fun X (hf : Fr Nob w4 X) => (((HS2.out.fr hf4).fr hf).mono (Nat.le_trans hf4.size hf.size) : FoSl X.heap.size X C e g))
      clear hf4 hb2 hb1 hw4 HB1 HS1 HS2 HPS HRF HAW
      go_region_law
        (first
          | (rw [if_pos (by rfl)]; go_simp; (go_at_call 18); (with_reducible refine (HPL.out _ _ _ _ _ (by rw [HT1.out]; exact hsz) (HS1'.out _ ?_)).mono ?_); exact (Fr.refl _ _).drew; rintro en w5 ⟨D, u, h, rfl, htr, hsl, hf5⟩; have HF5 := Lib.hid ((Fr.refl Nob w4).drew.call hf5 (fun _ h _ => h)); have HT3 := Lib.hid htr; have HS3 := Lib.hid (hsl.sl (N := w5.heap.size) (fun k hk => hk.2)); have yc5 := (HB2'.out.fr HF5.out (fun e => e)).cell; have yl5 := (HB2'.out.fr HF5.out (fun e => e)).lt; clear htr hsl hf5; go_simp)
          | (rw [if_pos (by rfl)]; go_simp; (go_at_call 14); (with_reducible refine (HSM.out _ _ _ _ _ _ _ _ (by rw [HT3.out, HT1.out, HT2.out]) (by rw [HT3.out, HT1.out]; exact hsz) HS3.out (HS2'.out _ HF5.out)).mono ?_); rintro en w6 ⟨rfl, hf6⟩; have HF6 := Lib.hid hf6; clear hf6; go_simp))
      all_goals
        go_wp2_with fail
        go_ret
        exact ⟨rfl, (HF.out.call HF5.out (fun _ h _ => h)).call HF6.out (fun _ h _ => h)⟩
    | bad ee p =>
      clear hv hsh hq h1
      have HPL0 := Lib.hid (fun X => HPL.out ⟨0, ⟨#[]⟩, 0, 0, 0, 0⟩ X none 0 .nil (by decide) (FoSl.nil _ _))
      have HSM0 := Lib.hid (fun X A c (f : Fo) h1 h2 h3 => HSM.out ⟨0, ⟨#[]⟩, 0, 0, 0, 0⟩ X A none c 0 f .nil h1 h2 h3 (FoSl.nil _ _))
      clear HPL HSM
      unfold ParseR at *
      unfold fval at *
      simp only [Fo.len] at HPL0 HSM0
      go_enter Tryd.func4, Tryd.ntmps4
      go_upto_region 8 with (first
        | ((go_at_call 15); refine (HAW.out).mono ?_; rintro en w1 ⟨rfl, hf1⟩; have HF := Lib.hid hf1; clear hf1)
        | ((go_at_call 16); (with_reducible refine (HPS.out _ HF.out).mono ?_); rintro en w2 ⟨rfl, hf2⟩; replace HF := Lib.hid (HF.out.call hf2 (fun _ h _ => h)); have hb1 := (Blk.new w2 28 #[.int .i64 0, .string ⟨#[]⟩, .int .i64 0, .int .i64 0, .int .i64 0, .int .i64 0, .slice none 0 0]); have HB1 := Lib.hid hb1; clear hf2 hb1)
        | ((go_at_call 17); (with_reducible refine (HRF.out _).mono ?_); rintro en w3 ⟨rfl, hf3⟩; replace HF := Lib.hid ((HF.out.alloc _).call hf3 (fun _ h _ => h)); replace HB1 := Lib.hid (HB1.out.fr hf3 (fun e => e)); clear hf3))
      obtain ⟨w4, hw4⟩ : ∃ w4, w3.alloc (.cells #[.int .i64 0, .string ⟨#[]⟩, .int .i64 0, .int .i64 0, .int .i64 0, .int .i64 0, .slice none 0 0] 34) = w4 := ⟨_, rfl⟩
      have hf4 : Fr Nob w3 w4 := by rw [← hw4]; exact (Fr.refl _ _).alloc _
      have hb2 : Blk w4 w3.heap.size 34 #[.int .i64 0, .string ⟨#[]⟩, .int .i64 0, .int .i64 0, .int .i64 0, .int .i64 0, .slice none 0 0] := by rw [← hw4]; exact Blk.new _ _ _
      rw [hw4]
      have hb1 := HB1.out.fr hf4 (fun e => e)
      have xc := hb1.cell
      have xl := hb1.lt
      have yc := hb2.cell
      have yl := hb2.lt
      have HB1' := Lib.hid hb1
      have HB2' := Lib.hid hb2
      replace HF := Lib.hid (HF.out.call hf4 (fun _ h _ => h))
      have e1 : (ee == ee) = true := by simp
      have e2 : ((p : Int) == (p : Int)) = true := by simp
      clear hf4 hb2 hb1 hw4 HB1 HPS HRF HAW
      go_region_law
        (first
          | (rw [if_pos (by rfl)]; go_simp; (go_at_call 18); (with_reducible refine (HPL0.out _).mono ?_); rintro en w5 ⟨D, u, h, rfl, htr, hsl, hf5⟩; have HF5 := Lib.hid ((Fr.refl Nob w4).drew.call hf5 (fun _ h _ => h)); have HT3 := Lib.hid htr; have HS3 := Lib.hid (hsl.sl (N := w5.heap.size) (fun k hk => hk.2)); have yc5 := (HB2'.out.fr HF5.out (fun e => e)).cell; have yl5 := (HB2'.out.fr HF5.out (fun e => e)).lt; clear htr hsl hf5; go_simp)
          | (rw [if_pos (by rfl)]; go_simp; (go_at_call 14); (with_reducible refine (HSM0.out _ _ _ _ HT3.out (by rw [HT3.out]; decide) HS3.out).mono ?_); rintro en w6 ⟨rfl, hf6⟩; have HF6 := Lib.hid hf6; clear hf6; go_simp))
      all_goals
        go_wp2_with fail
        go_ret
        exact ⟨rfl, (HF.out.call HF5.out (fun _ h _ => h)).call HF6.out (fun _ h _ => h)⟩
end Go.Proofs.YtfebkjoohnlifaaDoor
