/- The reference's parse: a level with a sign between. -/
import Derived.Test.YtfebkjoohnlifaaDoorR4
namespace Go.Proofs.YtfebkjoohnlifaaDoor
open Go.RowKit Go.Shelf
attribute [local go_sem] Instr.field asAgg
set_option maxRecDepth 100000 in
set_option maxHeartbeats 4000000 in
theorem lev_3 (A : Option Addr) (c : Nat) (toks : List (TK × Nat)) (ht : Toks toks) (n : Nat) (hone : LevOk A c toks 4 (gP n)) : LevOk A c toks 3 (gP (n + 1)) := by
  intro W k h hk hne
  rw [show gP (n + 1) (.lev 3 (remT toks k)) = (gP n (.lev 4 (remT toks k))).bind fun x ks r => gP n (.lp 3 x ks r) from rfl] at hne ⊢
  have hk6 : (k : Int) ≤ 600 := by have := ht.few; omega
  have HZ := Lib.hid (Blk.new W 97 z9)
  have HFR := Lib.hid ((Fr.refl Nob W).alloc (.cells z9 97))
  unfold z9 at HZ HFR
  have zc := HZ.out.cell
  have zf := HZ.out.frozen
  have zl := HZ.out.lt
  cases hq : gP n (.lev 4 (remT toks k)) with
  | out => rw [hq] at hne; exact absurd rfl hne
  | bad er r =>
    have HLV := Lib.hid (fun X (hf : Fr Nob W X) => lv_bad hone hk hq (li := 4) (ki := (k : Int)) (by omega) rfl X (h.pure hf))
    rw [show ∀ g, (PR.bad er r).bind g = .bad er r from fun _ => rfl]
    clear h hne hq hone
    unfold RRes rval at *
    go_enter Tryd.func49, Tryd.ntmps49
    go_upto_region 6 with (first
      | ((go_at_call 49); (with_reducible refine (HLV.out _ HFR.out).mono ?_); rintro en w2 ⟨x, B, m, d, k2, rfl, he, hk2, hr2, hf2⟩; replace HZ := Lib.hid (HZ.out.fr hf2 (fun e => e)); replace HFR := Lib.hid (HFR.out.call hf2 (fun _ h _ => h)); replace zc := HZ.out.cell; replace zf := HZ.out.frozen; replace zl := HZ.out.lt; clear hf2)
      )
    have he2 : (er != 0) = true := by simpa using he
    obtain ⟨wa, hwa⟩ : ∃ wa, w2.alloc (.cells #[.int .i64 x.op, .string x.name, .int .i64 x.cmp, .int .i64 x.val, .int .i64 x.lo, .int .i64 x.hi, .slice B m d, .int .i64 k2, .int .i64 er] 97) = wa := ⟨_, rfl⟩
    have hfa : Fr Nob w2 wa := by rw [← hwa]; exact (Fr.refl _ _).alloc _
    have hXA : Blk wa w2.heap.size 97 #[.int .i64 x.op, .string x.name, .int .i64 x.cmp, .int .i64 x.val, .int .i64 x.lo, .int .i64 x.hi, .slice B m d, .int .i64 k2, .int .i64 er] := by rw [← hwa]; exact Blk.new _ _ _
    rw [hwa]
    have hGZ : w2.heap.size ≠ W.heap.size := by omega
    replace HZ := Lib.hid (HZ.out.fr hfa (fun e => e))
    replace HFR := Lib.hid (HFR.out.call hfa (fun _ h _ => h))
    have HFA := Lib.hid hfa
    have HX := Lib.hid hXA
    replace zc := HZ.out.cell
    replace zf := HZ.out.frozen
    replace zl := HZ.out.lt
    have xc := HX.out.cell
    have xf := HX.out.frozen
    have xl := HX.out.lt
    clear hwa hfa hXA
    go_wp2_with fail
    have HB9 := Lib.hid (set9c_blk HZ.out (.int .i64 x.op) (.string x.name) (.int .i64 x.cmp) (.int .i64 x.val) (.int .i64 x.lo) (.int .i64 x.hi) (.slice B m d) (.int .i64 (k2)) (.int .i64 er))
    have HF9 := Lib.hid (set9c_fr wa W.heap.size (.int .i64 x.op) (.string x.name) (.int .i64 x.cmp) (.int .i64 x.val) (.int .i64 x.lo) (.int .i64 x.hi) (.slice B m d) (.int .i64 (k2)) (.int .i64 er))
    change bodyPost _ _ _ _ _ (set9c wa W.heap.size (.int .i64 x.op) (.string x.name) (.int .i64 x.cmp) (.int .i64 x.val) (.int .i64 x.lo) (.int .i64 x.hi) (.slice B m d) (.int .i64 (k2)) (.int .i64 er))
    generalize set9c wa W.heap.size (.int .i64 x.op) (.string x.name) (.int .i64 x.cmp) (.int .i64 x.val) (.int .i64 x.lo) (.int .i64 x.hi) (.slice B m d) (.int .i64 (k2)) (.int .i64 er) = W9 at *
    have HS := HB9.out.cell
    refine bodyPost_ret (v := .agg #[.int .i64 x.op, .string x.name, .int .i64 x.cmp, .int .i64 x.val, .int .i64 x.lo, .int .i64 x.hi, .slice B m d, .int .i64 (k2), .int .i64 er]) (by simp [results, Tryd.results49, go_sem, HS]) rfl ?_
    exact ⟨x, B, m, d, k2, rfl, he, hk2, hr2, own9 HFR.out HF9.out⟩
  | ok x ks r =>
    obtain ⟨k1, hk1, rfl⟩ := lev_pos ht hk hq
    have HLV := Lib.hid (fun X (hf : Fr Nob W X) => lv_ok hone hk hq hk1 (li := 4) (ki := (k : Int)) (by omega) rfl X (h.pure hf))
    have HONE := Lib.hid hone
    have HT := Lib.hid ht
    have HH := Lib.hid h
    rw [hq] at hne
    rw [show ∀ g, (PR.ok x ks (remT toks k1)).bind g = g x ks (remT toks k1) from fun _ => rfl] at hne ⊢
    obtain ⟨q, hqq⟩ : ∃ q, gP n (.lp 3 x ks (remT toks k1)) = q := ⟨_, rfl⟩
    rw [hqq] at hne ⊢
    have HQ := Lib.hid hqq
    have HNE := Lib.hid hne
    clear h hne hq hone hqq ht
    unfold rval at *
    go_enter Tryd.func49, Tryd.ntmps49
    go_upto_region 6 with (first
      | ((go_at_call 49); (with_reducible refine (HLV.out _ HFR.out).mono ?_); rintro en w2 ⟨B, d, f, rfl, htr, hsl, hf2⟩; replace HZ := Lib.hid (HZ.out.fr hf2 (fun e => e)); have HSL := Lib.hid (slp_up (M := W.heap.size + 1) hsl (Nat.succ_le_of_lt zl)); have HSZ := Lib.hid (Nat.le_trans (Nat.succ_le_of_lt zl) hf2.size); replace HFR := Lib.hid (HFR.out.call hf2 (fun _ h _ => h)); have HTR := Lib.hid htr; replace zc := HZ.out.cell; replace zf := HZ.out.frozen; replace zl := HZ.out.lt; clear hf2 htr hsl)
      )
    have HSL2 := Lib.hid (slp_pf HSL.out ((Fr.refl Nob w2).alloc (.cells #[.int .i64 x.op, .string x.name, .int .i64 x.cmp, .int .i64 x.val, .int .i64 x.lo, .int .i64 x.hi, .slice B f.len d, .int .i64 k1, .int .i64 0] 97)))
    obtain ⟨wa, hwa⟩ : ∃ wa, w2.alloc (.cells #[.int .i64 x.op, .string x.name, .int .i64 x.cmp, .int .i64 x.val, .int .i64 x.lo, .int .i64 x.hi, .slice B f.len d, .int .i64 k1, .int .i64 0] 97) = wa := ⟨_, rfl⟩
    rw [hwa] at HSL2 ⊢
    have HI := Lib.hid (show LvI W toks w2.heap.size n 3 q k1 n x B d f wa from ⟨hk1, Nat.le_refl _, by rw [HTR.out]; exact HQ.out, by rw [← hwa]; exact Blk.new _ _ _, by rw [← hwa]; exact HZ.out.alloc _, HSL2.out, by rw [← hwa]; exact HFR.out.alloc _⟩)
    have xc := HI.out.box.cell
    have xl := HI.out.box.lt
    clear hwa HSL2 HSL HTR HQ HLV HFR HZ zc zf
    have hG : W.heap.size < w2.heap.size := zl
    generalize w2.heap.size = G at *
    go_wp2_with fail
    go_loopw [17] (fun _ wr => ∃ k m x B d f, Hid (LvI W toks G n 3 q k m x B d f wr)) (fun _ wr => lvM toks.length G wr)
    case atStart => exact ⟨_, _, _, _, _, _, HI⟩
    case round =>
      clear HI xc xl
      obtain ⟨k, m, x, B, d, f, hi⟩ := hrel
      have hk2 := hi.out.hk
      have hk26 : (k : Int) ≤ 600 := by have := HT.out.few; omega
      have HFR := Lib.hid hi.out.fr
      have HZ := Lib.hid hi.out.z
      have HB := Lib.hid hi.out.box
      have HPS := Lib.hid hi.out.sl
      unfold z9 at HZ
      have zc := HZ.out.cell
      have zf := HZ.out.frozen
      have zl := HZ.out.lt
      have xc := HB.out.cell
      have xf := HB.out.frozen
      have xl := HB.out.lt
      have hread := hi.out.read
      have hfu := hi.out.fuel
      have HM := Lib.hid (fun N => lvM_at hi.out N)
      clear hi
      have HSG := Lib.hid (fun X (hf : Fr Nob W X) => rf_sign X A c toks k (HH.out.pure hf) hk2 [124])
      cases m with
      | zero => exact absurd hread.symm HNE.out
      | succ m =>
        rw [show gP (m + 1) (.lp 3 x f.tr (remT toks k)) = if sgn (remT toks k) [124] then (gP m (.lev 4 (remT toks k).tail)).bind fun y js r => gP m (.lp 3 (nd1 6 0 0) (two x f.tr y js) r) else .ok x f.tr (remT toks k) from rfl] at hread
        rw [sgn_rem hk2, remT_tail] at hread
        cases hs : tsg toks[k] [124]
        · rw [hs, if_neg (by simp)] at hread
          rw [hs] at HSG
          subst hread
          clear hs
          unfold RRes rval at *
          go_wp2_with (first
            | ((go_at_call 82); (with_reducible refine (HSG.out _ HFR.out).mono ?_); rintro en w5 ⟨rfl, hw5⟩; obtain rfl := hw5)
            )
          have HB9 := Lib.hid (set9c_blk HZ.out (.int .i64 x.op) (.string x.name) (.int .i64 x.cmp) (.int .i64 x.val) (.int .i64 x.lo) (.int .i64 x.hi) (.slice B f.len d) (.int .i64 (k)) (.int .i64 0))
          have HF9 := Lib.hid (set9c_fr w5 W.heap.size (.int .i64 x.op) (.string x.name) (.int .i64 x.cmp) (.int .i64 x.val) (.int .i64 x.lo) (.int .i64 x.hi) (.slice B f.len d) (.int .i64 (k)) (.int .i64 0))
          change bodyPost _ _ _ _ _ (set9c w5 W.heap.size (.int .i64 x.op) (.string x.name) (.int .i64 x.cmp) (.int .i64 x.val) (.int .i64 x.lo) (.int .i64 x.hi) (.slice B f.len d) (.int .i64 (k)) (.int .i64 0))
          generalize set9c w5 W.heap.size (.int .i64 x.op) (.string x.name) (.int .i64 x.cmp) (.int .i64 x.val) (.int .i64 x.lo) (.int .i64 x.hi) (.slice B f.len d) (.int .i64 (k)) (.int .i64 0) = W9 at *
          have HS := HB9.out.cell
          refine bodyPost_ret (v := .agg #[.int .i64 x.op, .string x.name, .int .i64 x.cmp, .int .i64 x.val, .int .i64 x.lo, .int .i64 x.hi, .slice B f.len d, .int .i64 (k), .int .i64 0]) (by simp [results, Tryd.results49, go_sem, HS]) rfl ?_
          exact ⟨B, d, f, k, rfl, hk2, rfl, rfl, (HPS.out.mono (fun k hk => hk.1)).keep (fun k hk hlt => HF9.out.block k hlt (by unfold Only; omega)) |>.mono (fun k hk => by omega), own9 HFR.out HF9.out⟩
        · rw [hs, if_pos rfl] at hread
          have hk3 := next_lt HT.out hk2 (tsg_kind hs)
          rw [hs] at HSG
          cases hq2 : gP m (.lev 4 (remT toks (k + 1))) with
          | out => rw [hq2] at hread; exact absurd hread.symm HNE.out
          | bad er r =>
            have HLV := Lib.hid (fun X (hf : Fr Nob W X) => lv_bad (HONE.out.more (m := m) (by omega)) hk3 hq2 (li := 4) (ki := (k : Int) + 1) (by omega) (by omega) X (HH.out.pure hf))
            rw [hq2, show ∀ g, (PR.bad er r).bind g = .bad er r from fun _ => rfl] at hread
            subst hread
            clear hs hq2
            unfold RRes rval at *
            go_upto_region 35 with (first
              | ((go_at_call 82); (with_reducible refine (HSG.out _ HFR.out).mono ?_); rintro en w5 ⟨rfl, hw5⟩; obtain rfl := hw5)
              | ((go_at_call 49); (with_reducible refine (HLV.out _ HFR.out).mono ?_); rintro en w2 ⟨x, B, m, d, k2, rfl, he, hk2, hr2, hf2⟩; replace HZ := Lib.hid (HZ.out.fr hf2 (fun e => e)); replace HFR := Lib.hid (HFR.out.call hf2 (fun _ h _ => h)); replace zc := HZ.out.cell; replace zf := HZ.out.frozen; replace zl := HZ.out.lt; clear hf2)
              )
            have he2 : (er != 0) = true := by simpa using he
            obtain ⟨wa, hwa⟩ : ∃ wa, w2.alloc (.cells #[.int .i64 x.op, .string x.name, .int .i64 x.cmp, .int .i64 x.val, .int .i64 x.lo, .int .i64 x.hi, .slice B m d, .int .i64 k2, .int .i64 er] 97) = wa := ⟨_, rfl⟩
            have hfa : Fr Nob w2 wa := by rw [← hwa]; exact (Fr.refl _ _).alloc _
            have hXA : Blk wa w2.heap.size 97 #[.int .i64 x.op, .string x.name, .int .i64 x.cmp, .int .i64 x.val, .int .i64 x.lo, .int .i64 x.hi, .slice B m d, .int .i64 k2, .int .i64 er] := by rw [← hwa]; exact Blk.new _ _ _
            rw [hwa]
            have hGZ : w2.heap.size ≠ W.heap.size := by omega
            replace HZ := Lib.hid (HZ.out.fr hfa (fun e => e))
            replace HFR := Lib.hid (HFR.out.call hfa (fun _ h _ => h))
            have HFA := Lib.hid hfa
            have HX := Lib.hid hXA
            replace zc := HZ.out.cell
            replace zf := HZ.out.frozen
            replace zl := HZ.out.lt
            have xc := HX.out.cell
            have xf := HX.out.frozen
            have xl := HX.out.lt
            clear hwa hfa hXA
            go_wp2_with fail
            have HB9 := Lib.hid (set9c_blk HZ.out (.int .i64 x.op) (.string x.name) (.int .i64 x.cmp) (.int .i64 x.val) (.int .i64 x.lo) (.int .i64 x.hi) (.slice B m d) (.int .i64 (k2)) (.int .i64 er))
            have HF9 := Lib.hid (set9c_fr wa W.heap.size (.int .i64 x.op) (.string x.name) (.int .i64 x.cmp) (.int .i64 x.val) (.int .i64 x.lo) (.int .i64 x.hi) (.slice B m d) (.int .i64 (k2)) (.int .i64 er))
            change bodyPost _ _ _ _ _ (set9c wa W.heap.size (.int .i64 x.op) (.string x.name) (.int .i64 x.cmp) (.int .i64 x.val) (.int .i64 x.lo) (.int .i64 x.hi) (.slice B m d) (.int .i64 (k2)) (.int .i64 er))
            generalize set9c wa W.heap.size (.int .i64 x.op) (.string x.name) (.int .i64 x.cmp) (.int .i64 x.val) (.int .i64 x.lo) (.int .i64 x.hi) (.slice B m d) (.int .i64 (k2)) (.int .i64 er) = W9 at *
            have HS := HB9.out.cell
            refine bodyPost_ret (v := .agg #[.int .i64 x.op, .string x.name, .int .i64 x.cmp, .int .i64 x.val, .int .i64 x.lo, .int .i64 x.hi, .slice B m d, .int .i64 (k2), .int .i64 er]) (by simp [results, Tryd.results49, go_sem, HS]) rfl ?_
            exact ⟨x, B, m, d, k2, rfl, he, hk2, hr2, own9 HFR.out HF9.out⟩
          | ok y js r =>
            obtain ⟨k4, hkk4, hk4, rfl⟩ := lev_pos' HT.out hk3 hq2
            have HLV := Lib.hid (fun X (hf : Fr Nob W X) => lv_ok (HONE.out.more (m := m) (by omega)) hk3 hq2 hk4 (li := 4) (ki := (k : Int) + 1) (by omega) (by omega) X (HH.out.pure hf))
            rw [hq2, show ∀ g, (PR.ok y js (remT toks k4)).bind g = g y js (remT toks k4) from fun _ => rfl] at hread
            have HRE := Lib.hid hread
            clear hs hq2 hread
            unfold rval at *
            go_upto_region 35 with (first
              | ((go_at_call 82); (with_reducible refine (HSG.out _ HFR.out).mono ?_); rintro en w5 ⟨rfl, hw5⟩; obtain rfl := hw5)
              | ((go_at_call 49); (with_reducible refine (HLV.out _ HFR.out).mono ?_); rintro en w2 ⟨C, e, g, rfl, htr, hsl, hf2⟩; have HSW := Lib.hid (show W.heap.size < w5.heap.size by assumption); have HXL := Lib.hid (show G < w5.heap.size by assumption); have HSL := Lib.hid hsl; have HF2 := Lib.hid hf2; replace HZ := Lib.hid (HZ.out.fr hf2 (fun e => e)); replace HB := Lib.hid (HB.out.fr hf2 (fun e => e)); replace HPS := Lib.hid (sl_fr HPS.out hf2 (fun _ _ e => e)); replace HFR := Lib.hid (HFR.out.call hf2 (fun _ h _ => h)); have HTR := Lib.hid htr; replace zc := HZ.out.cell; replace zf := HZ.out.frozen; replace zl := HZ.out.lt; replace xc := HB.out.cell; replace xf := HB.out.frozen; replace xl := HB.out.lt; clear hf2 htr hsl)
              )
            obtain ⟨wa, hwa⟩ : ∃ wa, w2.alloc (.cells #[.int .i64 y.op, .string y.name, .int .i64 y.cmp, .int .i64 y.val, .int .i64 y.lo, .int .i64 y.hi, .slice C g.len e, .int .i64 k4, .int .i64 0] 97) = wa := ⟨_, rfl⟩
            have hfa : Fr Nob w2 wa := by rw [← hwa]; exact (Fr.refl _ _).alloc _
            have HQB := Lib.hid (show Blk wa w2.heap.size 97 #[.int .i64 y.op, .string y.name, .int .i64 y.cmp, .int .i64 y.val, .int .i64 y.lo, .int .i64 y.hi, .slice C g.len e, .int .i64 k4, .int .i64 0] by rw [← hwa]; exact Blk.new _ _ _)
            rw [hwa]
            have hGQ : w2.heap.size ≠ G := by omega
            replace HZ := Lib.hid (HZ.out.fr hfa (fun e => e))
            replace HB := Lib.hid (HB.out.fr hfa (fun e => e))
            replace HPS := Lib.hid (sl_fr HPS.out hfa (fun _ _ e => e))
            replace HFR := Lib.hid (HFR.out.call hfa (fun _ h _ => h))
            replace HF2 := Lib.hid (HF2.out.call hfa (fun _ h _ => h))
            have HFA := Lib.hid hfa
            replace zc := HZ.out.cell
            replace zf := HZ.out.frozen
            replace zl := HZ.out.lt
            replace xc := HB.out.cell
            replace xf := HB.out.frozen
            replace xl := HB.out.lt
            have yc := HQB.out.cell
            have yf := HQB.out.frozen
            have yl := HQB.out.lt
            clear hwa hfa
            have HTW := Lib.hid (fun X => rf_two X 6 0 0 x B f.len d y C g.len e)
            unfold fval nd1 at HTW
            have HDR := Lib.hid (show Fr Nob wa wa.drew from (Fr.refl _ _).drew)
            go_upto_region 37 with fail
            go_region_law
              (first
                | (rw [if_pos (by rfl)]; go_simp; (go_at_call 83); (with_reducible refine (HTW.out _).mono ?_); rintro en w3 ⟨hh, rfl, hgw, hgb, hf3⟩; have hb3 := HB.out.drew.fr hf3 (fun e => e); have hq3 := HQB.out.drew.fr hf3 (fun e => e); have xc3 := hb3.cell; have xf3 := hb3.frozen; have xl3 := hb3.lt; have yc3 := hq3.cell; have yl3 := hq3.lt; have HF3 := Lib.hid hf3; have HGB := Lib.hid hgb; have HGW := Lib.hid hgw; have HB3 := Lib.hid hb3; clear hf3 hgb hgw hb3 hq3; go_simp))
            all_goals
              have hi2 := LvI.step (n := n) hk4 hfu HRE.out HTR.out HB3.out HZ.out (HDR.out.call HF3.out (fun _ h _ => h)) HPS.out HSL.out HFA.out HXL.out hG HGB.out HGW.out HFR.out xl
              have hms := (lvM_at hi2 toks.length)
              replace HM := HM.out toks.length
              change Exit.inBlock _ _ _ _ (set9c w3 G (.int .i64 6) (.string ⟨#[]⟩) (.int .i64 0) (.int .i64 0) (.int .i64 0) (.int .i64 0) (.slice (some ⟨hh, 0, none⟩) 2 2) (.int .i64 (k4 : Int)) (.int .i64 0))
              generalize set9c w3 G (.int .i64 6) (.string ⟨#[]⟩) (.int .i64 0) (.int .i64 0) (.int .i64 0) (.int .i64 0) (.slice (some ⟨hh, 0, none⟩) 2 2) (.int .i64 (k4 : Int)) (.int .i64 0) = w9 at *
              have HI2 := Lib.hid hi2
              clear hi2 xc xf xc3 xf3 yc3 yl3 yc yf yl zc zf HB3 HGB HZ HB HPS HSL HF3 HFA HQB HTW HLV HSG HRE
              go_wp2_with fail
              go_roundw
              case rel => exact ⟨k4, m, _, _, _, _, HI2⟩
              case measure => rw [hms, HM]; omega
/- The reference's parse: a level with a sign between. -/
open Go.RowKit Go.Shelf
attribute [local go_sem] Instr.field asAgg
set_option maxRecDepth 100000 in
set_option maxHeartbeats 4000000 in
theorem lev_4 (A : Option Addr) (c : Nat) (toks : List (TK × Nat)) (ht : Toks toks) (n : Nat) (hone : LevOk A c toks 5 (gP n)) : LevOk A c toks 4 (gP (n + 1)) := by
  intro W k h hk hne
  rw [show gP (n + 1) (.lev 4 (remT toks k)) = (gP n (.lev 5 (remT toks k))).bind fun x ks r => gP n (.lp 4 x ks r) from rfl] at hne ⊢
  have hk6 : (k : Int) ≤ 600 := by have := ht.few; omega
  have HZ := Lib.hid (Blk.new W 97 z9)
  have HFR := Lib.hid ((Fr.refl Nob W).alloc (.cells z9 97))
  unfold z9 at HZ HFR
  have zc := HZ.out.cell
  have zf := HZ.out.frozen
  have zl := HZ.out.lt
  cases hq : gP n (.lev 5 (remT toks k)) with
  | out => rw [hq] at hne; exact absurd rfl hne
  | bad er r =>
    have HLV := Lib.hid (fun X (hf : Fr Nob W X) => lv_bad hone hk hq (li := 5) (ki := (k : Int)) (by omega) rfl X (h.pure hf))
    rw [show ∀ g, (PR.bad er r).bind g = .bad er r from fun _ => rfl]
    clear h hne hq hone
    unfold RRes rval at *
    go_enter Tryd.func49, Tryd.ntmps49
    go_upto_region 6 with (first
      | ((go_at_call 49); (with_reducible refine (HLV.out _ HFR.out).mono ?_); rintro en w2 ⟨x, B, m, d, k2, rfl, he, hk2, hr2, hf2⟩; replace HZ := Lib.hid (HZ.out.fr hf2 (fun e => e)); replace HFR := Lib.hid (HFR.out.call hf2 (fun _ h _ => h)); replace zc := HZ.out.cell; replace zf := HZ.out.frozen; replace zl := HZ.out.lt; clear hf2)
      )
    have he2 : (er != 0) = true := by simpa using he
    obtain ⟨wa, hwa⟩ : ∃ wa, w2.alloc (.cells #[.int .i64 x.op, .string x.name, .int .i64 x.cmp, .int .i64 x.val, .int .i64 x.lo, .int .i64 x.hi, .slice B m d, .int .i64 k2, .int .i64 er] 97) = wa := ⟨_, rfl⟩
    have hfa : Fr Nob w2 wa := by rw [← hwa]; exact (Fr.refl _ _).alloc _
    have hXA : Blk wa w2.heap.size 97 #[.int .i64 x.op, .string x.name, .int .i64 x.cmp, .int .i64 x.val, .int .i64 x.lo, .int .i64 x.hi, .slice B m d, .int .i64 k2, .int .i64 er] := by rw [← hwa]; exact Blk.new _ _ _
    rw [hwa]
    have hGZ : w2.heap.size ≠ W.heap.size := by omega
    replace HZ := Lib.hid (HZ.out.fr hfa (fun e => e))
    replace HFR := Lib.hid (HFR.out.call hfa (fun _ h _ => h))
    have HFA := Lib.hid hfa
    have HX := Lib.hid hXA
    replace zc := HZ.out.cell
    replace zf := HZ.out.frozen
    replace zl := HZ.out.lt
    have xc := HX.out.cell
    have xf := HX.out.frozen
    have xl := HX.out.lt
    clear hwa hfa hXA
    go_wp2_with fail
    have HB9 := Lib.hid (set9c_blk HZ.out (.int .i64 x.op) (.string x.name) (.int .i64 x.cmp) (.int .i64 x.val) (.int .i64 x.lo) (.int .i64 x.hi) (.slice B m d) (.int .i64 (k2)) (.int .i64 er))
    have HF9 := Lib.hid (set9c_fr wa W.heap.size (.int .i64 x.op) (.string x.name) (.int .i64 x.cmp) (.int .i64 x.val) (.int .i64 x.lo) (.int .i64 x.hi) (.slice B m d) (.int .i64 (k2)) (.int .i64 er))
    change bodyPost _ _ _ _ _ (set9c wa W.heap.size (.int .i64 x.op) (.string x.name) (.int .i64 x.cmp) (.int .i64 x.val) (.int .i64 x.lo) (.int .i64 x.hi) (.slice B m d) (.int .i64 (k2)) (.int .i64 er))
    generalize set9c wa W.heap.size (.int .i64 x.op) (.string x.name) (.int .i64 x.cmp) (.int .i64 x.val) (.int .i64 x.lo) (.int .i64 x.hi) (.slice B m d) (.int .i64 (k2)) (.int .i64 er) = W9 at *
    have HS := HB9.out.cell
    refine bodyPost_ret (v := .agg #[.int .i64 x.op, .string x.name, .int .i64 x.cmp, .int .i64 x.val, .int .i64 x.lo, .int .i64 x.hi, .slice B m d, .int .i64 (k2), .int .i64 er]) (by simp [results, Tryd.results49, go_sem, HS]) rfl ?_
    exact ⟨x, B, m, d, k2, rfl, he, hk2, hr2, own9 HFR.out HF9.out⟩
  | ok x ks r =>
    obtain ⟨k1, hk1, rfl⟩ := lev_pos ht hk hq
    have HLV := Lib.hid (fun X (hf : Fr Nob W X) => lv_ok hone hk hq hk1 (li := 5) (ki := (k : Int)) (by omega) rfl X (h.pure hf))
    have HONE := Lib.hid hone
    have HT := Lib.hid ht
    have HH := Lib.hid h
    rw [hq] at hne
    rw [show ∀ g, (PR.ok x ks (remT toks k1)).bind g = g x ks (remT toks k1) from fun _ => rfl] at hne ⊢
    obtain ⟨q, hqq⟩ : ∃ q, gP n (.lp 4 x ks (remT toks k1)) = q := ⟨_, rfl⟩
    rw [hqq] at hne ⊢
    have HQ := Lib.hid hqq
    have HNE := Lib.hid hne
    clear h hne hq hone hqq ht
    unfold rval at *
    go_enter Tryd.func49, Tryd.ntmps49
    go_upto_region 6 with (first
      | ((go_at_call 49); (with_reducible refine (HLV.out _ HFR.out).mono ?_); rintro en w2 ⟨B, d, f, rfl, htr, hsl, hf2⟩; replace HZ := Lib.hid (HZ.out.fr hf2 (fun e => e)); have HSL := Lib.hid (slp_up (M := W.heap.size + 1) hsl (Nat.succ_le_of_lt zl)); have HSZ := Lib.hid (Nat.le_trans (Nat.succ_le_of_lt zl) hf2.size); replace HFR := Lib.hid (HFR.out.call hf2 (fun _ h _ => h)); have HTR := Lib.hid htr; replace zc := HZ.out.cell; replace zf := HZ.out.frozen; replace zl := HZ.out.lt; clear hf2 htr hsl)
      )
    have HSL2 := Lib.hid (slp_pf HSL.out ((Fr.refl Nob w2).alloc (.cells #[.int .i64 x.op, .string x.name, .int .i64 x.cmp, .int .i64 x.val, .int .i64 x.lo, .int .i64 x.hi, .slice B f.len d, .int .i64 k1, .int .i64 0] 97)))
    obtain ⟨wa, hwa⟩ : ∃ wa, w2.alloc (.cells #[.int .i64 x.op, .string x.name, .int .i64 x.cmp, .int .i64 x.val, .int .i64 x.lo, .int .i64 x.hi, .slice B f.len d, .int .i64 k1, .int .i64 0] 97) = wa := ⟨_, rfl⟩
    rw [hwa] at HSL2 ⊢
    have HI := Lib.hid (show LvI W toks w2.heap.size n 4 q k1 n x B d f wa from ⟨hk1, Nat.le_refl _, by rw [HTR.out]; exact HQ.out, by rw [← hwa]; exact Blk.new _ _ _, by rw [← hwa]; exact HZ.out.alloc _, HSL2.out, by rw [← hwa]; exact HFR.out.alloc _⟩)
    have xc := HI.out.box.cell
    have xl := HI.out.box.lt
    clear hwa HSL2 HSL HTR HQ HLV HFR HZ zc zf
    have hG : W.heap.size < w2.heap.size := zl
    generalize w2.heap.size = G at *
    go_wp2_with fail
    go_loopw [17] (fun _ wr => ∃ k m x B d f, Hid (LvI W toks G n 4 q k m x B d f wr)) (fun _ wr => lvM toks.length G wr)
    case atStart => exact ⟨_, _, _, _, _, _, HI⟩
    case round =>
      clear HI xc xl
      obtain ⟨k, m, x, B, d, f, hi⟩ := hrel
      have hk2 := hi.out.hk
      have hk26 : (k : Int) ≤ 600 := by have := HT.out.few; omega
      have HFR := Lib.hid hi.out.fr
      have HZ := Lib.hid hi.out.z
      have HB := Lib.hid hi.out.box
      have HPS := Lib.hid hi.out.sl
      unfold z9 at HZ
      have zc := HZ.out.cell
      have zf := HZ.out.frozen
      have zl := HZ.out.lt
      have xc := HB.out.cell
      have xf := HB.out.frozen
      have xl := HB.out.lt
      have hread := hi.out.read
      have hfu := hi.out.fuel
      have HM := Lib.hid (fun N => lvM_at hi.out N)
      clear hi
      have HSG := Lib.hid (fun X (hf : Fr Nob W X) => rf_sign X A c toks k (HH.out.pure hf) hk2 [38])
      cases m with
      | zero => exact absurd hread.symm HNE.out
      | succ m =>
        rw [show gP (m + 1) (.lp 4 x f.tr (remT toks k)) = if sgn (remT toks k) [38] then (gP m (.lev 5 (remT toks k).tail)).bind fun y js r => gP m (.lp 4 (nd1 5 0 0) (two x f.tr y js) r) else .ok x f.tr (remT toks k) from rfl] at hread
        rw [sgn_rem hk2, remT_tail] at hread
        cases hs : tsg toks[k] [38]
        · rw [hs, if_neg (by simp)] at hread
          rw [hs] at HSG
          subst hread
          clear hs
          unfold RRes rval at *
          go_wp2_with (first
            | ((go_at_call 82); (with_reducible refine (HSG.out _ HFR.out).mono ?_); rintro en w5 ⟨rfl, hw5⟩; obtain rfl := hw5)
            )
          have HB9 := Lib.hid (set9c_blk HZ.out (.int .i64 x.op) (.string x.name) (.int .i64 x.cmp) (.int .i64 x.val) (.int .i64 x.lo) (.int .i64 x.hi) (.slice B f.len d) (.int .i64 (k)) (.int .i64 0))
          have HF9 := Lib.hid (set9c_fr w5 W.heap.size (.int .i64 x.op) (.string x.name) (.int .i64 x.cmp) (.int .i64 x.val) (.int .i64 x.lo) (.int .i64 x.hi) (.slice B f.len d) (.int .i64 (k)) (.int .i64 0))
          change bodyPost _ _ _ _ _ (set9c w5 W.heap.size (.int .i64 x.op) (.string x.name) (.int .i64 x.cmp) (.int .i64 x.val) (.int .i64 x.lo) (.int .i64 x.hi) (.slice B f.len d) (.int .i64 (k)) (.int .i64 0))
          generalize set9c w5 W.heap.size (.int .i64 x.op) (.string x.name) (.int .i64 x.cmp) (.int .i64 x.val) (.int .i64 x.lo) (.int .i64 x.hi) (.slice B f.len d) (.int .i64 (k)) (.int .i64 0) = W9 at *
          have HS := HB9.out.cell
          refine bodyPost_ret (v := .agg #[.int .i64 x.op, .string x.name, .int .i64 x.cmp, .int .i64 x.val, .int .i64 x.lo, .int .i64 x.hi, .slice B f.len d, .int .i64 (k), .int .i64 0]) (by simp [results, Tryd.results49, go_sem, HS]) rfl ?_
          exact ⟨B, d, f, k, rfl, hk2, rfl, rfl, (HPS.out.mono (fun k hk => hk.1)).keep (fun k hk hlt => HF9.out.block k hlt (by unfold Only; omega)) |>.mono (fun k hk => by omega), own9 HFR.out HF9.out⟩
        · rw [hs, if_pos rfl] at hread
          have hk3 := next_lt HT.out hk2 (tsg_kind hs)
          rw [hs] at HSG
          cases hq2 : gP m (.lev 5 (remT toks (k + 1))) with
          | out => rw [hq2] at hread; exact absurd hread.symm HNE.out
          | bad er r =>
            have HLV := Lib.hid (fun X (hf : Fr Nob W X) => lv_bad (HONE.out.more (m := m) (by omega)) hk3 hq2 (li := 5) (ki := (k : Int) + 1) (by omega) (by omega) X (HH.out.pure hf))
            rw [hq2, show ∀ g, (PR.bad er r).bind g = .bad er r from fun _ => rfl] at hread
            subst hread
            clear hs hq2
            unfold RRes rval at *
            go_upto_region 35 with (first
              | ((go_at_call 82); (with_reducible refine (HSG.out _ HFR.out).mono ?_); rintro en w5 ⟨rfl, hw5⟩; obtain rfl := hw5)
              | ((go_at_call 49); (with_reducible refine (HLV.out _ HFR.out).mono ?_); rintro en w2 ⟨x, B, m, d, k2, rfl, he, hk2, hr2, hf2⟩; replace HZ := Lib.hid (HZ.out.fr hf2 (fun e => e)); replace HFR := Lib.hid (HFR.out.call hf2 (fun _ h _ => h)); replace zc := HZ.out.cell; replace zf := HZ.out.frozen; replace zl := HZ.out.lt; clear hf2)
              )
            have he2 : (er != 0) = true := by simpa using he
            obtain ⟨wa, hwa⟩ : ∃ wa, w2.alloc (.cells #[.int .i64 x.op, .string x.name, .int .i64 x.cmp, .int .i64 x.val, .int .i64 x.lo, .int .i64 x.hi, .slice B m d, .int .i64 k2, .int .i64 er] 97) = wa := ⟨_, rfl⟩
            have hfa : Fr Nob w2 wa := by rw [← hwa]; exact (Fr.refl _ _).alloc _
            have hXA : Blk wa w2.heap.size 97 #[.int .i64 x.op, .string x.name, .int .i64 x.cmp, .int .i64 x.val, .int .i64 x.lo, .int .i64 x.hi, .slice B m d, .int .i64 k2, .int .i64 er] := by rw [← hwa]; exact Blk.new _ _ _
            rw [hwa]
            have hGZ : w2.heap.size ≠ W.heap.size := by omega
            replace HZ := Lib.hid (HZ.out.fr hfa (fun e => e))
            replace HFR := Lib.hid (HFR.out.call hfa (fun _ h _ => h))
            have HFA := Lib.hid hfa
            have HX := Lib.hid hXA
            replace zc := HZ.out.cell
            replace zf := HZ.out.frozen
            replace zl := HZ.out.lt
            have xc := HX.out.cell
            have xf := HX.out.frozen
            have xl := HX.out.lt
            clear hwa hfa hXA
            go_wp2_with fail
            have HB9 := Lib.hid (set9c_blk HZ.out (.int .i64 x.op) (.string x.name) (.int .i64 x.cmp) (.int .i64 x.val) (.int .i64 x.lo) (.int .i64 x.hi) (.slice B m d) (.int .i64 (k2)) (.int .i64 er))
            have HF9 := Lib.hid (set9c_fr wa W.heap.size (.int .i64 x.op) (.string x.name) (.int .i64 x.cmp) (.int .i64 x.val) (.int .i64 x.lo) (.int .i64 x.hi) (.slice B m d) (.int .i64 (k2)) (.int .i64 er))
            change bodyPost _ _ _ _ _ (set9c wa W.heap.size (.int .i64 x.op) (.string x.name) (.int .i64 x.cmp) (.int .i64 x.val) (.int .i64 x.lo) (.int .i64 x.hi) (.slice B m d) (.int .i64 (k2)) (.int .i64 er))
            generalize set9c wa W.heap.size (.int .i64 x.op) (.string x.name) (.int .i64 x.cmp) (.int .i64 x.val) (.int .i64 x.lo) (.int .i64 x.hi) (.slice B m d) (.int .i64 (k2)) (.int .i64 er) = W9 at *
            have HS := HB9.out.cell
            refine bodyPost_ret (v := .agg #[.int .i64 x.op, .string x.name, .int .i64 x.cmp, .int .i64 x.val, .int .i64 x.lo, .int .i64 x.hi, .slice B m d, .int .i64 (k2), .int .i64 er]) (by simp [results, Tryd.results49, go_sem, HS]) rfl ?_
            exact ⟨x, B, m, d, k2, rfl, he, hk2, hr2, own9 HFR.out HF9.out⟩
          | ok y js r =>
            obtain ⟨k4, hkk4, hk4, rfl⟩ := lev_pos' HT.out hk3 hq2
            have HLV := Lib.hid (fun X (hf : Fr Nob W X) => lv_ok (HONE.out.more (m := m) (by omega)) hk3 hq2 hk4 (li := 5) (ki := (k : Int) + 1) (by omega) (by omega) X (HH.out.pure hf))
            rw [hq2, show ∀ g, (PR.ok y js (remT toks k4)).bind g = g y js (remT toks k4) from fun _ => rfl] at hread
            have HRE := Lib.hid hread
            clear hs hq2 hread
            unfold rval at *
            go_upto_region 35 with (first
              | ((go_at_call 82); (with_reducible refine (HSG.out _ HFR.out).mono ?_); rintro en w5 ⟨rfl, hw5⟩; obtain rfl := hw5)
              | ((go_at_call 49); (with_reducible refine (HLV.out _ HFR.out).mono ?_); rintro en w2 ⟨C, e, g, rfl, htr, hsl, hf2⟩; have HSW := Lib.hid (show W.heap.size < w5.heap.size by assumption); have HXL := Lib.hid (show G < w5.heap.size by assumption); have HSL := Lib.hid hsl; have HF2 := Lib.hid hf2; replace HZ := Lib.hid (HZ.out.fr hf2 (fun e => e)); replace HB := Lib.hid (HB.out.fr hf2 (fun e => e)); replace HPS := Lib.hid (sl_fr HPS.out hf2 (fun _ _ e => e)); replace HFR := Lib.hid (HFR.out.call hf2 (fun _ h _ => h)); have HTR := Lib.hid htr; replace zc := HZ.out.cell; replace zf := HZ.out.frozen; replace zl := HZ.out.lt; replace xc := HB.out.cell; replace xf := HB.out.frozen; replace xl := HB.out.lt; clear hf2 htr hsl)
              )
            obtain ⟨wa, hwa⟩ : ∃ wa, w2.alloc (.cells #[.int .i64 y.op, .string y.name, .int .i64 y.cmp, .int .i64 y.val, .int .i64 y.lo, .int .i64 y.hi, .slice C g.len e, .int .i64 k4, .int .i64 0] 97) = wa := ⟨_, rfl⟩
            have hfa : Fr Nob w2 wa := by rw [← hwa]; exact (Fr.refl _ _).alloc _
            have HQB := Lib.hid (show Blk wa w2.heap.size 97 #[.int .i64 y.op, .string y.name, .int .i64 y.cmp, .int .i64 y.val, .int .i64 y.lo, .int .i64 y.hi, .slice C g.len e, .int .i64 k4, .int .i64 0] by rw [← hwa]; exact Blk.new _ _ _)
            rw [hwa]
            have hGQ : w2.heap.size ≠ G := by omega
            replace HZ := Lib.hid (HZ.out.fr hfa (fun e => e))
            replace HB := Lib.hid (HB.out.fr hfa (fun e => e))
            replace HPS := Lib.hid (sl_fr HPS.out hfa (fun _ _ e => e))
            replace HFR := Lib.hid (HFR.out.call hfa (fun _ h _ => h))
            replace HF2 := Lib.hid (HF2.out.call hfa (fun _ h _ => h))
            have HFA := Lib.hid hfa
            replace zc := HZ.out.cell
            replace zf := HZ.out.frozen
            replace zl := HZ.out.lt
            replace xc := HB.out.cell
            replace xf := HB.out.frozen
            replace xl := HB.out.lt
            have yc := HQB.out.cell
            have yf := HQB.out.frozen
            have yl := HQB.out.lt
            clear hwa hfa
            have HTW := Lib.hid (fun X => rf_two X 5 0 0 x B f.len d y C g.len e)
            unfold fval nd1 at HTW
            have HDR := Lib.hid (show Fr Nob wa wa.drew from (Fr.refl _ _).drew)
            go_upto_region 37 with fail
            go_region_law
              (first
                | (rw [if_pos (by rfl)]; go_simp; (go_at_call 83); (with_reducible refine (HTW.out _).mono ?_); rintro en w3 ⟨hh, rfl, hgw, hgb, hf3⟩; have hb3 := HB.out.drew.fr hf3 (fun e => e); have hq3 := HQB.out.drew.fr hf3 (fun e => e); have xc3 := hb3.cell; have xf3 := hb3.frozen; have xl3 := hb3.lt; have yc3 := hq3.cell; have yl3 := hq3.lt; have HF3 := Lib.hid hf3; have HGB := Lib.hid hgb; have HGW := Lib.hid hgw; have HB3 := Lib.hid hb3; clear hf3 hgb hgw hb3 hq3; go_simp))
            all_goals
              have hi2 := LvI.step (n := n) hk4 hfu HRE.out HTR.out HB3.out HZ.out (HDR.out.call HF3.out (fun _ h _ => h)) HPS.out HSL.out HFA.out HXL.out hG HGB.out HGW.out HFR.out xl
              have hms := (lvM_at hi2 toks.length)
              replace HM := HM.out toks.length
              change Exit.inBlock _ _ _ _ (set9c w3 G (.int .i64 5) (.string ⟨#[]⟩) (.int .i64 0) (.int .i64 0) (.int .i64 0) (.int .i64 0) (.slice (some ⟨hh, 0, none⟩) 2 2) (.int .i64 (k4 : Int)) (.int .i64 0))
              generalize set9c w3 G (.int .i64 5) (.string ⟨#[]⟩) (.int .i64 0) (.int .i64 0) (.int .i64 0) (.int .i64 0) (.slice (some ⟨hh, 0, none⟩) 2 2) (.int .i64 (k4 : Int)) (.int .i64 0) = w9 at *
              have HI2 := Lib.hid hi2
              clear hi2 xc xf xc3 xf3 yc3 yl3 yc yf yl zc zf HB3 HGB HZ HB HPS HSL HF3 HFA HQB HTW HLV HSG HRE
              go_wp2_with fail
              go_roundw
              case rel => exact ⟨k4, m, _, _, _, _, HI2⟩
              case measure => rw [hms, HM]; omega
end Go.Proofs.YtfebkjoohnlifaaDoor
