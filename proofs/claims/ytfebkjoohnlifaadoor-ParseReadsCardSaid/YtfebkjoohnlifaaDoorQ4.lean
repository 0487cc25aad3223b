/- parse's reader: until. -/
import Derived.Test.YtfebkjoohnlifaaDoorQ3
import Derived.Deep.DeepCutAuto
namespace Go.Proofs.YtfebkjoohnlifaaDoor
open Go.RowKit Go.Shelf
set_option maxRecDepth 100000 in
set_option maxHeartbeats 4000000 in
theorem side_until (R : Nat) (A : Option Addr) (c : Nat) (toks : List (TK × Nat)) (ht : Toks toks) (n : Nat) (hor : SideOk 216 6 R A c toks (gP n)) (himp : SideOk 195 5 R A c toks (gP n)) :
    SideOk 195 5 R A c toks (gP (n + 1)) := by
  intro W k h hk hne
  have hR := h.blk.lt
  have hOR : ¬ Only R W.heap.size := only_ne hR
  have H0 := Lib.hid (fun X (hf : Fr Nob W X) => h.fr hf)
  have HRD := Lib.hid h
  rw [show gP (n + 1) (.lev 5 (remT toks k)) = (gP n (.lev 6 (remT toks k))).bind fun x ks r => if sgn r [85] then (spanP r.tail).bind fun lo hi r2 => (gP n (.lev 5 r2)).bind fun y js r3 => .ok (nd1 11 lo hi) (two x ks y js) r3 else if sgn r [82] then (spanP r.tail).bind fun lo hi r2 => (gP n (.lev 5 r2)).bind fun y js r3 => .ok (nd1 12 lo hi) (two x ks y js) r3 else .ok x ks r from rfl] at hne ⊢
  cases hq : gP n (.lev 6 (remT toks k)) with
  | out => rw [hq] at hne; exact absurd rfl hne
  | bad er r =>
    have HOR := Lib.hid (side_bad hor hk hq)
    rw [show ∀ g, (PR.bad er r).bind g = .bad er r from fun _ => rfl]
    unfold fval at HOR
    clear h hne hq hor himp
    unfold SideR fval
    go_enter Tryd.func195, Tryd.ntmps195
    go_upto_region 3 with ((go_at_call 216); refine (HOR.out _ (H0.out _ ((Fr.refl _ _).alloc _))).mono ?_; rintro en w1 ⟨x, B, m, d, rfl, hg⟩; have HG := Lib.hid hg; have HZ := Lib.hid ((Blk.new W _ _).fr hg.fr hOR); have HFR := Lib.hid (((Fr.refl (Only R) W).alloc _).call hg.fr (fun _ h _ => h)); have zc := HZ.out.cell; have zf := HZ.out.frozen; have zl := HZ.out.lt; clear hg)
    obtain ⟨wa, hwa⟩ : ∃ wa, w1.alloc (fbox x B m d) = wa := ⟨_, rfl⟩
    have hfa : Fr Nob w1 wa := by rw [← hwa]; exact (Fr.refl _ _).alloc _
    have hXA : Blk wa w1.heap.size 28 #[.int .i64 x.op, .string x.name, .int .i64 x.cmp, .int .i64 x.val, .int .i64 x.lo, .int .i64 x.hi, .slice B m d] := by rw [← hwa]; exact Blk.new _ _ _
    unfold fbox at hwa
    rw [hwa]
    replace HZ := Lib.hid (HZ.out.fr hfa (fun e => e))
    replace HFR := Lib.hid (HFR.out.call hfa (fun _ h _ => h.elim))
    replace HG := Lib.hid (HG.out.nob hfa)
    have xc := hXA.cell
    have xl := hXA.lt
    replace zc := HZ.out.cell
    replace zf := HZ.out.frozen
    clear hwa hfa hXA
    have HB7 := Lib.hid (set7_blk HZ.out (.int .i64 x.op) (.string x.name) (.int .i64 x.cmp) (.int .i64 x.val) (.int .i64 x.lo) (.int .i64 x.hi) (.slice B m d))
    have HF7 := Lib.hid (set7_fr wa W.heap.size (.int .i64 x.op) (.string x.name) (.int .i64 x.cmp) (.int .i64 x.val) (.int .i64 x.lo) (.int .i64 x.hi) (.slice B m d))
    go_wp2_with fail
    change bodyPost _ _ _ _ _ (set7 wa W.heap.size (.int .i64 x.op) (.string x.name) (.int .i64 x.cmp) (.int .i64 x.val) (.int .i64 x.lo) (.int .i64 x.hi) (.slice B m d))
    generalize set7 wa W.heap.size (.int .i64 x.op) (.string x.name) (.int .i64 x.cmp) (.int .i64 x.val) (.int .i64 x.lo) (.int .i64 x.hi) (.slice B m d) = W7 at *
    have HS := HB7.out.cell
    refine bodyPost_ret (v := .tuple #[.agg #[.int .i64 x.op, .string x.name, .int .i64 x.cmp, .int .i64 x.val, .int .i64 x.lo, .int .i64 x.hi, .slice B m d], .bool false]) (by simp [results, Tryd.results195, go_sem, HS]) rfl ?_
    exact ⟨x, B, m, d, rfl, bad_done7 HRD.out HFR.out HF7.out HG.out⟩
  | ok x ks r =>
    obtain ⟨k1, hk1, rfl⟩ := lev_pos ht hk hq
    have HOR := Lib.hid (side_ok hor hk hq hk1)
    rw [hq] at hne
    rw [show ∀ g, (PR.ok x ks (remT toks k1)).bind g = g x ks (remT toks k1) from fun _ => rfl] at hne ⊢
    simp only [sgn_rem hk1, remT_tail] at hne ⊢
    unfold fval at HOR
    cases HS : tsg toks[k1] [85]
    · have HT := Lib.hid (fun X (h : Rdr X R A c toks k1 0 0) => take_no h ht hk1 HS)
      rw [HS, if_neg (by simp)] at hne
      rw [if_neg (by simp)]
      clear HS
      cases HS : tsg toks[k1] [82]
      · have HT2 := Lib.hid (fun X (h : Rdr X R A c toks k1 0 0) => take_no h ht hk1 HS)
        rw [if_neg (by simp)]
        clear h hne hq hor himp HS
        unfold SideR fval
        go_enter Tryd.func195, Tryd.ntmps195
        go_upto_region 7 with (first | ((go_at_call 216); refine (HOR.out _ (H0.out _ ((Fr.refl _ _).alloc _))).mono ?_; rintro en w1 ⟨B, d, f, rfl, hg⟩; have HG := Lib.hid hg; have HZ := Lib.hid ((Blk.new W _ _).fr hg.fr hOR); have HFR := Lib.hid (((Fr.refl (Only R) W).alloc _).call hg.fr (fun _ h _ => h)); have zc := HZ.out.cell; have zf := HZ.out.frozen; have zl := HZ.out.lt; clear hg) | ((go_at_call 132); (with_reducible refine (HT.out _ ?_).mono ?_); exact HG.out.rd.fr ((Fr.refl _ _).alloc _); rintro en w2 ⟨rfl, hr2, hf2⟩; have zl0 := zl; have HX := Lib.hid ((Blk.new w1 _ _).fr hf2 (only_ne (Nat.lt_trans hR zl))); replace HZ := Lib.hid ((HZ.out.alloc _).fr hf2 hOR); replace HFR := Lib.hid ((HFR.out.alloc _).call hf2 (fun _ h _ => h)); have HSL := Lib.hid (sl_only hR (sl_nob (sl_up (by simp) HG.out.sl) ((Fr.refl _ _).alloc _)) hf2); have HR2 := Lib.hid hr2; have HTR := Lib.hid HG.out.tr; replace zc := HZ.out.cell; replace zf := HZ.out.frozen; replace zl := HZ.out.lt; have xc := HX.out.cell; have xl := HX.out.lt; have hXR := Lib.hid (show ¬ Only R w1.heap.size from only_ne (Nat.lt_trans hR zl0)); clear hr2 hf2 HG) | ((go_at_call 132); (with_reducible refine (HT2.out _ ?_).mono ?_); exact HR2.out; rintro en w3 ⟨rfl, hr, hf⟩; replace HX := Lib.hid (HX.out.fr hf hXR.out); replace HZ := Lib.hid (HZ.out.fr hf hOR); replace HFR := Lib.hid (HFR.out.call hf (fun _ h _ => h)); replace HSL := Lib.hid (sl_only hR HSL.out hf); replace zc := HZ.out.cell; replace zf := HZ.out.frozen; replace zl := HZ.out.lt; replace xc := HX.out.cell; replace xl := HX.out.lt; replace HR2 := Lib.hid hr; clear hr hf))
        have HB7 := Lib.hid (set7_blk HZ.out (.int .i64 x.op) (.string x.name) (.int .i64 x.cmp) (.int .i64 x.val) (.int .i64 x.lo) (.int .i64 x.hi) (.slice B f.len d))
        have HF7 := Lib.hid (set7_fr w3 W.heap.size (.int .i64 x.op) (.string x.name) (.int .i64 x.cmp) (.int .i64 x.val) (.int .i64 x.lo) (.int .i64 x.hi) (.slice B f.len d))
        go_wp2_with fail
        change bodyPost _ _ _ _ _ (set7 w3 W.heap.size (.int .i64 x.op) (.string x.name) (.int .i64 x.cmp) (.int .i64 x.val) (.int .i64 x.lo) (.int .i64 x.hi) (.slice B f.len d))
        generalize set7 w3 W.heap.size (.int .i64 x.op) (.string x.name) (.int .i64 x.cmp) (.int .i64 x.val) (.int .i64 x.lo) (.int .i64 x.hi) (.slice B f.len d) = W7 at *
        have HS := HB7.out.cell
        refine bodyPost_ret (v := .tuple #[.agg #[.int .i64 x.op, .string x.name, .int .i64 x.cmp, .int .i64 x.val, .int .i64 x.lo, .int .i64 x.hi, .slice B f.len d], .bool true]) (by simp [results, Tryd.results195, go_sem, HS]) rfl ?_
        have hd := done7 HRD.out HFR.out HF7.out HR2.out
        exact ⟨B, d, f, rfl, k1, hk1, rfl, HTR.out, done7_sl HSL.out HF7.out, hd.1, hd.2⟩
      · have HT2 := Lib.hid (fun X (h : Rdr X R A c toks k1 0 0) => take_yes h ht hk1 HS)
        rw [HS, if_pos rfl] at hne
        rw [if_pos rfl]
        have hk2 := tsg_next ht hk1 HS
        have HP := Lib.hid (fun lo hi X x B n d y C m e => rd_pair X 12 lo hi x B n d y C m e)
        unfold fval nd1 at HP
        cases hsp : spanP (remT toks (k1 + 1)) with
        | bad er r =>
          have HSP := Lib.hid (span_bad ht hk2 (R := R) (A := A) (c := c) hsp)
          rw [show ∀ g, (SR.bad er r).bind g = .bad er r from fun _ => rfl]
          clear h hne hq hor himp hsp HS
          unfold SideR fval
          go_enter Tryd.func195, Tryd.ntmps195
          go_upto_region 11 with (first | ((go_at_call 216); refine (HOR.out _ (H0.out _ ((Fr.refl _ _).alloc _))).mono ?_; rintro en w1 ⟨B, d, f, rfl, hg⟩; have HG := Lib.hid hg; have HZ := Lib.hid ((Blk.new W _ _).fr hg.fr hOR); have HFR := Lib.hid (((Fr.refl (Only R) W).alloc _).call hg.fr (fun _ h _ => h)); have zc := HZ.out.cell; have zf := HZ.out.frozen; have zl := HZ.out.lt; clear hg) | ((go_at_call 132); (with_reducible refine (HT.out _ ?_).mono ?_); exact HG.out.rd.fr ((Fr.refl _ _).alloc _); rintro en w2 ⟨rfl, hr2, hf2⟩; have zl0 := zl; have HX := Lib.hid ((Blk.new w1 _ _).fr hf2 (only_ne (Nat.lt_trans hR zl))); replace HZ := Lib.hid ((HZ.out.alloc _).fr hf2 hOR); replace HFR := Lib.hid ((HFR.out.alloc _).call hf2 (fun _ h _ => h)); have HSL := Lib.hid (sl_only hR (sl_nob (sl_up (by simp) HG.out.sl) ((Fr.refl _ _).alloc _)) hf2); have HR2 := Lib.hid hr2; have HTR := Lib.hid HG.out.tr; replace zc := HZ.out.cell; replace zf := HZ.out.frozen; replace zl := HZ.out.lt; have xc := HX.out.cell; have xl := HX.out.lt; have hXR := Lib.hid (show ¬ Only R w1.heap.size from only_ne (Nat.lt_trans hR zl0)); clear hr2 hf2 HG) | ((go_at_call 132); (with_reducible refine (HT2.out _ ?_).mono ?_); exact HR2.out; rintro en w3 ⟨rfl, hr, hf⟩; replace HX := Lib.hid (HX.out.fr hf hXR.out); replace HZ := Lib.hid (HZ.out.fr hf hOR); replace HFR := Lib.hid (HFR.out.call hf (fun _ h _ => h)); replace HSL := Lib.hid (sl_only hR HSL.out hf); replace zc := HZ.out.cell; replace zf := HZ.out.frozen; replace zl := HZ.out.lt; replace xc := HX.out.cell; replace xl := HX.out.lt; replace HR2 := Lib.hid hr; clear hr hf) | ((go_at_call 217); (with_reducible refine (HSP.out _ ?_).mono ?_); exact HR2.out; rintro en w5 ⟨lo, hi, rfl, hb⟩; replace HX := Lib.hid (HX.out.fr hb.fr hXR.out); replace HZ := Lib.hid (HZ.out.fr hb.fr hOR); replace HFR := Lib.hid (HFR.out.call hb.fr (fun _ h _ => h)); replace HSL := Lib.hid (sl_only hR HSL.out hb.fr); replace zc := HZ.out.cell; replace zf := HZ.out.frozen; replace zl := HZ.out.lt; replace xc := HX.out.cell; replace xl := HX.out.lt; have HG := Lib.hid hb; clear hb))
          obtain ⟨wa, hwa⟩ : ∃ wa, w5.alloc (.cells #[.int .i64 lo, .int .i64 hi] 25) = wa := ⟨_, rfl⟩
          have hfa : Fr Nob w5 wa := by rw [← hwa]; exact (Fr.refl _ _).alloc _
          rw [hwa]
          replace HX := Lib.hid (HX.out.fr hfa (fun e => e))
          replace HZ := Lib.hid (HZ.out.fr hfa (fun e => e))
          replace HFR := Lib.hid (HFR.out.call hfa (fun _ h _ => h.elim))
          replace HG := Lib.hid (HG.out.nob hfa)
          replace xc := HX.out.cell
          replace xl := HX.out.lt
          replace zc := HZ.out.cell
          replace zf := HZ.out.frozen
          clear hwa hfa
          have HB7 := Lib.hid (set7_blk HZ.out (.int .i64 x.op) (.string x.name) (.int .i64 x.cmp) (.int .i64 x.val) (.int .i64 x.lo) (.int .i64 x.hi) (.slice B f.len d))
          have HF7 := Lib.hid (set7_fr wa W.heap.size (.int .i64 x.op) (.string x.name) (.int .i64 x.cmp) (.int .i64 x.val) (.int .i64 x.lo) (.int .i64 x.hi) (.slice B f.len d))
          go_wp2_with fail
          change bodyPost _ _ _ _ _ (set7 wa W.heap.size (.int .i64 x.op) (.string x.name) (.int .i64 x.cmp) (.int .i64 x.val) (.int .i64 x.lo) (.int .i64 x.hi) (.slice B f.len d))
          generalize set7 wa W.heap.size (.int .i64 x.op) (.string x.name) (.int .i64 x.cmp) (.int .i64 x.val) (.int .i64 x.lo) (.int .i64 x.hi) (.slice B f.len d) = W7 at *
          have HS := HB7.out.cell
          refine bodyPost_ret (v := .tuple #[.agg #[.int .i64 x.op, .string x.name, .int .i64 x.cmp, .int .i64 x.val, .int .i64 x.lo, .int .i64 x.hi, .slice B f.len d], .bool false]) (by simp [results, Tryd.results195, go_sem, HS]) rfl ?_
          exact ⟨x, B, f.len, d, rfl, bad_done7 HRD.out HFR.out HF7.out HG.out⟩
        | ok lo hi r =>
          obtain ⟨k4, hk4, rfl⟩ := span_at ht hk2 hsp
          have HSP := Lib.hid (span_ok ht hk2 (R := R) (A := A) (c := c) hsp hk4)
          rw [hsp] at hne
          rw [show ∀ g, (SR.ok lo hi (remT toks k4)).bind g = g lo hi (remT toks k4) from fun _ => rfl] at hne ⊢
          replace HP := Lib.hid (HP.out lo hi)
          cases hq2 : gP n (.lev 5 (remT toks k4)) with
          | out => rw [hq2] at hne; exact absurd rfl hne
          | bad er r =>
            have HIM := Lib.hid (side_bad himp hk4 hq2)
            rw [show ∀ g, (PR.bad er r).bind g = .bad er r from fun _ => rfl]
            unfold fval at HIM
            clear h hne hq hor himp hsp hq2 HS
            unfold SideR fval
            go_enter Tryd.func195, Tryd.ntmps195
            go_wp2_with (first | ((go_at_call 216); refine (HOR.out _ (H0.out _ ((Fr.refl _ _).alloc _))).mono ?_; rintro en w1 ⟨B, d, f, rfl, hg⟩; have HG := Lib.hid hg; have HZ := Lib.hid ((Blk.new W _ _).fr hg.fr hOR); have HFR := Lib.hid (((Fr.refl (Only R) W).alloc _).call hg.fr (fun _ h _ => h)); have zc := HZ.out.cell; have zf := HZ.out.frozen; have zl := HZ.out.lt; clear hg) | ((go_at_call 132); (with_reducible refine (HT.out _ ?_).mono ?_); exact HG.out.rd.fr ((Fr.refl _ _).alloc _); rintro en w2 ⟨rfl, hr2, hf2⟩; have zl0 := zl; have HX := Lib.hid ((Blk.new w1 _ _).fr hf2 (only_ne (Nat.lt_trans hR zl))); replace HZ := Lib.hid ((HZ.out.alloc _).fr hf2 hOR); replace HFR := Lib.hid ((HFR.out.alloc _).call hf2 (fun _ h _ => h)); have HSL := Lib.hid (sl_only hR (sl_nob (sl_up (by simp) HG.out.sl) ((Fr.refl _ _).alloc _)) hf2); have HR2 := Lib.hid hr2; have HTR := Lib.hid HG.out.tr; replace zc := HZ.out.cell; replace zf := HZ.out.frozen; replace zl := HZ.out.lt; have xc := HX.out.cell; have xl := HX.out.lt; have hXR := Lib.hid (show ¬ Only R w1.heap.size from only_ne (Nat.lt_trans hR zl0)); clear hr2 hf2 HG) | ((go_at_call 132); (with_reducible refine (HT2.out _ ?_).mono ?_); exact HR2.out; rintro en w3 ⟨rfl, hr, hf⟩; replace HX := Lib.hid (HX.out.fr hf hXR.out); replace HZ := Lib.hid (HZ.out.fr hf hOR); replace HFR := Lib.hid (HFR.out.call hf (fun _ h _ => h)); replace HSL := Lib.hid (sl_only hR HSL.out hf); replace zc := HZ.out.cell; replace zf := HZ.out.frozen; replace zl := HZ.out.lt; replace xc := HX.out.cell; replace xl := HX.out.lt; replace HR2 := Lib.hid hr; clear hr hf) | ((go_at_call 217); (with_reducible refine (HSP.out _ ?_).mono ?_); exact HR2.out; rintro en w5 ⟨rfl, hr, hf⟩; replace HX := Lib.hid (HX.out.fr hf hXR.out); replace HZ := Lib.hid (HZ.out.fr hf hOR); replace HFR := Lib.hid (HFR.out.call hf (fun _ h _ => h)); replace HSL := Lib.hid (sl_only hR HSL.out hf); replace zc := HZ.out.cell; replace zf := HZ.out.frozen; replace zl := HZ.out.lt; replace xc := HX.out.cell; replace xl := HX.out.lt; replace HR2 := Lib.hid hr; clear hr hf) | ((go_at_call 195); (with_reducible refine (HIM.out _ ?_).mono ?_); exact HR2.out.fr ((Fr.refl _ _).alloc _); have zl5 := zl; rintro en w6 ⟨y, C, m, e, rfl, hg2⟩; replace HX := Lib.hid ((HX.out.alloc _).fr hg2.fr hXR.out); replace HZ := Lib.hid ((HZ.out.alloc _).fr hg2.fr hOR); replace HFR := Lib.hid ((HFR.out.alloc _).call hg2.fr (fun _ h _ => h)); replace HSL := Lib.hid (sl_only hR (sl_nob HSL.out ((Fr.refl _ _).alloc _)) hg2.fr); replace zc := HZ.out.cell; replace zf := HZ.out.frozen; replace zl := HZ.out.lt; replace xc := HX.out.cell; replace xl := HX.out.lt; have HG2 := Lib.hid hg2; have HY := Lib.hid ((Blk.new w5 _ _).fr hg2.fr (only_ne (Nat.lt_trans hR zl5))); have yc := HY.out.cell; have yl := HY.out.lt; clear hg2) | ((go_at_call 133); (with_reducible refine (HP.out _ _ _ _ _ _ _ _ _).mono ?_); rintro en w7 ⟨g, rfl, hgw, hgb, hf4⟩; replace HZ := Lib.hid ((HZ.out.alloc _).fr hf4 (fun e => e)); replace HFR := Lib.hid ((HFR.out.alloc _).call hf4 (fun _ h _ => h.elim)); replace HG2 := Lib.hid ((HG2.out.nob ((Fr.refl _ _).alloc _)).nob hf4); replace zc := HZ.out.cell; replace zf := HZ.out.frozen; clear hgb hf4))
            have HB7 := Lib.hid (set7_blk HZ.out (.int .i64 12) (.string ⟨#[]⟩) (.int .i64 0) (.int .i64 0) (.int .i64 lo) (.int .i64 hi) (.slice (some ⟨g, 0, none⟩) 2 2))
            have HF7 := Lib.hid (set7_fr w7 W.heap.size (.int .i64 12) (.string ⟨#[]⟩) (.int .i64 0) (.int .i64 0) (.int .i64 lo) (.int .i64 hi) (.slice (some ⟨g, 0, none⟩) 2 2))
            change bodyPost _ _ _ _ _ (set7 w7 W.heap.size (.int .i64 12) (.string ⟨#[]⟩) (.int .i64 0) (.int .i64 0) (.int .i64 lo) (.int .i64 hi) (.slice (some ⟨g, 0, none⟩) 2 2))
            generalize set7 w7 W.heap.size (.int .i64 12) (.string ⟨#[]⟩) (.int .i64 0) (.int .i64 0) (.int .i64 lo) (.int .i64 hi) (.slice (some ⟨g, 0, none⟩) 2 2) = W7 at *
            have HS := HB7.out.cell
            refine bodyPost_ret (v := .tuple #[.agg #[.int .i64 12, .string ⟨#[]⟩, .int .i64 0, .int .i64 0, .int .i64 lo, .int .i64 hi, .slice (some ⟨g, 0, none⟩) 2 2], .bool false]) (by simp [results, Tryd.results195, go_sem, HS]) rfl ?_
            exact ⟨nd1 12 lo hi, some ⟨g, 0, none⟩, 2, 2, rfl, bad_done7 HRD.out HFR.out HF7.out HG2.out⟩
          | ok y js r =>
            obtain ⟨k3, hk3, rfl⟩ := lev_pos ht hk4 hq2
            have HIM := Lib.hid (side_ok himp hk4 hq2 hk3)
            rw [show ∀ g, (PR.ok y js (remT toks k3)).bind g = g y js (remT toks k3) from fun _ => rfl]
            unfold fval at HIM
            clear h hne hq hor himp hsp hq2 HS
            unfold SideR fval
            go_enter Tryd.func195, Tryd.ntmps195
            go_wp2_with (first | ((go_at_call 216); refine (HOR.out _ (H0.out _ ((Fr.refl _ _).alloc _))).mono ?_; rintro en w1 ⟨B, d, f, rfl, hg⟩; have HG := Lib.hid hg; have HZ := Lib.hid ((Blk.new W _ _).fr hg.fr hOR); have HFR := Lib.hid (((Fr.refl (Only R) W).alloc _).call hg.fr (fun _ h _ => h)); have zc := HZ.out.cell; have zf := HZ.out.frozen; have zl := HZ.out.lt; clear hg) | ((go_at_call 132); (with_reducible refine (HT.out _ ?_).mono ?_); exact HG.out.rd.fr ((Fr.refl _ _).alloc _); rintro en w2 ⟨rfl, hr2, hf2⟩; have zl0 := zl; have HX := Lib.hid ((Blk.new w1 _ _).fr hf2 (only_ne (Nat.lt_trans hR zl))); replace HZ := Lib.hid ((HZ.out.alloc _).fr hf2 hOR); replace HFR := Lib.hid ((HFR.out.alloc _).call hf2 (fun _ h _ => h)); have HSL := Lib.hid (sl_only hR (sl_nob (sl_up (by simp) HG.out.sl) ((Fr.refl _ _).alloc _)) hf2); have HR2 := Lib.hid hr2; have HTR := Lib.hid HG.out.tr; replace zc := HZ.out.cell; replace zf := HZ.out.frozen; replace zl := HZ.out.lt; have xc := HX.out.cell; have xl := HX.out.lt; have hXR := Lib.hid (show ¬ Only R w1.heap.size from only_ne (Nat.lt_trans hR zl0)); clear hr2 hf2 HG) | ((go_at_call 132); (with_reducible refine (HT2.out _ ?_).mono ?_); exact HR2.out; rintro en w3 ⟨rfl, hr, hf⟩; replace HX := Lib.hid (HX.out.fr hf hXR.out); replace HZ := Lib.hid (HZ.out.fr hf hOR); replace HFR := Lib.hid (HFR.out.call hf (fun _ h _ => h)); replace HSL := Lib.hid (sl_only hR HSL.out hf); replace zc := HZ.out.cell; replace zf := HZ.out.frozen; replace zl := HZ.out.lt; replace xc := HX.out.cell; replace xl := HX.out.lt; replace HR2 := Lib.hid hr; clear hr hf) | ((go_at_call 217); (with_reducible refine (HSP.out _ ?_).mono ?_); exact HR2.out; rintro en w5 ⟨rfl, hr, hf⟩; replace HX := Lib.hid (HX.out.fr hf hXR.out); replace HZ := Lib.hid (HZ.out.fr hf hOR); replace HFR := Lib.hid (HFR.out.call hf (fun _ h _ => h)); replace HSL := Lib.hid (sl_only hR HSL.out hf); replace zc := HZ.out.cell; replace zf := HZ.out.frozen; replace zl := HZ.out.lt; replace xc := HX.out.cell; replace xl := HX.out.lt; replace HR2 := Lib.hid hr; clear hr hf) | ((go_at_call 195); (with_reducible refine (HIM.out _ ?_).mono ?_); exact HR2.out.fr ((Fr.refl _ _).alloc _); have zl5 := zl; rintro en w6 ⟨C, e, f2, rfl, hg2⟩; replace HX := Lib.hid ((HX.out.alloc _).fr hg2.fr hXR.out); replace HZ := Lib.hid ((HZ.out.alloc _).fr hg2.fr hOR); replace HFR := Lib.hid ((HFR.out.alloc _).call hg2.fr (fun _ h _ => h)); replace HSL := Lib.hid (sl_only hR (sl_nob HSL.out ((Fr.refl _ _).alloc _)) hg2.fr); replace zc := HZ.out.cell; replace zf := HZ.out.frozen; replace zl := HZ.out.lt; replace xc := HX.out.cell; replace xl := HX.out.lt; have HG2 := Lib.hid hg2; have HN2 := Lib.hid (show W.heap.size + 1 ≤ (w5.alloc (.cells #[.int .i64 lo, .int .i64 hi] 25)).heap.size from (by simp; omega)); have HY := Lib.hid ((Blk.new w5 _ _).fr hg2.fr (only_ne (Nat.lt_trans hR zl5))); have yc := HY.out.cell; have yl := HY.out.lt; clear hg2) | ((go_at_call 133); (with_reducible refine (HP.out _ _ _ _ _ _ _ _ _).mono ?_); rintro en w7 ⟨g, rfl, hgw, hgb, hf4⟩; replace HZ := Lib.hid ((HZ.out.alloc _).fr hf4 (fun e => e)); replace HFR := Lib.hid ((HFR.out.alloc _).call hf4 (fun _ h _ => h.elim)); have HR4 := Lib.hid ((HG2.out.rd.fr ((Fr.refl _ _).alloc _)).fr hf4); have HSL2 := Lib.hid (sl_nob (sl_nob (sl_up HN2.out HG2.out.sl) ((Fr.refl _ _).alloc _)) hf4); replace HSL := Lib.hid (sl_nob (sl_nob HSL.out ((Fr.refl _ _).alloc _)) hf4); have HTR2 := Lib.hid HG2.out.tr; have HGB := Lib.hid hgb; have HGW := Lib.hid (show W.heap.size + 1 ≤ g from (by simp at hgw; omega)); replace zc := HZ.out.cell; replace zf := HZ.out.frozen; clear hgb hf4))
            have HB7 := Lib.hid (set7_blk HZ.out (.int .i64 12) (.string ⟨#[]⟩) (.int .i64 0) (.int .i64 0) (.int .i64 lo) (.int .i64 hi) (.slice (some ⟨g, 0, none⟩) 2 2))
            have HF7 := Lib.hid (set7_fr w7 W.heap.size (.int .i64 12) (.string ⟨#[]⟩) (.int .i64 0) (.int .i64 0) (.int .i64 lo) (.int .i64 hi) (.slice (some ⟨g, 0, none⟩) 2 2))
            change bodyPost _ _ _ _ _ (set7 w7 W.heap.size (.int .i64 12) (.string ⟨#[]⟩) (.int .i64 0) (.int .i64 0) (.int .i64 lo) (.int .i64 hi) (.slice (some ⟨g, 0, none⟩) 2 2))
            generalize set7 w7 W.heap.size (.int .i64 12) (.string ⟨#[]⟩) (.int .i64 0) (.int .i64 0) (.int .i64 lo) (.int .i64 hi) (.slice (some ⟨g, 0, none⟩) 2 2) = W7 at *
            have HS := HB7.out.cell
            refine bodyPost_ret (v := .tuple #[.agg #[.int .i64 12, .string ⟨#[]⟩, .int .i64 0, .int .i64 0, .int .i64 lo, .int .i64 hi, .slice (some ⟨g, 0, none⟩) 2 2], .bool true]) (by simp [results, Tryd.results195, go_sem, HS]) rfl ?_
            have hd := done7 HRD.out HFR.out HF7.out HR4.out
            exact ⟨some ⟨g, 0, none⟩, 2, .cons x B d f (.cons y C e f2 .nil), rfl, k3, hk3, rfl, by simp [Fo.tr, two, HTR.out, HTR2.out], done7_sl (kids_two HGB.out HSL.out HSL2.out HGW.out) HF7.out, hd.1, hd.2⟩
    · have HT := Lib.hid (fun X (h : Rdr X R A c toks k1 0 0) => take_yes h ht hk1 HS)
      rw [HS, if_pos rfl] at hne
      rw [if_pos rfl]
      have hk2 := tsg_next ht hk1 HS
      have HP := Lib.hid (fun lo hi X x B n d y C m e => rd_pair X 11 lo hi x B n d y C m e)
      unfold fval nd1 at HP
      cases hsp : spanP (remT toks (k1 + 1)) with
      | bad er r =>
        have HSP := Lib.hid (span_bad ht hk2 (R := R) (A := A) (c := c) hsp)
        rw [show ∀ g, (SR.bad er r).bind g = .bad er r from fun _ => rfl]
        clear h hne hq hor himp hsp HS
        unfold SideR fval
        go_enter Tryd.func195, Tryd.ntmps195
        go_upto_region 11 with (first | ((go_at_call 216); refine (HOR.out _ (H0.out _ ((Fr.refl _ _).alloc _))).mono ?_; rintro en w1 ⟨B, d, f, rfl, hg⟩; have HG := Lib.hid hg; have HZ := Lib.hid ((Blk.new W _ _).fr hg.fr hOR); have HFR := Lib.hid (((Fr.refl (Only R) W).alloc _).call hg.fr (fun _ h _ => h)); have zc := HZ.out.cell; have zf := HZ.out.frozen; have zl := HZ.out.lt; clear hg) | ((go_at_call 132); (with_reducible refine (HT.out _ ?_).mono ?_); exact HG.out.rd.fr ((Fr.refl _ _).alloc _); rintro en w2 ⟨rfl, hr2, hf2⟩; have zl0 := zl; have HX := Lib.hid ((Blk.new w1 _ _).fr hf2 (only_ne (Nat.lt_trans hR zl))); replace HZ := Lib.hid ((HZ.out.alloc _).fr hf2 hOR); replace HFR := Lib.hid ((HFR.out.alloc _).call hf2 (fun _ h _ => h)); have HSL := Lib.hid (sl_only hR (sl_nob (sl_up (by simp) HG.out.sl) ((Fr.refl _ _).alloc _)) hf2); have HR2 := Lib.hid hr2; have HTR := Lib.hid HG.out.tr; replace zc := HZ.out.cell; replace zf := HZ.out.frozen; replace zl := HZ.out.lt; have xc := HX.out.cell; have xl := HX.out.lt; have hXR := Lib.hid (show ¬ Only R w1.heap.size from only_ne (Nat.lt_trans hR zl0)); clear hr2 hf2 HG) | ((go_at_call 217); (with_reducible refine (HSP.out _ ?_).mono ?_); exact HR2.out; rintro en w5 ⟨lo, hi, rfl, hb⟩; replace HX := Lib.hid (HX.out.fr hb.fr hXR.out); replace HZ := Lib.hid (HZ.out.fr hb.fr hOR); replace HFR := Lib.hid (HFR.out.call hb.fr (fun _ h _ => h)); replace HSL := Lib.hid (sl_only hR HSL.out hb.fr); replace zc := HZ.out.cell; replace zf := HZ.out.frozen; replace zl := HZ.out.lt; replace xc := HX.out.cell; replace xl := HX.out.lt; have HG := Lib.hid hb; clear hb))
        obtain ⟨wa, hwa⟩ : ∃ wa, w5.alloc (.cells #[.int .i64 lo, .int .i64 hi] 25) = wa := ⟨_, rfl⟩
        have hfa : Fr Nob w5 wa := by rw [← hwa]; exact (Fr.refl _ _).alloc _
        rw [hwa]
        replace HX := Lib.hid (HX.out.fr hfa (fun e => e))
        replace HZ := Lib.hid (HZ.out.fr hfa (fun e => e))
        replace HFR := Lib.hid (HFR.out.call hfa (fun _ h _ => h.elim))
        replace HG := Lib.hid (HG.out.nob hfa)
        replace xc := HX.out.cell
        replace xl := HX.out.lt
        replace zc := HZ.out.cell
        replace zf := HZ.out.frozen
        clear hwa hfa
        have HB7 := Lib.hid (set7_blk HZ.out (.int .i64 x.op) (.string x.name) (.int .i64 x.cmp) (.int .i64 x.val) (.int .i64 x.lo) (.int .i64 x.hi) (.slice B f.len d))
        have HF7 := Lib.hid (set7_fr wa W.heap.size (.int .i64 x.op) (.string x.name) (.int .i64 x.cmp) (.int .i64 x.val) (.int .i64 x.lo) (.int .i64 x.hi) (.slice B f.len d))
        go_wp2_with fail
        change bodyPost _ _ _ _ _ (set7 wa W.heap.size (.int .i64 x.op) (.string x.name) (.int .i64 x.cmp) (.int .i64 x.val) (.int .i64 x.lo) (.int .i64 x.hi) (.slice B f.len d))
        generalize set7 wa W.heap.size (.int .i64 x.op) (.string x.name) (.int .i64 x.cmp) (.int .i64 x.val) (.int .i64 x.lo) (.int .i64 x.hi) (.slice B f.len d) = W7 at *
        have HS := HB7.out.cell
        refine bodyPost_ret (v := .tuple #[.agg #[.int .i64 x.op, .string x.name, .int .i64 x.cmp, .int .i64 x.val, .int .i64 x.lo, .int .i64 x.hi, .slice B f.len d], .bool false]) (by simp [results, Tryd.results195, go_sem, HS]) rfl ?_
        exact ⟨x, B, f.len, d, rfl, bad_done7 HRD.out HFR.out HF7.out HG.out⟩
      | ok lo hi r =>
        obtain ⟨k4, hk4, rfl⟩ := span_at ht hk2 hsp
        have HSP := Lib.hid (span_ok ht hk2 (R := R) (A := A) (c := c) hsp hk4)
        rw [hsp] at hne
        rw [show ∀ g, (SR.ok lo hi (remT toks k4)).bind g = g lo hi (remT toks k4) from fun _ => rfl] at hne ⊢
        replace HP := Lib.hid (HP.out lo hi)
        cases hq2 : gP n (.lev 5 (remT toks k4)) with
        | out => rw [hq2] at hne; exact absurd rfl hne
        | bad er r =>
          have HIM := Lib.hid (side_bad himp hk4 hq2)
          rw [show ∀ g, (PR.bad er r).bind g = .bad er r from fun _ => rfl]
          unfold fval at HIM
          clear h hne hq hor himp hsp hq2 HS
          unfold SideR fval
          go_enter Tryd.func195, Tryd.ntmps195
          go_wp2_with (first | ((go_at_call 216); refine (HOR.out _ (H0.out _ ((Fr.refl _ _).alloc _))).mono ?_; rintro en w1 ⟨B, d, f, rfl, hg⟩; have HG := Lib.hid hg; have HZ := Lib.hid ((Blk.new W _ _).fr hg.fr hOR); have HFR := Lib.hid (((Fr.refl (Only R) W).alloc _).call hg.fr (fun _ h _ => h)); have zc := HZ.out.cell; have zf := HZ.out.frozen; have zl := HZ.out.lt; clear hg) | ((go_at_call 132); (with_reducible refine (HT.out _ ?_).mono ?_); exact HG.out.rd.fr ((Fr.refl _ _).alloc _); rintro en w2 ⟨rfl, hr2, hf2⟩; have zl0 := zl; have HX := Lib.hid ((Blk.new w1 _ _).fr hf2 (only_ne (Nat.lt_trans hR zl))); replace HZ := Lib.hid ((HZ.out.alloc _).fr hf2 hOR); replace HFR := Lib.hid ((HFR.out.alloc _).call hf2 (fun _ h _ => h)); have HSL := Lib.hid (sl_only hR (sl_nob (sl_up (by simp) HG.out.sl) ((Fr.refl _ _).alloc _)) hf2); have HR2 := Lib.hid hr2; have HTR := Lib.hid HG.out.tr; replace zc := HZ.out.cell; replace zf := HZ.out.frozen; replace zl := HZ.out.lt; have xc := HX.out.cell; have xl := HX.out.lt; have hXR := Lib.hid (show ¬ Only R w1.heap.size from only_ne (Nat.lt_trans hR zl0)); clear hr2 hf2 HG) | ((go_at_call 217); (with_reducible refine (HSP.out _ ?_).mono ?_); exact HR2.out; rintro en w5 ⟨rfl, hr, hf⟩; replace HX := Lib.hid (HX.out.fr hf hXR.out); replace HZ := Lib.hid (HZ.out.fr hf hOR); replace HFR := Lib.hid (HFR.out.call hf (fun _ h _ => h)); replace HSL := Lib.hid (sl_only hR HSL.out hf); replace zc := HZ.out.cell; replace zf := HZ.out.frozen; replace zl := HZ.out.lt; replace xc := HX.out.cell; replace xl := HX.out.lt; replace HR2 := Lib.hid hr; clear hr hf) | ((go_at_call 195); (with_reducible refine (HIM.out _ ?_).mono ?_); exact HR2.out.fr ((Fr.refl _ _).alloc _); have zl5 := zl; rintro en w6 ⟨y, C, m, e, rfl, hg2⟩; replace HX := Lib.hid ((HX.out.alloc _).fr hg2.fr hXR.out); replace HZ := Lib.hid ((HZ.out.alloc _).fr hg2.fr hOR); replace HFR := Lib.hid ((HFR.out.alloc _).call hg2.fr (fun _ h _ => h)); replace HSL := Lib.hid (sl_only hR (sl_nob HSL.out ((Fr.refl _ _).alloc _)) hg2.fr); replace zc := HZ.out.cell; replace zf := HZ.out.frozen; replace zl := HZ.out.lt; replace xc := HX.out.cell; replace xl := HX.out.lt; have HG2 := Lib.hid hg2; have HY := Lib.hid ((Blk.new w5 _ _).fr hg2.fr (only_ne (Nat.lt_trans hR zl5))); have yc := HY.out.cell; have yl := HY.out.lt; clear hg2) | ((go_at_call 133); (with_reducible refine (HP.out _ _ _ _ _ _ _ _ _).mono ?_); rintro en w7 ⟨g, rfl, hgw, hgb, hf4⟩; replace HZ := Lib.hid ((HZ.out.alloc _).fr hf4 (fun e => e)); replace HFR := Lib.hid ((HFR.out.alloc _).call hf4 (fun _ h _ => h.elim)); replace HG2 := Lib.hid ((HG2.out.nob ((Fr.refl _ _).alloc _)).nob hf4); replace zc := HZ.out.cell; replace zf := HZ.out.frozen; clear hgb hf4))
          have HB7 := Lib.hid (set7_blk HZ.out (.int .i64 11) (.string ⟨#[]⟩) (.int .i64 0) (.int .i64 0) (.int .i64 lo) (.int .i64 hi) (.slice (some ⟨g, 0, none⟩) 2 2))
          have HF7 := Lib.hid (set7_fr w7 W.heap.size (.int .i64 11) (.string ⟨#[]⟩) (.int .i64 0) (.int .i64 0) (.int .i64 lo) (.int .i64 hi) (.slice (some ⟨g, 0, none⟩) 2 2))
          change bodyPost _ _ _ _ _ (set7 w7 W.heap.size (.int .i64 11) (.string ⟨#[]⟩) (.int .i64 0) (.int .i64 0) (.int .i64 lo) (.int .i64 hi) (.slice (some ⟨g, 0, none⟩) 2 2))
          generalize set7 w7 W.heap.size (.int .i64 11) (.string ⟨#[]⟩) (.int .i64 0) (.int .i64 0) (.int .i64 lo) (.int .i64 hi) (.slice (some ⟨g, 0, none⟩) 2 2) = W7 at *
          have HS := HB7.out.cell
          refine bodyPost_ret (v := .tuple #[.agg #[.int .i64 11, .string ⟨#[]⟩, .int .i64 0, .int .i64 0, .int .i64 lo, .int .i64 hi, .slice (some ⟨g, 0, none⟩) 2 2], .bool false]) (by simp [results, Tryd.results195, go_sem, HS]) rfl ?_
          exact ⟨nd1 11 lo hi, some ⟨g, 0, none⟩, 2, 2, rfl, bad_done7 HRD.out HFR.out HF7.out HG2.out⟩
        | ok y js r =>
          obtain ⟨k3, hk3, rfl⟩ := lev_pos ht hk4 hq2
          have HIM := Lib.hid (side_ok himp hk4 hq2 hk3)
          rw [show ∀ g, (PR.ok y js (remT toks k3)).bind g = g y js (remT toks k3) from fun _ => rfl]
          unfold fval at HIM
          clear h hne hq hor himp hsp hq2 HS
          unfold SideR fval
          go_enter Tryd.func195, Tryd.ntmps195
          go_wp2_with (first | ((go_at_call 216); refine (HOR.out _ (H0.out _ ((Fr.refl _ _).alloc _))).mono ?_; rintro en w1 ⟨B, d, f, rfl, hg⟩; have HG := Lib.hid hg; have HZ := Lib.hid ((Blk.new W _ _).fr hg.fr hOR); have HFR := Lib.hid (((Fr.refl (Only R) W).alloc _).call hg.fr (fun _ h _ => h)); have zc := HZ.out.cell; have zf := HZ.out.frozen; have zl := HZ.out.lt; clear hg) | ((go_at_call 132); (with_reducible refine (HT.out _ ?_).mono ?_); exact HG.out.rd.fr ((Fr.refl _ _).alloc _); rintro en w2 ⟨rfl, hr2, hf2⟩; have zl0 := zl; have HX := Lib.hid ((Blk.new w1 _ _).fr hf2 (only_ne (Nat.lt_trans hR zl))); replace HZ := Lib.hid ((HZ.out.alloc _).fr hf2 hOR); replace HFR := Lib.hid ((HFR.out.alloc _).call hf2 (fun _ h _ => h)); have HSL := Lib.hid (sl_only hR (sl_nob (sl_up (by simp) HG.out.sl) ((Fr.refl _ _).alloc _)) hf2); have HR2 := Lib.hid hr2; have HTR := Lib.hid HG.out.tr; replace zc := HZ.out.cell; replace zf := HZ.out.frozen; replace zl := HZ.out.lt; have xc := HX.out.cell; have xl := HX.out.lt; have hXR := Lib.hid (show ¬ Only R w1.heap.size from only_ne (Nat.lt_trans hR zl0)); clear hr2 hf2 HG) | ((go_at_call 217); (with_reducible refine (HSP.out _ ?_).mono ?_); exact HR2.out; rintro en w5 ⟨rfl, hr, hf⟩; replace HX := Lib.hid (HX.out.fr hf hXR.out); replace HZ := Lib.hid (HZ.out.fr hf hOR); replace HFR := Lib.hid (HFR.out.call hf (fun _ h _ => h)); replace HSL := Lib.hid (sl_only hR HSL.out hf); replace zc := HZ.out.cell; replace zf := HZ.out.frozen; replace zl := HZ.out.lt; replace xc := HX.out.cell; replace xl := HX.out.lt; replace HR2 := Lib.hid hr; clear hr hf) | ((go_at_call 195); (with_reducible refine (HIM.out _ ?_).mono ?_); exact HR2.out.fr ((Fr.refl _ _).alloc _); have zl5 := zl; rintro en w6 ⟨C, e, f2, rfl, hg2⟩; replace HX := Lib.hid ((HX.out.alloc _).fr hg2.fr hXR.out); replace HZ := Lib.hid ((HZ.out.alloc _).fr hg2.fr hOR); replace HFR := Lib.hid ((HFR.out.alloc _).call hg2.fr (fun _ h _ => h)); replace HSL := Lib.hid (sl_only hR (sl_nob HSL.out ((Fr.refl _ _).alloc _)) hg2.fr); replace zc := HZ.out.cell; replace zf := HZ.out.frozen; replace zl := HZ.out.lt; replace xc := HX.out.cell; replace xl := HX.out.lt; have HG2 := Lib.hid hg2; have HN2 := Lib.hid (show W.heap.size + 1 ≤ (w5.alloc (.cells #[.int .i64 lo, .int .i64 hi] 25)).heap.size from (by simp; omega)); have HY := Lib.hid ((Blk.new w5 _ _).fr hg2.fr (only_ne (Nat.lt_trans hR zl5))); have yc := HY.out.cell; have yl := HY.out.lt; clear hg2) | ((go_at_call 133); (with_reducible refine (HP.out _ _ _ _ _ _ _ _ _).mono ?_); rintro en w7 ⟨g, rfl, hgw, hgb, hf4⟩; replace HZ := Lib.hid ((HZ.out.alloc _).fr hf4 (fun e => e)); replace HFR := Lib.hid ((HFR.out.alloc _).call hf4 (fun _ h _ => h.elim)); have HR4 := Lib.hid ((HG2.out.rd.fr ((Fr.refl _ _).alloc _)).fr hf4); have HSL2 := Lib.hid (sl_nob (sl_nob (sl_up HN2.out HG2.out.sl) ((Fr.refl _ _).alloc _)) hf4); replace HSL := Lib.hid (sl_nob (sl_nob HSL.out ((Fr.refl _ _).alloc _)) hf4); have HTR2 := Lib.hid HG2.out.tr; have HGB := Lib.hid hgb; have HGW := Lib.hid (show W.heap.size + 1 ≤ g from (by simp at hgw; omega)); replace zc := HZ.out.cell; replace zf := HZ.out.frozen; clear hgb hf4))
          have HB7 := Lib.hid (set7_blk HZ.out (.int .i64 11) (.string ⟨#[]⟩) (.int .i64 0) (.int .i64 0) (.int .i64 lo) (.int .i64 hi) (.slice (some ⟨g, 0, none⟩) 2 2))
          have HF7 := Lib.hid (set7_fr w7 W.heap.size (.int .i64 11) (.string ⟨#[]⟩) (.int .i64 0) (.int .i64 0) (.int .i64 lo) (.int .i64 hi) (.slice (some ⟨g, 0, none⟩) 2 2))
          change bodyPost _ _ _ _ _ (set7 w7 W.heap.size (.int .i64 11) (.string ⟨#[]⟩) (.int .i64 0) (.int .i64 0) (.int .i64 lo) (.int .i64 hi) (.slice (some ⟨g, 0, none⟩) 2 2))
          generalize set7 w7 W.heap.size (.int .i64 11) (.string ⟨#[]⟩) (.int .i64 0) (.int .i64 0) (.int .i64 lo) (.int .i64 hi) (.slice (some ⟨g, 0, none⟩) 2 2) = W7 at *
          have HS := HB7.out.cell
          refine bodyPost_ret (v := .tuple #[.agg #[.int .i64 11, .string ⟨#[]⟩, .int .i64 0, .int .i64 0, .int .i64 lo, .int .i64 hi, .slice (some ⟨g, 0, none⟩) 2 2], .bool true]) (by simp [results, Tryd.results195, go_sem, HS]) rfl ?_
          have hd := done7 HRD.out HFR.out HF7.out HR4.out
          exact ⟨some ⟨g, 0, none⟩, 2, .cons x B d f (.cons y C e f2 .nil), rfl, k3, hk3, rfl, by simp [Fo.tr, two, HTR.out, HTR2.out], done7_sl (kids_two HGB.out HSL.out HSL2.out HGW.out) HF7.out, hd.1, hd.2⟩
end Go.Proofs.YtfebkjoohnlifaaDoor
