/- parse's reader: atom. -/
import Derived.Test.YtfebkjoohnlifaaDoorQ6
import Derived.Deep.DeepCutAuto
namespace Go.Proofs.YtfebkjoohnlifaaDoor
open Go.RowKit Go.Shelf

set_option maxRecDepth 100000 in
set_option maxHeartbeats 4000000 in
theorem side_atom (R : Nat) (A : Option Addr) (c : Nat) (toks : List (TK × Nat)) (ht : Toks toks) (n : Nat) (hif : SideOk 45 1 R A c toks (gP n)) :
    SideOk 232 7 R A c toks (gP (n + 1)) := by
  intro W k h hk hne
  have hR := h.blk.lt
  have hOR : ¬ Only R W.heap.size := only_ne hR
  have H0 := Lib.hid (fun X (hf : Fr Nob W X) => h.fr hf)
  have HRD := Lib.hid h
  rw [show gP (n + 1) (.lev 7 (remT toks k)) = (if sgn (remT toks k) [40] then (gP n (.lev 1 (remT toks k).tail)).bind fun x ks r => if sgn r [41] then .ok x ks r.tail else .bad 20 r else wordP (remT toks k)) from rfl] at hne ⊢
  simp only [sgn_rem hk, remT_tail] at hne ⊢
  cases h1 : tsg toks[k] [40]
  · have HT := Lib.hid (fun X (h : Rdr X R A c toks k 0 0) => take_no h ht hk h1)
    have HH := Lib.hid (fun X (h : Rdr X R A c toks k 0 0) => rd_head X R A c toks k 0 0 h hk)
    rw [h1, if_neg (by simp)] at hne
    rw [if_neg (by simp)]
    unfold wordP
    rw [remT_hd hk]
    by_cases hkd : toks[k].1.kind = 1
    · rw [if_neg (by simpa using hkd)]
      have hk1 := next_lt ht hk (by omega)
      have hk6 : (k : Int) ≤ 600 := by have := ht.few; omega
      have HC := Lib.hid (fun X (h : Rdr X R A c toks (k + 1) 0 0) => rd_compare X R A c toks (k + 1) 0 0 h ht hk1)
      simp only [remT_tail]
      rw [remT_hd hk1]
      have hnum := fun (h1' : ¬ toks[k].1.text = trueW) (h2' : ¬ toks[k].1.text = falseW) cm hcm hc0 => atom_num R A c toks ht W k h hk h1 hkd h1' h2' hk1 cm hcm hc0 (k + 1 + 1) rfl
      obtain ⟨t1, ht1⟩ : ∃ t, toks[k] = t := ⟨_, rfl⟩
      rw [ht1] at HH hkd hnum ⊢
      clear ht1
      obtain ⟨⟨kd1, tx1, nm1⟩, pl1⟩ := t1
      unfold tokV at HH
      dsimp only at HH hkd hnum ⊢
      subst hkd
      by_cases he1 : tx1 = trueW
      · rw [if_pos he1]
        have hw : (tx1 == [116, 114, 117, 101]) = true := by rw [he1]; rfl
        clear h hne hif h1 he1 HC hnum
        unfold SideR fval
        go_enter Tryd.func232, Tryd.ntmps232
        go_upto_region 10 with (first
          | ((go_at_call 132); (with_reducible refine (HT.out _ (H0.out _ ((Fr.refl _ _).alloc _))).mono ?_); rintro en w1 ⟨rfl, hr1, hf1⟩; have HZ := Lib.hid ((Blk.new W 28 #[.int .i64 0, .string ⟨#[]⟩, .int .i64 0, .int .i64 0, .int .i64 0, .int .i64 0, .slice none 0 0]).fr hf1 hOR); have HFR := Lib.hid (((Fr.refl (Only R) W).alloc _).call hf1 (fun _ h _ => h)); have HR1 := Lib.hid hr1; have zc := HZ.out.cell; have zf := HZ.out.frozen; have zl := HZ.out.lt; have zl1 := Lib.hid zl; clear hr1 hf1)
          | ((go_at_call 46); (with_reducible refine (HH.out _ HR1.out).mono ?_); rintro en w2 ⟨rfl, hf2⟩; replace HZ := Lib.hid (HZ.out.fr hf2 (fun e => e)); replace HR1 := Lib.hid (HR1.out.fr hf2); replace HFR := Lib.hid (HFR.out.call hf2 (fun _ h _ => h.elim)); replace zc := HZ.out.cell; replace zf := HZ.out.frozen; replace zl := HZ.out.lt; have hz2 := HR1.out.blk.lt; have r2 := HR1.out.blk.cell 1; have q2 := HR1.out.blk.frozen 1; clear hf2)
          )
        obtain ⟨wa, hwa⟩ : ∃ wa, (w2.setCell ⟨R, 1, none⟩ (.int .i64 ((k : Int) + 1))).alloc (.cells #[.int .i64 1, .string ⟨tx1.toArray⟩, .int .i64 nm1, .int .i64 pl1] 90) = wa := ⟨_, rfl⟩
        have hGW : W.heap.size < w2.heap.size := zl
        have hRa : Rdr wa R A c toks (k + 1) 0 0 := by rw [← hwa]; exact (bump HR1.out).fr ((Fr.refl _ _).alloc _)
        have hZa : Blk wa W.heap.size 28 #[.int .i64 0, .string ⟨#[]⟩, .int .i64 0, .int .i64 0, .int .i64 0, .int .i64 0, .slice none 0 0] := by rw [← hwa]; exact (HZ.out.far (p := ⟨R, 1, none⟩) (Ne.symm (Nat.ne_of_lt hR)) _).alloc _
        have hFa : Fr (Only R) W wa := by rw [← hwa]; exact (fr_bump HFR.out).alloc _
        have hTa : Blk wa w2.heap.size 90 #[.int .i64 1, .string ⟨tx1.toArray⟩, .int .i64 nm1, .int .i64 pl1] := by rw [← hwa]; exact Blk.new_eq (by simp)
        rw [hwa]
        replace HZ := Lib.hid hZa
        replace HR1 := Lib.hid hRa
        replace HFR := Lib.hid hFa
        have HC0 := Lib.hid hTa
        have tc := hTa.cell
        replace zc := HZ.out.cell
        replace zf := HZ.out.frozen
        replace zl := HZ.out.lt
        clear hwa hRa hZa hFa hTa r2 q2 hz2
        clear HC0 tc
        have HB7 := Lib.hid (set7_blk HZ.out (.int .i64 1) (.string ⟨#[]⟩) (.int .i64 0) (.int .i64 0) (.int .i64 0) (.int .i64 0) (.slice none 0 0))
        have HF7 := Lib.hid (set7_fr wa W.heap.size (.int .i64 1) (.string ⟨#[]⟩) (.int .i64 0) (.int .i64 0) (.int .i64 0) (.int .i64 0) (.slice none 0 0))
        go_wp2_with fail
        change bodyPost _ _ _ _ _ (set7 wa W.heap.size (.int .i64 1) (.string ⟨#[]⟩) (.int .i64 0) (.int .i64 0) (.int .i64 0) (.int .i64 0) (.slice none 0 0))
        generalize set7 wa W.heap.size (.int .i64 1) (.string ⟨#[]⟩) (.int .i64 0) (.int .i64 0) (.int .i64 0) (.int .i64 0) (.slice none 0 0) = W7 at *
        have HS := HB7.out.cell
        refine bodyPost_ret (v := .tuple #[.agg #[.int .i64 1, .string ⟨#[]⟩, .int .i64 0, .int .i64 0, .int .i64 0, .int .i64 0, .slice none 0 0], .bool true]) (by simp [results, Tryd.results232, go_sem, HS]) rfl ?_
        have hd := done7 HRD.out HFR.out HF7.out HR1.out
        exact ⟨none, 0, .nil, rfl, k + 1, hk1, rfl, rfl, fosl_nil _ _, hd.1, hd.2⟩
      · rw [if_neg he1]
        have hw : (tx1 == [116, 114, 117, 101]) = false := by simpa [trueW] using he1
        by_cases he2 : tx1 = falseW
        · rw [if_pos he2]
          have hw2 : (tx1 == [102, 97, 108, 115, 101]) = true := by rw [he2]; rfl
          clear h hne hif h1 he1 he2 HC hnum
          unfold SideR fval
          go_enter Tryd.func232, Tryd.ntmps232
          go_upto_region 12 with (first
            | ((go_at_call 132); (with_reducible refine (HT.out _ (H0.out _ ((Fr.refl _ _).alloc _))).mono ?_); rintro en w1 ⟨rfl, hr1, hf1⟩; have HZ := Lib.hid ((Blk.new W 28 #[.int .i64 0, .string ⟨#[]⟩, .int .i64 0, .int .i64 0, .int .i64 0, .int .i64 0, .slice none 0 0]).fr hf1 hOR); have HFR := Lib.hid (((Fr.refl (Only R) W).alloc _).call hf1 (fun _ h _ => h)); have HR1 := Lib.hid hr1; have zc := HZ.out.cell; have zf := HZ.out.frozen; have zl := HZ.out.lt; have zl1 := Lib.hid zl; clear hr1 hf1)
            | ((go_at_call 46); (with_reducible refine (HH.out _ HR1.out).mono ?_); rintro en w2 ⟨rfl, hf2⟩; replace HZ := Lib.hid (HZ.out.fr hf2 (fun e => e)); replace HR1 := Lib.hid (HR1.out.fr hf2); replace HFR := Lib.hid (HFR.out.call hf2 (fun _ h _ => h.elim)); replace zc := HZ.out.cell; replace zf := HZ.out.frozen; replace zl := HZ.out.lt; have hz2 := HR1.out.blk.lt; have r2 := HR1.out.blk.cell 1; have q2 := HR1.out.blk.frozen 1; clear hf2)
            )
          obtain ⟨wa, hwa⟩ : ∃ wa, (w2.setCell ⟨R, 1, none⟩ (.int .i64 ((k : Int) + 1))).alloc (.cells #[.int .i64 1, .string ⟨tx1.toArray⟩, .int .i64 nm1, .int .i64 pl1] 90) = wa := ⟨_, rfl⟩
          have hGW : W.heap.size < w2.heap.size := zl
          have hRa : Rdr wa R A c toks (k + 1) 0 0 := by rw [← hwa]; exact (bump HR1.out).fr ((Fr.refl _ _).alloc _)
          have hZa : Blk wa W.heap.size 28 #[.int .i64 0, .string ⟨#[]⟩, .int .i64 0, .int .i64 0, .int .i64 0, .int .i64 0, .slice none 0 0] := by rw [← hwa]; exact (HZ.out.far (p := ⟨R, 1, none⟩) (Ne.symm (Nat.ne_of_lt hR)) _).alloc _
          have hFa : Fr (Only R) W wa := by rw [← hwa]; exact (fr_bump HFR.out).alloc _
          have hTa : Blk wa w2.heap.size 90 #[.int .i64 1, .string ⟨tx1.toArray⟩, .int .i64 nm1, .int .i64 pl1] := by rw [← hwa]; exact Blk.new_eq (by simp)
          rw [hwa]
          replace HZ := Lib.hid hZa
          replace HR1 := Lib.hid hRa
          replace HFR := Lib.hid hFa
          have HC0 := Lib.hid hTa
          have tc := hTa.cell
          replace zc := HZ.out.cell
          replace zf := HZ.out.frozen
          replace zl := HZ.out.lt
          clear hwa hRa hZa hFa hTa r2 q2 hz2
          clear HC0 tc
          have HB7 := Lib.hid (set7_blk HZ.out (.int .i64 2) (.string ⟨#[]⟩) (.int .i64 0) (.int .i64 0) (.int .i64 0) (.int .i64 0) (.slice none 0 0))
          have HF7 := Lib.hid (set7_fr wa W.heap.size (.int .i64 2) (.string ⟨#[]⟩) (.int .i64 0) (.int .i64 0) (.int .i64 0) (.int .i64 0) (.slice none 0 0))
          go_wp2_with fail
          change bodyPost _ _ _ _ _ (set7 wa W.heap.size (.int .i64 2) (.string ⟨#[]⟩) (.int .i64 0) (.int .i64 0) (.int .i64 0) (.int .i64 0) (.slice none 0 0))
          generalize set7 wa W.heap.size (.int .i64 2) (.string ⟨#[]⟩) (.int .i64 0) (.int .i64 0) (.int .i64 0) (.int .i64 0) (.slice none 0 0) = W7 at *
          have HS := HB7.out.cell
          refine bodyPost_ret (v := .tuple #[.agg #[.int .i64 2, .string ⟨#[]⟩, .int .i64 0, .int .i64 0, .int .i64 0, .int .i64 0, .slice none 0 0], .bool true]) (by simp [results, Tryd.results232, go_sem, HS]) rfl ?_
          have hd := done7 HRD.out HFR.out HF7.out HR1.out
          exact ⟨none, 0, .nil, rfl, k + 1, hk1, rfl, rfl, fosl_nil _ _, hd.1, hd.2⟩
        · rw [if_neg he2]
          have hw2 : (tx1 == [102, 97, 108, 115, 101]) = false := by simpa [falseW] using he2
          obtain ⟨cm, hcm⟩ : ∃ cm, cmpOf toks[k + 1].1 = cm := ⟨_, rfl⟩
          rw [hcm] at HC ⊢
          by_cases hc0 : cm = 0
          · clear h hne hif h1 he1 he2 hnum
            rw [if_pos hc0]
            simp only [hc0, if_true] at HC
            subst hc0
            unfold SideR fval
            go_enter Tryd.func232, Tryd.ntmps232
            go_upto_region 13 with (first
              | ((go_at_call 132); (with_reducible refine (HT.out _ (H0.out _ ((Fr.refl _ _).alloc _))).mono ?_); rintro en w1 ⟨rfl, hr1, hf1⟩; have HZ := Lib.hid ((Blk.new W 28 #[.int .i64 0, .string ⟨#[]⟩, .int .i64 0, .int .i64 0, .int .i64 0, .int .i64 0, .slice none 0 0]).fr hf1 hOR); have HFR := Lib.hid (((Fr.refl (Only R) W).alloc _).call hf1 (fun _ h _ => h)); have HR1 := Lib.hid hr1; have zc := HZ.out.cell; have zf := HZ.out.frozen; have zl := HZ.out.lt; have zl1 := Lib.hid zl; clear hr1 hf1)
              | ((go_at_call 46); (with_reducible refine (HH.out _ HR1.out).mono ?_); rintro en w2 ⟨rfl, hf2⟩; replace HZ := Lib.hid (HZ.out.fr hf2 (fun e => e)); replace HR1 := Lib.hid (HR1.out.fr hf2); replace HFR := Lib.hid (HFR.out.call hf2 (fun _ h _ => h.elim)); replace zc := HZ.out.cell; replace zf := HZ.out.frozen; replace zl := HZ.out.lt; have hz2 := HR1.out.blk.lt; have r2 := HR1.out.blk.cell 1; have q2 := HR1.out.blk.frozen 1; clear hf2)
              )
            obtain ⟨wa, hwa⟩ : ∃ wa, (w2.setCell ⟨R, 1, none⟩ (.int .i64 ((k : Int) + 1))).alloc (.cells #[.int .i64 1, .string ⟨tx1.toArray⟩, .int .i64 nm1, .int .i64 pl1] 90) = wa := ⟨_, rfl⟩
            have hGW : W.heap.size < w2.heap.size := zl
            have hRa : Rdr wa R A c toks (k + 1) 0 0 := by rw [← hwa]; exact (bump HR1.out).fr ((Fr.refl _ _).alloc _)
            have hZa : Blk wa W.heap.size 28 #[.int .i64 0, .string ⟨#[]⟩, .int .i64 0, .int .i64 0, .int .i64 0, .int .i64 0, .slice none 0 0] := by rw [← hwa]; exact (HZ.out.far (p := ⟨R, 1, none⟩) (Ne.symm (Nat.ne_of_lt hR)) _).alloc _
            have hFa : Fr (Only R) W wa := by rw [← hwa]; exact (fr_bump HFR.out).alloc _
            have hTa : Blk wa w2.heap.size 90 #[.int .i64 1, .string ⟨tx1.toArray⟩, .int .i64 nm1, .int .i64 pl1] := by rw [← hwa]; exact Blk.new_eq (by simp)
            rw [hwa]
            replace HZ := Lib.hid hZa
            replace HR1 := Lib.hid hRa
            replace HFR := Lib.hid hFa
            have HC0 := Lib.hid hTa
            have tc := hTa.cell
            replace zc := HZ.out.cell
            replace zf := HZ.out.frozen
            replace zl := HZ.out.lt
            clear hwa hRa hZa hFa hTa r2 q2 hz2
            go_cut [7] (fun s wm => AtomR W R A c toks (k + 1) tx1 (0) s wm)
            case first =>
              have hOT : ¬ Only R w2.heap.size := only_ne (by omega)
              have hOG : ¬ Only R wa.heap.size := only_ne (by omega)
              have hTl : w2.heap.size < wa.heap.size := HC0.out.lt
              have tc1 : wa.cell? ⟨w2.heap.size, 1, none⟩ = some (.string ⟨tx1.toArray⟩) := tc 1
              go_region_held3 (fun w' => w'.cell? ⟨w2.heap.size, 1, none⟩ = some (.string ⟨tx1.toArray⟩))
                (first | exact Fr.cell (S := fun k => wa.heap.size ≤ k) (w := w5) (by repeat' (first | with_reducible exact Fr.refl _ _ | with_reducible refine Fr.alloc ?_ _ | with_reducible refine Fr.set9 ?_ ?_ _ | exact Nat.le_refl _ | exact hz5)) hbx (Nat.not_le_of_lt hTl) | with_reducible exact hf5.cell (by assumption) hOT | go_keep)
                (first | ((go_at_call 238); refine (HC.out _ ?_).mono ?_; (first | exact HR1.out.drew | exact (HR1.out.fr ((Fr.refl _ _).alloc _)).drew); rintro en w5 ⟨rfl, hr5, hf5⟩; have hz5 : wa.heap.size ≤ w5.heap.size := (by have := hf5.size; first | (simp at this; omega) | simpa using this); have hbx : w5.cell? ⟨w2.heap.size, 1, none⟩ = some (.string ⟨tx1.toArray⟩) := hf5.cell (by assumption) hOT; obtain ⟨⟨x0, x1, x2, x3, x4, x5, x6⟩, ⟨n0, n1, n2, n3, n4, n5, n6⟩⟩ := zlater9 w5 28 (.int .i64 0) (.string ⟨#[]⟩) (.int .i64 0) (.int .i64 0) (.int .i64 0) (.int .i64 0) (.slice none 0 0); first | (have hzz := zboxo hOG (g := wa.heap.size) hf5 rfl; obtain ⟨⟨z0, z1, z2, z3, z4, z5, z6⟩, ⟨y0, y1, y2, y3, y4, y5, y6⟩⟩ := hzz; have hz9 := World.block_lt_of_cell? w5 _ z0; simp only at hz9) | skip))
              all_goals
                go_wp2_with fail
                go_meet
                first
                  | with_reducible exact AtomR.after HRD.out HZ.out HFR.out zl hf5 hr5
                  | exact AtomR.before HRD.out HZ.out HFR.out zl hf5 hr5
            case rest =>
              obtain ⟨G, rfl, hGW, hz, hg, hr, hf⟩ := hcut
              have HZ := Lib.hid hz
              have HG := Lib.hid hg
              have HR1 := Lib.hid hr
              have HFR := Lib.hid hf
              have hGZ : G ≠ W.heap.size := by omega
              have zc := HZ.out.cell
              have zf := HZ.out.frozen
              have zl := HZ.out.lt
              have gc := HG.out.cell
              have gl := HG.out.lt
              clear hz hg hr hf
              have HB7 := Lib.hid (set7_blk HZ.out (.int .i64 3) (.string ⟨tx1.toArray⟩) (.int .i64 0) (.int .i64 0) (.int .i64 0) (.int .i64 0) (.slice none 0 0))
              have HF7 := Lib.hid (set7_fr wc W.heap.size (.int .i64 3) (.string ⟨tx1.toArray⟩) (.int .i64 0) (.int .i64 0) (.int .i64 0) (.int .i64 0) (.slice none 0 0))
              go_wp2_with fail
              change bodyPost _ _ _ _ _ (set7 wc W.heap.size (.int .i64 3) (.string ⟨tx1.toArray⟩) (.int .i64 0) (.int .i64 0) (.int .i64 0) (.int .i64 0) (.slice none 0 0))
              generalize set7 wc W.heap.size (.int .i64 3) (.string ⟨tx1.toArray⟩) (.int .i64 0) (.int .i64 0) (.int .i64 0) (.int .i64 0) (.slice none 0 0) = W7 at *
              have HS := HB7.out.cell
              refine bodyPost_ret (v := .tuple #[.agg #[.int .i64 3, .string ⟨tx1.toArray⟩, .int .i64 0, .int .i64 0, .int .i64 0, .int .i64 0, .slice none 0 0], .bool true]) (by simp [results, Tryd.results232, go_sem, HS]) rfl ?_
              have hd := done7 HRD.out HFR.out HF7.out HR1.out
              exact ⟨none, 0, .nil, rfl, k + 1, hk1, rfl, rfl, fosl_nil _ _, hd.1, hd.2⟩
          · rw [if_neg hc0]
            exact hnum he1 he2 cm hcm hc0
    · rw [if_pos hkd]
      have HW := Lib.hid (fun X (h : Rdr X R A c toks k 0 0) => rd_wrong X R A c toks k 0 0 h hk 20)
      obtain ⟨t1, ht1⟩ : ∃ t, toks[k] = t := ⟨_, rfl⟩
      rw [ht1] at HH HW hkd
      have HX1 := Lib.hid ht1
      clear ht1
      obtain ⟨⟨kd1, tx1, nm1⟩, pl1⟩ := t1
      unfold tokV at HH
      dsimp only at HH hkd HW
      clear h hne hif h1
      unfold SideR fval
      go_enter Tryd.func232, Tryd.ntmps232
      go_wp2_with (first
        | ((go_at_call 132); (with_reducible refine (HT.out _ (H0.out _ ((Fr.refl _ _).alloc _))).mono ?_); rintro en w1 ⟨rfl, hr1, hf1⟩; have HZ := Lib.hid ((Blk.new W 28 #[.int .i64 0, .string ⟨#[]⟩, .int .i64 0, .int .i64 0, .int .i64 0, .int .i64 0, .slice none 0 0]).fr hf1 hOR); have HFR := Lib.hid (((Fr.refl (Only R) W).alloc _).call hf1 (fun _ h _ => h)); have HR1 := Lib.hid hr1; have zc := HZ.out.cell; have zf := HZ.out.frozen; have zl := HZ.out.lt; have zl1 := Lib.hid zl; clear hr1 hf1)
        | ((go_at_call 46); (with_reducible refine (HH.out _ HR1.out).mono ?_); rintro en w2 ⟨rfl, hf2⟩; replace HZ := Lib.hid (HZ.out.fr hf2 (fun e => e)); replace HR1 := Lib.hid (HR1.out.fr hf2); replace HFR := Lib.hid (HFR.out.call hf2 (fun _ h _ => h.elim)); replace zc := HZ.out.cell; replace zf := HZ.out.frozen; replace zl := HZ.out.lt; clear hf2)
        | ((go_at_call 47); (with_reducible refine (HW.out _ ?_).mono ?_); exact HR1.out.fr ((Fr.refl _ _).alloc _); rintro en w3 ⟨rfl, hr1, hf1⟩; replace HZ := Lib.hid ((HZ.out.alloc _).fr hf1 hOR); replace HFR := Lib.hid ((HFR.out.alloc _).call hf1 (fun _ h _ => h)); replace HR1 := Lib.hid hr1; replace zc := HZ.out.cell; replace zf := HZ.out.frozen; replace zl := HZ.out.lt; clear hr1 hf1))
      have HB7 := Lib.hid (set7_blk HZ.out (.int .i64 0) (.string ⟨#[]⟩) (.int .i64 0) (.int .i64 0) (.int .i64 0) (.int .i64 0) (.slice none 0 0))
      have HF7 := Lib.hid (set7_fr w3 W.heap.size (.int .i64 0) (.string ⟨#[]⟩) (.int .i64 0) (.int .i64 0) (.int .i64 0) (.int .i64 0) (.slice none 0 0))
      change bodyPost _ _ _ _ _ (set7 w3 W.heap.size (.int .i64 0) (.string ⟨#[]⟩) (.int .i64 0) (.int .i64 0) (.int .i64 0) (.int .i64 0) (.slice none 0 0))
      generalize set7 w3 W.heap.size (.int .i64 0) (.string ⟨#[]⟩) (.int .i64 0) (.int .i64 0) (.int .i64 0) (.int .i64 0) (.slice none 0 0) = W7 at *
      have HS := HB7.out.cell
      refine bodyPost_ret (v := .tuple #[.agg #[.int .i64 0, .string ⟨#[]⟩, .int .i64 0, .int .i64 0, .int .i64 0, .int .i64 0, .slice none 0 0], .bool false]) (by simp [results, Tryd.results232, go_sem, HS]) rfl ?_
      exact ⟨⟨0, ⟨#[]⟩, 0, 0, 0, 0⟩, none, 0, 0, rfl, bad_done7 HRD.out HFR.out HF7.out (⟨⟨k, k, hk, rfl, by rw [HX1.out]; exact HR1.out⟩, HFR.out⟩ : Bad W w3 R A c toks 20 (remT toks k))⟩
  · have HT := Lib.hid (fun X (h : Rdr X R A c toks k 0 0) => take_yes h ht hk h1)
    have hk2 := tsg_next ht hk h1
    rw [h1, if_pos rfl] at hne
    rw [if_pos rfl]
    cases hq : gP n (.lev 1 (remT toks (k + 1))) with
    | out => rw [hq] at hne; exact absurd rfl hne
    | bad er r =>
      have HIF := Lib.hid (side_bad hif hk2 hq)
      rw [show ∀ g, (PR.bad er r).bind g = .bad er r from fun _ => rfl]
      unfold fval at HIF
      clear h hne hq hif h1
      unfold SideR fval
      go_enter Tryd.func232, Tryd.ntmps232
      go_upto_region 3 with (first
        | ((go_at_call 132); (with_reducible refine (HT.out _ (H0.out _ ((Fr.refl _ _).alloc _))).mono ?_); rintro en w1 ⟨rfl, hr1, hf1⟩; have HZ := Lib.hid ((Blk.new W 28 #[.int .i64 0, .string ⟨#[]⟩, .int .i64 0, .int .i64 0, .int .i64 0, .int .i64 0, .slice none 0 0]).fr hf1 hOR); have HFR := Lib.hid (((Fr.refl (Only R) W).alloc _).call hf1 (fun _ h _ => h)); have HR1 := Lib.hid hr1; have zc := HZ.out.cell; have zf := HZ.out.frozen; have zl := HZ.out.lt; have zl1 := Lib.hid zl; clear hr1 hf1)
        | ((go_at_call 45); (with_reducible refine (HIF.out _ HR1.out).mono ?_); rintro en w2 ⟨x, B, m, d, rfl, hg⟩; replace HZ := Lib.hid (HZ.out.fr hg.fr hOR); replace HFR := Lib.hid (HFR.out.call hg.fr (fun _ h _ => h)); have HG := Lib.hid hg; replace zc := HZ.out.cell; replace zf := HZ.out.frozen; replace zl := HZ.out.lt; clear hg))
      have hGW : W.heap.size < w2.heap.size := zl
      obtain ⟨wa, hwa⟩ : ∃ wa, w2.alloc (fbox x B m d) = wa := ⟨_, rfl⟩
      have hfa : Fr Nob w2 wa := by rw [← hwa]; exact (Fr.refl _ _).alloc _
      have hXA : Blk wa w2.heap.size 28 #[.int .i64 x.op, .string x.name, .int .i64 x.cmp, .int .i64 x.val, .int .i64 x.lo, .int .i64 x.hi, .slice B m d] := by rw [← hwa]; exact Blk.new _ _ _
      unfold fbox at hwa
      rw [hwa]
      have hGZ : w2.heap.size ≠ W.heap.size := by omega
      replace HZ := Lib.hid (HZ.out.fr hfa (fun e => e))
      replace HFR := Lib.hid (HFR.out.call hfa (fun _ h _ => h.elim))
      replace zc := HZ.out.cell
      replace zf := HZ.out.frozen
      replace zl := HZ.out.lt
      have xc := hXA.cell
      have xl := hXA.lt
      have hx7 := Lib.hid (cells7b hXA)
      replace HG := Lib.hid (HG.out.nob hfa)
      clear hwa hfa hXA
      go_region
      have HB7 := Lib.hid (set7_blk HZ.out (.int .i64 x.op) (.string x.name) (.int .i64 x.cmp) (.int .i64 x.val) (.int .i64 x.lo) (.int .i64 x.hi) (.slice B m d)).drew
      have HF7 := Lib.hid (set7_fr wa W.heap.size (.int .i64 x.op) (.string x.name) (.int .i64 x.cmp) (.int .i64 x.val) (.int .i64 x.lo) (.int .i64 x.hi) (.slice B m d)).drew
      go_wp2_with fail
      change bodyPost _ _ _ _ _ (set7 wa W.heap.size (.int .i64 x.op) (.string x.name) (.int .i64 x.cmp) (.int .i64 x.val) (.int .i64 x.lo) (.int .i64 x.hi) (.slice B m d)).drew
      generalize (set7 wa W.heap.size (.int .i64 x.op) (.string x.name) (.int .i64 x.cmp) (.int .i64 x.val) (.int .i64 x.lo) (.int .i64 x.hi) (.slice B m d)).drew = W7 at *
      have HS := HB7.out.cell
      refine bodyPost_ret (v := .tuple #[.agg #[.int .i64 x.op, .string x.name, .int .i64 x.cmp, .int .i64 x.val, .int .i64 x.lo, .int .i64 x.hi, .slice B m d], .bool false]) (by simp [results, Tryd.results232, go_sem, HS]) rfl ?_
      exact ⟨x, B, m, d, rfl, bad_done7 HRD.out HFR.out HF7.out HG.out⟩
    | ok x ks r =>
      obtain ⟨k3, hk3, rfl⟩ := lev_pos ht hk2 hq
      have HIF := Lib.hid (side_ok hif hk2 hq hk3)
      rw [show ∀ g, (PR.ok x ks (remT toks k3)).bind g = g x ks (remT toks k3) from fun _ => rfl]
      unfold fval at HIF
      simp only [sgn_rem hk3, remT_tail]
      cases h4 : tsg toks[k3] [41]
      · have HN := Lib.hid (fun X (h : Rdr X R A c toks k3 0 0) => need_no X R A c toks k3 0 0 h ht hk3 h4)
        rw [if_neg (by simp)]
        clear h hne hq hif h1 h4
        unfold SideR fval
        go_enter Tryd.func232, Tryd.ntmps232
        go_upto_region 3 with (first
          | ((go_at_call 132); (with_reducible refine (HT.out _ (H0.out _ ((Fr.refl _ _).alloc _))).mono ?_); rintro en w1 ⟨rfl, hr1, hf1⟩; have HZ := Lib.hid ((Blk.new W 28 #[.int .i64 0, .string ⟨#[]⟩, .int .i64 0, .int .i64 0, .int .i64 0, .int .i64 0, .slice none 0 0]).fr hf1 hOR); have HFR := Lib.hid (((Fr.refl (Only R) W).alloc _).call hf1 (fun _ h _ => h)); have HR1 := Lib.hid hr1; have zc := HZ.out.cell; have zf := HZ.out.frozen; have zl := HZ.out.lt; have zl1 := Lib.hid zl; clear hr1 hf1)
          | ((go_at_call 45); (with_reducible refine (HIF.out _ HR1.out).mono ?_); rintro en w2 ⟨B, d, f, rfl, hg⟩; replace HZ := Lib.hid (HZ.out.fr hg.fr hOR); replace HFR := Lib.hid (HFR.out.call hg.fr (fun _ h _ => h)); have HG := Lib.hid hg; replace zc := HZ.out.cell; replace zf := HZ.out.frozen; replace zl := HZ.out.lt; clear hg))
        have hGW : W.heap.size < w2.heap.size := zl
        obtain ⟨wa, hwa⟩ : ∃ wa, w2.alloc (fbox x B f.len d) = wa := ⟨_, rfl⟩
        have hfa : Fr Nob w2 wa := by rw [← hwa]; exact (Fr.refl _ _).alloc _
        have hXA : Blk wa w2.heap.size 28 #[.int .i64 x.op, .string x.name, .int .i64 x.cmp, .int .i64 x.val, .int .i64 x.lo, .int .i64 x.hi, .slice B f.len d] := by rw [← hwa]; exact Blk.new _ _ _
        unfold fbox at hwa
        rw [hwa]
        have hGZ : w2.heap.size ≠ W.heap.size := by omega
        replace HZ := Lib.hid (HZ.out.fr hfa (fun e => e))
        replace HFR := Lib.hid (HFR.out.call hfa (fun _ h _ => h.elim))
        replace zc := HZ.out.cell
        replace zf := HZ.out.frozen
        replace zl := HZ.out.lt
        have xc := hXA.cell
        have xl := hXA.lt
        have hx7 := Lib.hid (cells7b hXA)
        have HRa := Lib.hid (HG.out.rd.fr hfa)
        have hOG : ¬ Only R w2.heap.size := only_ne (by omega)
        clear hwa hfa hXA
        go_region_held3 (fun w' => w'.cell? ⟨w2.heap.size, 0, none⟩ = some (.int .i64 x.op) ∧ w'.cell? ⟨w2.heap.size, 1, none⟩ = some (.string x.name) ∧ w'.cell? ⟨w2.heap.size, 2, none⟩ = some (.int .i64 x.cmp) ∧ w'.cell? ⟨w2.heap.size, 3, none⟩ = some (.int .i64 x.val) ∧ w'.cell? ⟨w2.heap.size, 4, none⟩ = some (.int .i64 x.lo) ∧ w'.cell? ⟨w2.heap.size, 5, none⟩ = some (.int .i64 x.hi) ∧ w'.cell? ⟨w2.heap.size, 6, none⟩ = some (.slice B f.len d))
          (first | with_reducible exact cells7s hGZ (by assumption) _ _ _ _ _ _ _ | with_reducible exact cells7f hf5 hOG (by assumption) | go_keep)
          (first | ((go_at_call 233); refine (HN.out _ HRa.out.drew).mono ?_; rintro en w5 ⟨rfl, hr5, hf5⟩; replace HZ := Lib.hid ((HZ.out.drew).fr hf5 hOR); replace HFR := Lib.hid ((HFR.out.drew).call hf5 (fun _ h _ => h)); replace zc := HZ.out.cell; replace zf := HZ.out.frozen))
        have HB7 := Lib.hid (set7_blk HZ.out (.int .i64 x.op) (.string x.name) (.int .i64 x.cmp) (.int .i64 x.val) (.int .i64 x.lo) (.int .i64 x.hi) (.slice B f.len d))
        have HF7 := Lib.hid (set7_fr w5 W.heap.size (.int .i64 x.op) (.string x.name) (.int .i64 x.cmp) (.int .i64 x.val) (.int .i64 x.lo) (.int .i64 x.hi) (.slice B f.len d))
        go_wp2_with fail
        change bodyPost _ _ _ _ _ (set7 w5 W.heap.size (.int .i64 x.op) (.string x.name) (.int .i64 x.cmp) (.int .i64 x.val) (.int .i64 x.lo) (.int .i64 x.hi) (.slice B f.len d))
        generalize set7 w5 W.heap.size (.int .i64 x.op) (.string x.name) (.int .i64 x.cmp) (.int .i64 x.val) (.int .i64 x.lo) (.int .i64 x.hi) (.slice B f.len d) = W7 at *
        have HS := HB7.out.cell
        refine bodyPost_ret (v := .tuple #[.agg #[.int .i64 x.op, .string x.name, .int .i64 x.cmp, .int .i64 x.val, .int .i64 x.lo, .int .i64 x.hi, .slice B f.len d], .bool false]) (by simp [results, Tryd.results232, go_sem, HS]) rfl ?_
        exact ⟨x, B, f.len, d, rfl, bad_done7 HRD.out HFR.out HF7.out (⟨⟨k3, k3, hk3, rfl, hr5⟩, HFR.out⟩ : Bad W w5 R A c toks 20 (remT toks k3))⟩
      · have HN := Lib.hid (fun X (h : Rdr X R A c toks k3 0 0) => need_yes X R A c toks k3 0 0 h ht hk3 h4)
        have hk4 := tsg_next ht hk3 h4
        rw [if_pos rfl]
        clear h hne hq hif h1 h4
        unfold SideR fval
        go_enter Tryd.func232, Tryd.ntmps232
        go_upto_region 3 with (first
          | ((go_at_call 132); (with_reducible refine (HT.out _ (H0.out _ ((Fr.refl _ _).alloc _))).mono ?_); rintro en w1 ⟨rfl, hr1, hf1⟩; have HZ := Lib.hid ((Blk.new W 28 #[.int .i64 0, .string ⟨#[]⟩, .int .i64 0, .int .i64 0, .int .i64 0, .int .i64 0, .slice none 0 0]).fr hf1 hOR); have HFR := Lib.hid (((Fr.refl (Only R) W).alloc _).call hf1 (fun _ h _ => h)); have HR1 := Lib.hid hr1; have zc := HZ.out.cell; have zf := HZ.out.frozen; have zl := HZ.out.lt; have zl1 := Lib.hid zl; clear hr1 hf1)
          | ((go_at_call 45); (with_reducible refine (HIF.out _ HR1.out).mono ?_); rintro en w2 ⟨B, d, f, rfl, hg⟩; replace HZ := Lib.hid (HZ.out.fr hg.fr hOR); replace HFR := Lib.hid (HFR.out.call hg.fr (fun _ h _ => h)); have HG := Lib.hid hg; replace zc := HZ.out.cell; replace zf := HZ.out.frozen; replace zl := HZ.out.lt; clear hg))
        have hGW : W.heap.size < w2.heap.size := zl
        obtain ⟨wa, hwa⟩ : ∃ wa, w2.alloc (fbox x B f.len d) = wa := ⟨_, rfl⟩
        have hfa : Fr Nob w2 wa := by rw [← hwa]; exact (Fr.refl _ _).alloc _
        have hXA : Blk wa w2.heap.size 28 #[.int .i64 x.op, .string x.name, .int .i64 x.cmp, .int .i64 x.val, .int .i64 x.lo, .int .i64 x.hi, .slice B f.len d] := by rw [← hwa]; exact Blk.new _ _ _
        unfold fbox at hwa
        rw [hwa]
        have hGZ : w2.heap.size ≠ W.heap.size := by omega
        replace HZ := Lib.hid (HZ.out.fr hfa (fun e => e))
        replace HFR := Lib.hid (HFR.out.call hfa (fun _ h _ => h.elim))
        replace zc := HZ.out.cell
        replace zf := HZ.out.frozen
        replace zl := HZ.out.lt
        have xc := hXA.cell
        have xl := hXA.lt
        have hx7 := Lib.hid (cells7b hXA)
        have HRa := Lib.hid (HG.out.rd.fr hfa)
        have hOG : ¬ Only R w2.heap.size := only_ne (by omega)
        have HFA := Lib.hid hfa
        clear hwa hfa hXA
        go_region_held3 (fun w' => w'.cell? ⟨w2.heap.size, 0, none⟩ = some (.int .i64 x.op) ∧ w'.cell? ⟨w2.heap.size, 1, none⟩ = some (.string x.name) ∧ w'.cell? ⟨w2.heap.size, 2, none⟩ = some (.int .i64 x.cmp) ∧ w'.cell? ⟨w2.heap.size, 3, none⟩ = some (.int .i64 x.val) ∧ w'.cell? ⟨w2.heap.size, 4, none⟩ = some (.int .i64 x.lo) ∧ w'.cell? ⟨w2.heap.size, 5, none⟩ = some (.int .i64 x.hi) ∧ w'.cell? ⟨w2.heap.size, 6, none⟩ = some (.slice B f.len d))
          (first | with_reducible exact cells7s hGZ (by assumption) _ _ _ _ _ _ _ | with_reducible exact cells7f hf5 hOG (by assumption) | go_keep)
          (first | ((go_at_call 233); refine (HN.out _ HRa.out.drew).mono ?_; rintro en w5 ⟨rfl, hr5, hf5⟩; replace HZ := Lib.hid ((HZ.out.drew).fr hf5 hOR); replace HFR := Lib.hid ((HFR.out.drew).call hf5 (fun _ h _ => h)); replace zc := HZ.out.cell; replace zf := HZ.out.frozen))
        have HB7 := Lib.hid (set7_blk HZ.out (.int .i64 x.op) (.string x.name) (.int .i64 x.cmp) (.int .i64 x.val) (.int .i64 x.lo) (.int .i64 x.hi) (.slice B f.len d))
        have HF7 := Lib.hid (set7_fr w5 W.heap.size (.int .i64 x.op) (.string x.name) (.int .i64 x.cmp) (.int .i64 x.val) (.int .i64 x.lo) (.int .i64 x.hi) (.slice B f.len d))
        go_wp2_with fail
        change bodyPost _ _ _ _ _ (set7 w5 W.heap.size (.int .i64 x.op) (.string x.name) (.int .i64 x.cmp) (.int .i64 x.val) (.int .i64 x.lo) (.int .i64 x.hi) (.slice B f.len d))
        generalize set7 w5 W.heap.size (.int .i64 x.op) (.string x.name) (.int .i64 x.cmp) (.int .i64 x.val) (.int .i64 x.lo) (.int .i64 x.hi) (.slice B f.len d) = W7 at *
        have HS := HB7.out.cell
        refine bodyPost_ret (v := .tuple #[.agg #[.int .i64 x.op, .string x.name, .int .i64 x.cmp, .int .i64 x.val, .int .i64 x.lo, .int .i64 x.hi, .slice B f.len d], .bool true]) (by simp [results, Tryd.results232, go_sem, HS]) rfl ?_
        have hd := done7 HRD.out HFR.out HF7.out hr5
        have hs5 := sl_only hR (sl_up (by have := zl1.out; omega) HG.out.sl) (((HFA.out.drew).mono (fun _ _ e => e.elim)).call hf5 (fun _ h _ => h))
        exact ⟨B, d, f, rfl, k3 + 1, hk4, rfl, HG.out.tr, done7_sl hs5 HF7.out, hd.1, hd.2⟩
end Go.Proofs.YtfebkjoohnlifaaDoor
