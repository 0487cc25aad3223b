/- The reference's parse: a unary node. -/
import Derived.Test.YtfebkjoohnlifaaDoorR1
namespace Go.Proofs.YtfebkjoohnlifaaDoor
open Go.RowKit Go.Shelf
attribute [local go_sem] Instr.field asAgg

theorem set7_blk9 {w : World} {g : Nat} {t : TypeId} {a0 a1 a2 a3 a4 a5 a6 a7 a8 : Value} (h : Blk w g t #[a0, a1, a2, a3, a4, a5, a6, a7, a8]) (b0 b1 b2 b3 b4 b5 b6 : Value) : Blk (set7 w g b0 b1 b2 b3 b4 b5 b6) g t #[b0, b1, b2, b3, b4, b5, b6, a7, a8] := by
  have := ((((((h.set 0 b0).set 1 b1).set 2 b2).set 3 b3).set 4 b4).set 5 b5).set 6 b6
  simpa [set7] using this
theorem sgn_same {x : TK × Nat} {s t : List UInt8} (h : tsg x s = true) (hn : s ≠ t) : tsg x t = false := by
  unfold tsg at *
  simp at *
  intro _
  rw [h.2]; exact hn
theorem set7_size (w : World) (g : Nat) (b0 b1 b2 b3 b4 b5 b6 : Value) : (set7 w g b0 b1 b2 b3 b4 b5 b6).heap.size = w.heap.size := by simp [set7]
theorem slp_done {W w2 wb W9 : World} {g : Nat} {t : TypeId} {x : Nd} {B : Option Addr} {d : Nat} {f : Fo} (h : FoSlP (fun b => W.heap.size + 1 ≤ b) w2 B d f) (hw : Fr Nob w2 wb) (hk : Blk wb g t #[.int .i64 x.op, .string x.name, .int .i64 x.cmp, .int .i64 x.val, .int .i64 x.lo, .int .i64 x.hi, .slice B f.len d]) (hg : W.heap.size + 1 ≤ g) (hf : Fr (Only W.heap.size) wb W9) : FoSlP (fun b => W.heap.size ≤ b) W9 (some ⟨g, 0, none⟩) 1 (.cons x B d f .nil) :=
  slp_up (slp_fr1 (kids_one' hk (slp_fr h hw) hg) hf (by omega)) (by omega)
set_option maxRecDepth 100000 in
set_option maxHeartbeats 4000000 in
theorem rf_not (A : Option Addr) (c : Nat) (toks : List (TK × Nat)) (ht : Toks toks) (n : Nat) (hun : UnOk A c toks (gP n)) (W : World) (k : Nat) (h : Sl W 4 A toks.length c (toks.flatMap tcs)) (hk : k < toks.length) (h1 : tsg toks[k] [33] = true)
    (hne : ¬ (gP n (.lev 6 (remT toks (k + 1)))).bind (fun y js r => .ok (nd1 4 0 0) (one y js) r) = .out) :
    Calls Tryd.prog 80 #[.slice A toks.length c, .int .i64 k] W (RRes W toks ((gP n (.lev 6 (remT toks (k + 1)))).bind fun y js r => .ok (nd1 4 0 0) (one y js) r)) := by
  have hk1 := next_lt ht hk (tsg_kind h1)
  have hk6 : (k : Int) ≤ 600 := by have := ht.few; omega
  have HSG := Lib.hid (fun X (hf : Fr Nob W X) => rf_sign X A c toks k (h.pure hf) hk [33])
  rw [h1] at HSG
  have HZ := Lib.hid (Blk.new W 97 z9)
  have HFR := Lib.hid ((Fr.refl Nob W).alloc (.cells z9 97))
  unfold z9 at HZ HFR
  have zc := HZ.out.cell
  have zf := HZ.out.frozen
  have zl := HZ.out.lt
  cases hq : gP n (.lev 6 (remT toks (k + 1))) with
  | out => rw [hq] at hne; exact absurd rfl hne
  | bad er r =>
    have HLV := Lib.hid (fun X (hf : Fr Nob W X) => un_bad hun hk1 hq (ki := (k : Int) + 1) (by omega) X (h.pure hf))
    rw [show ∀ g, (PR.bad er r).bind g = .bad er r from fun _ => rfl]
    clear h hne hq hun h1
    unfold RRes rval at *
    go_enter Tryd.func80, Tryd.ntmps80
    go_upto_region 3 with (first
      | ((go_at_call 82); (with_reducible refine (HSG.out _ ((Fr.refl _ _).alloc _)).mono ?_); rintro en w1 ⟨rfl, rfl⟩)
      | ((go_at_call 80); (with_reducible refine (HLV.out _ ((Fr.refl _ _).alloc _)).mono ?_); rintro en w2 ⟨x, B, m, d, k2, rfl, he, hk2, hr2, hf2⟩; replace HZ := Lib.hid (HZ.out.fr hf2 (fun e => e)); have HSZ := Lib.hid (Nat.le_trans (Nat.succ_le_of_lt zl) hf2.size); replace HFR := Lib.hid (HFR.out.call hf2 (fun _ h _ => h)); replace zc := HZ.out.cell; replace zf := HZ.out.frozen; replace zl := HZ.out.lt; clear hf2)
      )
    obtain ⟨wa, hwa⟩ : ∃ wa, w2.alloc (.cells #[.int .i64 x.op, .string x.name, .int .i64 x.cmp, .int .i64 x.val, .int .i64 x.lo, .int .i64 x.hi, .slice B m d, .int .i64 k2, .int .i64 er] 97) = wa := ⟨_, rfl⟩
    have hfa : Fr Nob w2 wa := by rw [← hwa]; exact (Fr.refl _ _).alloc _
    have hXA : Blk wa w2.heap.size 97 #[.int .i64 x.op, .string x.name, .int .i64 x.cmp, .int .i64 x.val, .int .i64 x.lo, .int .i64 x.hi, .slice B m d, .int .i64 k2, .int .i64 er] := by rw [← hwa]; exact Blk.new _ _ _
    rw [hwa]
    have hGZ : w2.heap.size ≠ W.heap.size := by omega
    replace HZ := Lib.hid (HZ.out.fr hfa (fun e => e))
    replace HFR := Lib.hid (HFR.out.call hfa (fun _ h _ => h))
    have HFA := Lib.hid hfa
    have HX := Lib.hid hXA
    replace zc := HZ.out.cell
    replace zf := HZ.out.frozen
    replace zl := HZ.out.lt
    have xc := HX.out.cell
    have xf := HX.out.frozen
    have xl := HX.out.lt
    clear hwa hfa hXA
    go_upto_region 4 with fail
    have hs7 := set7_fr wa w2.heap.size (.int .i64 4) (.string ⟨#[]⟩) (.int .i64 0) (.int .i64 0) (.int .i64 0) (.int .i64 0) (.slice (some ⟨wa.heap.size, 0, none⟩) 1 1)
    have hsz7 := set7_size wa w2.heap.size (.int .i64 4) (.string ⟨#[]⟩) (.int .i64 0) (.int .i64 0) (.int .i64 0) (.int .i64 0) (.slice (some ⟨wa.heap.size, 0, none⟩) 1 1)
    have hxb := set7_blk9 HX.out (.int .i64 4) (.string ⟨#[]⟩) (.int .i64 0) (.int .i64 0) (.int .i64 0) (.int .i64 0) (.slice (some ⟨wa.heap.size, 0, none⟩) 1 1)
    obtain ⟨w7, hw7⟩ : ∃ w7, set7 wa w2.heap.size (.int .i64 4) (.string ⟨#[]⟩) (.int .i64 0) (.int .i64 0) (.int .i64 0) (.int .i64 0) (.slice (some ⟨wa.heap.size, 0, none⟩) 1 1) = w7 := ⟨_, rfl⟩
    rw [hw7] at hs7 hsz7 hxb
    unfold set7 at hw7
    rw [hw7]
    obtain ⟨wb, hwb⟩ : ∃ wb, w7.alloc (.cells #[.int .i64 x.op, .string x.name, .int .i64 x.cmp, .int .i64 x.val, .int .i64 x.lo, .int .i64 x.hi, .slice B m d] 34) = wb := ⟨_, rfl⟩
    have hf7 : Fr Nob w7 wb := by rw [← hwb]; exact (Fr.refl _ _).alloc _
    have hkb : Blk wb wa.heap.size 34 #[.int .i64 x.op, .string x.name, .int .i64 x.cmp, .int .i64 x.val, .int .i64 x.lo, .int .i64 x.hi, .slice B m d] := by rw [← hwb]; exact Blk.new_eq hsz7.symm
    have hzb := (HZ.out.fr hs7 (by unfold Only; omega)).fr hf7 (fun e => e)
    replace hxb := hxb.fr hf7 (fun e => e)
    have hfw : Fr Nob w2 wb := (HFA.out.call hs7 (fun i hi hlt => by unfold Only at hi; omega)).call hf7 (fun _ h _ => h)
    have hfb : Fr Nob W wb := (HFR.out.call hs7 (fun i hi hlt => by have := HSZ.out; unfold Only at hi; omega)).call hf7 (fun _ h _ => h)
    rw [hwb]
    replace HX := Lib.hid hxb
    replace HZ := Lib.hid hzb
    have HK := Lib.hid hkb
    have HFB := Lib.hid hfb
    have HFW := Lib.hid hfw
    replace zc := HZ.out.cell
    replace zf := HZ.out.frozen
    replace zl := HZ.out.lt
    replace xc := HX.out.cell
    replace xf := HX.out.frozen
    replace xl := HX.out.lt
    clear hwb hs7 hsz7 hxb hkb hzb hfw hfb hw7 hf7
    go_wp2_with fail
    have HB9 := Lib.hid (set9c_blk HZ.out (.int .i64 4) (.string ⟨#[]⟩) (.int .i64 0) (.int .i64 0) (.int .i64 0) (.int .i64 0) (.slice (some ⟨wa.heap.size, 0, none⟩) 1 1) (.int .i64 (k2)) (.int .i64 er))
    have HF9 := Lib.hid (set9c_fr wb W.heap.size (.int .i64 4) (.string ⟨#[]⟩) (.int .i64 0) (.int .i64 0) (.int .i64 0) (.int .i64 0) (.slice (some ⟨wa.heap.size, 0, none⟩) 1 1) (.int .i64 (k2)) (.int .i64 er))
    change bodyPost _ _ _ _ _ (set9c wb W.heap.size (.int .i64 4) (.string ⟨#[]⟩) (.int .i64 0) (.int .i64 0) (.int .i64 0) (.int .i64 0) (.slice (some ⟨wa.heap.size, 0, none⟩) 1 1) (.int .i64 (k2)) (.int .i64 er))
    generalize set9c wb W.heap.size (.int .i64 4) (.string ⟨#[]⟩) (.int .i64 0) (.int .i64 0) (.int .i64 0) (.int .i64 0) (.slice (some ⟨wa.heap.size, 0, none⟩) 1 1) (.int .i64 (k2)) (.int .i64 er) = W9 at *
    have HS := HB9.out.cell
    refine bodyPost_ret (v := .agg #[.int .i64 4, .string ⟨#[]⟩, .int .i64 0, .int .i64 0, .int .i64 0, .int .i64 0, .slice (some ⟨wa.heap.size, 0, none⟩) 1 1, .int .i64 (k2), .int .i64 er]) (by simp [results, Tryd.results80, go_sem, HS]) rfl ?_
    exact ⟨nd1 4 0 0, _, 1, 1, k2, rfl, he, hk2, hr2, own9 HFB.out HF9.out⟩
  | ok x ks r =>
    obtain ⟨k1, hk1', rfl⟩ := lev_pos ht hk1 hq
    have HLV := Lib.hid (fun X (hf : Fr Nob W X) => un_ok hun hk1 hq hk1' (ki := (k : Int) + 1) (by omega) X (h.pure hf))
    rw [show ∀ g, (PR.ok x ks (remT toks k1)).bind g = g x ks (remT toks k1) from fun _ => rfl]
    clear h hne hq hun h1
    unfold RRes rval at *
    go_enter Tryd.func80, Tryd.ntmps80
    go_upto_region 3 with (first
      | ((go_at_call 82); (with_reducible refine (HSG.out _ ((Fr.refl _ _).alloc _)).mono ?_); rintro en w1 ⟨rfl, rfl⟩)
      | ((go_at_call 80); (with_reducible refine (HLV.out _ ((Fr.refl _ _).alloc _)).mono ?_); rintro en w2 ⟨B, d, f, rfl, htr, hsl, hf2⟩; replace HZ := Lib.hid (HZ.out.fr hf2 (fun e => e)); have HSZ := Lib.hid (Nat.le_trans (Nat.succ_le_of_lt zl) hf2.size); have HSL := Lib.hid (slp_up (M := W.heap.size + 1) hsl (Nat.succ_le_of_lt zl)); replace HFR := Lib.hid (HFR.out.call hf2 (fun _ h _ => h)); have HTR := Lib.hid htr; replace zc := HZ.out.cell; replace zf := HZ.out.frozen; replace zl := HZ.out.lt; clear hf2 htr hsl)
      )
    obtain ⟨wa, hwa⟩ : ∃ wa, w2.alloc (.cells #[.int .i64 x.op, .string x.name, .int .i64 x.cmp, .int .i64 x.val, .int .i64 x.lo, .int .i64 x.hi, .slice B f.len d, .int .i64 k1, .int .i64 0] 97) = wa := ⟨_, rfl⟩
    have hfa : Fr Nob w2 wa := by rw [← hwa]; exact (Fr.refl _ _).alloc _
    have hXA : Blk wa w2.heap.size 97 #[.int .i64 x.op, .string x.name, .int .i64 x.cmp, .int .i64 x.val, .int .i64 x.lo, .int .i64 x.hi, .slice B f.len d, .int .i64 k1, .int .i64 0] := by rw [← hwa]; exact Blk.new _ _ _
    rw [hwa]
    have hGZ : w2.heap.size ≠ W.heap.size := by omega
    replace HZ := Lib.hid (HZ.out.fr hfa (fun e => e))
    replace HFR := Lib.hid (HFR.out.call hfa (fun _ h _ => h))
    have HFA := Lib.hid hfa
    have HX := Lib.hid hXA
    replace zc := HZ.out.cell
    replace zf := HZ.out.frozen
    replace zl := HZ.out.lt
    have xc := HX.out.cell
    have xf := HX.out.frozen
    have xl := HX.out.lt
    clear hwa hfa hXA
    go_upto_region 4 with fail
    have hs7 := set7_fr wa w2.heap.size (.int .i64 4) (.string ⟨#[]⟩) (.int .i64 0) (.int .i64 0) (.int .i64 0) (.int .i64 0) (.slice (some ⟨wa.heap.size, 0, none⟩) 1 1)
    have hsz7 := set7_size wa w2.heap.size (.int .i64 4) (.string ⟨#[]⟩) (.int .i64 0) (.int .i64 0) (.int .i64 0) (.int .i64 0) (.slice (some ⟨wa.heap.size, 0, none⟩) 1 1)
    have hxb := set7_blk9 HX.out (.int .i64 4) (.string ⟨#[]⟩) (.int .i64 0) (.int .i64 0) (.int .i64 0) (.int .i64 0) (.slice (some ⟨wa.heap.size, 0, none⟩) 1 1)
    obtain ⟨w7, hw7⟩ : ∃ w7, set7 wa w2.heap.size (.int .i64 4) (.string ⟨#[]⟩) (.int .i64 0) (.int .i64 0) (.int .i64 0) (.int .i64 0) (.slice (some ⟨wa.heap.size, 0, none⟩) 1 1) = w7 := ⟨_, rfl⟩
    rw [hw7] at hs7 hsz7 hxb
    unfold set7 at hw7
    rw [hw7]
    obtain ⟨wb, hwb⟩ : ∃ wb, w7.alloc (.cells #[.int .i64 x.op, .string x.name, .int .i64 x.cmp, .int .i64 x.val, .int .i64 x.lo, .int .i64 x.hi, .slice B f.len d] 34) = wb := ⟨_, rfl⟩
    have hf7 : Fr Nob w7 wb := by rw [← hwb]; exact (Fr.refl _ _).alloc _
    have hkb : Blk wb wa.heap.size 34 #[.int .i64 x.op, .string x.name, .int .i64 x.cmp, .int .i64 x.val, .int .i64 x.lo, .int .i64 x.hi, .slice B f.len d] := by rw [← hwb]; exact Blk.new_eq hsz7.symm
    have hzb := (HZ.out.fr hs7 (by unfold Only; omega)).fr hf7 (fun e => e)
    replace hxb := hxb.fr hf7 (fun e => e)
    have hfw : Fr Nob w2 wb := (HFA.out.call hs7 (fun i hi hlt => by unfold Only at hi; omega)).call hf7 (fun _ h _ => h)
    have hfb : Fr Nob W wb := (HFR.out.call hs7 (fun i hi hlt => by have := HSZ.out; unfold Only at hi; omega)).call hf7 (fun _ h _ => h)
    rw [hwb]
    replace HX := Lib.hid hxb
    replace HZ := Lib.hid hzb
    have HK := Lib.hid hkb
    have HFB := Lib.hid hfb
    have HFW := Lib.hid hfw
    replace zc := HZ.out.cell
    replace zf := HZ.out.frozen
    replace zl := HZ.out.lt
    replace xc := HX.out.cell
    replace xf := HX.out.frozen
    replace xl := HX.out.lt
    clear hwb hs7 hsz7 hxb hkb hzb hfw hfb hw7 hf7
    go_wp2_with fail
    have HB9 := Lib.hid (set9c_blk HZ.out (.int .i64 4) (.string ⟨#[]⟩) (.int .i64 0) (.int .i64 0) (.int .i64 0) (.int .i64 0) (.slice (some ⟨wa.heap.size, 0, none⟩) 1 1) (.int .i64 (k1)) (.int .i64 0))
    have HF9 := Lib.hid (set9c_fr wb W.heap.size (.int .i64 4) (.string ⟨#[]⟩) (.int .i64 0) (.int .i64 0) (.int .i64 0) (.int .i64 0) (.slice (some ⟨wa.heap.size, 0, none⟩) 1 1) (.int .i64 (k1)) (.int .i64 0))
    change bodyPost _ _ _ _ _ (set9c wb W.heap.size (.int .i64 4) (.string ⟨#[]⟩) (.int .i64 0) (.int .i64 0) (.int .i64 0) (.int .i64 0) (.slice (some ⟨wa.heap.size, 0, none⟩) 1 1) (.int .i64 (k1)) (.int .i64 0))
    generalize set9c wb W.heap.size (.int .i64 4) (.string ⟨#[]⟩) (.int .i64 0) (.int .i64 0) (.int .i64 0) (.int .i64 0) (.slice (some ⟨wa.heap.size, 0, none⟩) 1 1) (.int .i64 (k1)) (.int .i64 0) = W9 at *
    have HS := HB9.out.cell
    refine bodyPost_ret (v := .agg #[.int .i64 4, .string ⟨#[]⟩, .int .i64 0, .int .i64 0, .int .i64 0, .int .i64 0, .slice (some ⟨wa.heap.size, 0, none⟩) 1 1, .int .i64 (k1), .int .i64 0]) (by simp [results, Tryd.results80, go_sem, HS]) rfl ?_
    exact ⟨_, 1, .cons x B d f .nil, k1, rfl, hk1', rfl, by simp [Fo.tr, one, HTR.out], slp_done HSL.out HFW.out HK.out (by have := HSZ.out; have := HFA.out.size; omega) HF9.out, own9 HFB.out HF9.out⟩
set_option maxRecDepth 100000 in
set_option maxHeartbeats 4000000 in
theorem rf_F (A : Option Addr) (c : Nat) (toks : List (TK × Nat)) (ht : Toks toks) (n : Nat) (hun : UnOk A c toks (gP n)) (W : World) (k : Nat) (h : Sl W 4 A toks.length c (toks.flatMap tcs)) (hk : k < toks.length) (h1 : tsg toks[k] [33] = false) (h2 : tsg toks[k] [70] = true) (h3 : tsg toks[k] [71] = false)
    (hne : ¬ (spanP (remT toks (k + 1))).bind (fun lo hi r => (gP n (.lev 6 r)).bind fun y js r2 => .ok (nd1 9 lo hi) (one y js) r2) = .out) :
    Calls Tryd.prog 80 #[.slice A toks.length c, .int .i64 k] W (RRes W toks ((spanP (remT toks (k + 1))).bind fun lo hi r => (gP n (.lev 6 r)).bind fun y js r2 => .ok (nd1 9 lo hi) (one y js) r2)) := by
  have hk1 : k + 1 < toks.length := next_lt ht hk (tsg_kind (by assumption : tsg toks[k] [70] = true))
  have hk6 : (k : Int) ≤ 600 := by have := ht.few; omega
  have HSG := Lib.hid (fun X (hf : Fr Nob W X) => rf_sign X A c toks k (h.pure hf) hk [33])
  have HSGF := Lib.hid (fun X (hf : Fr Nob W X) => rf_sign X A c toks k (h.pure hf) hk [70])
  have HSGG := Lib.hid (fun X (hf : Fr Nob W X) => rf_sign X A c toks k (h.pure hf) hk [71])
  rw [h1] at HSG
  rw [h2] at HSGF
  rw [h3] at HSGG
  have HZ := Lib.hid (Blk.new W 97 z9)
  have HFR := Lib.hid ((Fr.refl Nob W).alloc (.cells z9 97))
  unfold z9 at HZ HFR
  have zc := HZ.out.cell
  have zf := HZ.out.frozen
  have zl := HZ.out.lt
  cases hs : spanP (remT toks (k + 1)) with
  | bad er r =>
    have HSP := Lib.hid (fun X (hf : Fr Nob W X) => sp_bad ht hk1 hs (ki := (k : Int) + 1) (by omega) X (h.pure hf))
    rw [show ∀ g, (SR.bad er r).bind g = .bad er r from fun _ => rfl]
    clear h hne hs hun h1 h2 h3
    unfold RRes rval at *
    go_enter Tryd.func80, Tryd.ntmps80
    go_wp2_with (first
      | ((go_at_call 82); (with_reducible refine (HSG.out _ ((Fr.refl _ _).alloc _)).mono ?_); rintro en w1 ⟨rfl, rfl⟩)
      | ((go_at_call 82); (with_reducible refine (HSGF.out _ HFR.out).mono ?_); rintro en w1 ⟨rfl, rfl⟩)
      | ((go_at_call 82); (with_reducible refine (HSGG.out _ HFR.out).mono ?_); rintro en w1 ⟨rfl, rfl⟩)
      | ((go_at_call 84); (with_reducible refine (HSP.out _ HFR.out).mono ?_); rintro en w2 ⟨k2, rfl, he, hk2, hr2, hf2⟩; replace HZ := Lib.hid (HZ.out.fr hf2 (fun e => e)); replace HFR := Lib.hid (HFR.out.call hf2 (fun _ h _ => h)); replace zc := HZ.out.cell; replace zf := HZ.out.frozen; replace zl := HZ.out.lt; have he2 : (er != 0) = true := (by simpa using he); clear hf2)
      | ((go_at_call 50); (with_reducible refine (rf_bad _ _ _).mono ?_); unfold rval nd1; rintro en w3 ⟨rfl, hf2⟩; replace HZ := Lib.hid (HZ.out.fr hf2 (fun e => e)); replace HFR := Lib.hid (HFR.out.call hf2 (fun _ h _ => h)); replace zc := HZ.out.cell; replace zf := HZ.out.frozen; replace zl := HZ.out.lt; clear hf2)
      )
    have HB9 := Lib.hid (set9c_blk HZ.out (.int .i64 0) (.string ⟨#[]⟩) (.int .i64 0) (.int .i64 0) (.int .i64 0) (.int .i64 0) (.slice none 0 0) (.int .i64 (k2)) (.int .i64 er))
    have HF9 := Lib.hid (set9c_fr w3 W.heap.size (.int .i64 0) (.string ⟨#[]⟩) (.int .i64 0) (.int .i64 0) (.int .i64 0) (.int .i64 0) (.slice none 0 0) (.int .i64 (k2)) (.int .i64 er))
    change bodyPost _ _ _ _ _ (set9c w3 W.heap.size (.int .i64 0) (.string ⟨#[]⟩) (.int .i64 0) (.int .i64 0) (.int .i64 0) (.int .i64 0) (.slice none 0 0) (.int .i64 (k2)) (.int .i64 er))
    generalize set9c w3 W.heap.size (.int .i64 0) (.string ⟨#[]⟩) (.int .i64 0) (.int .i64 0) (.int .i64 0) (.int .i64 0) (.slice none 0 0) (.int .i64 (k2)) (.int .i64 er) = W9 at *
    have HS := HB9.out.cell
    refine bodyPost_ret (v := .agg #[.int .i64 0, .string ⟨#[]⟩, .int .i64 0, .int .i64 0, .int .i64 0, .int .i64 0, .slice none 0 0, .int .i64 (k2), .int .i64 er]) (by simp [results, Tryd.results80, go_sem, HS]) rfl ?_
    exact ⟨nd1 0 0 0, none, 0, 0, k2, rfl, he, hk2, hr2, own9 HFR.out HF9.out⟩
  | ok lo hi r =>
    obtain ⟨k4, hk4, rfl⟩ := span_at ht hk1 hs
    have HSP := Lib.hid (fun X (hf : Fr Nob W X) => sp_ok ht hk1 hs hk4 (ki := (k : Int) + 1) (by omega) X (h.pure hf))
    rw [hs] at hne
    rw [show ∀ g, (SR.ok lo hi (remT toks k4)).bind g = g lo hi (remT toks k4) from fun _ => rfl] at hne ⊢
    cases hq : gP n (.lev 6 (remT toks k4)) with
    | out => rw [hq] at hne; exact absurd rfl hne
    | bad er r =>
      have HLV := Lib.hid (fun X (hf : Fr Nob W X) => un_bad hun hk4 hq (ki := (k4 : Int)) rfl X (h.pure hf))
      rw [show ∀ g, (PR.bad er r).bind g = .bad er r from fun _ => rfl]
      clear h hne hq hun h1 h2 h3 hs
      unfold RRes rval at *
      go_enter Tryd.func80, Tryd.ntmps80
      go_upto_region 13 with (first
        | ((go_at_call 82); (with_reducible refine (HSG.out _ ((Fr.refl _ _).alloc _)).mono ?_); rintro en w1 ⟨rfl, rfl⟩)
        | ((go_at_call 82); (with_reducible refine (HSGF.out _ HFR.out).mono ?_); rintro en w1 ⟨rfl, rfl⟩)
        | ((go_at_call 82); (with_reducible refine (HSGG.out _ HFR.out).mono ?_); rintro en w1 ⟨rfl, rfl⟩)
        | ((go_at_call 84); (with_reducible refine (HSP.out _ HFR.out).mono ?_); rintro en w2 ⟨rfl, hf2⟩; replace HZ := Lib.hid (HZ.out.fr hf2 (fun e => e)); replace HFR := Lib.hid (HFR.out.call hf2 (fun _ h _ => h)); replace zc := HZ.out.cell; replace zf := HZ.out.frozen; replace zl := HZ.out.lt; clear hf2)
        | ((go_at_call 80); (with_reducible refine (HLV.out _ HFR.out).mono ?_); rintro en w2 ⟨x, B, m, d, k2, rfl, he, hk2, hr2, hf2⟩; replace HZ := Lib.hid (HZ.out.fr hf2 (fun e => e)); have HSZ := Lib.hid (Nat.le_trans (Nat.succ_le_of_lt zl) hf2.size); replace HFR := Lib.hid (HFR.out.call hf2 (fun _ h _ => h)); replace zc := HZ.out.cell; replace zf := HZ.out.frozen; replace zl := HZ.out.lt; clear hf2)
        )
      obtain ⟨wa, hwa⟩ : ∃ wa, w2.alloc (.cells #[.int .i64 x.op, .string x.name, .int .i64 x.cmp, .int .i64 x.val, .int .i64 x.lo, .int .i64 x.hi, .slice B m d, .int .i64 k2, .int .i64 er] 97) = wa := ⟨_, rfl⟩
      have hfa : Fr Nob w2 wa := by rw [← hwa]; exact (Fr.refl _ _).alloc _
      have hXA : Blk wa w2.heap.size 97 #[.int .i64 x.op, .string x.name, .int .i64 x.cmp, .int .i64 x.val, .int .i64 x.lo, .int .i64 x.hi, .slice B m d, .int .i64 k2, .int .i64 er] := by rw [← hwa]; exact Blk.new _ _ _
      rw [hwa]
      have hGZ : w2.heap.size ≠ W.heap.size := by omega
      replace HZ := Lib.hid (HZ.out.fr hfa (fun e => e))
      replace HFR := Lib.hid (HFR.out.call hfa (fun _ h _ => h))
      have HFA := Lib.hid hfa
      have HX := Lib.hid hXA
      replace zc := HZ.out.cell
      replace zf := HZ.out.frozen
      replace zl := HZ.out.lt
      have xc := HX.out.cell
      have xf := HX.out.frozen
      have xl := HX.out.lt
      clear hwa hfa hXA
      go_upto_region 14 with fail
      have hs7 := set7_fr wa w2.heap.size (.int .i64 9) (.string ⟨#[]⟩) (.int .i64 0) (.int .i64 0) (.int .i64 lo) (.int .i64 hi) (.slice (some ⟨wa.heap.size, 0, none⟩) 1 1)
      have hsz7 := set7_size wa w2.heap.size (.int .i64 9) (.string ⟨#[]⟩) (.int .i64 0) (.int .i64 0) (.int .i64 lo) (.int .i64 hi) (.slice (some ⟨wa.heap.size, 0, none⟩) 1 1)
      have hxb := set7_blk9 HX.out (.int .i64 9) (.string ⟨#[]⟩) (.int .i64 0) (.int .i64 0) (.int .i64 lo) (.int .i64 hi) (.slice (some ⟨wa.heap.size, 0, none⟩) 1 1)
      obtain ⟨w7, hw7⟩ : ∃ w7, set7 wa w2.heap.size (.int .i64 9) (.string ⟨#[]⟩) (.int .i64 0) (.int .i64 0) (.int .i64 lo) (.int .i64 hi) (.slice (some ⟨wa.heap.size, 0, none⟩) 1 1) = w7 := ⟨_, rfl⟩
      rw [hw7] at hs7 hsz7 hxb
      unfold set7 at hw7
      rw [hw7]
      obtain ⟨wb, hwb⟩ : ∃ wb, w7.alloc (.cells #[.int .i64 x.op, .string x.name, .int .i64 x.cmp, .int .i64 x.val, .int .i64 x.lo, .int .i64 x.hi, .slice B m d] 34) = wb := ⟨_, rfl⟩
      have hf7 : Fr Nob w7 wb := by rw [← hwb]; exact (Fr.refl _ _).alloc _
      have hkb : Blk wb wa.heap.size 34 #[.int .i64 x.op, .string x.name, .int .i64 x.cmp, .int .i64 x.val, .int .i64 x.lo, .int .i64 x.hi, .slice B m d] := by rw [← hwb]; exact Blk.new_eq hsz7.symm
      have hzb := (HZ.out.fr hs7 (by unfold Only; omega)).fr hf7 (fun e => e)
      replace hxb := hxb.fr hf7 (fun e => e)
      have hfw : Fr Nob w2 wb := (HFA.out.call hs7 (fun i hi hlt => by unfold Only at hi; omega)).call hf7 (fun _ h _ => h)
      have hfb : Fr Nob W wb := (HFR.out.call hs7 (fun i hi hlt => by have := HSZ.out; unfold Only at hi; omega)).call hf7 (fun _ h _ => h)
      rw [hwb]
      replace HX := Lib.hid hxb
      replace HZ := Lib.hid hzb
      have HK := Lib.hid hkb
      have HFB := Lib.hid hfb
      have HFW := Lib.hid hfw
      replace zc := HZ.out.cell
      replace zf := HZ.out.frozen
      replace zl := HZ.out.lt
      replace xc := HX.out.cell
      replace xf := HX.out.frozen
      replace xl := HX.out.lt
      clear hwb hs7 hsz7 hxb hkb hzb hfw hfb hw7 hf7
      go_wp2_with fail
      have HB9 := Lib.hid (set9c_blk HZ.out (.int .i64 9) (.string ⟨#[]⟩) (.int .i64 0) (.int .i64 0) (.int .i64 lo) (.int .i64 hi) (.slice (some ⟨wa.heap.size, 0, none⟩) 1 1) (.int .i64 (k2)) (.int .i64 er))
      have HF9 := Lib.hid (set9c_fr wb W.heap.size (.int .i64 9) (.string ⟨#[]⟩) (.int .i64 0) (.int .i64 0) (.int .i64 lo) (.int .i64 hi) (.slice (some ⟨wa.heap.size, 0, none⟩) 1 1) (.int .i64 (k2)) (.int .i64 er))
      change bodyPost _ _ _ _ _ (set9c wb W.heap.size (.int .i64 9) (.string ⟨#[]⟩) (.int .i64 0) (.int .i64 0) (.int .i64 lo) (.int .i64 hi) (.slice (some ⟨wa.heap.size, 0, none⟩) 1 1) (.int .i64 (k2)) (.int .i64 er))
      generalize set9c wb W.heap.size (.int .i64 9) (.string ⟨#[]⟩) (.int .i64 0) (.int .i64 0) (.int .i64 lo) (.int .i64 hi) (.slice (some ⟨wa.heap.size, 0, none⟩) 1 1) (.int .i64 (k2)) (.int .i64 er) = W9 at *
      have HS := HB9.out.cell
      refine bodyPost_ret (v := .agg #[.int .i64 9, .string ⟨#[]⟩, .int .i64 0, .int .i64 0, .int .i64 lo, .int .i64 hi, .slice (some ⟨wa.heap.size, 0, none⟩) 1 1, .int .i64 (k2), .int .i64 er]) (by simp [results, Tryd.results80, go_sem, HS]) rfl ?_
      exact ⟨nd1 9 lo hi, _, 1, 1, k2, rfl, he, hk2, hr2, own9 HFB.out HF9.out⟩
    | ok x ks r =>
      obtain ⟨k5, hk5, rfl⟩ := lev_pos ht hk4 hq
      have HLV := Lib.hid (fun X (hf : Fr Nob W X) => un_ok hun hk4 hq hk5 (ki := (k4 : Int)) rfl X (h.pure hf))
      rw [show ∀ g, (PR.ok x ks (remT toks k5)).bind g = g x ks (remT toks k5) from fun _ => rfl]
      clear h hne hq hun h1 h2 h3 hs
      unfold RRes rval at *
      go_enter Tryd.func80, Tryd.ntmps80
      go_upto_region 13 with (first
        | ((go_at_call 82); (with_reducible refine (HSG.out _ ((Fr.refl _ _).alloc _)).mono ?_); rintro en w1 ⟨rfl, rfl⟩)
        | ((go_at_call 82); (with_reducible refine (HSGF.out _ HFR.out).mono ?_); rintro en w1 ⟨rfl, rfl⟩)
        | ((go_at_call 82); (with_reducible refine (HSGG.out _ HFR.out).mono ?_); rintro en w1 ⟨rfl, rfl⟩)
        | ((go_at_call 84); (with_reducible refine (HSP.out _ HFR.out).mono ?_); rintro en w2 ⟨rfl, hf2⟩; replace HZ := Lib.hid (HZ.out.fr hf2 (fun e => e)); replace HFR := Lib.hid (HFR.out.call hf2 (fun _ h _ => h)); replace zc := HZ.out.cell; replace zf := HZ.out.frozen; replace zl := HZ.out.lt; clear hf2)
        | ((go_at_call 80); (with_reducible refine (HLV.out _ HFR.out).mono ?_); rintro en w2 ⟨B, d, f, rfl, htr, hsl, hf2⟩; replace HZ := Lib.hid (HZ.out.fr hf2 (fun e => e)); have HSZ := Lib.hid (Nat.le_trans (Nat.succ_le_of_lt zl) hf2.size); have HSL := Lib.hid (slp_up (M := W.heap.size + 1) hsl (Nat.succ_le_of_lt zl)); replace HFR := Lib.hid (HFR.out.call hf2 (fun _ h _ => h)); have HTR := Lib.hid htr; replace zc := HZ.out.cell; replace zf := HZ.out.frozen; replace zl := HZ.out.lt; clear hf2 htr hsl)
        )
      obtain ⟨wa, hwa⟩ : ∃ wa, w2.alloc (.cells #[.int .i64 x.op, .string x.name, .int .i64 x.cmp, .int .i64 x.val, .int .i64 x.lo, .int .i64 x.hi, .slice B f.len d, .int .i64 k5, .int .i64 0] 97) = wa := ⟨_, rfl⟩
      have hfa : Fr Nob w2 wa := by rw [← hwa]; exact (Fr.refl _ _).alloc _
      have hXA : Blk wa w2.heap.size 97 #[.int .i64 x.op, .string x.name, .int .i64 x.cmp, .int .i64 x.val, .int .i64 x.lo, .int .i64 x.hi, .slice B f.len d, .int .i64 k5, .int .i64 0] := by rw [← hwa]; exact Blk.new _ _ _
      rw [hwa]
      have hGZ : w2.heap.size ≠ W.heap.size := by omega
      replace HZ := Lib.hid (HZ.out.fr hfa (fun e => e))
      replace HFR := Lib.hid (HFR.out.call hfa (fun _ h _ => h))
      have HFA := Lib.hid hfa
      have HX := Lib.hid hXA
      replace zc := HZ.out.cell
      replace zf := HZ.out.frozen
      replace zl := HZ.out.lt
      have xc := HX.out.cell
      have xf := HX.out.frozen
      have xl := HX.out.lt
      clear hwa hfa hXA
      go_upto_region 14 with fail
      have hs7 := set7_fr wa w2.heap.size (.int .i64 9) (.string ⟨#[]⟩) (.int .i64 0) (.int .i64 0) (.int .i64 lo) (.int .i64 hi) (.slice (some ⟨wa.heap.size, 0, none⟩) 1 1)
      have hsz7 := set7_size wa w2.heap.size (.int .i64 9) (.string ⟨#[]⟩) (.int .i64 0) (.int .i64 0) (.int .i64 lo) (.int .i64 hi) (.slice (some ⟨wa.heap.size, 0, none⟩) 1 1)
      have hxb := set7_blk9 HX.out (.int .i64 9) (.string ⟨#[]⟩) (.int .i64 0) (.int .i64 0) (.int .i64 lo) (.int .i64 hi) (.slice (some ⟨wa.heap.size, 0, none⟩) 1 1)
      obtain ⟨w7, hw7⟩ : ∃ w7, set7 wa w2.heap.size (.int .i64 9) (.string ⟨#[]⟩) (.int .i64 0) (.int .i64 0) (.int .i64 lo) (.int .i64 hi) (.slice (some ⟨wa.heap.size, 0, none⟩) 1 1) = w7 := ⟨_, rfl⟩
      rw [hw7] at hs7 hsz7 hxb
      unfold set7 at hw7
      rw [hw7]
      obtain ⟨wb, hwb⟩ : ∃ wb, w7.alloc (.cells #[.int .i64 x.op, .string x.name, .int .i64 x.cmp, .int .i64 x.val, .int .i64 x.lo, .int .i64 x.hi, .slice B f.len d] 34) = wb := ⟨_, rfl⟩
      have hf7 : Fr Nob w7 wb := by rw [← hwb]; exact (Fr.refl _ _).alloc _
      have hkb : Blk wb wa.heap.size 34 #[.int .i64 x.op, .string x.name, .int .i64 x.cmp, .int .i64 x.val, .int .i64 x.lo, .int .i64 x.hi, .slice B f.len d] := by rw [← hwb]; exact Blk.new_eq hsz7.symm
      have hzb := (HZ.out.fr hs7 (by unfold Only; omega)).fr hf7 (fun e => e)
      replace hxb := hxb.fr hf7 (fun e => e)
      have hfw : Fr Nob w2 wb := (HFA.out.call hs7 (fun i hi hlt => by unfold Only at hi; omega)).call hf7 (fun _ h _ => h)
      have hfb : Fr Nob W wb := (HFR.out.call hs7 (fun i hi hlt => by have := HSZ.out; unfold Only at hi; omega)).call hf7 (fun _ h _ => h)
      rw [hwb]
      replace HX := Lib.hid hxb
      replace HZ := Lib.hid hzb
      have HK := Lib.hid hkb
      have HFB := Lib.hid hfb
      have HFW := Lib.hid hfw
      replace zc := HZ.out.cell
      replace zf := HZ.out.frozen
      replace zl := HZ.out.lt
      replace xc := HX.out.cell
      replace xf := HX.out.frozen
      replace xl := HX.out.lt
      clear hwb hs7 hsz7 hxb hkb hzb hfw hfb hw7 hf7
      go_wp2_with fail
      have HB9 := Lib.hid (set9c_blk HZ.out (.int .i64 9) (.string ⟨#[]⟩) (.int .i64 0) (.int .i64 0) (.int .i64 lo) (.int .i64 hi) (.slice (some ⟨wa.heap.size, 0, none⟩) 1 1) (.int .i64 (k5)) (.int .i64 0))
      have HF9 := Lib.hid (set9c_fr wb W.heap.size (.int .i64 9) (.string ⟨#[]⟩) (.int .i64 0) (.int .i64 0) (.int .i64 lo) (.int .i64 hi) (.slice (some ⟨wa.heap.size, 0, none⟩) 1 1) (.int .i64 (k5)) (.int .i64 0))
      change bodyPost _ _ _ _ _ (set9c wb W.heap.size (.int .i64 9) (.string ⟨#[]⟩) (.int .i64 0) (.int .i64 0) (.int .i64 lo) (.int .i64 hi) (.slice (some ⟨wa.heap.size, 0, none⟩) 1 1) (.int .i64 (k5)) (.int .i64 0))
      generalize set9c wb W.heap.size (.int .i64 9) (.string ⟨#[]⟩) (.int .i64 0) (.int .i64 0) (.int .i64 lo) (.int .i64 hi) (.slice (some ⟨wa.heap.size, 0, none⟩) 1 1) (.int .i64 (k5)) (.int .i64 0) = W9 at *
      have HS := HB9.out.cell
      refine bodyPost_ret (v := .agg #[.int .i64 9, .string ⟨#[]⟩, .int .i64 0, .int .i64 0, .int .i64 lo, .int .i64 hi, .slice (some ⟨wa.heap.size, 0, none⟩) 1 1, .int .i64 (k5), .int .i64 0]) (by simp [results, Tryd.results80, go_sem, HS]) rfl ?_
      exact ⟨_, 1, .cons x B d f .nil, k5, rfl, hk5, rfl, by simp [Fo.tr, one, HTR.out], slp_done HSL.out HFW.out HK.out (by have := HSZ.out; have := HFA.out.size; omega) HF9.out, own9 HFB.out HF9.out⟩
set_option maxRecDepth 100000 in
set_option maxHeartbeats 4000000 in
theorem rf_G (A : Option Addr) (c : Nat) (toks : List (TK × Nat)) (ht : Toks toks) (n : Nat) (hun : UnOk A c toks (gP n)) (W : World) (k : Nat) (h : Sl W 4 A toks.length c (toks.flatMap tcs)) (hk : k < toks.length) (h1 : tsg toks[k] [33] = false) (h2 : tsg toks[k] [70] = false) (h3 : tsg toks[k] [71] = true)
    (hne : ¬ (spanP (remT toks (k + 1))).bind (fun lo hi r => (gP n (.lev 6 r)).bind fun y js r2 => .ok (nd1 10 lo hi) (one y js) r2) = .out) :
    Calls Tryd.prog 80 #[.slice A toks.length c, .int .i64 k] W (RRes W toks ((spanP (remT toks (k + 1))).bind fun lo hi r => (gP n (.lev 6 r)).bind fun y js r2 => .ok (nd1 10 lo hi) (one y js) r2)) := by
  have hk1 : k + 1 < toks.length := next_lt ht hk (tsg_kind (by assumption : tsg toks[k] [71] = true))
  have hk6 : (k : Int) ≤ 600 := by have := ht.few; omega
  have HSG := Lib.hid (fun X (hf : Fr Nob W X) => rf_sign X A c toks k (h.pure hf) hk [33])
  have HSGF := Lib.hid (fun X (hf : Fr Nob W X) => rf_sign X A c toks k (h.pure hf) hk [70])
  have HSGG := Lib.hid (fun X (hf : Fr Nob W X) => rf_sign X A c toks k (h.pure hf) hk [71])
  rw [h1] at HSG
  rw [h2] at HSGF
  rw [h3] at HSGG
  have HZ := Lib.hid (Blk.new W 97 z9)
  have HFR := Lib.hid ((Fr.refl Nob W).alloc (.cells z9 97))
  unfold z9 at HZ HFR
  have zc := HZ.out.cell
  have zf := HZ.out.frozen
  have zl := HZ.out.lt
  cases hs : spanP (remT toks (k + 1)) with
  | bad er r =>
    have HSP := Lib.hid (fun X (hf : Fr Nob W X) => sp_bad ht hk1 hs (ki := (k : Int) + 1) (by omega) X (h.pure hf))
    rw [show ∀ g, (SR.bad er r).bind g = .bad er r from fun _ => rfl]
    clear h hne hs hun h1 h2 h3
    unfold RRes rval at *
    go_enter Tryd.func80, Tryd.ntmps80
    go_wp2_with (first
      | ((go_at_call 82); (with_reducible refine (HSG.out _ ((Fr.refl _ _).alloc _)).mono ?_); rintro en w1 ⟨rfl, rfl⟩)
      | ((go_at_call 82); (with_reducible refine (HSGF.out _ HFR.out).mono ?_); rintro en w1 ⟨rfl, rfl⟩)
      | ((go_at_call 82); (with_reducible refine (HSGG.out _ HFR.out).mono ?_); rintro en w1 ⟨rfl, rfl⟩)
      | ((go_at_call 84); (with_reducible refine (HSP.out _ HFR.out).mono ?_); rintro en w2 ⟨k2, rfl, he, hk2, hr2, hf2⟩; replace HZ := Lib.hid (HZ.out.fr hf2 (fun e => e)); replace HFR := Lib.hid (HFR.out.call hf2 (fun _ h _ => h)); replace zc := HZ.out.cell; replace zf := HZ.out.frozen; replace zl := HZ.out.lt; have he2 : (er != 0) = true := (by simpa using he); clear hf2)
      | ((go_at_call 50); (with_reducible refine (rf_bad _ _ _).mono ?_); unfold rval nd1; rintro en w3 ⟨rfl, hf2⟩; replace HZ := Lib.hid (HZ.out.fr hf2 (fun e => e)); replace HFR := Lib.hid (HFR.out.call hf2 (fun _ h _ => h)); replace zc := HZ.out.cell; replace zf := HZ.out.frozen; replace zl := HZ.out.lt; clear hf2)
      )
    have HB9 := Lib.hid (set9c_blk HZ.out (.int .i64 0) (.string ⟨#[]⟩) (.int .i64 0) (.int .i64 0) (.int .i64 0) (.int .i64 0) (.slice none 0 0) (.int .i64 (k2)) (.int .i64 er))
    have HF9 := Lib.hid (set9c_fr w3 W.heap.size (.int .i64 0) (.string ⟨#[]⟩) (.int .i64 0) (.int .i64 0) (.int .i64 0) (.int .i64 0) (.slice none 0 0) (.int .i64 (k2)) (.int .i64 er))
    change bodyPost _ _ _ _ _ (set9c w3 W.heap.size (.int .i64 0) (.string ⟨#[]⟩) (.int .i64 0) (.int .i64 0) (.int .i64 0) (.int .i64 0) (.slice none 0 0) (.int .i64 (k2)) (.int .i64 er))
    generalize set9c w3 W.heap.size (.int .i64 0) (.string ⟨#[]⟩) (.int .i64 0) (.int .i64 0) (.int .i64 0) (.int .i64 0) (.slice none 0 0) (.int .i64 (k2)) (.int .i64 er) = W9 at *
    have HS := HB9.out.cell
    refine bodyPost_ret (v := .agg #[.int .i64 0, .string ⟨#[]⟩, .int .i64 0, .int .i64 0, .int .i64 0, .int .i64 0, .slice none 0 0, .int .i64 (k2), .int .i64 er]) (by simp [results, Tryd.results80, go_sem, HS]) rfl ?_
    exact ⟨nd1 0 0 0, none, 0, 0, k2, rfl, he, hk2, hr2, own9 HFR.out HF9.out⟩
  | ok lo hi r =>
    obtain ⟨k4, hk4, rfl⟩ := span_at ht hk1 hs
    have HSP := Lib.hid (fun X (hf : Fr Nob W X) => sp_ok ht hk1 hs hk4 (ki := (k : Int) + 1) (by omega) X (h.pure hf))
    rw [hs] at hne
    rw [show ∀ g, (SR.ok lo hi (remT toks k4)).bind g = g lo hi (remT toks k4) from fun _ => rfl] at hne ⊢
    cases hq : gP n (.lev 6 (remT toks k4)) with
    | out => rw [hq] at hne; exact absurd rfl hne
    | bad er r =>
      have HLV := Lib.hid (fun X (hf : Fr Nob W X) => un_bad hun hk4 hq (ki := (k4 : Int)) rfl X (h.pure hf))
      rw [show ∀ g, (PR.bad er r).bind g = .bad er r from fun _ => rfl]
      clear h hne hq hun h1 h2 h3 hs
      unfold RRes rval at *
      go_enter Tryd.func80, Tryd.ntmps80
      go_upto_region 13 with (first
        | ((go_at_call 82); (with_reducible refine (HSG.out _ ((Fr.refl _ _).alloc _)).mono ?_); rintro en w1 ⟨rfl, rfl⟩)
        | ((go_at_call 82); (with_reducible refine (HSGF.out _ HFR.out).mono ?_); rintro en w1 ⟨rfl, rfl⟩)
        | ((go_at_call 82); (with_reducible refine (HSGG.out _ HFR.out).mono ?_); rintro en w1 ⟨rfl, rfl⟩)
        | ((go_at_call 84); (with_reducible refine (HSP.out _ HFR.out).mono ?_); rintro en w2 ⟨rfl, hf2⟩; replace HZ := Lib.hid (HZ.out.fr hf2 (fun e => e)); replace HFR := Lib.hid (HFR.out.call hf2 (fun _ h _ => h)); replace zc := HZ.out.cell; replace zf := HZ.out.frozen; replace zl := HZ.out.lt; clear hf2)
        | ((go_at_call 80); (with_reducible refine (HLV.out _ HFR.out).mono ?_); rintro en w2 ⟨x, B, m, d, k2, rfl, he, hk2, hr2, hf2⟩; replace HZ := Lib.hid (HZ.out.fr hf2 (fun e => e)); have HSZ := Lib.hid (Nat.le_trans (Nat.succ_le_of_lt zl) hf2.size); replace HFR := Lib.hid (HFR.out.call hf2 (fun _ h _ => h)); replace zc := HZ.out.cell; replace zf := HZ.out.frozen; replace zl := HZ.out.lt; clear hf2)
        )
      obtain ⟨wa, hwa⟩ : ∃ wa, w2.alloc (.cells #[.int .i64 x.op, .string x.name, .int .i64 x.cmp, .int .i64 x.val, .int .i64 x.lo, .int .i64 x.hi, .slice B m d, .int .i64 k2, .int .i64 er] 97) = wa := ⟨_, rfl⟩
      have hfa : Fr Nob w2 wa := by rw [← hwa]; exact (Fr.refl _ _).alloc _
      have hXA : Blk wa w2.heap.size 97 #[.int .i64 x.op, .string x.name, .int .i64 x.cmp, .int .i64 x.val, .int .i64 x.lo, .int .i64 x.hi, .slice B m d, .int .i64 k2, .int .i64 er] := by rw [← hwa]; exact Blk.new _ _ _
      rw [hwa]
      have hGZ : w2.heap.size ≠ W.heap.size := by omega
      replace HZ := Lib.hid (HZ.out.fr hfa (fun e => e))
      replace HFR := Lib.hid (HFR.out.call hfa (fun _ h _ => h))
      have HFA := Lib.hid hfa
      have HX := Lib.hid hXA
      replace zc := HZ.out.cell
      replace zf := HZ.out.frozen
      replace zl := HZ.out.lt
      have xc := HX.out.cell
      have xf := HX.out.frozen
      have xl := HX.out.lt
      clear hwa hfa hXA
      go_upto_region 14 with fail
      have hs7 := set7_fr wa w2.heap.size (.int .i64 10) (.string ⟨#[]⟩) (.int .i64 0) (.int .i64 0) (.int .i64 lo) (.int .i64 hi) (.slice (some ⟨wa.heap.size, 0, none⟩) 1 1)
      have hsz7 := set7_size wa w2.heap.size (.int .i64 10) (.string ⟨#[]⟩) (.int .i64 0) (.int .i64 0) (.int .i64 lo) (.int .i64 hi) (.slice (some ⟨wa.heap.size, 0, none⟩) 1 1)
      have hxb := set7_blk9 HX.out (.int .i64 10) (.string ⟨#[]⟩) (.int .i64 0) (.int .i64 0) (.int .i64 lo) (.int .i64 hi) (.slice (some ⟨wa.heap.size, 0, none⟩) 1 1)
      obtain ⟨w7, hw7⟩ : ∃ w7, set7 wa w2.heap.size (.int .i64 10) (.string ⟨#[]⟩) (.int .i64 0) (.int .i64 0) (.int .i64 lo) (.int .i64 hi) (.slice (some ⟨wa.heap.size, 0, none⟩) 1 1) = w7 := ⟨_, rfl⟩
      rw [hw7] at hs7 hsz7 hxb
      unfold set7 at hw7
      rw [hw7]
      obtain ⟨wb, hwb⟩ : ∃ wb, w7.alloc (.cells #[.int .i64 x.op, .string x.name, .int .i64 x.cmp, .int .i64 x.val, .int .i64 x.lo, .int .i64 x.hi, .slice B m d] 34) = wb := ⟨_, rfl⟩
      have hf7 : Fr Nob w7 wb := by rw [← hwb]; exact (Fr.refl _ _).alloc _
      have hkb : Blk wb wa.heap.size 34 #[.int .i64 x.op, .string x.name, .int .i64 x.cmp, .int .i64 x.val, .int .i64 x.lo, .int .i64 x.hi, .slice B m d] := by rw [← hwb]; exact Blk.new_eq hsz7.symm
      have hzb := (HZ.out.fr hs7 (by unfold Only; omega)).fr hf7 (fun e => e)
      replace hxb := hxb.fr hf7 (fun e => e)
      have hfw : Fr Nob w2 wb := (HFA.out.call hs7 (fun i hi hlt => by unfold Only at hi; omega)).call hf7 (fun _ h _ => h)
      have hfb : Fr Nob W wb := (HFR.out.call hs7 (fun i hi hlt => by have := HSZ.out; unfold Only at hi; omega)).call hf7 (fun _ h _ => h)
      rw [hwb]
      replace HX := Lib.hid hxb
      replace HZ := Lib.hid hzb
      have HK := Lib.hid hkb
      have HFB := Lib.hid hfb
      have HFW := Lib.hid hfw
      replace zc := HZ.out.cell
      replace zf := HZ.out.frozen
      replace zl := HZ.out.lt
      replace xc := HX.out.cell
      replace xf := HX.out.frozen
      replace xl := HX.out.lt
      clear hwb hs7 hsz7 hxb hkb hzb hfw hfb hw7 hf7
      go_wp2_with fail
      have HB9 := Lib.hid (set9c_blk HZ.out (.int .i64 10) (.string ⟨#[]⟩) (.int .i64 0) (.int .i64 0) (.int .i64 lo) (.int .i64 hi) (.slice (some ⟨wa.heap.size, 0, none⟩) 1 1) (.int .i64 (k2)) (.int .i64 er))
      have HF9 := Lib.hid (set9c_fr wb W.heap.size (.int .i64 10) (.string ⟨#[]⟩) (.int .i64 0) (.int .i64 0) (.int .i64 lo) (.int .i64 hi) (.slice (some ⟨wa.heap.size, 0, none⟩) 1 1) (.int .i64 (k2)) (.int .i64 er))
      change bodyPost _ _ _ _ _ (set9c wb W.heap.size (.int .i64 10) (.string ⟨#[]⟩) (.int .i64 0) (.int .i64 0) (.int .i64 lo) (.int .i64 hi) (.slice (some ⟨wa.heap.size, 0, none⟩) 1 1) (.int .i64 (k2)) (.int .i64 er))
      generalize set9c wb W.heap.size (.int .i64 10) (.string ⟨#[]⟩) (.int .i64 0) (.int .i64 0) (.int .i64 lo) (.int .i64 hi) (.slice (some ⟨wa.heap.size, 0, none⟩) 1 1) (.int .i64 (k2)) (.int .i64 er) = W9 at *
      have HS := HB9.out.cell
      refine bodyPost_ret (v := .agg #[.int .i64 10, .string ⟨#[]⟩, .int .i64 0, .int .i64 0, .int .i64 lo, .int .i64 hi, .slice (some ⟨wa.heap.size, 0, none⟩) 1 1, .int .i64 (k2), .int .i64 er]) (by simp [results, Tryd.results80, go_sem, HS]) rfl ?_
      exact ⟨nd1 10 lo hi, _, 1, 1, k2, rfl, he, hk2, hr2, own9 HFB.out HF9.out⟩
    | ok x ks r =>
      obtain ⟨k5, hk5, rfl⟩ := lev_pos ht hk4 hq
      have HLV := Lib.hid (fun X (hf : Fr Nob W X) => un_ok hun hk4 hq hk5 (ki := (k4 : Int)) rfl X (h.pure hf))
      rw [show ∀ g, (PR.ok x ks (remT toks k5)).bind g = g x ks (remT toks k5) from fun _ => rfl]
      clear h hne hq hun h1 h2 h3 hs
      unfold RRes rval at *
      go_enter Tryd.func80, Tryd.ntmps80
      go_upto_region 13 with (first
        | ((go_at_call 82); (with_reducible refine (HSG.out _ ((Fr.refl _ _).alloc _)).mono ?_); rintro en w1 ⟨rfl, rfl⟩)
        | ((go_at_call 82); (with_reducible refine (HSGF.out _ HFR.out).mono ?_); rintro en w1 ⟨rfl, rfl⟩)
        | ((go_at_call 82); (with_reducible refine (HSGG.out _ HFR.out).mono ?_); rintro en w1 ⟨rfl, rfl⟩)
        | ((go_at_call 84); (with_reducible refine (HSP.out _ HFR.out).mono ?_); rintro en w2 ⟨rfl, hf2⟩; replace HZ := Lib.hid (HZ.out.fr hf2 (fun e => e)); replace HFR := Lib.hid (HFR.out.call hf2 (fun _ h _ => h)); replace zc := HZ.out.cell; replace zf := HZ.out.frozen; replace zl := HZ.out.lt; clear hf2)
        | ((go_at_call 80); (with_reducible refine (HLV.out _ HFR.out).mono ?_); rintro en w2 ⟨B, d, f, rfl, htr, hsl, hf2⟩; replace HZ := Lib.hid (HZ.out.fr hf2 (fun e => e)); have HSZ := Lib.hid (Nat.le_trans (Nat.succ_le_of_lt zl) hf2.size); have HSL := Lib.hid (slp_up (M := W.heap.size + 1) hsl (Nat.succ_le_of_lt zl)); replace HFR := Lib.hid (HFR.out.call hf2 (fun _ h _ => h)); have HTR := Lib.hid htr; replace zc := HZ.out.cell; replace zf := HZ.out.frozen; replace zl := HZ.out.lt; clear hf2 htr hsl)
        )
      obtain ⟨wa, hwa⟩ : ∃ wa, w2.alloc (.cells #[.int .i64 x.op, .string x.name, .int .i64 x.cmp, .int .i64 x.val, .int .i64 x.lo, .int .i64 x.hi, .slice B f.len d, .int .i64 k5, .int .i64 0] 97) = wa := ⟨_, rfl⟩
      have hfa : Fr Nob w2 wa := by rw [← hwa]; exact (Fr.refl _ _).alloc _
      have hXA : Blk wa w2.heap.size 97 #[.int .i64 x.op, .string x.name, .int .i64 x.cmp, .int .i64 x.val, .int .i64 x.lo, .int .i64 x.hi, .slice B f.len d, .int .i64 k5, .int .i64 0] := by rw [← hwa]; exact Blk.new _ _ _
      rw [hwa]
      have hGZ : w2.heap.size ≠ W.heap.size := by omega
      replace HZ := Lib.hid (HZ.out.fr hfa (fun e => e))
      replace HFR := Lib.hid (HFR.out.call hfa (fun _ h _ => h))
      have HFA := Lib.hid hfa
      have HX := Lib.hid hXA
      replace zc := HZ.out.cell
      replace zf := HZ.out.frozen
      replace zl := HZ.out.lt
      have xc := HX.out.cell
      have xf := HX.out.frozen
      have xl := HX.out.lt
      clear hwa hfa hXA
      go_upto_region 14 with fail
      have hs7 := set7_fr wa w2.heap.size (.int .i64 10) (.string ⟨#[]⟩) (.int .i64 0) (.int .i64 0) (.int .i64 lo) (.int .i64 hi) (.slice (some ⟨wa.heap.size, 0, none⟩) 1 1)
      have hsz7 := set7_size wa w2.heap.size (.int .i64 10) (.string ⟨#[]⟩) (.int .i64 0) (.int .i64 0) (.int .i64 lo) (.int .i64 hi) (.slice (some ⟨wa.heap.size, 0, none⟩) 1 1)
      have hxb := set7_blk9 HX.out (.int .i64 10) (.string ⟨#[]⟩) (.int .i64 0) (.int .i64 0) (.int .i64 lo) (.int .i64 hi) (.slice (some ⟨wa.heap.size, 0, none⟩) 1 1)
      obtain ⟨w7, hw7⟩ : ∃ w7, set7 wa w2.heap.size (.int .i64 10) (.string ⟨#[]⟩) (.int .i64 0) (.int .i64 0) (.int .i64 lo) (.int .i64 hi) (.slice (some ⟨wa.heap.size, 0, none⟩) 1 1) = w7 := ⟨_, rfl⟩
      rw [hw7] at hs7 hsz7 hxb
      unfold set7 at hw7
      rw [hw7]
      obtain ⟨wb, hwb⟩ : ∃ wb, w7.alloc (.cells #[.int .i64 x.op, .string x.name, .int .i64 x.cmp, .int .i64 x.val, .int .i64 x.lo, .int .i64 x.hi, .slice B f.len d] 34) = wb := ⟨_, rfl⟩
      have hf7 : Fr Nob w7 wb := by rw [← hwb]; exact (Fr.refl _ _).alloc _
      have hkb : Blk wb wa.heap.size 34 #[.int .i64 x.op, .string x.name, .int .i64 x.cmp, .int .i64 x.val, .int .i64 x.lo, .int .i64 x.hi, .slice B f.len d] := by rw [← hwb]; exact Blk.new_eq hsz7.symm
      have hzb := (HZ.out.fr hs7 (by unfold Only; omega)).fr hf7 (fun e => e)
      replace hxb := hxb.fr hf7 (fun e => e)
      have hfw : Fr Nob w2 wb := (HFA.out.call hs7 (fun i hi hlt => by unfold Only at hi; omega)).call hf7 (fun _ h _ => h)
      have hfb : Fr Nob W wb := (HFR.out.call hs7 (fun i hi hlt => by have := HSZ.out; unfold Only at hi; omega)).call hf7 (fun _ h _ => h)
      rw [hwb]
      replace HX := Lib.hid hxb
      replace HZ := Lib.hid hzb
      have HK := Lib.hid hkb
      have HFB := Lib.hid hfb
      have HFW := Lib.hid hfw
      replace zc := HZ.out.cell
      replace zf := HZ.out.frozen
      replace zl := HZ.out.lt
      replace xc := HX.out.cell
      replace xf := HX.out.frozen
      replace xl := HX.out.lt
      clear hwb hs7 hsz7 hxb hkb hzb hfw hfb hw7 hf7
      go_wp2_with fail
      have HB9 := Lib.hid (set9c_blk HZ.out (.int .i64 10) (.string ⟨#[]⟩) (.int .i64 0) (.int .i64 0) (.int .i64 lo) (.int .i64 hi) (.slice (some ⟨wa.heap.size, 0, none⟩) 1 1) (.int .i64 (k5)) (.int .i64 0))
      have HF9 := Lib.hid (set9c_fr wb W.heap.size (.int .i64 10) (.string ⟨#[]⟩) (.int .i64 0) (.int .i64 0) (.int .i64 lo) (.int .i64 hi) (.slice (some ⟨wa.heap.size, 0, none⟩) 1 1) (.int .i64 (k5)) (.int .i64 0))
      change bodyPost _ _ _ _ _ (set9c wb W.heap.size (.int .i64 10) (.string ⟨#[]⟩) (.int .i64 0) (.int .i64 0) (.int .i64 lo) (.int .i64 hi) (.slice (some ⟨wa.heap.size, 0, none⟩) 1 1) (.int .i64 (k5)) (.int .i64 0))
      generalize set9c wb W.heap.size (.int .i64 10) (.string ⟨#[]⟩) (.int .i64 0) (.int .i64 0) (.int .i64 lo) (.int .i64 hi) (.slice (some ⟨wa.heap.size, 0, none⟩) 1 1) (.int .i64 (k5)) (.int .i64 0) = W9 at *
      have HS := HB9.out.cell
      refine bodyPost_ret (v := .agg #[.int .i64 10, .string ⟨#[]⟩, .int .i64 0, .int .i64 0, .int .i64 lo, .int .i64 hi, .slice (some ⟨wa.heap.size, 0, none⟩) 1 1, .int .i64 (k5), .int .i64 0]) (by simp [results, Tryd.results80, go_sem, HS]) rfl ?_
      exact ⟨_, 1, .cons x B d f .nil, k5, rfl, hk5, rfl, by simp [Fo.tr, one, HTR.out], slp_done HSL.out HFW.out HK.out (by have := HSZ.out; have := HFA.out.size; omega) HF9.out, own9 HFB.out HF9.out⟩
set_option maxRecDepth 100000 in
set_option maxHeartbeats 4000000 in
theorem rf_unary (A : Option Addr) (c : Nat) (toks : List (TK × Nat)) (ht : Toks toks) (n : Nat) (hun : UnOk A c toks (gP n)) (hlev : LevOk A c toks 7 (gP n)) : UnOk A c toks (gP (n + 1)) := by
  intro W k h hk hne
  rw [show gP (n + 1) (.lev 6 (remT toks k)) = if sgn (remT toks k) [33] then (gP n (.lev 6 (remT toks k).tail)).bind fun y js r => .ok (nd1 4 0 0) (one y js) r
    else if sgn (remT toks k) [70] then (spanP (remT toks k).tail).bind fun lo hi r => (gP n (.lev 6 r)).bind fun y js r2 => .ok (nd1 9 lo hi) (one y js) r2
    else if sgn (remT toks k) [71] then (spanP (remT toks k).tail).bind fun lo hi r => (gP n (.lev 6 r)).bind fun y js r2 => .ok (nd1 10 lo hi) (one y js) r2
    else gP n (.lev 7 (remT toks k)) from rfl] at hne ⊢
  rw [sgn_rem hk, sgn_rem hk, sgn_rem hk, remT_tail] at hne ⊢
  cases h1 : tsg toks[k] [33]
  · rw [h1, if_neg (by simp)] at hne
    rw [if_neg (by simp)]
    cases h2 : tsg toks[k] [70]
    · rw [h2, if_neg (by simp)] at hne
      rw [if_neg (by simp)]
      cases h3 : tsg toks[k] [71]
      · rw [h3, if_neg (by simp)] at hne
        rw [if_neg (by simp)]
        have hk6 : (k : Int) ≤ 600 := by have := ht.few; omega
        have HSG := Lib.hid (fun X (hf : Fr Nob W X) => rf_sign X A c toks k (h.pure hf) hk [33])
        have HSGF := Lib.hid (fun X (hf : Fr Nob W X) => rf_sign X A c toks k (h.pure hf) hk [70])
        have HSGG := Lib.hid (fun X (hf : Fr Nob W X) => rf_sign X A c toks k (h.pure hf) hk [71])
        rw [h1] at HSG
        rw [h2] at HSGF
        rw [h3] at HSGG
        have HZ := Lib.hid (Blk.new W 97 z9)
        have HFR := Lib.hid ((Fr.refl Nob W).alloc (.cells z9 97))
        unfold z9 at HZ HFR
        have zc := HZ.out.cell
        have zf := HZ.out.frozen
        have zl := HZ.out.lt
        cases hq : gP n (.lev 7 (remT toks k)) with
        | out => exact absurd hq hne
        | bad er r =>
          have HLV := Lib.hid (fun X (hf : Fr Nob W X) => lv_bad hlev hk hq (li := 7) (ki := (k : Int)) (by omega) rfl X (h.pure hf))
          clear h hne hq hun h1 h2 h3 hlev
          unfold RRes rval at *
          go_enter Tryd.func80, Tryd.ntmps80
          go_wp2_with (first
            | ((go_at_call 82); (with_reducible refine (HSG.out _ ((Fr.refl _ _).alloc _)).mono ?_); rintro en w1 ⟨rfl, rfl⟩)
            | ((go_at_call 82); (with_reducible refine (HSGF.out _ HFR.out).mono ?_); rintro en w1 ⟨rfl, rfl⟩)
            | ((go_at_call 82); (with_reducible refine (HSGG.out _ HFR.out).mono ?_); rintro en w1 ⟨rfl, rfl⟩)
            | ((go_at_call 49); (with_reducible refine (HLV.out _ HFR.out).mono ?_); rintro en w2 ⟨x, B, m, d, k2, rfl, he, hk2, hr2, hf2⟩; replace HZ := Lib.hid (HZ.out.fr hf2 (fun e => e)); replace HFR := Lib.hid (HFR.out.call hf2 (fun _ h _ => h)); replace zc := HZ.out.cell; replace zf := HZ.out.frozen; replace zl := HZ.out.lt; clear hf2)
            )
          have HB9 := Lib.hid (set9c_blk HZ.out (.int .i64 x.op) (.string x.name) (.int .i64 x.cmp) (.int .i64 x.val) (.int .i64 x.lo) (.int .i64 x.hi) (.slice B m d) (.int .i64 (k2)) (.int .i64 er))
          have HF9 := Lib.hid (set9c_fr w2 W.heap.size (.int .i64 x.op) (.string x.name) (.int .i64 x.cmp) (.int .i64 x.val) (.int .i64 x.lo) (.int .i64 x.hi) (.slice B m d) (.int .i64 (k2)) (.int .i64 er))
          change bodyPost _ _ _ _ _ (set9c w2 W.heap.size (.int .i64 x.op) (.string x.name) (.int .i64 x.cmp) (.int .i64 x.val) (.int .i64 x.lo) (.int .i64 x.hi) (.slice B m d) (.int .i64 (k2)) (.int .i64 er))
          generalize set9c w2 W.heap.size (.int .i64 x.op) (.string x.name) (.int .i64 x.cmp) (.int .i64 x.val) (.int .i64 x.lo) (.int .i64 x.hi) (.slice B m d) (.int .i64 (k2)) (.int .i64 er) = W9 at *
          have HS := HB9.out.cell
          refine bodyPost_ret (v := .agg #[.int .i64 x.op, .string x.name, .int .i64 x.cmp, .int .i64 x.val, .int .i64 x.lo, .int .i64 x.hi, .slice B m d, .int .i64 (k2), .int .i64 er]) (by simp [results, Tryd.results80, go_sem, HS]) rfl ?_
          exact ⟨x, B, m, d, k2, rfl, he, hk2, hr2, own9 HFR.out HF9.out⟩
        | ok x ks r =>
          obtain ⟨k5, hk5, rfl⟩ := lev_pos ht hk hq
          have HLV := Lib.hid (fun X (hf : Fr Nob W X) => lv_ok hlev hk hq hk5 (li := 7) (ki := (k : Int)) (by omega) rfl X (h.pure hf))
          clear h hne hq hun h1 h2 h3 hlev
          unfold RRes rval at *
          go_enter Tryd.func80, Tryd.ntmps80
          go_wp2_with (first
            | ((go_at_call 82); (with_reducible refine (HSG.out _ ((Fr.refl _ _).alloc _)).mono ?_); rintro en w1 ⟨rfl, rfl⟩)
            | ((go_at_call 82); (with_reducible refine (HSGF.out _ HFR.out).mono ?_); rintro en w1 ⟨rfl, rfl⟩)
            | ((go_at_call 82); (with_reducible refine (HSGG.out _ HFR.out).mono ?_); rintro en w1 ⟨rfl, rfl⟩)
            | ((go_at_call 49); (with_reducible refine (HLV.out _ HFR.out).mono ?_); rintro en w2 ⟨B, d, f, rfl, htr, hsl, hf2⟩; replace HZ := Lib.hid (HZ.out.fr hf2 (fun e => e)); have HSL := Lib.hid (slp_up (M := W.heap.size + 1) hsl (Nat.succ_le_of_lt zl)); replace HFR := Lib.hid (HFR.out.call hf2 (fun _ h _ => h)); have HTR := Lib.hid htr; replace zc := HZ.out.cell; replace zf := HZ.out.frozen; replace zl := HZ.out.lt; clear hf2 htr hsl)
            )
          have HB9 := Lib.hid (set9c_blk HZ.out (.int .i64 x.op) (.string x.name) (.int .i64 x.cmp) (.int .i64 x.val) (.int .i64 x.lo) (.int .i64 x.hi) (.slice B f.len d) (.int .i64 (k5)) (.int .i64 0))
          have HF9 := Lib.hid (set9c_fr w2 W.heap.size (.int .i64 x.op) (.string x.name) (.int .i64 x.cmp) (.int .i64 x.val) (.int .i64 x.lo) (.int .i64 x.hi) (.slice B f.len d) (.int .i64 (k5)) (.int .i64 0))
          change bodyPost _ _ _ _ _ (set9c w2 W.heap.size (.int .i64 x.op) (.string x.name) (.int .i64 x.cmp) (.int .i64 x.val) (.int .i64 x.lo) (.int .i64 x.hi) (.slice B f.len d) (.int .i64 (k5)) (.int .i64 0))
          generalize set9c w2 W.heap.size (.int .i64 x.op) (.string x.name) (.int .i64 x.cmp) (.int .i64 x.val) (.int .i64 x.lo) (.int .i64 x.hi) (.slice B f.len d) (.int .i64 (k5)) (.int .i64 0) = W9 at *
          have HS := HB9.out.cell
          refine bodyPost_ret (v := .agg #[.int .i64 x.op, .string x.name, .int .i64 x.cmp, .int .i64 x.val, .int .i64 x.lo, .int .i64 x.hi, .slice B f.len d, .int .i64 (k5), .int .i64 0]) (by simp [results, Tryd.results80, go_sem, HS]) rfl ?_
          exact ⟨B, d, f, k5, rfl, hk5, rfl, HTR.out, slp_end HSL.out HF9.out, own9 HFR.out HF9.out⟩
      · rw [h3, if_pos rfl] at hne
        rw [if_pos rfl]
        exact rf_G A c toks ht n hun W k h hk h1 h2 h3 hne
    · rw [h2, if_pos rfl] at hne
      rw [if_pos rfl]
      exact rf_F A c toks ht n hun W k h hk h1 h2 (sgn_same h2 (by decide)) hne
  · rw [h1, if_pos rfl] at hne
    rw [if_pos rfl]
    exact rf_not A c toks ht n hun W k h hk h1 hne
end Go.Proofs.YtfebkjoohnlifaaDoor
