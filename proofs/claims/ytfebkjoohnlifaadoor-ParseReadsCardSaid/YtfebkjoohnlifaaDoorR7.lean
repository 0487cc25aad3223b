/- The reference's parse: levels 2, 5, 6, 7. -/
import Derived.Test.YtfebkjoohnlifaaDoorR3
import Derived.Test.YtfebkjoohnlifaaDoorQ8
namespace Go.Proofs.YtfebkjoohnlifaaDoor
open Go.RowKit Go.Shelf
attribute [local go_sem] Instr.field asAgg

theorem sl_lt {p : Nat → Prop} {w w2 : World} {B : Option Addr} {d : Nat} {f : Fo} {M : Nat} (h : FoSlP p w B d f) (hf : Fr Nob w w2) (hM : w.heap.size ≤ M) : FoSlP (fun k => p k ∧ k < M) w2 B d f :=
  sl_fr (h.lt.mono (fun _ hk => ⟨hk.1, Nat.lt_of_lt_of_le hk.2 hM⟩)) hf (fun _ _ e => e)
/-- Behind the sign: the second side read into a box at Q. -/
theorem pair_end {W w3 w7 W9 : World} {Q hh : Nat} {x y : Nd} {B C : Option Addr} {d e : Nat} {f g : Fo}
    (hp : FoSlP (fun k => W.heap.size + 1 ≤ k ∧ k < Q) w3 B d f) (hq : FoSlP (fun k => W.heap.size + 1 ≤ k ∧ k < Q) w3 C e g) (hgb : Blk w3 hh 34 (pairC x B f.len d y C g.len e)) (hgw : Q + 1 ≤ hh) (hQ : W.heap.size + 1 ≤ Q)
    (h7 : Fr (Only Q) w3 w7) (h9 : Fr (Only W.heap.size) w7 W9) : FoSlP (fun b => W.heap.size ≤ b) W9 (some ⟨hh, 0, none⟩) 2 (.cons x B d f (.cons y C e g .nil)) := by
  have s1 : FoSlP (fun k => W.heap.size + 1 ≤ k) w7 B d f := (sl_fr hp h7 (fun k hk => by have := hk.2; unfold Only; omega)).mono (fun k hk => hk.1)
  have s2 : FoSlP (fun k => W.heap.size + 1 ≤ k) w7 C e g := (sl_fr hq h7 (fun k hk => by have := hk.2; unfold Only; omega)).mono (fun k hk => hk.1)
  exact slp_up (slp_fr1 (kids_two' (hgb.fr h7 (by unfold Only; omega)) s1 s2 (by omega)) h9 (by omega)) (by omega)
set_option maxRecDepth 100000 in
set_option maxHeartbeats 4000000 in
theorem lev_2 (A : Option Addr) (c : Nat) (toks : List (TK × Nat)) (ht : Toks toks) (n : Nat) (hone : LevOk A c toks 3 (gP n)) (hsame : LevOk A c toks 2 (gP n)) : LevOk A c toks 2 (gP (n + 1)) := by
  intro W k h hk hne
  rw [show gP (n + 1) (.lev 2 (remT toks k)) = (gP n (.lev 3 (remT toks k))).bind fun x ks r => if sgn r [45, 62] then (gP n (.lev 2 r.tail)).bind fun y js r2 => .ok (nd1 7 0 0) (two x ks y js) r2 else .ok x ks r from rfl] at hne ⊢
  have hk6 : (k : Int) ≤ 600 := by have := ht.few; omega
  have HZ := Lib.hid (Blk.new W 97 z9)
  have HFR := Lib.hid ((Fr.refl Nob W).alloc (.cells z9 97))
  unfold z9 at HZ HFR
  have zc := HZ.out.cell
  have zf := HZ.out.frozen
  have zl := HZ.out.lt
  cases hq : gP n (.lev 3 (remT toks k)) with
  | out => rw [hq] at hne; exact absurd rfl hne
  | bad er r =>
    have HLV := Lib.hid (fun X (hf : Fr Nob W X) => lv_bad hone hk hq (li := 3) (ki := (k : Int)) (by omega) rfl X (h.pure hf))
    rw [show ∀ g, (PR.bad er r).bind g = .bad er r from fun _ => rfl]
    clear h hne hq hone hsame
    unfold RRes rval at *
    go_enter Tryd.func49, Tryd.ntmps49
    go_upto_region 6 with (first
      | ((go_at_call 49); (with_reducible refine (HLV.out _ HFR.out).mono ?_); rintro en w2 ⟨x, B, m, d, k2, rfl, he, hk2, hr2, hf2⟩; replace HZ := Lib.hid (HZ.out.fr hf2 (fun e => e)); replace HFR := Lib.hid (HFR.out.call hf2 (fun _ h _ => h)); replace zc := HZ.out.cell; replace zf := HZ.out.frozen; replace zl := HZ.out.lt; clear hf2)
      )
    have he2 : (er != 0) = true := by simpa using he
    obtain ⟨wa, hwa⟩ : ∃ wa, w2.alloc (.cells #[.int .i64 x.op, .string x.name, .int .i64 x.cmp, .int .i64 x.val, .int .i64 x.lo, .int .i64 x.hi, .slice B m d, .int .i64 k2, .int .i64 er] 97) = wa := ⟨_, rfl⟩
    have hfa : Fr Nob w2 wa := by rw [← hwa]; exact (Fr.refl _ _).alloc _
    have hXA : Blk wa w2.heap.size 97 #[.int .i64 x.op, .string x.name, .int .i64 x.cmp, .int .i64 x.val, .int .i64 x.lo, .int .i64 x.hi, .slice B m d, .int .i64 k2, .int .i64 er] := by rw [← hwa]; exact Blk.new _ _ _
    rw [hwa]
    have hGZ : w2.heap.size ≠ W.heap.size := by omega
    replace HZ := Lib.hid (HZ.out.fr hfa (fun e => e))
    replace HFR := Lib.hid (HFR.out.call hfa (fun _ h _ => h))
    have HFA := Lib.hid hfa
    have HX := Lib.hid hXA
    replace zc := HZ.out.cell
    replace zf := HZ.out.frozen
    replace zl := HZ.out.lt
    have xc := HX.out.cell
    have xf := HX.out.frozen
    have xl := HX.out.lt
    clear hwa hfa hXA
    go_wp2_with fail
    have HB9 := Lib.hid (set9c_blk HZ.out (.int .i64 x.op) (.string x.name) (.int .i64 x.cmp) (.int .i64 x.val) (.int .i64 x.lo) (.int .i64 x.hi) (.slice B m d) (.int .i64 (k2)) (.int .i64 er))
    have HF9 := Lib.hid (set9c_fr wa W.heap.size (.int .i64 x.op) (.string x.name) (.int .i64 x.cmp) (.int .i64 x.val) (.int .i64 x.lo) (.int .i64 x.hi) (.slice B m d) (.int .i64 (k2)) (.int .i64 er))
    change bodyPost _ _ _ _ _ (set9c wa W.heap.size (.int .i64 x.op) (.string x.name) (.int .i64 x.cmp) (.int .i64 x.val) (.int .i64 x.lo) (.int .i64 x.hi) (.slice B m d) (.int .i64 (k2)) (.int .i64 er))
    generalize set9c wa W.heap.size (.int .i64 x.op) (.string x.name) (.int .i64 x.cmp) (.int .i64 x.val) (.int .i64 x.lo) (.int .i64 x.hi) (.slice B m d) (.int .i64 (k2)) (.int .i64 er) = W9 at *
    have HS := HB9.out.cell
    refine bodyPost_ret (v := .agg #[.int .i64 x.op, .string x.name, .int .i64 x.cmp, .int .i64 x.val, .int .i64 x.lo, .int .i64 x.hi, .slice B m d, .int .i64 (k2), .int .i64 er]) (by simp [results, Tryd.results49, go_sem, HS]) rfl ?_
    exact ⟨x, B, m, d, k2, rfl, he, hk2, hr2, own9 HFR.out HF9.out⟩
  | ok x ks r =>
    obtain ⟨k1, hk1, rfl⟩ := lev_pos ht hk hq
    have hk16 : (k1 : Int) ≤ 600 := by have := ht.few; omega
    have HLV := Lib.hid (fun X (hf : Fr Nob W X) => lv_ok hone hk hq hk1 (li := 3) (ki := (k : Int)) (by omega) rfl X (h.pure hf))
    have HSG := Lib.hid (fun X (hf : Fr Nob W X) => rf_sign X A c toks k1 (h.pure hf) hk1 [45, 62])
    rw [hq] at hne
    rw [show ∀ g, (PR.ok x ks (remT toks k1)).bind g = g x ks (remT toks k1) from fun _ => rfl] at hne ⊢
    simp only [sgn_rem hk1, remT_tail] at hne ⊢
    cases hs : tsg toks[k1] [45, 62]
    · rw [hs] at HSG
      rw [if_neg (by simp)]
      clear h hne hq hone hsame hs
      unfold RRes rval at *
      go_enter Tryd.func49, Tryd.ntmps49
      go_upto_region 6 with (first
        | ((go_at_call 49); (with_reducible refine (HLV.out _ HFR.out).mono ?_); rintro en w2 ⟨B, d, f, rfl, htr, hsl, hf2⟩; replace HZ := Lib.hid (HZ.out.fr hf2 (fun e => e)); have HSL := Lib.hid (slp_up (M := W.heap.size + 1) hsl (Nat.succ_le_of_lt zl)); have HSZ := Lib.hid (Nat.le_trans (Nat.succ_le_of_lt zl) hf2.size); replace HFR := Lib.hid (HFR.out.call hf2 (fun _ h _ => h)); have HTR := Lib.hid htr; replace zc := HZ.out.cell; replace zf := HZ.out.frozen; replace zl := HZ.out.lt; clear hf2 htr hsl)
        )
      obtain ⟨wa, hwa⟩ : ∃ wa, w2.alloc (.cells #[.int .i64 x.op, .string x.name, .int .i64 x.cmp, .int .i64 x.val, .int .i64 x.lo, .int .i64 x.hi, .slice B f.len d, .int .i64 k1, .int .i64 0] 97) = wa := ⟨_, rfl⟩
      have hfa : Fr Nob w2 wa := by rw [← hwa]; exact (Fr.refl _ _).alloc _
      have hXA : Blk wa w2.heap.size 97 #[.int .i64 x.op, .string x.name, .int .i64 x.cmp, .int .i64 x.val, .int .i64 x.lo, .int .i64 x.hi, .slice B f.len d, .int .i64 k1, .int .i64 0] := by rw [← hwa]; exact Blk.new _ _ _
      rw [hwa]
      have hGZ : w2.heap.size ≠ W.heap.size := by omega
      replace HZ := Lib.hid (HZ.out.fr hfa (fun e => e))
      replace HFR := Lib.hid (HFR.out.call hfa (fun _ h _ => h))
      have HFA := Lib.hid hfa
      have HX := Lib.hid hXA
      replace zc := HZ.out.cell
      replace zf := HZ.out.frozen
      replace zl := HZ.out.lt
      have xc := HX.out.cell
      have xf := HX.out.frozen
      have xl := HX.out.lt
      clear hwa hfa hXA
      have HPS := Lib.hid (slp_fr HSL.out HFA.out)
      have hWG : W.heap.size + 1 ≤ w2.heap.size := HSZ.out
      clear HSL HFA HLV
      generalize w2.heap.size = G at *
      go_wp2_with (first
        | ((go_at_call 82); (with_reducible refine (HSG.out _ HFR.out).mono ?_); rintro en w5 ⟨rfl, hw5⟩; obtain rfl := hw5)
        )
      go_loopw [17] (fun _ wr => Hid (wr = w5)) (fun _ _ => 0)
      case atStart => exact Lib.hid rfl
      case round =>
        obtain rfl := hrel.out
        go_wp2_with fail
        have HB9 := Lib.hid (set9c_blk HZ.out (.int .i64 x.op) (.string x.name) (.int .i64 x.cmp) (.int .i64 x.val) (.int .i64 x.lo) (.int .i64 x.hi) (.slice B f.len d) (.int .i64 (k1)) (.int .i64 0))
        have HF9 := Lib.hid (set9c_fr wr W.heap.size (.int .i64 x.op) (.string x.name) (.int .i64 x.cmp) (.int .i64 x.val) (.int .i64 x.lo) (.int .i64 x.hi) (.slice B f.len d) (.int .i64 (k1)) (.int .i64 0))
        change bodyPost _ _ _ _ _ (set9c wr W.heap.size (.int .i64 x.op) (.string x.name) (.int .i64 x.cmp) (.int .i64 x.val) (.int .i64 x.lo) (.int .i64 x.hi) (.slice B f.len d) (.int .i64 (k1)) (.int .i64 0))
        generalize set9c wr W.heap.size (.int .i64 x.op) (.string x.name) (.int .i64 x.cmp) (.int .i64 x.val) (.int .i64 x.lo) (.int .i64 x.hi) (.slice B f.len d) (.int .i64 (k1)) (.int .i64 0) = W9 at *
        have HS := HB9.out.cell
        refine bodyPost_ret (v := .agg #[.int .i64 x.op, .string x.name, .int .i64 x.cmp, .int .i64 x.val, .int .i64 x.lo, .int .i64 x.hi, .slice B f.len d, .int .i64 (k1), .int .i64 0]) (by simp [results, Tryd.results49, go_sem, HS]) rfl ?_
        exact ⟨B, d, f, k1, rfl, hk1, rfl, HTR.out, slp_up (slp_fr1 HPS.out HF9.out (by omega)) (by omega), own9 HFR.out HF9.out⟩
    · rw [hs, if_pos rfl] at hne
      rw [if_pos rfl]
      rw [hs] at HSG
      have hk3 := next_lt ht hk1 (tsg_kind hs)
      cases hq2 : gP n (.lev 2 (remT toks (k1 + 1))) with
      | out => rw [hq2] at hne; exact absurd rfl hne
      | bad er r =>
        have HL2 := Lib.hid (fun X (hf : Fr Nob W X) => lv_bad hsame hk3 hq2 (li := 2) (ki := (k1 : Int) + 1) (by omega) (by omega) X (h.pure hf))
        rw [show ∀ g, (PR.bad er r).bind g = .bad er r from fun _ => rfl]
        have HTW := Lib.hid (fun X B n d y C m e => rf_two X 7 0 0 x B n d y C m e)
        unfold fval nd1 at HTW
        clear h hne hq hone hsame hs hq2
        unfold RRes rval at *
        go_enter Tryd.func49, Tryd.ntmps49
        go_upto_region 6 with (first
          | ((go_at_call 49); (with_reducible refine (HLV.out _ HFR.out).mono ?_); rintro en w2 ⟨B, d, f, rfl, htr, hsl, hf2⟩; replace HZ := Lib.hid (HZ.out.fr hf2 (fun e => e)); have HSL := Lib.hid (slp_up (M := W.heap.size + 1) hsl (Nat.succ_le_of_lt zl)); have HSZ := Lib.hid (Nat.le_trans (Nat.succ_le_of_lt zl) hf2.size); replace HFR := Lib.hid (HFR.out.call hf2 (fun _ h _ => h)); have HTR := Lib.hid htr; replace zc := HZ.out.cell; replace zf := HZ.out.frozen; replace zl := HZ.out.lt; clear hf2 htr hsl)
          )
        obtain ⟨wa, hwa⟩ : ∃ wa, w2.alloc (.cells #[.int .i64 x.op, .string x.name, .int .i64 x.cmp, .int .i64 x.val, .int .i64 x.lo, .int .i64 x.hi, .slice B f.len d, .int .i64 k1, .int .i64 0] 97) = wa := ⟨_, rfl⟩
        have hfa : Fr Nob w2 wa := by rw [← hwa]; exact (Fr.refl _ _).alloc _
        have hXA : Blk wa w2.heap.size 97 #[.int .i64 x.op, .string x.name, .int .i64 x.cmp, .int .i64 x.val, .int .i64 x.lo, .int .i64 x.hi, .slice B f.len d, .int .i64 k1, .int .i64 0] := by rw [← hwa]; exact Blk.new _ _ _
        rw [hwa]
        have hGZ : w2.heap.size ≠ W.heap.size := by omega
        replace HZ := Lib.hid (HZ.out.fr hfa (fun e => e))
        replace HFR := Lib.hid (HFR.out.call hfa (fun _ h _ => h))
        have HFA := Lib.hid hfa
        have HX := Lib.hid hXA
        replace zc := HZ.out.cell
        replace zf := HZ.out.frozen
        replace zl := HZ.out.lt
        have xc := HX.out.cell
        have xf := HX.out.frozen
        have xl := HX.out.lt
        clear hwa hfa hXA
        have HPS := Lib.hid (slp_fr HSL.out HFA.out)
        have hWG : W.heap.size + 1 ≤ w2.heap.size := HSZ.out
        clear HSL HFA HLV
        generalize w2.heap.size = G at *
        go_upto_region 10 with (first
          | ((go_at_call 82); (with_reducible refine (HSG.out _ HFR.out).mono ?_); rintro en w5 ⟨rfl, hw5⟩; obtain rfl := hw5)
          | ((go_at_call 49); (with_reducible refine (HL2.out _ HFR.out).mono ?_); rintro en w4 ⟨y, C, m, e, k2, rfl, he, hk2, hr2, hf4⟩; have hlt5 := hf4.size; replace HZ := Lib.hid (HZ.out.fr hf4 (fun e => e)); replace HX := Lib.hid (HX.out.fr hf4 (fun e => e)); replace HPS := Lib.hid (slp_fr HPS.out hf4); replace HFR := Lib.hid (HFR.out.call hf4 (fun _ h _ => h)); replace zc := HZ.out.cell; replace zf := HZ.out.frozen; replace zl := HZ.out.lt; replace xc := HX.out.cell; replace xf := HX.out.frozen; replace xl := HX.out.lt; clear hf4)
          )
        obtain ⟨wq, hwq⟩ : ∃ wq, w4.alloc (.cells #[.int .i64 y.op, .string y.name, .int .i64 y.cmp, .int .i64 y.val, .int .i64 y.lo, .int .i64 y.hi, .slice C m e, .int .i64 k2, .int .i64 er] 97) = wq := ⟨_, rfl⟩
        have hfq : Fr Nob w4 wq := by rw [← hwq]; exact (Fr.refl _ _).alloc _
        have hqb : Blk wq w4.heap.size 97 #[.int .i64 y.op, .string y.name, .int .i64 y.cmp, .int .i64 y.val, .int .i64 y.lo, .int .i64 y.hi, .slice C m e, .int .i64 k2, .int .i64 er] := by rw [← hwq]; exact Blk.new _ _ _
        rw [hwq]
        have HQB := Lib.hid hqb
        have hQW : W.heap.size + 1 ≤ w4.heap.size := by omega
        have hQG : w4.heap.size ≠ G := by omega
        have hQZ : w4.heap.size ≠ W.heap.size := by omega
        have HPQ := Lib.hid (sl_lt HPS.out hfq (Nat.le_refl _))
        replace HZ := Lib.hid (HZ.out.fr hfq (fun e => e))
        replace HX := Lib.hid (HX.out.fr hfq (fun e => e))
        replace HFR := Lib.hid (HFR.out.call hfq (fun _ h _ => h))
        have HFQ := Lib.hid hfq
        replace zc := HZ.out.cell
        replace zf := HZ.out.frozen
        replace zl := HZ.out.lt
        replace xc := HX.out.cell
        replace xf := HX.out.frozen
        replace xl := HX.out.lt
        have qc := HQB.out.cell
        have qf := HQB.out.frozen
        have ql := HQB.out.lt
        clear hwq hfq hqb
        replace HTW := Lib.hid (fun X => HTW.out X B f.len d y C m e)
        go_upto_region 11 with (first
          | ((go_at_call 83); (with_reducible refine (HTW.out _).mono ?_); rintro en w3 ⟨hh, rfl, hgw, hgb, hf3⟩; have HGB := Lib.hid hgb; have HGW := Lib.hid (Nat.le_trans (Nat.succ_le_of_lt ql) hgw); replace HZ := Lib.hid (HZ.out.fr hf3 (fun e => e)); replace HQB := Lib.hid (HQB.out.fr hf3 (fun e => e)); replace HPQ := Lib.hid (sl_fr HPQ.out hf3 (fun _ _ e => e)); replace HFR := Lib.hid (HFR.out.call hf3 (fun _ h _ => h)); have HF3 := Lib.hid hf3; replace zc := HZ.out.cell; replace zf := HZ.out.frozen; replace zl := HZ.out.lt; replace qc := HQB.out.cell; replace qf := HQB.out.frozen; replace ql := HQB.out.lt; clear hf3 hgb hgw)
          )
        have hs7 := set7_fr w3 w4.heap.size (.int .i64 7) (.string ⟨#[]⟩) (.int .i64 0) (.int .i64 0) (.int .i64 0) (.int .i64 0) (.slice (some ⟨hh, 0, none⟩) 2 2)
        have hqb := set7_blk9 HQB.out (.int .i64 7) (.string ⟨#[]⟩) (.int .i64 0) (.int .i64 0) (.int .i64 0) (.int .i64 0) (.slice (some ⟨hh, 0, none⟩) 2 2)
        obtain ⟨w7, hw7⟩ : ∃ w7, set7 w3 w4.heap.size (.int .i64 7) (.string ⟨#[]⟩) (.int .i64 0) (.int .i64 0) (.int .i64 0) (.int .i64 0) (.slice (some ⟨hh, 0, none⟩) 2 2) = w7 := ⟨_, rfl⟩
        rw [hw7] at hs7 hqb
        unfold set7 at hw7
        rw [hw7]
        replace HQB := Lib.hid hqb
        have HS7 := Lib.hid hs7
        replace HZ := Lib.hid (HZ.out.fr hs7 (by unfold Only; omega))
        replace HFR := Lib.hid (HFR.out.call hs7 (fun i hi hlt => by unfold Only at hi; omega))
        replace zc := HZ.out.cell
        replace zf := HZ.out.frozen
        replace zl := HZ.out.lt
        replace qc := HQB.out.cell
        replace qf := HQB.out.frozen
        replace ql := HQB.out.lt
        clear hw7 hs7 hqb
        go_wp2_with fail
        have HB9 := Lib.hid (set9c_blk HZ.out (.int .i64 7) (.string ⟨#[]⟩) (.int .i64 0) (.int .i64 0) (.int .i64 0) (.int .i64 0) (.slice (some ⟨hh, 0, none⟩) 2 2) (.int .i64 (k2)) (.int .i64 er))
        have HF9 := Lib.hid (set9c_fr w7 W.heap.size (.int .i64 7) (.string ⟨#[]⟩) (.int .i64 0) (.int .i64 0) (.int .i64 0) (.int .i64 0) (.slice (some ⟨hh, 0, none⟩) 2 2) (.int .i64 (k2)) (.int .i64 er))
        change bodyPost _ _ _ _ _ (set9c w7 W.heap.size (.int .i64 7) (.string ⟨#[]⟩) (.int .i64 0) (.int .i64 0) (.int .i64 0) (.int .i64 0) (.slice (some ⟨hh, 0, none⟩) 2 2) (.int .i64 (k2)) (.int .i64 er))
        generalize set9c w7 W.heap.size (.int .i64 7) (.string ⟨#[]⟩) (.int .i64 0) (.int .i64 0) (.int .i64 0) (.int .i64 0) (.slice (some ⟨hh, 0, none⟩) 2 2) (.int .i64 (k2)) (.int .i64 er) = W9 at *
        have HS := HB9.out.cell
        refine bodyPost_ret (v := .agg #[.int .i64 7, .string ⟨#[]⟩, .int .i64 0, .int .i64 0, .int .i64 0, .int .i64 0, .slice (some ⟨hh, 0, none⟩) 2 2, .int .i64 (k2), .int .i64 er]) (by simp [results, Tryd.results49, go_sem, HS]) rfl ?_
        exact ⟨nd1 7 0 0, _, 2, 2, k2, rfl, he, hk2, hr2, own9 HFR.out HF9.out⟩
      | ok y js r =>
        obtain ⟨k4, hk4, rfl⟩ := lev_pos ht hk3 hq2
        have HL2 := Lib.hid (fun X (hf : Fr Nob W X) => lv_ok hsame hk3 hq2 hk4 (li := 2) (ki := (k1 : Int) + 1) (by omega) (by omega) X (h.pure hf))
        rw [show ∀ g, (PR.ok y js (remT toks k4)).bind g = g y js (remT toks k4) from fun _ => rfl]
        have HTW := Lib.hid (fun X B n d C m e => rf_two X 7 0 0 x B n d y C m e)
        unfold fval nd1 at HTW
        clear h hne hq hone hsame hs hq2
        unfold RRes rval at *
        go_enter Tryd.func49, Tryd.ntmps49
        go_upto_region 6 with (first
          | ((go_at_call 49); (with_reducible refine (HLV.out _ HFR.out).mono ?_); rintro en w2 ⟨B, d, f, rfl, htr, hsl, hf2⟩; replace HZ := Lib.hid (HZ.out.fr hf2 (fun e => e)); have HSL := Lib.hid (slp_up (M := W.heap.size + 1) hsl (Nat.succ_le_of_lt zl)); have HSZ := Lib.hid (Nat.le_trans (Nat.succ_le_of_lt zl) hf2.size); replace HFR := Lib.hid (HFR.out.call hf2 (fun _ h _ => h)); have HTR := Lib.hid htr; replace zc := HZ.out.cell; replace zf := HZ.out.frozen; replace zl := HZ.out.lt; clear hf2 htr hsl)
          )
        obtain ⟨wa, hwa⟩ : ∃ wa, w2.alloc (.cells #[.int .i64 x.op, .string x.name, .int .i64 x.cmp, .int .i64 x.val, .int .i64 x.lo, .int .i64 x.hi, .slice B f.len d, .int .i64 k1, .int .i64 0] 97) = wa := ⟨_, rfl⟩
        have hfa : Fr Nob w2 wa := by rw [← hwa]; exact (Fr.refl _ _).alloc _
        have hXA : Blk wa w2.heap.size 97 #[.int .i64 x.op, .string x.name, .int .i64 x.cmp, .int .i64 x.val, .int .i64 x.lo, .int .i64 x.hi, .slice B f.len d, .int .i64 k1, .int .i64 0] := by rw [← hwa]; exact Blk.new _ _ _
        rw [hwa]
        have hGZ : w2.heap.size ≠ W.heap.size := by omega
        replace HZ := Lib.hid (HZ.out.fr hfa (fun e => e))
        replace HFR := Lib.hid (HFR.out.call hfa (fun _ h _ => h))
        have HFA := Lib.hid hfa
        have HX := Lib.hid hXA
        replace zc := HZ.out.cell
        replace zf := HZ.out.frozen
        replace zl := HZ.out.lt
        have xc := HX.out.cell
        have xf := HX.out.frozen
        have xl := HX.out.lt
        clear hwa hfa hXA
        have HPS := Lib.hid (slp_fr HSL.out HFA.out)
        have hWG : W.heap.size + 1 ≤ w2.heap.size := HSZ.out
        clear HSL HFA HLV
        generalize w2.heap.size = G at *
        go_upto_region 10 with (first
          | ((go_at_call 82); (with_reducible refine (HSG.out _ HFR.out).mono ?_); rintro en w5 ⟨rfl, hw5⟩; obtain rfl := hw5)
          | ((go_at_call 49); (with_reducible refine (HL2.out _ HFR.out).mono ?_); rintro en w4 ⟨C, e, g, rfl, htr, hsl, hf4⟩; have hlt5 := hf4.size; have HTR2 := Lib.hid htr; have HSL2 := Lib.hid (slp_up (M := W.heap.size + 1) hsl (Nat.succ_le_of_lt zl)); replace HZ := Lib.hid (HZ.out.fr hf4 (fun e => e)); replace HX := Lib.hid (HX.out.fr hf4 (fun e => e)); replace HPS := Lib.hid (slp_fr HPS.out hf4); replace HFR := Lib.hid (HFR.out.call hf4 (fun _ h _ => h)); replace zc := HZ.out.cell; replace zf := HZ.out.frozen; replace zl := HZ.out.lt; replace xc := HX.out.cell; replace xf := HX.out.frozen; replace xl := HX.out.lt; clear hf4 htr hsl)
          )
        obtain ⟨wq, hwq⟩ : ∃ wq, w4.alloc (.cells #[.int .i64 y.op, .string y.name, .int .i64 y.cmp, .int .i64 y.val, .int .i64 y.lo, .int .i64 y.hi, .slice C g.len e, .int .i64 k4, .int .i64 0] 97) = wq := ⟨_, rfl⟩
        have hfq : Fr Nob w4 wq := by rw [← hwq]; exact (Fr.refl _ _).alloc _
        have hqb : Blk wq w4.heap.size 97 #[.int .i64 y.op, .string y.name, .int .i64 y.cmp, .int .i64 y.val, .int .i64 y.lo, .int .i64 y.hi, .slice C g.len e, .int .i64 k4, .int .i64 0] := by rw [← hwq]; exact Blk.new _ _ _
        rw [hwq]
        have HQB := Lib.hid hqb
        have hQW : W.heap.size + 1 ≤ w4.heap.size := by omega
        have hQG : w4.heap.size ≠ G := by omega
        have hQZ : w4.heap.size ≠ W.heap.size := by omega
        have HPQ := Lib.hid (sl_lt HPS.out hfq (Nat.le_refl _))
        replace HZ := Lib.hid (HZ.out.fr hfq (fun e => e))
        replace HX := Lib.hid (HX.out.fr hfq (fun e => e))
        replace HFR := Lib.hid (HFR.out.call hfq (fun _ h _ => h))
        have HFQ := Lib.hid hfq
        replace zc := HZ.out.cell
        replace zf := HZ.out.frozen
        replace zl := HZ.out.lt
        replace xc := HX.out.cell
        replace xf := HX.out.frozen
        replace xl := HX.out.lt
        have qc := HQB.out.cell
        have qf := HQB.out.frozen
        have ql := HQB.out.lt
        clear hwq hfq hqb
        have HSQ := Lib.hid (sl_lt HSL2.out HFQ.out (Nat.le_refl _))
        replace HTW := Lib.hid (fun X => HTW.out X B f.len d C g.len e)
        go_upto_region 11 with (first
          | ((go_at_call 83); (with_reducible refine (HTW.out _).mono ?_); rintro en w3 ⟨hh, rfl, hgw, hgb, hf3⟩; have HGB := Lib.hid hgb; have HGW := Lib.hid (Nat.le_trans (Nat.succ_le_of_lt ql) hgw); replace HZ := Lib.hid (HZ.out.fr hf3 (fun e => e)); replace HQB := Lib.hid (HQB.out.fr hf3 (fun e => e)); replace HPQ := Lib.hid (sl_fr HPQ.out hf3 (fun _ _ e => e)); replace HFR := Lib.hid (HFR.out.call hf3 (fun _ h _ => h)); have HF3 := Lib.hid hf3; replace zc := HZ.out.cell; replace zf := HZ.out.frozen; replace zl := HZ.out.lt; replace qc := HQB.out.cell; replace qf := HQB.out.frozen; replace ql := HQB.out.lt; clear hf3 hgb hgw)
          )
        replace HSQ := Lib.hid (sl_fr HSQ.out HF3.out (fun _ _ e => e))
        have hs7 := set7_fr w3 w4.heap.size (.int .i64 7) (.string ⟨#[]⟩) (.int .i64 0) (.int .i64 0) (.int .i64 0) (.int .i64 0) (.slice (some ⟨hh, 0, none⟩) 2 2)
        have hqb := set7_blk9 HQB.out (.int .i64 7) (.string ⟨#[]⟩) (.int .i64 0) (.int .i64 0) (.int .i64 0) (.int .i64 0) (.slice (some ⟨hh, 0, none⟩) 2 2)
        obtain ⟨w7, hw7⟩ : ∃ w7, set7 w3 w4.heap.size (.int .i64 7) (.string ⟨#[]⟩) (.int .i64 0) (.int .i64 0) (.int .i64 0) (.int .i64 0) (.slice (some ⟨hh, 0, none⟩) 2 2) = w7 := ⟨_, rfl⟩
        rw [hw7] at hs7 hqb
        unfold set7 at hw7
        rw [hw7]
        replace HQB := Lib.hid hqb
        have HS7 := Lib.hid hs7
        replace HZ := Lib.hid (HZ.out.fr hs7 (by unfold Only; omega))
        replace HFR := Lib.hid (HFR.out.call hs7 (fun i hi hlt => by unfold Only at hi; omega))
        replace zc := HZ.out.cell
        replace zf := HZ.out.frozen
        replace zl := HZ.out.lt
        replace qc := HQB.out.cell
        replace qf := HQB.out.frozen
        replace ql := HQB.out.lt
        clear hw7 hs7 hqb
        go_wp2_with fail
        have HB9 := Lib.hid (set9c_blk HZ.out (.int .i64 7) (.string ⟨#[]⟩) (.int .i64 0) (.int .i64 0) (.int .i64 0) (.int .i64 0) (.slice (some ⟨hh, 0, none⟩) 2 2) (.int .i64 (k4)) (.int .i64 0))
        have HF9 := Lib.hid (set9c_fr w7 W.heap.size (.int .i64 7) (.string ⟨#[]⟩) (.int .i64 0) (.int .i64 0) (.int .i64 0) (.int .i64 0) (.slice (some ⟨hh, 0, none⟩) 2 2) (.int .i64 (k4)) (.int .i64 0))
        change bodyPost _ _ _ _ _ (set9c w7 W.heap.size (.int .i64 7) (.string ⟨#[]⟩) (.int .i64 0) (.int .i64 0) (.int .i64 0) (.int .i64 0) (.slice (some ⟨hh, 0, none⟩) 2 2) (.int .i64 (k4)) (.int .i64 0))
        generalize set9c w7 W.heap.size (.int .i64 7) (.string ⟨#[]⟩) (.int .i64 0) (.int .i64 0) (.int .i64 0) (.int .i64 0) (.slice (some ⟨hh, 0, none⟩) 2 2) (.int .i64 (k4)) (.int .i64 0) = W9 at *
        have HS := HB9.out.cell
        refine bodyPost_ret (v := .agg #[.int .i64 7, .string ⟨#[]⟩, .int .i64 0, .int .i64 0, .int .i64 0, .int .i64 0, .slice (some ⟨hh, 0, none⟩) 2 2, .int .i64 (k4), .int .i64 0]) (by simp [results, Tryd.results49, go_sem, HS]) rfl ?_
        exact ⟨_, 2, .cons x B d f (.cons y C e g .nil), k4, rfl, hk4, rfl, by simp [Fo.tr, two, HTR.out, HTR2.out], pair_end HPQ.out HSQ.out HGB.out HGW.out hQW HS7.out HF9.out, own9 HFR.out HF9.out⟩
set_option maxRecDepth 100000 in
set_option maxHeartbeats 4000000 in
theorem lev5_11 (A : Option Addr) (c : Nat) (toks : List (TK × Nat)) (ht : Toks toks) (n : Nat) (hone : LevOk A c toks 6 (gP n)) (hsame : LevOk A c toks 5 (gP n)) (W : World) (k k1 : Nat) (h : Sl W 4 A toks.length c (toks.flatMap tcs)) (hk : k < toks.length) (hk1 : k1 < toks.length)
    (x : Nd) (ks : Tr) (hq : gP n (.lev 6 (remT toks k)) = .ok x ks (remT toks k1)) (hU : tsg toks[k1] [85] = true) (hR : tsg toks[k1] [82] = false)
    (hne : ¬ (spanP (remT toks (k1 + 1))).bind (fun lo hi r2 => (gP n (.lev 5 r2)).bind fun y js r3 => .ok (nd1 11 lo hi) (two x ks y js) r3) = .out) :
    Calls Tryd.prog 49 #[.int .i64 5, .slice A toks.length c, .int .i64 k] W (RRes W toks ((spanP (remT toks (k1 + 1))).bind fun lo hi r2 => (gP n (.lev 5 r2)).bind fun y js r3 => .ok (nd1 11 lo hi) (two x ks y js) r3)) := by
  have hk6 : (k : Int) ≤ 600 := by have := ht.few; omega
  have hk16 : (k1 : Int) ≤ 600 := by have := ht.few; omega
  have hk3 : k1 + 1 < toks.length := next_lt ht hk1 (tsg_kind (by assumption : tsg toks[k1] [85] = true))
  have HLV := Lib.hid (fun X (hf : Fr Nob W X) => lv_ok hone hk hq hk1 (li := 6) (ki := (k : Int)) (by omega) rfl X (h.pure hf))
  have HSU := Lib.hid (fun X (hf : Fr Nob W X) => rf_sign X A c toks k1 (h.pure hf) hk1 [85])
  have HSR := Lib.hid (fun X (hf : Fr Nob W X) => rf_sign X A c toks k1 (h.pure hf) hk1 [82])
  rw [hU] at HSU
  rw [hR] at HSR
  have HZ := Lib.hid (Blk.new W 97 z9)
  have HFR := Lib.hid ((Fr.refl Nob W).alloc (.cells z9 97))
  unfold z9 at HZ HFR
  have zc := HZ.out.cell
  have zf := HZ.out.frozen
  have zl := HZ.out.lt
  cases hs : spanP (remT toks (k1 + 1)) with
  | bad er r =>
    have HSP := Lib.hid (fun X (hf : Fr Nob W X) => sp_bad ht hk3 hs (ki := (k1 : Int) + 1) (by omega) X (h.pure hf))
    rw [show ∀ g, (SR.bad er r).bind g = .bad er r from fun _ => rfl]
    clear h hne hq hone hsame hs hU hR
    unfold RRes rval at *
    go_enter Tryd.func49, Tryd.ntmps49
    go_upto_region 6 with (first
      | ((go_at_call 49); (with_reducible refine (HLV.out _ HFR.out).mono ?_); rintro en w2 ⟨B, d, f, rfl, htr, hsl, hf2⟩; replace HZ := Lib.hid (HZ.out.fr hf2 (fun e => e)); have HSL := Lib.hid (slp_up (M := W.heap.size + 1) hsl (Nat.succ_le_of_lt zl)); have HSZ := Lib.hid (Nat.le_trans (Nat.succ_le_of_lt zl) hf2.size); replace HFR := Lib.hid (HFR.out.call hf2 (fun _ h _ => h)); have HTR := Lib.hid htr; replace zc := HZ.out.cell; replace zf := HZ.out.frozen; replace zl := HZ.out.lt; clear hf2 htr hsl)
      )
    obtain ⟨wa, hwa⟩ : ∃ wa, w2.alloc (.cells #[.int .i64 x.op, .string x.name, .int .i64 x.cmp, .int .i64 x.val, .int .i64 x.lo, .int .i64 x.hi, .slice B f.len d, .int .i64 k1, .int .i64 0] 97) = wa := ⟨_, rfl⟩
    have hfa : Fr Nob w2 wa := by rw [← hwa]; exact (Fr.refl _ _).alloc _
    have hXA : Blk wa w2.heap.size 97 #[.int .i64 x.op, .string x.name, .int .i64 x.cmp, .int .i64 x.val, .int .i64 x.lo, .int .i64 x.hi, .slice B f.len d, .int .i64 k1, .int .i64 0] := by rw [← hwa]; exact Blk.new _ _ _
    rw [hwa]
    have hGZ : w2.heap.size ≠ W.heap.size := by omega
    replace HZ := Lib.hid (HZ.out.fr hfa (fun e => e))
    replace HFR := Lib.hid (HFR.out.call hfa (fun _ h _ => h))
    have HFA := Lib.hid hfa
    have HX := Lib.hid hXA
    replace zc := HZ.out.cell
    replace zf := HZ.out.frozen
    replace zl := HZ.out.lt
    have xc := HX.out.cell
    have xf := HX.out.frozen
    have xl := HX.out.lt
    clear hwa hfa hXA
    have HPS := Lib.hid (slp_fr HSL.out HFA.out)
    have hWG : W.heap.size + 1 ≤ w2.heap.size := HSZ.out
    clear HSL HFA HLV
    generalize w2.heap.size = G at *
    go_wp2_with (first
      | ((go_at_call 82); (with_reducible refine (HSU.out _ HFR.out).mono ?_); rintro en w5 ⟨rfl, hw5⟩; obtain rfl := hw5)
      | ((go_at_call 82); (with_reducible refine (HSR.out _ HFR.out).mono ?_); rintro en w5 ⟨rfl, hw5⟩; obtain rfl := hw5)
      | ((go_at_call 84); (with_reducible refine (HSP.out _ HFR.out).mono ?_); rintro en w6 ⟨k2, rfl, he, hk2, hr2, hf6⟩; replace HZ := Lib.hid (HZ.out.fr hf6 (fun e => e)); replace HFR := Lib.hid (HFR.out.call hf6 (fun _ h _ => h)); replace zc := HZ.out.cell; replace zf := HZ.out.frozen; replace zl := HZ.out.lt; have he2 : (er != 0) = true := (by simpa using he); clear hf6)
      | ((go_at_call 50); (with_reducible refine (rf_bad _ _ _).mono ?_); unfold rval nd1; rintro en w3 ⟨rfl, hf2⟩; replace HZ := Lib.hid (HZ.out.fr hf2 (fun e => e)); replace HFR := Lib.hid (HFR.out.call hf2 (fun _ h _ => h)); replace zc := HZ.out.cell; replace zf := HZ.out.frozen; replace zl := HZ.out.lt; clear hf2)
      )
    have HB9 := Lib.hid (set9c_blk HZ.out (.int .i64 0) (.string ⟨#[]⟩) (.int .i64 0) (.int .i64 0) (.int .i64 0) (.int .i64 0) (.slice none 0 0) (.int .i64 (k2)) (.int .i64 er))
    have HF9 := Lib.hid (set9c_fr w3 W.heap.size (.int .i64 0) (.string ⟨#[]⟩) (.int .i64 0) (.int .i64 0) (.int .i64 0) (.int .i64 0) (.slice none 0 0) (.int .i64 (k2)) (.int .i64 er))
    change bodyPost _ _ _ _ _ (set9c w3 W.heap.size (.int .i64 0) (.string ⟨#[]⟩) (.int .i64 0) (.int .i64 0) (.int .i64 0) (.int .i64 0) (.slice none 0 0) (.int .i64 (k2)) (.int .i64 er))
    generalize set9c w3 W.heap.size (.int .i64 0) (.string ⟨#[]⟩) (.int .i64 0) (.int .i64 0) (.int .i64 0) (.int .i64 0) (.slice none 0 0) (.int .i64 (k2)) (.int .i64 er) = W9 at *
    have HS := HB9.out.cell
    refine bodyPost_ret (v := .agg #[.int .i64 0, .string ⟨#[]⟩, .int .i64 0, .int .i64 0, .int .i64 0, .int .i64 0, .slice none 0 0, .int .i64 (k2), .int .i64 er]) (by simp [results, Tryd.results49, go_sem, HS]) rfl ?_
    exact ⟨nd1 0 0 0, none, 0, 0, k2, rfl, he, hk2, hr2, own9 HFR.out HF9.out⟩
  | ok lo hi r =>
    obtain ⟨k5, hk5, rfl⟩ := span_at ht hk3 hs
    have HSP := Lib.hid (fun X (hf : Fr Nob W X) => sp_ok ht hk3 hs hk5 (ki := (k1 : Int) + 1) (by omega) X (h.pure hf))
    rw [hs] at hne
    rw [show ∀ g, (SR.ok lo hi (remT toks k5)).bind g = g lo hi (remT toks k5) from fun _ => rfl] at hne ⊢
    cases hq2 : gP n (.lev 5 (remT toks k5)) with
    | out => rw [hq2] at hne; exact absurd rfl hne
    | bad er r =>
      have HL2 := Lib.hid (fun X (hf : Fr Nob W X) => lv_bad hsame hk5 hq2 (li := 5) (ki := (k5 : Int)) (by omega) rfl X (h.pure hf))
      rw [show ∀ g, (PR.bad er r).bind g = .bad er r from fun _ => rfl]
      have HTW := Lib.hid (fun X B n d y C m e => rf_two X 11 lo hi x B n d y C m e)
      unfold fval nd1 at HTW
      clear h hne hq hone hsame hs hq2 hU hR
      unfold RRes rval at *
      go_enter Tryd.func49, Tryd.ntmps49
      go_upto_region 6 with (first
        | ((go_at_call 49); (with_reducible refine (HLV.out _ HFR.out).mono ?_); rintro en w2 ⟨B, d, f, rfl, htr, hsl, hf2⟩; replace HZ := Lib.hid (HZ.out.fr hf2 (fun e => e)); have HSL := Lib.hid (slp_up (M := W.heap.size + 1) hsl (Nat.succ_le_of_lt zl)); have HSZ := Lib.hid (Nat.le_trans (Nat.succ_le_of_lt zl) hf2.size); replace HFR := Lib.hid (HFR.out.call hf2 (fun _ h _ => h)); have HTR := Lib.hid htr; replace zc := HZ.out.cell; replace zf := HZ.out.frozen; replace zl := HZ.out.lt; clear hf2 htr hsl)
        )
      obtain ⟨wa, hwa⟩ : ∃ wa, w2.alloc (.cells #[.int .i64 x.op, .string x.name, .int .i64 x.cmp, .int .i64 x.val, .int .i64 x.lo, .int .i64 x.hi, .slice B f.len d, .int .i64 k1, .int .i64 0] 97) = wa := ⟨_, rfl⟩
      have hfa : Fr Nob w2 wa := by rw [← hwa]; exact (Fr.refl _ _).alloc _
      have hXA : Blk wa w2.heap.size 97 #[.int .i64 x.op, .string x.name, .int .i64 x.cmp, .int .i64 x.val, .int .i64 x.lo, .int .i64 x.hi, .slice B f.len d, .int .i64 k1, .int .i64 0] := by rw [← hwa]; exact Blk.new _ _ _
      rw [hwa]
      have hGZ : w2.heap.size ≠ W.heap.size := by omega
      replace HZ := Lib.hid (HZ.out.fr hfa (fun e => e))
      replace HFR := Lib.hid (HFR.out.call hfa (fun _ h _ => h))
      have HFA := Lib.hid hfa
      have HX := Lib.hid hXA
      replace zc := HZ.out.cell
      replace zf := HZ.out.frozen
      replace zl := HZ.out.lt
      have xc := HX.out.cell
      have xf := HX.out.frozen
      have xl := HX.out.lt
      clear hwa hfa hXA
      have HPS := Lib.hid (slp_fr HSL.out HFA.out)
      have hWG : W.heap.size + 1 ≤ w2.heap.size := HSZ.out
      clear HSL HFA HLV
      generalize w2.heap.size = G at *
      go_upto_region 20 with (first
        | ((go_at_call 82); (with_reducible refine (HSU.out _ HFR.out).mono ?_); rintro en w5 ⟨rfl, hw5⟩; obtain rfl := hw5)
        | ((go_at_call 82); (with_reducible refine (HSR.out _ HFR.out).mono ?_); rintro en w5 ⟨rfl, hw5⟩; obtain rfl := hw5)
        | ((go_at_call 84); (with_reducible refine (HSP.out _ HFR.out).mono ?_); rintro en w6 ⟨rfl, hf6⟩; replace HZ := Lib.hid (HZ.out.fr hf6 (fun e => e)); replace HX := Lib.hid (HX.out.fr hf6 (fun e => e)); replace HPS := Lib.hid (slp_fr HPS.out hf6); replace HFR := Lib.hid (HFR.out.call hf6 (fun _ h _ => h)); replace zc := HZ.out.cell; replace zf := HZ.out.frozen; replace zl := HZ.out.lt; replace xc := HX.out.cell; replace xf := HX.out.frozen; replace xl := HX.out.lt; clear hf6)
        | ((go_at_call 49); (with_reducible refine (HL2.out _ HFR.out).mono ?_); rintro en w4 ⟨y, C, m, e, k2, rfl, he, hk2, hr2, hf4⟩; have hlt5 := hf4.size; replace HZ := Lib.hid (HZ.out.fr hf4 (fun e => e)); replace HX := Lib.hid (HX.out.fr hf4 (fun e => e)); replace HPS := Lib.hid (slp_fr HPS.out hf4); replace HFR := Lib.hid (HFR.out.call hf4 (fun _ h _ => h)); replace zc := HZ.out.cell; replace zf := HZ.out.frozen; replace zl := HZ.out.lt; replace xc := HX.out.cell; replace xf := HX.out.frozen; replace xl := HX.out.lt; clear hf4)
        )
      obtain ⟨wq, hwq⟩ : ∃ wq, w4.alloc (.cells #[.int .i64 y.op, .string y.name, .int .i64 y.cmp, .int .i64 y.val, .int .i64 y.lo, .int .i64 y.hi, .slice C m e, .int .i64 k2, .int .i64 er] 97) = wq := ⟨_, rfl⟩
      have hfq : Fr Nob w4 wq := by rw [← hwq]; exact (Fr.refl _ _).alloc _
      have hqb : Blk wq w4.heap.size 97 #[.int .i64 y.op, .string y.name, .int .i64 y.cmp, .int .i64 y.val, .int .i64 y.lo, .int .i64 y.hi, .slice C m e, .int .i64 k2, .int .i64 er] := by rw [← hwq]; exact Blk.new _ _ _
      rw [hwq]
      have HQB := Lib.hid hqb
      have hQW : W.heap.size + 1 ≤ w4.heap.size := by omega
      have hQG : w4.heap.size ≠ G := by omega
      have hQZ : w4.heap.size ≠ W.heap.size := by omega
      have HPQ := Lib.hid (sl_lt HPS.out hfq (Nat.le_refl _))
      replace HZ := Lib.hid (HZ.out.fr hfq (fun e => e))
      replace HX := Lib.hid (HX.out.fr hfq (fun e => e))
      replace HFR := Lib.hid (HFR.out.call hfq (fun _ h _ => h))
      have HFQ := Lib.hid hfq
      replace zc := HZ.out.cell
      replace zf := HZ.out.frozen
      replace zl := HZ.out.lt
      replace xc := HX.out.cell
      replace xf := HX.out.frozen
      replace xl := HX.out.lt
      have qc := HQB.out.cell
      have qf := HQB.out.frozen
      have ql := HQB.out.lt
      clear hwq hfq hqb
      replace HTW := Lib.hid (fun X => HTW.out X B f.len d y C m e)
      go_upto_region 21 with (first
        | ((go_at_call 83); (with_reducible refine (HTW.out _).mono ?_); rintro en w3 ⟨hh, rfl, hgw, hgb, hf3⟩; have HGB := Lib.hid hgb; have HGW := Lib.hid (Nat.le_trans (Nat.succ_le_of_lt ql) hgw); replace HZ := Lib.hid (HZ.out.fr hf3 (fun e => e)); replace HQB := Lib.hid (HQB.out.fr hf3 (fun e => e)); replace HPQ := Lib.hid (sl_fr HPQ.out hf3 (fun _ _ e => e)); replace HFR := Lib.hid (HFR.out.call hf3 (fun _ h _ => h)); have HF3 := Lib.hid hf3; replace zc := HZ.out.cell; replace zf := HZ.out.frozen; replace zl := HZ.out.lt; replace qc := HQB.out.cell; replace qf := HQB.out.frozen; replace ql := HQB.out.lt; clear hf3 hgb hgw)
        )
      have hs7 := set7_fr w3 w4.heap.size (.int .i64 11) (.string ⟨#[]⟩) (.int .i64 0) (.int .i64 0) (.int .i64 lo) (.int .i64 hi) (.slice (some ⟨hh, 0, none⟩) 2 2)
      have hqb := set7_blk9 HQB.out (.int .i64 11) (.string ⟨#[]⟩) (.int .i64 0) (.int .i64 0) (.int .i64 lo) (.int .i64 hi) (.slice (some ⟨hh, 0, none⟩) 2 2)
      obtain ⟨w7, hw7⟩ : ∃ w7, set7 w3 w4.heap.size (.int .i64 11) (.string ⟨#[]⟩) (.int .i64 0) (.int .i64 0) (.int .i64 lo) (.int .i64 hi) (.slice (some ⟨hh, 0, none⟩) 2 2) = w7 := ⟨_, rfl⟩
      rw [hw7] at hs7 hqb
      unfold set7 at hw7
      rw [hw7]
      replace HQB := Lib.hid hqb
      have HS7 := Lib.hid hs7
      replace HZ := Lib.hid (HZ.out.fr hs7 (by unfold Only; omega))
      replace HFR := Lib.hid (HFR.out.call hs7 (fun i hi hlt => by unfold Only at hi; omega))
      replace zc := HZ.out.cell
      replace zf := HZ.out.frozen
      replace zl := HZ.out.lt
      replace qc := HQB.out.cell
      replace qf := HQB.out.frozen
      replace ql := HQB.out.lt
      clear hw7 hs7 hqb
      go_wp2_with fail
      have HB9 := Lib.hid (set9c_blk HZ.out (.int .i64 11) (.string ⟨#[]⟩) (.int .i64 0) (.int .i64 0) (.int .i64 lo) (.int .i64 hi) (.slice (some ⟨hh, 0, none⟩) 2 2) (.int .i64 (k2)) (.int .i64 er))
      have HF9 := Lib.hid (set9c_fr w7 W.heap.size (.int .i64 11) (.string ⟨#[]⟩) (.int .i64 0) (.int .i64 0) (.int .i64 lo) (.int .i64 hi) (.slice (some ⟨hh, 0, none⟩) 2 2) (.int .i64 (k2)) (.int .i64 er))
      change bodyPost _ _ _ _ _ (set9c w7 W.heap.size (.int .i64 11) (.string ⟨#[]⟩) (.int .i64 0) (.int .i64 0) (.int .i64 lo) (.int .i64 hi) (.slice (some ⟨hh, 0, none⟩) 2 2) (.int .i64 (k2)) (.int .i64 er))
      generalize set9c w7 W.heap.size (.int .i64 11) (.string ⟨#[]⟩) (.int .i64 0) (.int .i64 0) (.int .i64 lo) (.int .i64 hi) (.slice (some ⟨hh, 0, none⟩) 2 2) (.int .i64 (k2)) (.int .i64 er) = W9 at *
      have HS := HB9.out.cell
      refine bodyPost_ret (v := .agg #[.int .i64 11, .string ⟨#[]⟩, .int .i64 0, .int .i64 0, .int .i64 lo, .int .i64 hi, .slice (some ⟨hh, 0, none⟩) 2 2, .int .i64 (k2), .int .i64 er]) (by simp [results, Tryd.results49, go_sem, HS]) rfl ?_
      exact ⟨nd1 11 lo hi, _, 2, 2, k2, rfl, he, hk2, hr2, own9 HFR.out HF9.out⟩
    | ok y js r =>
      obtain ⟨k4, hk4, rfl⟩ := lev_pos ht hk5 hq2
      have HL2 := Lib.hid (fun X (hf : Fr Nob W X) => lv_ok hsame hk5 hq2 hk4 (li := 5) (ki := (k5 : Int)) (by omega) rfl X (h.pure hf))
      rw [show ∀ g, (PR.ok y js (remT toks k4)).bind g = g y js (remT toks k4) from fun _ => rfl]
      have HTW := Lib.hid (fun X B n d C m e => rf_two X 11 lo hi x B n d y C m e)
      unfold fval nd1 at HTW
      clear h hne hq hone hsame hs hq2 hU hR
      unfold RRes rval at *
      go_enter Tryd.func49, Tryd.ntmps49
      go_upto_region 6 with (first
        | ((go_at_call 49); (with_reducible refine (HLV.out _ HFR.out).mono ?_); rintro en w2 ⟨B, d, f, rfl, htr, hsl, hf2⟩; replace HZ := Lib.hid (HZ.out.fr hf2 (fun e => e)); have HSL := Lib.hid (slp_up (M := W.heap.size + 1) hsl (Nat.succ_le_of_lt zl)); have HSZ := Lib.hid (Nat.le_trans (Nat.succ_le_of_lt zl) hf2.size); replace HFR := Lib.hid (HFR.out.call hf2 (fun _ h _ => h)); have HTR := Lib.hid htr; replace zc := HZ.out.cell; replace zf := HZ.out.frozen; replace zl := HZ.out.lt; clear hf2 htr hsl)
        )
      obtain ⟨wa, hwa⟩ : ∃ wa, w2.alloc (.cells #[.int .i64 x.op, .string x.name, .int .i64 x.cmp, .int .i64 x.val, .int .i64 x.lo, .int .i64 x.hi, .slice B f.len d, .int .i64 k1, .int .i64 0] 97) = wa := ⟨_, rfl⟩
      have hfa : Fr Nob w2 wa := by rw [← hwa]; exact (Fr.refl _ _).alloc _
      have hXA : Blk wa w2.heap.size 97 #[.int .i64 x.op, .string x.name, .int .i64 x.cmp, .int .i64 x.val, .int .i64 x.lo, .int .i64 x.hi, .slice B f.len d, .int .i64 k1, .int .i64 0] := by rw [← hwa]; exact Blk.new _ _ _
      rw [hwa]
      have hGZ : w2.heap.size ≠ W.heap.size := by omega
      replace HZ := Lib.hid (HZ.out.fr hfa (fun e => e))
      replace HFR := Lib.hid (HFR.out.call hfa (fun _ h _ => h))
      have HFA := Lib.hid hfa
      have HX := Lib.hid hXA
      replace zc := HZ.out.cell
      replace zf := HZ.out.frozen
      replace zl := HZ.out.lt
      have xc := HX.out.cell
      have xf := HX.out.frozen
      have xl := HX.out.lt
      clear hwa hfa hXA
      have HPS := Lib.hid (slp_fr HSL.out HFA.out)
      have hWG : W.heap.size + 1 ≤ w2.heap.size := HSZ.out
      clear HSL HFA HLV
      generalize w2.heap.size = G at *
      go_upto_region 20 with (first
        | ((go_at_call 82); (with_reducible refine (HSU.out _ HFR.out).mono ?_); rintro en w5 ⟨rfl, hw5⟩; obtain rfl := hw5)
        | ((go_at_call 82); (with_reducible refine (HSR.out _ HFR.out).mono ?_); rintro en w5 ⟨rfl, hw5⟩; obtain rfl := hw5)
        | ((go_at_call 84); (with_reducible refine (HSP.out _ HFR.out).mono ?_); rintro en w6 ⟨rfl, hf6⟩; replace HZ := Lib.hid (HZ.out.fr hf6 (fun e => e)); replace HX := Lib.hid (HX.out.fr hf6 (fun e => e)); replace HPS := Lib.hid (slp_fr HPS.out hf6); replace HFR := Lib.hid (HFR.out.call hf6 (fun _ h _ => h)); replace zc := HZ.out.cell; replace zf := HZ.out.frozen; replace zl := HZ.out.lt; replace xc := HX.out.cell; replace xf := HX.out.frozen; replace xl := HX.out.lt; clear hf6)
        | ((go_at_call 49); (with_reducible refine (HL2.out _ HFR.out).mono ?_); rintro en w4 ⟨C, e, g, rfl, htr, hsl, hf4⟩; have hlt5 := hf4.size; have HTR2 := Lib.hid htr; have HSL2 := Lib.hid (slp_up (M := W.heap.size + 1) hsl (Nat.succ_le_of_lt zl)); replace HZ := Lib.hid (HZ.out.fr hf4 (fun e => e)); replace HX := Lib.hid (HX.out.fr hf4 (fun e => e)); replace HPS := Lib.hid (slp_fr HPS.out hf4); replace HFR := Lib.hid (HFR.out.call hf4 (fun _ h _ => h)); replace zc := HZ.out.cell; replace zf := HZ.out.frozen; replace zl := HZ.out.lt; replace xc := HX.out.cell; replace xf := HX.out.frozen; replace xl := HX.out.lt; clear hf4 htr hsl)
        )
      obtain ⟨wq, hwq⟩ : ∃ wq, w4.alloc (.cells #[.int .i64 y.op, .string y.name, .int .i64 y.cmp, .int .i64 y.val, .int .i64 y.lo, .int .i64 y.hi, .slice C g.len e, .int .i64 k4, .int .i64 0] 97) = wq := ⟨_, rfl⟩
      have hfq : Fr Nob w4 wq := by rw [← hwq]; exact (Fr.refl _ _).alloc _
      have hqb : Blk wq w4.heap.size 97 #[.int .i64 y.op, .string y.name, .int .i64 y.cmp, .int .i64 y.val, .int .i64 y.lo, .int .i64 y.hi, .slice C g.len e, .int .i64 k4, .int .i64 0] := by rw [← hwq]; exact Blk.new _ _ _
      rw [hwq]
      have HQB := Lib.hid hqb
      have hQW : W.heap.size + 1 ≤ w4.heap.size := by omega
      have hQG : w4.heap.size ≠ G := by omega
      have hQZ : w4.heap.size ≠ W.heap.size := by omega
      have HPQ := Lib.hid (sl_lt HPS.out hfq (Nat.le_refl _))
      replace HZ := Lib.hid (HZ.out.fr hfq (fun e => e))
      replace HX := Lib.hid (HX.out.fr hfq (fun e => e))
      replace HFR := Lib.hid (HFR.out.call hfq (fun _ h _ => h))
      have HFQ := Lib.hid hfq
      replace zc := HZ.out.cell
      replace zf := HZ.out.frozen
      replace zl := HZ.out.lt
      replace xc := HX.out.cell
      replace xf := HX.out.frozen
      replace xl := HX.out.lt
      have qc := HQB.out.cell
      have qf := HQB.out.frozen
      have ql := HQB.out.lt
      clear hwq hfq hqb
      have HSQ := Lib.hid (sl_lt HSL2.out HFQ.out (Nat.le_refl _))
      replace HTW := Lib.hid (fun X => HTW.out X B f.len d C g.len e)
      go_upto_region 21 with (first
        | ((go_at_call 83); (with_reducible refine (HTW.out _).mono ?_); rintro en w3 ⟨hh, rfl, hgw, hgb, hf3⟩; have HGB := Lib.hid hgb; have HGW := Lib.hid (Nat.le_trans (Nat.succ_le_of_lt ql) hgw); replace HZ := Lib.hid (HZ.out.fr hf3 (fun e => e)); replace HQB := Lib.hid (HQB.out.fr hf3 (fun e => e)); replace HPQ := Lib.hid (sl_fr HPQ.out hf3 (fun _ _ e => e)); replace HFR := Lib.hid (HFR.out.call hf3 (fun _ h _ => h)); have HF3 := Lib.hid hf3; replace zc := HZ.out.cell; replace zf := HZ.out.frozen; replace zl := HZ.out.lt; replace qc := HQB.out.cell; replace qf := HQB.out.frozen; replace ql := HQB.out.lt; clear hf3 hgb hgw)
        )
      replace HSQ := Lib.hid (sl_fr HSQ.out HF3.out (fun _ _ e => e))
      have hs7 := set7_fr w3 w4.heap.size (.int .i64 11) (.string ⟨#[]⟩) (.int .i64 0) (.int .i64 0) (.int .i64 lo) (.int .i64 hi) (.slice (some ⟨hh, 0, none⟩) 2 2)
      have hqb := set7_blk9 HQB.out (.int .i64 11) (.string ⟨#[]⟩) (.int .i64 0) (.int .i64 0) (.int .i64 lo) (.int .i64 hi) (.slice (some ⟨hh, 0, none⟩) 2 2)
      obtain ⟨w7, hw7⟩ : ∃ w7, set7 w3 w4.heap.size (.int .i64 11) (.string ⟨#[]⟩) (.int .i64 0) (.int .i64 0) (.int .i64 lo) (.int .i64 hi) (.slice (some ⟨hh, 0, none⟩) 2 2) = w7 := ⟨_, rfl⟩
      rw [hw7] at hs7 hqb
      unfold set7 at hw7
      rw [hw7]
      replace HQB := Lib.hid hqb
      have HS7 := Lib.hid hs7
      replace HZ := Lib.hid (HZ.out.fr hs7 (by unfold Only; omega))
      replace HFR := Lib.hid (HFR.out.call hs7 (fun i hi hlt => by unfold Only at hi; omega))
      replace zc := HZ.out.cell
      replace zf := HZ.out.frozen
      replace zl := HZ.out.lt
      replace qc := HQB.out.cell
      replace qf := HQB.out.frozen
      replace ql := HQB.out.lt
      clear hw7 hs7 hqb
      go_wp2_with fail
      have HB9 := Lib.hid (set9c_blk HZ.out (.int .i64 11) (.string ⟨#[]⟩) (.int .i64 0) (.int .i64 0) (.int .i64 lo) (.int .i64 hi) (.slice (some ⟨hh, 0, none⟩) 2 2) (.int .i64 (k4)) (.int .i64 0))
      have HF9 := Lib.hid (set9c_fr w7 W.heap.size (.int .i64 11) (.string ⟨#[]⟩) (.int .i64 0) (.int .i64 0) (.int .i64 lo) (.int .i64 hi) (.slice (some ⟨hh, 0, none⟩) 2 2) (.int .i64 (k4)) (.int .i64 0))
      change bodyPost _ _ _ _ _ (set9c w7 W.heap.size (.int .i64 11) (.string ⟨#[]⟩) (.int .i64 0) (.int .i64 0) (.int .i64 lo) (.int .i64 hi) (.slice (some ⟨hh, 0, none⟩) 2 2) (.int .i64 (k4)) (.int .i64 0))
      generalize set9c w7 W.heap.size (.int .i64 11) (.string ⟨#[]⟩) (.int .i64 0) (.int .i64 0) (.int .i64 lo) (.int .i64 hi) (.slice (some ⟨hh, 0, none⟩) 2 2) (.int .i64 (k4)) (.int .i64 0) = W9 at *
      have HS := HB9.out.cell
      refine bodyPost_ret (v := .agg #[.int .i64 11, .string ⟨#[]⟩, .int .i64 0, .int .i64 0, .int .i64 lo, .int .i64 hi, .slice (some ⟨hh, 0, none⟩) 2 2, .int .i64 (k4), .int .i64 0]) (by simp [results, Tryd.results49, go_sem, HS]) rfl ?_
      exact ⟨_, 2, .cons x B d f (.cons y C e g .nil), k4, rfl, hk4, rfl, by simp [Fo.tr, two, HTR.out, HTR2.out], pair_end HPQ.out HSQ.out HGB.out HGW.out hQW HS7.out HF9.out, own9 HFR.out HF9.out⟩
set_option maxRecDepth 100000 in
set_option maxHeartbeats 4000000 in
theorem lev5_12 (A : Option Addr) (c : Nat) (toks : List (TK × Nat)) (ht : Toks toks) (n : Nat) (hone : LevOk A c toks 6 (gP n)) (hsame : LevOk A c toks 5 (gP n)) (W : World) (k k1 : Nat) (h : Sl W 4 A toks.length c (toks.flatMap tcs)) (hk : k < toks.length) (hk1 : k1 < toks.length)
    (x : Nd) (ks : Tr) (hq : gP n (.lev 6 (remT toks k)) = .ok x ks (remT toks k1)) (hU : tsg toks[k1] [85] = false) (hR : tsg toks[k1] [82] = true)
    (hne : ¬ (spanP (remT toks (k1 + 1))).bind (fun lo hi r2 => (gP n (.lev 5 r2)).bind fun y js r3 => .ok (nd1 12 lo hi) (two x ks y js) r3) = .out) :
    Calls Tryd.prog 49 #[.int .i64 5, .slice A toks.length c, .int .i64 k] W (RRes W toks ((spanP (remT toks (k1 + 1))).bind fun lo hi r2 => (gP n (.lev 5 r2)).bind fun y js r3 => .ok (nd1 12 lo hi) (two x ks y js) r3)) := by
  have hk6 : (k : Int) ≤ 600 := by have := ht.few; omega
  have hk16 : (k1 : Int) ≤ 600 := by have := ht.few; omega
  have hk3 : k1 + 1 < toks.length := next_lt ht hk1 (tsg_kind (by assumption : tsg toks[k1] [82] = true))
  have HLV := Lib.hid (fun X (hf : Fr Nob W X) => lv_ok hone hk hq hk1 (li := 6) (ki := (k : Int)) (by omega) rfl X (h.pure hf))
  have HSU := Lib.hid (fun X (hf : Fr Nob W X) => rf_sign X A c toks k1 (h.pure hf) hk1 [85])
  have HSR := Lib.hid (fun X (hf : Fr Nob W X) => rf_sign X A c toks k1 (h.pure hf) hk1 [82])
  rw [hU] at HSU
  rw [hR] at HSR
  have HZ := Lib.hid (Blk.new W 97 z9)
  have HFR := Lib.hid ((Fr.refl Nob W).alloc (.cells z9 97))
  unfold z9 at HZ HFR
  have zc := HZ.out.cell
  have zf := HZ.out.frozen
  have zl := HZ.out.lt
  cases hs : spanP (remT toks (k1 + 1)) with
  | bad er r =>
    have HSP := Lib.hid (fun X (hf : Fr Nob W X) => sp_bad ht hk3 hs (ki := (k1 : Int) + 1) (by omega) X (h.pure hf))
    rw [show ∀ g, (SR.bad er r).bind g = .bad er r from fun _ => rfl]
    clear h hne hq hone hsame hs hU hR
    unfold RRes rval at *
    go_enter Tryd.func49, Tryd.ntmps49
    go_upto_region 6 with (first
      | ((go_at_call 49); (with_reducible refine (HLV.out _ HFR.out).mono ?_); rintro en w2 ⟨B, d, f, rfl, htr, hsl, hf2⟩; replace HZ := Lib.hid (HZ.out.fr hf2 (fun e => e)); have HSL := Lib.hid (slp_up (M := W.heap.size + 1) hsl (Nat.succ_le_of_lt zl)); have HSZ := Lib.hid (Nat.le_trans (Nat.succ_le_of_lt zl) hf2.size); replace HFR := Lib.hid (HFR.out.call hf2 (fun _ h _ => h)); have HTR := Lib.hid htr; replace zc := HZ.out.cell; replace zf := HZ.out.frozen; replace zl := HZ.out.lt; clear hf2 htr hsl)
      )
    obtain ⟨wa, hwa⟩ : ∃ wa, w2.alloc (.cells #[.int .i64 x.op, .string x.name, .int .i64 x.cmp, .int .i64 x.val, .int .i64 x.lo, .int .i64 x.hi, .slice B f.len d, .int .i64 k1, .int .i64 0] 97) = wa := ⟨_, rfl⟩
    have hfa : Fr Nob w2 wa := by rw [← hwa]; exact (Fr.refl _ _).alloc _
    have hXA : Blk wa w2.heap.size 97 #[.int .i64 x.op, .string x.name, .int .i64 x.cmp, .int .i64 x.val, .int .i64 x.lo, .int .i64 x.hi, .slice B f.len d, .int .i64 k1, .int .i64 0] := by rw [← hwa]; exact Blk.new _ _ _
    rw [hwa]
    have hGZ : w2.heap.size ≠ W.heap.size := by omega
    replace HZ := Lib.hid (HZ.out.fr hfa (fun e => e))
    replace HFR := Lib.hid (HFR.out.call hfa (fun _ h _ => h))
    have HFA := Lib.hid hfa
    have HX := Lib.hid hXA
    replace zc := HZ.out.cell
    replace zf := HZ.out.frozen
    replace zl := HZ.out.lt
    have xc := HX.out.cell
    have xf := HX.out.frozen
    have xl := HX.out.lt
    clear hwa hfa hXA
    have HPS := Lib.hid (slp_fr HSL.out HFA.out)
    have hWG : W.heap.size + 1 ≤ w2.heap.size := HSZ.out
    clear HSL HFA HLV
    generalize w2.heap.size = G at *
    go_wp2_with (first
      | ((go_at_call 82); (with_reducible refine (HSU.out _ HFR.out).mono ?_); rintro en w5 ⟨rfl, hw5⟩; obtain rfl := hw5)
      | ((go_at_call 82); (with_reducible refine (HSR.out _ HFR.out).mono ?_); rintro en w5 ⟨rfl, hw5⟩; obtain rfl := hw5)
      | ((go_at_call 84); (with_reducible refine (HSP.out _ HFR.out).mono ?_); rintro en w6 ⟨k2, rfl, he, hk2, hr2, hf6⟩; replace HZ := Lib.hid (HZ.out.fr hf6 (fun e => e)); replace HFR := Lib.hid (HFR.out.call hf6 (fun _ h _ => h)); replace zc := HZ.out.cell; replace zf := HZ.out.frozen; replace zl := HZ.out.lt; have he2 : (er != 0) = true := (by simpa using he); clear hf6)
      | ((go_at_call 50); (with_reducible refine (rf_bad _ _ _).mono ?_); unfold rval nd1; rintro en w3 ⟨rfl, hf2⟩; replace HZ := Lib.hid (HZ.out.fr hf2 (fun e => e)); replace HFR := Lib.hid (HFR.out.call hf2 (fun _ h _ => h)); replace zc := HZ.out.cell; replace zf := HZ.out.frozen; replace zl := HZ.out.lt; clear hf2)
      )
    have HB9 := Lib.hid (set9c_blk HZ.out (.int .i64 0) (.string ⟨#[]⟩) (.int .i64 0) (.int .i64 0) (.int .i64 0) (.int .i64 0) (.slice none 0 0) (.int .i64 (k2)) (.int .i64 er))
    have HF9 := Lib.hid (set9c_fr w3 W.heap.size (.int .i64 0) (.string ⟨#[]⟩) (.int .i64 0) (.int .i64 0) (.int .i64 0) (.int .i64 0) (.slice none 0 0) (.int .i64 (k2)) (.int .i64 er))
    change bodyPost _ _ _ _ _ (set9c w3 W.heap.size (.int .i64 0) (.string ⟨#[]⟩) (.int .i64 0) (.int .i64 0) (.int .i64 0) (.int .i64 0) (.slice none 0 0) (.int .i64 (k2)) (.int .i64 er))
    generalize set9c w3 W.heap.size (.int .i64 0) (.string ⟨#[]⟩) (.int .i64 0) (.int .i64 0) (.int .i64 0) (.int .i64 0) (.slice none 0 0) (.int .i64 (k2)) (.int .i64 er) = W9 at *
    have HS := HB9.out.cell
    refine bodyPost_ret (v := .agg #[.int .i64 0, .string ⟨#[]⟩, .int .i64 0, .int .i64 0, .int .i64 0, .int .i64 0, .slice none 0 0, .int .i64 (k2), .int .i64 er]) (by simp [results, Tryd.results49, go_sem, HS]) rfl ?_
    exact ⟨nd1 0 0 0, none, 0, 0, k2, rfl, he, hk2, hr2, own9 HFR.out HF9.out⟩
  | ok lo hi r =>
    obtain ⟨k5, hk5, rfl⟩ := span_at ht hk3 hs
    have HSP := Lib.hid (fun X (hf : Fr Nob W X) => sp_ok ht hk3 hs hk5 (ki := (k1 : Int) + 1) (by omega) X (h.pure hf))
    rw [hs] at hne
    rw [show ∀ g, (SR.ok lo hi (remT toks k5)).bind g = g lo hi (remT toks k5) from fun _ => rfl] at hne ⊢
    cases hq2 : gP n (.lev 5 (remT toks k5)) with
    | out => rw [hq2] at hne; exact absurd rfl hne
    | bad er r =>
      have HL2 := Lib.hid (fun X (hf : Fr Nob W X) => lv_bad hsame hk5 hq2 (li := 5) (ki := (k5 : Int)) (by omega) rfl X (h.pure hf))
      rw [show ∀ g, (PR.bad er r).bind g = .bad er r from fun _ => rfl]
      have HTW := Lib.hid (fun X B n d y C m e => rf_two X 12 lo hi x B n d y C m e)
      unfold fval nd1 at HTW
      clear h hne hq hone hsame hs hq2 hU hR
      unfold RRes rval at *
      go_enter Tryd.func49, Tryd.ntmps49
      go_upto_region 6 with (first
        | ((go_at_call 49); (with_reducible refine (HLV.out _ HFR.out).mono ?_); rintro en w2 ⟨B, d, f, rfl, htr, hsl, hf2⟩; replace HZ := Lib.hid (HZ.out.fr hf2 (fun e => e)); have HSL := Lib.hid (slp_up (M := W.heap.size + 1) hsl (Nat.succ_le_of_lt zl)); have HSZ := Lib.hid (Nat.le_trans (Nat.succ_le_of_lt zl) hf2.size); replace HFR := Lib.hid (HFR.out.call hf2 (fun _ h _ => h)); have HTR := Lib.hid htr; replace zc := HZ.out.cell; replace zf := HZ.out.frozen; replace zl := HZ.out.lt; clear hf2 htr hsl)
        )
      obtain ⟨wa, hwa⟩ : ∃ wa, w2.alloc (.cells #[.int .i64 x.op, .string x.name, .int .i64 x.cmp, .int .i64 x.val, .int .i64 x.lo, .int .i64 x.hi, .slice B f.len d, .int .i64 k1, .int .i64 0] 97) = wa := ⟨_, rfl⟩
      have hfa : Fr Nob w2 wa := by rw [← hwa]; exact (Fr.refl _ _).alloc _
      have hXA : Blk wa w2.heap.size 97 #[.int .i64 x.op, .string x.name, .int .i64 x.cmp, .int .i64 x.val, .int .i64 x.lo, .int .i64 x.hi, .slice B f.len d, .int .i64 k1, .int .i64 0] := by rw [← hwa]; exact Blk.new _ _ _
      rw [hwa]
      have hGZ : w2.heap.size ≠ W.heap.size := by omega
      replace HZ := Lib.hid (HZ.out.fr hfa (fun e => e))
      replace HFR := Lib.hid (HFR.out.call hfa (fun _ h _ => h))
      have HFA := Lib.hid hfa
      have HX := Lib.hid hXA
      replace zc := HZ.out.cell
      replace zf := HZ.out.frozen
      replace zl := HZ.out.lt
      have xc := HX.out.cell
      have xf := HX.out.frozen
      have xl := HX.out.lt
      clear hwa hfa hXA
      have HPS := Lib.hid (slp_fr HSL.out HFA.out)
      have hWG : W.heap.size + 1 ≤ w2.heap.size := HSZ.out
      clear HSL HFA HLV
      generalize w2.heap.size = G at *
      go_upto_region 20 with (first
        | ((go_at_call 82); (with_reducible refine (HSU.out _ HFR.out).mono ?_); rintro en w5 ⟨rfl, hw5⟩; obtain rfl := hw5)
        | ((go_at_call 82); (with_reducible refine (HSR.out _ HFR.out).mono ?_); rintro en w5 ⟨rfl, hw5⟩; obtain rfl := hw5)
        | ((go_at_call 84); (with_reducible refine (HSP.out _ HFR.out).mono ?_); rintro en w6 ⟨rfl, hf6⟩; replace HZ := Lib.hid (HZ.out.fr hf6 (fun e => e)); replace HX := Lib.hid (HX.out.fr hf6 (fun e => e)); replace HPS := Lib.hid (slp_fr HPS.out hf6); replace HFR := Lib.hid (HFR.out.call hf6 (fun _ h _ => h)); replace zc := HZ.out.cell; replace zf := HZ.out.frozen; replace zl := HZ.out.lt; replace xc := HX.out.cell; replace xf := HX.out.frozen; replace xl := HX.out.lt; clear hf6)
        | ((go_at_call 49); (with_reducible refine (HL2.out _ HFR.out).mono ?_); rintro en w4 ⟨y, C, m, e, k2, rfl, he, hk2, hr2, hf4⟩; have hlt5 := hf4.size; replace HZ := Lib.hid (HZ.out.fr hf4 (fun e => e)); replace HX := Lib.hid (HX.out.fr hf4 (fun e => e)); replace HPS := Lib.hid (slp_fr HPS.out hf4); replace HFR := Lib.hid (HFR.out.call hf4 (fun _ h _ => h)); replace zc := HZ.out.cell; replace zf := HZ.out.frozen; replace zl := HZ.out.lt; replace xc := HX.out.cell; replace xf := HX.out.frozen; replace xl := HX.out.lt; clear hf4)
        )
      obtain ⟨wq, hwq⟩ : ∃ wq, w4.alloc (.cells #[.int .i64 y.op, .string y.name, .int .i64 y.cmp, .int .i64 y.val, .int .i64 y.lo, .int .i64 y.hi, .slice C m e, .int .i64 k2, .int .i64 er] 97) = wq := ⟨_, rfl⟩
      have hfq : Fr Nob w4 wq := by rw [← hwq]; exact (Fr.refl _ _).alloc _
      have hqb : Blk wq w4.heap.size 97 #[.int .i64 y.op, .string y.name, .int .i64 y.cmp, .int .i64 y.val, .int .i64 y.lo, .int .i64 y.hi, .slice C m e, .int .i64 k2, .int .i64 er] := by rw [← hwq]; exact Blk.new _ _ _
      rw [hwq]
      have HQB := Lib.hid hqb
      have hQW : W.heap.size + 1 ≤ w4.heap.size := by omega
      have hQG : w4.heap.size ≠ G := by omega
      have hQZ : w4.heap.size ≠ W.heap.size := by omega
      have HPQ := Lib.hid (sl_lt HPS.out hfq (Nat.le_refl _))
      replace HZ := Lib.hid (HZ.out.fr hfq (fun e => e))
      replace HX := Lib.hid (HX.out.fr hfq (fun e => e))
      replace HFR := Lib.hid (HFR.out.call hfq (fun _ h _ => h))
      have HFQ := Lib.hid hfq
      replace zc := HZ.out.cell
      replace zf := HZ.out.frozen
      replace zl := HZ.out.lt
      replace xc := HX.out.cell
      replace xf := HX.out.frozen
      replace xl := HX.out.lt
      have qc := HQB.out.cell
      have qf := HQB.out.frozen
      have ql := HQB.out.lt
      clear hwq hfq hqb
      replace HTW := Lib.hid (fun X => HTW.out X B f.len d y C m e)
      go_upto_region 21 with (first
        | ((go_at_call 83); (with_reducible refine (HTW.out _).mono ?_); rintro en w3 ⟨hh, rfl, hgw, hgb, hf3⟩; have HGB := Lib.hid hgb; have HGW := Lib.hid (Nat.le_trans (Nat.succ_le_of_lt ql) hgw); replace HZ := Lib.hid (HZ.out.fr hf3 (fun e => e)); replace HQB := Lib.hid (HQB.out.fr hf3 (fun e => e)); replace HPQ := Lib.hid (sl_fr HPQ.out hf3 (fun _ _ e => e)); replace HFR := Lib.hid (HFR.out.call hf3 (fun _ h _ => h)); have HF3 := Lib.hid hf3; replace zc := HZ.out.cell; replace zf := HZ.out.frozen; replace zl := HZ.out.lt; replace qc := HQB.out.cell; replace qf := HQB.out.frozen; replace ql := HQB.out.lt; clear hf3 hgb hgw)
        )
      have hs7 := set7_fr w3 w4.heap.size (.int .i64 12) (.string ⟨#[]⟩) (.int .i64 0) (.int .i64 0) (.int .i64 lo) (.int .i64 hi) (.slice (some ⟨hh, 0, none⟩) 2 2)
      have hqb := set7_blk9 HQB.out (.int .i64 12) (.string ⟨#[]⟩) (.int .i64 0) (.int .i64 0) (.int .i64 lo) (.int .i64 hi) (.slice (some ⟨hh, 0, none⟩) 2 2)
      obtain ⟨w7, hw7⟩ : ∃ w7, set7 w3 w4.heap.size (.int .i64 12) (.string ⟨#[]⟩) (.int .i64 0) (.int .i64 0) (.int .i64 lo) (.int .i64 hi) (.slice (some ⟨hh, 0, none⟩) 2 2) = w7 := ⟨_, rfl⟩
      rw [hw7] at hs7 hqb
      unfold set7 at hw7
      rw [hw7]
      replace HQB := Lib.hid hqb
      have HS7 := Lib.hid hs7
      replace HZ := Lib.hid (HZ.out.fr hs7 (by unfold Only; omega))
      replace HFR := Lib.hid (HFR.out.call hs7 (fun i hi hlt => by unfold Only at hi; omega))
      replace zc := HZ.out.cell
      replace zf := HZ.out.frozen
      replace zl := HZ.out.lt
      replace qc := HQB.out.cell
      replace qf := HQB.out.frozen
      replace ql := HQB.out.lt
      clear hw7 hs7 hqb
      go_wp2_with fail
      have HB9 := Lib.hid (set9c_blk HZ.out (.int .i64 12) (.string ⟨#[]⟩) (.int .i64 0) (.int .i64 0) (.int .i64 lo) (.int .i64 hi) (.slice (some ⟨hh, 0, none⟩) 2 2) (.int .i64 (k2)) (.int .i64 er))
      have HF9 := Lib.hid (set9c_fr w7 W.heap.size (.int .i64 12) (.string ⟨#[]⟩) (.int .i64 0) (.int .i64 0) (.int .i64 lo) (.int .i64 hi) (.slice (some ⟨hh, 0, none⟩) 2 2) (.int .i64 (k2)) (.int .i64 er))
      change bodyPost _ _ _ _ _ (set9c w7 W.heap.size (.int .i64 12) (.string ⟨#[]⟩) (.int .i64 0) (.int .i64 0) (.int .i64 lo) (.int .i64 hi) (.slice (some ⟨hh, 0, none⟩) 2 2) (.int .i64 (k2)) (.int .i64 er))
      generalize set9c w7 W.heap.size (.int .i64 12) (.string ⟨#[]⟩) (.int .i64 0) (.int .i64 0) (.int .i64 lo) (.int .i64 hi) (.slice (some ⟨hh, 0, none⟩) 2 2) (.int .i64 (k2)) (.int .i64 er) = W9 at *
      have HS := HB9.out.cell
      refine bodyPost_ret (v := .agg #[.int .i64 12, .string ⟨#[]⟩, .int .i64 0, .int .i64 0, .int .i64 lo, .int .i64 hi, .slice (some ⟨hh, 0, none⟩) 2 2, .int .i64 (k2), .int .i64 er]) (by simp [results, Tryd.results49, go_sem, HS]) rfl ?_
      exact ⟨nd1 12 lo hi, _, 2, 2, k2, rfl, he, hk2, hr2, own9 HFR.out HF9.out⟩
    | ok y js r =>
      obtain ⟨k4, hk4, rfl⟩ := lev_pos ht hk5 hq2
      have HL2 := Lib.hid (fun X (hf : Fr Nob W X) => lv_ok hsame hk5 hq2 hk4 (li := 5) (ki := (k5 : Int)) (by omega) rfl X (h.pure hf))
      rw [show ∀ g, (PR.ok y js (remT toks k4)).bind g = g y js (remT toks k4) from fun _ => rfl]
      have HTW := Lib.hid (fun X B n d C m e => rf_two X 12 lo hi x B n d y C m e)
      unfold fval nd1 at HTW
      clear h hne hq hone hsame hs hq2 hU hR
      unfold RRes rval at *
      go_enter Tryd.func49, Tryd.ntmps49
      go_upto_region 6 with (first
        | ((go_at_call 49); (with_reducible refine (HLV.out _ HFR.out).mono ?_); rintro en w2 ⟨B, d, f, rfl, htr, hsl, hf2⟩; replace HZ := Lib.hid (HZ.out.fr hf2 (fun e => e)); have HSL := Lib.hid (slp_up (M := W.heap.size + 1) hsl (Nat.succ_le_of_lt zl)); have HSZ := Lib.hid (Nat.le_trans (Nat.succ_le_of_lt zl) hf2.size); replace HFR := Lib.hid (HFR.out.call hf2 (fun _ h _ => h)); have HTR := Lib.hid htr; replace zc := HZ.out.cell; replace zf := HZ.out.frozen; replace zl := HZ.out.lt; clear hf2 htr hsl)
        )
      obtain ⟨wa, hwa⟩ : ∃ wa, w2.alloc (.cells #[.int .i64 x.op, .string x.name, .int .i64 x.cmp, .int .i64 x.val, .int .i64 x.lo, .int .i64 x.hi, .slice B f.len d, .int .i64 k1, .int .i64 0] 97) = wa := ⟨_, rfl⟩
      have hfa : Fr Nob w2 wa := by rw [← hwa]; exact (Fr.refl _ _).alloc _
      have hXA : Blk wa w2.heap.size 97 #[.int .i64 x.op, .string x.name, .int .i64 x.cmp, .int .i64 x.val, .int .i64 x.lo, .int .i64 x.hi, .slice B f.len d, .int .i64 k1, .int .i64 0] := by rw [← hwa]; exact Blk.new _ _ _
      rw [hwa]
      have hGZ : w2.heap.size ≠ W.heap.size := by omega
      replace HZ := Lib.hid (HZ.out.fr hfa (fun e => e))
      replace HFR := Lib.hid (HFR.out.call hfa (fun _ h _ => h))
      have HFA := Lib.hid hfa
      have HX := Lib.hid hXA
      replace zc := HZ.out.cell
      replace zf := HZ.out.frozen
      replace zl := HZ.out.lt
      have xc := HX.out.cell
      have xf := HX.out.frozen
      have xl := HX.out.lt
      clear hwa hfa hXA
      have HPS := Lib.hid (slp_fr HSL.out HFA.out)
      have hWG : W.heap.size + 1 ≤ w2.heap.size := HSZ.out
      clear HSL HFA HLV
      generalize w2.heap.size = G at *
      go_upto_region 20 with (first
        | ((go_at_call 82); (with_reducible refine (HSU.out _ HFR.out).mono ?_); rintro en w5 ⟨rfl, hw5⟩; obtain rfl := hw5)
        | ((go_at_call 82); (with_reducible refine (HSR.out _ HFR.out).mono ?_); rintro en w5 ⟨rfl, hw5⟩; obtain rfl := hw5)
        | ((go_at_call 84); (with_reducible refine (HSP.out _ HFR.out).mono ?_); rintro en w6 ⟨rfl, hf6⟩; replace HZ := Lib.hid (HZ.out.fr hf6 (fun e => e)); replace HX := Lib.hid (HX.out.fr hf6 (fun e => e)); replace HPS := Lib.hid (slp_fr HPS.out hf6); replace HFR := Lib.hid (HFR.out.call hf6 (fun _ h _ => h)); replace zc := HZ.out.cell; replace zf := HZ.out.frozen; replace zl := HZ.out.lt; replace xc := HX.out.cell; replace xf := HX.out.frozen; replace xl := HX.out.lt; clear hf6)
        | ((go_at_call 49); (with_reducible refine (HL2.out _ HFR.out).mono ?_); rintro en w4 ⟨C, e, g, rfl, htr, hsl, hf4⟩; have hlt5 := hf4.size; have HTR2 := Lib.hid htr; have HSL2 := Lib.hid (slp_up (M := W.heap.size + 1) hsl (Nat.succ_le_of_lt zl)); replace HZ := Lib.hid (HZ.out.fr hf4 (fun e => e)); replace HX := Lib.hid (HX.out.fr hf4 (fun e => e)); replace HPS := Lib.hid (slp_fr HPS.out hf4); replace HFR := Lib.hid (HFR.out.call hf4 (fun _ h _ => h)); replace zc := HZ.out.cell; replace zf := HZ.out.frozen; replace zl := HZ.out.lt; replace xc := HX.out.cell; replace xf := HX.out.frozen; replace xl := HX.out.lt; clear hf4 htr hsl)
        )
      obtain ⟨wq, hwq⟩ : ∃ wq, w4.alloc (.cells #[.int .i64 y.op, .string y.name, .int .i64 y.cmp, .int .i64 y.val, .int .i64 y.lo, .int .i64 y.hi, .slice C g.len e, .int .i64 k4, .int .i64 0] 97) = wq := ⟨_, rfl⟩
      have hfq : Fr Nob w4 wq := by rw [← hwq]; exact (Fr.refl _ _).alloc _
      have hqb : Blk wq w4.heap.size 97 #[.int .i64 y.op, .string y.name, .int .i64 y.cmp, .int .i64 y.val, .int .i64 y.lo, .int .i64 y.hi, .slice C g.len e, .int .i64 k4, .int .i64 0] := by rw [← hwq]; exact Blk.new _ _ _
      rw [hwq]
      have HQB := Lib.hid hqb
      have hQW : W.heap.size + 1 ≤ w4.heap.size := by omega
      have hQG : w4.heap.size ≠ G := by omega
      have hQZ : w4.heap.size ≠ W.heap.size := by omega
      have HPQ := Lib.hid (sl_lt HPS.out hfq (Nat.le_refl _))
      replace HZ := Lib.hid (HZ.out.fr hfq (fun e => e))
      replace HX := Lib.hid (HX.out.fr hfq (fun e => e))
      replace HFR := Lib.hid (HFR.out.call hfq (fun _ h _ => h))
      have HFQ := Lib.hid hfq
      replace zc := HZ.out.cell
      replace zf := HZ.out.frozen
      replace zl := HZ.out.lt
      replace xc := HX.out.cell
      replace xf := HX.out.frozen
      replace xl := HX.out.lt
      have qc := HQB.out.cell
      have qf := HQB.out.frozen
      have ql := HQB.out.lt
      clear hwq hfq hqb
      have HSQ := Lib.hid (sl_lt HSL2.out HFQ.out (Nat.le_refl _))
      replace HTW := Lib.hid (fun X => HTW.out X B f.len d C g.len e)
      go_upto_region 21 with (first
        | ((go_at_call 83); (with_reducible refine (HTW.out _).mono ?_); rintro en w3 ⟨hh, rfl, hgw, hgb, hf3⟩; have HGB := Lib.hid hgb; have HGW := Lib.hid (Nat.le_trans (Nat.succ_le_of_lt ql) hgw); replace HZ := Lib.hid (HZ.out.fr hf3 (fun e => e)); replace HQB := Lib.hid (HQB.out.fr hf3 (fun e => e)); replace HPQ := Lib.hid (sl_fr HPQ.out hf3 (fun _ _ e => e)); replace HFR := Lib.hid (HFR.out.call hf3 (fun _ h _ => h)); have HF3 := Lib.hid hf3; replace zc := HZ.out.cell; replace zf := HZ.out.frozen; replace zl := HZ.out.lt; replace qc := HQB.out.cell; replace qf := HQB.out.frozen; replace ql := HQB.out.lt; clear hf3 hgb hgw)
        )
      replace HSQ := Lib.hid (sl_fr HSQ.out HF3.out (fun _ _ e => e))
      have hs7 := set7_fr w3 w4.heap.size (.int .i64 12) (.string ⟨#[]⟩) (.int .i64 0) (.int .i64 0) (.int .i64 lo) (.int .i64 hi) (.slice (some ⟨hh, 0, none⟩) 2 2)
      have hqb := set7_blk9 HQB.out (.int .i64 12) (.string ⟨#[]⟩) (.int .i64 0) (.int .i64 0) (.int .i64 lo) (.int .i64 hi) (.slice (some ⟨hh, 0, none⟩) 2 2)
      obtain ⟨w7, hw7⟩ : ∃ w7, set7 w3 w4.heap.size (.int .i64 12) (.string ⟨#[]⟩) (.int .i64 0) (.int .i64 0) (.int .i64 lo) (.int .i64 hi) (.slice (some ⟨hh, 0, none⟩) 2 2) = w7 := ⟨_, rfl⟩
      rw [hw7] at hs7 hqb
      unfold set7 at hw7
      rw [hw7]
      replace HQB := Lib.hid hqb
      have HS7 := Lib.hid hs7
      replace HZ := Lib.hid (HZ.out.fr hs7 (by unfold Only; omega))
      replace HFR := Lib.hid (HFR.out.call hs7 (fun i hi hlt => by unfold Only at hi; omega))
      replace zc := HZ.out.cell
      replace zf := HZ.out.frozen
      replace zl := HZ.out.lt
      replace qc := HQB.out.cell
      replace qf := HQB.out.frozen
      replace ql := HQB.out.lt
      clear hw7 hs7 hqb
      go_wp2_with fail
      have HB9 := Lib.hid (set9c_blk HZ.out (.int .i64 12) (.string ⟨#[]⟩) (.int .i64 0) (.int .i64 0) (.int .i64 lo) (.int .i64 hi) (.slice (some ⟨hh, 0, none⟩) 2 2) (.int .i64 (k4)) (.int .i64 0))
      have HF9 := Lib.hid (set9c_fr w7 W.heap.size (.int .i64 12) (.string ⟨#[]⟩) (.int .i64 0) (.int .i64 0) (.int .i64 lo) (.int .i64 hi) (.slice (some ⟨hh, 0, none⟩) 2 2) (.int .i64 (k4)) (.int .i64 0))
      change bodyPost _ _ _ _ _ (set9c w7 W.heap.size (.int .i64 12) (.string ⟨#[]⟩) (.int .i64 0) (.int .i64 0) (.int .i64 lo) (.int .i64 hi) (.slice (some ⟨hh, 0, none⟩) 2 2) (.int .i64 (k4)) (.int .i64 0))
      generalize set9c w7 W.heap.size (.int .i64 12) (.string ⟨#[]⟩) (.int .i64 0) (.int .i64 0) (.int .i64 lo) (.int .i64 hi) (.slice (some ⟨hh, 0, none⟩) 2 2) (.int .i64 (k4)) (.int .i64 0) = W9 at *
      have HS := HB9.out.cell
      refine bodyPost_ret (v := .agg #[.int .i64 12, .string ⟨#[]⟩, .int .i64 0, .int .i64 0, .int .i64 lo, .int .i64 hi, .slice (some ⟨hh, 0, none⟩) 2 2, .int .i64 (k4), .int .i64 0]) (by simp [results, Tryd.results49, go_sem, HS]) rfl ?_
      exact ⟨_, 2, .cons x B d f (.cons y C e g .nil), k4, rfl, hk4, rfl, by simp [Fo.tr, two, HTR.out, HTR2.out], pair_end HPQ.out HSQ.out HGB.out HGW.out hQW HS7.out HF9.out, own9 HFR.out HF9.out⟩
set_option maxRecDepth 100000 in
set_option maxHeartbeats 4000000 in
theorem lev_5 (A : Option Addr) (c : Nat) (toks : List (TK × Nat)) (ht : Toks toks) (n : Nat) (hone : LevOk A c toks 6 (gP n)) (hsame : LevOk A c toks 5 (gP n)) : LevOk A c toks 5 (gP (n + 1)) := by
  intro W k h hk hne
  rw [show gP (n + 1) (.lev 5 (remT toks k)) = (gP n (.lev 6 (remT toks k))).bind fun x ks r =>
    if sgn r [85] then (spanP r.tail).bind fun lo hi r2 => (gP n (.lev 5 r2)).bind fun y js r3 => .ok (nd1 11 lo hi) (two x ks y js) r3
    else if sgn r [82] then (spanP r.tail).bind fun lo hi r2 => (gP n (.lev 5 r2)).bind fun y js r3 => .ok (nd1 12 lo hi) (two x ks y js) r3
    else .ok x ks r from rfl] at hne ⊢
  have hk6 : (k : Int) ≤ 600 := by have := ht.few; omega
  cases hq : gP n (.lev 6 (remT toks k)) with
  | out => rw [hq] at hne; exact absurd rfl hne
  | bad er r =>
    have HZ := Lib.hid (Blk.new W 97 z9)
    have HFR := Lib.hid ((Fr.refl Nob W).alloc (.cells z9 97))
    unfold z9 at HZ HFR
    have zc := HZ.out.cell
    have zf := HZ.out.frozen
    have zl := HZ.out.lt
    have HLV := Lib.hid (fun X (hf : Fr Nob W X) => lv_bad hone hk hq (li := 6) (ki := (k : Int)) (by omega) rfl X (h.pure hf))
    rw [show ∀ g, (PR.bad er r).bind g = .bad er r from fun _ => rfl]
    clear h hne hq hone hsame
    unfold RRes rval at *
    go_enter Tryd.func49, Tryd.ntmps49
    go_upto_region 6 with (first
      | ((go_at_call 49); (with_reducible refine (HLV.out _ HFR.out).mono ?_); rintro en w2 ⟨x, B, m, d, k2, rfl, he, hk2, hr2, hf2⟩; replace HZ := Lib.hid (HZ.out.fr hf2 (fun e => e)); replace HFR := Lib.hid (HFR.out.call hf2 (fun _ h _ => h)); replace zc := HZ.out.cell; replace zf := HZ.out.frozen; replace zl := HZ.out.lt; clear hf2)
      )
    have he2 : (er != 0) = true := by simpa using he
    obtain ⟨wa, hwa⟩ : ∃ wa, w2.alloc (.cells #[.int .i64 x.op, .string x.name, .int .i64 x.cmp, .int .i64 x.val, .int .i64 x.lo, .int .i64 x.hi, .slice B m d, .int .i64 k2, .int .i64 er] 97) = wa := ⟨_, rfl⟩
    have hfa : Fr Nob w2 wa := by rw [← hwa]; exact (Fr.refl _ _).alloc _
    have hXA : Blk wa w2.heap.size 97 #[.int .i64 x.op, .string x.name, .int .i64 x.cmp, .int .i64 x.val, .int .i64 x.lo, .int .i64 x.hi, .slice B m d, .int .i64 k2, .int .i64 er] := by rw [← hwa]; exact Blk.new _ _ _
    rw [hwa]
    have hGZ : w2.heap.size ≠ W.heap.size := by omega
    replace HZ := Lib.hid (HZ.out.fr hfa (fun e => e))
    replace HFR := Lib.hid (HFR.out.call hfa (fun _ h _ => h))
    have HFA := Lib.hid hfa
    have HX := Lib.hid hXA
    replace zc := HZ.out.cell
    replace zf := HZ.out.frozen
    replace zl := HZ.out.lt
    have xc := HX.out.cell
    have xf := HX.out.frozen
    have xl := HX.out.lt
    clear hwa hfa hXA
    go_wp2_with fail
    have HB9 := Lib.hid (set9c_blk HZ.out (.int .i64 x.op) (.string x.name) (.int .i64 x.cmp) (.int .i64 x.val) (.int .i64 x.lo) (.int .i64 x.hi) (.slice B m d) (.int .i64 (k2)) (.int .i64 er))
    have HF9 := Lib.hid (set9c_fr wa W.heap.size (.int .i64 x.op) (.string x.name) (.int .i64 x.cmp) (.int .i64 x.val) (.int .i64 x.lo) (.int .i64 x.hi) (.slice B m d) (.int .i64 (k2)) (.int .i64 er))
    change bodyPost _ _ _ _ _ (set9c wa W.heap.size (.int .i64 x.op) (.string x.name) (.int .i64 x.cmp) (.int .i64 x.val) (.int .i64 x.lo) (.int .i64 x.hi) (.slice B m d) (.int .i64 (k2)) (.int .i64 er))
    generalize set9c wa W.heap.size (.int .i64 x.op) (.string x.name) (.int .i64 x.cmp) (.int .i64 x.val) (.int .i64 x.lo) (.int .i64 x.hi) (.slice B m d) (.int .i64 (k2)) (.int .i64 er) = W9 at *
    have HS := HB9.out.cell
    refine bodyPost_ret (v := .agg #[.int .i64 x.op, .string x.name, .int .i64 x.cmp, .int .i64 x.val, .int .i64 x.lo, .int .i64 x.hi, .slice B m d, .int .i64 (k2), .int .i64 er]) (by simp [results, Tryd.results49, go_sem, HS]) rfl ?_
    exact ⟨x, B, m, d, k2, rfl, he, hk2, hr2, own9 HFR.out HF9.out⟩
  | ok x ks r =>
    obtain ⟨k1, hk1, rfl⟩ := lev_pos ht hk hq
    have hk16 : (k1 : Int) ≤ 600 := by have := ht.few; omega
    rw [hq] at hne
    rw [show ∀ g, (PR.ok x ks (remT toks k1)).bind g = g x ks (remT toks k1) from fun _ => rfl] at hne ⊢
    simp only [sgn_rem hk1, remT_tail] at hne ⊢
    cases hU : tsg toks[k1] [85]
    · rw [hU, if_neg (by simp)] at hne
      rw [if_neg (by simp)]
      cases hR : tsg toks[k1] [82]
      · rw [if_neg (by simp)]
        have HLV := Lib.hid (fun X (hf : Fr Nob W X) => lv_ok hone hk hq hk1 (li := 6) (ki := (k : Int)) (by omega) rfl X (h.pure hf))
        have HSU := Lib.hid (fun X (hf : Fr Nob W X) => rf_sign X A c toks k1 (h.pure hf) hk1 [85])
        have HSR := Lib.hid (fun X (hf : Fr Nob W X) => rf_sign X A c toks k1 (h.pure hf) hk1 [82])
        rw [hU] at HSU
        rw [hR] at HSR
        have HZ := Lib.hid (Blk.new W 97 z9)
        have HFR := Lib.hid ((Fr.refl Nob W).alloc (.cells z9 97))
        unfold z9 at HZ HFR
        have zc := HZ.out.cell
        have zf := HZ.out.frozen
        have zl := HZ.out.lt
        clear h hne hq hone hsame hU hR
        unfold RRes rval at *
        go_enter Tryd.func49, Tryd.ntmps49
        go_upto_region 6 with (first
          | ((go_at_call 49); (with_reducible refine (HLV.out _ HFR.out).mono ?_); rintro en w2 ⟨B, d, f, rfl, htr, hsl, hf2⟩; replace HZ := Lib.hid (HZ.out.fr hf2 (fun e => e)); have HSL := Lib.hid (slp_up (M := W.heap.size + 1) hsl (Nat.succ_le_of_lt zl)); have HSZ := Lib.hid (Nat.le_trans (Nat.succ_le_of_lt zl) hf2.size); replace HFR := Lib.hid (HFR.out.call hf2 (fun _ h _ => h)); have HTR := Lib.hid htr; replace zc := HZ.out.cell; replace zf := HZ.out.frozen; replace zl := HZ.out.lt; clear hf2 htr hsl)
          )
        obtain ⟨wa, hwa⟩ : ∃ wa, w2.alloc (.cells #[.int .i64 x.op, .string x.name, .int .i64 x.cmp, .int .i64 x.val, .int .i64 x.lo, .int .i64 x.hi, .slice B f.len d, .int .i64 k1, .int .i64 0] 97) = wa := ⟨_, rfl⟩
        have hfa : Fr Nob w2 wa := by rw [← hwa]; exact (Fr.refl _ _).alloc _
        have hXA : Blk wa w2.heap.size 97 #[.int .i64 x.op, .string x.name, .int .i64 x.cmp, .int .i64 x.val, .int .i64 x.lo, .int .i64 x.hi, .slice B f.len d, .int .i64 k1, .int .i64 0] := by rw [← hwa]; exact Blk.new _ _ _
        rw [hwa]
        have hGZ : w2.heap.size ≠ W.heap.size := by omega
        replace HZ := Lib.hid (HZ.out.fr hfa (fun e => e))
        replace HFR := Lib.hid (HFR.out.call hfa (fun _ h _ => h))
        have HFA := Lib.hid hfa
        have HX := Lib.hid hXA
        replace zc := HZ.out.cell
        replace zf := HZ.out.frozen
        replace zl := HZ.out.lt
        have xc := HX.out.cell
        have xf := HX.out.frozen
        have xl := HX.out.lt
        clear hwa hfa hXA
        have HPS := Lib.hid (slp_fr HSL.out HFA.out)
        have hWG : W.heap.size + 1 ≤ w2.heap.size := HSZ.out
        clear HSL HFA HLV
        generalize w2.heap.size = G at *
        go_wp2_with (first
          | ((go_at_call 82); (with_reducible refine (HSU.out _ HFR.out).mono ?_); rintro en w5 ⟨rfl, hw5⟩; obtain rfl := hw5)
          | ((go_at_call 82); (with_reducible refine (HSR.out _ HFR.out).mono ?_); rintro en w5 ⟨rfl, hw5⟩; obtain rfl := hw5)
          )
        go_loopw [17] (fun _ wr => Hid (wr = w5)) (fun _ _ => 0)
        case atStart => exact Lib.hid rfl
        case round =>
          obtain rfl := hrel.out
          go_wp2_with fail
          have HB9 := Lib.hid (set9c_blk HZ.out (.int .i64 x.op) (.string x.name) (.int .i64 x.cmp) (.int .i64 x.val) (.int .i64 x.lo) (.int .i64 x.hi) (.slice B f.len d) (.int .i64 (k1)) (.int .i64 0))
          have HF9 := Lib.hid (set9c_fr wr W.heap.size (.int .i64 x.op) (.string x.name) (.int .i64 x.cmp) (.int .i64 x.val) (.int .i64 x.lo) (.int .i64 x.hi) (.slice B f.len d) (.int .i64 (k1)) (.int .i64 0))
          change bodyPost _ _ _ _ _ (set9c wr W.heap.size (.int .i64 x.op) (.string x.name) (.int .i64 x.cmp) (.int .i64 x.val) (.int .i64 x.lo) (.int .i64 x.hi) (.slice B f.len d) (.int .i64 (k1)) (.int .i64 0))
          generalize set9c wr W.heap.size (.int .i64 x.op) (.string x.name) (.int .i64 x.cmp) (.int .i64 x.val) (.int .i64 x.lo) (.int .i64 x.hi) (.slice B f.len d) (.int .i64 (k1)) (.int .i64 0) = W9 at *
          have HS := HB9.out.cell
          refine bodyPost_ret (v := .agg #[.int .i64 x.op, .string x.name, .int .i64 x.cmp, .int .i64 x.val, .int .i64 x.lo, .int .i64 x.hi, .slice B f.len d, .int .i64 (k1), .int .i64 0]) (by simp [results, Tryd.results49, go_sem, HS]) rfl ?_
          exact ⟨B, d, f, k1, rfl, hk1, rfl, HTR.out, slp_up (slp_fr1 HPS.out HF9.out (by omega)) (by omega), own9 HFR.out HF9.out⟩
      · rw [hR, if_pos rfl] at hne
        rw [if_pos rfl]
        exact lev5_12 A c toks ht n hone hsame W k k1 h hk hk1 x ks hq hU hR hne
    · rw [hU, if_pos rfl] at hne
      rw [if_pos rfl]
      exact lev5_11 A c toks ht n hone hsame W k k1 h hk hk1 x ks hq hU (sgn_same hU (by decide)) hne
set_option maxRecDepth 100000 in
set_option maxHeartbeats 4000000 in
theorem lev_6 (A : Option Addr) (c : Nat) (toks : List (TK × Nat)) (ht : Toks toks) (n : Nat) (hun : UnOk A c toks (gP n)) : LevOk A c toks 6 (gP n) := by
  intro W k h hk hne
  have HZ := Lib.hid (Blk.new W 97 z9)
  have HFR := Lib.hid ((Fr.refl Nob W).alloc (.cells z9 97))
  unfold z9 at HZ HFR
  have zc := HZ.out.cell
  have zf := HZ.out.frozen
  have zl := HZ.out.lt
  cases hq : gP n (.lev 6 (remT toks k)) with
  | out => exact absurd hq hne
  | bad er r =>
    have HLV := Lib.hid (fun X (hf : Fr Nob W X) => un_bad hun hk hq (ki := (k : Int)) rfl X (h.pure hf))
    clear h hne hq hun
    unfold RRes rval at *
    go_enter Tryd.func49, Tryd.ntmps49
    go_wp2_with (first
      | ((go_at_call 80); (with_reducible refine (HLV.out _ HFR.out).mono ?_); rintro en w2 ⟨x, B, m, d, k2, rfl, he, hk2, hr2, hf2⟩; replace HZ := Lib.hid (HZ.out.fr hf2 (fun e => e)); have HSZ := Lib.hid (Nat.le_trans (Nat.succ_le_of_lt zl) hf2.size); replace HFR := Lib.hid (HFR.out.call hf2 (fun _ h _ => h)); replace zc := HZ.out.cell; replace zf := HZ.out.frozen; replace zl := HZ.out.lt; clear hf2)
      )
    have HB9 := Lib.hid (set9c_blk HZ.out (.int .i64 x.op) (.string x.name) (.int .i64 x.cmp) (.int .i64 x.val) (.int .i64 x.lo) (.int .i64 x.hi) (.slice B m d) (.int .i64 (k2)) (.int .i64 er))
    have HF9 := Lib.hid (set9c_fr w2 W.heap.size (.int .i64 x.op) (.string x.name) (.int .i64 x.cmp) (.int .i64 x.val) (.int .i64 x.lo) (.int .i64 x.hi) (.slice B m d) (.int .i64 (k2)) (.int .i64 er))
    change bodyPost _ _ _ _ _ (set9c w2 W.heap.size (.int .i64 x.op) (.string x.name) (.int .i64 x.cmp) (.int .i64 x.val) (.int .i64 x.lo) (.int .i64 x.hi) (.slice B m d) (.int .i64 (k2)) (.int .i64 er))
    generalize set9c w2 W.heap.size (.int .i64 x.op) (.string x.name) (.int .i64 x.cmp) (.int .i64 x.val) (.int .i64 x.lo) (.int .i64 x.hi) (.slice B m d) (.int .i64 (k2)) (.int .i64 er) = W9 at *
    have HS := HB9.out.cell
    refine bodyPost_ret (v := .agg #[.int .i64 x.op, .string x.name, .int .i64 x.cmp, .int .i64 x.val, .int .i64 x.lo, .int .i64 x.hi, .slice B m d, .int .i64 (k2), .int .i64 er]) (by simp [results, Tryd.results49, go_sem, HS]) rfl ?_
    exact ⟨x, B, m, d, k2, rfl, he, hk2, hr2, own9 HFR.out HF9.out⟩
  | ok x ks r =>
    obtain ⟨k5, hk5, rfl⟩ := lev_pos ht hk hq
    have HLV := Lib.hid (fun X (hf : Fr Nob W X) => un_ok hun hk hq hk5 (ki := (k : Int)) rfl X (h.pure hf))
    clear h hne hq hun
    unfold RRes rval at *
    go_enter Tryd.func49, Tryd.ntmps49
    go_wp2_with (first
      | ((go_at_call 80); (with_reducible refine (HLV.out _ HFR.out).mono ?_); rintro en w2 ⟨B, d, f, rfl, htr, hsl, hf2⟩; replace HZ := Lib.hid (HZ.out.fr hf2 (fun e => e)); have HSZ := Lib.hid (Nat.le_trans (Nat.succ_le_of_lt zl) hf2.size); have HSL := Lib.hid (slp_up (M := W.heap.size + 1) hsl (Nat.succ_le_of_lt zl)); replace HFR := Lib.hid (HFR.out.call hf2 (fun _ h _ => h)); have HTR := Lib.hid htr; replace zc := HZ.out.cell; replace zf := HZ.out.frozen; replace zl := HZ.out.lt; clear hf2 htr hsl)
      )
    have HB9 := Lib.hid (set9c_blk HZ.out (.int .i64 x.op) (.string x.name) (.int .i64 x.cmp) (.int .i64 x.val) (.int .i64 x.lo) (.int .i64 x.hi) (.slice B f.len d) (.int .i64 (k5)) (.int .i64 0))
    have HF9 := Lib.hid (set9c_fr w2 W.heap.size (.int .i64 x.op) (.string x.name) (.int .i64 x.cmp) (.int .i64 x.val) (.int .i64 x.lo) (.int .i64 x.hi) (.slice B f.len d) (.int .i64 (k5)) (.int .i64 0))
    change bodyPost _ _ _ _ _ (set9c w2 W.heap.size (.int .i64 x.op) (.string x.name) (.int .i64 x.cmp) (.int .i64 x.val) (.int .i64 x.lo) (.int .i64 x.hi) (.slice B f.len d) (.int .i64 (k5)) (.int .i64 0))
    generalize set9c w2 W.heap.size (.int .i64 x.op) (.string x.name) (.int .i64 x.cmp) (.int .i64 x.val) (.int .i64 x.lo) (.int .i64 x.hi) (.slice B f.len d) (.int .i64 (k5)) (.int .i64 0) = W9 at *
    have HS := HB9.out.cell
    refine bodyPost_ret (v := .agg #[.int .i64 x.op, .string x.name, .int .i64 x.cmp, .int .i64 x.val, .int .i64 x.lo, .int .i64 x.hi, .slice B f.len d, .int .i64 (k5), .int .i64 0]) (by simp [results, Tryd.results49, go_sem, HS]) rfl ?_
    exact ⟨B, d, f, k5, rfl, hk5, rfl, HTR.out, slp_end HSL.out HF9.out, own9 HFR.out HF9.out⟩
theorem at_ok {A : Option Addr} {c : Nat} {toks : List (TK × Nat)} {S : Job → PR} {k k' : Nat} {x : Nd} {ks : Tr} (h : AtOk A c toks S) (hk : k < toks.length) (hs : S (.lev 7 (remT toks k)) = .ok x ks (remT toks k')) (hk' : k' < toks.length) (W : World) (hr : Sl W 4 A toks.length c (toks.flatMap tcs)) :
    Calls Tryd.prog 81 #[.slice A toks.length c, .int .i64 k] W fun en w' => ∃ (B : Option Addr) (d : Nat) (f : Fo), en = .returned (rval x B f.len d k' 0) ∧ f.tr = ks ∧ FoSlP (fun b => W.heap.size ≤ b) w' B d f ∧ Fr Nob W w' := by
  have h1 := h W k hr hk (by rw [hs]; simp)
  rw [hs] at h1
  exact h1.mono fun en w' h2 => h2.ok_at hk'
theorem at_bad {A : Option Addr} {c : Nat} {toks : List (TK × Nat)} {S : Job → PR} {k : Nat} {er : Int} {r : List TK} (h : AtOk A c toks S) (hk : k < toks.length) (hs : S (.lev 7 (remT toks k)) = .bad er r) (W : World) (hr : Sl W 4 A toks.length c (toks.flatMap tcs)) :
    Calls Tryd.prog 81 #[.slice A toks.length c, .int .i64 k] W (RRes W toks (.bad er r)) := by
  have h1 := h W k hr hk (by rw [hs]; simp)
  rw [hs] at h1
  exact h1
set_option maxRecDepth 100000 in
set_option maxHeartbeats 4000000 in
theorem lev_7 (A : Option Addr) (c : Nat) (toks : List (TK × Nat)) (ht : Toks toks) (n : Nat) (hat : AtOk A c toks (gP n)) : LevOk A c toks 7 (gP n) := by
  intro W k h hk hne
  have HZ := Lib.hid (Blk.new W 97 z9)
  have HFR := Lib.hid ((Fr.refl Nob W).alloc (.cells z9 97))
  unfold z9 at HZ HFR
  have zc := HZ.out.cell
  have zf := HZ.out.frozen
  have zl := HZ.out.lt
  cases hq : gP n (.lev 7 (remT toks k)) with
  | out => exact absurd hq hne
  | bad er r =>
    have HLV := Lib.hid (fun X (hf : Fr Nob W X) => at_bad hat hk hq X (h.pure hf))
    clear h hne hq hat
    unfold RRes rval at *
    go_enter Tryd.func49, Tryd.ntmps49
    go_wp2_with (first
      | ((go_at_call 81); (with_reducible refine (HLV.out _ HFR.out).mono ?_); rintro en w2 ⟨x, B, m, d, k2, rfl, he, hk2, hr2, hf2⟩; replace HZ := Lib.hid (HZ.out.fr hf2 (fun e => e)); replace HFR := Lib.hid (HFR.out.call hf2 (fun _ h _ => h)); replace zc := HZ.out.cell; replace zf := HZ.out.frozen; replace zl := HZ.out.lt; clear hf2)
      )
    have HB9 := Lib.hid (set9c_blk HZ.out (.int .i64 x.op) (.string x.name) (.int .i64 x.cmp) (.int .i64 x.val) (.int .i64 x.lo) (.int .i64 x.hi) (.slice B m d) (.int .i64 (k2)) (.int .i64 er))
    have HF9 := Lib.hid (set9c_fr w2 W.heap.size (.int .i64 x.op) (.string x.name) (.int .i64 x.cmp) (.int .i64 x.val) (.int .i64 x.lo) (.int .i64 x.hi) (.slice B m d) (.int .i64 (k2)) (.int .i64 er))
    change bodyPost _ _ _ _ _ (set9c w2 W.heap.size (.int .i64 x.op) (.string x.name) (.int .i64 x.cmp) (.int .i64 x.val) (.int .i64 x.lo) (.int .i64 x.hi) (.slice B m d) (.int .i64 (k2)) (.int .i64 er))
    generalize set9c w2 W.heap.size (.int .i64 x.op) (.string x.name) (.int .i64 x.cmp) (.int .i64 x.val) (.int .i64 x.lo) (.int .i64 x.hi) (.slice B m d) (.int .i64 (k2)) (.int .i64 er) = W9 at *
    have HS := HB9.out.cell
    refine bodyPost_ret (v := .agg #[.int .i64 x.op, .string x.name, .int .i64 x.cmp, .int .i64 x.val, .int .i64 x.lo, .int .i64 x.hi, .slice B m d, .int .i64 (k2), .int .i64 er]) (by simp [results, Tryd.results49, go_sem, HS]) rfl ?_
    exact ⟨x, B, m, d, k2, rfl, he, hk2, hr2, own9 HFR.out HF9.out⟩
  | ok x ks r =>
    obtain ⟨k5, hk5, rfl⟩ := lev_pos ht hk hq
    have HLV := Lib.hid (fun X (hf : Fr Nob W X) => at_ok hat hk hq hk5 X (h.pure hf))
    clear h hne hq hat
    unfold RRes rval at *
    go_enter Tryd.func49, Tryd.ntmps49
    go_wp2_with (first
      | ((go_at_call 81); (with_reducible refine (HLV.out _ HFR.out).mono ?_); rintro en w2 ⟨B, d, f, rfl, htr, hsl, hf2⟩; replace HZ := Lib.hid (HZ.out.fr hf2 (fun e => e)); have HSL := Lib.hid (slp_up (M := W.heap.size + 1) hsl (Nat.succ_le_of_lt zl)); replace HFR := Lib.hid (HFR.out.call hf2 (fun _ h _ => h)); have HTR := Lib.hid htr; replace zc := HZ.out.cell; replace zf := HZ.out.frozen; replace zl := HZ.out.lt; clear hf2 htr hsl)
      )
    have HB9 := Lib.hid (set9c_blk HZ.out (.int .i64 x.op) (.string x.name) (.int .i64 x.cmp) (.int .i64 x.val) (.int .i64 x.lo) (.int .i64 x.hi) (.slice B f.len d) (.int .i64 (k5)) (.int .i64 0))
    have HF9 := Lib.hid (set9c_fr w2 W.heap.size (.int .i64 x.op) (.string x.name) (.int .i64 x.cmp) (.int .i64 x.val) (.int .i64 x.lo) (.int .i64 x.hi) (.slice B f.len d) (.int .i64 (k5)) (.int .i64 0))
    change bodyPost _ _ _ _ _ (set9c w2 W.heap.size (.int .i64 x.op) (.string x.name) (.int .i64 x.cmp) (.int .i64 x.val) (.int .i64 x.lo) (.int .i64 x.hi) (.slice B f.len d) (.int .i64 (k5)) (.int .i64 0))
    generalize set9c w2 W.heap.size (.int .i64 x.op) (.string x.name) (.int .i64 x.cmp) (.int .i64 x.val) (.int .i64 x.lo) (.int .i64 x.hi) (.slice B f.len d) (.int .i64 (k5)) (.int .i64 0) = W9 at *
    have HS := HB9.out.cell
    refine bodyPost_ret (v := .agg #[.int .i64 x.op, .string x.name, .int .i64 x.cmp, .int .i64 x.val, .int .i64 x.lo, .int .i64 x.hi, .slice B f.len d, .int .i64 (k5), .int .i64 0]) (by simp [results, Tryd.results49, go_sem, HS]) rfl ?_
    exact ⟨B, d, f, k5, rfl, hk5, rfl, HTR.out, slp_end HSL.out HF9.out, own9 HFR.out HF9.out⟩
end Go.Proofs.YtfebkjoohnlifaaDoor
