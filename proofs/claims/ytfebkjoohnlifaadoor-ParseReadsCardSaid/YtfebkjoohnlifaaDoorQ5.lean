/- parse's reader: unary. -/
import Derived.Test.YtfebkjoohnlifaaDoorQ3
import Derived.Deep.DeepCutAuto
namespace Go.Proofs.YtfebkjoohnlifaaDoor
open Go.RowKit Go.Shelf

theorem blk_new2 {W : World} {o : Obj} {t : TypeId} {cs : Array Value} : Blk ((W.alloc o).alloc (.cells cs t)) (W.heap.size + 1) t cs := Blk.new_eq (by simp)
theorem Rdr.new {W w1 w2 : World} {R : Nat} {A : Option Addr} {c : Nat} {toks : List (TK × Nat)} {k0 k : Nat} {e0 p0 e p : Int} {S : Nat → Prop} (h0 : Rdr W R A c toks k0 e0 p0) (h : Rdr w1 R A c toks k e p) (hf : Fr S w1 w2) (hS : ∀ i, S i → W.heap.size ≤ i) : Rdr w2 R A c toks k e p := by
  have hR := h0.blk.lt
  refine ⟨h.blk.fr hf (fun hs => by have := hS _ hs; omega), h.sl.fr hf (fun b o hA hn hs => ?_), h.off⟩
  obtain ⟨b2, o2, e, hb, _⟩ := h0.sl.cells hn
  rw [hA] at e; cases e
  have := hS _ hs; omega
theorem fr_new {W w1 : World} {R : Nat} (h : Fr (Only R) W w1) {p : Addr} (hp : W.heap.size ≤ p.block) (v : Value) : Fr (Only R) W (w1.setCell p v) := h.setCell (fun hlt => by omega) v
theorem fr_only (w : World) (p : Addr) (v : Value) : Fr (Only p.block) w (w.setCell p v) := (Fr.refl (Only p.block) w).setCell (fun _ => rfl) v
theorem fr_only2 (w : World) (g i j : Nat) (v u : Value) : Fr (Only g) w ((w.setCell ⟨g, i, none⟩ v).setCell ⟨g, j, none⟩ u) := (fr_only w ⟨g, i, none⟩ v).setCell (p := ⟨g, j, none⟩) (fun _ => rfl) u
theorem only_new {n g : Nat} (h : n ≤ g) : ∀ i, Only g i → n ≤ i := fun i hi => by unfold Only at hi; omega
theorem blk7_0 {W : World} {g : Nat} {t : TypeId} {a b d e f h i : Value} (H : Blk W g t #[a, b, d, e, f, h, i]) (u : Value) : Blk (W.setCell ⟨g, 0, none⟩ u) g t #[u, b, d, e, f, h, i] := by have := H.set 0 u; simpa using this
theorem blk7_6 {W : World} {g : Nat} {t : TypeId} {a b d e f h i : Value} (H : Blk W g t #[a, b, d, e, f, h, i]) (u : Value) : Blk (W.setCell ⟨g, 6, none⟩ u) g t #[a, b, d, e, f, h, u] := by have := H.set 6 u; simpa using this
theorem blk7_45 {W : World} {g : Nat} {t : TypeId} {a b d e f h i : Value} (H : Blk W g t #[a, b, d, e, f, h, i]) (u v : Value) : Blk ((W.setCell ⟨g, 4, none⟩ u).setCell ⟨g, 5, none⟩ v) g t #[a, b, d, e, u, v, i] := by have := (H.set 4 u).set 5 v; simpa using this
theorem Bad.new {W w1 w2 wa : World} {R : Nat} {A : Option Addr} {c : Nat} {toks : List (TK × Nat)} {k0 : Nat} {e0 p0 er : Int} {r : List TK} {S : Nat → Prop} (h0 : Rdr W R A c toks k0 e0 p0) (hb : Bad w1 w2 R A c toks er r) (hf : Fr S w2 wa) (hS : ∀ i, S i → W.heap.size ≤ i) (hfr : Fr (Only R) W wa) : Bad W wa R A c toks er r := by
  obtain ⟨k', kk, hk, h1, h2⟩ := hb.rd
  exact ⟨⟨k', kk, hk, h1, h0.new h2 hf hS⟩, hfr⟩
/-- The world behind the kid's row. -/
structure UT (W w2 wa : World) (R : Nat) (op lo hi : Int) (cs : Array Value) : Prop where
  z : Blk wa W.heap.size 28 #[.int .i64 0, .string ⟨#[]⟩, .int .i64 0, .int .i64 0, .int .i64 0, .int .i64 0, .slice none 0 0]
  f : Blk wa (W.heap.size + 1) 28 #[.int .i64 op, .string ⟨#[]⟩, .int .i64 0, .int .i64 0, .int .i64 lo, .int .i64 hi, .slice (some ⟨w2.heap.size + 1, 0, none⟩) 1 1]
  row : Blk wa (w2.heap.size + 1) 28 cs
  fr : Fr (Only R) W wa
  fr2 : Fr (Only (W.heap.size + 1)) w2 wa
theorem utail {W w2 : World} {R : Nat} {op lo hi : Int} {o : Obj} {cs : Array Value} (hz : Blk w2 W.heap.size 28 #[.int .i64 0, .string ⟨#[]⟩, .int .i64 0, .int .i64 0, .int .i64 0, .int .i64 0, .slice none 0 0])
    (hf : Blk w2 (W.heap.size + 1) 28 #[.int .i64 op, .string ⟨#[]⟩, .int .i64 0, .int .i64 0, .int .i64 lo, .int .i64 hi, .slice none 0 0]) (hfr : Fr (Only R) W w2) :
    ∃ wa, ((w2.setCell ⟨W.heap.size + 1, 6, none⟩ (.slice (some ⟨w2.heap.size + 1, 0, none⟩) 1 1)).alloc o).alloc (.cells cs 28) = wa ∧ UT W w2 wa R op lo hi cs := by
  refine ⟨_, rfl, ⟨?_, ?_, Blk.new_eq (by simp), ?_, ?_⟩⟩
  · exact ((hz.far (p := ⟨W.heap.size + 1, 6, none⟩) (by simp) _).alloc _).alloc _
  · exact ((blk7_6 hf _).alloc _).alloc _
  · exact ((fr_new hfr (p := ⟨W.heap.size + 1, 6, none⟩) (by simp) _).alloc _).alloc _
  · exact ((fr_only w2 ⟨W.heap.size + 1, 6, none⟩ _).alloc _).alloc _
theorem UT.good {W w1 w2 wa W7 : World} {R : Nat} {A : Option Addr} {c : Nat} {toks : List (TK × Nat)} {k0 k : Nat} {op lo hi : Int} {y : Nd} {B : Option Addr} {d : Nat} {f : Fo} {js : Tr} (h0 : Rdr W R A c toks k0 0 0)
    (h : UT W w2 wa R op lo hi #[.int .i64 y.op, .string y.name, .int .i64 y.cmp, .int .i64 y.val, .int .i64 y.lo, .int .i64 y.hi, .slice B f.len d]) (hg : Got w1 w2 R A c toks k B d f js) (hw : W.heap.size + 1 < w1.heap.size)
    (h7 : Fr (Only W.heap.size) wa W7) : Got W W7 R A c toks k (some ⟨w2.heap.size + 1, 0, none⟩) 1 (.cons y B d f .nil) (one y js) := by
  have hd := done7 h0 h.fr h7 (h0.new hg.rd h.fr2 (only_new (by omega)))
  refine ⟨by rw [Fo.tr, hg.tr]; rfl, done7_sl (kids_one h.row ?_ ?_) h7, hd.1, hd.2⟩
  · exact (hg.sl.keep (fun k hk hlt => h.fr2.block k hlt (by unfold Only; omega))).mono (fun k hk => by omega)
  · have := hg.fr.size; omega
theorem stail {W w2 : World} {R : Nat} {op : Int} (lo hi : Int) (hz : Blk w2 W.heap.size 28 #[.int .i64 0, .string ⟨#[]⟩, .int .i64 0, .int .i64 0, .int .i64 0, .int .i64 0, .slice none 0 0])
    (hf : Blk w2 (W.heap.size + 1) 28 #[.int .i64 op, .string ⟨#[]⟩, .int .i64 0, .int .i64 0, .int .i64 0, .int .i64 0, .slice none 0 0]) (hfr : Fr (Only R) W w2) :
    ∃ wa, (w2.setCell ⟨W.heap.size + 1, 4, none⟩ (.int .i64 lo)).setCell ⟨W.heap.size + 1, 5, none⟩ (.int .i64 hi) = wa ∧ Blk wa W.heap.size 28 #[.int .i64 0, .string ⟨#[]⟩, .int .i64 0, .int .i64 0, .int .i64 0, .int .i64 0, .slice none 0 0] ∧
      Blk wa (W.heap.size + 1) 28 #[.int .i64 op, .string ⟨#[]⟩, .int .i64 0, .int .i64 0, .int .i64 lo, .int .i64 hi, .slice none 0 0] ∧ Fr (Only R) W wa ∧ Fr (Only (W.heap.size + 1)) w2 wa := by
  refine ⟨_, rfl, ?_, ?_, ?_, ?_⟩
  · exact (hz.far (p := ⟨W.heap.size + 1, 4, none⟩) (by simp) _).far (p := ⟨W.heap.size + 1, 5, none⟩) (by simp) _
  · exact blk7_45 hf _ _
  · exact fr_new (fr_new hfr (p := ⟨W.heap.size + 1, 4, none⟩) (by simp) _) (p := ⟨W.heap.size + 1, 5, none⟩) (by simp) _
  · exact fr_only2 _ _ _ _ _ _
set_option maxRecDepth 100000 in
set_option maxHeartbeats 8000000 in
theorem side_unary (R : Nat) (A : Option Addr) (c : Nat) (toks : List (TK × Nat)) (ht : Toks toks) (n : Nat) (hat : SideOk 232 7 R A c toks (gP n)) (hun : SideOk 216 6 R A c toks (gP n)) :
    SideOk 216 6 R A c toks (gP (n + 1)) := by
  intro W k h hk hne
  have hR := h.blk.lt
  have hOR : ¬ Only R W.heap.size := only_ne hR
  have hOF : ¬ Only R (W.heap.size + 1) := only_ne (by omega)
  have H0 := Lib.hid (fun X (hf : Fr Nob W X) => h.fr hf)
  have HRD := Lib.hid h
  rw [show gP (n + 1) (.lev 6 (remT toks k)) = (if sgn (remT toks k) [33] then (gP n (.lev 6 (remT toks k).tail)).bind fun y js r => .ok (nd1 4 0 0) (one y js) r
    else if sgn (remT toks k) [70] then (spanP (remT toks k).tail).bind fun lo hi r => (gP n (.lev 6 r)).bind fun y js r2 => .ok (nd1 9 lo hi) (one y js) r2
    else if sgn (remT toks k) [71] then (spanP (remT toks k).tail).bind fun lo hi r => (gP n (.lev 6 r)).bind fun y js r2 => .ok (nd1 10 lo hi) (one y js) r2
    else gP n (.lev 7 (remT toks k))) from rfl] at hne ⊢
  simp only [sgn_rem hk, remT_tail] at hne ⊢
  cases h1 : tsg toks[k] [33]
  · have HT := Lib.hid (fun X (h : Rdr X R A c toks k 0 0) => take_no h ht hk h1)
    rw [h1, if_neg (by simp)] at hne
    rw [if_neg (by simp)]
    cases h2 : tsg toks[k] [70]
    · have HT2 := Lib.hid (fun X (h : Rdr X R A c toks k 0 0) => take_no h ht hk h2)
      rw [h2, if_neg (by simp)] at hne
      rw [if_neg (by simp)]
      cases h3 : tsg toks[k] [71]
      · have HT3 := Lib.hid (fun X (h : Rdr X R A c toks k 0 0) => take_no h ht hk h3)
        rw [h3, if_neg (by simp)] at hne
        rw [if_neg (by simp)]
        cases hq : gP n (.lev 7 (remT toks k)) with
        | out => rw [hq] at hne; exact absurd rfl hne
        | bad er r =>
          have HAT := Lib.hid (side_bad hat hk hq)
          unfold fval at HAT
          clear h hne hq hat hun h1 h2 h3
          unfold SideR fval
          go_enter Tryd.func216, Tryd.ntmps216
          go_wp2_with (first
            | ((go_at_call 132); (with_reducible refine (HT.out _ (H0.out _ (((Fr.refl _ _).alloc _).alloc _))).mono ?_); rintro en w1 ⟨rfl, hr1, hf1⟩; have HZ := Lib.hid (((Blk.new W 28 #[.int .i64 0, .string ⟨#[]⟩, .int .i64 0, .int .i64 0, .int .i64 0, .int .i64 0, .slice none 0 0]).alloc _).fr hf1 hOR); have HF := Lib.hid (blk_new2.fr hf1 hOF); have HFR := Lib.hid ((((Fr.refl (Only R) W).alloc _).alloc _).call hf1 (fun _ h _ => h)); have HR1 := Lib.hid hr1; have zc := HZ.out.cell; have zf := HZ.out.frozen; have fc := HF.out.cell; have ff := HF.out.frozen; have zl := HZ.out.lt; have fl := HF.out.lt; clear hr1 hf1)
            | ((go_at_call 132); (with_reducible refine (HT2.out _ HR1.out).mono ?_); rintro en w2 ⟨rfl, hr1, hf1⟩; replace HZ := Lib.hid (HZ.out.fr hf1 hOR); replace HF := Lib.hid (HF.out.fr hf1 hOF); replace HFR := Lib.hid (HFR.out.call hf1 (fun _ h _ => h)); replace HR1 := Lib.hid hr1; replace zc := HZ.out.cell; replace zf := HZ.out.frozen; replace fc := HF.out.cell; replace ff := HF.out.frozen; replace zl := HZ.out.lt; replace fl := HF.out.lt; clear hr1 hf1)
            | ((go_at_call 132); (with_reducible refine (HT3.out _ HR1.out).mono ?_); rintro en w3 ⟨rfl, hr1, hf1⟩; replace HZ := Lib.hid (HZ.out.fr hf1 hOR); replace HF := Lib.hid (HF.out.fr hf1 hOF); replace HFR := Lib.hid (HFR.out.call hf1 (fun _ h _ => h)); replace HR1 := Lib.hid hr1; replace zc := HZ.out.cell; replace zf := HZ.out.frozen; replace fc := HF.out.cell; replace ff := HF.out.frozen; replace zl := HZ.out.lt; replace fl := HF.out.lt; clear hr1 hf1)
            | ((go_at_call 232); (with_reducible refine (HAT.out _ HR1.out).mono ?_); rintro en w4 ⟨x, B, m, d, rfl, hg⟩; replace HZ := Lib.hid (HZ.out.fr hg.fr hOR); replace HFR := Lib.hid (HFR.out.call hg.fr (fun _ h _ => h)); replace zc := HZ.out.cell; replace zf := HZ.out.frozen; replace zl := HZ.out.lt; clear fc ff fl HF; have HG := Lib.hid hg; clear hg)
            )
          have HB7 := Lib.hid (set7_blk HZ.out (.int .i64 x.op) (.string x.name) (.int .i64 x.cmp) (.int .i64 x.val) (.int .i64 x.lo) (.int .i64 x.hi) (.slice B m d))
          have HF7 := Lib.hid (set7_fr w4 W.heap.size (.int .i64 x.op) (.string x.name) (.int .i64 x.cmp) (.int .i64 x.val) (.int .i64 x.lo) (.int .i64 x.hi) (.slice B m d))
          change bodyPost _ _ _ _ _ (set7 w4 W.heap.size (.int .i64 x.op) (.string x.name) (.int .i64 x.cmp) (.int .i64 x.val) (.int .i64 x.lo) (.int .i64 x.hi) (.slice B m d))
          generalize set7 w4 W.heap.size (.int .i64 x.op) (.string x.name) (.int .i64 x.cmp) (.int .i64 x.val) (.int .i64 x.lo) (.int .i64 x.hi) (.slice B m d) = W7 at *
          have HS := HB7.out.cell
          refine bodyPost_ret (v := .tuple #[.agg #[.int .i64 x.op, .string x.name, .int .i64 x.cmp, .int .i64 x.val, .int .i64 x.lo, .int .i64 x.hi, .slice B m d], .bool false]) (by simp [results, Tryd.results216, go_sem, HS]) rfl ?_
          exact ⟨x, B, m, d, rfl, bad_done7 HRD.out HFR.out HF7.out HG.out⟩
        | ok x ks r =>
          obtain ⟨k3, hk3, rfl⟩ := lev_pos ht hk hq
          have HAT := Lib.hid (side_ok hat hk hq hk3)
          unfold fval at HAT
          clear h hne hq hat hun h1 h2 h3
          unfold SideR fval
          go_enter Tryd.func216, Tryd.ntmps216
          go_wp2_with (first
            | ((go_at_call 132); (with_reducible refine (HT.out _ (H0.out _ (((Fr.refl _ _).alloc _).alloc _))).mono ?_); rintro en w1 ⟨rfl, hr1, hf1⟩; have HZ := Lib.hid (((Blk.new W 28 #[.int .i64 0, .string ⟨#[]⟩, .int .i64 0, .int .i64 0, .int .i64 0, .int .i64 0, .slice none 0 0]).alloc _).fr hf1 hOR); have HF := Lib.hid (blk_new2.fr hf1 hOF); have HFR := Lib.hid ((((Fr.refl (Only R) W).alloc _).alloc _).call hf1 (fun _ h _ => h)); have HR1 := Lib.hid hr1; have zc := HZ.out.cell; have zf := HZ.out.frozen; have fc := HF.out.cell; have ff := HF.out.frozen; have zl := HZ.out.lt; have fl := HF.out.lt; clear hr1 hf1)
            | ((go_at_call 132); (with_reducible refine (HT2.out _ HR1.out).mono ?_); rintro en w2 ⟨rfl, hr1, hf1⟩; replace HZ := Lib.hid (HZ.out.fr hf1 hOR); replace HF := Lib.hid (HF.out.fr hf1 hOF); replace HFR := Lib.hid (HFR.out.call hf1 (fun _ h _ => h)); replace HR1 := Lib.hid hr1; replace zc := HZ.out.cell; replace zf := HZ.out.frozen; replace fc := HF.out.cell; replace ff := HF.out.frozen; replace zl := HZ.out.lt; replace fl := HF.out.lt; clear hr1 hf1)
            | ((go_at_call 132); (with_reducible refine (HT3.out _ HR1.out).mono ?_); rintro en w3 ⟨rfl, hr1, hf1⟩; replace HZ := Lib.hid (HZ.out.fr hf1 hOR); replace HF := Lib.hid (HF.out.fr hf1 hOF); replace HFR := Lib.hid (HFR.out.call hf1 (fun _ h _ => h)); replace HR1 := Lib.hid hr1; replace zc := HZ.out.cell; replace zf := HZ.out.frozen; replace fc := HF.out.cell; replace ff := HF.out.frozen; replace zl := HZ.out.lt; replace fl := HF.out.lt; clear hr1 hf1)
            | ((go_at_call 232); (with_reducible refine (HAT.out _ HR1.out).mono ?_); rintro en w4 ⟨B, d, f, rfl, hg⟩; have zl0 := Lib.hid zl; replace HZ := Lib.hid (HZ.out.fr hg.fr hOR); replace HFR := Lib.hid (HFR.out.call hg.fr (fun _ h _ => h)); replace zc := HZ.out.cell; replace zf := HZ.out.frozen; replace zl := HZ.out.lt; clear fc ff fl HF; have HG := Lib.hid hg; clear hg)
            )
          have HB7 := Lib.hid (set7_blk HZ.out (.int .i64 x.op) (.string x.name) (.int .i64 x.cmp) (.int .i64 x.val) (.int .i64 x.lo) (.int .i64 x.hi) (.slice B f.len d))
          have HF7 := Lib.hid (set7_fr w4 W.heap.size (.int .i64 x.op) (.string x.name) (.int .i64 x.cmp) (.int .i64 x.val) (.int .i64 x.lo) (.int .i64 x.hi) (.slice B f.len d))
          change bodyPost _ _ _ _ _ (set7 w4 W.heap.size (.int .i64 x.op) (.string x.name) (.int .i64 x.cmp) (.int .i64 x.val) (.int .i64 x.lo) (.int .i64 x.hi) (.slice B f.len d))
          generalize set7 w4 W.heap.size (.int .i64 x.op) (.string x.name) (.int .i64 x.cmp) (.int .i64 x.val) (.int .i64 x.lo) (.int .i64 x.hi) (.slice B f.len d) = W7 at *
          have HS := HB7.out.cell
          refine bodyPost_ret (v := .tuple #[.agg #[.int .i64 x.op, .string x.name, .int .i64 x.cmp, .int .i64 x.val, .int .i64 x.lo, .int .i64 x.hi, .slice B f.len d], .bool true]) (by simp [results, Tryd.results216, go_sem, HS]) rfl ?_
          have hd := done7 HRD.out HFR.out HF7.out HG.out.rd
          exact ⟨B, d, f, rfl, k3, hk3, rfl, HG.out.tr, done7_sl (sl_up (by have := zl0.out; omega) HG.out.sl) HF7.out, hd.1, hd.2⟩
      · have HT3 := Lib.hid (fun X (h : Rdr X R A c toks k 0 0) => take_yes h ht hk h3)
        rw [h3, if_pos rfl] at hne
        rw [if_pos rfl]
        have hk2 := tsg_next ht hk h3
        cases hsp : spanP (remT toks (k + 1)) with
        | bad er r =>
          have HSP := Lib.hid (span_bad ht hk2 (R := R) (A := A) (c := c) hsp)
          rw [show ∀ g, (SR.bad er r).bind g = .bad er r from fun _ => rfl]
          clear h hne hat hun hsp h1 h2 h3
          unfold SideR fval
          go_enter Tryd.func216, Tryd.ntmps216
          go_upto_region 13 with (first
            | ((go_at_call 132); (with_reducible refine (HT.out _ (H0.out _ (((Fr.refl _ _).alloc _).alloc _))).mono ?_); rintro en w1 ⟨rfl, hr1, hf1⟩; have HZ := Lib.hid (((Blk.new W 28 #[.int .i64 0, .string ⟨#[]⟩, .int .i64 0, .int .i64 0, .int .i64 0, .int .i64 0, .slice none 0 0]).alloc _).fr hf1 hOR); have HF := Lib.hid (blk_new2.fr hf1 hOF); have HFR := Lib.hid ((((Fr.refl (Only R) W).alloc _).alloc _).call hf1 (fun _ h _ => h)); have HR1 := Lib.hid hr1; have zc := HZ.out.cell; have zf := HZ.out.frozen; have fc := HF.out.cell; have ff := HF.out.frozen; have zl := HZ.out.lt; have fl := HF.out.lt; clear hr1 hf1)
            | ((go_at_call 132); (with_reducible refine (HT2.out _ HR1.out).mono ?_); rintro en w2 ⟨rfl, hr1, hf1⟩; replace HZ := Lib.hid (HZ.out.fr hf1 hOR); replace HF := Lib.hid (HF.out.fr hf1 hOF); replace HFR := Lib.hid (HFR.out.call hf1 (fun _ h _ => h)); replace HR1 := Lib.hid hr1; replace zc := HZ.out.cell; replace zf := HZ.out.frozen; replace fc := HF.out.cell; replace ff := HF.out.frozen; replace zl := HZ.out.lt; replace fl := HF.out.lt; clear hr1 hf1)
            | ((go_at_call 132); (with_reducible refine (HT3.out _ HR1.out).mono ?_); rintro en w3 ⟨rfl, hr1, hf1⟩; replace HZ := Lib.hid (HZ.out.fr hf1 hOR); replace HF := Lib.hid (HF.out.fr hf1 hOF); replace HFR := Lib.hid (HFR.out.call hf1 (fun _ h _ => h)); replace HR1 := Lib.hid hr1; replace zc := HZ.out.cell; replace zf := HZ.out.frozen; replace fc := HF.out.cell; replace ff := HF.out.frozen; replace zl := HZ.out.lt; replace fl := HF.out.lt; clear hr1 hf1)
            | ((go_at_call 217); (with_reducible refine (HSP.out _ ?_).mono ?_); exact (HRD.out.new HR1.out (fr_only _ _ _) (only_new (by simp))); rintro en w4 ⟨lo, hi, rfl, hb⟩; replace HF := Lib.hid ((blk7_0 HF.out (.int .i64 10)).fr hb.fr hOF); replace HZ := Lib.hid ((HZ.out.far (p := ⟨W.heap.size + 1, 0, none⟩) (by simp) _).fr hb.fr hOR); replace HFR := Lib.hid ((fr_new HFR.out (p := ⟨W.heap.size + 1, 0, none⟩) (by simp) _).call hb.fr (fun _ h _ => h)); replace zc := HZ.out.cell; replace zf := HZ.out.frozen; replace fc := HF.out.cell; replace ff := HF.out.frozen; replace zl := HZ.out.lt; replace fl := HF.out.lt; have HG := Lib.hid hb; clear hb)
            )
          obtain ⟨wa, hwa, hut⟩ := stail lo hi HZ.out HF.out HFR.out
          rw [hwa]
          have HUT := Lib.hid hut
          replace HZ := Lib.hid hut.1
          replace zc := hut.1.cell
          replace zf := hut.1.frozen
          replace zl := hut.1.lt
          replace fc := hut.2.1.cell
          clear ff fl hwa hut HF HFR
          have HB7 := Lib.hid (set7_blk HZ.out (.int .i64 10) (.string ⟨#[]⟩) (.int .i64 0) (.int .i64 0) (.int .i64 lo) (.int .i64 hi) (.slice none 0 0))
          have HF7 := Lib.hid (set7_fr wa W.heap.size (.int .i64 10) (.string ⟨#[]⟩) (.int .i64 0) (.int .i64 0) (.int .i64 lo) (.int .i64 hi) (.slice none 0 0))
          go_wp2_with fail
          change bodyPost _ _ _ _ _ (set7 wa W.heap.size (.int .i64 10) (.string ⟨#[]⟩) (.int .i64 0) (.int .i64 0) (.int .i64 lo) (.int .i64 hi) (.slice none 0 0))
          generalize set7 wa W.heap.size (.int .i64 10) (.string ⟨#[]⟩) (.int .i64 0) (.int .i64 0) (.int .i64 lo) (.int .i64 hi) (.slice none 0 0) = W7 at *
          have HS := HB7.out.cell
          refine bodyPost_ret (v := .tuple #[.agg #[.int .i64 10, .string ⟨#[]⟩, .int .i64 0, .int .i64 0, .int .i64 lo, .int .i64 hi, .slice none 0 0], .bool false]) (by simp [results, Tryd.results216, go_sem, HS]) rfl ?_
          exact ⟨nd1 10 lo hi, none, 0, 0, rfl, bad_done7 HRD.out HUT.out.2.2.1 HF7.out (HG.out.new HRD.out HUT.out.2.2.2 (only_new (by omega)) HUT.out.2.2.1)⟩
        | ok lo hi r =>
          obtain ⟨k4, hk4, rfl⟩ := span_at ht hk2 hsp
          have HSP := Lib.hid (span_ok ht hk2 (R := R) (A := A) (c := c) hsp hk4)
          rw [hsp] at hne
          rw [show ∀ g, (SR.ok lo hi (remT toks k4)).bind g = g lo hi (remT toks k4) from fun _ => rfl] at hne ⊢
          cases hq : gP n (.lev 6 (remT toks k4)) with
          | out => rw [hq] at hne; exact absurd rfl hne
          | bad er r =>
            have HUN := Lib.hid (side_bad hun hk4 hq)
            rw [show ∀ g, (PR.bad er r).bind g = .bad er r from fun _ => rfl]
            unfold fval at HUN
            clear h hne hq hat hun hsp h1 h2 h3
            unfold SideR fval
            go_enter Tryd.func216, Tryd.ntmps216
            go_upto_region 16 with (first
              | ((go_at_call 132); (with_reducible refine (HT.out _ (H0.out _ (((Fr.refl _ _).alloc _).alloc _))).mono ?_); rintro en w1 ⟨rfl, hr1, hf1⟩; have HZ := Lib.hid (((Blk.new W 28 #[.int .i64 0, .string ⟨#[]⟩, .int .i64 0, .int .i64 0, .int .i64 0, .int .i64 0, .slice none 0 0]).alloc _).fr hf1 hOR); have HF := Lib.hid (blk_new2.fr hf1 hOF); have HFR := Lib.hid ((((Fr.refl (Only R) W).alloc _).alloc _).call hf1 (fun _ h _ => h)); have HR1 := Lib.hid hr1; have zc := HZ.out.cell; have zf := HZ.out.frozen; have fc := HF.out.cell; have ff := HF.out.frozen; have zl := HZ.out.lt; have fl := HF.out.lt; clear hr1 hf1)
              | ((go_at_call 132); (with_reducible refine (HT2.out _ HR1.out).mono ?_); rintro en w2 ⟨rfl, hr1, hf1⟩; replace HZ := Lib.hid (HZ.out.fr hf1 hOR); replace HF := Lib.hid (HF.out.fr hf1 hOF); replace HFR := Lib.hid (HFR.out.call hf1 (fun _ h _ => h)); replace HR1 := Lib.hid hr1; replace zc := HZ.out.cell; replace zf := HZ.out.frozen; replace fc := HF.out.cell; replace ff := HF.out.frozen; replace zl := HZ.out.lt; replace fl := HF.out.lt; clear hr1 hf1)
              | ((go_at_call 132); (with_reducible refine (HT3.out _ HR1.out).mono ?_); rintro en w3 ⟨rfl, hr1, hf1⟩; replace HZ := Lib.hid (HZ.out.fr hf1 hOR); replace HF := Lib.hid (HF.out.fr hf1 hOF); replace HFR := Lib.hid (HFR.out.call hf1 (fun _ h _ => h)); replace HR1 := Lib.hid hr1; replace zc := HZ.out.cell; replace zf := HZ.out.frozen; replace fc := HF.out.cell; replace ff := HF.out.frozen; replace zl := HZ.out.lt; replace fl := HF.out.lt; clear hr1 hf1)
              | ((go_at_call 217); (with_reducible refine (HSP.out _ ?_).mono ?_); exact (HRD.out.new HR1.out (fr_only _ _ _) (only_new (by simp))); rintro en w4 ⟨rfl, hr1, hf1⟩; replace HF := Lib.hid ((blk7_0 HF.out (.int .i64 10)).fr hf1 hOF); replace HZ := Lib.hid ((HZ.out.far (p := ⟨W.heap.size + 1, 0, none⟩) (by simp) _).fr hf1 hOR); replace HFR := Lib.hid ((fr_new HFR.out (p := ⟨W.heap.size + 1, 0, none⟩) (by simp) _).call hf1 (fun _ h _ => h)); replace zc := HZ.out.cell; replace zf := HZ.out.frozen; replace fc := HF.out.cell; replace ff := HF.out.frozen; replace zl := HZ.out.lt; replace fl := HF.out.lt; replace HR1 := Lib.hid hr1; clear hr1 hf1)
              | ((go_at_call 216); (with_reducible refine (HUN.out _ ?_).mono ?_); exact (HRD.out.new HR1.out (fr_only2 _ _ _ _ _ _) (only_new (by simp))); rintro en w2 ⟨x, B, m, d, rfl, hg⟩; have fl0 := Lib.hid fl; replace HF := Lib.hid ((blk7_45 HF.out (.int .i64 lo) (.int .i64 hi)).fr hg.fr hOF); replace HZ := Lib.hid (((HZ.out.far (p := ⟨W.heap.size + 1, 4, none⟩) (by simp) (.int .i64 lo)).far (p := ⟨W.heap.size + 1, 5, none⟩) (by simp) (.int .i64 hi)).fr hg.fr hOR); replace HFR := Lib.hid ((fr_new (fr_new HFR.out (p := ⟨W.heap.size + 1, 4, none⟩) (by simp) (.int .i64 lo)) (p := ⟨W.heap.size + 1, 5, none⟩) (by simp) (.int .i64 hi)).call hg.fr (fun _ h _ => h)); replace zc := HZ.out.cell; replace zf := HZ.out.frozen; replace fc := HF.out.cell; replace ff := HF.out.frozen; replace zl := HZ.out.lt; replace fl := HF.out.lt; have HG := Lib.hid hg; clear hg)
              )
            obtain ⟨wa, hwa, hut⟩ := utail (o := fbox x B m d) (cs := #[.int .i64 x.op, .string x.name, .int .i64 x.cmp, .int .i64 x.val, .int .i64 x.lo, .int .i64 x.hi, .slice B m d]) HZ.out HF.out HFR.out
            unfold fbox at hwa
            rw [hwa]
            have HUT := Lib.hid hut
            replace HZ := Lib.hid hut.z
            replace zc := hut.z.cell
            replace zf := hut.z.frozen
            replace zl := hut.z.lt
            replace fc := hut.f.cell
            clear ff fl hwa hut HF HFR
            have HB7 := Lib.hid (set7_blk HZ.out (.int .i64 10) (.string ⟨#[]⟩) (.int .i64 0) (.int .i64 0) (.int .i64 lo) (.int .i64 hi) (.slice (some ⟨w2.heap.size + 1, 0, none⟩) 1 1))
            have HF7 := Lib.hid (set7_fr wa W.heap.size (.int .i64 10) (.string ⟨#[]⟩) (.int .i64 0) (.int .i64 0) (.int .i64 lo) (.int .i64 hi) (.slice (some ⟨w2.heap.size + 1, 0, none⟩) 1 1))
            go_wp2_with fail
            change bodyPost _ _ _ _ _ (set7 wa W.heap.size (.int .i64 10) (.string ⟨#[]⟩) (.int .i64 0) (.int .i64 0) (.int .i64 lo) (.int .i64 hi) (.slice (some ⟨w2.heap.size + 1, 0, none⟩) 1 1))
            generalize set7 wa W.heap.size (.int .i64 10) (.string ⟨#[]⟩) (.int .i64 0) (.int .i64 0) (.int .i64 lo) (.int .i64 hi) (.slice (some ⟨w2.heap.size + 1, 0, none⟩) 1 1) = W7 at *
            have HS := HB7.out.cell
            refine bodyPost_ret (v := .tuple #[.agg #[.int .i64 10, .string ⟨#[]⟩, .int .i64 0, .int .i64 0, .int .i64 lo, .int .i64 hi, .slice (some ⟨w2.heap.size + 1, 0, none⟩) 1 1], .bool false]) (by simp [results, Tryd.results216, go_sem, HS]) rfl ?_
            exact ⟨nd1 10 lo hi, some ⟨w2.heap.size + 1, 0, none⟩, 1, 1, rfl, bad_done7 HRD.out HUT.out.fr HF7.out (HG.out.new HRD.out HUT.out.fr2 (only_new (by omega)) HUT.out.fr)⟩
          | ok y js r =>
            obtain ⟨k3, hk3, rfl⟩ := lev_pos ht hk4 hq
            have HUN := Lib.hid (side_ok hun hk4 hq hk3)
            rw [show ∀ g, (PR.ok y js (remT toks k3)).bind g = g y js (remT toks k3) from fun _ => rfl]
            unfold fval at HUN
            clear h hne hq hat hun hsp h1 h2 h3
            unfold SideR fval
            go_enter Tryd.func216, Tryd.ntmps216
            go_upto_region 16 with (first
              | ((go_at_call 132); (with_reducible refine (HT.out _ (H0.out _ (((Fr.refl _ _).alloc _).alloc _))).mono ?_); rintro en w1 ⟨rfl, hr1, hf1⟩; have HZ := Lib.hid (((Blk.new W 28 #[.int .i64 0, .string ⟨#[]⟩, .int .i64 0, .int .i64 0, .int .i64 0, .int .i64 0, .slice none 0 0]).alloc _).fr hf1 hOR); have HF := Lib.hid (blk_new2.fr hf1 hOF); have HFR := Lib.hid ((((Fr.refl (Only R) W).alloc _).alloc _).call hf1 (fun _ h _ => h)); have HR1 := Lib.hid hr1; have zc := HZ.out.cell; have zf := HZ.out.frozen; have fc := HF.out.cell; have ff := HF.out.frozen; have zl := HZ.out.lt; have fl := HF.out.lt; clear hr1 hf1)
              | ((go_at_call 132); (with_reducible refine (HT2.out _ HR1.out).mono ?_); rintro en w2 ⟨rfl, hr1, hf1⟩; replace HZ := Lib.hid (HZ.out.fr hf1 hOR); replace HF := Lib.hid (HF.out.fr hf1 hOF); replace HFR := Lib.hid (HFR.out.call hf1 (fun _ h _ => h)); replace HR1 := Lib.hid hr1; replace zc := HZ.out.cell; replace zf := HZ.out.frozen; replace fc := HF.out.cell; replace ff := HF.out.frozen; replace zl := HZ.out.lt; replace fl := HF.out.lt; clear hr1 hf1)
              | ((go_at_call 132); (with_reducible refine (HT3.out _ HR1.out).mono ?_); rintro en w3 ⟨rfl, hr1, hf1⟩; replace HZ := Lib.hid (HZ.out.fr hf1 hOR); replace HF := Lib.hid (HF.out.fr hf1 hOF); replace HFR := Lib.hid (HFR.out.call hf1 (fun _ h _ => h)); replace HR1 := Lib.hid hr1; replace zc := HZ.out.cell; replace zf := HZ.out.frozen; replace fc := HF.out.cell; replace ff := HF.out.frozen; replace zl := HZ.out.lt; replace fl := HF.out.lt; clear hr1 hf1)
              | ((go_at_call 217); (with_reducible refine (HSP.out _ ?_).mono ?_); exact (HRD.out.new HR1.out (fr_only _ _ _) (only_new (by simp))); rintro en w4 ⟨rfl, hr1, hf1⟩; replace HF := Lib.hid ((blk7_0 HF.out (.int .i64 10)).fr hf1 hOF); replace HZ := Lib.hid ((HZ.out.far (p := ⟨W.heap.size + 1, 0, none⟩) (by simp) _).fr hf1 hOR); replace HFR := Lib.hid ((fr_new HFR.out (p := ⟨W.heap.size + 1, 0, none⟩) (by simp) _).call hf1 (fun _ h _ => h)); replace zc := HZ.out.cell; replace zf := HZ.out.frozen; replace fc := HF.out.cell; replace ff := HF.out.frozen; replace zl := HZ.out.lt; replace fl := HF.out.lt; replace HR1 := Lib.hid hr1; clear hr1 hf1)
              | ((go_at_call 216); (with_reducible refine (HUN.out _ ?_).mono ?_); exact (HRD.out.new HR1.out (fr_only2 _ _ _ _ _ _) (only_new (by simp))); rintro en w2 ⟨B, d, f, rfl, hg⟩; have fl0 := Lib.hid fl; replace HF := Lib.hid ((blk7_45 HF.out (.int .i64 lo) (.int .i64 hi)).fr hg.fr hOF); replace HZ := Lib.hid (((HZ.out.far (p := ⟨W.heap.size + 1, 4, none⟩) (by simp) (.int .i64 lo)).far (p := ⟨W.heap.size + 1, 5, none⟩) (by simp) (.int .i64 hi)).fr hg.fr hOR); replace HFR := Lib.hid ((fr_new (fr_new HFR.out (p := ⟨W.heap.size + 1, 4, none⟩) (by simp) (.int .i64 lo)) (p := ⟨W.heap.size + 1, 5, none⟩) (by simp) (.int .i64 hi)).call hg.fr (fun _ h _ => h)); replace zc := HZ.out.cell; replace zf := HZ.out.frozen; replace fc := HF.out.cell; replace ff := HF.out.frozen; replace zl := HZ.out.lt; replace fl := HF.out.lt; have HG := Lib.hid hg; clear hg)
              )
            obtain ⟨wa, hwa, hut⟩ := utail (o := fbox y B f.len d) (cs := #[.int .i64 y.op, .string y.name, .int .i64 y.cmp, .int .i64 y.val, .int .i64 y.lo, .int .i64 y.hi, .slice B f.len d]) HZ.out HF.out HFR.out
            unfold fbox at hwa
            rw [hwa]
            have HUT := Lib.hid hut
            replace HZ := Lib.hid hut.z
            replace zc := hut.z.cell
            replace zf := hut.z.frozen
            replace zl := hut.z.lt
            replace fc := hut.f.cell
            clear ff fl hwa hut HF HFR
            have HB7 := Lib.hid (set7_blk HZ.out (.int .i64 10) (.string ⟨#[]⟩) (.int .i64 0) (.int .i64 0) (.int .i64 lo) (.int .i64 hi) (.slice (some ⟨w2.heap.size + 1, 0, none⟩) 1 1))
            have HF7 := Lib.hid (set7_fr wa W.heap.size (.int .i64 10) (.string ⟨#[]⟩) (.int .i64 0) (.int .i64 0) (.int .i64 lo) (.int .i64 hi) (.slice (some ⟨w2.heap.size + 1, 0, none⟩) 1 1))
            go_wp2_with fail
            change bodyPost _ _ _ _ _ (set7 wa W.heap.size (.int .i64 10) (.string ⟨#[]⟩) (.int .i64 0) (.int .i64 0) (.int .i64 lo) (.int .i64 hi) (.slice (some ⟨w2.heap.size + 1, 0, none⟩) 1 1))
            generalize set7 wa W.heap.size (.int .i64 10) (.string ⟨#[]⟩) (.int .i64 0) (.int .i64 0) (.int .i64 lo) (.int .i64 hi) (.slice (some ⟨w2.heap.size + 1, 0, none⟩) 1 1) = W7 at *
            have HS := HB7.out.cell
            refine bodyPost_ret (v := .tuple #[.agg #[.int .i64 10, .string ⟨#[]⟩, .int .i64 0, .int .i64 0, .int .i64 lo, .int .i64 hi, .slice (some ⟨w2.heap.size + 1, 0, none⟩) 1 1], .bool true]) (by simp [results, Tryd.results216, go_sem, HS]) rfl ?_
            exact ⟨some ⟨w2.heap.size + 1, 0, none⟩, 1, .cons y B d f .nil, rfl, k3, hk3, rfl, HUT.out.good HRD.out HG.out (by have := fl0.out; simpa using this) HF7.out⟩
    · have HT2 := Lib.hid (fun X (h : Rdr X R A c toks k 0 0) => take_yes h ht hk h2)
      rw [h2, if_pos rfl] at hne
      rw [if_pos rfl]
      have hk2 := tsg_next ht hk h2
      cases hsp : spanP (remT toks (k + 1)) with
      | bad er r =>
        have HSP := Lib.hid (span_bad ht hk2 (R := R) (A := A) (c := c) hsp)
        rw [show ∀ g, (SR.bad er r).bind g = .bad er r from fun _ => rfl]
        clear h hne hat hun hsp h1 h2
        unfold SideR fval
        go_enter Tryd.func216, Tryd.ntmps216
        go_upto_region 13 with (first
          | ((go_at_call 132); (with_reducible refine (HT.out _ (H0.out _ (((Fr.refl _ _).alloc _).alloc _))).mono ?_); rintro en w1 ⟨rfl, hr1, hf1⟩; have HZ := Lib.hid (((Blk.new W 28 #[.int .i64 0, .string ⟨#[]⟩, .int .i64 0, .int .i64 0, .int .i64 0, .int .i64 0, .slice none 0 0]).alloc _).fr hf1 hOR); have HF := Lib.hid (blk_new2.fr hf1 hOF); have HFR := Lib.hid ((((Fr.refl (Only R) W).alloc _).alloc _).call hf1 (fun _ h _ => h)); have HR1 := Lib.hid hr1; have zc := HZ.out.cell; have zf := HZ.out.frozen; have fc := HF.out.cell; have ff := HF.out.frozen; have zl := HZ.out.lt; have fl := HF.out.lt; clear hr1 hf1)
          | ((go_at_call 132); (with_reducible refine (HT2.out _ HR1.out).mono ?_); rintro en w3 ⟨rfl, hr1, hf1⟩; replace HZ := Lib.hid (HZ.out.fr hf1 hOR); replace HF := Lib.hid (HF.out.fr hf1 hOF); replace HFR := Lib.hid (HFR.out.call hf1 (fun _ h _ => h)); replace HR1 := Lib.hid hr1; replace zc := HZ.out.cell; replace zf := HZ.out.frozen; replace fc := HF.out.cell; replace ff := HF.out.frozen; replace zl := HZ.out.lt; replace fl := HF.out.lt; clear hr1 hf1)
          | ((go_at_call 217); (with_reducible refine (HSP.out _ ?_).mono ?_); exact (HRD.out.new HR1.out (fr_only _ _ _) (only_new (by simp))); rintro en w4 ⟨lo, hi, rfl, hb⟩; replace HF := Lib.hid ((blk7_0 HF.out (.int .i64 9)).fr hb.fr hOF); replace HZ := Lib.hid ((HZ.out.far (p := ⟨W.heap.size + 1, 0, none⟩) (by simp) _).fr hb.fr hOR); replace HFR := Lib.hid ((fr_new HFR.out (p := ⟨W.heap.size + 1, 0, none⟩) (by simp) _).call hb.fr (fun _ h _ => h)); replace zc := HZ.out.cell; replace zf := HZ.out.frozen; replace fc := HF.out.cell; replace ff := HF.out.frozen; replace zl := HZ.out.lt; replace fl := HF.out.lt; have HG := Lib.hid hb; clear hb)
          )
        obtain ⟨wa, hwa, hut⟩ := stail lo hi HZ.out HF.out HFR.out
        rw [hwa]
        have HUT := Lib.hid hut
        replace HZ := Lib.hid hut.1
        replace zc := hut.1.cell
        replace zf := hut.1.frozen
        replace zl := hut.1.lt
        replace fc := hut.2.1.cell
        clear ff fl hwa hut HF HFR
        have HB7 := Lib.hid (set7_blk HZ.out (.int .i64 9) (.string ⟨#[]⟩) (.int .i64 0) (.int .i64 0) (.int .i64 lo) (.int .i64 hi) (.slice none 0 0))
        have HF7 := Lib.hid (set7_fr wa W.heap.size (.int .i64 9) (.string ⟨#[]⟩) (.int .i64 0) (.int .i64 0) (.int .i64 lo) (.int .i64 hi) (.slice none 0 0))
        go_wp2_with fail
        change bodyPost _ _ _ _ _ (set7 wa W.heap.size (.int .i64 9) (.string ⟨#[]⟩) (.int .i64 0) (.int .i64 0) (.int .i64 lo) (.int .i64 hi) (.slice none 0 0))
        generalize set7 wa W.heap.size (.int .i64 9) (.string ⟨#[]⟩) (.int .i64 0) (.int .i64 0) (.int .i64 lo) (.int .i64 hi) (.slice none 0 0) = W7 at *
        have HS := HB7.out.cell
        refine bodyPost_ret (v := .tuple #[.agg #[.int .i64 9, .string ⟨#[]⟩, .int .i64 0, .int .i64 0, .int .i64 lo, .int .i64 hi, .slice none 0 0], .bool false]) (by simp [results, Tryd.results216, go_sem, HS]) rfl ?_
        exact ⟨nd1 9 lo hi, none, 0, 0, rfl, bad_done7 HRD.out HUT.out.2.2.1 HF7.out (HG.out.new HRD.out HUT.out.2.2.2 (only_new (by omega)) HUT.out.2.2.1)⟩
      | ok lo hi r =>
        obtain ⟨k4, hk4, rfl⟩ := span_at ht hk2 hsp
        have HSP := Lib.hid (span_ok ht hk2 (R := R) (A := A) (c := c) hsp hk4)
        rw [hsp] at hne
        rw [show ∀ g, (SR.ok lo hi (remT toks k4)).bind g = g lo hi (remT toks k4) from fun _ => rfl] at hne ⊢
        cases hq : gP n (.lev 6 (remT toks k4)) with
        | out => rw [hq] at hne; exact absurd rfl hne
        | bad er r =>
          have HUN := Lib.hid (side_bad hun hk4 hq)
          rw [show ∀ g, (PR.bad er r).bind g = .bad er r from fun _ => rfl]
          unfold fval at HUN
          clear h hne hq hat hun hsp h1 h2
          unfold SideR fval
          go_enter Tryd.func216, Tryd.ntmps216
          go_upto_region 16 with (first
            | ((go_at_call 132); (with_reducible refine (HT.out _ (H0.out _ (((Fr.refl _ _).alloc _).alloc _))).mono ?_); rintro en w1 ⟨rfl, hr1, hf1⟩; have HZ := Lib.hid (((Blk.new W 28 #[.int .i64 0, .string ⟨#[]⟩, .int .i64 0, .int .i64 0, .int .i64 0, .int .i64 0, .slice none 0 0]).alloc _).fr hf1 hOR); have HF := Lib.hid (blk_new2.fr hf1 hOF); have HFR := Lib.hid ((((Fr.refl (Only R) W).alloc _).alloc _).call hf1 (fun _ h _ => h)); have HR1 := Lib.hid hr1; have zc := HZ.out.cell; have zf := HZ.out.frozen; have fc := HF.out.cell; have ff := HF.out.frozen; have zl := HZ.out.lt; have fl := HF.out.lt; clear hr1 hf1)
            | ((go_at_call 132); (with_reducible refine (HT2.out _ HR1.out).mono ?_); rintro en w3 ⟨rfl, hr1, hf1⟩; replace HZ := Lib.hid (HZ.out.fr hf1 hOR); replace HF := Lib.hid (HF.out.fr hf1 hOF); replace HFR := Lib.hid (HFR.out.call hf1 (fun _ h _ => h)); replace HR1 := Lib.hid hr1; replace zc := HZ.out.cell; replace zf := HZ.out.frozen; replace fc := HF.out.cell; replace ff := HF.out.frozen; replace zl := HZ.out.lt; replace fl := HF.out.lt; clear hr1 hf1)
            | ((go_at_call 217); (with_reducible refine (HSP.out _ ?_).mono ?_); exact (HRD.out.new HR1.out (fr_only _ _ _) (only_new (by simp))); rintro en w4 ⟨rfl, hr1, hf1⟩; replace HF := Lib.hid ((blk7_0 HF.out (.int .i64 9)).fr hf1 hOF); replace HZ := Lib.hid ((HZ.out.far (p := ⟨W.heap.size + 1, 0, none⟩) (by simp) _).fr hf1 hOR); replace HFR := Lib.hid ((fr_new HFR.out (p := ⟨W.heap.size + 1, 0, none⟩) (by simp) _).call hf1 (fun _ h _ => h)); replace zc := HZ.out.cell; replace zf := HZ.out.frozen; replace fc := HF.out.cell; replace ff := HF.out.frozen; replace zl := HZ.out.lt; replace fl := HF.out.lt; replace HR1 := Lib.hid hr1; clear hr1 hf1)
            | ((go_at_call 216); (with_reducible refine (HUN.out _ ?_).mono ?_); exact (HRD.out.new HR1.out (fr_only2 _ _ _ _ _ _) (only_new (by simp))); rintro en w2 ⟨x, B, m, d, rfl, hg⟩; have fl0 := Lib.hid fl; replace HF := Lib.hid ((blk7_45 HF.out (.int .i64 lo) (.int .i64 hi)).fr hg.fr hOF); replace HZ := Lib.hid (((HZ.out.far (p := ⟨W.heap.size + 1, 4, none⟩) (by simp) (.int .i64 lo)).far (p := ⟨W.heap.size + 1, 5, none⟩) (by simp) (.int .i64 hi)).fr hg.fr hOR); replace HFR := Lib.hid ((fr_new (fr_new HFR.out (p := ⟨W.heap.size + 1, 4, none⟩) (by simp) (.int .i64 lo)) (p := ⟨W.heap.size + 1, 5, none⟩) (by simp) (.int .i64 hi)).call hg.fr (fun _ h _ => h)); replace zc := HZ.out.cell; replace zf := HZ.out.frozen; replace fc := HF.out.cell; replace ff := HF.out.frozen; replace zl := HZ.out.lt; replace fl := HF.out.lt; have HG := Lib.hid hg; clear hg)
            )
          obtain ⟨wa, hwa, hut⟩ := utail (o := fbox x B m d) (cs := #[.int .i64 x.op, .string x.name, .int .i64 x.cmp, .int .i64 x.val, .int .i64 x.lo, .int .i64 x.hi, .slice B m d]) HZ.out HF.out HFR.out
          unfold fbox at hwa
          rw [hwa]
          have HUT := Lib.hid hut
          replace HZ := Lib.hid hut.z
          replace zc := hut.z.cell
          replace zf := hut.z.frozen
          replace zl := hut.z.lt
          replace fc := hut.f.cell
          clear ff fl hwa hut HF HFR
          have HB7 := Lib.hid (set7_blk HZ.out (.int .i64 9) (.string ⟨#[]⟩) (.int .i64 0) (.int .i64 0) (.int .i64 lo) (.int .i64 hi) (.slice (some ⟨w2.heap.size + 1, 0, none⟩) 1 1))
          have HF7 := Lib.hid (set7_fr wa W.heap.size (.int .i64 9) (.string ⟨#[]⟩) (.int .i64 0) (.int .i64 0) (.int .i64 lo) (.int .i64 hi) (.slice (some ⟨w2.heap.size + 1, 0, none⟩) 1 1))
          go_wp2_with fail
          change bodyPost _ _ _ _ _ (set7 wa W.heap.size (.int .i64 9) (.string ⟨#[]⟩) (.int .i64 0) (.int .i64 0) (.int .i64 lo) (.int .i64 hi) (.slice (some ⟨w2.heap.size + 1, 0, none⟩) 1 1))
          generalize set7 wa W.heap.size (.int .i64 9) (.string ⟨#[]⟩) (.int .i64 0) (.int .i64 0) (.int .i64 lo) (.int .i64 hi) (.slice (some ⟨w2.heap.size + 1, 0, none⟩) 1 1) = W7 at *
          have HS := HB7.out.cell
          refine bodyPost_ret (v := .tuple #[.agg #[.int .i64 9, .string ⟨#[]⟩, .int .i64 0, .int .i64 0, .int .i64 lo, .int .i64 hi, .slice (some ⟨w2.heap.size + 1, 0, none⟩) 1 1], .bool false]) (by simp [results, Tryd.results216, go_sem, HS]) rfl ?_
          exact ⟨nd1 9 lo hi, some ⟨w2.heap.size + 1, 0, none⟩, 1, 1, rfl, bad_done7 HRD.out HUT.out.fr HF7.out (HG.out.new HRD.out HUT.out.fr2 (only_new (by omega)) HUT.out.fr)⟩
        | ok y js r =>
          obtain ⟨k3, hk3, rfl⟩ := lev_pos ht hk4 hq
          have HUN := Lib.hid (side_ok hun hk4 hq hk3)
          rw [show ∀ g, (PR.ok y js (remT toks k3)).bind g = g y js (remT toks k3) from fun _ => rfl]
          unfold fval at HUN
          clear h hne hq hat hun hsp h1 h2
          unfold SideR fval
          go_enter Tryd.func216, Tryd.ntmps216
          go_upto_region 16 with (first
            | ((go_at_call 132); (with_reducible refine (HT.out _ (H0.out _ (((Fr.refl _ _).alloc _).alloc _))).mono ?_); rintro en w1 ⟨rfl, hr1, hf1⟩; have HZ := Lib.hid (((Blk.new W 28 #[.int .i64 0, .string ⟨#[]⟩, .int .i64 0, .int .i64 0, .int .i64 0, .int .i64 0, .slice none 0 0]).alloc _).fr hf1 hOR); have HF := Lib.hid (blk_new2.fr hf1 hOF); have HFR := Lib.hid ((((Fr.refl (Only R) W).alloc _).alloc _).call hf1 (fun _ h _ => h)); have HR1 := Lib.hid hr1; have zc := HZ.out.cell; have zf := HZ.out.frozen; have fc := HF.out.cell; have ff := HF.out.frozen; have zl := HZ.out.lt; have fl := HF.out.lt; clear hr1 hf1)
            | ((go_at_call 132); (with_reducible refine (HT2.out _ HR1.out).mono ?_); rintro en w3 ⟨rfl, hr1, hf1⟩; replace HZ := Lib.hid (HZ.out.fr hf1 hOR); replace HF := Lib.hid (HF.out.fr hf1 hOF); replace HFR := Lib.hid (HFR.out.call hf1 (fun _ h _ => h)); replace HR1 := Lib.hid hr1; replace zc := HZ.out.cell; replace zf := HZ.out.frozen; replace fc := HF.out.cell; replace ff := HF.out.frozen; replace zl := HZ.out.lt; replace fl := HF.out.lt; clear hr1 hf1)
            | ((go_at_call 217); (with_reducible refine (HSP.out _ ?_).mono ?_); exact (HRD.out.new HR1.out (fr_only _ _ _) (only_new (by simp))); rintro en w4 ⟨rfl, hr1, hf1⟩; replace HF := Lib.hid ((blk7_0 HF.out (.int .i64 9)).fr hf1 hOF); replace HZ := Lib.hid ((HZ.out.far (p := ⟨W.heap.size + 1, 0, none⟩) (by simp) _).fr hf1 hOR); replace HFR := Lib.hid ((fr_new HFR.out (p := ⟨W.heap.size + 1, 0, none⟩) (by simp) _).call hf1 (fun _ h _ => h)); replace zc := HZ.out.cell; replace zf := HZ.out.frozen; replace fc := HF.out.cell; replace ff := HF.out.frozen; replace zl := HZ.out.lt; replace fl := HF.out.lt; replace HR1 := Lib.hid hr1; clear hr1 hf1)
            | ((go_at_call 216); (with_reducible refine (HUN.out _ ?_).mono ?_); exact (HRD.out.new HR1.out (fr_only2 _ _ _ _ _ _) (only_new (by simp))); rintro en w2 ⟨B, d, f, rfl, hg⟩; have fl0 := Lib.hid fl; replace HF := Lib.hid ((blk7_45 HF.out (.int .i64 lo) (.int .i64 hi)).fr hg.fr hOF); replace HZ := Lib.hid (((HZ.out.far (p := ⟨W.heap.size + 1, 4, none⟩) (by simp) (.int .i64 lo)).far (p := ⟨W.heap.size + 1, 5, none⟩) (by simp) (.int .i64 hi)).fr hg.fr hOR); replace HFR := Lib.hid ((fr_new (fr_new HFR.out (p := ⟨W.heap.size + 1, 4, none⟩) (by simp) (.int .i64 lo)) (p := ⟨W.heap.size + 1, 5, none⟩) (by simp) (.int .i64 hi)).call hg.fr (fun _ h _ => h)); replace zc := HZ.out.cell; replace zf := HZ.out.frozen; replace fc := HF.out.cell; replace ff := HF.out.frozen; replace zl := HZ.out.lt; replace fl := HF.out.lt; have HG := Lib.hid hg; clear hg)
            )
          obtain ⟨wa, hwa, hut⟩ := utail (o := fbox y B f.len d) (cs := #[.int .i64 y.op, .string y.name, .int .i64 y.cmp, .int .i64 y.val, .int .i64 y.lo, .int .i64 y.hi, .slice B f.len d]) HZ.out HF.out HFR.out
          unfold fbox at hwa
          rw [hwa]
          have HUT := Lib.hid hut
          replace HZ := Lib.hid hut.z
          replace zc := hut.z.cell
          replace zf := hut.z.frozen
          replace zl := hut.z.lt
          replace fc := hut.f.cell
          clear ff fl hwa hut HF HFR
          have HB7 := Lib.hid (set7_blk HZ.out (.int .i64 9) (.string ⟨#[]⟩) (.int .i64 0) (.int .i64 0) (.int .i64 lo) (.int .i64 hi) (.slice (some ⟨w2.heap.size + 1, 0, none⟩) 1 1))
          have HF7 := Lib.hid (set7_fr wa W.heap.size (.int .i64 9) (.string ⟨#[]⟩) (.int .i64 0) (.int .i64 0) (.int .i64 lo) (.int .i64 hi) (.slice (some ⟨w2.heap.size + 1, 0, none⟩) 1 1))
          go_wp2_with fail
          change bodyPost _ _ _ _ _ (set7 wa W.heap.size (.int .i64 9) (.string ⟨#[]⟩) (.int .i64 0) (.int .i64 0) (.int .i64 lo) (.int .i64 hi) (.slice (some ⟨w2.heap.size + 1, 0, none⟩) 1 1))
          generalize set7 wa W.heap.size (.int .i64 9) (.string ⟨#[]⟩) (.int .i64 0) (.int .i64 0) (.int .i64 lo) (.int .i64 hi) (.slice (some ⟨w2.heap.size + 1, 0, none⟩) 1 1) = W7 at *
          have HS := HB7.out.cell
          refine bodyPost_ret (v := .tuple #[.agg #[.int .i64 9, .string ⟨#[]⟩, .int .i64 0, .int .i64 0, .int .i64 lo, .int .i64 hi, .slice (some ⟨w2.heap.size + 1, 0, none⟩) 1 1], .bool true]) (by simp [results, Tryd.results216, go_sem, HS]) rfl ?_
          exact ⟨some ⟨w2.heap.size + 1, 0, none⟩, 1, .cons y B d f .nil, rfl, k3, hk3, rfl, HUT.out.good HRD.out HG.out (by have := fl0.out; simpa using this) HF7.out⟩
  · have HT := Lib.hid (fun X (h : Rdr X R A c toks k 0 0) => take_yes h ht hk h1)
    have hk2 := tsg_next ht hk h1
    rw [h1, if_pos rfl] at hne
    rw [if_pos rfl]
    cases hq : gP n (.lev 6 (remT toks (k + 1))) with
    | out => rw [hq] at hne; exact absurd rfl hne
    | bad er r =>
      have HUN := Lib.hid (side_bad hun hk2 hq)
      rw [show ∀ g, (PR.bad er r).bind g = .bad er r from fun _ => rfl]
      unfold fval at HUN
      clear h hne hq hat hun h1
      unfold SideR fval
      go_enter Tryd.func216, Tryd.ntmps216
      go_upto_region 16 with (first
        | ((go_at_call 132); (with_reducible refine (HT.out _ (H0.out _ (((Fr.refl _ _).alloc _).alloc _))).mono ?_); rintro en w1 ⟨rfl, hr1, hf1⟩; have HZ := Lib.hid (((Blk.new W 28 #[.int .i64 0, .string ⟨#[]⟩, .int .i64 0, .int .i64 0, .int .i64 0, .int .i64 0, .slice none 0 0]).alloc _).fr hf1 hOR); have HF := Lib.hid (blk_new2.fr hf1 hOF); have HFR := Lib.hid ((((Fr.refl (Only R) W).alloc _).alloc _).call hf1 (fun _ h _ => h)); have HR1 := Lib.hid hr1; have zc := HZ.out.cell; have zf := HZ.out.frozen; have fc := HF.out.cell; have ff := HF.out.frozen; have zl := HZ.out.lt; have fl := HF.out.lt; clear hr1 hf1)
        | ((go_at_call 216); (with_reducible refine (HUN.out _ ?_).mono ?_); exact (HRD.out.new HR1.out (fr_only _ _ _) (only_new (by simp))); rintro en w2 ⟨x, B, m, d, rfl, hg⟩; have fl0 := Lib.hid fl; replace HF := Lib.hid ((blk7_0 HF.out (.int .i64 4)).fr hg.fr hOF); replace HZ := Lib.hid ((HZ.out.far (p := ⟨W.heap.size + 1, 0, none⟩) (by simp) _).fr hg.fr hOR); replace HFR := Lib.hid ((fr_new HFR.out (p := ⟨W.heap.size + 1, 0, none⟩) (by simp) _).call hg.fr (fun _ h _ => h)); replace zc := HZ.out.cell; replace zf := HZ.out.frozen; replace fc := HF.out.cell; replace ff := HF.out.frozen; replace zl := HZ.out.lt; replace fl := HF.out.lt; have HG := Lib.hid hg; clear hg)
        )
      obtain ⟨wa, hwa, hut⟩ := utail (o := fbox x B m d) (cs := #[.int .i64 x.op, .string x.name, .int .i64 x.cmp, .int .i64 x.val, .int .i64 x.lo, .int .i64 x.hi, .slice B m d]) HZ.out HF.out HFR.out
      unfold fbox at hwa
      rw [hwa]
      have HUT := Lib.hid hut
      replace HZ := Lib.hid hut.z
      replace zc := hut.z.cell
      replace zf := hut.z.frozen
      replace zl := hut.z.lt
      replace fc := hut.f.cell
      clear ff fl hwa hut HF HFR
      have HB7 := Lib.hid (set7_blk HZ.out (.int .i64 4) (.string ⟨#[]⟩) (.int .i64 0) (.int .i64 0) (.int .i64 0) (.int .i64 0) (.slice (some ⟨w2.heap.size + 1, 0, none⟩) 1 1))
      have HF7 := Lib.hid (set7_fr wa W.heap.size (.int .i64 4) (.string ⟨#[]⟩) (.int .i64 0) (.int .i64 0) (.int .i64 0) (.int .i64 0) (.slice (some ⟨w2.heap.size + 1, 0, none⟩) 1 1))
      go_wp2_with fail
      change bodyPost _ _ _ _ _ (set7 wa W.heap.size (.int .i64 4) (.string ⟨#[]⟩) (.int .i64 0) (.int .i64 0) (.int .i64 0) (.int .i64 0) (.slice (some ⟨w2.heap.size + 1, 0, none⟩) 1 1))
      generalize set7 wa W.heap.size (.int .i64 4) (.string ⟨#[]⟩) (.int .i64 0) (.int .i64 0) (.int .i64 0) (.int .i64 0) (.slice (some ⟨w2.heap.size + 1, 0, none⟩) 1 1) = W7 at *
      have HS := HB7.out.cell
      refine bodyPost_ret (v := .tuple #[.agg #[.int .i64 4, .string ⟨#[]⟩, .int .i64 0, .int .i64 0, .int .i64 0, .int .i64 0, .slice (some ⟨w2.heap.size + 1, 0, none⟩) 1 1], .bool false]) (by simp [results, Tryd.results216, go_sem, HS]) rfl ?_
      exact ⟨nd1 4 0 0, some ⟨w2.heap.size + 1, 0, none⟩, 1, 1, rfl, bad_done7 HRD.out HUT.out.fr HF7.out (HG.out.new HRD.out HUT.out.fr2 (only_new (by omega)) HUT.out.fr)⟩
    | ok y js r =>
      obtain ⟨k3, hk3, rfl⟩ := lev_pos ht hk2 hq
      have HUN := Lib.hid (side_ok hun hk2 hq hk3)
      rw [show ∀ g, (PR.ok y js (remT toks k3)).bind g = g y js (remT toks k3) from fun _ => rfl]
      unfold fval at HUN
      clear h hne hq hat hun h1
      unfold SideR fval
      go_enter Tryd.func216, Tryd.ntmps216
      go_upto_region 16 with (first
        | ((go_at_call 132); (with_reducible refine (HT.out _ (H0.out _ (((Fr.refl _ _).alloc _).alloc _))).mono ?_); rintro en w1 ⟨rfl, hr1, hf1⟩; have HZ := Lib.hid (((Blk.new W 28 #[.int .i64 0, .string ⟨#[]⟩, .int .i64 0, .int .i64 0, .int .i64 0, .int .i64 0, .slice none 0 0]).alloc _).fr hf1 hOR); have HF := Lib.hid (blk_new2.fr hf1 hOF); have HFR := Lib.hid ((((Fr.refl (Only R) W).alloc _).alloc _).call hf1 (fun _ h _ => h)); have HR1 := Lib.hid hr1; have zc := HZ.out.cell; have zf := HZ.out.frozen; have fc := HF.out.cell; have ff := HF.out.frozen; have zl := HZ.out.lt; have fl := HF.out.lt; clear hr1 hf1)
        | ((go_at_call 216); (with_reducible refine (HUN.out _ ?_).mono ?_); exact (HRD.out.new HR1.out (fr_only _ _ _) (only_new (by simp))); rintro en w2 ⟨B, d, f, rfl, hg⟩; have fl0 := Lib.hid fl; replace HF := Lib.hid ((blk7_0 HF.out (.int .i64 4)).fr hg.fr hOF); replace HZ := Lib.hid ((HZ.out.far (p := ⟨W.heap.size + 1, 0, none⟩) (by simp) _).fr hg.fr hOR); replace HFR := Lib.hid ((fr_new HFR.out (p := ⟨W.heap.size + 1, 0, none⟩) (by simp) _).call hg.fr (fun _ h _ => h)); replace zc := HZ.out.cell; replace zf := HZ.out.frozen; replace fc := HF.out.cell; replace ff := HF.out.frozen; replace zl := HZ.out.lt; replace fl := HF.out.lt; have HG := Lib.hid hg; clear hg)
        )
      obtain ⟨wa, hwa, hut⟩ := utail (o := fbox y B f.len d) (cs := #[.int .i64 y.op, .string y.name, .int .i64 y.cmp, .int .i64 y.val, .int .i64 y.lo, .int .i64 y.hi, .slice B f.len d]) HZ.out HF.out HFR.out
      unfold fbox at hwa
      rw [hwa]
      have HUT := Lib.hid hut
      replace HZ := Lib.hid hut.z
      replace zc := hut.z.cell
      replace zf := hut.z.frozen
      replace zl := hut.z.lt
      replace fc := hut.f.cell
      clear ff fl hwa hut HF HFR
      have HB7 := Lib.hid (set7_blk HZ.out (.int .i64 4) (.string ⟨#[]⟩) (.int .i64 0) (.int .i64 0) (.int .i64 0) (.int .i64 0) (.slice (some ⟨w2.heap.size + 1, 0, none⟩) 1 1))
      have HF7 := Lib.hid (set7_fr wa W.heap.size (.int .i64 4) (.string ⟨#[]⟩) (.int .i64 0) (.int .i64 0) (.int .i64 0) (.int .i64 0) (.slice (some ⟨w2.heap.size + 1, 0, none⟩) 1 1))
      go_wp2_with fail
      change bodyPost _ _ _ _ _ (set7 wa W.heap.size (.int .i64 4) (.string ⟨#[]⟩) (.int .i64 0) (.int .i64 0) (.int .i64 0) (.int .i64 0) (.slice (some ⟨w2.heap.size + 1, 0, none⟩) 1 1))
      generalize set7 wa W.heap.size (.int .i64 4) (.string ⟨#[]⟩) (.int .i64 0) (.int .i64 0) (.int .i64 0) (.int .i64 0) (.slice (some ⟨w2.heap.size + 1, 0, none⟩) 1 1) = W7 at *
      have HS := HB7.out.cell
      refine bodyPost_ret (v := .tuple #[.agg #[.int .i64 4, .string ⟨#[]⟩, .int .i64 0, .int .i64 0, .int .i64 0, .int .i64 0, .slice (some ⟨w2.heap.size + 1, 0, none⟩) 1 1], .bool true]) (by simp [results, Tryd.results216, go_sem, HS]) rfl ?_
      exact ⟨some ⟨w2.heap.size + 1, 0, none⟩, 1, .cons y B d f .nil, rfl, k3, hk3, rfl, HUT.out.good HRD.out HG.out (by have := fl0.out; simpa using this) HF7.out⟩
end Go.Proofs.YtfebkjoohnlifaaDoor
