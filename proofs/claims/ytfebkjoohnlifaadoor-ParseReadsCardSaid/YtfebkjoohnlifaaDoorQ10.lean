/- parse.Parse. -/
import Derived.Test.YtfebkjoohnlifaaDoorQ9
import Derived.Test.YtfebkjoohnlifaaDoorPgood
import Derived.Deep.DeepCutAuto
namespace Go.Proofs.YtfebkjoohnlifaaDoor
open Go.RowKit Go.Shelf
attribute [local go_sem] Instr.field asAgg

def ParseR (w : World) (q : PQ) (en : Ending) (w' : World) : Prop := match q with
  | .good x ks => ∃ B d f, en = .returned (.tuple #[fval x B (Fo.len f) d, .int .i64 0, .int .i64 0]) ∧ f.tr = ks ∧ FoSlP (fun b => w.heap.size ≤ b) w' B d f ∧ Fr Nob w w'
  | .bad e p => en = .returned (.tuple #[fval ⟨0, ⟨#[]⟩, 0, 0, 0, 0⟩ none 0 0, .int .i64 e, .int .i64 p]) ∧ Fr Nob w w'
theorem rdr_new {w : World} {A : Option Addr} {c : Nat} {toks : List (TK × Nat)} (h : Sl w 4 A toks.length c (toks.flatMap tcs)) (hp : 0 < toks.length) : Rdr (w.alloc (.cells #[.slice A toks.length c, .int .i64 0, .int .i64 0, .int .i64 0] 86)) w.heap.size A c toks 0 0 0 := by
  refine ⟨Blk.new _ _ _, h.alloc _, fun b o e => ?_⟩
  obtain ⟨b2, o2, e2, hb, _⟩ := h.cells hp
  rw [e] at e2; cases e2
  exact Nat.ne_of_lt hb
theorem fr_own {W w1 w2 : World} {R : Nat} (h : Fr Nob W w1) (hR : W.heap.size ≤ R) (hf : Fr (Only R) w1 w2) : Fr Nob W w2 := h.call hf (fun i hi hlt => by unfold Only at hi; omega)
theorem only_out {R g : Nat} (h : g < R) : ¬ Only R g := fun e => absurd h (by unfold Only at e; omega)
theorem nm_nodes {x : Nd} {ks : Tr} (hx : x.name.size ≤ 512) (hk : ks.nm512) : ∀ y ∈ (Tr.cons x ks .nil).nodes 1, y.1.name.size ≤ 9223372036854775807 := by
  have h : ∀ (t : Tr) (d : Nat), t.nm512 → ∀ y ∈ t.nodes d, y.1.name.size ≤ 512 := by
    intro t
    induction t with
    | nil => intro d _ y hy; simp [Tr.nodes] at hy
    | cons z k r ih1 ih2 =>
      intro d hn y hy
      simp only [Tr.nodes, List.mem_cons, List.mem_append] at hy
      rcases hy with rfl | hy | hy
      · exact hn.1
      · exact ih1 _ hn.2.1 y hy
      · exact ih2 _ hn.2.2 y hy
  intro y hy
  have := h (.cons x ks .nil) 1 ⟨hx, hk, trivial⟩ y hy
  omega
theorem pa_check {W : World} {toks : List (TK × Nat)} {n k : Nat} {x : Nd} {ks : Tr} (ht : Toks toks) (hsh : ShVar W) (hn : gP n (.lev 1 (remT toks 0)) = .ok x ks (remT toks k)) (w' : World) (p : Nat → Prop) (B : Option Addr) (d : Nat) (f : Fo) (hf : Fr Nob W w') (hs : FoSlP p w' B d f) (he : f.tr = ks) :
    Calls Tryd.prog 37 #[fval x B f.len d] w' fun e w2 => e = .returned (.int .i64 (checkT x ks)) ∧ Fr Nob w' w2 := by
  have hl := gP_left n (.lev 1 (remT toks 0)) (remT_ok ht 0)
  rw [hn] at hl
  obtain ⟨_, h2, h3⟩ := hl
  have hlen := remT_len toks 0
  have hfew := ht.few
  simp only [Job.m] at h2
  subst he
  exact prg_Check w' x B d f (hs.lt.sl (fun k hk => hk.2)) (by omega) (hsh.fr hf) (nm_nodes h3.name h3.names)
set_option maxRecDepth 100000 in
set_option maxHeartbeats 4000000 in
theorem prg_Parse (W : World) (s : ByteArray) (hs : s.size ≤ 9223372036854775807) (hv : ErrVar W) (hsh : ShVar W) (q : PQ) (hq : ParseIs s.data.toList q) : Calls Tryd.prog 16 #[.string s] W (ParseR W q) := by
  have HTK := Lib.hid (fun X (hf : Fr Nob W X) => tok_Read X s hs (hv.fr hf))
  cases hq with
  | lex h =>
    obtain ⟨e, he⟩ : ∃ e, (readT s.data.toList).1.1 = e := ⟨_, rfl⟩
    obtain ⟨p, hp⟩ : ∃ p, (readT s.data.toList).1.2 = p := ⟨_, rfl⟩
    rw [he] at h
    simp only [he, hp] at HTK ⊢
    clear he hp hv hsh
    unfold ParseR fval
    go_enter Tryd.func16, Tryd.ntmps16
    go_upto_region 3 with (first
      | ((go_at_call 44); (with_reducible refine (HTK.out _ ((Fr.refl _ _).alloc _)).mono ?_); rintro en w1 ⟨A, c, rfl, hsl, hf1⟩; have HZ := Lib.hid ((Blk.new W 28 #[.int .i64 0, .string ⟨#[]⟩, .int .i64 0, .int .i64 0, .int .i64 0, .int .i64 0, .slice none 0 0]).fr hf1 (fun e => e)); have HFR := Lib.hid (((Fr.refl Nob W).alloc _).call hf1 (fun _ h _ => h)); have HSL := Lib.hid hsl; have zc := HZ.out.cell; have zf := HZ.out.frozen; have zl := HZ.out.lt; have hRZ := Lib.hid zl; clear hsl hf1)
      )
    have HB7 := Lib.hid (set7_blk HZ.out (.int .i64 0) (.string ⟨#[]⟩) (.int .i64 0) (.int .i64 0) (.int .i64 0) (.int .i64 0) (.slice none 0 0))
    have HF7 := Lib.hid (set7_fr w1 W.heap.size (.int .i64 0) (.string ⟨#[]⟩) (.int .i64 0) (.int .i64 0) (.int .i64 0) (.int .i64 0) (.slice none 0 0))
    go_wp2_with fail
    change bodyPost _ _ _ _ _ (set7 w1 W.heap.size (.int .i64 0) (.string ⟨#[]⟩) (.int .i64 0) (.int .i64 0) (.int .i64 0) (.int .i64 0) (.slice none 0 0))
    generalize set7 w1 W.heap.size (.int .i64 0) (.string ⟨#[]⟩) (.int .i64 0) (.int .i64 0) (.int .i64 0) (.int .i64 0) (.slice none 0 0) = W7 at *
    have HS := HB7.out.cell
    refine bodyPost_ret (v := .tuple #[.agg #[.int .i64 0, .string ⟨#[]⟩, .int .i64 0, .int .i64 0, .int .i64 0, .int .i64 0, .slice none 0 0], .int .i64 (e), .int .i64 (p)]) (by simp [results, Tryd.results16, go_sem, HS]) rfl ?_
    exact ⟨rfl, fr_own HFR.out (Nat.le_refl _) HF7.out⟩
  | @wrong e k h hk hr =>
    have ht := readT_toks h
    obtain ⟨_, n, hn⟩ := hr
    replace hn := hn n (Nat.le_refl _)
    rw [h] at HTK
    generalize (readT s.data.toList).1.2 = p at *
    generalize (readT s.data.toList).2 = toks at *
    have HPOS := Lib.hid (toks_pos ht)
    have HIF := Lib.hid (fun R A c => side_bad (sides R A c _ ht n).1 (toks_pos ht) hn)
    obtain ⟨pl, hpl⟩ : ∃ pl, toks[k].2 = pl := ⟨_, rfl⟩
    rw [hpl]
    have HPL := Lib.hid (fun j (hj : j < toks.length) (e : k = j) => (by subst e; exact hpl : toks[j].2 = pl))
    clear hpl
    clear hn hv hsh h
    unfold ParseR
    unfold fval at *
    go_enter Tryd.func16, Tryd.ntmps16
    go_upto_region 9 with (first
      | ((go_at_call 44); (with_reducible refine (HTK.out _ ((Fr.refl _ _).alloc _)).mono ?_); rintro en w1 ⟨A, c, rfl, hsl, hf1⟩; have HZ := Lib.hid ((Blk.new W 28 #[.int .i64 0, .string ⟨#[]⟩, .int .i64 0, .int .i64 0, .int .i64 0, .int .i64 0, .slice none 0 0]).fr hf1 (fun e => e)); have HFR := Lib.hid (((Fr.refl Nob W).alloc _).call hf1 (fun _ h _ => h)); have HSL := Lib.hid hsl; have zc := HZ.out.cell; have zf := HZ.out.frozen; have zl := HZ.out.lt; have hRZ := Lib.hid zl; clear hsl hf1)
      | ((go_at_call 45); (with_reducible refine (HIF.out _ _ _ _ (rdr_new HSL.out HPOS.out)).mono ?_); rintro en w2 ⟨x, B, m, d, rfl, hg⟩; obtain ⟨k', kk, hk', hrr, hrd⟩ := hg.rd; have hkk := remT_inj hk hk' hrr; rw [HPL.out k' hk' hkk] at hrd; have hrb := hrd.blk; replace HZ := Lib.hid ((HZ.out.alloc _).fr hg.fr (only_out hRZ.out)); replace HFR := Lib.hid (fr_own (HFR.out.alloc _) (Nat.le_of_lt hRZ.out) hg.fr); have HRB := Lib.hid hrb; replace zc := HZ.out.cell; replace zf := HZ.out.frozen; replace zl := HZ.out.lt; have HKK := Lib.hid hkk; clear hrb hrd hrr hg hkk)
      )
    obtain ⟨wa, hwa⟩ : ∃ wa, w2.alloc (fbox x B m d) = wa := ⟨_, rfl⟩
    have hfa : Fr Nob w2 wa := by rw [← hwa]; exact (Fr.refl _ _).alloc _
    unfold fbox at hwa
    rw [hwa]
    replace HZ := Lib.hid (HZ.out.fr hfa (fun e => e))
    replace HFR := Lib.hid (HFR.out.call hfa (fun _ h _ => h.elim))
    replace HRB := Lib.hid (HRB.out.fr hfa (fun e => e))
    replace zc := HZ.out.cell
    replace zf := HZ.out.frozen
    replace zl := HZ.out.lt
    have rc := HRB.out.cell
    have rl := HRB.out.lt
    have hRZ' : w1.heap.size ≠ W.heap.size := by have := hRZ.out; omega
    clear hwa hfa
    go_region
    have HB7 := Lib.hid (set7_blk HZ.out (.int .i64 0) (.string ⟨#[]⟩) (.int .i64 0) (.int .i64 0) (.int .i64 0) (.int .i64 0) (.slice none 0 0)).drew
    have HF7 := Lib.hid (set7_fr wa W.heap.size (.int .i64 0) (.string ⟨#[]⟩) (.int .i64 0) (.int .i64 0) (.int .i64 0) (.int .i64 0) (.slice none 0 0)).drew
    go_wp2_with fail
    change bodyPost _ _ _ _ _ (set7 wa W.heap.size (.int .i64 0) (.string ⟨#[]⟩) (.int .i64 0) (.int .i64 0) (.int .i64 0) (.int .i64 0) (.slice none 0 0)).drew
    generalize (set7 wa W.heap.size (.int .i64 0) (.string ⟨#[]⟩) (.int .i64 0) (.int .i64 0) (.int .i64 0) (.int .i64 0) (.slice none 0 0)).drew = W7 at *
    have HS := HB7.out.cell
    refine bodyPost_ret (v := .tuple #[.agg #[.int .i64 0, .string ⟨#[]⟩, .int .i64 0, .int .i64 0, .int .i64 0, .int .i64 0, .slice none 0 0], .int .i64 (e), .int .i64 (pl)]) (by simp [results, Tryd.results16, go_sem, HS]) rfl ?_
    exact ⟨rfl, fr_own HFR.out (Nat.le_refl _) HF7.out⟩
  | @more x ks k h hk hr h0 =>
    have ht := readT_toks h
    obtain ⟨_, n, hn⟩ := hr
    replace hn := hn n (Nat.le_refl _)
    rw [h] at HTK
    generalize (readT s.data.toList).1.2 = p at *
    generalize (readT s.data.toList).2 = toks at *
    have HPOS := Lib.hid (toks_pos ht)
    have HIF := Lib.hid (fun R A c => side_ok (sides R A c _ ht n).1 (toks_pos ht) hn hk)
    have HHD := Lib.hid (fun R A c X (hh : Rdr X R A c toks k 0 0) => rd_head X R A c toks k 0 0 hh hk)
    have HWR := Lib.hid (fun R A c X (hh : Rdr X R A c toks k 0 0) => rd_wrong X R A c toks k 0 0 hh hk 20)
    obtain ⟨pl, hpl⟩ : ∃ pl, toks[k].2 = pl := ⟨_, rfl⟩
    rw [hpl] at HWR ⊢
    clear hpl
    unfold tokV at HHD
    generalize toks[k] = tk1 at *
    obtain ⟨⟨kd1, tx1, nm1⟩, pl1⟩ := tk1
    dsimp only at HHD h0
    clear hn hv hsh h
    unfold ParseR
    unfold fval at *
    go_enter Tryd.func16, Tryd.ntmps16
    go_upto_region 9 with (first
      | ((go_at_call 44); (with_reducible refine (HTK.out _ ((Fr.refl _ _).alloc _)).mono ?_); rintro en w1 ⟨A, c, rfl, hsl, hf1⟩; have HZ := Lib.hid ((Blk.new W 28 #[.int .i64 0, .string ⟨#[]⟩, .int .i64 0, .int .i64 0, .int .i64 0, .int .i64 0, .slice none 0 0]).fr hf1 (fun e => e)); have HFR := Lib.hid (((Fr.refl Nob W).alloc _).call hf1 (fun _ h _ => h)); have HSL := Lib.hid hsl; have zc := HZ.out.cell; have zf := HZ.out.frozen; have zl := HZ.out.lt; have hRZ := Lib.hid zl; clear hsl hf1)
      | ((go_at_call 45); (with_reducible refine (HIF.out _ _ _ _ (rdr_new HSL.out HPOS.out)).mono ?_); rintro en w2 ⟨B, d, f, rfl, hg⟩; replace HZ := Lib.hid ((HZ.out.alloc _).fr hg.fr (only_out hRZ.out)); replace HFR := Lib.hid (fr_own (HFR.out.alloc _) (Nat.le_of_lt hRZ.out) hg.fr); have HRD := Lib.hid hg.rd; have HFS := Lib.hid hg.sl; have HTR := Lib.hid hg.tr; replace zc := HZ.out.cell; replace zf := HZ.out.frozen; replace zl := HZ.out.lt; have rz := HRD.out.blk.lt; clear hg)
      | ((go_at_call 46); (with_reducible refine (HHD.out _ _ _ _ (HRD.out.fr ((Fr.refl _ _).alloc _))).mono ?_); rintro en w3 ⟨rfl, hf3⟩; have HXB := Lib.hid ((Blk.new w2 28 #[.int .i64 x.op, .string x.name, .int .i64 x.cmp, .int .i64 x.val, .int .i64 x.lo, .int .i64 x.hi, .slice B f.len d]).fr hf3 (fun e => e)); replace HZ := Lib.hid ((HZ.out.alloc _).fr hf3 (fun e => e)); replace HFR := Lib.hid ((HFR.out.alloc _).call hf3 (fun _ h _ => h.elim)); replace HRD := Lib.hid ((HRD.out.fr ((Fr.refl _ _).alloc _)).fr hf3); replace HFS := Lib.hid (sl_fr (sl_fr HFS.out ((Fr.refl Nob _).alloc _) (fun _ _ e => e)) hf3 (fun _ _ e => e)); have hXZ := Lib.hid (show w2.heap.size ≠ W.heap.size by omega); replace zc := HZ.out.cell; replace zf := HZ.out.frozen; replace zl := HZ.out.lt; have xc := HXB.out.cell; have xl := HXB.out.lt; clear hf3)
      | ((go_at_call 47); (with_reducible refine (HWR.out _ _ _ _ HRD.out).mono ?_); rintro en w4 ⟨rfl, hr4, hf4⟩; replace HZ := Lib.hid (HZ.out.fr hf4 (only_out hRZ.out)); replace HFR := Lib.hid (fr_own HFR.out (Nat.le_of_lt hRZ.out) hf4); have HRB := Lib.hid hr4.blk; replace zc := HZ.out.cell; replace zf := HZ.out.frozen; replace zl := HZ.out.lt; have rc := HRB.out.cell; have rl := HRB.out.lt; have hRZ' : w1.heap.size ≠ W.heap.size := (by have := hRZ.out; omega); clear hr4 hf4)
      )
    clear rz xc xl
    go_region
    have HB7 := Lib.hid (set7_blk HZ.out (.int .i64 0) (.string ⟨#[]⟩) (.int .i64 0) (.int .i64 0) (.int .i64 0) (.int .i64 0) (.slice none 0 0)).drew
    have HF7 := Lib.hid (set7_fr w4 W.heap.size (.int .i64 0) (.string ⟨#[]⟩) (.int .i64 0) (.int .i64 0) (.int .i64 0) (.int .i64 0) (.slice none 0 0)).drew
    go_wp2_with fail
    change bodyPost _ _ _ _ _ (set7 w4 W.heap.size (.int .i64 0) (.string ⟨#[]⟩) (.int .i64 0) (.int .i64 0) (.int .i64 0) (.int .i64 0) (.slice none 0 0)).drew
    generalize (set7 w4 W.heap.size (.int .i64 0) (.string ⟨#[]⟩) (.int .i64 0) (.int .i64 0) (.int .i64 0) (.int .i64 0) (.slice none 0 0)).drew = W7 at *
    have HS := HB7.out.cell
    refine bodyPost_ret (v := .tuple #[.agg #[.int .i64 0, .string ⟨#[]⟩, .int .i64 0, .int .i64 0, .int .i64 0, .int .i64 0, .slice none 0 0], .int .i64 (20), .int .i64 (pl)]) (by simp [results, Tryd.results16, go_sem, HS]) rfl ?_
    exact ⟨rfl, fr_own HFR.out (Nat.le_refl _) HF7.out⟩
  | @big x ks k h hk hr h0 hc =>
    have ht := readT_toks h
    obtain ⟨_, n, hn⟩ := hr
    replace hn := hn n (Nat.le_refl _)
    rw [h] at HTK
    generalize (readT s.data.toList).1.2 = p at *
    generalize (readT s.data.toList).2 = toks at *
    have HPOS := Lib.hid (toks_pos ht)
    have HIF := Lib.hid (fun R A c => side_ok (sides R A c _ ht n).1 (toks_pos ht) hn hk)
    have HHD := Lib.hid (fun R A c X (hh : Rdr X R A c toks k 0 0) => rd_head X R A c toks k 0 0 hh hk)
    have HCK := Lib.hid (pa_check ht hsh hn)
    unfold tokV at HHD
    generalize toks[k] = tk1 at *
    obtain ⟨⟨kd1, tx1, nm1⟩, pl1⟩ := tk1
    dsimp only at HHD h0
    subst h0
    generalize checkT x ks = e at *
    clear hn hv hsh h
    unfold ParseR
    unfold fval at *
    go_enter Tryd.func16, Tryd.ntmps16
    go_upto_region 12 with (first
      | ((go_at_call 44); (with_reducible refine (HTK.out _ ((Fr.refl _ _).alloc _)).mono ?_); rintro en w1 ⟨A, c, rfl, hsl, hf1⟩; have HZ := Lib.hid ((Blk.new W 28 #[.int .i64 0, .string ⟨#[]⟩, .int .i64 0, .int .i64 0, .int .i64 0, .int .i64 0, .slice none 0 0]).fr hf1 (fun e => e)); have HFR := Lib.hid (((Fr.refl Nob W).alloc _).call hf1 (fun _ h _ => h)); have HSL := Lib.hid hsl; have zc := HZ.out.cell; have zf := HZ.out.frozen; have zl := HZ.out.lt; have hRZ := Lib.hid zl; clear hsl hf1)
      | ((go_at_call 45); (with_reducible refine (HIF.out _ _ _ _ (rdr_new HSL.out HPOS.out)).mono ?_); rintro en w2 ⟨B, d, f, rfl, hg⟩; replace HZ := Lib.hid ((HZ.out.alloc _).fr hg.fr (only_out hRZ.out)); replace HFR := Lib.hid (fr_own (HFR.out.alloc _) (Nat.le_of_lt hRZ.out) hg.fr); have HRD := Lib.hid hg.rd; have HFS := Lib.hid hg.sl; have HTR := Lib.hid hg.tr; replace zc := HZ.out.cell; replace zf := HZ.out.frozen; replace zl := HZ.out.lt; have rz := HRD.out.blk.lt; clear hg)
      | ((go_at_call 46); (with_reducible refine (HHD.out _ _ _ _ (HRD.out.fr ((Fr.refl _ _).alloc _))).mono ?_); rintro en w3 ⟨rfl, hf3⟩; have HXB := Lib.hid ((Blk.new w2 28 #[.int .i64 x.op, .string x.name, .int .i64 x.cmp, .int .i64 x.val, .int .i64 x.lo, .int .i64 x.hi, .slice B f.len d]).fr hf3 (fun e => e)); replace HZ := Lib.hid ((HZ.out.alloc _).fr hf3 (fun e => e)); replace HFR := Lib.hid ((HFR.out.alloc _).call hf3 (fun _ h _ => h.elim)); replace HRD := Lib.hid ((HRD.out.fr ((Fr.refl _ _).alloc _)).fr hf3); replace HFS := Lib.hid (sl_fr (sl_fr HFS.out ((Fr.refl Nob _).alloc _) (fun _ _ e => e)) hf3 (fun _ _ e => e)); have hXZ := Lib.hid (show w2.heap.size ≠ W.heap.size by omega); replace zc := HZ.out.cell; replace zf := HZ.out.frozen; replace zl := HZ.out.lt; have xc := HXB.out.cell; have xl := HXB.out.lt; clear hf3)
      | ((go_at_call 37); (with_reducible refine (HCK.out _ _ _ _ _ HFR.out HFS.out HTR.out).mono ?_); rintro en w4 ⟨rfl, hf4⟩; replace HZ := Lib.hid (HZ.out.fr hf4 (fun e => e)); replace HFR := Lib.hid (HFR.out.call hf4 (fun _ h _ => h)); replace zc := HZ.out.cell; replace zf := HZ.out.frozen; replace zl := HZ.out.lt; clear hf4 xc xl rz)
      )
    have HB7 := Lib.hid (set7_blk HZ.out (.int .i64 0) (.string ⟨#[]⟩) (.int .i64 0) (.int .i64 0) (.int .i64 0) (.int .i64 0) (.slice none 0 0))
    have HF7 := Lib.hid (set7_fr w4 W.heap.size (.int .i64 0) (.string ⟨#[]⟩) (.int .i64 0) (.int .i64 0) (.int .i64 0) (.int .i64 0) (.slice none 0 0))
    go_wp2_with fail
    change bodyPost _ _ _ _ _ (set7 w4 W.heap.size (.int .i64 0) (.string ⟨#[]⟩) (.int .i64 0) (.int .i64 0) (.int .i64 0) (.int .i64 0) (.slice none 0 0))
    generalize set7 w4 W.heap.size (.int .i64 0) (.string ⟨#[]⟩) (.int .i64 0) (.int .i64 0) (.int .i64 0) (.int .i64 0) (.slice none 0 0) = W7 at *
    have HS := HB7.out.cell
    refine bodyPost_ret (v := .tuple #[.agg #[.int .i64 0, .string ⟨#[]⟩, .int .i64 0, .int .i64 0, .int .i64 0, .int .i64 0, .slice none 0 0], .int .i64 (e), .int .i64 (0)]) (by simp [results, Tryd.results16, go_sem, HS]) rfl ?_
    exact ⟨rfl, fr_own HFR.out (Nat.le_refl _) HF7.out⟩
  | @good x ks k h hk hr h0 hc =>
    have ht := readT_toks h
    obtain ⟨_, n, hn⟩ := hr
    replace hn := hn n (Nat.le_refl _)
    rw [h] at HTK
    generalize (readT s.data.toList).1.2 = p at *
    generalize (readT s.data.toList).2 = toks at *
    have HPOS := Lib.hid (toks_pos ht)
    have HIF := Lib.hid (fun R A c => side_ok (sides R A c _ ht n).1 (toks_pos ht) hn hk)
    have HHD := Lib.hid (fun R A c X (hh : Rdr X R A c toks k 0 0) => rd_head X R A c toks k 0 0 hh hk)
    have HCK := Lib.hid (pa_check ht hsh hn)
    rw [hc] at HCK
    unfold tokV at HHD
    generalize toks[k] = tk1 at *
    obtain ⟨⟨kd1, tx1, nm1⟩, pl1⟩ := tk1
    dsimp only at HHD h0
    subst h0
    clear hn hv hsh h hc
    unfold ParseR
    unfold fval at *
    go_enter Tryd.func16, Tryd.ntmps16
    go_upto_region 13 with (first
      | ((go_at_call 44); (with_reducible refine (HTK.out _ ((Fr.refl _ _).alloc _)).mono ?_); rintro en w1 ⟨A, c, rfl, hsl, hf1⟩; have HZ := Lib.hid ((Blk.new W 28 #[.int .i64 0, .string ⟨#[]⟩, .int .i64 0, .int .i64 0, .int .i64 0, .int .i64 0, .slice none 0 0]).fr hf1 (fun e => e)); have HFR := Lib.hid (((Fr.refl Nob W).alloc _).call hf1 (fun _ h _ => h)); have HSL := Lib.hid hsl; have zc := HZ.out.cell; have zf := HZ.out.frozen; have zl := HZ.out.lt; have hRZ := Lib.hid zl; clear hsl hf1)
      | ((go_at_call 45); (with_reducible refine (HIF.out _ _ _ _ (rdr_new HSL.out HPOS.out)).mono ?_); rintro en w2 ⟨B, d, f, rfl, hg⟩; replace HZ := Lib.hid ((HZ.out.alloc _).fr hg.fr (only_out hRZ.out)); replace HFR := Lib.hid (fr_own (HFR.out.alloc _) (Nat.le_of_lt hRZ.out) hg.fr); have HRD := Lib.hid hg.rd; have HFS := Lib.hid hg.sl; have HTR := Lib.hid hg.tr; replace zc := HZ.out.cell; replace zf := HZ.out.frozen; replace zl := HZ.out.lt; have rz := HRD.out.blk.lt; clear hg)
      | ((go_at_call 46); (with_reducible refine (HHD.out _ _ _ _ (HRD.out.fr ((Fr.refl _ _).alloc _))).mono ?_); rintro en w3 ⟨rfl, hf3⟩; have HXB := Lib.hid ((Blk.new w2 28 #[.int .i64 x.op, .string x.name, .int .i64 x.cmp, .int .i64 x.val, .int .i64 x.lo, .int .i64 x.hi, .slice B f.len d]).fr hf3 (fun e => e)); replace HZ := Lib.hid ((HZ.out.alloc _).fr hf3 (fun e => e)); replace HFR := Lib.hid ((HFR.out.alloc _).call hf3 (fun _ h _ => h.elim)); replace HRD := Lib.hid ((HRD.out.fr ((Fr.refl _ _).alloc _)).fr hf3); replace HFS := Lib.hid (sl_fr (sl_fr HFS.out ((Fr.refl Nob _).alloc _) (fun _ _ e => e)) hf3 (fun _ _ e => e)); have hXZ := Lib.hid (show w2.heap.size ≠ W.heap.size by omega); replace zc := HZ.out.cell; replace zf := HZ.out.frozen; replace zl := HZ.out.lt; have xc := HXB.out.cell; have xl := HXB.out.lt; clear hf3)
      | ((go_at_call 37); (with_reducible refine (HCK.out _ _ _ _ _ HFR.out HFS.out HTR.out).mono ?_); rintro en w4 ⟨rfl, hf4⟩; replace HZ := Lib.hid (HZ.out.fr hf4 (fun e => e)); replace HFR := Lib.hid (HFR.out.call hf4 (fun _ h _ => h)); replace HFS := Lib.hid (sl_fr HFS.out hf4 (fun _ _ e => e)); replace HXB := Lib.hid (HXB.out.fr hf4 (fun e => e)); replace zc := HZ.out.cell; replace zf := HZ.out.frozen; replace zl := HZ.out.lt; replace xc := HXB.out.cell; replace xl := HXB.out.lt; clear hf4 rz)
      )
    have hXZ' := hXZ.out
    have HB7 := Lib.hid (set7_blk HZ.out (.int .i64 x.op) (.string x.name) (.int .i64 x.cmp) (.int .i64 x.val) (.int .i64 x.lo) (.int .i64 x.hi) (.slice B f.len d))
    have HF7 := Lib.hid (set7_fr w4 W.heap.size (.int .i64 x.op) (.string x.name) (.int .i64 x.cmp) (.int .i64 x.val) (.int .i64 x.lo) (.int .i64 x.hi) (.slice B f.len d))
    go_wp2_with fail
    change bodyPost _ _ _ _ _ (set7 w4 W.heap.size (.int .i64 x.op) (.string x.name) (.int .i64 x.cmp) (.int .i64 x.val) (.int .i64 x.lo) (.int .i64 x.hi) (.slice B f.len d))
    generalize set7 w4 W.heap.size (.int .i64 x.op) (.string x.name) (.int .i64 x.cmp) (.int .i64 x.val) (.int .i64 x.lo) (.int .i64 x.hi) (.slice B f.len d) = W7 at *
    have HS := HB7.out.cell
    refine bodyPost_ret (v := .tuple #[.agg #[.int .i64 x.op, .string x.name, .int .i64 x.cmp, .int .i64 x.val, .int .i64 x.lo, .int .i64 x.hi, .slice B f.len d], .int .i64 (0), .int .i64 (0)]) (by simp [results, Tryd.results16, go_sem, HS]) rfl ?_
    exact ⟨B, d, f, rfl, HTR.out, (sl_fr HFS.out HF7.out (fun k hk e => by unfold Only at e; have := hRZ.out; simp at hk; omega)).mono (fun k hk => by have := hRZ.out; simp at hk; omega), fr_own HFR.out (Nat.le_refl _) HF7.out⟩
end Go.Proofs.YtfebkjoohnlifaaDoor
