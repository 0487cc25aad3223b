/- The reference's parse: all levels with any fuel; Parse. -/
import Derived.Test.YtfebkjoohnlifaaDoorR5
import Derived.Test.YtfebkjoohnlifaaDoorR7
import Derived.Test.YtfebkjoohnlifaaDoorQ10
import Derived.Test.YtfebkjoohnlifaaDoorTref5
namespace Go.Proofs.YtfebkjoohnlifaaDoor
open Go.RowKit Go.Shelf
attribute [local go_sem] Instr.field asAgg

theorem levels (A : Option Addr) (c : Nat) (toks : List (TK × Nat)) (ht : Toks toks) : ∀ n, (LevOk A c toks 1 (gP n) ∧ LevOk A c toks 2 (gP n) ∧ LevOk A c toks 3 (gP n) ∧ LevOk A c toks 4 (gP n) ∧ LevOk A c toks 5 (gP n) ∧ LevOk A c toks 6 (gP n) ∧ LevOk A c toks 7 (gP n)) ∧ UnOk A c toks (gP n)
  | 0 => ⟨⟨fun _ _ _ _ h => absurd rfl h, fun _ _ _ _ h => absurd rfl h, fun _ _ _ _ h => absurd rfl h, fun _ _ _ _ h => absurd rfl h, fun _ _ _ _ h => absurd rfl h, fun _ _ _ _ h => absurd rfl h, fun _ _ _ _ h => absurd rfl h⟩, fun _ _ _ _ h => absurd rfl h⟩
  | n + 1 => by
    obtain ⟨⟨h1, h2, h3, h4, h5, h6, h7⟩, hu⟩ := levels A c toks ht n
    have u := rf_unary A c toks ht n hu h7
    exact ⟨⟨lev_1 A c toks ht n h2, lev_2 A c toks ht n h3 h2, lev_3 A c toks ht n h4, lev_4 A c toks ht n h5, lev_5 A c toks ht n h6 h5, lev_6 A c toks ht (n + 1) u, lev_7 A c toks ht (n + 1) (rf_atom A c toks ht n h1)⟩, u⟩
theorem rp_check {toks : List (TK × Nat)} {n k : Nat} {x : Nd} {ks : Tr} (ht : Toks toks) (hn : gP n (.lev 1 (remT toks 0)) = .ok x ks (remT toks k)) (w' : World) (p : Nat → Prop) (B : Option Addr) (d : Nat) (f : Fo) (hs : FoSlP p w' B d f) (he : f.tr = ks) :
    Calls Tryd.prog 51 #[fval x B f.len d] w' fun e w2 => e = .returned (.int .i64 (checkT x ks)) ∧ Fr Nob w' w2 := by
  have hl := gP_left n (.lev 1 (remT toks 0)) (remT_ok ht 0)
  rw [hn] at hl
  obtain ⟨_, h2, h3⟩ := hl
  have hlen := remT_len toks 0
  have hfew := ht.few
  simp only [Job.m] at h2
  subst he
  exact ref_Check w'.heap.size w' x B d f (by omega) (hs.lt.sl (fun k hk => hk.2)) (nm_nodes h3.name h3.names)
theorem tk_lt {w : World} {A : Option Addr} {c k b o : Nat} {toks : List (TK × Nat)} (h : Sl w 4 A toks.length c (toks.flatMap tcs)) (hk : k < toks.length) (hA : A = some ⟨b, o, none⟩) : b < w.heap.size := by
  obtain ⟨b2, o2, h1, h2, _⟩ := h.cells (by omega)
  rw [hA] at h1
  cases h1
  exact h2
set_option maxRecDepth 100000 in
set_option maxHeartbeats 4000000 in
theorem rf_Parse (W : World) (s : ByteArray) (hs : s.size ≤ 9223372036854775807) (q : PQ) (hq : ParseIs s.data.toList q) : Calls Tryd.prog 17 #[.string s] W (ParseR W q) := by
  have HTK := Lib.hid (fun X => ref_ReadN X s hs)
  have HZ := Lib.hid (Blk.new W 34 #[.int .i64 0, .string ⟨#[]⟩, .int .i64 0, .int .i64 0, .int .i64 0, .int .i64 0, .slice none 0 0])
  have HFR := Lib.hid ((Fr.refl Nob W).alloc (.cells #[.int .i64 0, .string ⟨#[]⟩, .int .i64 0, .int .i64 0, .int .i64 0, .int .i64 0, .slice none 0 0] 34))
  have zc := HZ.out.cell
  have zf := HZ.out.frozen
  have zl := HZ.out.lt
  cases hq with
  | lex h =>
    obtain ⟨e, he⟩ : ∃ e, (readT s.data.toList).1.1 = e := ⟨_, rfl⟩
    obtain ⟨p, hp⟩ : ∃ p, (readT s.data.toList).1.2 = p := ⟨_, rfl⟩
    rw [he] at h
    simp only [he, hp] at HTK ⊢
    have he2 : (e != 0) = true := by simpa using h
    clear he hp
    unfold ParseR fval
    go_enter Tryd.func17, Tryd.ntmps17
    go_upto_region 3 with (first
      | ((go_at_call 48); (with_reducible refine (HTK.out _).mono ?_); rintro en w1 ⟨A, c, rfl, hsl, hf1, hne1⟩; have HAW := Lib.hid (fun b o e => Nat.ne_of_gt (Nat.lt_of_lt_of_le zl (hne1 b o e))); replace HZ := Lib.hid (HZ.out.fr hf1 (fun e => e)); replace HFR := Lib.hid (HFR.out.call hf1 (fun _ h _ => h)); have HST := Lib.hid hsl; replace zc := HZ.out.cell; replace zf := HZ.out.frozen; replace zl := HZ.out.lt; clear hsl hf1 hne1)
      )
    have HB7 := Lib.hid (set7_blk HZ.out (.int .i64 0) (.string ⟨#[]⟩) (.int .i64 0) (.int .i64 0) (.int .i64 0) (.int .i64 0) (.slice none 0 0))
    have HF7 := Lib.hid (set7_fr w1 W.heap.size (.int .i64 0) (.string ⟨#[]⟩) (.int .i64 0) (.int .i64 0) (.int .i64 0) (.int .i64 0) (.slice none 0 0))
    go_wp2_with fail
    change bodyPost _ _ _ _ _ (set7 w1 W.heap.size (.int .i64 0) (.string ⟨#[]⟩) (.int .i64 0) (.int .i64 0) (.int .i64 0) (.int .i64 0) (.slice none 0 0))
    generalize (set7 w1 W.heap.size (.int .i64 0) (.string ⟨#[]⟩) (.int .i64 0) (.int .i64 0) (.int .i64 0) (.int .i64 0) (.slice none 0 0)) = W7 at *
    have HS := HB7.out.cell
    refine bodyPost_ret (v := .tuple #[.agg #[.int .i64 0, .string ⟨#[]⟩, .int .i64 0, .int .i64 0, .int .i64 0, .int .i64 0, .slice none 0 0], .int .i64 (e), .int .i64 (p)]) (by simp [results, Tryd.results17, go_sem, HS]) rfl ?_
    exact ⟨rfl, fr_own HFR.out (Nat.le_refl _) HF7.out⟩
  | @wrong e k h hk hr =>
    have ht := readT_toks h
    obtain ⟨_, n, hn⟩ := hr
    replace hn := hn n (Nat.le_refl _)
    rw [h] at HTK
    generalize (readT s.data.toList).1.2 = p at *
    generalize (readT s.data.toList).2 = toks at *
    have HPOS := Lib.hid (toks_pos ht)
    have HFW := Lib.hid ht.few
    have HLV := Lib.hid (fun A c X hsl => lv_bad (levels A c _ ht n).1.1 (toks_pos ht) hn (li := 1) (ki := 0) (by omega) (by omega) X hsl)
    obtain ⟨pl, hpl⟩ : ∃ pl, toks[k].2 = pl := ⟨_, rfl⟩
    rw [hpl]
    have HPL := Lib.hid (fun j (hj : j < toks.length) (e : k = j) => (by subst e; exact hpl : toks[j].2 = pl))
    clear hpl hn h
    unfold RRes at HLV
    unfold ParseR
    unfold fval rval at *
    go_enter Tryd.func17, Tryd.ntmps17
    go_upto_region 5 with (first
      | ((go_at_call 48); (with_reducible refine (HTK.out _).mono ?_); rintro en w1 ⟨A, c, rfl, hsl, hf1, hne1⟩; have HAW := Lib.hid (fun b o e => Nat.ne_of_gt (Nat.lt_of_lt_of_le zl (hne1 b o e))); replace HZ := Lib.hid (HZ.out.fr hf1 (fun e => e)); replace HFR := Lib.hid (HFR.out.call hf1 (fun _ h _ => h)); have HST := Lib.hid hsl; replace zc := HZ.out.cell; replace zf := HZ.out.frozen; replace zl := HZ.out.lt; clear hsl hf1 hne1)
      | ((go_at_call 49); (with_reducible refine (HLV.out _ _ _ HST.out).mono ?_); rintro en w2 ⟨x, B, m, d, k2, rfl, he, hk2, hr2, hf2⟩; replace HZ := Lib.hid (HZ.out.fr hf2 (fun e => e)); replace HFR := Lib.hid (HFR.out.call hf2 (fun _ h _ => h)); replace HST := Lib.hid (HST.out.pure hf2); replace zc := HZ.out.cell; replace zf := HZ.out.frozen; replace zl := HZ.out.lt; clear hf2)
      )
    obtain ⟨wa, hwa⟩ : ∃ wa, w2.alloc (.cells #[.int .i64 x.op, .string x.name, .int .i64 x.cmp, .int .i64 x.val, .int .i64 x.lo, .int .i64 x.hi, .slice B m d, .int .i64 k2, .int .i64 e] 97) = wa := ⟨_, rfl⟩
    have hfa : Fr Nob w2 wa := by rw [← hwa]; exact (Fr.refl _ _).alloc _
    have hXA : Blk wa w2.heap.size 97 #[.int .i64 x.op, .string x.name, .int .i64 x.cmp, .int .i64 x.val, .int .i64 x.lo, .int .i64 x.hi, .slice B m d, .int .i64 k2, .int .i64 e] := by rw [← hwa]; exact Blk.new _ _ _
    rw [hwa]
    have hGZ : w2.heap.size ≠ W.heap.size := by omega
    replace HZ := Lib.hid (HZ.out.fr hfa (fun e => e))
    replace HFR := Lib.hid (HFR.out.call hfa (fun _ h _ => h))
    have HFA := Lib.hid hfa
    have HX := Lib.hid hXA
    replace zc := HZ.out.cell
    replace zf := HZ.out.frozen
    replace zl := HZ.out.lt
    have xc := HX.out.cell
    have xf := HX.out.frozen
    have xl := HX.out.lt
    clear hwa hfa hXA
    have he2 : (e == 0) = false := by simpa using he
    have he3 : (e != 0) = true := by simpa using he
    have htk := HST.out.pure HFA.out
    obtain ⟨bt, ot, hT⟩ := tkAt htk hk2
    obtain ⟨rfl, htb, t0, t1, t2, t3⟩ := hT
    have hbW := HAW.out _ _ rfl
    rw [HPL.out k2 hk2 (remT_inj hk hk2 hr2)] at t3
    have hkI : (k2 : Int) < toks.length := by omega
    have hk0 : 0 ≤ (k2 : Int) := by omega
    clear htk HLV HTK HPL hr2 t0 t1 t2
    go_wp2_with fail
    go_region
    have HB7 := Lib.hid (set7_blk HZ.out (.int .i64 0) (.string ⟨#[]⟩) (.int .i64 0) (.int .i64 0) (.int .i64 0) (.int .i64 0) (.slice none 0 0)).drew
    have HF7 := Lib.hid (set7_fr wa W.heap.size (.int .i64 0) (.string ⟨#[]⟩) (.int .i64 0) (.int .i64 0) (.int .i64 0) (.int .i64 0) (.slice none 0 0)).drew
    go_wp2_with fail
    change bodyPost _ _ _ _ _ (set7 wa W.heap.size (.int .i64 0) (.string ⟨#[]⟩) (.int .i64 0) (.int .i64 0) (.int .i64 0) (.int .i64 0) (.slice none 0 0)).drew
    generalize (set7 wa W.heap.size (.int .i64 0) (.string ⟨#[]⟩) (.int .i64 0) (.int .i64 0) (.int .i64 0) (.int .i64 0) (.slice none 0 0)).drew = W7 at *
    have HS := HB7.out.cell
    refine bodyPost_ret (v := .tuple #[.agg #[.int .i64 0, .string ⟨#[]⟩, .int .i64 0, .int .i64 0, .int .i64 0, .int .i64 0, .slice none 0 0], .int .i64 (e), .int .i64 (pl)]) (by simp [results, Tryd.results17, go_sem, HS]) rfl ?_
    exact ⟨rfl, fr_own HFR.out (Nat.le_refl _) HF7.out⟩
  | @more x ks k h hk hr h0 =>
    have ht := readT_toks h
    obtain ⟨_, n, hn⟩ := hr
    replace hn := hn n (Nat.le_refl _)
    rw [h] at HTK
    generalize (readT s.data.toList).1.2 = p at *
    generalize (readT s.data.toList).2 = toks at *
    have HPOS := Lib.hid (toks_pos ht)
    have HFW := Lib.hid ht.few
    have HLV := Lib.hid (fun A c X hsl => lv_ok (levels A c _ ht n).1.1 (toks_pos ht) hn hk (li := 1) (ki := 0) (by omega) (by omega) X hsl)
    obtain ⟨⟨⟨kd, tx, nm⟩, pl⟩, hx0⟩ : ∃ x0, toks[k] = x0 := ⟨_, rfl⟩
    rw [hx0] at h0 ⊢
    dsimp only at h0 ⊢
    have hkd : (kd != 0) = true := by simpa using h0
    have HX0 := Lib.hid hx0
    clear hn h hx0 h0
    unfold ParseR
    unfold fval rval at *
    go_enter Tryd.func17, Tryd.ntmps17
    go_upto_region 5 with (first
      | ((go_at_call 48); (with_reducible refine (HTK.out _).mono ?_); rintro en w1 ⟨A, c, rfl, hsl, hf1, hne1⟩; have HAW := Lib.hid (fun b o e => Nat.ne_of_gt (Nat.lt_of_lt_of_le zl (hne1 b o e))); replace HZ := Lib.hid (HZ.out.fr hf1 (fun e => e)); replace HFR := Lib.hid (HFR.out.call hf1 (fun _ h _ => h)); have HST := Lib.hid hsl; replace zc := HZ.out.cell; replace zf := HZ.out.frozen; replace zl := HZ.out.lt; clear hsl hf1 hne1)
      | ((go_at_call 49); (with_reducible refine (HLV.out _ _ _ HST.out).mono ?_); rintro en w2 ⟨B, d, f, rfl, htr, hsl, hf2⟩; have HSZ := Lib.hid (Nat.le_trans (Nat.succ_le_of_lt zl) hf2.size); replace HZ := Lib.hid (HZ.out.fr hf2 (fun e => e)); have HSL := Lib.hid (slp_up (M := W.heap.size + 1) hsl (Nat.succ_le_of_lt zl)); replace HFR := Lib.hid (HFR.out.call hf2 (fun _ h _ => h)); replace HST := Lib.hid (HST.out.pure hf2); have HTR := Lib.hid htr; replace zc := HZ.out.cell; replace zf := HZ.out.frozen; replace zl := HZ.out.lt; clear hf2 htr hsl)
      )
    obtain ⟨wa, hwa⟩ : ∃ wa, w2.alloc (.cells #[.int .i64 x.op, .string x.name, .int .i64 x.cmp, .int .i64 x.val, .int .i64 x.lo, .int .i64 x.hi, .slice B f.len d, .int .i64 k, .int .i64 0] 97) = wa := ⟨_, rfl⟩
    have hfa : Fr Nob w2 wa := by rw [← hwa]; exact (Fr.refl _ _).alloc _
    have hXA : Blk wa w2.heap.size 97 #[.int .i64 x.op, .string x.name, .int .i64 x.cmp, .int .i64 x.val, .int .i64 x.lo, .int .i64 x.hi, .slice B f.len d, .int .i64 k, .int .i64 0] := by rw [← hwa]; exact Blk.new _ _ _
    rw [hwa]
    have hGZ : w2.heap.size ≠ W.heap.size := by omega
    replace HZ := Lib.hid (HZ.out.fr hfa (fun e => e))
    replace HFR := Lib.hid (HFR.out.call hfa (fun _ h _ => h))
    have HFA := Lib.hid hfa
    have HX := Lib.hid hXA
    replace zc := HZ.out.cell
    replace zf := HZ.out.frozen
    replace zl := HZ.out.lt
    have xc := HX.out.cell
    have xf := HX.out.frozen
    have xl := HX.out.lt
    clear hwa hfa hXA
    have htk := HST.out.pure HFA.out
    obtain ⟨bt, ot, hT⟩ := tkAt htk hk
    have HB2 := Lib.hid (tk_lt HST.out hk hT.hA)
    rw [HX0.out] at hT
    obtain ⟨rfl, htb, t0, t1, t2, t3⟩ := hT
    have hbW := HAW.out _ _ rfl
    have hkI : (k : Int) < toks.length := by omega
    have hk0 : 0 ≤ (k : Int) := by omega
    clear htk
    clear HLV HTK t1 t2
    go_upto_region 7 with (first
      | ((go_at_call 50); (with_reducible refine (rf_bad _ _ _).mono ?_); unfold rval nd1; rintro en w3 ⟨rfl, hf2⟩; replace HZ := Lib.hid (HZ.out.fr hf2 (fun e => e)); replace HX := Lib.hid (HX.out.fr hf2 (fun e => e)); replace HFR := Lib.hid (HFR.out.call hf2 (fun _ h _ => h)); replace t3 := hf2.cell t3 (fun e => e); replace htb := Nat.lt_of_lt_of_le htb hf2.size; replace zc := HZ.out.cell; replace zf := HZ.out.frozen; replace zl := HZ.out.lt; replace xc := HX.out.cell; replace xf := HX.out.frozen; replace xl := HX.out.lt; clear hf2)
      )
    obtain ⟨wb, hwb⟩ : ∃ wb, set9c w3 w2.heap.size (.int .i64 0) (.string ⟨#[]⟩) (.int .i64 0) (.int .i64 0) (.int .i64 0) (.int .i64 0) (.slice none 0 0) (.int .i64 (k : Int)) (.int .i64 20) = wb := ⟨_, rfl⟩
    have hs9 := set9c_fr w3 w2.heap.size (.int .i64 0) (.string ⟨#[]⟩) (.int .i64 0) (.int .i64 0) (.int .i64 0) (.int .i64 0) (.slice none 0 0) (.int .i64 (k : Int)) (.int .i64 20)
    have hb9 := set9c_blk HX.out (.int .i64 0) (.string ⟨#[]⟩) (.int .i64 0) (.int .i64 0) (.int .i64 0) (.int .i64 0) (.slice none 0 0) (.int .i64 (k : Int)) (.int .i64 20)
    rw [hwb] at hs9 hb9
    unfold set9c at hwb
    rw [hwb]
    replace HX := Lib.hid hb9
    replace HZ := Lib.hid (HZ.out.fr hs9 (by unfold Only; omega))
    replace HFR := Lib.hid (HFR.out.call hs9 (fun i hi hlt => by have := HSZ.out; unfold Only at hi; omega))
    replace t3 := hs9.cell t3 (by have := HB2.out; unfold Only; simp only; omega)
    replace htb := Nat.lt_of_lt_of_le htb hs9.size
    replace zc := HZ.out.cell
    replace zf := HZ.out.frozen
    replace zl := HZ.out.lt
    replace xc := HX.out.cell
    replace xf := HX.out.frozen
    replace xl := HX.out.lt
    clear hwb hs9 hb9
    go_wp2_with fail
    go_region
    have HB7 := Lib.hid (set7_blk HZ.out (.int .i64 0) (.string ⟨#[]⟩) (.int .i64 0) (.int .i64 0) (.int .i64 0) (.int .i64 0) (.slice none 0 0)).drew
    have HF7 := Lib.hid (set7_fr wb W.heap.size (.int .i64 0) (.string ⟨#[]⟩) (.int .i64 0) (.int .i64 0) (.int .i64 0) (.int .i64 0) (.slice none 0 0)).drew
    go_wp2_with fail
    change bodyPost _ _ _ _ _ (set7 wb W.heap.size (.int .i64 0) (.string ⟨#[]⟩) (.int .i64 0) (.int .i64 0) (.int .i64 0) (.int .i64 0) (.slice none 0 0)).drew
    generalize (set7 wb W.heap.size (.int .i64 0) (.string ⟨#[]⟩) (.int .i64 0) (.int .i64 0) (.int .i64 0) (.int .i64 0) (.slice none 0 0)).drew = W7 at *
    have HS := HB7.out.cell
    refine bodyPost_ret (v := .tuple #[.agg #[.int .i64 0, .string ⟨#[]⟩, .int .i64 0, .int .i64 0, .int .i64 0, .int .i64 0, .slice none 0 0], .int .i64 (20), .int .i64 (pl)]) (by simp [results, Tryd.results17, go_sem, HS]) rfl ?_
    exact ⟨rfl, fr_own HFR.out (Nat.le_refl _) HF7.out⟩
  | @big x ks k h hk hr h0 hc =>
    have ht := readT_toks h
    obtain ⟨_, n, hn⟩ := hr
    replace hn := hn n (Nat.le_refl _)
    rw [h] at HTK
    generalize (readT s.data.toList).1.2 = p at *
    generalize (readT s.data.toList).2 = toks at *
    have HPOS := Lib.hid (toks_pos ht)
    have HFW := Lib.hid ht.few
    have HLV := Lib.hid (fun A c X hsl => lv_ok (levels A c _ ht n).1.1 (toks_pos ht) hn hk (li := 1) (ki := 0) (by omega) (by omega) X hsl)
    have HCK := Lib.hid (fun w' p B d f hs he => rp_check ht hn w' p B d f hs he)
    generalize checkT x ks = ce at *
    have hce : (ce != 0) = true := by simpa using hc
    obtain ⟨⟨⟨kd, tx, nm⟩, pl⟩, hx0⟩ : ∃ x0, toks[k] = x0 := ⟨_, rfl⟩
    rw [hx0] at h0
    dsimp only at h0
    subst h0
    have HX0 := Lib.hid hx0
    clear hn h hx0
    unfold ParseR
    unfold fval rval at *
    go_enter Tryd.func17, Tryd.ntmps17
    go_upto_region 5 with (first
      | ((go_at_call 48); (with_reducible refine (HTK.out _).mono ?_); rintro en w1 ⟨A, c, rfl, hsl, hf1, hne1⟩; have HAW := Lib.hid (fun b o e => Nat.ne_of_gt (Nat.lt_of_lt_of_le zl (hne1 b o e))); replace HZ := Lib.hid (HZ.out.fr hf1 (fun e => e)); replace HFR := Lib.hid (HFR.out.call hf1 (fun _ h _ => h)); have HST := Lib.hid hsl; replace zc := HZ.out.cell; replace zf := HZ.out.frozen; replace zl := HZ.out.lt; clear hsl hf1 hne1)
      | ((go_at_call 49); (with_reducible refine (HLV.out _ _ _ HST.out).mono ?_); rintro en w2 ⟨B, d, f, rfl, htr, hsl, hf2⟩; have HSZ := Lib.hid (Nat.le_trans (Nat.succ_le_of_lt zl) hf2.size); replace HZ := Lib.hid (HZ.out.fr hf2 (fun e => e)); have HSL := Lib.hid (slp_up (M := W.heap.size + 1) hsl (Nat.succ_le_of_lt zl)); replace HFR := Lib.hid (HFR.out.call hf2 (fun _ h _ => h)); replace HST := Lib.hid (HST.out.pure hf2); have HTR := Lib.hid htr; replace zc := HZ.out.cell; replace zf := HZ.out.frozen; replace zl := HZ.out.lt; clear hf2 htr hsl)
      )
    obtain ⟨wa, hwa⟩ : ∃ wa, w2.alloc (.cells #[.int .i64 x.op, .string x.name, .int .i64 x.cmp, .int .i64 x.val, .int .i64 x.lo, .int .i64 x.hi, .slice B f.len d, .int .i64 k, .int .i64 0] 97) = wa := ⟨_, rfl⟩
    have hfa : Fr Nob w2 wa := by rw [← hwa]; exact (Fr.refl _ _).alloc _
    have hXA : Blk wa w2.heap.size 97 #[.int .i64 x.op, .string x.name, .int .i64 x.cmp, .int .i64 x.val, .int .i64 x.lo, .int .i64 x.hi, .slice B f.len d, .int .i64 k, .int .i64 0] := by rw [← hwa]; exact Blk.new _ _ _
    rw [hwa]
    have hGZ : w2.heap.size ≠ W.heap.size := by omega
    replace HZ := Lib.hid (HZ.out.fr hfa (fun e => e))
    replace HFR := Lib.hid (HFR.out.call hfa (fun _ h _ => h))
    have HFA := Lib.hid hfa
    have HX := Lib.hid hXA
    replace zc := HZ.out.cell
    replace zf := HZ.out.frozen
    replace zl := HZ.out.lt
    have xc := HX.out.cell
    have xf := HX.out.frozen
    have xl := HX.out.lt
    clear hwa hfa hXA
    have htk := HST.out.pure HFA.out
    obtain ⟨bt, ot, hT⟩ := tkAt htk hk
    have HB2 := Lib.hid (tk_lt HST.out hk hT.hA)
    rw [HX0.out] at hT
    obtain ⟨rfl, htb, t0, t1, t2, t3⟩ := hT
    have hbW := HAW.out _ _ rfl
    have hkI : (k : Int) < toks.length := by omega
    have hk0 : 0 ≤ (k : Int) := by omega
    clear htk
    have HSA := Lib.hid (slp_fr HSL.out HFA.out)
    clear HLV HTK t1 t2 t3
    go_upto_region 11 with (first
      | ((go_at_call 51); (with_reducible refine (HCK.out _ _ _ _ _ HSA.out HTR.out).mono ?_); rintro en w3 ⟨rfl, hf2⟩; replace HZ := Lib.hid (HZ.out.fr hf2 (fun e => e)); replace HX := Lib.hid (HX.out.fr hf2 (fun e => e)); replace HFR := Lib.hid (HFR.out.call hf2 (fun _ h _ => h)); replace HSA := Lib.hid (slp_fr HSA.out hf2); replace zc := HZ.out.cell; replace zf := HZ.out.frozen; replace zl := HZ.out.lt; replace xc := HX.out.cell; replace xf := HX.out.frozen; replace xl := HX.out.lt; clear hf2)
      )
    have HB7 := Lib.hid (set7_blk HZ.out (.int .i64 0) (.string ⟨#[]⟩) (.int .i64 0) (.int .i64 0) (.int .i64 0) (.int .i64 0) (.slice none 0 0))
    have HF7 := Lib.hid (set7_fr w3 W.heap.size (.int .i64 0) (.string ⟨#[]⟩) (.int .i64 0) (.int .i64 0) (.int .i64 0) (.int .i64 0) (.slice none 0 0))
    go_wp2_with fail
    change bodyPost _ _ _ _ _ (set7 w3 W.heap.size (.int .i64 0) (.string ⟨#[]⟩) (.int .i64 0) (.int .i64 0) (.int .i64 0) (.int .i64 0) (.slice none 0 0))
    generalize (set7 w3 W.heap.size (.int .i64 0) (.string ⟨#[]⟩) (.int .i64 0) (.int .i64 0) (.int .i64 0) (.int .i64 0) (.slice none 0 0)) = W7 at *
    have HS := HB7.out.cell
    refine bodyPost_ret (v := .tuple #[.agg #[.int .i64 0, .string ⟨#[]⟩, .int .i64 0, .int .i64 0, .int .i64 0, .int .i64 0, .slice none 0 0], .int .i64 (ce), .int .i64 (0)]) (by simp [results, Tryd.results17, go_sem, HS]) rfl ?_
    exact ⟨rfl, fr_own HFR.out (Nat.le_refl _) HF7.out⟩
  | @good x ks k h hk hr h0 hc =>
    have ht := readT_toks h
    obtain ⟨_, n, hn⟩ := hr
    replace hn := hn n (Nat.le_refl _)
    rw [h] at HTK
    generalize (readT s.data.toList).1.2 = p at *
    generalize (readT s.data.toList).2 = toks at *
    have HPOS := Lib.hid (toks_pos ht)
    have HFW := Lib.hid ht.few
    have HLV := Lib.hid (fun A c X hsl => lv_ok (levels A c _ ht n).1.1 (toks_pos ht) hn hk (li := 1) (ki := 0) (by omega) (by omega) X hsl)
    have HCK := Lib.hid (fun w' p B d f hs he => rp_check ht hn w' p B d f hs he)
    rw [hc] at HCK
    obtain ⟨⟨⟨kd, tx, nm⟩, pl⟩, hx0⟩ : ∃ x0, toks[k] = x0 := ⟨_, rfl⟩
    rw [hx0] at h0
    dsimp only at h0
    subst h0
    have HX0 := Lib.hid hx0
    clear hn h hx0 hc
    unfold ParseR
    unfold fval rval at *
    go_enter Tryd.func17, Tryd.ntmps17
    go_upto_region 5 with (first
      | ((go_at_call 48); (with_reducible refine (HTK.out _).mono ?_); rintro en w1 ⟨A, c, rfl, hsl, hf1, hne1⟩; have HAW := Lib.hid (fun b o e => Nat.ne_of_gt (Nat.lt_of_lt_of_le zl (hne1 b o e))); replace HZ := Lib.hid (HZ.out.fr hf1 (fun e => e)); replace HFR := Lib.hid (HFR.out.call hf1 (fun _ h _ => h)); have HST := Lib.hid hsl; replace zc := HZ.out.cell; replace zf := HZ.out.frozen; replace zl := HZ.out.lt; clear hsl hf1 hne1)
      | ((go_at_call 49); (with_reducible refine (HLV.out _ _ _ HST.out).mono ?_); rintro en w2 ⟨B, d, f, rfl, htr, hsl, hf2⟩; have HSZ := Lib.hid (Nat.le_trans (Nat.succ_le_of_lt zl) hf2.size); replace HZ := Lib.hid (HZ.out.fr hf2 (fun e => e)); have HSL := Lib.hid (slp_up (M := W.heap.size + 1) hsl (Nat.succ_le_of_lt zl)); replace HFR := Lib.hid (HFR.out.call hf2 (fun _ h _ => h)); replace HST := Lib.hid (HST.out.pure hf2); have HTR := Lib.hid htr; replace zc := HZ.out.cell; replace zf := HZ.out.frozen; replace zl := HZ.out.lt; clear hf2 htr hsl)
      )
    obtain ⟨wa, hwa⟩ : ∃ wa, w2.alloc (.cells #[.int .i64 x.op, .string x.name, .int .i64 x.cmp, .int .i64 x.val, .int .i64 x.lo, .int .i64 x.hi, .slice B f.len d, .int .i64 k, .int .i64 0] 97) = wa := ⟨_, rfl⟩
    have hfa : Fr Nob w2 wa := by rw [← hwa]; exact (Fr.refl _ _).alloc _
    have hXA : Blk wa w2.heap.size 97 #[.int .i64 x.op, .string x.name, .int .i64 x.cmp, .int .i64 x.val, .int .i64 x.lo, .int .i64 x.hi, .slice B f.len d, .int .i64 k, .int .i64 0] := by rw [← hwa]; exact Blk.new _ _ _
    rw [hwa]
    have hGZ : w2.heap.size ≠ W.heap.size := by omega
    replace HZ := Lib.hid (HZ.out.fr hfa (fun e => e))
    replace HFR := Lib.hid (HFR.out.call hfa (fun _ h _ => h))
    have HFA := Lib.hid hfa
    have HX := Lib.hid hXA
    replace zc := HZ.out.cell
    replace zf := HZ.out.frozen
    replace zl := HZ.out.lt
    have xc := HX.out.cell
    have xf := HX.out.frozen
    have xl := HX.out.lt
    clear hwa hfa hXA
    have htk := HST.out.pure HFA.out
    obtain ⟨bt, ot, hT⟩ := tkAt htk hk
    have HB2 := Lib.hid (tk_lt HST.out hk hT.hA)
    rw [HX0.out] at hT
    obtain ⟨rfl, htb, t0, t1, t2, t3⟩ := hT
    have hbW := HAW.out _ _ rfl
    have hkI : (k : Int) < toks.length := by omega
    have hk0 : 0 ≤ (k : Int) := by omega
    clear htk
    have HSA := Lib.hid (slp_fr HSL.out HFA.out)
    clear HLV HTK t1 t2 t3
    go_upto_region 12 with (first
      | ((go_at_call 51); (with_reducible refine (HCK.out _ _ _ _ _ HSA.out HTR.out).mono ?_); rintro en w3 ⟨rfl, hf2⟩; replace HZ := Lib.hid (HZ.out.fr hf2 (fun e => e)); replace HX := Lib.hid (HX.out.fr hf2 (fun e => e)); replace HFR := Lib.hid (HFR.out.call hf2 (fun _ h _ => h)); replace HSA := Lib.hid (slp_fr HSA.out hf2); replace zc := HZ.out.cell; replace zf := HZ.out.frozen; replace zl := HZ.out.lt; replace xc := HX.out.cell; replace xf := HX.out.frozen; replace xl := HX.out.lt; clear hf2)
      )
    have HB7 := Lib.hid (set7_blk HZ.out (.int .i64 x.op) (.string x.name) (.int .i64 x.cmp) (.int .i64 x.val) (.int .i64 x.lo) (.int .i64 x.hi) (.slice B f.len d))
    have HF7 := Lib.hid (set7_fr w3 W.heap.size (.int .i64 x.op) (.string x.name) (.int .i64 x.cmp) (.int .i64 x.val) (.int .i64 x.lo) (.int .i64 x.hi) (.slice B f.len d))
    go_wp2_with fail
    change bodyPost _ _ _ _ _ (set7 w3 W.heap.size (.int .i64 x.op) (.string x.name) (.int .i64 x.cmp) (.int .i64 x.val) (.int .i64 x.lo) (.int .i64 x.hi) (.slice B f.len d))
    generalize (set7 w3 W.heap.size (.int .i64 x.op) (.string x.name) (.int .i64 x.cmp) (.int .i64 x.val) (.int .i64 x.lo) (.int .i64 x.hi) (.slice B f.len d)) = W7 at *
    have HS := HB7.out.cell
    refine bodyPost_ret (v := .tuple #[.agg #[.int .i64 x.op, .string x.name, .int .i64 x.cmp, .int .i64 x.val, .int .i64 x.lo, .int .i64 x.hi, .slice B f.len d], .int .i64 (0), .int .i64 (0)]) (by simp [results, Tryd.results17, go_sem, HS]) rfl ?_
    exact ⟨B, d, f, rfl, HTR.out, slp_end HSA.out HF7.out, fr_own HFR.out (Nat.le_refl _) HF7.out⟩
end Go.Proofs.YtfebkjoohnlifaaDoor
