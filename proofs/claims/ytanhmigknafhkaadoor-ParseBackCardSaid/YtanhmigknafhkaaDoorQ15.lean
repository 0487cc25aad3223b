/- ParseBack. -/
import Derived.Test.YtanhmigknafhkaaDoorQ14
namespace Go.Proofs.YtanhmigknafhkaaDoor
open Go.RowKit Go.Shelf
attribute [local go_sem] Instr.field asAgg

set_option maxRecDepth 100000 in
set_option maxHeartbeats 4000000 in
theorem law10_left : ∀ (n : Nat) (N : Nat) (w : World) (x : Nd) (A : Option Addr) (c : Nat) (ks : Fo), n ≤ 100000 → FoSl N w A c ks →
    Calls Tryd.prog 26 #[fval x A ks.len c, .int .i64 n] w fun e w' => e = .returned (.int .i64 (left1 x ks.tr n : Nat)) ∧ Fr Nob w w' := by
  intro n
  induction n using Nat.strongRecOn with
  | _ n ih =>
    intro N w x A c ks hn hs
    have IH := Lib.hid ih
    have HS := Lib.hid hs
    have hmx : ks.len ≤ 9223372036854775807 := Nat.le_trans hs.ok.le (by have := hs.ok.max; unfold maxLen at this; exact this)
    clear ih hs
    unfold fval at *
    by_cases h0 : n = 0
    · subst h0
      have HR := Lib.hid (show left1 x ks.tr 0 = 0 by simp [left1])
      go_enter Tryd.func26, Tryd.ntmps26
      go_wp2_with fail
      go_ret
      rw [HR.out]
      exact ⟨rfl, (Fr.refl _ _).alloc _⟩
    · have hnI : ¬ (n : Int) ≤ 0 := by omega
      have hnI2 : (0 : Int) < n := by omega
      by_cases hnm : 40 < x.name.size
      · have hnm' : (40 : Int) < x.name.size := by omega
        have HR := Lib.hid (show left1 x ks.tr n = 0 by simp [left1, hnm])
        clear h0
        go_enter Tryd.func26, Tryd.ntmps26
        go_wp2_with fail
        go_ret
        rw [HR.out]
        exact ⟨rfl, (Fr.refl _ _).alloc _⟩
      · have hnm' : (x.name.size : Int) ≤ 40 := by omega
        have HR := Lib.hid (show left1 x ks.tr n = leftF ks.tr (n - 1) by simp [left1, hnm, h0])
        clear h0
        have e1 : (n : Int) - 1 = ((n - 1 : Nat) : Int) := by omega
        have E1 := Lib.hid e1
        clear e1
        go_enter Tryd.func26, Tryd.ntmps26
        go_wp2_with fail
        go_loopw [5, 6] (fun s i wr => ∃ k v : Nat, k ≤ ks.len ∧ i = .int .i64 k ∧ s = .int .i64 v ∧ v < n ∧ Hid (leftF (ks.get k).tr v = leftF ks.tr (n - 1)) ∧ Hid (Fr Nob w wr) ∧ Hid (Blk wr w.heap.size 28 #[.int .i64 x.op, .string x.name, .int .i64 x.cmp, .int .i64 x.val, .int .i64 x.lo, .int .i64 x.hi, .slice A ks.len c])) (fun _ i _ => ks.len - (intOf i).toNat)
        case atStart => exact ⟨0, n - 1, Nat.zero_le _, rfl, vint E1.out, by omega, Lib.hid (by rw [Fo.get_zero]), Lib.hid ((Fr.refl _ _).alloc _), Lib.hid (Blk.new _ _ _)⟩
        case round =>
          obtain ⟨k, v, hk, rfl, rfl, hvn, hle, hfr, hbx⟩ := hrel
          have c6 : wr.cell? ⟨w.heap.size, 6, none⟩ = some (.slice A ks.len c) := hbx.out.cell 6
          have hbl := Blk.lt hbx.out
          by_cases hlt : k < ks.len
          · have hI : (k : Int) < ks.len := by omega
            have hI3 : 0 ≤ (k : Int) := by omega
            by_cases hv0 : v = 0
            · have HE := Lib.hid (show leftF ks.tr (n - 1) = 0 by rw [← hle.out, hv0, leftF_zero])
              subst hv0
              clear hle
              go_wp2_with fail
              go_ret
              rw [HR.out, HE.out]
              exact ⟨rfl, hfr.out⟩
            · have hvI : (0 : Int) < v := by omega
              obtain ⟨b, off, y, B, d, js, rs, K⟩ := (HS.out.fr hfr.out).kid hlt
              obtain ⟨d0, d1, d2, d3, d4, d5, d6⟩ := K.nd
              obtain rfl := K.slice
              have hlt2 := K.lt
              have hg := K.get
              have hg2 := Fo.get_succ hg
              have HC := Lib.hid (IH.out v hvn N wr y B d js (by omega) K.sl)
              have HE := Lib.hid (show leftF (ks.get (k + 1)).tr (left1 y js.tr v) = leftF ks.tr (n - 1) by
                rw [← hle.out, hg, hg2]; simp only [Fo.tr, leftF]; rw [if_neg hv0]; unfold left1; by_cases hy : 40 < y.name.size <;> simp [hy, hv0])
              have hlv : left1 y js.tr v < n := by
                have : left1 y js.tr v ≤ v := by unfold left1; split; omega; have := leftF_le js.tr (v - 1); omega
                omega
              clear hg hg2 K hv0
              generalize left1 y js.tr v = u at *
              go_wp2_with ((go_at_call 26); refine (HC.out).mono ?_; rintro e w1 ⟨rfl, hf⟩)
              go_roundw
              case rel => exact ⟨k + 1, u, by omega, by go_num, rfl, hlv, HE, Lib.hid (hfr.out.call hf (fun _ h _ => h)), Lib.hid (hbx.out.fr hf (fun e => e))⟩
              case measure => simp [intOf]; omega
          · have HE := Lib.hid (show leftF ks.tr (n - 1) = v by rw [← hle.out, Fo.get_end (by omega)]; rfl)
            go_wp2_with fail
            go_ret
            rw [HR.out, HE.out]
            exact ⟨rfl, hfr.out⟩

theorem short_nm : ∀ {t : Tr}, t.shortN → t.nm512
  | .nil, _ => trivial
  | .cons x k r, h => ⟨by have := h.1; omega, short_nm h.2.1, short_nm h.2.2⟩
set_option maxRecDepth 100000 in
set_option maxHeartbeats 4000000 in
theorem law_ParseBack (W : World) (x : Nd) (A : Option Addr) (c : Nat) (ks : Fo) (hs : FoSl W.heap.size W A c ks) (hx : NdOk x) (hk : ks.tr.ok) (hv : ErrVar W) (hsh : ShVar W) (htb : TbVar W) : Calls Tryd.prog 9 #[fval x A ks.len c] W fun en w' => en = .returned (.bool true) ∧ Fr Nob W w' := by
  have HAW := Lib.hid (fun X (hf : Fr Nob W X) => law10_awake X (hv.fr hf) (hsh.fr hf))
  have HLF := Lib.hid (fun X (hf : Fr Nob W X) => law10_left 60 W.heap.size X x A c ks (by decide) (hs.fr hf))
  rw [show ((60 : Nat) : Int) = 60 from rfl] at HLF
  by_cases h0 : left1 x ks.tr 60 = 0
  · rw [h0] at HLF
    unfold fval at *
    clear hs hx hk hv hsh htb h0
    go_enter Tryd.func9, Tryd.ntmps9
    go_wp2_with (first
      | ((go_at_call 20); (with_reducible refine (HAW.out _ ((Fr.refl _ _).alloc _)).mono ?_); rintro en w1 ⟨rfl, hf⟩; have HX := Lib.hid ((Blk.new W 28 #[.int .i64 x.op, .string x.name, .int .i64 x.cmp, .int .i64 x.val, .int .i64 x.lo, .int .i64 x.hi, .slice A ks.len c]).fr hf (fun e => e)); have HF := Lib.hid (((Fr.refl Nob W).alloc _).call hf (fun _ h _ => h)); have xc := HX.out.cell; have xl := HX.out.lt; clear hf)
      | ((go_at_call 26); (with_reducible refine (HLF.out _ HF.out).mono ?_); rintro en w2 ⟨rfl, hf⟩; replace HX := Lib.hid (HX.out.fr hf (fun e => e)); replace HF := Lib.hid (HF.out.call hf (fun _ h _ => h)); replace xc := HX.out.cell; replace xl := HX.out.lt; clear hf)
      )
    go_ret
    exact ⟨rfl, HF.out⟩
  have hpos : (0 : Int) < (left1 x ks.tr 60 : Nat) := by omega
  obtain ⟨hp1, hp2, hp3⟩ := left1_pos (Nat.pos_of_ne_zero h0)
  have HCK := Lib.hid (fun X (hf : Fr Nob W X) => prg_Check X x A c ks ((hs.fr hf).mono hf.size) (by omega) (hsh.fr hf) (nm_nodes (by omega) (short_nm hp3)))
  generalize left1 x ks.tr 60 = lf at *
  by_cases hc : checkT x ks.tr = 0
  · have hsn : Shn x ks.tr := ⟨⟨hx, hk, by omega, short_nm hp3⟩, hc⟩
    rw [hc] at HCK
    have HSH := Lib.hid (fun X (hf : Fr Nob W X) => hsn.show_ hsh htb hf A c ks ((hs.fr hf).mono hf.size) rfl)
    have HSM := Lib.hid (fun X (hf : Fr Nob W X) (C : Option Addr) (e : Nat) (g : Fo) (h2 : FoSl X.heap.size X C e g) (e2 : g.tr = ks.tr) => same_true (x := x) (ks := ks.tr) (by omega) X A c ks C e g ((hs.fr hf).mono hf.size) h2 rfl e2)
    have htp := text_parse hx hk hc
    have hsz := hsn.size
    obtain ⟨t, ht⟩ : ∃ t, showT x ks.tr = t := ⟨_, rfl⟩
    rw [ht] at htp hsz
    simp only [ht] at HSH
    rw [ba_len2] at htp
    have hts : t.size ≤ 9223372036854775807 := by omega
    by_cases h512 : 512 < t.size
    · have hJ : (512 : Int) < t.size := by omega
      have HP1 := Lib.hid (fun X (hf : Fr Nob W X) => prg_Parse X t hts (hv.fr hf) (hsh.fr hf) _ (htp.2 h512))
      unfold ParseR fval at HP1
      unfold fval at *
      clear hv hsh htb hsn htp hsz ht h512 hts hs hx hk hp1 hp2 hp3 h0 hc
      go_enter Tryd.func9, Tryd.ntmps9
      go_wp2_with (first
        | ((go_at_call 20); (with_reducible refine (HAW.out _ ((Fr.refl _ _).alloc _)).mono ?_); rintro en w1 ⟨rfl, hf⟩; have HX := Lib.hid ((Blk.new W 28 #[.int .i64 x.op, .string x.name, .int .i64 x.cmp, .int .i64 x.val, .int .i64 x.lo, .int .i64 x.hi, .slice A ks.len c]).fr hf (fun e => e)); have HF := Lib.hid (((Fr.refl Nob W).alloc _).call hf (fun _ h _ => h)); have xc := HX.out.cell; have xl := HX.out.lt; clear hf)
        | ((go_at_call 26); (with_reducible refine (HLF.out _ HF.out).mono ?_); rintro en w2 ⟨rfl, hf⟩; replace HX := Lib.hid (HX.out.fr hf (fun e => e)); replace HF := Lib.hid (HF.out.call hf (fun _ h _ => h)); replace xc := HX.out.cell; replace xl := HX.out.lt; clear hf)
        | ((go_at_call 25); (with_reducible refine (HCK.out _ HF.out).mono ?_); rintro en w3 ⟨rfl, hf⟩; replace HX := Lib.hid (HX.out.fr hf (fun e => e)); replace HF := Lib.hid (HF.out.call hf (fun _ h _ => h)); replace xc := HX.out.cell; replace xl := HX.out.lt; clear hf)
        | ((go_at_call 17); (with_reducible refine (HSH.out _ HF.out).mono ?_); rintro en w4 ⟨rfl, hf⟩; replace HX := Lib.hid (HX.out.fr hf (fun e => e)); replace HF := Lib.hid (HF.out.call hf (fun _ h _ => h)); replace xc := HX.out.cell; replace xl := HX.out.lt; clear hf)
        | ((go_at_call 21); (with_reducible refine (HP1.out _ HF.out).mono ?_); rintro en w5 ⟨rfl, hf⟩; replace HF := Lib.hid (HF.out.call hf (fun _ h _ => h)); clear hf))
      go_ret
      exact ⟨rfl, HF.out.alloc _⟩
    · have hJ : (t.size : Int) ≤ 512 := by omega
      have HP1 := Lib.hid (fun X (hf : Fr Nob W X) => prg_Parse X t hts (hv.fr hf) (hsh.fr hf) _ (htp.1 (by omega)))
      unfold ParseR fval at HP1
      unfold fval at *
      clear hv hsh htb hsn htp hsz ht h512 hts hs hx hk hp1 hp2 hp3 h0 hc
      go_enter Tryd.func9, Tryd.ntmps9
      go_wp2_with (first
        | ((go_at_call 20); (with_reducible refine (HAW.out _ ((Fr.refl _ _).alloc _)).mono ?_); rintro en w1 ⟨rfl, hf⟩; have HX := Lib.hid ((Blk.new W 28 #[.int .i64 x.op, .string x.name, .int .i64 x.cmp, .int .i64 x.val, .int .i64 x.lo, .int .i64 x.hi, .slice A ks.len c]).fr hf (fun e => e)); have HF := Lib.hid (((Fr.refl Nob W).alloc _).call hf (fun _ h _ => h)); have xc := HX.out.cell; have xl := HX.out.lt; clear hf)
        | ((go_at_call 26); (with_reducible refine (HLF.out _ HF.out).mono ?_); rintro en w2 ⟨rfl, hf⟩; replace HX := Lib.hid (HX.out.fr hf (fun e => e)); replace HF := Lib.hid (HF.out.call hf (fun _ h _ => h)); replace xc := HX.out.cell; replace xl := HX.out.lt; clear hf)
        | ((go_at_call 25); (with_reducible refine (HCK.out _ HF.out).mono ?_); rintro en w3 ⟨rfl, hf⟩; replace HX := Lib.hid (HX.out.fr hf (fun e => e)); replace HF := Lib.hid (HF.out.call hf (fun _ h _ => h)); replace xc := HX.out.cell; replace xl := HX.out.lt; clear hf)
        | ((go_at_call 17); (with_reducible refine (HSH.out _ HF.out).mono ?_); rintro en w4 ⟨rfl, hf⟩; replace HX := Lib.hid (HX.out.fr hf (fun e => e)); replace HF := Lib.hid (HF.out.call hf (fun _ h _ => h)); replace xc := HX.out.cell; replace xl := HX.out.lt; clear hf)
        | ((go_at_call 21); (with_reducible refine (HP1.out _ HF.out).mono ?_); rintro en w5 ⟨C, e, g, rfl, htr, hsl, hf⟩; have HT2 := Lib.hid htr; have HS2 := Lib.hid (hsl.lt.sl (N := w5.heap.size) (fun k hk => hk.2)); replace HX := Lib.hid (HX.out.fr hf (fun e => e)); replace HF := Lib.hid (HF.out.call hf (fun _ h _ => h)); replace xc := HX.out.cell; replace xl := HX.out.lt; clear hf htr hsl)
        | ((go_at_call 15); (with_reducible refine (HSM.out _ (HF.out.alloc _) _ _ _ ((HS2.out.fr ((Fr.refl Nob _).alloc _)).mono (by simp)) HT2.out).mono ?_); rintro en w6 ⟨rfl, hf⟩; replace HF := Lib.hid ((HF.out.alloc _).call hf (fun _ h _ => h)); clear hf))
      go_ret
      exact ⟨rfl, HF.out⟩
  · have hcc : (checkT x ks.tr == 0) = false := by simpa using hc
    generalize checkT x ks.tr = ce at *
    have hcn : ¬ ce = 0 := hc
    have hcn2 : (ce != 0) = true := by simpa using hc
    unfold fval at *
    clear hs hx hk hv hsh htb h0 hp1 hp2 hp3 hc
    go_enter Tryd.func9, Tryd.ntmps9
    go_wp2_with (first
      | ((go_at_call 20); (with_reducible refine (HAW.out _ ((Fr.refl _ _).alloc _)).mono ?_); rintro en w1 ⟨rfl, hf⟩; have HX := Lib.hid ((Blk.new W 28 #[.int .i64 x.op, .string x.name, .int .i64 x.cmp, .int .i64 x.val, .int .i64 x.lo, .int .i64 x.hi, .slice A ks.len c]).fr hf (fun e => e)); have HF := Lib.hid (((Fr.refl Nob W).alloc _).call hf (fun _ h _ => h)); have xc := HX.out.cell; have xl := HX.out.lt; clear hf)
      | ((go_at_call 26); (with_reducible refine (HLF.out _ HF.out).mono ?_); rintro en w2 ⟨rfl, hf⟩; replace HX := Lib.hid (HX.out.fr hf (fun e => e)); replace HF := Lib.hid (HF.out.call hf (fun _ h _ => h)); replace xc := HX.out.cell; replace xl := HX.out.lt; clear hf)
      | ((go_at_call 25); (with_reducible refine (HCK.out _ HF.out).mono ?_); rintro en w3 ⟨rfl, hf⟩; replace HX := Lib.hid (HX.out.fr hf (fun e => e)); replace HF := Lib.hid (HF.out.call hf (fun _ h _ => h)); replace xc := HX.out.cell; replace xl := HX.out.lt; clear hf)
      )
    go_ret
    exact ⟨rfl, HF.out⟩
end Go.Proofs.YtanhmigknafhkaaDoor
