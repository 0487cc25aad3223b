/- A line's words: the program. -/
import Derived.Test.YtidhlfcmjpnhgaaGreatDoorSJ
namespace Go.Proofs.YtidhlfcmjpnhgaaGreatDoor
open Go.RowKit Go.Lib

theorem RowP.bad {w w' : World} {z : Int × ZC} {k : Int} (h : z = (k, z0)) (hf : Fr Nob w w') : RowP w z (.returned (.tuple #[.agg #[.int .i64 0, .int .i64 0, .int .i64 0, .slice none 0 0], .int .i64 k])) w' := by
  subst h
  exact ⟨none, 0, rfl, hf, Sl.none_ _ _, fun g o e => (by cases e)⟩
theorem set4_nob {w wr : World} (hf : Fr Nob w wr) {z : Nat} (hz : w.heap.size ≤ z) (v0 v1 v2 v3 : Value) : Fr Nob w ((((wr.setCell ⟨z, 0, none⟩ v0).setCell ⟨z, 1, none⟩ v1).setCell ⟨z, 2, none⟩ v2).setCell ⟨z, 3, none⟩ v3) :=
  ((hf.mono (fun _ _ e => e.elim) : Fr (Only z) w wr).call (set4_fr wr z v0 v1 v2 v3) (fun _ e _ => e)).mono fun k hk e => by have e : k = z := e; omega
theorem bytes_off {W : World} {B : Option Addr} {d z : Nat} {t : TypeId} {l : List UInt8} (h : Sl W 1 B l.length d (byteCells l)) (hz : Blk W z t #[.int .i64 0, .int .i64 0, .int .i64 0, .slice none 0 0]) : ∀ g o, B = some ⟨g, o, none⟩ → 0 < l.length → ¬ Only z g := by
  intro g o hB hl e
  have e : g = z := e
  obtain ⟨b, off, hA, hb, hc⟩ := h.u8_at hl rfl
  rw [hB] at hA
  injection hA with hA
  injection hA with h1 h2 _
  subst h1 h2 e
  have := hz.cell (o + 0)
  rw [hc] at this
  rcases o with _ | _ | _ | _ | o <;> simp at this
theorem made_cases (q : Nat) (s : SC) : (madeS q s).1 = 0 ∨ madeS q s = (11, z0) := by
  unfold madeS
  (repeat' split) <;> simp
set_option maxRecDepth 100000 in
set_option maxHeartbeats 40000000 in
theorem prg_rowread (w : World) (q : Nat) (f : Value) (hq : q < 9) (hmk : RowMk w q f) (B : Option Addr) (n d : Nat) (ws : List ByteArray) (hw : Sl w 1 B n d (strB ws)) (hne : ∀ x ∈ ws, x.size ≤ 100000) (hlen : ws.length ≤ 9000) (hv : ErrVar w) (hm : MaxVar w) :
    Calls Tryz.prog 18 #[rowV q f, .slice B n d] w fun e w' => RowP w (rowS q (bl ws)) e w' := by
  have hn : ws.length = n := by have := hw.len; simpa [strB] using this
  subst hn
  have HW := Lib.hid hw
  have HNE := Lib.hid hne
  have HV := Lib.hid hv
  have HX := Lib.hid hm
  have HMK := Lib.hid hmk
  have hsz := want_size q hq
  have hus := want_uses q hq
  have hbl : (bl ws).length = ws.length := by simp [bl]
  have hmx := hw.max
  have hle := hw.le
  unfold maxLen at hmx
  have hs3 : (wantB q).size ≤ 3 := by rw [hsz]; exact (show ∀ q, q < 9 → wantsN q ≤ 3 by decide) q hq
  have hmm : ∀ W, (Instr.makeMap 68 none).run Tryz.prog W = .ok (.map (some W.heap.size)) (W.alloc (.map #[] 0)) := fun _ => rfl
  clear hw hne hv hm hmk
  rw [show rowV q f = .agg #[.string (wantB q), .bool (decide (q = 3)), f] from rfl]
  by_cases hb1 : ws.length < wantsN q
  · have HR := Lib.hid (show rowS q (bl ws) = (11, z0) by unfold rowS; rw [if_pos (.inl (by omega))])
    have hI : (ws.length : Int) < (wantB q).size := by omega
    clear hus hb1 hsz
    go_enter Tryz.func18, Tryz.ntmps18
    go_wp2_with fail
    refine bodyPost_ret (v := .tuple #[.agg #[.int .i64 0, .int .i64 0, .int .i64 0, .slice none 0 0], .int .i64 11]) (by simp [results, Tryz.results18, go_sem]) rfl ?_
    exact .bad HR.out (((Fr.refl _ _).alloc _).alloc _)
  · by_cases hb2 : wantsN q < ws.length ∧ q ≠ 3
    · have HR := Lib.hid (show rowS q (bl ws) = (11, z0) by unfold rowS; rw [if_pos (.inr (by rw [hbl]; exact hb2))])
      have hI : ¬ (ws.length : Int) < (wantB q).size := by omega
      have hI2 : ((wantB q).size : Int) < ws.length := by omega
      have h3 : decide (q = 3) = false := by simpa using hb2.2
      rw [h3]
      clear hus hb1 hsz hb2 h3
      go_enter Tryz.func18, Tryz.ntmps18
      go_wp2_with fail
      refine bodyPost_ret (v := .tuple #[.agg #[.int .i64 0, .int .i64 0, .int .i64 0, .slice none 0 0], .int .i64 11]) (by simp [results, Tryz.results18, go_sem]) rfl ?_
      exact .bad HR.out (((Fr.refl _ _).alloc _).alloc _)
    · have HRW := Lib.hid (show rowS q (bl ws) = match goS q 0 (bl ws) s0 with
          | none => (11, z0)
          | some s => if s.fits = true then madeS q s else (33, z0) by unfold rowS; rw [if_neg (by rw [hbl]; omega)]; rfl)
      have hI : ¬ (ws.length : Int) < (wantB q).size := by omega
      have H3 := Lib.hid (show ¬ ((wantB q).size : Int) < ws.length ∨ (((wantB q).size : Int) < ws.length ∧ decide (q = 3) = true) by
        by_cases h : wantsN q < ws.length
        · refine .inr ⟨by omega, ?_⟩
          by_cases h3 : q = 3
          · simpa using h3
          · exact absurd ⟨h, h3⟩ hb2
        · exact .inl (by omega))
      have hst := RdS.start (w := w) (q := q) (f := f)
      have HQ3 := Lib.hid (show wantsN q < ws.length → q = 3 from fun h => by
        by_cases h3 : q = 3
        · exact h3
        · exact absurd ⟨h, h3⟩ hb2)
      clear hb1 hb2
      obtain ⟨W1, hW1⟩ : ∃ W1, W1 = ((w.alloc (.cells #[.string (wantB q), .bool (decide (q = 3)), f] 54)).alloc (.cells #[.int .i64 0, .int .i64 0, .int .i64 0, .slice none 0 0] 34)) := ⟨_, rfl⟩
      have HB0 := Lib.hid (show Blk W1 w.heap.size 54 #[.string (wantB q), .bool (decide (q = 3)), f] by rw [hW1]; exact (Blk.new _ _ _).alloc _)
      have hsz1 : W1.heap.size = w.heap.size + 2 := by rw [hW1]; simp
      rw [← hW1] at hst
      have HST := Lib.hid hst
      have HUS := Lib.hid hus
      have HSZ := Lib.hid hsz
      clear hst hus hsz
      go_enter Tryz.func18, Tryz.ntmps18
      go_upto_region 1 with fail
      rw [← hW1]
      obtain ⟨mo, HMO⟩ : ∃ mo, Hid (decide (q = 3) = mo) := ⟨_, Lib.hid rfl⟩
      rw [HMO.out] at HB0 H3 ⊢
      clear hW1
      go_cut [32] (fun cv wx => cv = .bool false ∧ wx = W1)
      case first =>
        have bx := HB0.out.cell
        rcases H3.out with h | ⟨h, h3⟩
        · go_wp2_with fail
          go_meet
          exact ⟨rfl, rfl⟩
        · subst h3
          go_wp2_with fail
          go_meet
          exact ⟨rfl, rfl⟩
      case rest =>
        obtain ⟨rfl, h4⟩ := hcut
        have h4' := h4.symm
        subst h4'
        clear h4 H3
        go_wp2_with fail
        clear HB0 hsz1 hmm
        go_loopw [7, 38] (fun fv iv wr => ∃ (k : Nat) (s : SC) (B' : Option Addr) (d' : Nat) (A' : Option Addr) (c' : Nat) (E : List (Nat × Nat)) (ps : List PP), k ≤ ws.length ∧ iv = .int .i64 k ∧ fv = .bool s.fits ∧ Hid (goS q 0 (bl ws) s0 = goS q k ((bl ws).drop k) s) ∧ Hid (RdS w wr q f s k B' d' A' c' E ps)) (fun _ iv _ => ws.length - (RowKit.intOf iv).toNat)
        case atStart => exact ⟨0, s0, none, 0, none, 0, [], [], Nat.zero_le _, rfl, rfl, Lib.hid rfl, HST⟩
        case round =>
          obtain ⟨k, s, B', d', A', c', E, ps, hk, rfl, rfl, HGO, hp⟩ := hrel
          by_cases hlt : k < ws.length
          · have hK : (k : Int) < ws.length := by omega
            have hK3 : 0 ≤ (k : Int) := by omega
            obtain ⟨gw, ow, rfl, hgw, hcw⟩ := (HW.out.pure hp.out.fr).str_at hlt
            have hx := HNE.out ws[k] (List.getElem_mem hlt)
            have HGK := Lib.hid (show goS q k ((bl ws).drop k) s = match wordS q k ws[k].data.toList s with
                | none => none
                | some t => goS q (k + 1) ((bl ws).drop (k + 1)) t by
              rw [List.drop_eq_getElem_cons (show k < (bl ws).length by omega), goS]
              congr 1
              simp [bl])
            have HVR := Lib.hid (HV.out.fr hp.out.fr)
            have HXR := Lib.hid (HX.out.fr hp.out.fr)
            generalize ws[k] = x at *
            have bx := hp.out.row.cell
            have bln := hp.out.line.cell
            by_cases hA : k < (usesN q).length
            · have hu3 := (let_len q hq).2
              have hkw : k < (wantB q).size := by have := HUS.out; have := HSZ.out; omega
              have hkI : ¬ ((wantB q).size : Int) ≤ k := by omega
              have hkJ : (k : Int) < (wantB q).size := by omega
              have hL : (wantB q)[k].toNat = (letQ q).getD k 0 := by
                rw [← want_let1 q hq k (by omega) hA, List.getD_eq_getElem?_getD, List.getElem?_eq_getElem (by simpa using hkw), Option.getD_some, ← ba_get _ k hkw]
              have hLs := want_let2 q hq k (by omega) hA
              have h120 : (((wantB q)[k].toNat : Int) == 120) = false := by rw [beq_eq_false_iff_ne]; omega
              have hLM := want_let3 q hq k (by omega) hA
              have hLT := want_let4 q hq k (by omega) hA
              have hkeys := hp.out.keys
              have HNUM := Lib.hid (show Calls Tryz.prog 40 #[.pointer (some ⟨w.heap.size + 3, 0, none⟩), .int .u8 ((wantB q)[k].toNat : Nat), .string x] wr (NumP wr (w.heap.size + 2) E ((letQ q).getD k 0) (natC x.data.toList)) by
                rw [hL]
                exact prg_num wr (w.heap.size + 3) (w.heap.size + 2) _ E x hx (hp.out.line.cell 0) hp.out.map (fun m hm => by
                  have := hkeys _ hm
                  simp only at this
                  rw [List.contains_eq_mem] at hLT
                  simp at hLT
                  exact hLT (by simpa using this)) hLs HVR.out)
              clear hL hLs hLT hkeys
              cases hn : natC x.data.toList with
              | none =>
                have HR := Lib.hid (show rowS q (bl ws) = (11, z0) by
                  rw [HRW.out, HGO.out, HGK.out, show wordS q k x.data.toList s = none by unfold wordS; rw [if_pos hA, hn]; rfl])
                clear HGK
                go_wp2_with (first
                  | ((go_at_call 40); (with_reducible refine HNUM.out.mono ?_); rintro e w3 h3; obtain ⟨rfl, hf3⟩ := h3.1 hn; have HF3 := Lib.hid hf3; have HT3 := Lib.hid (hp.out.zst.fr hf3 (fun e => e)); have zc := HT3.out.cell; have zf := HT3.out.frozen; have zl := HT3.out.lt; have bx3 := (hp.out.row.fr hf3 (fun e => e)).cell; have bl3 := (hp.out.line.fr hf3 (fun e => e)).cell; have bf3 := (hp.out.line.fr hf3 (fun e => e)).frozen; clear hf3 h3)
                  | fail)
                refine bodyPost_ret (v := .tuple #[.agg #[.int .i64 0, .int .i64 0, .int .i64 0, .slice none 0 0], .int .i64 11]) (by simp [results, Tryz.results18, go_sem, zc]) rfl ?_
                exact .bad HR.out (by
                  repeat (with_reducible refine Fr.setCell ?_ (fun h => ?_) _; rotate_left; (exfalso; dsimp only at h; omega))
                  exact (hp.out.fr.call HF3.out (fun _ e _ => e)))
              | some m =>
                have HGN := Lib.hid (show goS q k ((bl ws).drop k) s = goS q (k + 1) ((bl ws).drop (k + 1)) { s with ns := s.ns ++ [m], fits := s.fits && decide (m ≤ mostN ((usesN q).getD k 0)) } by
                  rw [HGK.out, show wordS q k x.data.toList s = some { s with ns := s.ns ++ [m], fits := s.fits && decide (m ≤ mostN ((usesN q).getD k 0)) } by unfold wordS; rw [if_pos hA, hn]; rfl])
                clear HGK
                by_cases h64 : m < 18446744073709551616
                · go_wp2_with (first
                    | ((go_at_call 40); (with_reducible refine HNUM.out.mono ?_); rintro e w3 h3; obtain ⟨rfl, hm3, hf3⟩ := h3.2.1 m hn h64; have HRD := Lib.hid (hp.out.num hq hA hm3 hf3); rw [hLM]; clear h3 hm3 hf3)
                    | fail)
                  all_goals
                    refine ⟨⟨k + 1, _, _, _, _, _, _, _, by omega, by go_num, ?_, Lib.hid (HGO.out.trans HGN.out), HRD⟩, by simp [RowKit.intOf]; omega⟩
                    simp_all
                · go_wp2_with (first
                    | ((go_at_call 40); (with_reducible refine HNUM.out.mono ?_); rintro e w3 h3; obtain ⟨rfl, hf3⟩ := h3.2.2 m hn h64; have HRD := Lib.hid (hp.out.numFar hq hA h64 hf3); clear h3 hf3)
                    | fail)
                  have hbig : decide (m ≤ mostN ((usesN q).getD k 0)) = false := by
                    have : mostN ((usesN q).getD k 0) ≤ 18446744073709551615 := by unfold mostN; (repeat' split) <;> omega
                    exact decide_eq_false (by omega)
                  all_goals
                    refine ⟨⟨k + 1, _, _, _, _, _, _, _, by omega, by go_num, ?_, Lib.hid (HGO.out.trans HGN.out), HRD⟩, by simp [RowKit.intOf]; omega⟩
                    simp_all
            · by_cases hB : k < wantsN q
              · have hq1 : q = 1 := by have := HUS.out; omega
                have hku : k = (usesN q).length := by have := HUS.out; omega
                have hkw : k < (wantB q).size := by have := HSZ.out; omega
                have hkI : ¬ ((wantB q).size : Int) ≤ k := by omega
                have hkJ : (k : Int) < (wantB q).size := by omega
                have h120 : (((wantB q)[k].toNat : Int) == 120) = true := by
                  subst hq1
                  have hk1 : k = 1 := hku
                  subst hk1
                  rfl
                have HPA := Lib.hid (prg_pairs wr x hx)
                have HQ1 := Lib.hid hq1
                have HKU := Lib.hid hku
                clear hq1 hku
                cases hn : pairsC x.data.toList with
                | none =>
                  have HR := Lib.hid (show rowS q (bl ws) = (11, z0) by
                    rw [HRW.out, HGO.out, HGK.out, show wordS q k x.data.toList s = none by unfold wordS; rw [if_neg hA, if_pos HQ1.out, hn]; rfl])
                  clear HGK
                  go_wp2_with (first
                    | ((go_at_call 39); (with_reducible refine HPA.out.mono ?_); rintro e w3 h3; obtain ⟨rfl, hf3⟩ := h3.2 hn; have HF3 := Lib.hid hf3; have HT3 := Lib.hid (hp.out.zst.fr hf3 (fun e => e)); have zc := HT3.out.cell; have zf := HT3.out.frozen; have zl := HT3.out.lt; have bx3 := (hp.out.row.fr hf3 (fun e => e)).cell; have bl3 := (hp.out.line.fr hf3 (fun e => e)).cell; have bf3 := (hp.out.line.fr hf3 (fun e => e)).frozen; clear hf3 h3)
                    | fail)
                  refine bodyPost_ret (v := .tuple #[.agg #[.int .i64 0, .int .i64 0, .int .i64 0, .slice none 0 0], .int .i64 11]) (by simp [results, Tryz.results18, go_sem, zc]) rfl ?_
                  exact .bad HR.out (by
                    repeat (with_reducible refine Fr.setCell ?_ (fun h => ?_) _; rotate_left; (exfalso; dsimp only at h; omega))
                    exact (hp.out.fr.call HF3.out (fun _ e _ => e)))
                | some bs =>
                  have HGN := Lib.hid (show goS q k ((bl ws).drop k) s = goS q (k + 1) ((bl ws).drop (k + 1)) { s with b := bs } by
                    rw [HGK.out, show wordS q k x.data.toList s = some { s with b := bs } by unfold wordS; rw [if_neg hA, if_pos HQ1.out, hn]; rfl])
                  clear HGK
                  go_wp2_with (first
                    | ((go_at_call 39); (with_reducible refine HPA.out.mono ?_); rintro e w3 h3; obtain ⟨B3, d3, rfl, hp3⟩ := h3.1 bs hn; have HRD := Lib.hid (hp.out.bytes HQ1.out HKU.out hp3); have bl3 := (hp.out.line.fr hp3.fr (fun e => e)).cell; have bf3 := (hp.out.line.fr hp3.fr (fun e => e)).frozen; clear h3 hp3)
                    | fail)
                  all_goals
                    refine ⟨⟨k + 1, _, _, _, _, _, _, _, by omega, by go_num, ?_, Lib.hid (HGO.out.trans HGN.out), HRD⟩, by simp [RowKit.intOf]; omega⟩
                    simp_all
              · have hq3 : q = 3 := HQ3.out (by omega)
                have hq1 : q ≠ 1 := by omega
                have hku : (usesN q).length ≤ k := by omega
                have hkI : ((wantB q).size : Int) ≤ k := by have := HSZ.out; omega
                have hwl := hp.out.line.lt
                have hpsl := hp.out.psl
                have HPP := Lib.hid (prg_prop wr (w.heap.size + 3) (w.heap.size + 3) (w.heap.size + 2) _ A' c' ps x hx hp.out.line hp.out.own (Nat.le_refl _) (by omega) (by omega) HVR.out HXR.out)
                have HQ1 := Lib.hid hq1
                have HKU := Lib.hid hku
                clear hq1 hku hq3 hwl hpsl
                cases hn : propC x.data.toList with
                | none =>
                  have HR := Lib.hid (show rowS q (bl ws) = (11, z0) by
                    rw [HRW.out, HGO.out, HGK.out, show wordS q k x.data.toList s = none by unfold wordS; rw [if_neg hA, if_neg HQ1.out, hn]; rfl])
                  clear HGK
                  go_wp2_with (first
                    | ((go_at_call 38); (with_reducible refine HPP.out.mono ?_); rintro e w3 h3; obtain ⟨rfl, hf3⟩ := h3.1 hn; have HF3 := Lib.hid hf3; have HT3 := Lib.hid (hp.out.zst.fr hf3 (fun e => e)); have zc := HT3.out.cell; have zf := HT3.out.frozen; have zl := HT3.out.lt; have bx3 := (hp.out.row.fr hf3 (fun e => e)).cell; have bl3 := (hp.out.line.fr hf3 (fun e => e)).cell; have bf3 := (hp.out.line.fr hf3 (fun e => e)).frozen; clear hf3 h3)
                    | fail)
                  refine bodyPost_ret (v := .tuple #[.agg #[.int .i64 0, .int .i64 0, .int .i64 0, .slice none 0 0], .int .i64 11]) (by simp [results, Tryz.results18, go_sem, zc]) rfl ?_
                  exact .bad HR.out (by
                    repeat (with_reducible refine Fr.setCell ?_ (fun h => ?_) _; rotate_left; (exfalso; dsimp only at h; omega))
                    exact (hp.out.fr.call HF3.out (fun _ e _ => e)))
                | some pf =>
                  obtain ⟨p, fl⟩ := pf
                  have HGN := Lib.hid (show goS q k ((bl ws).drop k) s = goS q (k + 1) ((bl ws).drop (k + 1)) { s with ps := s.ps ++ [p], fits := s.fits && fl } by
                    rw [HGK.out, show wordS q k x.data.toList s = some { s with ps := s.ps ++ [p], fits := s.fits && fl } by unfold wordS; rw [if_neg hA, if_neg HQ1.out, hn]; rfl])
                  clear HGK
                  cases fl
                  · go_wp2_with (first
                      | ((go_at_call 38); (with_reducible refine HPP.out.mono ?_); rintro e w3 h3; obtain ⟨rfl, hf3⟩ := h3.2.1 p hn; have HRD := Lib.hid (hp.out.propFar HQ1.out HKU.out p hf3); clear h3 hf3)
                      | fail)
                    all_goals
                      refine ⟨⟨k + 1, _, _, _, _, _, _, _, by omega, by go_num, ?_, Lib.hid (HGO.out.trans HGN.out), HRD⟩, by simp [RowKit.intOf]; omega⟩
                      simp_all
                  · have hpo := propC_ok hn
                    go_wp2_with (first
                      | ((go_at_call 38); (with_reducible refine HPP.out.mono ?_); rintro e w3 h3; obtain ⟨rfl, A3, c3, hb3, ho3, hf3⟩ := h3.2.2 p hn; have HRD := Lib.hid (hp.out.prop HQ1.out HKU.out hpo hb3 ho3 hf3); clear h3 hb3 ho3 hf3)
                      | fail)
                    all_goals
                      refine ⟨⟨k + 1, _, _, _, _, _, _, _, by omega, by go_num, ?_, Lib.hid (HGO.out.trans HGN.out), HRD⟩, by simp [RowKit.intOf]; omega⟩
                      simp_all
          · have hK : ¬ (k : Int) < ws.length := by omega
            obtain rfl : k = ws.length := by omega
            have HG := Lib.hid (show goS q 0 (bl ws) s0 = some s by rw [HGO.out, List.drop_of_length_le (by omega), goS])
            have bx := hp.out.row.cell
            have bln := hp.out.line.cell
            cases hfit : s.fits with
            | false =>
              have HR := Lib.hid (show rowS q (bl ws) = (33, z0) by rw [HRW.out, HG.out]; simp [hfit])
              have zc := hp.out.zst.cell
              have zf := hp.out.zst.frozen
              go_wp2_with fail
              skip
              refine bodyPost_ret (v := .tuple #[.agg #[.int .i64 0, .int .i64 0, .int .i64 0, .slice none 0 0], .int .i64 33]) (by simp [results, Tryz.results18, go_sem, zc]) rfl ?_
              exact .bad HR.out (set4_nob hp.out.fr (by omega) _ _ _ _)
            | true =>
              have HR := Lib.hid (show rowS q (bl ws) = madeS q s by rw [HRW.out, HG.out]; simp [hfit])
              obtain ⟨fn, caps, rfl, hen, hcall⟩ := HMK.out
              have hus := HUS.out
              have hsz := HSZ.out
              have HDN := Lib.hid (hp.out.done hq (by omega) hfit (by omega))
              have HCL := Lib.hid (hcall wr hp.out.fr _ _ _ _ _ _ _ _ HDN.out)
              have hcs := made_cases q s
              generalize madeS q s = zr at *
              have hzl := hp.out.zst.lt
              have hll := hp.out.line.lt
              by_cases h0 : zr.1 = 0
              · have hd : decide (zr.1 = 0) = true := by simpa using h0
                unfold MkP at HCL
                rw [hd] at HCL
                clear hcs hd
                go_wp2_with (first
                  | ((go_at_fn fn); (with_reducible refine HCL.out.mono ?_); rintro e w5 ⟨k5, s5, n5, B5, m5, d5, rfl, hf5, hfr5, hz5⟩; have HF5 := Lib.hid hf5; have HZ5 := Lib.hid hz5; have HFR5 := Lib.hid hfr5; clear hfr5; have HT5 := Lib.hid (hp.out.zst.fr hf5 (fun e => e)); have zc := HT5.out.cell; have zf := HT5.out.frozen; have zl := HT5.out.lt; clear hf5 hz5)
                  | fail)
                obtain ⟨rfl, rfl, rfl, rfl, hs5⟩ := HZ5.out h0
                refine bodyPost_ret (v := .tuple #[.agg #[.int .i64 zr.2.kind, .int .i64 zr.2.src, .int .i64 zr.2.n, .slice B5 zr.2.b.length d5], .int .i64 0]) (by simp [results, Tryz.results18, go_sem, zc, zl]) rfl ?_
                rw [HR.out]
                exact ⟨B5, d5, by rw [h0], (set4_nob (hp.out.fr.call HF5.out (fun _ e _ => e)) (by omega) _ _ _ _).alloc _, (hs5.fr (set4_fr w5 (w.heap.size + 1) _ _ _ _) (bytes_off hs5 HT5.out)).alloc _, fun g o e => by
                  rcases HFR5.out g o e with e2 | e2
                  · exact hp.out.bf g o (e2 ▸ e)
                  · exact Nat.le_trans hp.out.fr.size e2⟩
              · have hd : decide (zr.1 = 0) = false := by simpa using h0
                obtain rfl : zr = (11, z0) := hcs.resolve_left h0
                unfold MkP at HCL
                rw [hd] at HCL
                clear hcs hd h0
                go_wp2_with (first
                  | ((go_at_fn fn); (with_reducible refine HCL.out.mono ?_); rintro e w5 ⟨k5, s5, n5, B5, m5, d5, rfl, hf5, -, -⟩; have HF5 := Lib.hid hf5; have HT5 := Lib.hid (hp.out.zst.fr hf5 (fun e => e)); have zc := HT5.out.cell; have zf := HT5.out.frozen; have zl := HT5.out.lt; clear hf5)
                  | fail)
                skip
                refine bodyPost_ret (v := .tuple #[.agg #[.int .i64 0, .int .i64 0, .int .i64 0, .slice none 0 0], .int .i64 11]) (by simp [results, Tryz.results18, go_sem, zc, zl]) rfl ?_
                exact .bad HR.out ((set4_nob (hp.out.fr.call HF5.out (fun _ e _ => e)) (by omega) _ _ _ _).alloc _)
end Go.Proofs.YtidhlfcmjpnhgaaGreatDoor
