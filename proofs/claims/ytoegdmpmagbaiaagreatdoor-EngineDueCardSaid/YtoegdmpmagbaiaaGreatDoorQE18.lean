/- EngineDue: once no verdict is final, each live point's moment and the horizon are above the mark, and no more values are kept than the live points have parts. -/
import Derived.Test.YtoegdmpmagbaiaaGreatDoorKEGG
import Derived.Test.YtoegdmpmagbaiaaGreatDoorKEF
import Derived.Test.YtoegdmpmagbaiaaGreatDoorKEI
import Derived.Test.YtoegdmpmagbaiaaGreatDoorKE
import Derived.Deep.RegionHeld3
namespace Go.Proofs.YtoegdmpmagbaiaaGreatDoor
open Go.RowKit Go.Lib

theorem act_cellsD {w0 W : World} {L : Nat → Prop} {E : Nat} {x : Nd} {t : Tr} {far : Int} {g : EG} {b o : Nat} {v1 v2 v3 : Value} (h : EngS w0 L W E x t far g) (h1 : w0.cell? ⟨b, o + 1, none⟩ = some v1) (h2 : w0.cell? ⟨b, o + 2, none⟩ = some v2) (h3 : w0.cell? ⟨b, o + 3, none⟩ = some v3) :
    W.cell? ⟨b, o + 1, none⟩ = some v1 ∧ W.cell? ⟨b, o + 2, none⟩ = some v2 ∧ W.cell? ⟨b, o + 3, none⟩ = some v3 := ⟨h.cell h1, h.cell h2, h.cell h3⟩
/-- Behind an act. -/
def DuB (w3 : World) (E : Nat) (x : Nd) (t : Tr) (far : Int) (k : Nat) (W : World) : Prop := ∃ g, EngS w3 Nob W E x t far g ∧ BndW g.W k (10 * k)
/-- Verdicts are being told: so many were; the last one was there, or not. -/
def DuN (w3 : World) (E : Nat) (x : Nd) (t : Tr) (far : Int) (k j : Nat) (b : Bool) (W : World) : Prop := ∃ g, EngS w3 Nob W E x t far g ∧ BndW g.W k (10 * k) ∧ (b = true → j + 1 ≤ g.told) ∧ (b = false → g.nextV (madeS x t) = 2)
theorem next1_none {g : EG} {s : S1} (h : (g.nextV s != 2) = false) : g.next1 s = g ∧ g.nextV s = 2 := by
  have h2 : g.nextV s = 2 := by simpa using h
  exact ⟨by unfold EG.next1; rw [if_pos h2], h2⟩
theorem next1_some {g : EG} {s : S1} (h : (g.nextV s != 2) = true) : (g.next1 s).told = g.told + 1 := by
  have h2 : g.nextV s ≠ 2 := by simpa using h
  unfold EG.next1; rw [if_neg h2]; rfl
theorem due_at {g : EG} {x : Nd} {t : Tr} (ho : g.Ok) (hg : firstW ((Tr.cons x t .nil).nodes 1) = 0) (hv : g.nextV (madeS x t) = 2) (h0 : 0 ≤ far1 (x, t)) {j : Nat} (hj : j < (g.lives (x, t)).length) : g.mark < (sadd (g.lives (x, t))[j].at_ (far1 (x, t))).1 ∧ I64 (g.lives (x, t))[j].at_ := by
  have hl : j < g.live.length := by rwa [lives_len] at hj
  have hl2 : g.told + j < g.W.length := by unfold EG.live at hl; rw [List.length_drop] at hl; omega
  have hat : (g.lives (x, t))[j].at_ = tAt g.W (g.told + j) := by
    rw [lives_get hl]
    show tAt g.live j = _
    unfold EG.live
    rw [tAt_drop]
  have hd := due_next ho ((good_first x t).1 hg).1 ((good_first x t).1 hg).2 hv h0 (i := g.told + j) (by omega) hl2
  have ht0 : 0 ≤ tAt g.W (g.told + j) := ho.rise.lo _ hl2
  have ht1 : tAt g.W (g.told + j) ≤ last63 := ho.rise.hi _ hl2
  rw [hat]
  refine ⟨?_, by unfold I64; unfold last63 at ht1; omega⟩
  have h9 : (sadd (tAt g.W (g.told + j)) (far1 (x, t))).1 = min (tAt g.W (g.told + j) + far1 (x, t)) last63 := by
    have hl63 : last63 = 9223372036854775807 := rfl
    unfold sadd
    rw [hl63] at ht1 ⊢
    split
    · show (9223372036854775807 : Int) = _; omega
    · rw [if_neg (by omega)]; show tAt g.W (g.told + j) + far1 (x, t) = _; omega
  rw [h9]; exact hd
set_option maxRecDepth 100000 in
set_option maxHeartbeats 16000000 in
theorem law_EngineDue (w : World) (x : Nd) (B : Option Addr) (d : Nat) (ks : Fo) (hs : FoSl w.heap.size w B d ks) (hx : NdOk x) (hk : ks.tr.ok) (hv : ShVar w) (htv : ThVar w) (A : Option Addr) (c : Nat) (al : List Ac) (h : ASl w A c al) (h63 : ∀ a ∈ al, a.t ≤ last63 ∧ a.n ≤ last63) :
    Calls Tryz.prog 7 #[fval x B ks.len d, .slice A al.length c] w fun e w' => e = .returned (.bool true) ∧ Fr Nob w w' := by
  have H63 := Lib.hid h63
  clear h63
  have HHZ := Lib.hid (fun (hL : Few x ks.tr 50) W (hf : Fr Nob w W) => hz_OfE W x B d ks ((hs.fr hf).mono hf.size) (by have := hL.size; omega) (hv.fr hf) hx hk hL.names)
  have HPN := Lib.hid (fun (hL : Few x ks.tr 50) (hg : firstW ((Tr.cons x ks.tr .nil).nodes 1) = 0) W (hf : Fr Nob w W) => pl_Of W x B d ks ((hs.fr hf).mono hf.size) (by have := hL.size; omega) (hv.fr hf) hL.names hg)
  obtain ⟨bf, hbf⟩ : ∃ bf : Bool, (bf = true ↔ FewA al) := by classical exact ⟨decide (FewA al), by simp⟩
  have HBF := Lib.hid hbf.1
  have HAW := Lib.hid (fun W (hf : Fr Nob w W) => l23_awake W (hv.fr hf) (htv.fr hf))
  have HLF := Lib.hid (fun W (hf : Fr Nob w W) => (show Calls Tryz.prog 9 #[fval x B ks.len d, .int .i64 50] W fun e w' => e = .returned (.int .i64 (left1 x ks.tr 50 : Nat)) ∧ Fr Nob W w' from l15_left 50 w.heap.size W x B d ks (by decide) (hs.fr hf)))
  have HFW := Lib.hid (fun W (hf : Fr Nob w W) => l23_few W A c al (h.pure hf) bf hbf)
  have HLP := Lib.hid (fun (h0 : 0 < left1 x ks.tr 50) => few_of (x := x) (ks := ks.tr) (n := 50) h0)
  have HNW := Lib.hid (fun (hL : Few x ks.tr 50) W (hf : Fr Nob w W) => (show Calls Tryz.prog 11 #[fval x B ks.len d] W (SNew W x ks.tr) from s_New W x B d ks ((hs.fr hf).mono hf.size) (by have := hL.size; omega) (hv.fr hf) hx hk hL.names))
  have HFO := Lib.hid (fun (hL : Few x ks.tr 50) (hg : firstW ((Tr.cons x ks.tr .nil).nodes 1) = 0) => (⟨hg, by have := hL.size; omega, hL.names⟩ : FOk x ks.tr))
  have HS := Lib.hid hs
  have HV := Lib.hid hv
  have HTV := Lib.hid htv
  have HA := Lib.hid h
  have HXO := Lib.hid hx
  have HKO := Lib.hid hk
  clear hs hv htv h hbf hx hk
  generalize left1 x ks.tr 50 = n0 at *
  unfold fval at *
  go_enter Tryz.func7, Tryz.ntmps7
  have HB0 := Lib.hid (show Blk (w.alloc (.cells #[.int .i64 x.op, .string x.name, .int .i64 x.cmp, .int .i64 x.val, .int .i64 x.lo, .int .i64 x.hi, .slice B ks.len d] 28)) w.heap.size 28 _ from Blk.new _ _ _)
  go_upto_region 6 with (first
    | ((go_at_call 8); (with_reducible refine (HAW.out _ ((Fr.refl _ _).alloc _)).mono ?_); rintro e w1 ⟨rfl, hf1⟩; have HF1 := Lib.hid (((Fr.refl Nob w).alloc _).call hf1 (fun _ h _ => h)); have HX1 := Lib.hid (HB0.out.fr hf1 (fun e => e)); have xc := HX1.out.cell; have xl := HX1.out.lt; clear hf1)
    | ((go_at_call 9); (with_reducible refine (HLF.out _ HF1.out).mono ?_); rintro e w2 ⟨rfl, hf2⟩; have HF2 := Lib.hid (HF1.out.call hf2 (fun _ h _ => h)); have HX2 := Lib.hid (HX1.out.fr hf2 (fun e => e)); clear hf2)
    | ((go_at_call 10); (with_reducible refine (HFW.out _ HF2.out).mono ?_); rintro e w3 ⟨rfl, rfl⟩)
    | fail)
  clear xc xl HX1 HF1 HB0 HAW HLF HFW
  have q0 := HX2.out.cell
  have q1 := HX2.out.lt
  by_cases hn : n0 = 0
  · subst hn
    go_wp2_with fail
    go_ret
    exact ⟨rfl, HF2.out⟩
  have hnI : ¬ (n0 : Int) ≤ 0 := by omega
  have hnI2 : (0 : Int) < n0 := by omega
  cases bf
  · skip
    go_wp2_with fail
    go_ret
    exact ⟨rfl, HF2.out⟩
  have HFA := Lib.hid (HBF.out rfl)
  have HL := Lib.hid (HLP.out (by omega))
  have HW3 := Lib.hid (HNW.out HL.out _ HF2.out)
  have HER : ∃ er, errH x ks.tr = er := ⟨_, rfl⟩
  obtain ⟨er, her⟩ := HER
  unfold SNew at HW3
  rw [her] at HW3
  replace her := Lib.hid her
  clear HNW HLP HBF hn
  go_upto_region 9 with (first
    | ((go_at_call 11); (with_reducible refine (HW3.out).mono ?_); rintro e w4 ⟨p, rfl, hf4, hnone, hsome⟩; have HNO := Lib.hid hnone; have HSO := Lib.hid hsome; have HF4 := Lib.hid hf4; clear hnone hsome hf4)
    | fail)
  clear q0 q1 hnI hnI2
  by_cases he0 : er = 0
  case neg =>
    obtain rfl := HNO.out he0
    have he1 : (er != 0) = true := by simpa using he0
    have HE1 := Lib.hid he0
    clear he0
    go_wp2_with fail
    go_ret
    exact ⟨rfl, HF2.out.call HF4.out (fun _ h _ => h)⟩
  subst he0
  obtain ⟨E, rfl, hg, h0, hI, hE⟩ := HSO.out rfl
  have HG := Lib.hid hg
  have HH0 := Lib.hid h0
  have HHI := Lib.hid hI
  have HE := Lib.hid hE
  have HFK := Lib.hid (HFO.out HL.out hg)
  have HV4 := Lib.hid (HV.out.fr HF2.out)
  have HT4 := Lib.hid (HTV.out.fr HF2.out)
  have HA4 := Lib.hid (HA.out.pure HF2.out)
  clear hg h0 hI hE HNO HSO HFO HW3
  replace HHZ := Lib.hid (HHZ.out HL.out)
  replace HPN := Lib.hid (HPN.out HL.out HG.out)
  unfold HzOfE at HHZ
  rw [her.out] at HHZ
  unfold PlanR at HPN
  have HX4 := Lib.hid (HX2.out.fr HF4.out (fun e => e))
  have q0 := HX4.out.cell
  have q1 := HX4.out.lt
  have HF04 := Lib.hid (HF2.out.call HF4.out (fun _ h _ => h))
  go_upto_region 13 with (first
    | ((go_at_call 31); (with_reducible refine (HHZ.out _ HF04.out).mono ?_); rintro e w5 ⟨hz, rfl, hz1, -, hf5⟩; obtain ⟨-, hz2, -, -⟩ := hz1 (by simp); subst hz2; have HF5 := Lib.hid (HF04.out.call hf5 (fun _ h _ => h)); have HE5 := Lib.hid (HE.out.pure hf5); have HX5 := Lib.hid (HX4.out.fr hf5 (fun e => e)); have r0 := HX5.out.cell; have r1 := HX5.out.lt; clear hz1 hf5)
    | ((go_at_call 32); (with_reducible refine (HPN.out _ HF5.out).mono ?_); rintro e w6 ⟨PA, pn, pc, rfl, hp1, hp2, hf6⟩; have HE6 := Lib.hid (HE5.out.pure hf6); have HP1 := Lib.hid hp1; have HP2 := Lib.hid hp2; clear hp1 hp2 hf6)
    | fail)
  clear q0 q1 HX4 HX2 HX5 r0 r1 HHZ HPN HF5 HE5 HE HF04
  go_wp2_with fail
  go_loopw [13] (fun iv wr => ∃ k : Nat, k ≤ al.length ∧ iv = .int .i64 k ∧ Hid (DuB w3 E x ks.tr (far1 (x, ks.tr)) k wr)) (fun iv _ => al.length - (RowKit.intOf iv).toNat)
  case atStart => exact ⟨0, Nat.zero_le _, rfl, Lib.hid ⟨EG.new, HE6.out, Nat.le_refl _, fun _ h => by cases h⟩⟩
  case round =>
    obtain ⟨k, hk, rfl, hPB⟩ := hrel
    obtain ⟨g, hE0, hBK⟩ := hPB.out
    have hE := Lib.hid hE0
    have h24 := HFA.out.1
    have hmax := HA4.out.sl.max
    unfold maxLen at hmax
    clear hPB hE0
    by_cases hlt : k < al.length
    · have hI : (k : Int) < al.length := by omega
      have hI3 : 0 ≤ (k : Int) := by omega
      obtain ⟨b, off, hA, hb, d0, d1, d2, d3⟩ := HA4.out.at_ hlt
      subst hA
      have HB8 := Lib.hid (hBK.mono (n' := 800) (m' := 800) (by omega) (by omega))
      have HOK := Lib.hid (HFA.out.2 _ (List.getElem_mem hlt))
      have H63A := Lib.hid (H63.out _ (List.getElem_mem hlt))
      have HAI := Lib.hid (HA4.out.inn _ (List.getElem_mem hlt))
      have HD1 := Lib.hid d1
      have HD2 := Lib.hid d2
      have HD3 := Lib.hid d3
      have HBK := Lib.hid hBK
      replace d0 := hE.out.cell d0
      replace d1 := hE.out.cell d1
      replace d2 := hE.out.cell d2
      replace d3 := hE.out.cell d3
      replace hb := Nat.lt_of_lt_of_le hb hE.out.fr.size
      generalize al[k] = a at *
      clear hBK
      go_upto_if 62 with fail
      go_cut [] (fun wx => DuB w3 E x ks.tr (far1 (x, ks.tr)) (k + 1) wx)
      case first =>
        by_cases hd0 : a.do_ = 0
        · have HPP := Lib.hid (fun W (hf : Fr Nob wr W) => s_Put (hE.out.pure hf) HB8.out a.t H63A.out.1 a.A a.c a.l ((HAI.out.pure hE.out.fr).pure hf) HOK.out a.n)
          have hd0b : (a.do_ == 0) = true := by simpa using hd0
          have HBN := Lib.hid (show BndW (g.put1 a.t a.l a.n).W (k + 1) (10 * (k + 1)) from (EG.put1_bnd HBK.out a.t HOK.out a.n).mono (Nat.le_refl _) (by omega))
          unfold SPut at HPP
          clear hd0
          generalize g.put1 a.t a.l a.n = g5 at *
          go_wp2_with fail
          go_region_held3 (fun W => W.cell? ⟨b, off + k * 4 + 1, none⟩ = some (.int .i64 a.t) ∧ W.cell? ⟨b, off + k * 4 + 2, none⟩ = some (.slice a.A a.l.length a.c) ∧ W.cell? ⟨b, off + k * 4 + 3, none⟩ = some (.int .i64 a.n))
            (first | (with_reducible exact act_cellsD HE5.out HD1.out HD2.out HD3.out) | go_keep)
            (first
              | ((go_at_call 14); (with_reducible refine (HPP.out _ (Fr.refl Nob _).drew).mono ?_); rintro e w5 ⟨rfl, hE5, -⟩; have HE5 := Lib.hid hE5; clear hE5))
          go_wp2_with fail
          go_meet
          exact ⟨g5, HE5.out, HBN.out⟩
        · have hd0b : (a.do_ == 0) = false := by simpa using hd0
          have HPP := Lib.hid (s_Raise hE.out a.n H63A.out.2)
          have HBN := Lib.hid (show BndW (g.raise1 a.n).W (k + 1) (10 * (k + 1)) by rw [EG.raise1_W]; exact HBK.out.mono (by omega) (by omega))
          unfold SRaise at HPP
          clear hd0
          generalize g.raise1 a.n = g5 at *
          go_wp2_with (first
            | ((go_at_call 16); (with_reducible refine (HPP.out).mono ?_); rintro e w5 ⟨rfl, hE5, -⟩; have HE5 := Lib.hid hE5; clear hE5)
            | fail)
          go_meet
          exact ⟨g5, HE5.out, HBN.out⟩
      case rest =>
        obtain ⟨g1, hE1, hB1⟩ := hcut
        have HE1 := Lib.hid hE1
        have HB1 := Lib.hid hB1
        obtain ⟨W1, rfl⟩ : ∃ W, W = wc := ⟨_, rfl⟩
        have HPP := Lib.hid (s_Next hE1 (hB1.mono (n' := 800) (m' := 800) (by omega) (by omega)) HFK.out HV4.out HT4.out)
        clear hE1 hB1 d0 d1 d2 d3 hE
        unfold SNext at HPP
        go_upto_region 20 with (first
          | ((go_at_call 15); (with_reducible refine (HPP.out).mono ?_); rintro e w5 ⟨⟨a1, s1, y1, rfl, -⟩, hE5, -⟩; have HE5 := Lib.hid hE5; clear hE5)
          | fail)
        generalize hnb : (g1.nextV (madeS x ks.tr) != 2) = nb at *
        have HN2 := Lib.hid (show DuN w3 E x ks.tr (far1 (x, ks.tr)) (k + 1) 0 nb w5 from by
          refine ⟨_, HE5.out, by rw [EG.next1_W]; exact HB1.out, fun hb => ?_, fun hb => ?_⟩
          · rw [next1_some (hnb.trans hb)]; omega
          · obtain ⟨h8, h9⟩ := next1_none (hnb.trans hb)
            rw [h8]; exact h9)
        clear hnb HE1 HB1 HPP HE5
        have HN3 := Lib.hid (fun (W : World) (hf : Fr Nob w5 W) => (show DuN w3 E x ks.tr (far1 (x, ks.tr)) (k + 1) 0 nb W from by
          obtain ⟨g2, h1, h2, h3, h4⟩ := HN2.out
          exact ⟨g2, h1.pure hf, h2, h3, h4⟩))
        clear HN2
        go_wp2_with fail
        go_loopw [15, 16] (fun bv jv wq => ∃ (j : Nat) (b : Bool), j ≤ 30 ∧ jv = .int .i64 j ∧ bv = .bool b ∧ Hid (DuN w3 E x ks.tr (far1 (x, ks.tr)) (k + 1) j b wq)) (fun _ jv _ => 30 - (RowKit.intOf jv).toNat)
        case atStart => exact ⟨0, nb, by omega, rfl, rfl, Lib.hid (HN3.out _ ((Fr.refl Nob w5).alloc _))⟩
        case round =>
          obtain ⟨j, bb, hj, rfl, rfl, hN⟩ := hrel
          obtain ⟨g2, hE2, hB2, hT2, hF2⟩ := hN.out
          have HE2 := Lib.hid hE2
          have HB2 := Lib.hid hB2
          have HT2 := Lib.hid hT2
          have HF2b := Lib.hid hF2
          clear hE2 hB2 hT2 hF2 hN
          have hW24 : g2.told ≤ 24 := by
            have h7 := HE2.out.ok.told
            have h8 := HB2.out.1
            omega
          cases bb
          · by_cases hj30 : j < 30
            · have hjI : (j : Int) < 30 := by omega
              obtain ⟨LV, hLV⟩ : ∃ LV, LV = g2.lives (x, ks.tr) := ⟨_, rfl⟩
              have HLL := Lib.hid (show LV.length = g2.live.length by rw [hLV, lives_len])
              have hl24 : LV.length ≤ 24 := by
                have h7 := HLL.out
                have h8 := HB2.out.1
                unfold EG.live at h7
                rw [List.length_drop] at h7
                omega
              have HDU := Lib.hid (fun (j : Nat) (hj : j < LV.length) => (show g2.mark < (sadd (LV[j]'hj).at_ (far1 (x, ks.tr))).1 ∧ I64 (LV[j]'hj).at_ from by
                subst hLV
                exact due_at HE2.out.ok HG.out (HF2b.out (by simp)) HH0.out hj))
              have HLV := Lib.hid (s_Live HE2.out (HB2.out.mono (n' := 800) (m' := 800) (by omega) (by omega)) HFK.out HV4.out)
              rw [← hLV] at HLV
              unfold LiveR at HLV
              clear hLV
              go_upto_region 25 with (first
                | ((go_at_call 17); (with_reducible refine (HLV.out).mono ?_); rintro e w7 ⟨LA, lc, rfl, hls, hf7, -⟩; have HLS := Lib.hid hls; have HE7 := Lib.hid (HE2.out.pure hf7); clear hls hf7)
                | fail)
              clear HLV HE2
              go_wp2_with fail
              go_loopw [18] (fun jv wq => ∃ i : Nat, i ≤ LV.length ∧ jv = .int .i64 i ∧ Hid (Fr Nob w7 wq)) (fun jv _ => LV.length - (RowKit.intOf jv).toNat)
              case atStart => exact ⟨0, Nat.zero_le _, rfl, Lib.hid (Fr.refl _ _)⟩
              case round =>
                obtain ⟨i, hi, rfl, hq⟩ := hrel
                have HE8 := Lib.hid (HE7.out.pure hq.out)
                by_cases hil : i < LV.length
                · have hJ : (i : Int) < LV.length := by omega
                  have hJ3 : (0 : Int) ≤ i := by omega
                  obtain ⟨b1, o1, hA1, hb1, hc1⟩ := Sl.row (size := 3) vdc_len (HLS.out.pure hq.out) hil
                  have e0 := hc1 0 _ rfl
                  rw [Nat.add_zero] at e0
                  obtain ⟨hdu, hat⟩ := HDU.out i hil
                  subst hA1
                  clear hc1
                  generalize LV[i].at_ = at_ at *
                  have HSA := Lib.hid (fun W => sat_Add W at_ (far1 (x, ks.tr)) hat HHI.out)
                  generalize sadd at_ (far1 (x, ks.tr)) = du at *
                  have hdu2 : ¬ du.1 ≤ g2.mark := by omega
                  have hdu3 : decide (du.1 ≤ g2.mark) = false := by simpa using hdu
                  clear hat
                  go_wp2_with (first
                    | ((go_at_call 33); (with_reducible refine (HSA.out _).mono ?_); rintro e w8 ⟨rfl, rfl⟩)
                    | ((go_at_call 18); (with_reducible refine (s_Mark HE8.out).mono ?_); rintro e w8 ⟨rfl, rfl⟩)
                    | fail)
                  go_roundw
                  case rel => exact ⟨i + 1, by omega, by go_num, hq⟩
                  case measure => simp [RowKit.intOf]; omega
                · have hil3 : ¬ (i : Int) < LV.length := by omega
                  have hpn1 := HP1.out
                  have hpn2 := HP2.out
                  have hmm : LV.length * pn ≤ 24 * 16004 := Nat.mul_le_mul hl24 hpn2
                  have hmi : (LV.length : Int) * pn = ((LV.length * pn : Nat) : Int) := by simp
                  have hwr : IntKind.i64.wrap ((LV.length : Int) * pn) = (LV.length : Int) * pn := by rw [hmi]; exact IntWalk.i64_in _ (by omega)
                  have HCB := Lib.hid (fun (n : Nat) (hn : n = 0 ∨ n = g2.live.length) => (show ¬ ((LV.length : Int) * pn < n) from by
                    rw [hmi]
                    have h7 : LV.length ≤ LV.length * pn := Nat.le_mul_of_pos_right _ (by omega)
                    have h8 := HLL.out
                    omega))
                  clear hmm hmi
                  go_wp2_with (first
                    | ((go_at_call 34); (with_reducible refine (s_Cells HE8.out).mono ?_); rintro e w8 ⟨cn, rfl, hcn, rfl⟩; have hcb1 := HCB.out cn hcn; have hcb2 : ¬ ((cn : Int) < 0) := by omega)
                    | fail)
                  go_roundw
                  case rel => exact ⟨k + 1, by omega, by go_num, Lib.hid ⟨g2, HE8.out, HB2.out⟩⟩
                  case measure => simp [RowKit.intOf]; omega
            · have hjI : ¬ (j : Int) < 30 := by omega
              obtain ⟨LV, hLV⟩ : ∃ LV, LV = g2.lives (x, ks.tr) := ⟨_, rfl⟩
              have HLL := Lib.hid (show LV.length = g2.live.length by rw [hLV, lives_len])
              have hl24 : LV.length ≤ 24 := by
                have h7 := HLL.out
                have h8 := HB2.out.1
                unfold EG.live at h7
                rw [List.length_drop] at h7
                omega
              have HDU := Lib.hid (fun (j : Nat) (hj : j < LV.length) => (show g2.mark < (sadd (LV[j]'hj).at_ (far1 (x, ks.tr))).1 ∧ I64 (LV[j]'hj).at_ from by
                subst hLV
                exact due_at HE2.out.ok HG.out (HF2b.out (by simp)) HH0.out hj))
              have HLV := Lib.hid (s_Live HE2.out (HB2.out.mono (n' := 800) (m' := 800) (by omega) (by omega)) HFK.out HV4.out)
              rw [← hLV] at HLV
              unfold LiveR at HLV
              clear hLV
              go_upto_region 25 with (first
                | ((go_at_call 17); (with_reducible refine (HLV.out).mono ?_); rintro e w7 ⟨LA, lc, rfl, hls, hf7, -⟩; have HLS := Lib.hid hls; have HE7 := Lib.hid (HE2.out.pure hf7); clear hls hf7)
                | fail)
              clear HLV HE2
              go_wp2_with fail
              go_loopw [18] (fun jv wq => ∃ i : Nat, i ≤ LV.length ∧ jv = .int .i64 i ∧ Hid (Fr Nob w7 wq)) (fun jv _ => LV.length - (RowKit.intOf jv).toNat)
              case atStart => exact ⟨0, Nat.zero_le _, rfl, Lib.hid (Fr.refl _ _)⟩
              case round =>
                obtain ⟨i, hi, rfl, hq⟩ := hrel
                have HE8 := Lib.hid (HE7.out.pure hq.out)
                by_cases hil : i < LV.length
                · have hJ : (i : Int) < LV.length := by omega
                  have hJ3 : (0 : Int) ≤ i := by omega
                  obtain ⟨b1, o1, hA1, hb1, hc1⟩ := Sl.row (size := 3) vdc_len (HLS.out.pure hq.out) hil
                  have e0 := hc1 0 _ rfl
                  rw [Nat.add_zero] at e0
                  obtain ⟨hdu, hat⟩ := HDU.out i hil
                  subst hA1
                  clear hc1
                  generalize LV[i].at_ = at_ at *
                  have HSA := Lib.hid (fun W => sat_Add W at_ (far1 (x, ks.tr)) hat HHI.out)
                  generalize sadd at_ (far1 (x, ks.tr)) = du at *
                  have hdu2 : ¬ du.1 ≤ g2.mark := by omega
                  have hdu3 : decide (du.1 ≤ g2.mark) = false := by simpa using hdu
                  clear hat
                  go_wp2_with (first
                    | ((go_at_call 33); (with_reducible refine (HSA.out _).mono ?_); rintro e w8 ⟨rfl, rfl⟩)
                    | ((go_at_call 18); (with_reducible refine (s_Mark HE8.out).mono ?_); rintro e w8 ⟨rfl, rfl⟩)
                    | fail)
                  go_roundw
                  case rel => exact ⟨i + 1, by omega, by go_num, hq⟩
                  case measure => simp [RowKit.intOf]; omega
                · have hil3 : ¬ (i : Int) < LV.length := by omega
                  have hpn1 := HP1.out
                  have hpn2 := HP2.out
                  have hmm : LV.length * pn ≤ 24 * 16004 := Nat.mul_le_mul hl24 hpn2
                  have hmi : (LV.length : Int) * pn = ((LV.length * pn : Nat) : Int) := by simp
                  have hwr : IntKind.i64.wrap ((LV.length : Int) * pn) = (LV.length : Int) * pn := by rw [hmi]; exact IntWalk.i64_in _ (by omega)
                  have HCB := Lib.hid (fun (n : Nat) (hn : n = 0 ∨ n = g2.live.length) => (show ¬ ((LV.length : Int) * pn < n) from by
                    rw [hmi]
                    have h7 : LV.length ≤ LV.length * pn := Nat.le_mul_of_pos_right _ (by omega)
                    have h8 := HLL.out
                    omega))
                  clear hmm hmi
                  go_wp2_with (first
                    | ((go_at_call 34); (with_reducible refine (s_Cells HE8.out).mono ?_); rintro e w8 ⟨cn, rfl, hcn, rfl⟩; have hcb1 := HCB.out cn hcn; have hcb2 : ¬ ((cn : Int) < 0) := by omega)
                    | fail)
                  go_roundw
                  case rel => exact ⟨k + 1, by omega, by go_num, Lib.hid ⟨g2, HE8.out, HB2.out⟩⟩
                  case measure => simp [RowKit.intOf]; omega
          · have hj30 : j < 30 := by have h7 := HT2.out (by simp); omega
            have hjI : (j : Int) < 30 := by omega
            have HPP := Lib.hid (s_Next HE2.out (HB2.out.mono (n' := 800) (m' := 800) (by omega) (by omega)) HFK.out HV4.out HT4.out)
            unfold SNext at HPP
            generalize hnb2 : (g2.nextV (madeS x ks.tr) != 2) = nb2 at *
            have HNB := Lib.hid hnb2
            clear hnb2
            go_wp2_with (first
              | ((go_at_call 15); (with_reducible refine (HPP.out).mono ?_); rintro e w6 ⟨⟨a1, s1, y1, rfl, -⟩, hE5, -⟩; have HE5 := Lib.hid hE5; clear hE5)
              | fail)
            have HN2 := Lib.hid (show DuN w3 E x ks.tr (far1 (x, ks.tr)) (k + 1) (j + 1) nb2 w6 from by
              refine ⟨_, HE5.out, by rw [EG.next1_W]; exact HB2.out, fun hb => ?_, fun hb => ?_⟩
              · rw [next1_some (HNB.out.trans hb)]; have h7 := HT2.out (by simp); omega
              · obtain ⟨h8, h9⟩ := next1_none (HNB.out.trans hb)
                rw [h8]; exact h9)
            go_roundw
            case rel => exact ⟨j + 1, nb2, by omega, by go_num, rfl, HN2⟩
            case measure => simp [RowKit.intOf]; omega
    · have hk9 : ¬ (k : Int) < al.length := by omega
      have HFZ := Lib.hid (HF2.out.call hE.out.fr (fun _ h _ => h))
      go_wp2_with fail
      go_ret
      exact ⟨rfl, HFZ.out⟩
end Go.Proofs.YtoegdmpmagbaiaaGreatDoor
