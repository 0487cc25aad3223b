/- EngineLate: an event is taken just if it may be; what isn't taken changes nothing. -/
import Derived.Test.YtoegdmpmagbaiaaGreatDoorQE13
import Derived.Test.YtoegdmpmagbaiaaGreatDoorKN
import Derived.Test.YtoegdmpmagbaiaaGreatDoorKO
namespace Go.Proofs.YtoegdmpmagbaiaaGreatDoor
open Go.RowKit Go.Lib

/-- Where an event went. -/
structure LateQ (lw : List VD) (tm now : Int) (fresh : Bool) (q : Nat) : Prop where
  lt : q < lw.length
  at_ : ∀ k, (hk : k < lw.length) → (lw[k].at_ = tm ↔ k = q)
  since : fresh = true → ∀ hk : q < lw.length, lw[q].since = now
theorem lives_at {g : EG} {s : S1} {k : Nat} (hk : k < (g.lives s).length) : (g.lives s)[k].at_ = tAt g.live k ∧ (g.lives s)[k].since = xAt g.since k := by
  have h : k < g.live.length := by rwa [lives_len] at hk
  rw [lives_get h]
  exact ⟨rfl, rfl⟩
theorem insI_at {S : List Int} {q : Nat} (h : q ≤ S.length) (v : Int) : xAt (insI S q v) q = v := by
  unfold xAt insI
  rw [List.getD_eq_getElem?_getD, List.getElem?_append_right (by rw [List.length_take]; omega), List.length_take, show q - min q S.length = 0 by omega]
  rfl
theorem late_put {g : EG} (ho : g.Ok) (s : S1) {tm : Int} {l : List PP} (now : Int) (htm : tm ≤ last63) (hm : g.may tm l = true) :
    ((g.put1 tm l now).lives s).length = (g.lives s).length + (if (putW g.W tm l).2.2 then 1 else 0) ∧ ∃ q, LateQ ((g.put1 tm l now).lives s) tm now (putW g.W tm l).2.2 q := by
  have hp : g.put1 tm l now = g.put tm l now := by unfold EG.put1; rw [if_pos hm]
  rw [hp]
  obtain ⟨e1, e2, e3⟩ := EG.put_live ho hm
  have hg := may_good hm
  have hgl : (decide (0 ≤ tm) && rightB (lof (lof l))) = true := by rw [lof_one]; exact hg
  have hlive : (g.put tm l now).live = (putW g.live tm (lof l)).1 := e1
  have hok2 := ho.put now hm htm
  have hlen := putW_length ho.lright hgl (t := tm)
  rw [← hlive, ← e3] at hlen
  refine ⟨by rw [lives_len, lives_len, hlen], ?_⟩
  have hex : ∃ q, q < (g.put tm l now).live.length ∧ tAt (g.put tm l now).live q = tm ∧ ((putW g.W tm l).2.2 = true → q = (putW g.live tm (lof l)).2.1 ∧ q ≤ g.live.length) := by
    rw [hlive]
    rcases putW_cases ho.lright hgl with ⟨q, hq, _, e, h⟩ | ⟨q, _, hq, _, h⟩
    · refine ⟨q, by rw [h]; simpa using hq, ?_, fun hf => ?_⟩
      · rw [h]
        show tAt (g.live.set q (tm, _)) q = tm
        rw [tAt_set hq (by rw [tAt_get hq]; exact e.symm), tAt_get hq]; exact e
      · rw [e3, h] at hf; cases hf
    · refine ⟨q, by rw [h]; simp only [List.length_append, List.length_cons, List.length_take, List.length_drop]; omega, ?_, fun _ => ⟨by rw [h], hq⟩⟩
      rw [h]
      show tAt (g.live.take q ++ (tm, lof (lof l)) :: g.live.drop q) q = tm
      unfold tAt
      rw [List.getD_eq_getElem?_getD, List.getElem?_append_right (by rw [List.length_take]; omega), List.length_take, show q - min q g.live.length = 0 by omega]
      rfl
  obtain ⟨q, hq, hqt, hqf⟩ := hex
  refine ⟨q, by rw [lives_len]; exact hq, fun k hk => ?_, fun hf hk => ?_⟩
  · have hk' : k < (g.put tm l now).live.length := by rwa [lives_len] at hk
    rw [(lives_at hk).1]
    refine ⟨fun e => ?_, fun e => by rw [e]; exact hqt⟩
    have hr := hok2.lright
    rcases Nat.lt_trichotomy k q with h1 | h1 | h1
    · have := (wRight_rise hr hq).2.2 k h1; omega
    · exact h1
    · have := (wRight_rise hr hk').2.2 q h1; omega
  · rw [(lives_at hk).2]
    obtain ⟨h1, h2⟩ := hqf hf
    show xAt ((if (putW g.W tm l).2.2 then insI g.S (putW g.W tm l).2.1 now else g.S).drop g.told) q = now
    rw [if_pos hf, e2, insI_drop (by rw [ho.len]; exact ho.told), ← h1]
    exact insI_at (by have := ho.slen; unfold EG.since at this; rw [this]; exact h2) now
theorem late_no {g : EG} {tm : Int} {l : List PP} (now : Int) (hm : g.may tm l = false) : g.put1 tm l now = g := by unfold EG.put1; rw [hm]; rfl
end Go.Proofs.YtoegdmpmagbaiaaGreatDoor

/- EngineLate: the law walked. -/
namespace Go.Proofs.YtoegdmpmagbaiaaGreatDoor
open Go.RowKit Go.Lib

theorem act_cellsL {w0 W : World} {L : Nat → Prop} {E : Nat} {x : Nd} {t : Tr} {far : Int} {g : EG} {b o : Nat} {v1 v2 v3 : Value} (h : EngS w0 L W E x t far g) (h1 : w0.cell? ⟨b, o + 1, none⟩ = some v1) (h2 : w0.cell? ⟨b, o + 2, none⟩ = some v2) (h3 : w0.cell? ⟨b, o + 3, none⟩ = some v3) :
    W.cell? ⟨b, o + 1, none⟩ = some v1 ∧ W.cell? ⟨b, o + 2, none⟩ = some v2 ∧ W.cell? ⟨b, o + 3, none⟩ = some v3 := ⟨h.cell h1, h.cell h2, h.cell h3⟩
/-- Whether an event may be taken is known. -/
def MayR (m : Bool) (w5 : World) (mv : Value) (wx : World) : Prop := mv = .bool m ∧ Fr Nob w5 wx
theorem may_eq (g : EG) (t : Int) (l : List PP) : g.may t l = (decide (0 ≤ t) && decide (g.mark < t) && rightB (lof l)) := rfl
set_option maxRecDepth 100000 in
set_option maxHeartbeats 16000000 in
theorem law_EngineLate (w : World) (x : Nd) (B : Option Addr) (d : Nat) (ks : Fo) (hs : FoSl w.heap.size w B d ks) (hx : NdOk x) (hk : ks.tr.ok) (hv : ShVar w) (htv : ThVar w) (A : Option Addr) (c : Nat) (al : List Ac) (h : ASl w A c al) (h63 : ∀ a ∈ al, a.t ≤ last63 ∧ a.n ≤ last63) :
    Calls Tryz.prog 5 #[fval x B ks.len d, .slice A al.length c] w fun e w' => e = .returned (.bool true) ∧ Fr Nob w w' := by
  have H63 := Lib.hid h63
  clear h63
  obtain ⟨bf, hbf⟩ : ∃ bf : Bool, (bf = true ↔ FewA al) := by classical exact ⟨decide (FewA al), by simp⟩
  have HBF := Lib.hid hbf.1
  have HAW := Lib.hid (fun W (hf : Fr Nob w W) => l23_awake W (hv.fr hf) (htv.fr hf))
  have HLF := Lib.hid (fun W (hf : Fr Nob w W) => (show Calls Tryz.prog 9 #[fval x B ks.len d, .int .i64 50] W fun e w' => e = .returned (.int .i64 (left1 x ks.tr 50 : Nat)) ∧ Fr Nob W w' from l15_left 50 w.heap.size W x B d ks (by decide) (hs.fr hf)))
  have HFW := Lib.hid (fun W (hf : Fr Nob w W) => l23_few W A c al (h.pure hf) bf hbf)
  have HLP := Lib.hid (fun (h0 : 0 < left1 x ks.tr 50) => few_of (x := x) (ks := ks.tr) (n := 50) h0)
  have HNW := Lib.hid (fun (hL : Few x ks.tr 50) W (hf : Fr Nob w W) => (show Calls Tryz.prog 11 #[fval x B ks.len d] W (SNew W x ks.tr) from s_New W x B d ks ((hs.fr hf).mono hf.size) (by have := hL.size; omega) (hv.fr hf) hx hk hL.names))
  have HFO := Lib.hid (fun (hL : Few x ks.tr 50) (hg : firstW ((Tr.cons x ks.tr .nil).nodes 1) = 0) => (⟨hg, by have := hL.size; omega, hL.names⟩ : FOk x ks.tr))
  have HS := Lib.hid hs
  have HV := Lib.hid hv
  have HTV := Lib.hid htv
  have HA := Lib.hid h
  have HXO := Lib.hid hx
  have HKO := Lib.hid hk
  clear hs hv htv h hbf hx hk
  generalize left1 x ks.tr 50 = n0 at *
  unfold fval at *
  go_enter Tryz.func5, Tryz.ntmps5
  have HB0 := Lib.hid (show Blk (w.alloc (.cells #[.int .i64 x.op, .string x.name, .int .i64 x.cmp, .int .i64 x.val, .int .i64 x.lo, .int .i64 x.hi, .slice B ks.len d] 28)) w.heap.size 28 _ from Blk.new _ _ _)
  go_upto_region 6 with (first
    | ((go_at_call 8); (with_reducible refine (HAW.out _ ((Fr.refl _ _).alloc _)).mono ?_); rintro e w1 ⟨rfl, hf1⟩; have HF1 := Lib.hid (((Fr.refl Nob w).alloc _).call hf1 (fun _ h _ => h)); have HX1 := Lib.hid (HB0.out.fr hf1 (fun e => e)); have xc := HX1.out.cell; have xl := HX1.out.lt; clear hf1)
    | ((go_at_call 9); (with_reducible refine (HLF.out _ HF1.out).mono ?_); rintro e w2 ⟨rfl, hf2⟩; have HF2 := Lib.hid (HF1.out.call hf2 (fun _ h _ => h)); have HX2 := Lib.hid (HX1.out.fr hf2 (fun e => e)); clear hf2)
    | ((go_at_call 10); (with_reducible refine (HFW.out _ HF2.out).mono ?_); rintro e w3 ⟨rfl, rfl⟩)
    | fail)
  clear xc xl HX1 HF1 HB0 HAW HLF HFW
  have q0 := HX2.out.cell
  have q1 := HX2.out.lt
  by_cases hn : n0 = 0
  · subst hn
    go_wp2_with fail
    go_ret
    exact ⟨rfl, HF2.out⟩
  have hnI : ¬ (n0 : Int) ≤ 0 := by omega
  have hnI2 : (0 : Int) < n0 := by omega
  cases bf
  · skip
    go_wp2_with fail
    go_ret
    exact ⟨rfl, HF2.out⟩
  have HFA := Lib.hid (HBF.out rfl)
  have HL := Lib.hid (HLP.out (by omega))
  have HW3 := Lib.hid (HNW.out HL.out _ HF2.out)
  have HER : ∃ er, errH x ks.tr = er := ⟨_, rfl⟩
  obtain ⟨er, her⟩ := HER
  unfold SNew at HW3
  rw [her] at HW3
  replace her := Lib.hid her
  clear HNW HLP HBF hn
  go_upto_region 9 with (first
    | ((go_at_call 11); (with_reducible refine (HW3.out).mono ?_); rintro e w4 ⟨p, rfl, hf4, hnone, hsome⟩; have HNO := Lib.hid hnone; have HSO := Lib.hid hsome; have HF4 := Lib.hid hf4; clear hnone hsome hf4)
    | fail)
  clear q0 q1 hnI hnI2
  by_cases he0 : er = 0
  case neg =>
    obtain rfl := HNO.out he0
    have he1 : (er != 0) = true := by simpa using he0
    have HE1 := Lib.hid he0
    clear he0
    go_wp2_with fail
    go_ret
    exact ⟨rfl, HF2.out.call HF4.out (fun _ h _ => h)⟩
  subst he0
  obtain ⟨E, rfl, hg, h0, hI, hE⟩ := HSO.out rfl
  have HG := Lib.hid hg
  have HH0 := Lib.hid h0
  have HHI := Lib.hid hI
  have HE := Lib.hid hE
  have HFK := Lib.hid (HFO.out HL.out hg)
  have HV4 := Lib.hid (HV.out.fr HF2.out)
  have HT4 := Lib.hid (HTV.out.fr HF2.out)
  have HA4 := Lib.hid (HA.out.pure HF2.out)
  clear hg h0 hI hE HNO HSO HFO HW3
  go_wp2_with fail
  go_loopw [10] (fun iv wr => ∃ (k : Nat) (g : EG), k ≤ al.length ∧ iv = .int .i64 k ∧ Hid (EngS w3 Nob wr E x ks.tr (far1 (x, ks.tr)) g) ∧ Hid (BndW g.W k (10 * k))) (fun iv _ => al.length - (RowKit.intOf iv).toNat)
  case atStart => exact ⟨0, EG.new, Nat.zero_le _, rfl, HE, Lib.hid ⟨Nat.le_refl _, fun _ h => by cases h⟩⟩
  case round =>
    obtain ⟨i, g, hi, rfl, hE, HBK⟩ := hrel
    have h24 := HFA.out.1
    have hmax := HA4.out.sl.max
    unfold maxLen at hmax
    by_cases hlt : i < al.length
    · have hI : (i : Int) < al.length := by omega
      have hI3 : 0 ≤ (i : Int) := by omega
      obtain ⟨b, off, hA, hb, d0, d1, d2, d3⟩ := HA4.out.at_ hlt
      subst hA
      have HB8 := Lib.hid (HBK.out.mono (n' := 800) (m' := 800) (by omega) (by omega))
      have HOK := Lib.hid (HFA.out.2 _ (List.getElem_mem hlt))
      have H63A := Lib.hid (H63.out _ (List.getElem_mem hlt))
      have HAI := Lib.hid (HA4.out.inn _ (List.getElem_mem hlt))
      have HD1 := Lib.hid d1
      have HD2 := Lib.hid d2
      have HD3 := Lib.hid d3
      have HB3 := Lib.hid hb
      replace d0 := hE.out.cell d0
      replace d1 := hE.out.cell d1
      replace d2 := hE.out.cell d2
      replace d3 := hE.out.cell d3
      replace hb := Nat.lt_of_lt_of_le hb hE.out.fr.size
      generalize al[i] = a at *
      by_cases hd0 : a.do_ = 0
      case neg =>
        have hd0b : (a.do_ != 0) = true := by simpa using hd0
        have HP := Lib.hid (s_Raise hE.out a.n H63A.out.2)
        have HBK2 := Lib.hid (show BndW (g.raise1 a.n).W (i + 1) (10 * (i + 1)) by rw [EG.raise1_W]; exact HBK.out.mono (by omega) (by omega))
        clear hd0
        unfold SRaise at HP
        generalize g.raise1 a.n = g5 at *
        go_wp2_with (first
          | ((go_at_call 16); (with_reducible refine (HP.out).mono ?_); rintro e w5 ⟨rfl, hE5, -⟩; have HE5 := Lib.hid hE5; clear hE5)
          | fail)
        go_roundw
        case rel => exact ⟨i + 1, g5, by omega, by go_num, HE5, HBK2⟩
        case measure => simp [RowKit.intOf]; omega
      have hd0b : (a.do_ != 0) = false := by simpa using hd0
      clear hd0
      have HLV := Lib.hid (s_Live hE.out HB8.out HFK.out HV4.out)
      have HLN := Lib.hid (show (g.lives (x, ks.tr)).length ≤ 24 by
        have h1 := HBK.out.1
        rw [lives_len]; unfold EG.live; rw [List.length_drop]; omega)
      obtain ⟨lv, hlv⟩ : ∃ l, g.lives (x, ks.tr) = l := ⟨_, rfl⟩
      rw [hlv] at HLV HLN
      have HLE := Lib.hid hlv
      clear hlv
      go_upto_region 17 with (first
        | ((go_at_call 17); (with_reducible refine (HLV.out).mono ?_); rintro e w5 ⟨A2, c2, rfl, hsl, hf5, hlo⟩; have HSL := Lib.hid hsl; have HF5 := Lib.hid hf5; have HE5 := Lib.hid (hE.out.more (L' := fun k => InB A2 k ∧ k < w5.heap.size) hf5 (fun k hk => .inr ⟨hlo k hk.1, hk.2⟩)); clear hsl hf5 hlo)
        | fail)
      replace d1 := HE5.out.cell HD1.out
      replace d2 := HE5.out.cell HD2.out
      replace d3 := HE5.out.cell HD3.out
      replace hb := Nat.lt_of_lt_of_le HB3.out HE5.out.fr.size
      have HMK := Lib.hid (fun W (hf : Fr Nob w5 W) => (s_Mark (HE5.out.pure hf)).mono fun e w' (h : e = .returned (.int .i64 g.mark) ∧ w' = W) => (show e = .returned (.int .i64 g.mark) ∧ Fr Nob W w' from ⟨h.1, by rw [h.2]; exact Fr.refl _ _⟩))
      have HOF := Lib.hid (fun W (hf : Fr Nob w5 W) => lab_Of' W a.A a.c a.l ((HAI.out.pure HE5.out.fr).pure hf) (by have := HOK.out.1; omega))
      have HRT := Lib.hid (fun W A' c' (hs : Sl W 2 A' (lof a.l).length c' ((lof a.l).flatMap pcs)) => lab_Right W A' c' (lof a.l) hs (fun p hp => by have := HOK.out.2 p ((lof_mem a.l p).1 hp); omega))
      go_cut [12] (fun mv wx => MayR (g.may a.t a.l) w5 mv wx)
      case first =>
        have HFC := Lib.hid ((Fr.refl Nob w5).drew)
        by_cases h0 : 0 ≤ a.t
        · have h0b : decide (0 ≤ a.t) = true := by simpa using h0
          by_cases h1 : g.mark < a.t
          · have h1b : decide (g.mark < a.t) = true := by simpa using h1
            have HRB : ∃ rb, rightB (lof a.l) = rb := ⟨_, rfl⟩
            obtain ⟨rb, hrb⟩ := HRB
            have HMA := Lib.hid (show g.may a.t a.l = rb by rw [may_eq, h0b, h1b, hrb]; rfl)
            rw [hrb] at HRT
            clear hrb
            go_region_held3 (fun W => W.cell? ⟨b, off + i * 4 + 1, none⟩ = some (.int .i64 a.t) ∧ W.cell? ⟨b, off + i * 4 + 2, none⟩ = some (.slice a.A a.l.length a.c))
              (first | (go_split_ands; refine ⟨?_, ?_⟩ <;> with_reducible exact Fr.cell hfr (by assumption) (fun e => e)) | go_keep)
              (first
                | ((go_at_call 18); (with_reducible refine (HMK.out _ HFC.out).mono ?_); rintro e w6 ⟨rfl, hfr⟩; replace HFC := Lib.hid (HFC.out.call hfr (fun _ h _ => h)))
                | ((go_at_call 30); (with_reducible refine (HOF.out _ HFC.out).mono ?_); rintro e w6 ⟨A6, c6, rfl, hs6, hfr⟩; have HS6 := Lib.hid hs6; replace HFC := Lib.hid (HFC.out.call hfr (fun _ h _ => h)))
                | ((go_at_call 29); (with_reducible refine (HRT.out _ _ _ HS6.out).mono ?_); rintro e w7 ⟨rfl, hfr⟩; replace HFC := Lib.hid (HFC.out.call hfr (fun _ h _ => h))))
            clear hfr
            go_wp2_with fail
            go_meet
            exact ⟨by rw [HMA.out], HFC.out⟩
          · have h1b : decide (g.mark < a.t) = false := by simpa using h1
            have HMA := Lib.hid (show g.may a.t a.l = false by rw [may_eq, h0b, h1b]; rfl)
            clear h1
            go_quiet ((go_at_call 18; exact Calls.quiet_of_same (s_Mark (HE5.out.pure ((Fr.refl Nob w5).drewN _)))))
            go_wp2_with fail
            go_meet
            exact ⟨by rw [HMA.out], (Fr.refl Nob w5).drewN _⟩
        · have h0b : decide (0 ≤ a.t) = false := by simpa using h0
          have HMA := Lib.hid (show g.may a.t a.l = false by rw [may_eq, h0b]; rfl)
          go_quiet (fail)
          go_wp2_with fail
          go_meet
          exact ⟨by rw [HMA.out], (Fr.refl Nob w5).drewN _⟩
      obtain ⟨rfl, hfc⟩ := hcut
      rename World => w6
      have HFC := Lib.hid hfc
      have HE6 := Lib.hid (HE5.out.pure hfc)
      clear hfc HMK HOF HRT hE HLV d1 d2 d3 hb
      have d1 := HE6.out.cell HD1.out
      have d2 := HE6.out.cell HD2.out
      have d3 := HE6.out.cell HD3.out
      have hb := Nat.lt_of_lt_of_le HB3.out HE6.out.fr.size
      have HSB := Lib.hid (fun W (hf : Fr (OffE w3 (fun k => InB A2 k ∧ k < w5.heap.size)) w5 W) => HSL.out.fr hf (fun b o e hn hS => hS.2 ⟨⟨o, e⟩, HSL.out.below b o e hn⟩))
      have HOG := Lib.hid HE6.out.ok
      have HP := Lib.hid (fun W (hf : Fr Nob w6 W) => s_Put (HE6.out.pure hf) HB8.out a.t H63A.out.1 a.A a.c a.l ((HAI.out.pure HE6.out.fr).pure hf) HOK.out a.n)
      unfold SPut at HP
      have HBK2 := Lib.hid (show BndW (g.put1 a.t a.l a.n).W (i + 1) (10 * (i + 1)) from (EG.put1_bnd HBK.out a.t HOK.out a.n).mono (Nat.le_refl _) (by omega))
      have HB9 := Lib.hid (HBK2.out.mono (n' := 800) (m' := 800) (by omega) (by omega))
      have HYES := Lib.hid (fun hm => late_put HOG.out (x, ks.tr) (l := a.l) a.n H63A.out.1 hm)
      have HNOT := Lib.hid (fun hm => late_no (g := g) (tm := a.t) (l := a.l) a.n hm)
      have hmax2 := HSL.out.max
      unfold maxLen at hmax2
      generalize (fun k => InB A2 k ∧ k < w5.heap.size) = LB at *
      go_upto_region 18 with fail
      go_region_held3 (fun W => W.cell? ⟨b, off + i * 4 + 1, none⟩ = some (.int .i64 a.t) ∧ W.cell? ⟨b, off + i * 4 + 2, none⟩ = some (.slice a.A a.l.length a.c) ∧ W.cell? ⟨b, off + i * 4 + 3, none⟩ = some (.int .i64 a.n))
        (first | (with_reducible exact act_cellsL HE7.out HD1.out HD2.out HD3.out) | go_keep)
        (first
          | ((go_at_call 14); (with_reducible refine (HP.out _ (Fr.refl Nob _).drew).mono ?_); rintro e w7 ⟨rfl, hE7, hf7⟩; have HE7 := Lib.hid hE7; have HF7 := Lib.hid (((HFC.out.mono (fun _ _ h => h.elim)).drew).call hf7 (fun _ h _ => h)); clear hE7 hf7))
      clear HP HSL HE5
      obtain ⟨mb, hmb⟩ : ∃ m, g.may a.t a.l = m := ⟨_, rfl⟩
      obtain ⟨fb, hfb⟩ : ∃ f, (putW g.W a.t a.l).2.2 = f := ⟨_, rfl⟩
      rw [hmb, hfb]
      rw [hfb] at HYES
      cases mb
      · have hg := HNOT.out hmb
        rw [hg] at HE7 HB9 HBK2
        have HLV2 := Lib.hid (s_Live HE7.out HB9.out HFK.out HV4.out)
        rw [HLE.out] at HLV2
        have hl9 := HLN.out
        clear hmb hfb hg HYES HNOT
        go_upto_region 20 with (first
          | ((go_at_call 17); (with_reducible refine (HLV2.out).mono ?_); rintro e w8 ⟨A3, c3, rfl, hs8, hf8, -⟩; have HS8 := Lib.hid hs8; have HF8 := Lib.hid hf8; have HE8 := Lib.hid ((HE7.out.pure hf8).sub (L' := Nob) (fun _ h => h.elim)); have HF58 := Lib.hid (HF7.out.call hf8 (fun _ h _ => h.elim)); clear hs8 hf8)
          | fail)
        have HFD := Lib.hid HE8.out.fr
        have hb8 := Nat.lt_of_lt_of_le HB3.out HFD.out.size
        have hmax3 := HS8.out.max
        unfold maxLen at hmax3
        clear d1 d2 d3 hb
        go_wp2_with fail
        go_loopw [17, 18] (fun tv kv wq => ∃ (k th : Nat), k ≤ lv.length ∧ th ≤ k ∧ kv = .int .i64 k ∧ tv = .int .i64 th ∧ Hid True ∧ Hid (Fr Nob w8 wq)) (fun _ kv _ => lv.length - (RowKit.intOf kv).toNat)
        case atStart => exact ⟨0, 0, Nat.zero_le _, Nat.le_refl _, rfl, rfl, Lib.hid trivial, Lib.hid (Fr.refl _ _)⟩
        case round =>
          obtain ⟨k, th, hk, hth, rfl, rfl, HTH, hfr⟩ := hrel
          rename World => wq
          by_cases hlt2 : k < lv.length
          · skip
            have HFQ := Lib.hid (HFD.out.call hfr.out (fun _ h _ => h))
            have hI2 : (k : Int) < List.length lv := by omega
            have hI4 : 0 ≤ (k : Int) := by omega
            obtain ⟨nb, no, hA9, hnb⟩ : ∃ b o, A3 = some ⟨b, o, none⟩ ∧ b < wq.heap.size := by
              obtain ⟨b', off', hA, hb, _⟩ := Sl.row (size := 3) vdc_len (HS8.out.pure hfr.out) hlt2
              exact ⟨b', off', hA, hb⟩
            subst hA9
            obtain ⟨_, t0, t1, t2⟩ := vd_cells (HS8.out.pure hfr.out) hlt2 rfl
            have d1 := HFQ.out.cell HD1.out (fun e => e)
            have d3 := HFQ.out.cell HD3.out (fun e => e)
            have hbq := Nat.lt_of_lt_of_le HB3.out HFQ.out.size
            obtain ⟨mb_, mo, hA8, hmb8⟩ : ∃ b o, A2 = some ⟨b, o, none⟩ ∧ b < wq.heap.size := by
              obtain ⟨b', off', hA, hb, _⟩ := Sl.row (size := 3) vdc_len ((HSB.out _ HF58.out).pure hfr.out) hlt2
              exact ⟨b', off', hA, hb⟩
            subst hA8
            obtain ⟨_, u0, u1, u2⟩ := vd_cells ((HSB.out _ HF58.out).pure hfr.out) hlt2 rfl
            by_cases hat : lv[k].at_ = a.t
            · rw [hat] at t0 u0
              clear hat
              generalize lv[k].since = vs at *
              generalize lv[k].yes = vy at *
              go_wp2_with fail
              go_quiet (fail)
              go_wp2_with fail
              go_quiet (fail)
              go_wp2_with fail
              go_quiet (fail)
              go_wp2_with fail
              go_roundw
              case rel => exact ⟨k + 1, th + 1, by omega, by omega, by go_num, by go_num, Lib.hid trivial, Lib.hid (hfr.out.drewN _)⟩
              case measure => simp [RowKit.intOf]; omega
            · have hatb : (lv[k].at_ == a.t) = false := by simpa using hat
              clear hat
              generalize lv[k].at_ = va at *
              generalize lv[k].since = vs at *
              generalize lv[k].yes = vy at *
              go_wp2_with fail
              go_quiet (fail)
              go_wp2_with fail
              go_quiet (fail)
              go_wp2_with fail
              go_roundw
              case rel => exact ⟨k + 1, th, by omega, by omega, by go_num, by go_num, Lib.hid trivial, Lib.hid (hfr.out.drewN _)⟩
              case measure => simp [RowKit.intOf]; omega
          · have hlt3 : ¬ (k : Int) < lv.length := by omega
            go_wp2_with fail
            go_roundw
            case rel => exact ⟨i + 1, _, by omega, by go_num, Lib.hid (HE8.out.pure hfr.out), HBK2⟩
            case measure => simp [RowKit.intOf]; omega
      · obtain ⟨hlw, q, hq⟩ := HYES.out hmb
        have HLV2 := Lib.hid (s_Live HE7.out HB9.out HFK.out HV4.out)
        rw [HLE.out] at hlw
        clear hmb hfb HYES HNOT HLE
        generalize g.put1 a.t a.l a.n = g5 at *
        generalize g5.lives (x, ks.tr) = lw at *
        cases fb
        · rw [if_neg (by decide)] at hlw
          have hbne : ((lw.length : Int) != (lv.length : Int)) = false := by simp [hlw]
          have HLW := Lib.hid hlw
          have HFRS := Lib.hid (show ∀ k (hk : k < lw.length), lw[k].at_ = a.t ↔ k = q from fun k hk => hq.at_ k hk)
          have HSIN := Lib.hid (show false = true → ∀ hk : q < lw.length, lw[q].since = a.n from fun e hk => hq.since e hk)
          have HQLT := Lib.hid hq.lt
          have hl9 : lw.length ≤ 25 := by rw [hlw]; have := HLN.out; omega
          clear hq hlw
          go_upto_region 20 with (first
            | ((go_at_call 17); (with_reducible refine (HLV2.out).mono ?_); rintro e w8 ⟨A3, c3, rfl, hs8, hf8, -⟩; have HS8 := Lib.hid hs8; have HF8 := Lib.hid hf8; have HE8 := Lib.hid ((HE7.out.pure hf8).sub (L' := Nob) (fun _ h => h.elim)); have HF58 := Lib.hid (HF7.out.call hf8 (fun _ h _ => h.elim)); clear hs8 hf8)
            | fail)
          have HFD := Lib.hid HE8.out.fr
          have hb8 := Nat.lt_of_lt_of_le HB3.out HFD.out.size
          have hmax3 := HS8.out.max
          unfold maxLen at hmax3
          clear d1 d2 d3 hb
          go_wp2_with fail
          go_loopw [17, 18] (fun tv kv wq => ∃ (k th : Nat), k ≤ lw.length ∧ th ≤ k ∧ kv = .int .i64 k ∧ tv = .int .i64 th ∧ Hid (th = if q < k then 1 else 0) ∧ Hid (Fr Nob w8 wq)) (fun _ kv _ => lw.length - (RowKit.intOf kv).toNat)
          case atStart => exact ⟨0, 0, Nat.zero_le _, Nat.le_refl _, rfl, rfl, Lib.hid rfl, Lib.hid (Fr.refl _ _)⟩
          case round =>
            obtain ⟨k, th, hk, hth, rfl, rfl, HTH, hfr⟩ := hrel
            rename World => wq
            by_cases hlt2 : k < lw.length
            · skip
              have HFQ := Lib.hid (HFD.out.call hfr.out (fun _ h _ => h))
              have hI2 : (k : Int) < List.length lw := by omega
              have hI4 : 0 ≤ (k : Int) := by omega
              obtain ⟨nb, no, hA9, hnb⟩ : ∃ b o, A3 = some ⟨b, o, none⟩ ∧ b < wq.heap.size := by
                obtain ⟨b', off', hA, hb, _⟩ := Sl.row (size := 3) vdc_len (HS8.out.pure hfr.out) hlt2
                exact ⟨b', off', hA, hb⟩
              subst hA9
              obtain ⟨_, t0, t1, t2⟩ := vd_cells (HS8.out.pure hfr.out) hlt2 rfl
              have d1 := HFQ.out.cell HD1.out (fun e => e)
              have d3 := HFQ.out.cell HD3.out (fun e => e)
              have hbq := Nat.lt_of_lt_of_le HB3.out HFQ.out.size
              by_cases hkl : k < lv.length
              · have hkI : (k : Int) < lv.length := by omega
                clear hkl
                have HKQ := Lib.hid (HFRS.out k hlt2)
                by_cases hat : lw[k].at_ = a.t
                · have hkq := HKQ.out.1 hat
                  have HT2 := Lib.hid (show th + 1 = if q < k + 1 then 1 else 0 by rw [HTH.out, if_neg (by omega), if_pos (by omega)])
                  skip
                  rw [hat] at t0
                  clear hat hkq HKQ
                  generalize lw[k].since = vs at *
                  generalize lw[k].yes = vy at *
                  go_wp2_with fail
                  go_quiet (fail)
                  go_wp2_with fail
                  go_quiet (fail)
                  go_wp2_with fail
                  go_quiet (fail)
                  go_wp2_with fail
                  go_roundw
                  case rel => exact ⟨k + 1, th + 1, by omega, by omega, by go_num, by go_num, HT2, Lib.hid (hfr.out.drewN _)⟩
                  case measure => simp [RowKit.intOf]; omega
                · have hkq : k ≠ q := fun e => hat (HKQ.out.2 e)
                  have HT2 := Lib.hid (show th = if q < k + 1 then 1 else 0 by rw [HTH.out]; split <;> split <;> omega)
                  have hatb : (lw[k].at_ == a.t) = false := by simpa using hat
                  clear hat hkq HKQ
                  generalize lw[k].at_ = va at *
                  generalize lw[k].since = vs at *
                  generalize lw[k].yes = vy at *
                  go_wp2_with fail
                  go_quiet (fail)
                  go_wp2_with fail
                  go_quiet (fail)
                  go_wp2_with fail
                  go_roundw
                  case rel => exact ⟨k + 1, th, by omega, by omega, by go_num, by go_num, HT2, Lib.hid (hfr.out.drewN _)⟩
                  case measure => simp [RowKit.intOf]; omega
              · have hkd : decide (k < lv.length) = false := by simpa using hkl
                clear hkl
                have HKQ := Lib.hid (HFRS.out k hlt2)
                by_cases hat : lw[k].at_ = a.t
                · have hkq := HKQ.out.1 hat
                  have HT2 := Lib.hid (show th + 1 = if q < k + 1 then 1 else 0 by rw [HTH.out, if_neg (by omega), if_pos (by omega)])
                  skip
                  rw [hat] at t0
                  clear hat hkq HKQ
                  generalize lw[k].since = vs at *
                  generalize lw[k].yes = vy at *
                  go_wp2_with fail
                  go_quiet (fail)
                  go_wp2_with fail
                  go_quiet (fail)
                  go_wp2_with fail
                  go_quiet (fail)
                  go_wp2_with fail
                  go_roundw
                  case rel => exact ⟨k + 1, th + 1, by omega, by omega, by go_num, by go_num, HT2, Lib.hid (hfr.out.drewN _)⟩
                  case measure => simp [RowKit.intOf]; omega
                · have hkq : k ≠ q := fun e => hat (HKQ.out.2 e)
                  have HT2 := Lib.hid (show th = if q < k + 1 then 1 else 0 by rw [HTH.out]; split <;> split <;> omega)
                  have hatb : (lw[k].at_ == a.t) = false := by simpa using hat
                  clear hat hkq HKQ
                  generalize lw[k].at_ = va at *
                  generalize lw[k].since = vs at *
                  generalize lw[k].yes = vy at *
                  go_wp2_with fail
                  go_quiet (fail)
                  go_wp2_with fail
                  go_quiet (fail)
                  go_wp2_with fail
                  go_roundw
                  case rel => exact ⟨k + 1, th, by omega, by omega, by go_num, by go_num, HT2, Lib.hid (hfr.out.drewN _)⟩
                  case measure => simp [RowKit.intOf]; omega
            · have hlt3 : ¬ (k : Int) < lw.length := by omega
              have hth1 : th = 1 := by rw [HTH.out, if_pos (by have := HQLT.out; omega)]
              subst hth1
              go_wp2_with fail
              go_roundw
              case rel => exact ⟨i + 1, _, by omega, by go_num, Lib.hid (HE8.out.pure hfr.out), HBK2⟩
              case measure => simp [RowKit.intOf]; omega
        · rw [if_pos rfl] at hlw
          have hbne : ((lw.length : Int) != wrap64 ((lv.length : Int) + 1)) = false := by (have := HLN.out; rw [IntWalk.wrap64_in _ ⟨by omega, by omega⟩, hlw]; simp)
          have HLW := Lib.hid hlw
          have HFRS := Lib.hid (show ∀ k (hk : k < lw.length), lw[k].at_ = a.t ↔ k = q from fun k hk => hq.at_ k hk)
          have HSIN := Lib.hid (show true = true → ∀ hk : q < lw.length, lw[q].since = a.n from fun e hk => hq.since e hk)
          have HQLT := Lib.hid hq.lt
          have hl9 : lw.length ≤ 25 := by rw [hlw]; have := HLN.out; omega
          clear hq hlw
          go_upto_region 20 with (first
            | ((go_at_call 17); (with_reducible refine (HLV2.out).mono ?_); rintro e w8 ⟨A3, c3, rfl, hs8, hf8, -⟩; have HS8 := Lib.hid hs8; have HF8 := Lib.hid hf8; have HE8 := Lib.hid ((HE7.out.pure hf8).sub (L' := Nob) (fun _ h => h.elim)); have HF58 := Lib.hid (HF7.out.call hf8 (fun _ h _ => h.elim)); clear hs8 hf8)
            | fail)
          have HFD := Lib.hid HE8.out.fr
          have hb8 := Nat.lt_of_lt_of_le HB3.out HFD.out.size
          have hmax3 := HS8.out.max
          unfold maxLen at hmax3
          clear d1 d2 d3 hb
          go_wp2_with fail
          go_loopw [17, 18] (fun tv kv wq => ∃ (k th : Nat), k ≤ lw.length ∧ th ≤ k ∧ kv = .int .i64 k ∧ tv = .int .i64 th ∧ Hid (th = if q < k then 1 else 0) ∧ Hid (Fr Nob w8 wq)) (fun _ kv _ => lw.length - (RowKit.intOf kv).toNat)
          case atStart => exact ⟨0, 0, Nat.zero_le _, Nat.le_refl _, rfl, rfl, Lib.hid rfl, Lib.hid (Fr.refl _ _)⟩
          case round =>
            obtain ⟨k, th, hk, hth, rfl, rfl, HTH, hfr⟩ := hrel
            rename World => wq
            by_cases hlt2 : k < lw.length
            · skip
              have HFQ := Lib.hid (HFD.out.call hfr.out (fun _ h _ => h))
              have hI2 : (k : Int) < List.length lw := by omega
              have hI4 : 0 ≤ (k : Int) := by omega
              obtain ⟨nb, no, hA9, hnb⟩ : ∃ b o, A3 = some ⟨b, o, none⟩ ∧ b < wq.heap.size := by
                obtain ⟨b', off', hA, hb, _⟩ := Sl.row (size := 3) vdc_len (HS8.out.pure hfr.out) hlt2
                exact ⟨b', off', hA, hb⟩
              subst hA9
              obtain ⟨_, t0, t1, t2⟩ := vd_cells (HS8.out.pure hfr.out) hlt2 rfl
              have d1 := HFQ.out.cell HD1.out (fun e => e)
              have d3 := HFQ.out.cell HD3.out (fun e => e)
              have hbq := Nat.lt_of_lt_of_le HB3.out HFQ.out.size
              by_cases hkl : k < lv.length
              · have hkI : (k : Int) < lv.length := by omega
                clear hkl
                have HKQ := Lib.hid (HFRS.out k hlt2)
                by_cases hat : lw[k].at_ = a.t
                · have hkq := HKQ.out.1 hat
                  have HT2 := Lib.hid (show th + 1 = if q < k + 1 then 1 else 0 by rw [HTH.out, if_neg (by omega), if_pos (by omega)])
                  (have hsi : lw[k].since = a.n := (by subst hkq; exact HSIN.out (by simp) (by omega)); rw [hsi] at t1)
                  rw [hat] at t0
                  clear hat hkq HKQ
                  generalize lw[k].since = vs at *
                  generalize lw[k].yes = vy at *
                  go_wp2_with fail
                  go_quiet (fail)
                  go_wp2_with fail
                  go_quiet (fail)
                  go_wp2_with fail
                  go_quiet (fail)
                  go_wp2_with fail
                  go_roundw
                  case rel => exact ⟨k + 1, th + 1, by omega, by omega, by go_num, by go_num, HT2, Lib.hid (hfr.out.drewN _)⟩
                  case measure => simp [RowKit.intOf]; omega
                · have hkq : k ≠ q := fun e => hat (HKQ.out.2 e)
                  have HT2 := Lib.hid (show th = if q < k + 1 then 1 else 0 by rw [HTH.out]; split <;> split <;> omega)
                  have hatb : (lw[k].at_ == a.t) = false := by simpa using hat
                  clear hat hkq HKQ
                  generalize lw[k].at_ = va at *
                  generalize lw[k].since = vs at *
                  generalize lw[k].yes = vy at *
                  go_wp2_with fail
                  go_quiet (fail)
                  go_wp2_with fail
                  go_quiet (fail)
                  go_wp2_with fail
                  go_roundw
                  case rel => exact ⟨k + 1, th, by omega, by omega, by go_num, by go_num, HT2, Lib.hid (hfr.out.drewN _)⟩
                  case measure => simp [RowKit.intOf]; omega
              · have hkd : decide (k < lv.length) = false := by simpa using hkl
                clear hkl
                have HKQ := Lib.hid (HFRS.out k hlt2)
                by_cases hat : lw[k].at_ = a.t
                · have hkq := HKQ.out.1 hat
                  have HT2 := Lib.hid (show th + 1 = if q < k + 1 then 1 else 0 by rw [HTH.out, if_neg (by omega), if_pos (by omega)])
                  (have hsi : lw[k].since = a.n := (by subst hkq; exact HSIN.out (by simp) (by omega)); rw [hsi] at t1)
                  rw [hat] at t0
                  clear hat hkq HKQ
                  generalize lw[k].since = vs at *
                  generalize lw[k].yes = vy at *
                  go_wp2_with fail
                  go_quiet (fail)
                  go_wp2_with fail
                  go_quiet (fail)
                  go_wp2_with fail
                  go_quiet (fail)
                  go_wp2_with fail
                  go_roundw
                  case rel => exact ⟨k + 1, th + 1, by omega, by omega, by go_num, by go_num, HT2, Lib.hid (hfr.out.drewN _)⟩
                  case measure => simp [RowKit.intOf]; omega
                · have hkq : k ≠ q := fun e => hat (HKQ.out.2 e)
                  have HT2 := Lib.hid (show th = if q < k + 1 then 1 else 0 by rw [HTH.out]; split <;> split <;> omega)
                  have hatb : (lw[k].at_ == a.t) = false := by simpa using hat
                  clear hat hkq HKQ
                  generalize lw[k].at_ = va at *
                  generalize lw[k].since = vs at *
                  generalize lw[k].yes = vy at *
                  go_wp2_with fail
                  go_quiet (fail)
                  go_wp2_with fail
                  go_quiet (fail)
                  go_wp2_with fail
                  go_roundw
                  case rel => exact ⟨k + 1, th, by omega, by omega, by go_num, by go_num, HT2, Lib.hid (hfr.out.drewN _)⟩
                  case measure => simp [RowKit.intOf]; omega
            · have hlt3 : ¬ (k : Int) < lw.length := by omega
              have hth1 : th = 1 := by rw [HTH.out, if_pos (by have := HQLT.out; omega)]
              subst hth1
              go_wp2_with fail
              go_roundw
              case rel => exact ⟨i + 1, _, by omega, by go_num, Lib.hid (HE8.out.pure hfr.out), HBK2⟩
              case measure => simp [RowKit.intOf]; omega
    · have hlt3 : ¬ (i : Int) < al.length := by omega
      go_wp2_with fail
      go_ret
      exact ⟨rfl, HF2.out.call hE.out.fr (fun _ h _ => h)⟩
end Go.Proofs.YtoegdmpmagbaiaaGreatDoor
