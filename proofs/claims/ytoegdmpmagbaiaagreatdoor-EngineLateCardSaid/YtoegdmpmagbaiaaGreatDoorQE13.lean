/- EngineAll: once the mark is the last moment each live point's verdict is told, in order, as it holds on the events so far. -/
import Derived.Test.YtoegdmpmagbaiaaGreatDoorKEF
import Derived.Test.YtoegdmpmagbaiaaGreatDoorKE
namespace Go.Proofs.YtoegdmpmagbaiaaGreatDoor
open Go.RowKit Go.Lib

/-- So many verdicts more were told. -/
def EG.tell (g : EG) (i : Nat) : EG := { g with told := g.told + i }
theorem raise_last {g : EG} (h : g.Ok) : (g.raise1 last63).mark = last63 := by
  unfold EG.raise1
  have := h.hi
  split
  · rfl
  · omega
theorem EG.Ok.raise1 {g : EG} (h : g.Ok) {m : Int} (hm : m ≤ last63) : (g.raise1 m).Ok := by
  unfold EG.raise1
  split
  · rename_i hlt; exact h.raise hlt hm
  · exact h
theorem EG.raise1_S (g : EG) (m : Int) : (g.raise1 m).S = g.S := by unfold EG.raise1; split <;> rfl
theorem EG.raise1_told (g : EG) (m : Int) : (g.raise1 m).told = g.told := by unfold EG.raise1; split <;> rfl
theorem tell_ok {g : EG} (h : g.Ok) (hm : g.mark = last63) {i : Nat} (hi : g.told + i ≤ g.W.length) : (g.tell i).Ok :=
  ⟨h.right, h.h63, h.len, hi, fun j hj => by
    have hj' : j < g.told + i := hj
    show tAt g.W j ≤ g.mark
    rw [hm, tAt_get (by omega)]; exact h.h63 _ (List.getElem_mem _), h.lo, h.hi⟩
theorem tell_next {g : EG} {x : Nd} {t : Tr} (h : g.Ok) (hm : g.mark = last63) (hg : firstW ((Tr.cons x t .nil).nodes 1) = 0) {i : Nat} (hi : i < g.live.length) :
    ((g.tell i).nextV (madeS x t) ≠ 2) ∧ (g.lives (x, t))[i]? = some ⟨tAt (g.tell i).W (g.tell i).told, xAt (g.tell i).S (g.tell i).told, (g.tell i).nextV (madeS x t) == 1⟩ ∧ (g.tell i).next1 (madeS x t) = g.tell (i + 1) := by
  obtain ⟨h1, h2⟩ := (good_first x t).1 hg
  have hl : g.told + i < g.W.length := by unfold EG.live at hi; rw [List.length_drop] at hi; omega
  have hk := tell_ok h hm (i := i) (by omega)
  have hv := last_next (g := g.tell i) hk h1 h2 hm hl
  have hne : (g.tell i).nextV (madeS x t) ≠ 2 := by rw [hv]; exact b2i_ne _
  refine ⟨hne, ?_, ?_⟩
  · rw [List.getElem?_eq_getElem (by rw [lives_len]; exact hi), lives_get hi, hv]
    refine congrArg some ?_
    show (⟨tAt g.live i, xAt g.since i, bAt (rowTS g.live (x, t)) i⟩ : VD) = ⟨tAt g.W (g.told + i), xAt g.S (g.told + i), b2i (vT g.W (x, t) (g.told + i)) == 1⟩
    rw [live_truth, bAt_drop]
    unfold EG.live EG.since
    rw [tAt_drop, xAt_drop]
    show _ = (⟨_, _, b2i (bAt (rowTS g.W (x, t)) (g.told + i)) == 1⟩ : VD)
    cases bAt (rowTS g.W (x, t)) (g.told + i) <;> rfl
  · unfold EG.next1
    rw [if_neg hne]
    rfl
theorem tell_end {g : EG} (s : S1) : (g.tell g.live.length).nextV s = 2 := by
  unfold EG.nextV
  rw [if_neg]
  rintro ⟨h1, _⟩
  have : g.told + g.live.length < g.W.length := h1
  unfold EG.live at this
  rw [List.length_drop] at this
  omega
theorem tell_zero (g : EG) : g.tell 0 = g := rfl
theorem lives_raise (g : EG) (m : Int) (s : S1) : (g.raise1 m).lives s = g.lives s := by
  unfold EG.lives EG.live EG.since
  rw [EG.raise1_W, EG.raise1_S, EG.raise1_told]
theorem live_raise (g : EG) (m : Int) : (g.raise1 m).live = g.live := by unfold EG.live; rw [EG.raise1_W, EG.raise1_told]
theorem live_tell (g : EG) : (g.tell g.live.length).live = [] := by
  show g.W.drop (g.told + g.live.length) = []
  exact List.drop_eq_nil_of_le (by unfold EG.live; rw [List.length_drop]; omega)
theorem s_PutNil {w0 : World} {L : Nat → Prop} {w : World} {E : Nat} {x : Nd} {t : Tr} {far : Int} {g : EG} (h : EngS w0 L w E x t far g) (hbd : BndW g.W 800 800) (tm : Int) (htm : tm ≤ last63) (now : Int) :
    Calls Tryz.prog 14 #[.pointer (some ⟨E, 0, none⟩), .int .i64 tm, .slice none 0 0, .int .i64 now] w (SPut w0 L w E x t far g tm [] now) :=
  s_Put h hbd tm htm none 0 [] (Sl.none_ _ _) ⟨Nat.zero_le _, fun _ h => by cases h⟩ now
theorem vd_cells {W : World} {b off c i : Nat} {l : List VD} (h : Sl W 3 (some ⟨b, off, none⟩) l.length c (l.flatMap vdc)) (hi : i < l.length) {v : VD} (hv : l[i] = v) :
    b < W.heap.size ∧ W.cell? ⟨b, off + i * 3, none⟩ = some (.int .i64 v.at_) ∧ W.cell? ⟨b, off + i * 3 + 1, none⟩ = some (.int .i64 v.since) ∧ W.cell? ⟨b, off + i * 3 + 2, none⟩ = some (.bool v.yes) := by
  obtain ⟨b', off', hA, hb, hc⟩ := Sl.row (size := 3) vdc_len h hi
  simp only [Option.some.injEq, Addr.mk.injEq, and_true] at hA
  obtain ⟨rfl, rfl⟩ := hA
  rw [hv] at hc
  exact ⟨hb, by simpa using hc 0 _ rfl, by simpa [Nat.add_assoc] using hc 1 _ rfl, by simpa [Nat.add_assoc] using hc 2 _ rfl⟩
set_option maxRecDepth 100000 in
set_option maxHeartbeats 16000000 in
theorem law_EngineAll (w : World) (x : Nd) (B : Option Addr) (d : Nat) (ks : Fo) (hs : FoSl w.heap.size w B d ks) (hx : NdOk x) (hk : ks.tr.ok) (hv : ShVar w) (htv : ThVar w) (A : Option Addr) (c : Nat) (al : List Ac) (h : ASl w A c al) (h63 : ∀ a ∈ al, a.t ≤ last63 ∧ a.n ≤ last63) :
    Calls Tryz.prog 6 #[fval x B ks.len d, .slice A al.length c] w fun e w' => e = .returned (.bool true) ∧ Fr Nob w w' := by
  have H63 := Lib.hid h63
  clear h63
  obtain ⟨bf, hbf⟩ : ∃ bf : Bool, (bf = true ↔ FewA al) := by classical exact ⟨decide (FewA al), by simp⟩
  have HBF := Lib.hid hbf.1
  have HAW := Lib.hid (fun W (hf : Fr Nob w W) => l23_awake W (hv.fr hf) (htv.fr hf))
  have HLF := Lib.hid (fun W (hf : Fr Nob w W) => (show Calls Tryz.prog 9 #[fval x B ks.len d, .int .i64 50] W fun e w' => e = .returned (.int .i64 (left1 x ks.tr 50 : Nat)) ∧ Fr Nob W w' from l15_left 50 w.heap.size W x B d ks (by decide) (hs.fr hf)))
  have HFW := Lib.hid (fun W (hf : Fr Nob w W) => l23_few W A c al (h.pure hf) bf hbf)
  have HLP := Lib.hid (fun (h0 : 0 < left1 x ks.tr 50) => few_of (x := x) (ks := ks.tr) (n := 50) h0)
  have HNW := Lib.hid (fun (hL : Few x ks.tr 50) W (hf : Fr Nob w W) => (show Calls Tryz.prog 11 #[fval x B ks.len d] W (SNew W x ks.tr) from s_New W x B d ks ((hs.fr hf).mono hf.size) (by have := hL.size; omega) (hv.fr hf) hx hk hL.names))
  have HFO := Lib.hid (fun (hL : Few x ks.tr 50) (hg : firstW ((Tr.cons x ks.tr .nil).nodes 1) = 0) => (⟨hg, by have := hL.size; omega, hL.names⟩ : FOk x ks.tr))
  have HS := Lib.hid hs
  have HV := Lib.hid hv
  have HTV := Lib.hid htv
  have HA := Lib.hid h
  have HXO := Lib.hid hx
  have HKO := Lib.hid hk
  clear hs hv htv h hbf hx hk
  generalize left1 x ks.tr 50 = n0 at *
  unfold fval at *
  go_enter Tryz.func6, Tryz.ntmps6
  have HB0 := Lib.hid (show Blk (w.alloc (.cells #[.int .i64 x.op, .string x.name, .int .i64 x.cmp, .int .i64 x.val, .int .i64 x.lo, .int .i64 x.hi, .slice B ks.len d] 28)) w.heap.size 28 _ from Blk.new _ _ _)
  go_upto_region 6 with (first
    | ((go_at_call 8); (with_reducible refine (HAW.out _ ((Fr.refl _ _).alloc _)).mono ?_); rintro e w1 ⟨rfl, hf1⟩; have HF1 := Lib.hid (((Fr.refl Nob w).alloc _).call hf1 (fun _ h _ => h)); have HX1 := Lib.hid (HB0.out.fr hf1 (fun e => e)); have xc := HX1.out.cell; have xl := HX1.out.lt; clear hf1)
    | ((go_at_call 9); (with_reducible refine (HLF.out _ HF1.out).mono ?_); rintro e w2 ⟨rfl, hf2⟩; have HF2 := Lib.hid (HF1.out.call hf2 (fun _ h _ => h)); have HX2 := Lib.hid (HX1.out.fr hf2 (fun e => e)); clear hf2)
    | ((go_at_call 10); (with_reducible refine (HFW.out _ HF2.out).mono ?_); rintro e w3 ⟨rfl, rfl⟩)
    | fail)
  clear xc xl HX1 HF1 HB0 HAW HLF HFW
  have q0 := HX2.out.cell
  have q1 := HX2.out.lt
  by_cases hn : n0 = 0
  · subst hn
    go_wp2_with fail
    go_ret
    exact ⟨rfl, HF2.out⟩
  have hnI : ¬ (n0 : Int) ≤ 0 := by omega
  have hnI2 : (0 : Int) < n0 := by omega
  cases bf
  · skip
    go_wp2_with fail
    go_ret
    exact ⟨rfl, HF2.out⟩
  have HFA := Lib.hid (HBF.out rfl)
  have HL := Lib.hid (HLP.out (by omega))
  have HW3 := Lib.hid (HNW.out HL.out _ HF2.out)
  have HER : ∃ er, errH x ks.tr = er := ⟨_, rfl⟩
  obtain ⟨er, her⟩ := HER
  unfold SNew at HW3
  rw [her] at HW3
  replace her := Lib.hid her
  clear HNW HLP HBF hn
  go_upto_region 9 with (first
    | ((go_at_call 11); (with_reducible refine (HW3.out).mono ?_); rintro e w4 ⟨p, rfl, hf4, hnone, hsome⟩; have HNO := Lib.hid hnone; have HSO := Lib.hid hsome; have HF4 := Lib.hid hf4; clear hnone hsome hf4)
    | fail)
  clear q0 q1 hnI hnI2
  by_cases he0 : er = 0
  case neg =>
    obtain rfl := HNO.out he0
    have he1 : (er != 0) = true := by simpa using he0
    have HE1 := Lib.hid he0
    clear he0
    go_wp2_with fail
    go_ret
    exact ⟨rfl, HF2.out.call HF4.out (fun _ h _ => h)⟩
  subst he0
  obtain ⟨E, rfl, hg, h0, hI, hE⟩ := HSO.out rfl
  have HG := Lib.hid hg
  have HH0 := Lib.hid h0
  have HHI := Lib.hid hI
  have HE := Lib.hid hE
  have HFK := Lib.hid (HFO.out HL.out hg)
  have HV4 := Lib.hid (HV.out.fr HF2.out)
  have HT4 := Lib.hid (HTV.out.fr HF2.out)
  have HA4 := Lib.hid (HA.out.pure HF2.out)
  clear hg h0 hI hE HNO HSO HFO HW3
  go_wp2_with fail
  go_loopw [10] (fun iv wr => ∃ k : Nat, k ≤ al.length ∧ iv = .int .i64 k ∧ Hid (EngS w3 Nob wr E x ks.tr (far1 (x, ks.tr)) (EG.run (madeS x ks.tr) al k))) (fun iv _ => al.length - (RowKit.intOf iv).toNat)
  case atStart => exact ⟨0, Nat.zero_le _, rfl, HE⟩
  case round =>
    obtain ⟨k, hk, rfl, hE⟩ := hrel
    have h24 := HFA.out.1
    have hmax := HA4.out.sl.max
    unfold maxLen at hmax
    by_cases hlt : k < al.length
    · have hI : (k : Int) < al.length := by omega
      have hI3 : 0 ≤ (k : Int) := by omega
      obtain ⟨b, off, hA, hb, d0, d1, d2, d3⟩ := HA4.out.at_ hlt
      subst hA
      have HRS := Lib.hid (EG.run_succ (madeS x ks.tr) hlt)
      have HB8 := Lib.hid (EG.run_800 (madeS x ks.tr) HFA.out hk)
      have HOK := Lib.hid (HFA.out.2 _ (List.getElem_mem hlt))
      have H63A := Lib.hid (H63.out _ (List.getElem_mem hlt))
      have HAI := Lib.hid ((HA4.out.inn _ (List.getElem_mem hlt)).pure hE.out.fr)
      replace d0 := hE.out.cell d0
      replace d1 := hE.out.cell d1
      replace d2 := hE.out.cell d2
      replace d3 := hE.out.cell d3
      replace hb := Nat.lt_of_lt_of_le hb hE.out.fr.size
      generalize al[k] = a at *
      by_cases hd0 : a.do_ = 0
      · have HP := Lib.hid (fun W (hf : Fr Nob wr W) => s_Put (hE.out.pure hf) HB8.out a.t H63A.out.1 a.A a.c a.l (HAI.out.pure hf) HOK.out a.n)
        have HAC := Lib.hid (show EG.run (madeS x ks.tr) al (k + 1) = (EG.run (madeS x ks.tr) al k).put1 a.t a.l a.n by rw [HRS.out]; unfold EG.act; rw [if_pos hd0])
        have hd0b : (a.do_ == 0) = true := by simpa using hd0
        clear hd0 HRS
        go_wp2_with fail
        go_region_with ((go_at_call 14); (refine (HP.out _ (Fr.refl Nob _).drew).mono ?_); rintro e w5 ⟨rfl, hE5, -⟩; have HE5 := Lib.hid hE5; clear hE5)
        all_goals
          go_wp2_with fail
          go_roundw
          case rel => exact ⟨k + 1, by omega, by go_num, Lib.hid (by rw [HAC.out]; exact HE5.out)⟩
          case measure => simp [RowKit.intOf]; omega
      · have hd0b : (a.do_ == 0) = false := by simpa using hd0
        by_cases hd1 : a.do_ = 1
        · have HP := Lib.hid (s_Raise hE.out a.n H63A.out.2)
          have HAC := Lib.hid (show EG.run (madeS x ks.tr) al (k + 1) = (EG.run (madeS x ks.tr) al k).raise1 a.n by rw [HRS.out]; unfold EG.act; rw [if_neg hd0, if_pos hd1])
          have hd1b : (a.do_ == 1) = true := by simpa using hd1
          clear hd0 hd1 HRS
          go_wp2_with (first
            | ((go_at_call 16); (with_reducible refine (HP.out).mono ?_); rintro e w5 ⟨rfl, hE5, -⟩; have HE5 := Lib.hid hE5; clear hE5)
            | fail)
          go_roundw
          case rel => exact ⟨k + 1, by omega, by go_num, Lib.hid (by rw [HAC.out]; exact HE5.out)⟩
          case measure => simp [RowKit.intOf]; omega
        · have HP := Lib.hid (s_Next hE.out HB8.out HFK.out HV4.out HT4.out)
          have HAC := Lib.hid (show EG.run (madeS x ks.tr) al (k + 1) = (EG.run (madeS x ks.tr) al k).next1 (madeS x ks.tr) by rw [HRS.out]; unfold EG.act; rw [if_neg hd0, if_neg hd1])
          have hd1b : (a.do_ == 1) = false := by simpa using hd1
          clear hd0 hd1 HRS
          go_wp2_with (first
            | ((go_at_call 15); (with_reducible refine (HP.out).mono ?_); rintro e w5 ⟨⟨va, vs, vy, rfl, -⟩, hE5, -⟩; have HE5 := Lib.hid hE5; clear hE5)
            | fail)
          go_roundw
          case rel => exact ⟨k + 1, by omega, by go_num, Lib.hid (by rw [HAC.out]; exact HE5.out)⟩
          case measure => simp [RowKit.intOf]; omega
    · have hlt3 : ¬ (k : Int) < al.length := by omega
      obtain rfl : k = al.length := by omega
      go_wp2_with fail
      have hbd := EG.run_800 (madeS x ks.tr) HFA.out (Nat.le_refl al.length)
      have hb24 := EG.run_bnd (madeS x ks.tr) HFA.out (Nat.le_refl al.length)
      generalize EG.run (madeS x ks.tr) al al.length = g at *
      have hok := hE.out.ok
      have hokL := hok.raise1 (m := last63) (Int.le_refl _)
      have hmL := raise_last hok
      have HLV := Lib.hid (fun W (hf : Fr Nob wr W) => s_Live (hE.out.pure hf) hbd HFK.out HV4.out)
      have HTN := Lib.hid (fun i (hi : i < (g.lives (x, ks.tr)).length) => tell_next (x := x) (t := ks.tr) hokL hmL HG.out (i := i) (by rw [live_raise]; rw [lives_len] at hi; exact hi))
      have HTE := Lib.hid (tell_end (g := g.raise1 last63) (madeS x ks.tr))
      have HTL := Lib.hid (live_tell (g.raise1 last63))
      have hll : (g.lives (x, ks.tr)).length = g.live.length := lives_len _ _
      have HTM := Lib.hid (show ∀ i, ((g.raise1 last63).tell i).W = g.W from fun i => by show (g.raise1 last63).W = g.W; rw [EG.raise1_W])
      have HMM := Lib.hid (show ∀ i, ((g.raise1 last63).tell i).mark = last63 from fun i => hmL)
      rw [live_raise, ← hll] at HTE HTL
      simp only [lives_raise] at HTN
      have hl24 : (g.lives (x, ks.tr)).length ≤ 24 := by
        rw [hll]; unfold EG.live; rw [List.length_drop]; have := hb24.1; omega
      have HBD := Lib.hid hbd
      clear hbd hb24 hok hokL hmL hll
      have hT0 : (g.raise1 last63).tell 0 = g.raise1 last63 := rfl
      generalize g.lives (x, ks.tr) = lv at *
      go_upto_region 21 with (first
        | ((go_at_call 17); (with_reducible refine (HLV.out _ (Fr.refl _ _)).mono ?_); rintro e w5 ⟨A2, c2, rfl, hsl, hf5, hlo⟩; have HSL := Lib.hid hsl; have HE5 := Lib.hid (hE.out.more (L' := fun k => InB A2 k ∧ k < w5.heap.size) hf5 (fun k hk => .inr ⟨hlo k hk.1, hk.2⟩)); clear hsl hf5 hlo)
        | fail)
      have HSB := Lib.hid (fun W (hf : Fr (OffE w3 (fun k => InB A2 k ∧ k < w5.heap.size)) w5 W) => HSL.out.fr hf (fun b o e hn hS => hS.2 ⟨⟨o, e⟩, HSL.out.below b o e hn⟩))
      have hmax2 := HSL.out.max
      unfold maxLen at hmax2
      generalize (fun k => InB A2 k ∧ k < w5.heap.size) = LB at *
      have HRS := Lib.hid (s_Raise HE5.out 9223372036854775807 (Int.le_refl _))
      unfold SRaise at HRS
      rw [show g.raise1 9223372036854775807 = g.raise1 last63 from rfl] at HRS
      have HT0 := Lib.hid hT0
      clear hT0
      generalize g.raise1 last63 = gl at *
      go_upto_region 22 with (first
        | ((go_at_call 16); (with_reducible refine (HRS.out).mono ?_); rintro e w6 ⟨rfl, hE6, hf6⟩; have HE6 := Lib.hid hE6; have HF6 := Lib.hid hf6; clear hE6 hf6)
        | fail)
      clear hE HE5 HRS hmax hk hlt hlt3 h24
      go_wp2_with fail
      go_loopw [12] (fun iv wq => ∃ i : Nat, i ≤ lv.length ∧ iv = .int .i64 i ∧ Hid (EngS w3 LB wq E x ks.tr (far1 (x, ks.tr)) (gl.tell i)) ∧ Hid (Fr (OffE w3 LB) w5 wq)) (fun iv _ => lv.length - (RowKit.intOf iv).toNat)
      case atStart => exact ⟨0, Nat.zero_le _, rfl, Lib.hid (by rw [HT0.out]; exact HE6.out), HF6⟩
      case round =>
        obtain ⟨i, hi, rfl, hE7, hf7⟩ := hrel
        by_cases hlt : i < lv.length
        · have hI : (i : Int) < lv.length := by omega
          have hI3 : 0 ≤ (i : Int) := by omega
          have HNX := Lib.hid (s_Next hE7.out (by rw [HTM.out]; exact HBD.out) HFK.out HV4.out HT4.out)
          obtain ⟨t1, t2, t3⟩ := HTN.out i hlt
          obtain ⟨b, off, hA, hb, hc⟩ := Sl.row (size := 3) vdc_len (HSB.out _ hf7.out) hlt
          subst hA
          have hlv : lv[i] = ⟨tAt (gl.tell i).W (gl.tell i).told, xAt (gl.tell i).S (gl.tell i).told, (gl.tell i).nextV (madeS x ks.tr) == 1⟩ := by
            rw [List.getElem?_eq_getElem hlt] at t2; exact Option.some.inj t2
          unfold SNext at HNX
          rw [t3] at HNX
          simp only [if_neg t1] at HNX
          rw [show ((gl.tell i).nextV (madeS x ks.tr) != 2) = true by simpa using t1] at HNX
          have HLVI := Lib.hid hlv
          clear t1 t2 t3 hlv hc hb
          generalize tAt (gl.tell i).W (gl.tell i).told = va at *
          generalize xAt (gl.tell i).S (gl.tell i).told = vs at *
          generalize ((gl.tell i).nextV (madeS x ks.tr) == 1) = vy at *
          go_upto_region 26 with (first
            | ((go_at_call 15); (with_reducible refine (HNX.out).mono ?_); rintro e w8 ⟨⟨a8, s8, y8, rfl, h8⟩, hE8, hf8⟩; obtain ⟨rfl, rfl, rfl⟩ : a8 = va ∧ s8 = vs ∧ y8 = vy := (by simpa using h8); have HE8 := Lib.hid hE8; have HF8 := Lib.hid (hf7.out.call hf8 (fun _ h _ => h)); clear h8 hE8 hf8)
            | fail)
          obtain ⟨hb8, hc0, hc1, hc2⟩ := vd_cells (HSB.out _ HF8.out) hlt HLVI.out
          obtain ⟨W8, hW8⟩ : ∃ W, w8.alloc (.cells #[.int .i64 a8, .int .i64 s8, .bool y8] 50) = W := ⟨_, rfl⟩
          have HFA8 := Lib.hid (show Fr Nob w8 W8 by rw [← hW8]; exact (Fr.refl _ _).alloc _)
          have HVB := Lib.hid (show Blk W8 w8.heap.size 50 #[.int .i64 a8, .int .i64 s8, .bool y8] by rw [← hW8]; exact Blk.new _ _ _)
          have vc := HVB.out.cell
          have vl := HVB.out.lt
          replace hc0 := HFA8.out.cell hc0 (fun e => e)
          replace hc1 := HFA8.out.cell hc1 (fun e => e)
          replace hc2 := HFA8.out.cell hc2 (fun e => e)
          replace hb8 := Nat.lt_of_lt_of_le hb8 HFA8.out.size
          rw [hW8]
          clear hW8
          generalize w8.heap.size = vb at *
          go_wp2_with fail
          go_quiet (fail)
          go_wp2_with fail
          go_roundw
          case rel => exact ⟨i + 1, by omega, by go_num, Lib.hid (HE8.out.pure (HFA8.out.drewN _)), Lib.hid (HF8.out.call (HFA8.out.drewN _) (fun _ h _ => h.elim))⟩
          case measure => simp [RowKit.intOf]; omega
        · have hlt3 : ¬ (i : Int) < lv.length := by omega
          obtain rfl : i = lv.length := by omega
          have HNX := Lib.hid (s_Next hE7.out (by rw [HTM.out]; exact HBD.out) HFK.out HV4.out HT4.out)
          unfold SNext at HNX
          rw [HTE.out] at HNX
          have hn1 : (gl.tell lv.length).next1 (madeS x ks.tr) = gl.tell lv.length := by unfold EG.next1; rw [if_pos HTE.out]
          rw [hn1] at HNX
          clear hn1
          have hbd := HBD.out
          rw [← HTM.out lv.length] at hbd
          replace HBD := Lib.hid hbd
          have HME := Lib.hid (HMM.out lv.length)
          have HLE := Lib.hid (show (gl.tell lv.length).lives (x, ks.tr) = [] by
            have := lives_len (gl.tell lv.length) (x, ks.tr)
            rw [HTL.out] at this
            exact List.length_eq_zero_iff.1 this)
          clear hbd HTM HMM HTE HTL HTN
          generalize gl.tell lv.length = g9 at *
          have hmay : g9.may 9223372036854775807 [] = false := by
            have := HME.out
            unfold EG.may; rw [this]; rfl
          have HMY := Lib.hid hmay
          have HMP := Lib.hid (show g9.put1 9223372036854775807 [] 0 = g9 by unfold EG.put1; rw [hmay]; rfl)
          clear hmay
          go_upto_region 30 with (first
            | ((go_at_call 15); (with_reducible refine (HNX.out).mono ?_); rintro e w8 ⟨⟨a8, s8, y8, rfl, -⟩, hE8, -⟩; have HE8 := Lib.hid (hE8.pure ((Fr.refl Nob w8).alloc (.cells #[.int .i64 a8, .int .i64 s8, .bool y8] 50))); have HPU := Lib.hid (s_PutNil HE8.out HBD.out 9223372036854775807 (Int.le_refl _) 0); unfold SPut at HPU; rw [HMY.out, HMP.out] at HPU; clear hE8)
            | ((go_at_call 14); (with_reducible refine (HPU.out).mono ?_); rintro e w9 ⟨rfl, hE9, -⟩; have HE9 := Lib.hid hE9; have HLV9 := Lib.hid (s_Live hE9 HBD.out HFK.out HV4.out); unfold LiveR at HLV9; rw [HLE.out] at HLV9; simp only [List.length_nil] at HLV9; clear hE9)
            | fail)
          go_wp2_with (first
            | ((go_at_call 17); (with_reducible refine (HLV9.out).mono ?_); rintro e w10 ⟨A9, c9, rfl, -, hf10, -⟩; have HF10 := Lib.hid (HE9.out.fr.call hf10 (fun _ h _ => h)); clear hf10)
            | fail)
          go_ret
          exact ⟨rfl, HF2.out.call HF10.out (fun _ h _ => h)⟩
end Go.Proofs.YtoegdmpmagbaiaaGreatDoor
